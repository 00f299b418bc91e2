/- A part of the proof, merged from several texts. -/
import Derived.Test.YtalfffamppmooaaGreatDoorPM
import Derived.Test.YtalfffamppmooaaGreatDoorRM
import Derived.Test.YtalfffamppmooaaGreatDoorSxMc
namespace Go.Proofs.YtalfffamppmooaaGreatDoor
open Go.RowKit
set_option maxRecDepth 100000
def aS : ByteArray := ⟨#[47, 97]⟩
structure ROp where
 kind : Int
 zx : Int
 se : Int
 l : List RC
structure SmO (o : ROp) : Prop where
 len : o.l.length ≤ 2000000
 path : ∀ c ∈ o.l, c.path.size ≤ maxZ
def fewN (l : List ROp) : Nat := (l.map fun o => o.l.length + 1).sum
theorem few_len : ∀ (l : List ROp), l.length ≤ fewN l
 | [] => by simp
 | o :: l => by
  have := few_len l
  unfold fewN at *
  rw [List.map_cons, List.sum_cons, List.length_cons]; omega
end Go.Proofs.YtalfffamppmooaaGreatDoor
namespace Go.Proofs.YtalfffamppmooaaGreatDoor
open Go.RowKit
set_option maxRecDepth 100000
structure SmS (l : List ROp) : Prop where
 few : fewN l ≤ 2000000
 ops : ∀ o ∈ l, SmO o
theorem SmS.len {l : List ROp} (_ : SmS l) (hf : fewN l ≤ 300) : l.length ≤ 1000000 := by have := few_len l; omega
end Go.Proofs.YtalfffamppmooaaGreatDoor
namespace Go.Proofs.YtalfffamppmooaaGreatDoor
open Go.RowKit
def chSp : List Sp := [.i .i64, .s, .s, .i .i64, .b, .b]
theorem ch_of {r : List G} (h : TyL chSp r) : ∃ c : RC, r = enC c ∧ c.path.size + 1 ≤ bulkR r := by
 obtain ⟨a0, r, rfl, -, h⟩ := h.i_inv
 obtain ⟨a1, r, rfl, -, h⟩ := h.s_inv
 obtain ⟨a2, r, rfl, -, h⟩ := h.s_inv
 obtain ⟨a3, r, rfl, -, h⟩ := h.i_inv
 obtain ⟨a4, r, rfl, -, h⟩ := h.b_inv
 obtain ⟨a5, r, rfl, -, h⟩ := h.b_inv
 obtain rfl := h.nil_inv
 exact ⟨⟨a0, a1, a2, a3, a4, a5⟩, rfl, by simp only [bulkR, bulkG]; omega⟩
theorem rows_len {rows : List (List G)} (h : ∀ r ∈ rows, 1 ≤ bulkR r) : rows.length ≤ bulkRs rows := by
 induction rows with
 | nil => simp
 | cons r rows ih =>
  have h1 := h r (by simp)
  have h2 := ih fun x hx => h x (by simp [hx])
  simp only [bulkRs, List.length_cons]
  omega
theorem chs_of {rows : List (List G)} (h : ∀ r ∈ rows, TyL chSp r) : ∃ l : List RC, rows = l.map enC ∧ l.length ≤ bulkRs rows ∧ ∀ c ∈ l, c.path.size ≤ bulkRs rows := by
 obtain ⟨l, rfl, hq⟩ := rows_of (f := enC) (Q := fun c => c.path.size + 1 ≤ bulkR (enC c)) fun r hr => by
  obtain ⟨c, rfl, hc⟩ := ch_of (h r hr)
  exact ⟨c, rfl, hc⟩
 refine ⟨l, rfl, ?_, fun c hc => ?_⟩
 ·have := rows_len (rows := l.map enC) fun r hr => by
   obtain ⟨c, hc, rfl⟩ := List.mem_map.1 hr
   have := hq c hc; omega
  simpa using this
 ·have h1 := hq c hc
  have h2 := bulkRs_le (List.mem_map_of_mem (f := enC) hc)
  omega
end Go.Proofs.YtalfffamppmooaaGreatDoor

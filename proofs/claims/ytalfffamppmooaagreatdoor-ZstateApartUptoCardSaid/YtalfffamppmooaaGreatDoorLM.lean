/- A part of the proof, merged from several texts. -/
import Derived.Test.YtalfffamppmooaaGreatDoorPM
import Derived.Test.YtalfffamppmooaaGreatDoorRM
import Derived.Test.YtalfffamppmooaaGreatDoorSxMc
namespace Go.Proofs.YtalfffamppmooaaGreatDoor
open Go.RowKit
set_option maxRecDepth 100000
def aS : ByteArray := ⟨#[47, 97]⟩
theorem allC {m : Mp} {T : List RZ} (h : TM m T) (hw : Wz T) : FnO Tryz.prog 47 [.ptr 0 0] (cP m) fun g rs => ∃ l', (l' = m ∧ g = gT T) ∧ rs = cP l' :=
 tree_lift (all_o h hw) rfl rfl fun g l' hq => by rw [hq.2]; rfl
structure ROp where
 kind : Int
 zx : Int
 se : Int
 l : List RC
structure SmO (o : ROp) : Prop where
 len : o.l.length ≤ 2000000
 path : ∀ c ∈ o.l, c.path.size ≤ maxZ
theorem run_lens {zx se : Int} : ∀ (l : List RC) (a : RAns), (runZ zx se l a).ps.length ≤ a.ps.length + l.length ∧ (runZ zx se l a).ev.length ≤ a.ev.length + 2 * l.length
 | [], a => by simp [runZ]
 | c :: l, a => by
  unfold runZ
  split
  ·obtain ⟨h1, h2⟩ := run_lens (zx := zx) (se := se) l ⟨(oneZ a.t zx se c).t, a.ps ++ [(oneZ a.t zx se c).path], a.ev ++ (oneZ a.t zx se c).ev, 0⟩
   have h3 := one_ev a.t zx se c
   simp only [List.length_append, List.length_cons, List.length_nil] at h1 h2 ⊢
   omega
  ·simp
theorem do_lens (T : List RZ) (zx se : Int) (l : List RC) : (doZ T zx se l).ps.length ≤ l.length ∧ (doZ T zx se l).ev.length ≤ 2 * l.length := by
 unfold doZ
 split
 ·split
  ·have := run_lens (zx := zx) (se := se) l ⟨T, [], [], 0⟩
   simpa using this
  ·simp
 ·simp
theorem endL_len (zx : Int) : ∀ (l : List ByteArray) (a : List RZ × List RE), (endL zx l a).2.length = a.2.length + 2 * l.length
 | [], a => by simp [endL]
 | p :: l, a => by
  unfold endL
  rw [endL_len zx l]
  have : (removeZ a.1 zx p).ev.length = 2 := rfl
  simp only [List.length_append, List.length_cons]
  omega
theorem end_len {T : List RZ} (h : Wz T) (zx se : Int) : (endZ T zx se).2.length ≤ 400 := by
 unfold endZ
 split
 ·rw [endL_len]
  have := owned_len h se
  simp; omega
 ·simp
def fewN (l : List ROp) : Nat := (l.map fun o => o.l.length + 1).sum
theorem few_len : ∀ (l : List ROp), l.length ≤ fewN l
 | [] => by simp
 | o :: l => by
  have := few_len l
  unfold fewN at *
  rw [List.map_cons, List.sum_cons, List.length_cons]; omega
end Go.Proofs.YtalfffamppmooaaGreatDoor
namespace Go.Proofs.YtalfffamppmooaaGreatDoor
open Go.RowKit
set_option maxRecDepth 100000
structure SmS (l : List ROp) : Prop where
 few : fewN l ≤ 2000000
 ops : ∀ o ∈ l, SmO o
theorem SmS.len {l : List ROp} (_ : SmS l) (hf : fewN l ≤ 300) : l.length ≤ 1000000 := by have := few_len l; omega
end Go.Proofs.YtalfffamppmooaaGreatDoor
namespace Go.Proofs.YtalfffamppmooaaGreatDoor
open Go.RowKit
def chSp : List Sp := [.i .i64, .s, .s, .i .i64, .b, .b]
theorem ch_of {r : List G} (h : TyL chSp r) : ∃ c : RC, r = enC c ∧ c.path.size + 1 ≤ bulkR r := by
 obtain ⟨a0, r, rfl, -, h⟩ := h.i_inv
 obtain ⟨a1, r, rfl, -, h⟩ := h.s_inv
 obtain ⟨a2, r, rfl, -, h⟩ := h.s_inv
 obtain ⟨a3, r, rfl, -, h⟩ := h.i_inv
 obtain ⟨a4, r, rfl, -, h⟩ := h.b_inv
 obtain ⟨a5, r, rfl, -, h⟩ := h.b_inv
 obtain rfl := h.nil_inv
 exact ⟨⟨a0, a1, a2, a3, a4, a5⟩, rfl, by simp only [bulkR, bulkG]; omega⟩
theorem rows_len {rows : List (List G)} (h : ∀ r ∈ rows, 1 ≤ bulkR r) : rows.length ≤ bulkRs rows := by
 induction rows with
 | nil => simp
 | cons r rows ih =>
  have h1 := h r (by simp)
  have h2 := ih fun x hx => h x (by simp [hx])
  simp only [bulkRs, List.length_cons]
  omega
theorem chs_of {rows : List (List G)} (h : ∀ r ∈ rows, TyL chSp r) : ∃ l : List RC, rows = l.map enC ∧ l.length ≤ bulkRs rows ∧ ∀ c ∈ l, c.path.size ≤ bulkRs rows := by
 obtain ⟨l, rfl, hq⟩ := rows_of (f := enC) (Q := fun c => c.path.size + 1 ≤ bulkR (enC c)) fun r hr => by
  obtain ⟨c, rfl, hc⟩ := ch_of (h r hr)
  exact ⟨c, rfl, hc⟩
 refine ⟨l, rfl, ?_, fun c hc => ?_⟩
 ·have := rows_len (rows := l.map enC) fun r hr => by
   obtain ⟨c, hc, rfl⟩ := List.mem_map.1 hr
   have := hq c hc; omega
  simpa using this
 ·have h1 := hq c hc
  have h2 := bulkRs_le (List.mem_map_of_mem (f := enC) hc)
  omega
end Go.Proofs.YtalfffamppmooaaGreatDoor

/- A part of the proof. -/
import Derived.Test.YtalfffamppmooaaGreatDoorZZSl
import Derived.Test.YtalfffamppmooaaGreatDoorLM
namespace Go.Proofs.YtalfffamppmooaaGreatDoor
open Go.RowKit
def txSp : List Sp := [.i .i64, .i .i64, .i .i64, .i .i64, .i .i64, .sl chSp]
def zosSp : List Sp := .i .i64 :: txSp
theorem tx_of {r : List G} (h : TyL txSp r) (hb : bulkR r ≤ 1048576) : ∃ t : RT, r = enT t ∧ SmT11 t ∧ 1 ≤ bulkR r := by
 obtain ⟨a0, r, rfl, -, h⟩ := h.i_inv
 obtain ⟨a1, r, rfl, -, h⟩ := h.i_inv
 obtain ⟨a2, r, rfl, -, h⟩ := h.i_inv
 obtain ⟨a3, r, rfl, -, h⟩ := h.i_inv
 obtain ⟨a4, r, rfl, -, h⟩ := h.i_inv
 obtain ⟨rows, r, rfl, -, hr, h⟩ := h.sl_inv
 obtain rfl := h.nil_inv
 obtain ⟨l, rfl, h1, h2⟩ := chs_of hr
 simp only [bulkR, bulkG] at hb
 exact ⟨⟨a0, a1, a2, a3, a4, l⟩, rfl, ⟨by show l.length ≤ _; omega, fun c hc => by have := h2 c hc; unfold maxZ; omega⟩, by simp only [bulkR, bulkG]; omega⟩
theorem zos_of {r : List G} (h : TyL zosSp r) (hb : bulkR r ≤ 1048576) : ∃ o : ROS, r = enOS o ∧ SmT11 o.t ∧ 1 ≤ bulkR r := by
 obtain ⟨a0, r, rfl, -, h⟩ := h.i_inv
 obtain ⟨t, rfl, h1, h2⟩ := tx_of h (by simp only [bulkR] at hb; omega)
 exact ⟨⟨a0, t⟩, rfl, h1, by simp only [bulkR]; omega⟩
theorem zoss_of {g : G} (h : TyL [.sl zosSp] [g]) (hb : bulkG g ≤ 1048576) : ∃ l : List ROS, g = .sl (l.map enOS) ∧ SmS11 l := by
 obtain ⟨rows, r, e, -, hr, h⟩ := h.sl_inv
 obtain rfl := h.nil_inv
 have e : g = .sl rows := by simpa using e
 subst e
 simp only [bulkG] at hb
 obtain ⟨l, rfl, hq⟩ := rows_of (f := enOS) (Q := fun o => SmT11 o.t ∧ 1 ≤ bulkR (enOS o)) fun r h => by
  obtain ⟨o, rfl, ho⟩ := zos_of (hr r h) (by have := bulkRs_le h; omega)
  exact ⟨o, rfl, ho⟩
 refine ⟨l, rfl, ?_, fun o ho => (hq o ho).1⟩
 have := rows_len (rows := l.map enOS) fun r hr => by
  obtain ⟨c, hc, rfl⟩ := List.mem_map.1 hr
  exact (hq c hc).2
 rw [List.length_map] at this
 omega
end Go.Proofs.YtalfffamppmooaaGreatDoor

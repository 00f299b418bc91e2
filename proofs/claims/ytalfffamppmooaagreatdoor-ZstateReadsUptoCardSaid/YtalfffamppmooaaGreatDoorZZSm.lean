/- A part of the proof. -/
import Derived.Test.YtalfffamppmooaaGreatDoorZZSk
import Derived.Test.YtalfffamppmooaaGreatDoorLM
namespace Go.Proofs.YtalfffamppmooaaGreatDoor
open Go.RowKit
def txSp : List Sp := [.i .i64, .i .i64, .i .i64, .i .i64, .i .i64, .sl chSp]
theorem tx_of {r : List G} (h : TyL txSp r) (hb : bulkR r ≤ 1048576) : ∃ t : RT, r = enT t ∧ SmT11 t ∧ 1 ≤ bulkR r := by
 obtain ⟨a0, r, rfl, -, h⟩ := h.i_inv
 obtain ⟨a1, r, rfl, -, h⟩ := h.i_inv
 obtain ⟨a2, r, rfl, -, h⟩ := h.i_inv
 obtain ⟨a3, r, rfl, -, h⟩ := h.i_inv
 obtain ⟨a4, r, rfl, -, h⟩ := h.i_inv
 obtain ⟨rows, r, rfl, -, hr, h⟩ := h.sl_inv
 obtain rfl := h.nil_inv
 obtain ⟨l, rfl, h1, h2⟩ := chs_of hr
 simp only [bulkR, bulkG] at hb
 exact ⟨⟨a0, a1, a2, a3, a4, l⟩, rfl, ⟨by show l.length ≤ _; omega, fun c hc => by have := h2 c hc; unfold maxZ; omega⟩, by simp only [bulkR, bulkG]; omega⟩
end Go.Proofs.YtalfffamppmooaaGreatDoor

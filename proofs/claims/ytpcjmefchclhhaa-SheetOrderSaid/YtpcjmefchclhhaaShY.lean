/- A script on a new sheet, and on the reference's, from a law's beginning on. -/
import Derived.Test.YtpcjmefchclhhaaShX
import Derived.Test.YtpcjmefchclhhaaShV
namespace Go.Proofs.Ytpcjmefchclhhaa
open Go.RowKit Go.MapKept

theorem rsh_new (w : World) : RSh w (.agg #[.slice none 0 0, .slice none 0 0]) [] [] :=
  ⟨⟨none, 0, none, 0, rfl, Rd.nil _ _ _ _ _, Rd.nil _ _ _ _ _, by simp, by simp, by simp, by simp, Tag.none _ _⟩, by simp, by simp, by simp⟩

/-- What plays leaves, from a law's beginning on. -/
structure Played (W w' : World) (b m : Nat) (e : Ending) : Prop where
  out : ∃ (A : Option Addr) (c : Nat) (A' : Option Addr) (c' size' : Nat) (bl' : List (Nat × List UInt8)) (B' : List UInt8) (On' : List Nat),
    e = .returned (.tuple #[.agg #[.slice A B'.length c, .slice A' On'.length c'], .bool true]) ∧ Raw w' b m size' bl' ∧ RSh w' (.agg #[.slice A B'.length c, .slice A' On'.length c']) B' On' ∧ SameS size' bl' B' On' ∧ Below W.heap.size W w'

theorem play_new {l : List (OpR × Option Addr × Nat)} {A0 : Option Addr} {c0 : Nat} {W w1 : World} (hm0 : l.length ≤ maxLen) (rd0 : Rd W W.heap.size 4 opC A0 l) (hq : ∀ y ∈ l, opQ W y) {b m : Nat} (hb : W.heap.size ≤ b) (hm : W.heap.size ≤ m) (hR : Raw w1 b m 0 []) (hB : Below W.heap.size W w1)
    {w2 : World} (h2 : Below w1.heap.size w1 w2) :
    Calls Try.prog 16 #[.pointer (some ⟨b, 0, none⟩), .agg #[.slice none 0 0, .slice none 0 0], .slice A0 l.length c0] w2 fun e w' => Played W w' b m e := by
  have hB2 : Below W.heap.size W w2 := hB.trans (h2.mono hB.size)
  refine (plays_any (hR.below h2) (rsh_new w2) sameS_new l A0 c0 W.heap.size hb hm hm0 (rd0.below hB2) (fun y hy => ?_)).mono fun e w' ⟨v', size', bl', B', On', he, h3, h4, h5, h6⟩ => ?_
  · obtain ⟨q1, q2, q3, _⟩ := hq y hy
    exact ⟨q1, q2, q3.below hB2⟩
  · obtain ⟨A, c, A', c', rfl⟩ := h4.cells
    exact ⟨A, c, A', c', size', bl', B', On', he, h3, h4, h5, Frm.below h6 hB2 hB2.size (by simp; omega)⟩
end Go.Proofs.Ytpcjmefchclhhaa

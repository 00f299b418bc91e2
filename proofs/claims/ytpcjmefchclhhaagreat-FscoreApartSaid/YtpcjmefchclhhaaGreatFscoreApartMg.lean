/- A part of the proof. -/
import Derived.Test.YtpcjmefchclhhaaGreatRows
import Derived.Test.YtpcjmefchclhhaaGreatQM4
namespace Go.Proofs.YtpcjmefchclhhaaGreat
open Go.ChangeShapes Go.WideShapes Go.ChangeAt Go.RowKit
set_option maxRecDepth 100000 in
theorem fscoreApart_given (W : World) (args : Array Value) (h : Given W Tryz.f7 args) :
  Calls Tryz.prog 7 args W fun e W' => e = .returned (.bool true) ∧ Below W.heap.size W W' := by
 obtain ⟨⟨H, enc, ds, p, hA, hwt⟩, base, hval⟩ := h
 rw [Tryz.params7] at hA hval
 obtain ⟨v0, vs0, d0, ds0, p0, q0, hargs, rfl, rfl, h0, r0⟩ := trodAll_cons hA
 obtain ⟨v1, vs1, d1, ds1, p1, q1, rfl, rfl, rfl, h1, r1⟩ := trodAll_cons r0
 obtain ⟨rfl, rfl, rfl⟩ := trodAll_nil r1
 obtain rfl : args = #[v0, v1] := by cases args; simp_all
 obtain ⟨g0, t0, y0⟩ := arg_one (sp := .sl opSp) (by kernel_rfl) (by kernel_rfl) (hval 0 _ v0 rfl rfl) h0
 obtain ⟨l, rfl, hl⟩ := ops_of t0
 obtain ⟨g1, t1, y1⟩ := arg_one (sp := .sl opSp) (by kernel_rfl) (by kernel_rfl) (hval 1 _ v1 rfl rfl) h1
 obtain ⟨m, rfl, hm⟩ := ops_of t1
 exact given_v (fscoreApart_v l hl m hm) (.cons y0 (.cons y1 .nil))
theorem fscoreApart_lifted (os : Go.Os) (started : os.Started) (H : Type) (enc : TypeId × Value → H) :
  ReturnsInHanded {} Tryz.checked os 7 .any (Rows.fscoreApartSpec.pre6 enc Tryz.prog Tryz.f7 Rows.fscoreApartRow.domain false) (Rows.fscoreApartSpec.post enc Tryz.prog Tryz.f7 false true false false) :=
 law_lifted (s := Rows.fscoreApartSpec) os started H enc (by kernel_rfl) Tryz.func7 rfl (by kernel_rfl)
  (by rw [Tryz.params7]; intro t ht; simp at ht; rcases ht with rfl | rfl <;> exact ⟨by kernel_rfl, of_decide_eq_true (by kernel_rfl)⟩)
  (by rw [Tryz.params7]; intro ds hd; match ds, hd with | [x0, x1], _ => exact ⟨rfl, rfl, rfl⟩)
  (ChangeSpec.witness6 (enc := enc) (C := Tryz.checked) false ⟨#[], #[.slice none 0 0, .slice none 0 0], []⟩ 8 (by kernel_rfl) (by kernel_rfl) (by kernel_rfl) (by kernel_rfl))
  fscoreApart_given
theorem fscoreApart_holds : Rows.FscoreApartSaid :=
 OpenClaim.holds_of_wide 7 Tryz.f7 rfl rfl rfl rfl rfl rfl rfl ⟨rfl, rfl, rfl, rfl, rfl⟩ rfl rfl rfl rfl rfl (by kernel_rfl) Tryz.func7 (by kernel_rfl)
  (of_decide_eq_true (by kernel_rfl)) (by unfold Func.isWrapper; first | (rw [if_pos (by decide +kernel)]; kernel_rfl) | (rw [if_neg (by decide +kernel)]; exact ⟨rfl, rfl⟩))
  (fun os started H enc _ => fscoreApart_lifted os started H enc)
#print axioms fscoreApart_holds
end Go.Proofs.YtpcjmefchclhhaaGreat

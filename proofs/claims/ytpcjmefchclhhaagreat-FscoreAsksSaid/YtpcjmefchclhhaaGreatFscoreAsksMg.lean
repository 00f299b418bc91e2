/- A part of the proof. -/
import Derived.Test.YtpcjmefchclhhaaGreatRows
import Derived.Test.YtpcjmefchclhhaaGreatQM2
namespace Go.Proofs.YtpcjmefchclhhaaGreat
open Go.ChangeShapes Go.WideShapes Go.ChangeAt Go.RowKit
set_option maxRecDepth 100000 in
theorem fscoreAsks_given (W : World) (args : Array Value) (h : Given W Tryz.f3 args) :
  Calls Tryz.prog 3 args W fun e W' => e = .returned (.bool true) ∧ Below W.heap.size W W' := by
 obtain ⟨⟨H, enc, ds, p, hA, hwt⟩, base, hval⟩ := h
 rw [Tryz.params3] at hA hval
 obtain ⟨v0, vs0, d0, ds0, p0, q0, hargs, rfl, rfl, h0, r0⟩ := trodAll_cons hA
 obtain ⟨v1, vs1, d1, ds1, p1, q1, rfl, rfl, rfl, h1, r1⟩ := trodAll_cons r0
 obtain ⟨v2, vs2, d2, ds2, p2, q2, rfl, rfl, rfl, h2, r2⟩ := trodAll_cons r1
 obtain ⟨rfl, rfl, rfl⟩ := trodAll_nil r2
 obtain rfl : args = #[v0, v1, v2] := by cases args; simp_all
 obtain ⟨g0, t0, y0⟩ := arg_one (sp := .sl opSp) (by kernel_rfl) (by kernel_rfl) (hval 0 _ v0 rfl rfl) h0
 obtain ⟨l, rfl, hl⟩ := ops_of t0
 obtain ⟨g1, t1, y1⟩ := arg_agg (sh := [.i .i64, .i .i64]) (by kernel_rfl) (by kernel_rfl) (hval 1 _ v1 rfl rfl) h1
 obtain ⟨k, rfl⟩ := hnd_of t1
 obtain ⟨g2, t2, y2⟩ := arg_one (sp := .s) (by kernel_rfl) (by kernel_rfl) (hval 2 _ v2 rfl rfl) h2
 obtain ⟨s, rfl, hs⟩ := str_of t2
 exact given_v (fscoreAsks_v l hl k s hs) (.cons y0 (.cons y1 (.cons y2 .nil)))
theorem fscoreAsks_lifted (os : Go.Os) (started : os.Started) (H : Type) (enc : TypeId × Value → H) :
  ReturnsInHanded {} Tryz.checked os 3 .any (Rows.fscoreAsksSpec.pre6 enc Tryz.prog Tryz.f3 Rows.fscoreAsksRow.domain false) (Rows.fscoreAsksSpec.post enc Tryz.prog Tryz.f3 false true false false) :=
 law_lifted (s := Rows.fscoreAsksSpec) os started H enc (by kernel_rfl) Tryz.func3 rfl (by kernel_rfl)
  (by rw [Tryz.params3]; intro t ht; simp at ht; rcases ht with rfl | rfl | rfl <;> exact ⟨by kernel_rfl, of_decide_eq_true (by kernel_rfl)⟩)
  (by rw [Tryz.params3]; intro ds hd; match ds, hd with | [x0, x1, x2], _ => exact ⟨rfl, rfl, rfl⟩)
  (ChangeSpec.witness6 (enc := enc) (C := Tryz.checked) false ⟨#[], #[.slice none 0 0, .agg #[.int .i64 0, .int .i64 0], .string ⟨#[]⟩], []⟩ 8 (by kernel_rfl) (by kernel_rfl) (by kernel_rfl) (by kernel_rfl))
  fscoreAsks_given
theorem fscoreAsks_holds : Rows.FscoreAsksSaid :=
 OpenClaim.holds_of_wide 3 Tryz.f3 rfl rfl rfl rfl rfl rfl rfl ⟨rfl, rfl, rfl, rfl, rfl⟩ rfl rfl rfl rfl rfl (by kernel_rfl) Tryz.func3 (by kernel_rfl)
  (of_decide_eq_true (by kernel_rfl)) (by unfold Func.isWrapper; first | (rw [if_pos (by decide +kernel)]; kernel_rfl) | (rw [if_neg (by decide +kernel)]; exact ⟨rfl, rfl⟩))
  (fun os started H enc _ => fscoreAsks_lifted os started H enc)
#print axioms fscoreAsks_holds
end Go.Proofs.YtpcjmefchclhhaaGreat

/- ZstateTwice: a transaction that was done for a number is answered again as it was, with no events, and changes nothing but the zxid: for every input whose bulk is at most 1048576 the law returns true. No other condition. -/
import Derived.Test.YtalfffamppmooaaGreatDoorCards
import Derived.Test.YtalfffamppmooaaGreatDoorTie
import Derived.Test.YtalfffamppmooaaGreatDoorZZSm
import Derived.Test.YtalfffamppmooaaGreatDoorZZSo
import Derived.Test.YtalfffamppmooaaGreatDoorZLz
namespace Go.Proofs.YtalfffamppmooaaGreatDoor
open Go.ChangeShapes Go.WideShapes Go.ChangeAt Go.RowKit
set_option maxRecDepth 100000 in
theorem zstateTwice_given (W : World) (args : Array Value) (h : GivenU W Tryz.f4 args) :
  Calls Tryz.prog 4 args W fun e W' => e = .returned (.bool true) ∧ Below W.heap.size W W' := by
 obtain ⟨⟨H, enc, ds, p, hA, hk⟩, base, hval⟩ := h
 rw [Tryz.params4] at hA hval
 obtain ⟨v0, vs0, d0, ds0, p0, q0, hargs, rfl, rfl, h0, r0⟩ := trodAll_cons hA
 obtain ⟨v1, vs1, d1, ds1, p1, q1, rfl, rfl, rfl, h1, r1⟩ := trodAll_cons r0
 obtain ⟨rfl, rfl, rfl⟩ := trodAll_nil r1
 obtain rfl : args = #[v0, v1] := by cases args; simp_all
 simp only [Rows.uptoBulkAll] at hk
 obtain ⟨g0, t0, y0, b0⟩ := argB_one (sp := .sl zosSp) (by kernel_rfl) (by kernel_rfl) (hval 0 _ v0 rfl rfl) h0
 obtain ⟨l, rfl, hl⟩ := zoss_of t0 (by omega)
 obtain ⟨g1, t1, y1, b1⟩ := argB_agg (sh := txSp) (by kernel_rfl) (by kernel_rfl) (hval 1 _ v1 rfl rfl) h1
 obtain ⟨t, rfl, ht⟩ := ztx_of t1 (by omega)
 exact given_v (zstateTwice_v l hl t ht) (.cons y0 (.cons y1 .nil))
noncomputable def zstateTwice_world (os : Go.Os) : World := { (World.holding Tryz.prog os ⟨#[], #[], []⟩) with heap := (((World.holding Tryz.prog os ⟨#[], #[], []⟩).heap.modify 2 fun | .cells _ t frozen => .cells (tabCells Rows.laid_unicode_utf8_acceptRanges) t frozen | o => o).modify 1 fun | .cells _ t frozen => .cells (tabCells Go.Pinned.utf8First) t frozen | o => o) }
set_option maxRecDepth 100000 in
theorem zstateTwice_met (os : Go.Os) : laidMet Tryz.prog Rows.zstateTwiceUptoRow.laid ((zstateTwice_world os).forCall (fun _ _ => 0) ⟨#[], #[.slice none 0 0, .agg #[.int .i64 0, .int .i64 0, .int .i64 0, .int .i64 0, .int .i64 0, .slice none 0 0]], []⟩).memory :=
 laidMet_of_run' 8 (by kernel_rfl) (by kernel_rfl)
set_option maxRecDepth 100000 in
theorem zstateTwice_reads (os : Go.Os) {H : Type} (enc : TypeId × Value → H) : ∃ places, DataW.whole enc Tryz.prog ((zstateTwice_world os).forCall (fun _ _ => 0) ⟨#[], #[.slice none 0 0, .agg #[.int .i64 0, .int .i64 0, .int .i64 0, .int .i64 0, .int .i64 0, .slice none 0 0]], []⟩).memory Tryz.f4.params.toList Rows.zstateTwiceSpec.vars false (#[.slice none 0 0, .agg #[.int .i64 0, .int .i64 0, .int .i64 0, .int .i64 0, .int .i64 0, .slice none 0 0]] : Array Value).toList 8 = some ([.nil, .agg [.lit (.int .i64 0), .lit (.int .i64 0), .lit (.int .i64 0), .lit (.int .i64 0), .lit (.int .i64 0), .nil]], [], places) :=
 ⟨[], by kernel_rfl⟩
set_option maxRecDepth 100000 in
theorem zstateTwice_lifted (os : Go.Os) (started : os.Started) (H : Type) (enc : TypeId × Value → H) (St : Stop.Interp) :
  ReturnsInHanded {} Tryz.checked os 4 .any ((Rows.OpenSpec.upto Rows.zstateTwiceSpec).preRow enc Tryz.prog Tryz.f4 Rows.zstateTwiceUptoRow.domain false Rows.zstateTwiceUptoRow.laid) (((Rows.OpenSpec.upto Rows.zstateTwiceSpec).at St).post enc Tryz.prog Tryz.f4 false true false false) := by
 obtain ⟨places, hx⟩ := zstateTwice_reads os enc
 exact law_liftedU (s := Rows.zstateTwiceSpec) os started H enc St (by kernel_rfl) Tryz.func4 rfl (by kernel_rfl)
  (by rw [Tryz.params4]; intro t ht; simp at ht; rcases ht with rfl | rfl <;> exact ⟨by kernel_rfl, of_decide_eq_true (by kernel_rfl)⟩)
  (by rw [Tryz.params4]; intro ds hd; match ds, hd with | [x0, x1], _ => exact ⟨rfl, rfl, rfl⟩)
  (witness_row_at (enc := enc) (C := Tryz.checked) false (zstateTwice_world os) #[.slice none 0 0, .agg #[.int .i64 0, .int .i64 0, .int .i64 0, .int .i64 0, .int .i64 0, .slice none 0 0]] rfl (by kernel_rfl) (by kernel_rfl) (by kernel_rfl)
   (OpenSpec.preRow_of_cond 8 hx (by kernel_rfl) (fun k hk => by cases hk; kernel_rfl) (by kernel_rfl) (zstateTwice_met os)))
  zstateTwice_given
theorem zstateTwice_said : Rows.ZstateTwiceUptoSaid :=
 OpenClaim.holds_of_cond 4 Tryz.f4 rfl rfl rfl rfl rfl rfl rfl ⟨rfl, rfl, rfl, rfl, rfl⟩ rfl rfl rfl rfl rfl (by kernel_rfl) Tryz.func4 (by kernel_rfl)
  (of_decide_eq_true (by kernel_rfl)) (by unfold Func.isWrapper; first | (rw [if_pos (by decide +kernel)]; kernel_rfl) | (rw [if_neg (by decide +kernel)]; exact ⟨rfl, rfl⟩))
  (fun os started H enc _ St => by rw [OpenClaim.pre_eq_preRow]; exact zstateTwice_lifted os started H enc St)
set_option maxRecDepth 100000 in
theorem zstateTwice_plain (f : FuncId) (fn : Func) (hf : Tryz.pinned.checked.prog.funcNamed "harpsichord/harpsichordlaw11.ZstateTwice" = some f) (hfn : Tryz.pinned.checked.prog.funcs[f]? = some fn) :
  true = Tryz.pinned.checked.prog.looks [] ∧ ∀ (j : Nat) t, fn.params[j]? = some t → Tryz.pinned.checked.prog.wantsStandIn t = false := by
 obtain rfl : f = 4 := Option.some.inj ((show Tryz.prog.funcNamed "harpsichord/harpsichordlaw11.ZstateTwice" = some 4 by kernel_rfl).symm.trans hf) |>.symm
 obtain rfl : fn = Tryz.f4 := (Option.some.inj (Tryz.func4.symm.trans hfn)).symm
 refine ⟨by kernel_rfl, fun j t ht => ?_⟩
 rw [Tryz.params4] at ht
 have hm := Array.mem_of_getElem? ht
 simp at hm
 rcases hm with rfl | rfl <;> exact (show Tryz.prog.wantsStandIn _ = false by kernel_rfl)
theorem zstateTwice_holds : Rows.ZstateTwiceUptoCardSaid :=
 Claim7.holds_tied_plain_at .later [] _ _ _ _ zstateTwice_said (fun _ h => by cases h) (by kernel_rfl) (fun _ h => by cases h) zstateTwiceUpto_row_tie rfl ⟨rfl, rfl⟩ (by kernel_rfl) rfl zstateTwice_plain (by kernel_rfl)
#print axioms zstateTwice_holds
end Go.Proofs.YtalfffamppmooaaGreatDoor

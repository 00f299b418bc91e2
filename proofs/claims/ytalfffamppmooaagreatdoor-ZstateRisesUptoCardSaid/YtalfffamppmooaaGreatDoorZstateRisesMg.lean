/- ZstateRises: the zxid never falls, and a transaction whose zxid is not above it is refused and changes nothing: for every input whose bulk is at most 1048576 the law returns true. No other condition. -/
import Derived.Test.YtalfffamppmooaaGreatDoorCards
import Derived.Test.YtalfffamppmooaaGreatDoorTie
import Derived.Test.YtalfffamppmooaaGreatDoorZZSm
import Derived.Test.YtalfffamppmooaaGreatDoorZZSp
import Derived.Test.YtalfffamppmooaaGreatDoorZLz
namespace Go.Proofs.YtalfffamppmooaaGreatDoor
open Go.ChangeShapes Go.WideShapes Go.ChangeAt Go.RowKit
set_option maxRecDepth 100000 in
theorem zstateRises_given (W : World) (args : Array Value) (h : GivenU W Tryz.f5 args) :
  Calls Tryz.prog 5 args W fun e W' => e = .returned (.bool true) ∧ Below W.heap.size W W' := by
 obtain ⟨⟨H, enc, ds, p, hA, hk⟩, base, hval⟩ := h
 rw [Tryz.params5] at hA hval
 obtain ⟨v0, vs0, d0, ds0, p0, q0, hargs, rfl, rfl, h0, r0⟩ := trodAll_cons hA
 obtain ⟨v1, vs1, d1, ds1, p1, q1, rfl, rfl, rfl, h1, r1⟩ := trodAll_cons r0
 obtain ⟨rfl, rfl, rfl⟩ := trodAll_nil r1
 obtain rfl : args = #[v0, v1] := by cases args; simp_all
 simp only [Rows.uptoBulkAll] at hk
 obtain ⟨g0, t0, y0, b0⟩ := argB_one (sp := .sl zosSp) (by kernel_rfl) (by kernel_rfl) (hval 0 _ v0 rfl rfl) h0
 obtain ⟨l, rfl, hl⟩ := zoss_of t0 (by omega)
 obtain ⟨g1, t1, y1, b1⟩ := argB_agg (sh := zosSp) (by kernel_rfl) (by kernel_rfl) (hval 1 _ v1 rfl rfl) h1
 obtain ⟨o, rfl, ho⟩ := zo_of t1 (by omega)
 exact given_v (zstateRises_v l hl o ho) (.cons y0 (.cons y1 .nil))
noncomputable def zstateRises_world (os : Go.Os) : World := { (World.holding Tryz.prog os ⟨#[], #[], []⟩) with heap := (((World.holding Tryz.prog os ⟨#[], #[], []⟩).heap.modify 2 fun | .cells _ t frozen => .cells (tabCells Rows.laid_unicode_utf8_acceptRanges) t frozen | o => o).modify 1 fun | .cells _ t frozen => .cells (tabCells Go.Pinned.utf8First) t frozen | o => o) }
set_option maxRecDepth 100000 in
theorem zstateRises_met (os : Go.Os) : laidMet Tryz.prog Rows.zstateRisesUptoRow.laid ((zstateRises_world os).forCall (fun _ _ => 0) ⟨#[], #[.slice none 0 0, .agg #[.int .i64 0, .int .i64 0, .int .i64 0, .int .i64 0, .int .i64 0, .int .i64 0, .slice none 0 0]], []⟩).memory :=
 laidMet_of_run' 8 (by kernel_rfl) (by kernel_rfl)
set_option maxRecDepth 100000 in
theorem zstateRises_reads (os : Go.Os) {H : Type} (enc : TypeId × Value → H) : ∃ places, DataW.whole enc Tryz.prog ((zstateRises_world os).forCall (fun _ _ => 0) ⟨#[], #[.slice none 0 0, .agg #[.int .i64 0, .int .i64 0, .int .i64 0, .int .i64 0, .int .i64 0, .int .i64 0, .slice none 0 0]], []⟩).memory Tryz.f5.params.toList Rows.zstateRisesSpec.vars false (#[.slice none 0 0, .agg #[.int .i64 0, .int .i64 0, .int .i64 0, .int .i64 0, .int .i64 0, .int .i64 0, .slice none 0 0]] : Array Value).toList 8 = some ([.nil, .agg [.lit (.int .i64 0), .agg [.lit (.int .i64 0), .lit (.int .i64 0), .lit (.int .i64 0), .lit (.int .i64 0), .lit (.int .i64 0), .nil]]], [], places) :=
 ⟨[], by kernel_rfl⟩
set_option maxRecDepth 100000 in
theorem zstateRises_lifted (os : Go.Os) (started : os.Started) (H : Type) (enc : TypeId × Value → H) (St : Stop.Interp) :
  ReturnsInHanded {} Tryz.checked os 5 .any ((Rows.OpenSpec.upto Rows.zstateRisesSpec).preRow enc Tryz.prog Tryz.f5 Rows.zstateRisesUptoRow.domain false Rows.zstateRisesUptoRow.laid) (((Rows.OpenSpec.upto Rows.zstateRisesSpec).at St).post enc Tryz.prog Tryz.f5 false true false false) := by
 obtain ⟨places, hx⟩ := zstateRises_reads os enc
 exact law_liftedU (s := Rows.zstateRisesSpec) os started H enc St (by kernel_rfl) Tryz.func5 rfl (by kernel_rfl)
  (by rw [Tryz.params5]; intro t ht; simp at ht; rcases ht with rfl | rfl <;> exact ⟨by kernel_rfl, of_decide_eq_true (by kernel_rfl)⟩)
  (by rw [Tryz.params5]; intro ds hd; match ds, hd with | [x0, x1], _ => exact ⟨rfl, rfl, rfl⟩)
  (witness_row_at (enc := enc) (C := Tryz.checked) false (zstateRises_world os) #[.slice none 0 0, .agg #[.int .i64 0, .int .i64 0, .int .i64 0, .int .i64 0, .int .i64 0, .int .i64 0, .slice none 0 0]] rfl (by kernel_rfl) (by kernel_rfl) (by kernel_rfl)
   (OpenSpec.preRow_of_cond 8 hx (by kernel_rfl) (fun k hk => by cases hk; kernel_rfl) (by kernel_rfl) (zstateRises_met os)))
  zstateRises_given
theorem zstateRises_said : Rows.ZstateRisesUptoSaid :=
 OpenClaim.holds_of_cond 5 Tryz.f5 rfl rfl rfl rfl rfl rfl rfl ⟨rfl, rfl, rfl, rfl, rfl⟩ rfl rfl rfl rfl rfl (by kernel_rfl) Tryz.func5 (by kernel_rfl)
  (of_decide_eq_true (by kernel_rfl)) (by unfold Func.isWrapper; first | (rw [if_pos (by decide +kernel)]; kernel_rfl) | (rw [if_neg (by decide +kernel)]; exact ⟨rfl, rfl⟩))
  (fun os started H enc _ St => by rw [OpenClaim.pre_eq_preRow]; exact zstateRises_lifted os started H enc St)
set_option maxRecDepth 100000 in
theorem zstateRises_plain (f : FuncId) (fn : Func) (hf : Tryz.pinned.checked.prog.funcNamed "harpsichord/harpsichordlaw11.ZstateRises" = some f) (hfn : Tryz.pinned.checked.prog.funcs[f]? = some fn) :
  true = Tryz.pinned.checked.prog.looks [] ∧ ∀ (j : Nat) t, fn.params[j]? = some t → Tryz.pinned.checked.prog.wantsStandIn t = false := by
 obtain rfl : f = 5 := Option.some.inj ((show Tryz.prog.funcNamed "harpsichord/harpsichordlaw11.ZstateRises" = some 5 by kernel_rfl).symm.trans hf) |>.symm
 obtain rfl : fn = Tryz.f5 := (Option.some.inj (Tryz.func5.symm.trans hfn)).symm
 refine ⟨by kernel_rfl, fun j t ht => ?_⟩
 rw [Tryz.params5] at ht
 have hm := Array.mem_of_getElem? ht
 simp at hm
 rcases hm with rfl | rfl <;> exact (show Tryz.prog.wantsStandIn _ = false by kernel_rfl)
theorem zstateRises_holds : Rows.ZstateRisesUptoCardSaid :=
 Claim7.holds_tied_plain_at .later [] _ _ _ _ zstateRises_said (fun _ h => by cases h) (by kernel_rfl) (fun _ h => by cases h) zstateRisesUpto_row_tie rfl ⟨rfl, rfl⟩ (by kernel_rfl) rfl zstateRises_plain (by kernel_rfl)
#print axioms zstateRises_holds
end Go.Proofs.YtalfffamppmooaaGreatDoor

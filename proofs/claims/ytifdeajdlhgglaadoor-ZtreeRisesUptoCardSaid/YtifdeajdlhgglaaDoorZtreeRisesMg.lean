/- ZtreeRises: what is made with a number under one parent rises for ever: for every input whose bulk is at most 1048576 the law returns true. No other condition. -/
import Derived.Test.YtifdeajdlhgglaaDoorCards
import Derived.Test.YtifdeajdlhgglaaDoorTie
import Derived.Test.YtifdeajdlhgglaaDoorLM
import Derived.Test.YtifdeajdlhgglaaDoorZLwH
import Derived.Test.YtifdeajdlhgglaaDoorZLz
namespace Go.Proofs.YtifdeajdlhgglaaDoor
open Go.ChangeShapes Go.WideShapes Go.ChangeAt Go.RowKit
set_option maxRecDepth 100000 in
theorem ztreeRises_given (W : World) (args : Array Value) (h : GivenU W Tryd.f4 args) :
  Calls Tryd.prog 4 args W fun e W' => e = .returned (.bool true) ∧ Below W.heap.size W W' := by
 obtain ⟨⟨H, enc, ds, p, hA, hk⟩, base, hval⟩ := h
 rw [Tryd.params4] at hA hval
 obtain ⟨v0, vs0, d0, ds0, p0, q0, hargs, rfl, rfl, h0, r0⟩ := trodAll_cons hA
 obtain ⟨v1, vs1, d1, ds1, p1, q1, rfl, rfl, rfl, h1, r1⟩ := trodAll_cons r0
 obtain ⟨rfl, rfl, rfl⟩ := trodAll_nil r1
 obtain rfl : args = #[v0, v1] := by cases args; simp_all
 simp only [Rows.uptoBulkAll] at hk
 obtain ⟨g0, t0, y0, b0⟩ := argB_one (sp := .sl zopSp) (by kernel_rfl) (by kernel_rfl) (hval 0 _ v0 rfl rfl) h0
 obtain ⟨l, rfl, hl⟩ := zops_of t0 (by omega)
 obtain ⟨g1, t1, y1, b1⟩ := argB_one (sp := .sl zopSp) (by kernel_rfl) (by kernel_rfl) (hval 1 _ v1 rfl rfl) h1
 obtain ⟨m, rfl, hm⟩ := zops_of t1 (by omega)
 exact given_v (ztreeRises_v l hl m hm) (.cons y0 (.cons y1 .nil))
noncomputable def ztreeRises_world (os : Go.Os) : World := { (World.holding Tryd.prog os ⟨#[], #[], []⟩) with heap := (((World.holding Tryd.prog os ⟨#[], #[], []⟩).heap.modify 2 fun | .cells _ t frozen => .cells (tabCells Rows.laid_unicode_utf8_acceptRanges) t frozen | o => o).modify 1 fun | .cells _ t frozen => .cells (tabCells Go.Pinned.utf8First) t frozen | o => o) }
set_option maxRecDepth 100000 in
theorem ztreeRises_met (os : Go.Os) : laidMet Tryd.prog Rows.ztreeRisesUptoRow.laid ((ztreeRises_world os).forCall (fun _ _ => 0) ⟨#[], #[.slice none 0 0, .slice none 0 0], []⟩).memory :=
 laidMet_of_run' 8 (by kernel_rfl) (by kernel_rfl)
set_option maxRecDepth 100000 in
theorem ztreeRises_reads (os : Go.Os) {H : Type} (enc : TypeId × Value → H) : ∃ places, DataW.whole enc Tryd.prog ((ztreeRises_world os).forCall (fun _ _ => 0) ⟨#[], #[.slice none 0 0, .slice none 0 0], []⟩).memory Tryd.f4.params.toList Rows.ztreeRisesSpec.vars false (#[.slice none 0 0, .slice none 0 0] : Array Value).toList 8 = some ([.nil, .nil], [], places) :=
 ⟨[], by kernel_rfl⟩
set_option maxRecDepth 100000 in
theorem ztreeRises_lifted (os : Go.Os) (started : os.Started) (H : Type) (enc : TypeId × Value → H) (St : Stop.Interp) :
  ReturnsInHanded {} Tryd.checked os 4 .any ((Rows.OpenSpec.upto Rows.ztreeRisesSpec).preRow enc Tryd.prog Tryd.f4 Rows.ztreeRisesUptoRow.domain false Rows.ztreeRisesUptoRow.laid) (((Rows.OpenSpec.upto Rows.ztreeRisesSpec).at St).post enc Tryd.prog Tryd.f4 false true false false) := by
 obtain ⟨places, hx⟩ := ztreeRises_reads os enc
 exact law_liftedU (s := Rows.ztreeRisesSpec) os started H enc St (by kernel_rfl) Tryd.func4 rfl (by kernel_rfl)
  (by rw [Tryd.params4]; intro t ht; simp at ht; rcases ht with rfl | rfl <;> exact ⟨by kernel_rfl, of_decide_eq_true (by kernel_rfl)⟩)
  (by rw [Tryd.params4]; intro ds hd; match ds, hd with | [x0, x1], _ => exact ⟨rfl, rfl, rfl⟩)
  (witness_row_at (enc := enc) (C := Tryd.checked) false (ztreeRises_world os) #[.slice none 0 0, .slice none 0 0] rfl (by kernel_rfl) (by kernel_rfl) (by kernel_rfl)
   (OpenSpec.preRow_of_cond 8 hx (by kernel_rfl) (fun k hk => by cases hk; kernel_rfl) (by kernel_rfl) (ztreeRises_met os)))
  ztreeRises_given
theorem ztreeRises_said : Rows.ZtreeRisesUptoSaid :=
 OpenClaim.holds_of_cond 4 Tryd.f4 rfl rfl rfl rfl rfl rfl rfl ⟨rfl, rfl, rfl, rfl, rfl⟩ rfl rfl rfl rfl rfl (by kernel_rfl) Tryd.func4 (by kernel_rfl)
  (of_decide_eq_true (by kernel_rfl)) (by unfold Func.isWrapper; first | (rw [if_pos (by decide +kernel)]; kernel_rfl) | (rw [if_neg (by decide +kernel)]; exact ⟨rfl, rfl⟩))
  (fun os started H enc _ St => by rw [OpenClaim.pre_eq_preRow]; exact ztreeRises_lifted os started H enc St)
set_option maxRecDepth 100000 in
theorem ztreeRises_plain (f : FuncId) (fn : Func) (hf : Tryd.pinned.checked.prog.funcNamed "harpsichord/harpsichordlaw08.ZtreeRises" = some f) (hfn : Tryd.pinned.checked.prog.funcs[f]? = some fn) :
  true = Tryd.pinned.checked.prog.looks [] ∧ ∀ (j : Nat) t, fn.params[j]? = some t → Tryd.pinned.checked.prog.wantsStandIn t = false := by
 obtain rfl : f = 4 := Option.some.inj ((show Tryd.prog.funcNamed "harpsichord/harpsichordlaw08.ZtreeRises" = some 4 by kernel_rfl).symm.trans hf) |>.symm
 obtain rfl : fn = Tryd.f4 := (Option.some.inj (Tryd.func4.symm.trans hfn)).symm
 refine ⟨by kernel_rfl, fun j t ht => ?_⟩
 rw [Tryd.params4] at ht
 have hm := Array.mem_of_getElem? ht
 simp at hm
 rcases hm with rfl | rfl <;> exact (show Tryd.prog.wantsStandIn _ = false by kernel_rfl)
theorem ztreeRises_holds : Rows.ZtreeRisesUptoCardSaid :=
 Claim7.holds_tied_plain_at .later [] _ _ _ _ ztreeRises_said (fun _ h => by cases h) (by kernel_rfl) (fun _ h => by cases h) ztreeRisesUpto_row_tie rfl ⟨rfl, rfl⟩ (by kernel_rfl) rfl ztreeRises_plain (by kernel_rfl)
#print axioms ztreeRises_holds
end Go.Proofs.YtifdeajdlhgglaaDoor

/- ZtreeShape: behind any calls a tree is a tree as the document says: parents are there and belong to nobody: for every input whose bulk is at most 1048576 the law returns true. No other condition. -/
import Derived.Test.YtifdeajdlhgglaaDoorCards
import Derived.Test.YtifdeajdlhgglaaDoorTie
import Derived.Test.YtifdeajdlhgglaaDoorLM
import Derived.Test.YtifdeajdlhgglaaDoorZLwG
import Derived.Test.YtifdeajdlhgglaaDoorZLz
namespace Go.Proofs.YtifdeajdlhgglaaDoor
open Go.ChangeShapes Go.WideShapes Go.ChangeAt Go.RowKit
set_option maxRecDepth 100000 in
theorem ztreeShape_given (W : World) (args : Array Value) (h : GivenU W Tryd.f3 args) :
  Calls Tryd.prog 3 args W fun e W' => e = .returned (.bool true) ∧ Below W.heap.size W W' := by
 obtain ⟨⟨H, enc, ds, p, hA, hk⟩, base, hval⟩ := h
 rw [Tryd.params3] at hA hval
 obtain ⟨v0, vs0, d0, ds0, p0, q0, hargs, rfl, rfl, h0, r0⟩ := trodAll_cons hA
 obtain ⟨rfl, rfl, rfl⟩ := trodAll_nil r0
 obtain rfl : args = #[v0] := by cases args; simp_all
 simp only [Rows.uptoBulkAll] at hk
 obtain ⟨g0, t0, y0, b0⟩ := argB_one (sp := .sl zopSp) (by kernel_rfl) (by kernel_rfl) (hval 0 _ v0 rfl rfl) h0
 obtain ⟨l, rfl, hl⟩ := zops_of t0 (by omega)
 exact given_v (ztreeShape_v l hl) (.cons y0 .nil)
noncomputable def ztreeShape_world (os : Go.Os) : World := { (World.holding Tryd.prog os ⟨#[], #[], []⟩) with heap := (((World.holding Tryd.prog os ⟨#[], #[], []⟩).heap.modify 2 fun | .cells _ t frozen => .cells (tabCells Rows.laid_unicode_utf8_acceptRanges) t frozen | o => o).modify 1 fun | .cells _ t frozen => .cells (tabCells Go.Pinned.utf8First) t frozen | o => o) }
set_option maxRecDepth 100000 in
theorem ztreeShape_met (os : Go.Os) : laidMet Tryd.prog Rows.ztreeShapeUptoRow.laid ((ztreeShape_world os).forCall (fun _ _ => 0) ⟨#[], #[.slice none 0 0], []⟩).memory :=
 laidMet_of_run' 8 (by kernel_rfl) (by kernel_rfl)
set_option maxRecDepth 100000 in
theorem ztreeShape_reads (os : Go.Os) {H : Type} (enc : TypeId × Value → H) : ∃ places, DataW.whole enc Tryd.prog ((ztreeShape_world os).forCall (fun _ _ => 0) ⟨#[], #[.slice none 0 0], []⟩).memory Tryd.f3.params.toList Rows.ztreeShapeSpec.vars false (#[.slice none 0 0] : Array Value).toList 8 = some ([.nil], [], places) :=
 ⟨[], by kernel_rfl⟩
set_option maxRecDepth 100000 in
theorem ztreeShape_lifted (os : Go.Os) (started : os.Started) (H : Type) (enc : TypeId × Value → H) (St : Stop.Interp) :
  ReturnsInHanded {} Tryd.checked os 3 .any ((Rows.OpenSpec.upto Rows.ztreeShapeSpec).preRow enc Tryd.prog Tryd.f3 Rows.ztreeShapeUptoRow.domain false Rows.ztreeShapeUptoRow.laid) (((Rows.OpenSpec.upto Rows.ztreeShapeSpec).at St).post enc Tryd.prog Tryd.f3 false true false false) := by
 obtain ⟨places, hx⟩ := ztreeShape_reads os enc
 exact law_liftedU (s := Rows.ztreeShapeSpec) os started H enc St (by kernel_rfl) Tryd.func3 rfl (by kernel_rfl)
  (by rw [Tryd.params3]; intro t ht; simp at ht; rcases ht with rfl <;> exact ⟨by kernel_rfl, of_decide_eq_true (by kernel_rfl)⟩)
  (by rw [Tryd.params3]; intro ds hd; match ds, hd with | [x0], _ => exact ⟨rfl, rfl, rfl⟩)
  (witness_row_at (enc := enc) (C := Tryd.checked) false (ztreeShape_world os) #[.slice none 0 0] rfl (by kernel_rfl) (by kernel_rfl) (by kernel_rfl)
   (OpenSpec.preRow_of_cond 8 hx (by kernel_rfl) (fun k hk => by cases hk; kernel_rfl) (by kernel_rfl) (ztreeShape_met os)))
  ztreeShape_given
theorem ztreeShape_said : Rows.ZtreeShapeUptoSaid :=
 OpenClaim.holds_of_cond 3 Tryd.f3 rfl rfl rfl rfl rfl rfl rfl ⟨rfl, rfl, rfl, rfl, rfl⟩ rfl rfl rfl rfl rfl (by kernel_rfl) Tryd.func3 (by kernel_rfl)
  (of_decide_eq_true (by kernel_rfl)) (by unfold Func.isWrapper; first | (rw [if_pos (by decide +kernel)]; kernel_rfl) | (rw [if_neg (by decide +kernel)]; exact ⟨rfl, rfl⟩))
  (fun os started H enc _ St => by rw [OpenClaim.pre_eq_preRow]; exact ztreeShape_lifted os started H enc St)
set_option maxRecDepth 100000 in
theorem ztreeShape_plain (f : FuncId) (fn : Func) (hf : Tryd.pinned.checked.prog.funcNamed "harpsichord/harpsichordlaw08.ZtreeShape" = some f) (hfn : Tryd.pinned.checked.prog.funcs[f]? = some fn) :
  true = Tryd.pinned.checked.prog.looks [] ∧ ∀ (j : Nat) t, fn.params[j]? = some t → Tryd.pinned.checked.prog.wantsStandIn t = false := by
 obtain rfl : f = 3 := Option.some.inj ((show Tryd.prog.funcNamed "harpsichord/harpsichordlaw08.ZtreeShape" = some 3 by kernel_rfl).symm.trans hf) |>.symm
 obtain rfl : fn = Tryd.f3 := (Option.some.inj (Tryd.func3.symm.trans hfn)).symm
 refine ⟨by kernel_rfl, fun j t ht => ?_⟩
 rw [Tryd.params3] at ht
 have hm := Array.mem_of_getElem? ht
 simp at hm
 rcases hm with rfl <;> exact (show Tryd.prog.wantsStandIn _ = false by kernel_rfl)
theorem ztreeShape_holds : Rows.ZtreeShapeUptoCardSaid :=
 Claim7.holds_tied_plain_at .later [] _ _ _ _ ztreeShape_said (fun _ h => by cases h) (by kernel_rfl) (fun _ h => by cases h) ztreeShapeUpto_row_tie rfl ⟨rfl, rfl⟩ (by kernel_rfl) rfl ztreeShape_plain (by kernel_rfl)
#print axioms ztreeShape_holds
end Go.Proofs.YtifdeajdlhgglaaDoor

/- ZstateApart: what is told of a state is a copy, and a state that was cloned goes its own way: for every input whose bulk is at most 1048576 the law returns true. No other condition. -/
import Derived.Test.YtalfffamppmooaaGreatDoorCards
import Derived.Test.YtalfffamppmooaaGreatDoorTie
import Derived.Test.YtalfffamppmooaaGreatDoorZZSm
import Derived.Test.YtalfffamppmooaaGreatDoorZZSq
import Derived.Test.YtalfffamppmooaaGreatDoorZLz
namespace Go.Proofs.YtalfffamppmooaaGreatDoor
open Go.ChangeShapes Go.WideShapes Go.ChangeAt Go.RowKit
set_option maxRecDepth 100000 in
theorem zstateApart_given (W : World) (args : Array Value) (h : GivenU W Tryz.f6 args) :
  Calls Tryz.prog 6 args W fun e W' => e = .returned (.bool true) ∧ Below W.heap.size W W' := by
 obtain ⟨⟨H, enc, ds, p, hA, hk⟩, base, hval⟩ := h
 rw [Tryz.params6] at hA hval
 obtain ⟨v0, vs0, d0, ds0, p0, q0, hargs, rfl, rfl, h0, r0⟩ := trodAll_cons hA
 obtain ⟨v1, vs1, d1, ds1, p1, q1, rfl, rfl, rfl, h1, r1⟩ := trodAll_cons r0
 obtain ⟨rfl, rfl, rfl⟩ := trodAll_nil r1
 obtain rfl : args = #[v0, v1] := by cases args; simp_all
 simp only [Rows.uptoBulkAll] at hk
 obtain ⟨g0, t0, y0, b0⟩ := argB_one (sp := .sl zosSp) (by kernel_rfl) (by kernel_rfl) (hval 0 _ v0 rfl rfl) h0
 obtain ⟨l, rfl, hl⟩ := zoss_of t0 (by omega)
 obtain ⟨g1, t1, y1, b1⟩ := argB_one (sp := .sl zosSp) (by kernel_rfl) (by kernel_rfl) (hval 1 _ v1 rfl rfl) h1
 obtain ⟨m, rfl, hm⟩ := zoss_of t1 (by omega)
 exact given_v (zstateApart_v l hl m hm) (.cons y0 (.cons y1 .nil))
noncomputable def zstateApart_world (os : Go.Os) : World := { (World.holding Tryz.prog os ⟨#[], #[], []⟩) with heap := (((World.holding Tryz.prog os ⟨#[], #[], []⟩).heap.modify 2 fun | .cells _ t frozen => .cells (tabCells Rows.laid_unicode_utf8_acceptRanges) t frozen | o => o).modify 1 fun | .cells _ t frozen => .cells (tabCells Go.Pinned.utf8First) t frozen | o => o) }
set_option maxRecDepth 100000 in
theorem zstateApart_met (os : Go.Os) : laidMet Tryz.prog Rows.zstateApartUptoRow.laid ((zstateApart_world os).forCall (fun _ _ => 0) ⟨#[], #[.slice none 0 0, .slice none 0 0], []⟩).memory :=
 laidMet_of_run' 8 (by kernel_rfl) (by kernel_rfl)
set_option maxRecDepth 100000 in
theorem zstateApart_reads (os : Go.Os) {H : Type} (enc : TypeId × Value → H) : ∃ places, DataW.whole enc Tryz.prog ((zstateApart_world os).forCall (fun _ _ => 0) ⟨#[], #[.slice none 0 0, .slice none 0 0], []⟩).memory Tryz.f6.params.toList Rows.zstateApartSpec.vars false (#[.slice none 0 0, .slice none 0 0] : Array Value).toList 8 = some ([.nil, .nil], [], places) :=
 ⟨[], by kernel_rfl⟩
set_option maxRecDepth 100000 in
theorem zstateApart_lifted (os : Go.Os) (started : os.Started) (H : Type) (enc : TypeId × Value → H) (St : Stop.Interp) :
  ReturnsInHanded {} Tryz.checked os 6 .any ((Rows.OpenSpec.upto Rows.zstateApartSpec).preRow enc Tryz.prog Tryz.f6 Rows.zstateApartUptoRow.domain false Rows.zstateApartUptoRow.laid) (((Rows.OpenSpec.upto Rows.zstateApartSpec).at St).post enc Tryz.prog Tryz.f6 false true false false) := by
 obtain ⟨places, hx⟩ := zstateApart_reads os enc
 exact law_liftedU (s := Rows.zstateApartSpec) os started H enc St (by kernel_rfl) Tryz.func6 rfl (by kernel_rfl)
  (by rw [Tryz.params6]; intro t ht; simp at ht; rcases ht with rfl | rfl <;> exact ⟨by kernel_rfl, of_decide_eq_true (by kernel_rfl)⟩)
  (by rw [Tryz.params6]; intro ds hd; match ds, hd with | [x0, x1], _ => exact ⟨rfl, rfl, rfl⟩)
  (witness_row_at (enc := enc) (C := Tryz.checked) false (zstateApart_world os) #[.slice none 0 0, .slice none 0 0] rfl (by kernel_rfl) (by kernel_rfl) (by kernel_rfl)
   (OpenSpec.preRow_of_cond 8 hx (by kernel_rfl) (fun k hk => by cases hk; kernel_rfl) (by kernel_rfl) (zstateApart_met os)))
  zstateApart_given
theorem zstateApart_said : Rows.ZstateApartUptoSaid :=
 OpenClaim.holds_of_cond 6 Tryz.f6 rfl rfl rfl rfl rfl rfl rfl ⟨rfl, rfl, rfl, rfl, rfl⟩ rfl rfl rfl rfl rfl (by kernel_rfl) Tryz.func6 (by kernel_rfl)
  (of_decide_eq_true (by kernel_rfl)) (by unfold Func.isWrapper; first | (rw [if_pos (by decide +kernel)]; kernel_rfl) | (rw [if_neg (by decide +kernel)]; exact ⟨rfl, rfl⟩))
  (fun os started H enc _ St => by rw [OpenClaim.pre_eq_preRow]; exact zstateApart_lifted os started H enc St)
set_option maxRecDepth 100000 in
theorem zstateApart_plain (f : FuncId) (fn : Func) (hf : Tryz.pinned.checked.prog.funcNamed "harpsichord/harpsichordlaw11.ZstateApart" = some f) (hfn : Tryz.pinned.checked.prog.funcs[f]? = some fn) :
  true = Tryz.pinned.checked.prog.looks [] ∧ ∀ (j : Nat) t, fn.params[j]? = some t → Tryz.pinned.checked.prog.wantsStandIn t = false := by
 obtain rfl : f = 6 := Option.some.inj ((show Tryz.prog.funcNamed "harpsichord/harpsichordlaw11.ZstateApart" = some 6 by kernel_rfl).symm.trans hf) |>.symm
 obtain rfl : fn = Tryz.f6 := (Option.some.inj (Tryz.func6.symm.trans hfn)).symm
 refine ⟨by kernel_rfl, fun j t ht => ?_⟩
 rw [Tryz.params6] at ht
 have hm := Array.mem_of_getElem? ht
 simp at hm
 rcases hm with rfl | rfl <;> exact (show Tryz.prog.wantsStandIn _ = false by kernel_rfl)
theorem zstateApart_holds : Rows.ZstateApartUptoCardSaid :=
 Claim7.holds_tied_plain_at .later [] _ _ _ _ zstateApart_said (fun _ h => by cases h) (by kernel_rfl) (fun _ h => by cases h) zstateApartUpto_row_tie rfl ⟨rfl, rfl⟩ (by kernel_rfl) rfl zstateApart_plain (by kernel_rfl)
#print axioms zstateApart_holds
end Go.Proofs.YtalfffamppmooaaGreatDoor

/- ZtreeAtomic: a row of changes is done whole or not at all, and done one by one gives the same: for every input whose bulk is at most 1048576 the law returns true. No other condition. -/
import Derived.Test.YtifdeajdlhgglaaGreatDoorCards
import Derived.Test.YtifdeajdlhgglaaGreatDoorTie
import Derived.Test.YtifdeajdlhgglaaGreatDoorLM
import Derived.Test.YtifdeajdlhgglaaGreatDoorZLwE
import Derived.Test.YtifdeajdlhgglaaGreatDoorZLz
namespace Go.Proofs.YtifdeajdlhgglaaGreatDoor
open Go.ChangeShapes Go.WideShapes Go.ChangeAt Go.RowKit
set_option maxRecDepth 100000 in
theorem ztreeAtomic_given (W : World) (args : Array Value) (h : GivenU W Tryz.f5 args) :
  Calls Tryz.prog 5 args W fun e W' => e = .returned (.bool true) ∧ Below W.heap.size W W' := by
 obtain ⟨⟨H, enc, ds, p, hA, hk⟩, base, hval⟩ := h
 rw [Tryz.params5] at hA hval
 obtain ⟨v0, vs0, d0, ds0, p0, q0, hargs, rfl, rfl, h0, r0⟩ := trodAll_cons hA
 obtain ⟨v1, vs1, d1, ds1, p1, q1, rfl, rfl, rfl, h1, r1⟩ := trodAll_cons r0
 obtain ⟨v2, vs2, d2, ds2, p2, q2, rfl, rfl, rfl, h2, r2⟩ := trodAll_cons r1
 obtain ⟨rfl, rfl, rfl⟩ := trodAll_nil r2
 obtain rfl : args = #[v0, v1, v2] := by cases args; simp_all
 simp only [Rows.uptoBulkAll] at hk
 obtain ⟨g0, t0, y0, b0⟩ := argB_one (sp := .sl zopSp) (by kernel_rfl) (by kernel_rfl) (hval 0 _ v0 rfl rfl) h0
 obtain ⟨l, rfl, hl⟩ := zops_of t0 (by omega)
 obtain ⟨g1, t1, y1, b1⟩ := argB_agg (sh := [.i .i64, .i .i64]) (by kernel_rfl) (by kernel_rfl) (hval 1 _ v1 rfl rfl) h1
 obtain ⟨a, b, rfl⟩ := zwho_of t1
 obtain ⟨g2, t2, y2, b2⟩ := argB_one (sp := .sl chSp) (by kernel_rfl) (by kernel_rfl) (hval 2 _ v2 rfl rfl) h2
 obtain ⟨c, rfl, hcl, hcp⟩ := chl_of t2 (by omega)
 exact given_v (ztreeAtomic_v l hl a b c hcl hcp) (.cons y0 (.cons y1 (.cons y2 .nil)))
noncomputable def ztreeAtomic_world (os : Go.Os) : World := { (World.holding Tryz.prog os ⟨#[], #[], []⟩) with heap := (((World.holding Tryz.prog os ⟨#[], #[], []⟩).heap.modify 2 fun | .cells _ t frozen => .cells (tabCells Rows.laid_unicode_utf8_acceptRanges) t frozen | o => o).modify 1 fun | .cells _ t frozen => .cells (tabCells Go.Pinned.utf8First) t frozen | o => o) }
set_option maxRecDepth 100000 in
theorem ztreeAtomic_met (os : Go.Os) : laidMet Tryz.prog Rows.ztreeAtomicUptoRow.laid ((ztreeAtomic_world os).forCall (fun _ _ => 0) ⟨#[], #[.slice none 0 0, .agg #[.int .i64 0, .int .i64 0], .slice none 0 0], []⟩).memory :=
 laidMet_of_run' 8 (by kernel_rfl) (by kernel_rfl)
set_option maxRecDepth 100000 in
theorem ztreeAtomic_reads (os : Go.Os) {H : Type} (enc : TypeId × Value → H) : ∃ places, DataW.whole enc Tryz.prog ((ztreeAtomic_world os).forCall (fun _ _ => 0) ⟨#[], #[.slice none 0 0, .agg #[.int .i64 0, .int .i64 0], .slice none 0 0], []⟩).memory Tryz.f5.params.toList Rows.ztreeAtomicSpec.vars false (#[.slice none 0 0, .agg #[.int .i64 0, .int .i64 0], .slice none 0 0] : Array Value).toList 8 = some ([.nil, .agg [.lit (.int .i64 0), .lit (.int .i64 0)], .nil], [], places) :=
 ⟨[], by kernel_rfl⟩
set_option maxRecDepth 100000 in
theorem ztreeAtomic_lifted (os : Go.Os) (started : os.Started) (H : Type) (enc : TypeId × Value → H) (St : Stop.Interp) :
  ReturnsInHanded {} Tryz.checked os 5 .any ((Rows.OpenSpec.upto Rows.ztreeAtomicSpec).preRow enc Tryz.prog Tryz.f5 Rows.ztreeAtomicUptoRow.domain false Rows.ztreeAtomicUptoRow.laid) (((Rows.OpenSpec.upto Rows.ztreeAtomicSpec).at St).post enc Tryz.prog Tryz.f5 false true false false) := by
 obtain ⟨places, hx⟩ := ztreeAtomic_reads os enc
 exact law_liftedU (s := Rows.ztreeAtomicSpec) os started H enc St (by kernel_rfl) Tryz.func5 rfl (by kernel_rfl)
  (by rw [Tryz.params5]; intro t ht; simp at ht; rcases ht with rfl | rfl | rfl <;> exact ⟨by kernel_rfl, of_decide_eq_true (by kernel_rfl)⟩)
  (by rw [Tryz.params5]; intro ds hd; match ds, hd with | [x0, x1, x2], _ => exact ⟨rfl, rfl, rfl⟩)
  (witness_row_at (enc := enc) (C := Tryz.checked) false (ztreeAtomic_world os) #[.slice none 0 0, .agg #[.int .i64 0, .int .i64 0], .slice none 0 0] rfl (by kernel_rfl) (by kernel_rfl) (by kernel_rfl)
   (OpenSpec.preRow_of_cond 8 hx (by kernel_rfl) (fun k hk => by cases hk; kernel_rfl) (by kernel_rfl) (ztreeAtomic_met os)))
  ztreeAtomic_given
theorem ztreeAtomic_said : Rows.ZtreeAtomicUptoSaid :=
 OpenClaim.holds_of_cond 5 Tryz.f5 rfl rfl rfl rfl rfl rfl rfl ⟨rfl, rfl, rfl, rfl, rfl⟩ rfl rfl rfl rfl rfl (by kernel_rfl) Tryz.func5 (by kernel_rfl)
  (of_decide_eq_true (by kernel_rfl)) (by unfold Func.isWrapper; first | (rw [if_pos (by decide +kernel)]; kernel_rfl) | (rw [if_neg (by decide +kernel)]; exact ⟨rfl, rfl⟩))
  (fun os started H enc _ St => by rw [OpenClaim.pre_eq_preRow]; exact ztreeAtomic_lifted os started H enc St)
set_option maxRecDepth 100000 in
theorem ztreeAtomic_plain (f : FuncId) (fn : Func) (hf : Tryz.pinned.checked.prog.funcNamed "harpsichord/harpsichordlaw08.ZtreeAtomic" = some f) (hfn : Tryz.pinned.checked.prog.funcs[f]? = some fn) :
  true = Tryz.pinned.checked.prog.looks [] ∧ ∀ (j : Nat) t, fn.params[j]? = some t → Tryz.pinned.checked.prog.wantsStandIn t = false := by
 obtain rfl : f = 5 := Option.some.inj ((show Tryz.prog.funcNamed "harpsichord/harpsichordlaw08.ZtreeAtomic" = some 5 by kernel_rfl).symm.trans hf) |>.symm
 obtain rfl : fn = Tryz.f5 := (Option.some.inj (Tryz.func5.symm.trans hfn)).symm
 refine ⟨by kernel_rfl, fun j t ht => ?_⟩
 rw [Tryz.params5] at ht
 have hm := Array.mem_of_getElem? ht
 simp at hm
 rcases hm with rfl | rfl | rfl <;> exact (show Tryz.prog.wantsStandIn _ = false by kernel_rfl)
theorem ztreeAtomic_holds : Rows.ZtreeAtomicUptoCardSaid :=
 Claim7.holds_tied_plain_at .later [] _ _ _ _ ztreeAtomic_said (fun _ h => by cases h) (by kernel_rfl) (fun _ h => by cases h) ztreeAtomicUpto_row_tie rfl ⟨rfl, rfl⟩ (by kernel_rfl) rfl ztreeAtomic_plain (by kernel_rfl)
#print axioms ztreeAtomic_holds
end Go.Proofs.YtifdeajdlhgglaaGreatDoor

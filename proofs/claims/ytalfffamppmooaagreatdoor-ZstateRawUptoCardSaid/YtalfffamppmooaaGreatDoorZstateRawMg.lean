/- ZstateRaw: any records are loaded as a state that can be used, or refused: for every input whose bulk is at most 1048576 the law returns true. No other condition. -/
import Derived.Test.YtalfffamppmooaaGreatDoorCards
import Derived.Test.YtalfffamppmooaaGreatDoorTie
import Derived.Test.YtalfffamppmooaaGreatDoorPKR
import Derived.Test.YtalfffamppmooaaGreatDoorZLz
namespace Go.Proofs.YtalfffamppmooaaGreatDoor
open Go.ChangeShapes Go.WideShapes Go.ChangeAt Go.RowKit
set_option maxRecDepth 100000 in
theorem zstateRaw_given (W : World) (args : Array Value) (h : GivenU W Tryz.f9 args) :
  Calls Tryz.prog 9 args W fun e W' => e = .returned (.bool true) ∧ Below W.heap.size W W' := by
 obtain ⟨⟨H, enc, ds, p, hA, hk⟩, base, hval⟩ := h
 rw [Tryz.params9] at hA hval
 obtain ⟨v0, vs0, d0, ds0, p0, q0, hargs, rfl, rfl, h0, r0⟩ := trodAll_cons hA
 obtain ⟨rfl, rfl, rfl⟩ := trodAll_nil r0
 obtain rfl : args = #[v0] := by cases args; simp_all
 simp only [Rows.uptoBulkAll] at hk
 obtain ⟨g0, t0, y0, b0⟩ := argB_one (sp := .sl [.s]) (by kernel_rfl) (by kernel_rfl) (hval 0 _ v0 rfl rfl) h0
 obtain ⟨l, rfl, hl⟩ := zss_of t0 (by omega)
 exact given_v (zstateRaw_v l hl) (.cons y0 .nil)
noncomputable def zstateRaw_world (os : Go.Os) : World := { (World.holding Tryz.prog os ⟨#[], #[], []⟩) with heap := (((World.holding Tryz.prog os ⟨#[], #[], []⟩).heap.modify 2 fun | .cells _ t frozen => .cells (tabCells Rows.laid_unicode_utf8_acceptRanges) t frozen | o => o).modify 1 fun | .cells _ t frozen => .cells (tabCells Go.Pinned.utf8First) t frozen | o => o) }
set_option maxRecDepth 100000 in
theorem zstateRaw_met (os : Go.Os) : laidMet Tryz.prog Rows.zstateRawUptoRow.laid ((zstateRaw_world os).forCall (fun _ _ => 0) ⟨#[], #[.slice none 0 0], []⟩).memory :=
 laidMet_of_run' 8 (by kernel_rfl) (by kernel_rfl)
set_option maxRecDepth 100000 in
theorem zstateRaw_reads (os : Go.Os) {H : Type} (enc : TypeId × Value → H) : ∃ places, DataW.whole enc Tryz.prog ((zstateRaw_world os).forCall (fun _ _ => 0) ⟨#[], #[.slice none 0 0], []⟩).memory Tryz.f9.params.toList Rows.zstateRawSpec.vars false (#[.slice none 0 0] : Array Value).toList 8 = some ([.nil], [], places) :=
 ⟨[], by kernel_rfl⟩
set_option maxRecDepth 100000 in
theorem zstateRaw_lifted (os : Go.Os) (started : os.Started) (H : Type) (enc : TypeId × Value → H) (St : Stop.Interp) :
  ReturnsInHanded {} Tryz.checked os 9 .any ((Rows.OpenSpec.upto Rows.zstateRawSpec).preRow enc Tryz.prog Tryz.f9 Rows.zstateRawUptoRow.domain false Rows.zstateRawUptoRow.laid) (((Rows.OpenSpec.upto Rows.zstateRawSpec).at St).post enc Tryz.prog Tryz.f9 false true false false) := by
 obtain ⟨places, hx⟩ := zstateRaw_reads os enc
 exact law_liftedU (s := Rows.zstateRawSpec) os started H enc St (by kernel_rfl) Tryz.func9 rfl (by kernel_rfl)
  (by rw [Tryz.params9]; intro t ht; simp at ht; rcases ht with rfl <;> exact ⟨by kernel_rfl, of_decide_eq_true (by kernel_rfl)⟩)
  (by rw [Tryz.params9]; intro ds hd; match ds, hd with | [x0], _ => exact ⟨rfl, rfl, rfl⟩)
  (witness_row_at (enc := enc) (C := Tryz.checked) false (zstateRaw_world os) #[.slice none 0 0] rfl (by kernel_rfl) (by kernel_rfl) (by kernel_rfl)
   (OpenSpec.preRow_of_cond 8 hx (by kernel_rfl) (fun k hk => by cases hk; kernel_rfl) (by kernel_rfl) (zstateRaw_met os)))
  zstateRaw_given
theorem zstateRaw_said : Rows.ZstateRawUptoSaid :=
 OpenClaim.holds_of_cond 9 Tryz.f9 rfl rfl rfl rfl rfl rfl rfl ⟨rfl, rfl, rfl, rfl, rfl⟩ rfl rfl rfl rfl rfl (by kernel_rfl) Tryz.func9 (by kernel_rfl)
  (of_decide_eq_true (by kernel_rfl)) (by unfold Func.isWrapper; first | (rw [if_pos (by decide +kernel)]; kernel_rfl) | (rw [if_neg (by decide +kernel)]; exact ⟨rfl, rfl⟩))
  (fun os started H enc _ St => by rw [OpenClaim.pre_eq_preRow]; exact zstateRaw_lifted os started H enc St)
set_option maxRecDepth 100000 in
theorem zstateRaw_plain (f : FuncId) (fn : Func) (hf : Tryz.pinned.checked.prog.funcNamed "harpsichord/harpsichordlaw11.ZstateRaw" = some f) (hfn : Tryz.pinned.checked.prog.funcs[f]? = some fn) :
  true = Tryz.pinned.checked.prog.looks [] ∧ ∀ (j : Nat) t, fn.params[j]? = some t → Tryz.pinned.checked.prog.wantsStandIn t = false := by
 obtain rfl : f = 9 := Option.some.inj ((show Tryz.prog.funcNamed "harpsichord/harpsichordlaw11.ZstateRaw" = some 9 by kernel_rfl).symm.trans hf) |>.symm
 obtain rfl : fn = Tryz.f9 := (Option.some.inj (Tryz.func9.symm.trans hfn)).symm
 refine ⟨by kernel_rfl, fun j t ht => ?_⟩
 rw [Tryz.params9] at ht
 have hm := Array.mem_of_getElem? ht
 simp at hm
 rcases hm with rfl <;> exact (show Tryz.prog.wantsStandIn _ = false by kernel_rfl)
theorem zstateRaw_holds : Rows.ZstateRawUptoCardSaid :=
 Claim7.holds_tied_plain_at .later [] _ _ _ _ zstateRaw_said (fun _ h => by cases h) (by kernel_rfl) (fun _ h => by cases h) zstateRawUpto_row_tie rfl ⟨rfl, rfl⟩ (by kernel_rfl) rfl zstateRaw_plain (by kernel_rfl)
#print axioms zstateRaw_holds
end Go.Proofs.YtalfffamppmooaaGreatDoor

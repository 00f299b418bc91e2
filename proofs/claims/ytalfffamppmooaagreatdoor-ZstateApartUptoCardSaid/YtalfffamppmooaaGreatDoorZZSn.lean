/- A part of the proof. -/
import Derived.Test.YtalfffamppmooaaGreatDoorZIg
namespace Go.Proofs.YtalfffamppmooaaGreatDoor
open Go.RowKit
set_option maxRecDepth 100000
theorem own_p (r : RRp) (hl : r.ps.length ≤ 100000000) : FnO Tryz.prog 61 [.agg (enRp r)] [] fun g rs => g = .oag [gI r.code, gI r.se, .osl 0] ∧ rs = [.slc (r.ps.map gSt) tSt 1] := by
 refine fnuG Tryz.func61 (by kernel_rfl) rfl (Nat.le_of_ble_eq_true (by kernel_rfl)) (by kernel_rfl) (lent0 _) ?_
 refine (cloS_o r.ps hl).cal fun q rs hq => ?_
 obtain ⟨rfl, rfl⟩ := hq
 exact ⟨itL [(2, .slc (r.ps.map gSt) tSt 1)], .oag [gI r.code, gI r.se, .osl 0], ⟨⟨⟨_, rfl, rfl, rfl⟩, trivial⟩, rfl, ⟨_, rfl⟩, rfl, rfl, ⟨rfl, rfl⟩⟩⟩
theorem lastS_p {s : RSt} (h : WS s) {m : Mp} {L : List (Int × G)} (hm : SM s m L) {id : Int} {x : RL} (hg : getL s.ls id = some x) : FnO Tryz.prog 28 [.ptr 0 0, gI id] (oS s.zx m s.ls L) fun g rs => g = .tup [gI (findS s id).nu, .oag [gI (findS s id).r.code, gI (findS s id).r.se, .osl 4], .v (.bool true)] ∧ rs = oS s.zx m s.ls L ++ [.slc ((findS s id).r.ps.map gSt) tSt 1] := by
 refine fnuG Tryz.func28 (by kernel_rfl) rfl (Nat.le_of_ble_eq_true (by kernel_rfl)) (by kernel_rfl) (lent_id _ _) ?_
 have hlm := hm.lm id
 refine (getT_o h.ls id).cal fun q rs hq => ?_
 obtain ⟨rfl, rfl⟩ := hq
 rw [hg]
 refine EvIf.mk (fun hh => by cases hh) fun _ => ?_
 cases hf : findA s.la id with
 | none =>
  have hw : findS s id = ⟨id, 0, rp 0⟩ := by unfold findS; rw [hf]; rfl
  rw [hf] at hlm
  rw [hw]
  refine ⟨fun g e => (by rw [hlm] at e; cases e), fun _ => ?_⟩
  refine (own_p (rp 0) (by decide)).cal fun q rs hq => ?_
  obtain ⟨rfl, rfl⟩ := hq
  exact ⟨itL [(0, .blk [gI s.zx, .ptr 1 0, .ptr 2 0, .mp 3] tSta), (1, .abs (cl (oO m))), (2, .abs (cl (oTs s.ls))), (3, .mpI L), (7, .slc ((rp 0).ps.map gSt) tSt 1)], .tup [gI 0, .oag [gI (rp 0).code, gI (rp 0).se, .osl 4], .v (.bool true)], ⟨⟨⟨_, rfl, rfl, rfl⟩, ⟨_, rfl, rfl, rfl⟩, ⟨_, rfl, rfl, rfl⟩, ⟨_, rfl, rfl, rfl⟩, ⟨_, rfl, rfl, rfl⟩, trivial⟩, rfl, ⟨_, rfl⟩, rfl, rfl, ⟨rfl, rfl⟩⟩⟩
 | some y =>
  have hw : findS s id = y := by unfold findS; rw [hf]; rfl
  have hy6 := h.la.ps y (findA_se hf).1
  rw [hf] at hlm
  rw [hw]
  refine ⟨fun g e => ?_, fun e => by rw [hlm] at e; cases e⟩
  rw [hlm] at e
  cases e
  refine (own_p y.r (by omega)).cal fun q rs hq => ?_
  obtain ⟨rfl, rfl⟩ := hq
  exact ⟨itL [(0, .blk [gI s.zx, .ptr 1 0, .ptr 2 0, .mp 3] tSta), (1, .abs (cl (oO m))), (2, .abs (cl (oTs s.ls))), (3, .mpI L), (7, .slc (y.r.ps.map gSt) tSt 1)], .tup [gI y.nu, .oag [gI y.r.code, gI y.r.se, .osl 4], .v (.bool true)], ⟨⟨⟨_, rfl, rfl, rfl⟩, ⟨_, rfl, rfl, rfl⟩, ⟨_, rfl, rfl, rfl⟩, ⟨_, rfl, rfl, rfl⟩, ⟨_, rfl, rfl, rfl⟩, trivial⟩, rfl, ⟨_, rfl⟩, rfl, rfl, ⟨rfl, rfl⟩⟩⟩
theorem cloneSt_o (zx : Int) (m : Mp) {l : List RL} (h : WL l) (L : List (Int × G)) : FnO Tryz.prog 23 [.ptr 0 0] (oS zx m l L) fun g rs => g = .ptr 4 0 ∧ rs = oS zx m l L ++ [.blk [gI zx, .ptr 5 0, .ptr 6 0, .mp 7] tSta, .abs (cl (oO m)), .abs (cl (oTs l)), .mpI L] := by
 refine fnoG Tryz.func23 (by kernel_rfl) rfl (Nat.le_of_ble_eq_true (by kernel_rfl)) (by kernel_rfl) (lent_id _ _) ?_
 refine (cloneC_o m).cal fun q rs hq => ?_
 obtain ⟨rfl, rfl⟩ := hq
 refine (cloneT_o h).cal fun q rs hq => ?_
 obtain ⟨rfl, rfl⟩ := hq
 refine (mcloneI_o L).cal fun q rs hq => ?_
 obtain ⟨rfl, rfl⟩ := hq
 exact ⟨itL [(0, .blk [gI zx, .ptr 1 0, .ptr 2 0, .mp 3] tSta), (1, .abs (cl (oO m))), (2, .abs (cl (oTs l))), (3, .mpI L), (7, .blk [gI zx, .ptr 5 0, .ptr 6 0, .mp 7] tSta), (4, .abs (cl (oO m))), (5, .abs (cl (oTs l))), (6, .mpI L)], .ptr 4 0, ⟨⟨⟨_, rfl, rfl, rfl⟩, ⟨_, rfl, rfl, rfl⟩, ⟨_, rfl, rfl, rfl⟩, ⟨_, rfl, rfl, rfl⟩, ⟨_, rfl, rfl, rfl⟩, ⟨_, rfl, rfl, rfl⟩, ⟨_, rfl, rfl, rfl⟩, ⟨_, rfl, rfl, rfl⟩, trivial⟩, rfl, ⟨_, rfl⟩, rfl, rfl, ⟨rfl, rfl⟩⟩⟩
end Go.Proofs.YtalfffamppmooaaGreatDoor

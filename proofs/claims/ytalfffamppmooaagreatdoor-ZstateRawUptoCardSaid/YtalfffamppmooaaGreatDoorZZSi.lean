/- A part of the proof. -/
import Derived.Test.YtalfffamppmooaaGreatDoorZZSh
import Derived.Test.YtalfffamppmooaaGreatDoorLM
namespace Go.Proofs.YtalfffamppmooaaGreatDoor
open Go.RowKit
set_option maxRecDepth 100000
theorem zxid_o (zx : Int) (m : Mp) (l : List RL) (L : List (Int × G)) : FnO Tryz.prog 22 [.ptr 0 0] (oS zx m l L) fun g rs => g = gI zx ∧ rs = oS zx m l L := by
 refine fnoG Tryz.func22 (by kernel_rfl) rfl (Nat.le_of_ble_eq_true (by kernel_rfl)) (by kernel_rfl) (lent_id _ _) ?_
 exact end_st zx m l L rfl rfl rfl rfl rfl ⟨rfl, rfl⟩
theorem treeS_o (zx : Int) (m : Mp) (l : List RL) (L : List (Int × G)) : FnO Tryz.prog 24 [.ptr 0 0] (oS zx m l L) fun g rs => g = .ptr 4 0 ∧ rs = oS zx m l L ++ [.abs (cl (oO m))] := by
 refine fnoG Tryz.func24 (by kernel_rfl) rfl (Nat.le_of_ble_eq_true (by kernel_rfl)) (by kernel_rfl) (lent_id _ _) ?_
 refine (cloneC_o m).cal fun q rs hq => ?_
 obtain ⟨rfl, rfl⟩ := hq
 exact ⟨itL [(0, .blk [gI zx, .ptr 1 0, .ptr 2 0, .mp 3] tSta), (1, .abs (cl (oO m))), (2, .abs (cl (oTs l))), (3, .mpI L), (4, .abs (cl (oO m)))], .ptr 4 0, ⟨⟨⟨_, rfl, rfl, rfl⟩, ⟨_, rfl, rfl, rfl⟩, ⟨_, rfl, rfl, rfl⟩, ⟨_, rfl, rfl, rfl⟩, ⟨_, rfl, rfl, rfl⟩, trivial⟩, rfl, ⟨_, rfl⟩, rfl, rfl, ⟨rfl, rfl⟩⟩⟩
theorem leasesS_o (zx : Int) (m : Mp) {l : List RL} (h : WL l) (L : List (Int × G)) : FnO Tryz.prog 25 [.ptr 0 0] (oS zx m l L) fun g rs => g = .ptr 4 0 ∧ rs = oS zx m l L ++ [.abs (cl (oTs l))] := by
 refine fnoG Tryz.func25 (by kernel_rfl) rfl (Nat.le_of_ble_eq_true (by kernel_rfl)) (by kernel_rfl) (lent_id _ _) ?_
 refine (cloneT_o h).cal fun q rs hq => ?_
 obtain ⟨rfl, rfl⟩ := hq
 exact ⟨itL [(0, .blk [gI zx, .ptr 1 0, .ptr 2 0, .mp 3] tSta), (1, .abs (cl (oO m))), (2, .abs (cl (oTs l))), (3, .mpI L), (4, .abs (cl (oTs l)))], .ptr 4 0, ⟨⟨⟨_, rfl, rfl, rfl⟩, ⟨_, rfl, rfl, rfl⟩, ⟨_, rfl, rfl, rfl⟩, ⟨_, rfl, rfl, rfl⟩, ⟨_, rfl, rfl, rfl⟩, trivial⟩, rfl, ⟨_, rfl⟩, rfl, rfl, ⟨rfl, rfl⟩⟩⟩
def gLast (s : RSt) (id : Int) : G := if (getL s.ls id).isSome = true then .tup [gI (findS s id).nu, .agg (enRp (findS s id).r), .v (.bool true)] else .tup [gI 0, .agg (enRp (rp 0)), .v (.bool false)]
theorem lastS_o {s : RSt} (h : WS s) {m : Mp} {L : List (Int × G)} (hm : SM s m L) (id : Int) : FnO Tryz.prog 28 [.ptr 0 0, gI id] (oS s.zx m s.ls L) fun g rs => g = gLast s id ∧ rs = oS s.zx m s.ls L := by
 refine fnoG Tryz.func28 (by kernel_rfl) rfl (Nat.le_of_ble_eq_true (by kernel_rfl)) (by kernel_rfl) (lent_id _ _) ?_
 have hlm := hm.lm id
 refine (getT_o h.ls id).cal fun q rs hq => ?_
 obtain ⟨rfl, rfl⟩ := hq
 cases hg : getL s.ls id with
 | none =>
  have e : gLast s id = .tup [gI 0, .agg (enRp (rp 0)), .v (.bool false)] := by unfold gLast; rw [hg]; rfl
  rw [e]
  refine EvIf.mk (fun _ => ?_) fun hh => by cases hh
  exact end_st s.zx m s.ls L rfl rfl rfl rfl rfl ⟨rfl, rfl⟩
 | some x =>
  have e : gLast s id = .tup [gI (findS s id).nu, .agg (enRp (findS s id).r), .v (.bool true)] := by unfold gLast; rw [hg]; rfl
  rw [e]
  refine EvIf.mk (fun hh => by cases hh) fun _ => ?_
  cases hf : findA s.la id with
  | none =>
   have hw : findS s id = ⟨id, 0, rp 0⟩ := by unfold findS; rw [hf]; rfl
   rw [hf] at hlm
   rw [hw]
   refine ⟨fun g e => (by rw [hlm] at e; cases e), fun _ => ?_⟩
   refine (own_v (rp 0) (by decide)).cal fun q hq => ?_
   subst hq
   exact end_st s.zx m s.ls L rfl rfl rfl rfl rfl ⟨rfl, rfl⟩
  | some y =>
   have hw : findS s id = y := by unfold findS; rw [hf]; rfl
   have hy6 := h.la.ps y (findA_se hf).1
   rw [hf] at hlm
   rw [hw]
   refine ⟨fun g e => ?_, fun e => by rw [hlm] at e; cases e⟩
   rw [hlm] at e
   cases e
   refine (own_v y.r (by omega)).cal fun q hq => ?_
   subst hq
   exact end_st s.zx m s.ls L rfl rfl rfl rfl rfl ⟨rfl, rfl⟩
theorem newS_o : FnO Tryz.prog 10 [] [] fun g rs => g = .ptr 0 0 ∧ StP newSt rs := by
 refine fnoG Tryz.func10 (by kernel_rfl) rfl (Nat.le_of_ble_eq_true (by kernel_rfl)) (by kernel_rfl) (lent0 _) ?_
 refine (new_o).cal fun q rs hq => ?_
 obtain ⟨rfl, rfl⟩ := hq
 refine (newT_o).cal fun q rs hq => ?_
 obtain ⟨rfl, rfl⟩ := hq
 exact ⟨itL [(3, .blk [gI 0, .ptr 1 0, .ptr 2 0, .mp 3] tSta), (0, .abs (cl (oO [(rootS, gz zRoot)]))), (1, .abs (cl (oTs []))), (2, .mpI [])], .ptr 0 0, ⟨⟨⟨_, rfl, rfl, rfl⟩, ⟨_, rfl, rfl, rfl⟩, ⟨_, rfl, rfl, rfl⟩, ⟨_, rfl, rfl, rfl⟩, trivial⟩, rfl, ⟨_, rfl⟩, rfl, rfl, ⟨rfl, _, _, ⟨tm_new, fun _ => rfl⟩, rfl⟩⟩⟩
theorem plain_v (r : RRp) : FnV Tryz.prog 20 [.agg (enRp r)] fun g => g = .agg (enRp r) := by
 refine fnG Tryz.func20 (by kernel_rfl) rfl (Nat.le_of_ble_eq_true (by kernel_rfl)) (by kernel_rfl) ?_
 exact rfl
end Go.Proofs.YtalfffamppmooaaGreatDoor

/- A part of the proof. -/
import Derived.Test.YtalfffamppmooaaGreatDoorZZSh
import Derived.Test.YtalfffamppmooaaGreatDoorLM
namespace Go.Proofs.YtalfffamppmooaaGreatDoor
open Go.RowKit
set_option maxRecDepth 100000
theorem zxid_o (zx : Int) (m : Mp) (l : List RL) (L : List (Int × G)) : FnO Tryz.prog 22 [.ptr 0 0] (oS zx m l L) fun g rs => g = gI zx ∧ rs = oS zx m l L := by
 refine fnoG Tryz.func22 (by kernel_rfl) rfl (Nat.le_of_ble_eq_true (by kernel_rfl)) (by kernel_rfl) (lent_id _ _) ?_
 exact end_st zx m l L rfl rfl rfl rfl rfl ⟨rfl, rfl⟩
theorem newS_o : FnO Tryz.prog 10 [] [] fun g rs => g = .ptr 0 0 ∧ StP newSt rs := by
 refine fnoG Tryz.func10 (by kernel_rfl) rfl (Nat.le_of_ble_eq_true (by kernel_rfl)) (by kernel_rfl) (lent0 _) ?_
 refine (new_o).cal fun q rs hq => ?_
 obtain ⟨rfl, rfl⟩ := hq
 refine (newT_o).cal fun q rs hq => ?_
 obtain ⟨rfl, rfl⟩ := hq
 exact ⟨itL [(3, .blk [gI 0, .ptr 1 0, .ptr 2 0, .mp 3] tSta), (0, .abs (cl (oO [(rootS, gz zRoot)]))), (1, .abs (cl (oTs []))), (2, .mpI [])], .ptr 0 0, ⟨⟨⟨_, rfl, rfl, rfl⟩, ⟨_, rfl, rfl, rfl⟩, ⟨_, rfl, rfl, rfl⟩, ⟨_, rfl, rfl, rfl⟩, trivial⟩, rfl, ⟨_, rfl⟩, rfl, rfl, ⟨rfl, _, _, ⟨tm_new, fun _ => rfl⟩, rfl⟩⟩⟩
theorem ownT_v (t : RT) : FnV Tryz.prog 17 [.agg (enT t)] fun g => g = .agg (enT t) := by
 refine fnG Tryz.func17 (by kernel_rfl) rfl (Nat.le_of_ble_eq_true (by kernel_rfl)) (by kernel_rfl) ?_
 exact rfl
end Go.Proofs.YtalfffamppmooaaGreatDoor

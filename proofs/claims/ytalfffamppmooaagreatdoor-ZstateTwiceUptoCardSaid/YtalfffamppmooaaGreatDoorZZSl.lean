/- A part of the proof. -/
import Derived.Test.YtalfffamppmooaaGreatDoorZZSk
namespace Go.Proofs.YtalfffamppmooaaGreatDoor
open Go.RowKit
set_option maxRecDepth 100000
structure SmS11 (l : List ROS) : Prop where
 len : l.length ≤ 10000000
 ops : ∀ o ∈ l, SmT11 o.t
theorem few_len11 {l : List ROS} (h : fewS l = true) : l.length ≤ 150 := by
 unfold fewS at h
 rw [Bool.and_eq_true] at h
 exact of_decide_eq_true h.2
set_option maxHeartbeats 1000000 in
theorem zstateAll_v (l : List ROS) (hO : SmS11 l) : FnV Tryz.prog 3 [.sl (l.map enOS)] fun q => q = .v (.bool true) := by
 refine fnG Tryz.func3 (by kernel_rfl) rfl (Nat.le_of_ble_eq_true (by kernel_rfl)) (by kernel_rfl) ?_
 refine (newS_o).cal fun q rs hq => ?_
 obtain ⟨rfl, m, L, hm, rfl⟩ := hq
 refine (few11_v l hO.len).cal fun q hq => ?_
 subst hq
 cases hb : fewS l with
 | true =>
  have hl := few_len11 hb
  refine EvIf.mk (fun hh => by cases hh) fun _ => (newS_r).cal fun q hq => ?_
  subst hq
  refine (plays11_o ws_new hm l (by omega) (Nat.zero_le _) hO.ops).cal fun q rs hq => ?_
  obtain ⟨rfl, m2, L2, q1, rfl⟩ := hq
  refine (alive11_v).cal fun q hq => ?_
  subst hq
  refine EvIf.mk (fun _ => EvIf.mk (fun _ => ?_) fun hh => by cases hh) fun hh => by cases hh
  have hla := play_la l newSt
  refine (stands11_o (ws_play ws_new) (by have : newSt.la.length = 0 := rfl; omega) q1).cal fun q rs hq => ?_
  obtain ⟨rfl, rfl⟩ := hq
  exact rfl
 | false =>
  refine EvIf.mk (fun _ => (alive11_v).cal fun q hq => ?_) fun hh => by cases hh
  subst hq
  exact rfl
end Go.Proofs.YtalfffamppmooaaGreatDoor

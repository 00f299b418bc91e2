/- A part of the proof. -/
import Derived.Test.YtifdeajdlhgglaaGreatDoorLM
namespace Go.Proofs.YtifdeajdlhgglaaGreatDoor
open Go.RowKit
set_option maxRecDepth 100000
set_option maxHeartbeats 2000000 in
theorem ztreeAsks_v (l : List ROp) (hO : SmS l) (p : ByteArray) (_ : p.size ≤ 1048576) (s : Int) : FnV Tryz.prog 4 [.sl (l.map enOp), gS p, gI s] fun q => q = .v (.bool true) := by
 refine fnG Tryz.func4 (by kernel_rfl) rfl (Nat.le_of_ble_eq_true (by kernel_rfl)) (by kernel_rfl) ?_
 refine (new_o).cal fun q rs hq => ?_
 obtain ⟨rfl, rfl⟩ := hq
 refine (few_q l hO.few).cal fun q hq => ?_
 subst hq
 by_cases hb : fewN l ≤ 300
 ·rw [decide_eq_true hb]
  refine EvIf.mk (fun hh => by cases hh) fun _ => (new_r).cal fun q hq => ?_
  subst hq
  refine (plays_o tm_new wz_new l (hO.len hb) hO.ops).cal fun q rs hq => ?_
  obtain ⟨m, hM, rfl, rfl⟩ := hq
  have hw := wz_play wz_new l
  generalize playZ [zRoot] l = T at *
  have hl := hw.len
  refine (getC hM p).cal fun q rs hq => ?_
  obtain ⟨_, ⟨rfl, rfl⟩, rfl⟩ := hq
  refine (get_r (wz_sm hw).len p).cal fun q hq => ?_
  subst hq
  refine (kidsC hM hw p).cal fun q rs hq => ?_
  obtain ⟨_, ⟨rfl, rfl⟩, rfl⟩ := hq
  refine (kids_r (wz_sm hw) p).cal fun q hq => ?_
  subst hq
  refine (alive_v).cal fun q hq => ?_
  subst hq
  refine EvIf.mk (fun _ => EvIf.mk (fun _ => ?_) fun hh => by cases hh) fun hh => by cases hh
  refine EvEq.flat [.s, .s, .i .i64, .i .i64, .i .i64, .i .i64, .i .i64, .i .i64, .i .i64] [_, _, _, _, _, _, _, _, _] [_, _, _, _, _, _, _, _, _] (by kernel_rfl) (by kernel_rfl) (by kernel_rfl) rfl rfl rfl rfl (fun _ => ?_) (fun h => absurd rfl h)
  refine EvIf.mk (fun _ => ?_) fun hh => by cases hh
  refine EvIf.mk (fun _ => ?_) fun hh => by simp at hh
  refine (texts_r _ (by have := kids_len hw p; omega)).cal fun q hq => ?_
  subst hq
  refine EvIf.mk (fun _ => ?_) fun hh => by cases hh
  refine EvIf.mk (fun _ => ?_) fun hh => by simp at hh
  refine (ownedC hM hw s).cal fun q rs hq => ?_
  obtain ⟨_, ⟨rfl, rfl⟩, rfl⟩ := hq
  refine (owned_r (wz_sm hw).len s).cal fun q hq => ?_
  subst hq
  refine (texts_r _ (by have := owned_len hw s; omega)).cal fun q hq => ?_
  subst hq
  exact rfl
 ·rw [decide_eq_false hb]
  refine EvIf.mk (fun _ => (alive_v).cal fun q hq => ?_) fun hh => by cases hh
  subst hq
  exact rfl
set_option maxHeartbeats 2000000 in
theorem ztreeBack_v (l : List ROp) (hO : SmS l) (k : List ROp) (hK : SmS k) : FnV Tryz.prog 8 [.sl (l.map enOp), .sl (k.map enOp)] fun q => q = .v (.bool true) := by
 refine fnG Tryz.func8 (by kernel_rfl) rfl (Nat.le_of_ble_eq_true (by kernel_rfl)) (by kernel_rfl) ?_
 refine (new_o).cal fun q rs hq => ?_
 obtain ⟨rfl, rfl⟩ := hq
 refine (few_q l hO.few).cal fun q hq => ?_
 subst hq
 by_cases hb : fewN l ≤ 300
 ·rw [decide_eq_true hb]
  refine EvIf.mk (fun hh => by cases hh) fun _ => (few_q k hK.few).cal fun q hq => ?_
  subst hq
  by_cases hb2 : fewN k ≤ 300
  ·rw [decide_eq_true hb2]
   refine EvIf.mk (fun hh => by cases hh) fun _ => (new_r).cal fun q hq => ?_
   subst hq
   refine (plays_o tm_new wz_new l (hO.len hb) hO.ops).cal fun q rs hq => ?_
   obtain ⟨m, hM, rfl, rfl⟩ := hq
   have hw := wz_play wz_new l
   generalize playZ [zRoot] l = T at *
   have hl := hw.len
   refine EvIf.mk (fun hh => by cases hh) fun _ => ?_
   refine (allC hM hw).cal fun q rs hq => ?_
   obtain ⟨_, ⟨rfl, rfl⟩, rfl⟩ := hq
   have hsm := wz_sm hw
   refine (load_o T hsm.len fun z hz => by have := hsm.path z hz; unfold maxZ; omega).cal fun q rs hq => ?_
   unfold LoadP at hq
   rw [if_pos (check_of_wz hw)] at hq
   obtain ⟨m2, hM2, rfl, rfl⟩ := hq
   refine EvIf.bne (fun hh => absurd rfl hh) fun _ => ?_
   refine (plays_o hM2 hw k (hK.len hb2) hK.ops).cal fun q rs hq => ?_
   obtain ⟨m3, hM3, rfl, rfl⟩ := hq
   refine (alive_v).cal fun q hq => ?_
   subst hq
   refine EvIf.mk (fun _ => EvIf.mk (fun _ => ?_) fun hh => by cases hh) fun hh => by cases hh
   refine (stands_o hM3 (wz_play hw k)).cal fun q rs hq => ?_
   obtain ⟨rfl, rfl⟩ := hq
   refine EvIf.mk (fun _ => ?_) fun hh => by cases hh
   refine (stands_o hM hw).cal fun q rs hq => ?_
   obtain ⟨rfl, rfl⟩ := hq
   exact rfl
  ·rw [decide_eq_false hb2]
   refine EvIf.mk (fun _ => (alive_v).cal fun q hq => ?_) fun hh => by cases hh
   subst hq
   exact rfl
 ·rw [decide_eq_false hb]
  refine EvIf.mk (fun _ => (alive_v).cal fun q hq => ?_) fun hh => by cases hh
  subst hq
  exact rfl
set_option maxHeartbeats 2000000 in
theorem ztreeLoads_v (z : List RZ) (hzl : z.length ≤ 1048576) (hzp : ∀ x ∈ z, x.path.size ≤ 1048576) (l : List ROp) (hO : SmS l) : FnV Tryz.prog 7 [gT z, .sl (l.map enOp)] fun q => q = .v (.bool true) := by
 refine fnG Tryz.func7 (by kernel_rfl) rfl (Nat.le_of_ble_eq_true (by kernel_rfl)) (by kernel_rfl) ?_
 have dead : FnV Tryz.prog 11 [] fun q => q = .v (.bool true) := alive_v
 refine EvIf.dec (fun h1 => ?_) (fun h1 => ?_)
 ·refine dead.cal fun q hq => ?_
  subst hq
  exact rfl
 refine (few_q l hO.few).cal fun q hq => ?_
 subst hq
 by_cases hb : fewN l ≤ 300
 ·rw [decide_eq_true hb]
  have hz : z.length ≤ 250 := by simp at h1; omega
  refine EvIf.mk (fun hh => by cases hh) fun _ => ?_
  refine (load_o z (by omega) fun x hx => by have := hzp x hx; unfold maxZ; omega).cal fun q rs hq => ?_
  unfold LoadP at hq
  by_cases hc : checkZ z = 0
  ·rw [if_pos hc] at hq
   obtain ⟨m, hM, rfl, rfl⟩ := hq
   have hw := wz_of_check hc
   refine (check_r z (by omega) fun x hx => by have := hzp x hx; unfold maxZ; omega).cal fun q hq => ?_
   subst hq
   rw [hc]
   refine EvIf.mk (fun hh => by cases hh) fun _ => ?_
   refine EvIf.mk (fun hh => by cases hh) fun _ => ?_
   refine (plays_o hM hw l (hO.len hb) hO.ops).cal fun q rs hq => ?_
   obtain ⟨m3, hM3, rfl, rfl⟩ := hq
   refine (alive_v).cal fun q hq => ?_
   subst hq
   refine EvIf.mk (fun _ => EvIf.mk (fun _ => ?_) fun hh => by cases hh) fun hh => by cases hh
   refine (stands_o hM3 (wz_play hw l)).cal fun q rs hq => ?_
   obtain ⟨rfl, rfl⟩ := hq
   exact rfl
  ·rw [if_neg hc] at hq
   obtain ⟨rfl, rfl⟩ := hq
   refine (check_r z (by omega) fun x hx => by have := hzp x hx; unfold maxZ; omega).cal fun q hq => ?_
   subst hq
   refine EvIf.bne (fun hh => absurd rfl hh) fun _ => ?_
   refine EvIf.mk (fun hh => by simp [hc] at hh) fun _ => ?_
   refine (alive_v).cal fun q hq => ?_
   subst hq
   exact rfl
 ·rw [decide_eq_false hb]
  refine EvIf.mk (fun _ => (alive_v).cal fun q hq => ?_) fun hh => by cases hh
  subst hq
  exact rfl
end Go.Proofs.YtifdeajdlhgglaaGreatDoor

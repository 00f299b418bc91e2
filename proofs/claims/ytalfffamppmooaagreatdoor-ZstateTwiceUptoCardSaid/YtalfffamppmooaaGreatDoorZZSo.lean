/- A part of the proof. -/
import Derived.Test.YtalfffamppmooaaGreatDoorZZSl
namespace Go.Proofs.YtalfffamppmooaaGreatDoor
open Go.RowKit
set_option maxRecDepth 100000
set_option maxHeartbeats 2000000 in
theorem zstateTwice_v (l : List ROS) (hO : SmS11 l) (t : RT) (ht : SmT11 t) : FnV Tryz.prog 4 [.sl (l.map enOS), .agg (enT t)] fun q => q = .v (.bool true) := by
 refine fnG Tryz.func4 (by kernel_rfl) rfl (Nat.le_of_ble_eq_true (by kernel_rfl)) (by kernel_rfl) ?_
 refine (newS_o).cal fun q rs hq => ?_
 obtain ⟨rfl, m, L, hm, rfl⟩ := hq
 refine (few11_v l hO.len).cal fun q hq => ?_
 subst hq
 cases hb : fewS l with
 | false =>
  refine EvIf.mk (fun _ => (alive11_v).cal fun q hq => ?_) fun hh => by cases hh
  subst hq
  exact rfl
 | true =>
  have hl := few_len11 hb
  refine EvIf.mk (fun hh => by cases hh) fun _ => ?_
  refine EvIf.dec (fun h1 => (alive11_v).cal fun q hq => ?_) (fun h1 => ?_)
  ·subst hq
   exact rfl
  refine (newS_r).cal fun q hq => ?_
  subst hq
  refine (plays11_o ws_new hm l (by omega) (Nat.zero_le _) hO.ops).cal fun q rs hq => ?_
  obtain ⟨rfl, m1, L1, q1, rfl⟩ := hq
  have hw0 : WS (playS newSt l) := ws_play ws_new
  have hla0 : (playS newSt l).la.length ≤ 150 := by have := play_la l newSt; have : newSt.la.length = 0 := rfl; omega
  generalize playS newSt l = s0 at *
  refine EvIf.mk (fun hh => by cases hh) fun _ => ?_
  refine EvIf.dec (fun h2 => ?_) (fun h2 => ?_)
  ·refine EvIf.mk (fun _ => (alive11_v).cal fun q hq => ?_) fun hh => by cases hh
   subst hq
   exact rfl
  have hz0 := hw0.zx
  have hb2 : s0.zx ≤ 2305843009213693952 := by omega
  have htw := twice (s := s0) ⟨4, t.se, t.nu, t.sp, t.no, t.l⟩ rfl (z := s0.zx + 1) (by omega) (by unfold big; omega)
  have hwa : WS (applyS s0 (s0.zx + 1) ⟨4, t.se, t.nu, t.sp, t.no, t.l⟩).s := ws_apply hw0 _ _
  have hwb : WS (applyS (applyS s0 (s0.zx + 1) ⟨4, t.se, t.nu, t.sp, t.no, t.l⟩).s (s0.zx + 1 + 1) ⟨4, t.se, t.nu, t.sp, t.no, t.l⟩).s := ws_apply hwa _ _
  have hlaa := apply_la s0 (s0.zx + 1) ⟨4, t.se, t.nu, t.sp, t.no, t.l⟩
  obtain ⟨hp6, -⟩ := apply_sh hw0 (s0.zx + 1) ⟨4, t.se, t.nu, t.sp, t.no, t.l⟩
  have hA1 := apply_o hw0 q1 (s0.zx + 1) ⟨4, t.se, t.nu, t.sp, t.no, t.l⟩ ht.len ht.path
  generalize applyS s0 (s0.zx + 1) ⟨4, t.se, t.nu, t.sp, t.no, t.l⟩ = a at htw hwa hwb hlaa hp6 hA1
  have e2 : s0.zx + 1 + 1 = s0.zx + 2 := by omega
  rw [e2] at htw hwb
  rw [htw.2.2] at hwb
  have hA2 : ∀ m2 L2, SM a.s m2 L2 → FnO Tryz.prog 16 [.ptr 0 0, gI (s0.zx + 2), .agg (enT ⟨4, t.se, t.nu, t.sp, t.no, t.l⟩)] (oS a.s.zx m2 a.s.ls L2) fun g rs => g = .tup [.agg (enRp a.r), .sl []] ∧ StP ⟨s0.zx + 2, a.s.t, a.s.ls, a.s.la⟩ rs := fun m2 L2 q2 => (apply_o hwa q2 (s0.zx + 2) ⟨4, t.se, t.nu, t.sp, t.no, t.l⟩ ht.len ht.path).mono fun g rs ⟨h1, h2⟩ => ⟨by rw [h1]; unfold gAp; rw [htw.1, htw.2.1]; rfl, by rw [← htw.2.2]; exact h2⟩
  refine ⟨by omega, ?_⟩
  refine jn2 (P := fun m2 L2 => SM a.s m2 L2) (T := ?T1) (fun hj => ?a1) ?b1
  case a1 =>
   refine And.intro ?_ ?_
   all_goals refine (ownT_v ⟨4, t.se, t.nu, t.sp, t.no, t.l⟩).cal fun q hq => ?_; subst hq
   refine And.intro ?_ ?_
   all_goals refine hA1.cal fun q rs hq => ?_; obtain ⟨rfl, m2, L2, q2, rfl⟩ := hq
   all_goals (conv => whnf)
   exact hj m2 L2 q2
   all_goals exact hj m2 L2 q2
  intro m2 L2 q2
  refine (seen_o hwa q2).cal fun q rs hq => ?_
  obtain ⟨rfl, rfl⟩ := hq
  refine ⟨by omega, ?_⟩
  refine jn2 (P := fun m3 L3 => SM ⟨s0.zx + 2, a.s.t, a.s.ls, a.s.la⟩ m3 L3) (T := ?T2) (fun hj => ?a2) ?b2
  case a2 =>
   refine And.intro ?_ ?_
   all_goals refine (ownT_v ⟨4, t.se, t.nu, t.sp, t.no, t.l⟩).cal fun q hq => ?_; subst hq
   refine And.intro ?_ ?_
   all_goals refine (hA2 m2 L2 q2).cal fun q rs hq => ?_; obtain ⟨rfl, m3, L3, q3, rfl⟩ := hq
   all_goals (conv => whnf)
   exact hj m3 L3 q3
   all_goals exact hj m3 L3 q3
  intro m3 L3 q3
  refine (seen_o (s := ⟨s0.zx + 2, a.s.t, a.s.ls, a.s.la⟩) hwb q3).cal fun q rs hq => ?_
  obtain ⟨rfl, rfl⟩ := hq
  refine (alive11_v).cal fun q hq => ?_
  subst hq
  refine EvIf.mk (fun _ => ?_) fun hh => by cases hh
  refine (plain_v a.r).cal fun q hq => ?_
  subst hq
  refine (plain_v a.r).cal fun q hq => ?_
  subst hq
  refine (reply_r a.r (by omega)).cal fun q hq => ?_
  subst hq
  refine EvIf.mk (fun _ => ?_) fun hh => by cases hh
  refine EvIf.beq (fun _ => ?_) (fun hh => absurd rfl hh)
  have hl3 : (seenS a.s).la.length ≤ 100000000 := Nat.le_trans (List.length_filterMap_le _ _) (by have := hwa.ls.len; omega)
  refine (same11_r (a := seenS a.s) (b := seenS a.s) rfl rfl rfl (fun x hx => ⟨rfl, rfl⟩) (fun x hx => by rw [seen_find hwa hx]; have := find_ps hwa x.id; omega) (by have := hwa.t.len; show a.s.t.length ≤ _; omega) (by have := hwa.ls.len; show a.s.ls.length ≤ _; omega) hl3 hl3).cal fun q hq => ?_
  subst hq
  exact rfl
end Go.Proofs.YtalfffamppmooaaGreatDoor

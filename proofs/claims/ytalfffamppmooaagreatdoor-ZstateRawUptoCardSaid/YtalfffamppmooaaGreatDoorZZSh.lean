/- A part of the proof. -/
import Derived.Test.YtalfffamppmooaaGreatDoorZZSg
namespace Go.Proofs.YtalfffamppmooaaGreatDoor
open Go.RowKit
set_option maxRecDepth 100000
def gAp (a : RSA) : G := .tup [.agg (enRp a.r), .sl (a.ev.map enE)]
set_option maxHeartbeats 1000000 in
theorem apply_o {s : RSt} (h : WS s) {m : Mp} {L : List (Int × G)} (hm : SM s m L) (zx : Int) (t : RT) (ht : t.l.length ≤ 2000000) (hp : ∀ c ∈ t.l, c.path.size ≤ maxZ) : FnO Tryz.prog 16 [.ptr 0 0, gI zx, .agg (enT t)] (oS s.zx m s.ls L) fun g rs => g = gAp (applyS s zx t) ∧ StP (applyS s zx t).s rs := by
 refine fnoG Tryz.func16 (by kernel_rfl) rfl (Nat.le_of_ble_eq_true (by kernel_rfl)) (by kernel_rfl) (lent_id _ _) ?_
 have h0 := h.zx
 have fin0 : ∀ g, g = gAp ⟨s, rp 1, []⟩ → (zx ≤ s.zx ∨ zx > big) → g = gAp (applyS s zx t) ∧ StP (applyS s zx t).s (oS s.zx m s.ls L) := fun g hg hc => by
  have e : applyS s zx t = ⟨s, rp 1, []⟩ := by unfold applyS; rw [if_pos hc]
  rw [e, hg]; exact ⟨rfl, m, L, hm, rfl⟩
 refine EvIf.dec (fun h1 => ?_) (fun h1 => EvIf.dec (fun h2 => ?_) (fun h2 => ?_))
 ·exact end_st s.zx m s.ls L rfl rfl rfl rfl rfl (fin0 _ rfl (.inl h1))
 ·exact end_st s.zx m s.ls L rfl rfl rfl rfl rfl (fin0 _ rfl (.inr (by unfold big; omega)))
 have hS : WS ⟨zx, s.t, s.ls, s.la⟩ := ⟨by show 0 ≤ zx ∧ zx ≤ big; unfold big at *; omega, h.t, h.ls, h.la⟩
 have hmS : SM ⟨zx, s.t, s.ls, s.la⟩ m L := ⟨hm.tm, hm.lm⟩
 have eA : applyS s zx t = stepS ⟨zx, s.t, s.ls, s.la⟩ t := by unfold applyS; rw [if_neg (by unfold big; omega)]
 rw [eA]
 have bad : ∀ e g, stepS ⟨zx, s.t, s.ls, s.la⟩ t = ⟨⟨zx, s.t, s.ls, s.la⟩, rp e, []⟩ → g = gAp ⟨⟨zx, s.t, s.ls, s.la⟩, rp e, []⟩ → g = gAp (stepS ⟨zx, s.t, s.ls, s.la⟩ t) ∧ StP (stepS ⟨zx, s.t, s.ls, s.la⟩ t).s (oS zx m s.ls L) := fun e g he hg => by
  rw [he, hg]; exact ⟨rfl, m, L, hmS, rfl⟩
 refine jn (T := ?T1) (fun hj => ?a1) ?b1
 case a1 =>
  refine And.intro ?_ ?_
  all_goals refine (getT_o h.ls t.se).cal fun q rs hq => ?_; obtain ⟨rfl, rfl⟩ := hq
  all_goals (conv => whnf)
  exact hj
  all_goals exact hj
 have st0 : (t.kind ≤ 0 ∨ t.kind > 5) → stepS ⟨zx, s.t, s.ls, s.la⟩ t = ⟨⟨zx, s.t, s.ls, s.la⟩, rp 1, []⟩ := fun hk => by unfold stepS; rw [if_neg (by omega), if_neg (by omega), if_pos (by omega)]
 have st1 : t.kind = 1 → stepS ⟨zx, s.t, s.ls, s.la⟩ t = ⟨⟨zx, s.t, openL s.ls ⟨zx, t.sp, t.no⟩, s.la⟩, (if openE s.ls ⟨zx, t.sp, t.no⟩ = 0 then ⟨0, zx, []⟩ else rp (openE s.ls ⟨zx, t.sp, t.no⟩)), []⟩ := fun hk => by unfold stepS; rw [if_pos hk]
 have st2 : t.kind = 2 → stepS ⟨zx, s.t, s.ls, s.la⟩ t = ⟨⟨zx, s.t, renewL s.ls t.se t.no, s.la⟩, rp (renewE s.ls t.se t.no), []⟩ := fun hk => by unfold stepS; rw [if_neg (by omega), if_pos hk]
 have stn : getL s.ls t.se = none → 3 ≤ t.kind → t.kind ≤ 5 → stepS ⟨zx, s.t, s.ls, s.la⟩ t = ⟨⟨zx, s.t, s.ls, s.la⟩, rp 100, []⟩ := fun hg k1 k2 => by unfold stepS; rw [if_neg (by omega), if_neg (by omega), if_neg (by omega)]; dsimp only; rw [hg]
 have st4 : ∀ x, getL s.ls t.se = some x → t.kind = 4 → stepS ⟨zx, s.t, s.ls, s.la⟩ t = changeS ⟨zx, s.t, s.ls, s.la⟩ t := fun x hg hk => by unfold stepS; rw [if_neg (by omega), if_neg (by omega), if_neg (by omega)]; dsimp only; rw [hg]; dsimp only; rw [if_pos hk]
 have st5 : ∀ x, getL s.ls t.se = some x → t.kind = 5 → x.last ≠ t.no → stepS ⟨zx, s.t, s.ls, s.la⟩ t = ⟨⟨zx, s.t, s.ls, s.la⟩, rp 1, []⟩ := fun x hg hk hl => by unfold stepS; rw [if_neg (by omega), if_neg (by omega), if_neg (by omega)]; dsimp only; rw [hg]; dsimp only; rw [if_neg (by omega), if_pos ⟨hk, hl⟩]
 have ste : ∀ x, getL s.ls t.se = some x → 3 ≤ t.kind → t.kind ≤ 5 → t.kind ≠ 4 → ¬ (t.kind = 5 ∧ x.last ≠ t.no) → stepS ⟨zx, s.t, s.ls, s.la⟩ t = endS ⟨zx, s.t, s.ls, s.la⟩ t.se := fun x hg k1 k2 k3 hl => by unfold stepS; rw [if_neg (by omega), if_neg (by omega), if_neg (by omega)]; dsimp only; rw [hg]; dsimp only; rw [if_neg k3, if_neg hl]
 refine EvIf.dec (fun k1 => ?_) (fun k1 => EvIf.dec (fun k2 => ?_) (fun k2 => ?_))
 ·exact end_st zx m s.ls L rfl rfl rfl rfl rfl (bad 1 _ (st0 (.inl k1)) rfl)
 ·exact end_st zx m s.ls L rfl rfl rfl rfl rfl (bad 1 _ (st0 (.inr k2)) rfl)
 refine EvIf.beq (fun (k3 : t.kind = 1) => ?_) (fun (k3 : ¬ t.kind = 1) => ?_)
 ·refine (openS_o hS m L t).cal fun q rs hq => ?_
  obtain ⟨rfl, rfl⟩ := hq
  exact end_st zx m (openL s.ls ⟨zx, t.sp, t.no⟩) L rfl rfl rfl rfl rfl ⟨by rw [st1 k3]; rfl, by rw [st1 k3]; exact ⟨m, L, ⟨hm.tm, hm.lm⟩, rfl⟩⟩
 cases hg : getL s.ls t.se with
 | none =>
  refine EvIf.mk (fun _ => ?_) fun hh => by cases hh
  refine EvIf.bne (fun (k4 : t.kind ≠ 2) => ?_) (fun (k4 : t.kind = 2) => ?_)
  ·exact end_st zx m s.ls L rfl rfl rfl rfl rfl (bad 100 _ (stn hg (by omega) (by omega)) rfl)
  refine EvIf.beq (fun (k5 : t.kind = 5) => by omega) (fun _ => ?_)
  refine EvIf.beq (fun _ => ?_) (fun hh => absurd k4 hh)
  refine (renewT_o h.ls t.se t.no).cal fun q rs hq => ?_
  obtain ⟨rfl, rfl⟩ := hq
  exact end_st zx m (renewL s.ls t.se t.no) L rfl rfl rfl rfl rfl ⟨by rw [st2 k4]; rfl, by rw [st2 k4]; exact ⟨m, L, ⟨hm.tm, hm.lm⟩, rfl⟩⟩
 | some x =>
  refine EvIf.mk (fun hh => by cases hh) fun _ => ?_
  have endc : t.kind ≠ 2 → t.kind ≠ 4 → ¬ (t.kind = 5 ∧ x.last ≠ t.no) → stepS ⟨zx, s.t, s.ls, s.la⟩ t = endS ⟨zx, s.t, s.ls, s.la⟩ t.se := fun a b c => ste x hg (by omega) (by omega) b c
  refine EvIf.beq (fun (k5 : t.kind = 5) => ?_) (fun (k5 : ¬ t.kind = 5) => ?_)
  ·refine EvIf.bne (fun (k6 : x.last ≠ t.no) => ?_) (fun (k6 : x.last = t.no) => ?_)
   ·exact end_st zx m s.ls L rfl rfl rfl rfl rfl (bad 1 _ (st5 x hg k5 k6) rfl)
   refine EvIf.beq (fun (hh : t.kind = 2) => by omega) (fun _ => ?_)
   refine EvIf.beq (fun (hh : t.kind = 4) => by omega) (fun _ => ?_)
   have e := endc (by omega) (by omega) (fun hh => hh.2 k6)
   refine (endS_o hS hmS t.se).cal fun q rs hq => ?_
   obtain ⟨rfl, m2, L2, q1, rfl⟩ := hq
   exact end_st zx m2 (closeL s.ls t.se) L2 rfl rfl rfl rfl rfl ⟨by rw [e]; rfl, by rw [e]; exact ⟨m2, L2, q1, rfl⟩⟩
  ·refine EvIf.beq (fun (k6 : t.kind = 2) => ?_) (fun (k6 : ¬ t.kind = 2) => ?_)
   ·refine (renewT_o h.ls t.se t.no).cal fun q rs hq => ?_
    obtain ⟨rfl, rfl⟩ := hq
    exact end_st zx m (renewL s.ls t.se t.no) L rfl rfl rfl rfl rfl ⟨by rw [st2 k6]; rfl, by rw [st2 k6]; exact ⟨m, L, ⟨hm.tm, hm.lm⟩, rfl⟩⟩
   ·refine EvIf.beq (fun (k7 : t.kind = 4) => ?_) (fun (k7 : ¬ t.kind = 4) => ?_)
    ·refine (changeS_o hS hmS t ht hp).cal fun q rs hq => ?_
     obtain ⟨rfl, m2, L2, q1, rfl⟩ := hq
     exact end_st _ m2 _ L2 rfl rfl rfl rfl rfl ⟨by rw [st4 x hg k7]; rfl, by rw [st4 x hg k7]; exact ⟨m2, L2, q1, rfl⟩⟩
    ·have e := endc k6 k7 (fun hh => k5 hh.1)
     refine (endS_o hS hmS t.se).cal fun q rs hq => ?_
     obtain ⟨rfl, m2, L2, q1, rfl⟩ := hq
     exact end_st zx m2 (closeL s.ls t.se) L2 rfl rfl rfl rfl rfl ⟨by rw [e]; rfl, by rw [e]; exact ⟨m2, L2, q1, rfl⟩⟩
end Go.Proofs.YtalfffamppmooaaGreatDoor

/- A part of the proof. -/
import Derived.Test.YtalfffamppmooaaGreatDoorZIf
import Derived.Test.YtalfffamppmooaaGreatDoorSM2
import Derived.Test.YtalfffamppmooaaGreatDoorPM
import Derived.Test.YtalfffamppmooaaGreatDoorZM1
namespace Go.Proofs.YtalfffamppmooaaGreatDoor
open Go.RowKit
set_option maxRecDepth 100000
abbrev tSta : Nat := 92
def gLa (x : RLa) : G := .agg [gI x.nu, gI x.r.code, gI x.r.se, .sl (x.r.ps.map gSt)]
abbrev oS (zx : Int) (m : Mp) (l : List RL) (L : List (Int × G)) : List R := [.blk [gI zx, .ptr 1 0, .ptr 2 0, .mp 3] tSta, .abs (cl (oO m)), .abs (cl (oTs l)), .mpI L]
structure SM (s : RSt) (m : Mp) (L : List (Int × G)) : Prop where
 tm : TM m s.t
 lm : ∀ id, aget L id = (findA s.la id).map gLa
def StP (s : RSt) (rs : List R) : Prop := ∃ m L, SM s m L ∧ rs = oS s.zx m s.ls L
theorem end_st {own : Os} {n : Nat} {g : G} {Q : G → List R → Prop} (zx : Int) (m : Mp) (l : List RL) (L : List (Int × G)) (h0 : look 0 own = some (.blk [gI zx, .ptr 1 0, .ptr 2 0, .mp 3] tSta)) (h1 : look 1 own = some (.abs (cl (oO m)))) (h2 : look 2 own = some (.abs (cl (oTs l)))) (h3 : look 3 own = some (.mpI L)) (hg : (noKeyB g && resB g) = true) (hq : Q g (oS zx m l L)) : ∃ its g', EndK [0, 1, 2, 3] own n g Q its g' := by
 simp only [Bool.and_eq_true] at hg
 exact ⟨[⟨[(0, .blk [gI zx, .ptr 1 0, .ptr 2 0, .mp 3] tSta)], [(0, 0)], false⟩, ⟨[(0, .abs (cl (oO m)))], [(0, 1)], false⟩, ⟨[(0, .abs (cl (oTs l)))], [(0, 2)], false⟩, ⟨[(0, .mpI L)], [(0, 3)], false⟩], g, ⟨⟨⟨_, rfl, h0, rfl⟩, ⟨_, rfl, h1, rfl⟩, ⟨_, rfl, h2, rfl⟩, ⟨_, rfl, h3, rfl⟩, trivial⟩, rfl, ⟨[], rfl⟩, noKeyB_ren hg.1, by rw [noKeyB_key g hg.1, hg.2, noKeyB_N hg.1]; rfl, hq⟩⟩
theorem own_v (r : RRp) (hl : r.ps.length ≤ 100000000) : FnV Tryz.prog 61 [.agg (enRp r)] fun g => g = .agg (enRp r) := by
 refine fnG Tryz.func61 (by kernel_rfl) rfl (Nat.le_of_ble_eq_true (by kernel_rfl)) (by kernel_rfl) ?_
 refine (cloS_o r.ps hl).cal fun q rs hq => ?_
 obtain ⟨rfl, rfl⟩ := hq
 exact rfl
theorem openS_o {s : RSt} (h : WS s) (m : Mp) (L : List (Int × G)) (t : RT) : FnO Tryz.prog 43 [.ptr 0 0, .agg (enT t)] (oS s.zx m s.ls L) fun g rs => g = .agg (enRp (if openE s.ls ⟨s.zx, t.sp, t.no⟩ = 0 then ⟨0, s.zx, []⟩ else rp (openE s.ls ⟨s.zx, t.sp, t.no⟩))) ∧ rs = oS s.zx m (openL s.ls ⟨s.zx, t.sp, t.no⟩) L := by
 refine fnoG Tryz.func43 (by kernel_rfl) rfl (Nat.le_of_ble_eq_true (by kernel_rfl)) (by kernel_rfl) (lent_id _ _) ?_
 refine (openT_o h.ls s.zx t.sp t.no).cal fun q rs hq => ?_
 obtain ⟨rfl, rfl⟩ := hq
 refine EvIf.bne (fun h1 => ?_) (fun h1 => ?_)
 ·rw [if_neg h1]
  exact end_st s.zx m (openL s.ls ⟨s.zx, t.sp, t.no⟩) L rfl rfl rfl rfl rfl ⟨rfl, rfl⟩
 ·rw [if_pos h1]
  exact end_st s.zx m (openL s.ls ⟨s.zx, t.sp, t.no⟩) L rfl rfl rfl rfl rfl ⟨rfl, rfl⟩
theorem endS_o {s : RSt} (h : WS s) {m : Mp} {L : List (Int × G)} (hm : SM s m L) (id : Int) : FnO Tryz.prog 46 [.ptr 0 0, gI id] (oS s.zx m s.ls L) fun g rs => g = .tup [.agg (enRp (endS s id).r), .sl ((endS s id).ev.map enE)] ∧ StP (endS s id).s rs := by
 refine fnoG Tryz.func46 (by kernel_rfl) rfl (Nat.le_of_ble_eq_true (by kernel_rfl)) (by kernel_rfl) (lent_id _ _) ?_
 refine (end_o hm.tm h.t s.zx id).cal fun q rs hq => ?_
 obtain ⟨m2, q1, rfl, rfl⟩ := hq
 refine (closeT_o h.ls id).cal fun q rs hq => ?_
 obtain ⟨rfl, rfl⟩ := hq
 refine end_st s.zx m2 (closeL s.ls id) (adel L id) rfl rfl rfl rfl rfl ⟨rfl, m2, adel L id, ⟨q1, fun k => ?_⟩, rfl⟩
 rw [aget_del, hm.lm]
 show _ = (findA (forgA s.la id) k).map gLa
 rw [forg_find]
 split <;> rfl
theorem changeS_o {s : RSt} (h : WS s) {m : Mp} {L : List (Int × G)} (hm : SM s m L) (t : RT) (ht : t.l.length ≤ 2000000) (hp : ∀ c ∈ t.l, c.path.size ≤ maxZ) : FnO Tryz.prog 45 [.ptr 0 0, .agg (enT t)] (oS s.zx m s.ls L) fun g rs => g = .tup [.agg (enRp (changeS s t).r), .sl ((changeS s t).ev.map enE)] ∧ StP (changeS s t).s rs := by
 refine fnoG Tryz.func45 (by kernel_rfl) rfl (Nat.le_of_ble_eq_true (by kernel_rfl)) (by kernel_rfl) (lent_id _ _) ?_
 have hlm := hm.lm t.se
 have hbd : badN s t = true ↔ (t.nu < 1 ∨ t.nu > big ∨ t.nu < (findS s t.se).nu ∨ t.l.length > 6) := by unfold badN; exact decide_eq_true_iff
 have e1 : badN s t = true → changeS s t = ⟨s, rp 1, []⟩ := fun hb => by unfold changeS; rw [if_pos hb]
 have e3 : ¬ badN s t = true → ¬ t.nu = (findS s t.se).nu → changeS s t = ⟨⟨s.zx, (doZ s.t s.zx t.se t.l).t, s.ls, forgA s.la t.se ++ [⟨t.se, t.nu, ⟨(doZ s.t s.zx t.se t.l).e, 0, (doZ s.t s.zx t.se t.l).ps⟩⟩]⟩, ⟨(doZ s.t s.zx t.se t.l).e, 0, (doZ s.t s.zx t.se t.l).ps⟩, (doZ s.t s.zx t.se t.l).ev⟩ := fun hb h5 => by unfold changeS; rw [if_neg hb, if_neg h5]
 have hps := do_psS s.t s.zx t.se t.l
 have fin3 : ∀ m2, TM m2 (doZ s.t s.zx t.se t.l).t → ¬ badN s t = true → ¬ t.nu = (findS s t.se).nu → StP (changeS s t).s (oS s.zx m2 s.ls (aput L t.se (gLa ⟨t.se, t.nu, ⟨(doZ s.t s.zx t.se t.l).e, 0, (doZ s.t s.zx t.se t.l).ps⟩⟩))) := fun m2 q1 hb h5 => by
  rw [e3 hb h5]
  refine ⟨m2, _, ⟨q1, fun k => ?_⟩, rfl⟩
  rw [aget_put, hm.lm, show findA (RSt.mk s.zx (doZ s.t s.zx t.se t.l).t s.ls (forgA s.la t.se ++ [⟨t.se, t.nu, ⟨(doZ s.t s.zx t.se t.l).e, 0, (doZ s.t s.zx t.se t.l).ps⟩⟩])).la k = _ from app_find (x := ⟨t.se, t.nu, ⟨(doZ s.t s.zx t.se t.l).e, 0, (doZ s.t s.zx t.se t.l).ps⟩⟩)]
  split <;> rfl
 have bad : badN s t = true → ∀ g, g = G.tup [.agg (enRp (rp 1)), .sl []] → g = G.tup [.agg (enRp (changeS s t).r), .sl ((changeS s t).ev.map enE)] ∧ StP (changeS s t).s (oS s.zx m s.ls L) := fun hb g hg => by
  rw [e1 hb, hg]; exact ⟨rfl, m, L, hm, rfl⟩
 cases hf : findA s.la t.se with
 | none =>
  have hw : findS s t.se = ⟨t.se, 0, rp 0⟩ := by unfold findS; rw [hf]; rfl
  rw [hw] at hbd e3 fin3
  rw [hf] at hlm
  refine ⟨fun g e => (by rw [hlm] at e; cases e), fun _ => ?_⟩
  by_cases hb : badN s t = true
  ·have hb' := hb
   rw [hbd] at hb'
   unfold big at hb'
   refine EvIf.dec (fun h1 => ?_) (fun h1 => EvIf.dec (fun h2 => ?_) (fun h2 => EvIf.dec (fun h3 => ?_) (fun h3 => EvIf.dec (fun h4 => ?_) (fun h4 => ?_))))
   ·exact end_st s.zx m s.ls L rfl rfl rfl rfl rfl (bad hb _ rfl)
   ·exact end_st s.zx m s.ls L rfl rfl rfl rfl rfl (bad hb _ rfl)
   ·exact end_st s.zx m s.ls L rfl rfl rfl rfl rfl (bad hb _ rfl)
   ·exact end_st s.zx m s.ls L rfl rfl rfl rfl rfl (bad hb _ rfl)
   ·simp at h4; dsimp only at hb'; omega
  ·have hb' := hb
   rw [hbd] at hb'
   unfold big at hb'
   refine EvIf.dec (fun h1 => absurd (.inl h1) hb') (fun h1 => EvIf.dec (fun h2 => absurd (.inr (.inl h2)) hb') (fun h2 => EvIf.dec (fun h3 => absurd (.inr (.inr (.inl h3))) hb') (fun h3 => EvIf.dec (fun h4 => absurd (.inr (.inr (.inr (by simp at h4; omega)))) hb') (fun h4 => ?_))))
   refine EvIf.beq (fun (h5 : t.nu = 0) => absurd (.inl (by omega)) hb') (fun (h5 : ¬ t.nu = 0) => ?_)
   refine (do_o hm.tm h.t s.zx t.se t.l ht hp).cal fun q rs hq => ?_
   obtain ⟨m2, q1, rfl, rfl⟩ := hq
   refine (own_v ⟨(doZ s.t s.zx t.se t.l).e, 0, (doZ s.t s.zx t.se t.l).ps⟩ (by show (doZ s.t s.zx t.se t.l).ps.length ≤ _; omega)).cal fun q hq => ?_
   subst hq
   refine end_st s.zx m2 s.ls (aput L t.se (gLa ⟨t.se, t.nu, ⟨(doZ s.t s.zx t.se t.l).e, 0, (doZ s.t s.zx t.se t.l).ps⟩⟩)) rfl rfl rfl rfl rfl ⟨?_, fin3 m2 q1 hb h5⟩
   rw [e3 hb h5]; rfl
 | some x =>
  have hw : findS s t.se = x := by unfold findS; rw [hf]; rfl
  have hx6 := h.la.ps x (findA_se hf).1
  have e2 : ¬ badN s t = true → t.nu = x.nu → changeS s t = ⟨s, x.r, []⟩ := fun hb h5 => by unfold changeS; rw [if_neg hb, hw, if_pos h5]
  rw [hw] at hbd e3 fin3
  rw [hf] at hlm
  refine ⟨fun g e => ?_, fun e => by rw [hlm] at e; cases e⟩
  rw [hlm] at e
  cases e
  by_cases hb : badN s t = true
  ·have hb' := hb
   rw [hbd] at hb'
   unfold big at hb'
   refine EvIf.dec (fun h1 => ?_) (fun h1 => EvIf.dec (fun h2 => ?_) (fun h2 => EvIf.dec (fun h3 => ?_) (fun h3 => EvIf.dec (fun h4 => ?_) (fun h4 => ?_))))
   ·exact end_st s.zx m s.ls L rfl rfl rfl rfl rfl (bad hb _ rfl)
   ·exact end_st s.zx m s.ls L rfl rfl rfl rfl rfl (bad hb _ rfl)
   ·exact end_st s.zx m s.ls L rfl rfl rfl rfl rfl (bad hb _ rfl)
   ·exact end_st s.zx m s.ls L rfl rfl rfl rfl rfl (bad hb _ rfl)
   ·simp at h4; omega
  ·have hb' := hb
   rw [hbd] at hb'
   unfold big at hb'
   refine EvIf.dec (fun h1 => absurd (.inl h1) hb') (fun h1 => EvIf.dec (fun h2 => absurd (.inr (.inl h2)) hb') (fun h2 => EvIf.dec (fun h3 => absurd (.inr (.inr (.inl h3))) hb') (fun h3 => EvIf.dec (fun h4 => absurd (.inr (.inr (.inr (by simp at h4; omega)))) hb') (fun h4 => ?_))))
   refine EvIf.beq (fun (h5 : t.nu = x.nu) => ?_) (fun (h5 : ¬ t.nu = x.nu) => ?_)
   ·refine (own_v x.r (by omega)).cal fun q hq => ?_
    subst hq
    exact end_st s.zx m s.ls L rfl rfl rfl rfl rfl ⟨by rw [e2 hb h5]; rfl, by rw [e2 hb h5]; exact ⟨m, L, hm, rfl⟩⟩
   refine (do_o hm.tm h.t s.zx t.se t.l ht hp).cal fun q rs hq => ?_
   obtain ⟨m2, q1, rfl, rfl⟩ := hq
   refine (own_v ⟨(doZ s.t s.zx t.se t.l).e, 0, (doZ s.t s.zx t.se t.l).ps⟩ (by show (doZ s.t s.zx t.se t.l).ps.length ≤ _; omega)).cal fun q hq => ?_
   subst hq
   refine end_st s.zx m2 s.ls (aput L t.se (gLa ⟨t.se, t.nu, ⟨(doZ s.t s.zx t.se t.l).e, 0, (doZ s.t s.zx t.se t.l).ps⟩⟩)) rfl rfl rfl rfl rfl ⟨?_, fin3 m2 q1 hb h5⟩
   rw [e3 hb h5]; rfl
end Go.Proofs.YtalfffamppmooaaGreatDoor

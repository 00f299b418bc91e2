/- A part of the proof. -/
import Derived.Test.YtifdeajdlhgglaaGreatDoorLM
namespace Go.Proofs.YtifdeajdlhgglaaGreatDoor
open Go.RowKit
set_option maxRecDepth 100000
theorem do_bad {T : List RZ} {zx se : Int} {l : List RC} (h : (doZ T zx se l).e ≠ 0) : (doZ T zx se l).t = T := by
 unfold doZ at h ⊢
 split
 ·rename_i h1
  rw [if_pos h1] at h
  split
  ·rename_i h2
   rw [if_pos h2] at h
   exact absurd h2 h
  ·rfl
 ·rfl
theorem do_good {T : List RZ} {zx se : Int} {l : List RC} (h : (doZ T zx se l).e = 0) : (inZ zx = true ∧ inZ se = true) ∧ (runZ zx se l ⟨T, [], [], 0⟩).e = 0 ∧ doZ T zx se l = runZ zx se l ⟨T, [], [], 0⟩ := by
 unfold doZ at h ⊢
 by_cases h1 : inZ zx = true ∧ inZ se = true
 ·rw [if_pos h1] at h ⊢
  by_cases h2 : (runZ zx se l ⟨T, [], [], 0⟩).e = 0
  ·rw [if_pos h2]; exact ⟨h1, h2, rfl⟩
  ·rw [if_neg h2] at h; exact absurd h h2
 ·rw [if_neg h1] at h; exact absurd h (by show ¬ (1 : Int) = 0; decide)
theorem run_pre {zx se : Int} : ∀ (l : List RC) (a : RAns), (runZ zx se l a).e = 0 → ∃ s, (runZ zx se l a).ps = a.ps ++ s
 | [], a, _ => ⟨[], by simp [runZ]⟩
 | c :: l, a, h => by
  unfold runZ at h ⊢
  by_cases h1 : (oneZ a.t zx se c).e = 0
  ·rw [if_pos h1] at h ⊢
   obtain ⟨s, hs⟩ := run_pre l _ h
   exact ⟨_, by rw [hs, List.append_assoc]⟩
  ·rw [if_neg h1] at h; exact absurd h h1
theorem do_one {T : List RZ} {zx se : Int} (hz : inZ zx = true ∧ inZ se = true) {c : RC} (h : (oneZ T zx se c).e = 0) : doZ T zx se [c] = ⟨(oneZ T zx se c).t, [(oneZ T zx se c).path], (oneZ T zx se c).ev, 0⟩ := by
 unfold doZ
 rw [if_pos hz]
 have : runZ zx se [c] ⟨T, [], [], 0⟩ = ⟨(oneZ T zx se c).t, [(oneZ T zx se c).path], (oneZ T zx se c).ev, 0⟩ := by
  simp only [runZ]
  rw [if_pos h]
  rfl
 rw [this, if_pos rfl]
theorem cloneC {m : Mp} : FnO Tryz.prog 22 [.ptr 0 0] (cP m) fun g rs => g = .ptr 1 0 ∧ rs = [.abs (cl (oO m)), .abs (cl (oO m))] := cloneC_o m
structure AInv (zx se : Int) (T : List RZ) (l : List RC) (x : Nat × List RZ × Mp × List ByteArray × List RE) : Prop where
 inv : DoInv zx se T l (x.1, x.2.1, x.2.2.2.1, x.2.2.2.2)
 tm : TM x.2.2.1 x.2.1
set_option maxHeartbeats 2000000 in
theorem ztreeAtomic_v (l : List ROp) (hO : SmS l) (a b : Int) (c : List RC) (hcl : c.length ≤ 1048576) (hcp : ∀ x ∈ c, x.path.size ≤ maxZ) : FnV Tryz.prog 5 [.sl (l.map enOp), .agg [gI a, gI b], .sl (c.map enC)] fun q => q = .v (.bool true) := by
 refine fnG Tryz.func5 (by kernel_rfl) rfl (Nat.le_of_ble_eq_true (by kernel_rfl)) (by kernel_rfl) ?_
 refine (new_o).cal fun q rs hq => ?_
 obtain ⟨rfl, rfl⟩ := hq
 refine (few_q l hO.few).cal fun q hq => ?_
 subst hq
 by_cases hb : fewN l ≤ 300
 ·rw [decide_eq_true hb]
  refine EvIf.mk (fun hh => by cases hh) fun _ => ?_
  refine EvIf.dec (fun h1 => ?_) (fun h1 => ?_)
  ·refine (alive_v).cal fun q hq => ?_
   subst hq
   exact rfl
  have hc : c.length ≤ 30 := by simp at h1; omega
  refine (new_r).cal fun q hq => ?_
  subst hq
  refine (plays_o tm_new wz_new l (hO.len hb) hO.ops).cal fun q rs hq => ?_
  obtain ⟨m, hM, rfl, rfl⟩ := hq
  have hw := wz_play wz_new l
  generalize playZ [zRoot] l = T at *
  refine EvIf.mk (fun hh => by cases hh) fun _ => ?_
  refine (cloneC (m := m)).cal fun q rs hq => ?_
  obtain ⟨rfl, rfl⟩ := hq
  refine ⟨by decide, ⟨by decide, ?_⟩⟩
  refine (do_o hM hw a b c (by omega) hcp).cal fun q rs hq => ?_
  obtain ⟨m2, q1, rfl, rfl⟩ := hq
  refine EvIf.bne (fun (hk : (doZ T a b c).e ≠ 0) => ?_) (fun (hk : (doZ T a b c).e = 0) => ?_)
  ·rw [do_bad hk] at q1
   refine (alive_v).cal fun q hq => ?_
   subst hq
   refine EvIf.mk (fun _ => ?_) fun hh => by cases hh
   refine (stands_o q1 hw).cal fun q rs hq => ?_
   obtain ⟨rfl, rfl⟩ := hq
   exact rfl
  ·obtain ⟨hz, he, hX⟩ := do_good hk
   rw [hX] at q1 ⊢
   obtain ⟨X, hX⟩ : ∃ X, X = runZ a b c ⟨T, [], [], 0⟩ := ⟨_, rfl⟩
   rw [← hX] at q1 he ⊢
   refine sx_loop [4, 7, 10, 11, 69, 70] [0, 1] (fun x : Nat × List RZ × Mp × List ByteArray × List RE => [(71, gI x.1)]) (fun x => [(2, .abs (cl (oO x.2.2.1)))]) (AInv a b T c) (fun x => c.length - x.1) (0, T, m, [], []) ⟨⟨by simp, hw, rfl, by simp, rfl⟩, hM⟩ ⟨⟨rfl, rfl⟩, trivial⟩ ⟨⟨rfl, rfl, rfl⟩, trivial⟩ rfl fun ⟨i, t, m', ps, ev⟩ ⟨hI, hM⟩ => ?_
   have hw' := hI.wz
   have hps := hI.ps
   have hrun := hI.run
   have hle := hI.le
   dsimp only at hw' hps hrun hle hM
   refine EvIf.dec (fun h1 => ?_) (fun h1 => ?_)
   ·refine EvIdx.of (by simpa using h1) fun d hx => ?_
    have hlt := lt_of_at hx
    rw [runZ_step hx] at hrun
    by_cases h2 : (oneZ t a b d).e = 0
    ·rw [if_pos h2] at hrun
     have hd := do_one hz h2
     refine ⟨by decide, ⟨by decide, ?_⟩⟩
     refine (do_o hM hw' a b [d] (by simp) fun x hx2 => by have := hcp d (List.mem_of_getElem? hx); simp at hx2; subst hx2; exact this).cal fun q rs hq => ?_
     obtain ⟨m3, q3, rfl, rfl⟩ := hq
     rw [hd] at q3 ⊢
     have hpi : X.ps[i]? = some (oneZ t a b d).path := by
      obtain ⟨s, hs⟩ := run_pre _ _ (by rw [← hrun, ← hX]; exact he)
      rw [hX, hrun, hs, List.append_assoc, List.getElem?_append_right (by dsimp only; omega)]
      simp [hps]
     refine EvIf.bne (fun h => absurd rfl h) fun _ => ?_
     refine EvIf.mk (fun hh => by cases hh) fun _ => ?_
     refine EvIdx.at (x := (oneZ t a b d).path) rfl ?_
     refine EvIdx.at hpi ?_
     refine EvIf.mk (fun hh => by simp at hh) fun _ => ?_
     have hev := hI.ev
     have hev2 := one_ev t a b d
     dsimp only at hev
     refine ⟨by dsimp only; omega, (i + 1, (oneZ t a b d).t, m3, ps ++ [(oneZ t a b d).path], ev ++ (oneZ t a b d).ev), ⟨⟨by dsimp only; omega, wz_one hw' hz.1 hz.2 h2, by simp [hps], by simp; omega, hrun⟩, q3⟩, (by dsimp only; omega), ?_⟩
     refine ⟨?_, ?_, rfl⟩ <;> repeat' (first | exact True.intro | with_reducible rfl | exact rfl | refine And.intro ?_ ?_)
    ·rw [if_neg h2] at hrun
     exact absurd (by rw [hX, hrun] at he; exact he) h2
   ·have hk : i = c.length := by simp at h1; omega
    subst hk
    rw [List.drop_length, runZ] at hrun
    rw [hX, hrun] at q1
    refine (alive_v).cal fun q hq => ?_
    subst hq
    refine EvIf.mk (fun _ => ?_) fun hh => by cases hh
    refine (allC q1 hw').cal fun q rs hq => ?_
    obtain ⟨_, ⟨rfl, rfl⟩, rfl⟩ := hq
    refine (allC hM hw').cal fun q rs hq => ?_
    obtain ⟨_, ⟨rfl, rfl⟩, rfl⟩ := hq
    have hlen := hw'.len
    refine (same_r _ (by dsimp only; omega)).cal fun q hq => ?_
    subst hq
    exact rfl
 ·rw [decide_eq_false hb]
  refine EvIf.mk (fun _ => ?_) fun hh => by cases hh
  refine (alive_v).cal fun q hq => ?_
  subst hq
  exact rfl
end Go.Proofs.YtifdeajdlhgglaaGreatDoor

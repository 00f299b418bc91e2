/- A part of the proof. -/
import Derived.Test.YtifdeajdlhgglaaDoorLM
namespace Go.Proofs.YtifdeajdlhgglaaDoor
open Go.RowKit
set_option maxRecDepth 100000
structure ShI (l : List ROp) (x : Nat × List RZ × Mp) : Prop where
 le : x.1 ≤ l.length
 wz : Wz x.2.1
 tm : TM x.2.2 x.2.1
set_option maxHeartbeats 2000000 in
theorem ztreeShape_v (l : List ROp) (hO : SmS l) : FnV Tryd.prog 3 [.sl (l.map enOp)] fun q => q = .v (.bool true) := by
 refine fnG Tryd.func3 (by kernel_rfl) rfl (Nat.le_of_ble_eq_true (by kernel_rfl)) (by kernel_rfl) ?_
 refine (new_o).cal fun q rs hq => ?_
 obtain ⟨rfl, rfl⟩ := hq
 refine EvIf.dec (fun h1 => ?_) (fun h1 => ?_)
 ·refine (alive_v).cal fun q hq => ?_
  subst hq
  exact rfl
 have hl : l.length ≤ 1000 := by simp at h1; omega
 refine sx_loop [3, 26, 27] [] (fun x : Nat × List RZ × Mp => [(28, gI x.1)]) (fun x => [(0, .abs (cl (oO x.2.2)))]) (ShI l) (fun x => l.length - x.1) (0, [zRoot], [(rootS, gz zRoot)]) ⟨by simp, wz_new, tm_new⟩ ⟨⟨rfl, rfl⟩, trivial⟩ ⟨⟨rfl, rfl, rfl⟩, trivial⟩ rfl fun ⟨i, t, m'⟩ hI => ?_
 have hle : i ≤ l.length := hI.le
 have hw' : Wz t := hI.wz
 have hM : TM m' t := hI.tm
 refine EvIf.dec (fun h1 => ?_) (fun h1 => ?_)
 ·refine EvIdx.of (by simpa using h1) fun o ho => ?_
  have hlt := lt_of_at ho
  have hs := hO.ops o (List.mem_of_getElem? ho)
  refine EvIf.dec (fun h2 => ?_) (fun h2 => ?_)
  ·refine (alive_v).cal fun q hq => ?_
   subst hq
   exact rfl
  refine EvIf.beq (fun (hk : o.kind = 1) => ?_) (fun (hk : ¬ o.kind = 1) => ?_)
  ·refine (end_o hM hw' o.zx o.se).cal fun q rs hq => ?_
   obtain ⟨m2, q1, rfl, rfl⟩ := hq
   refine ⟨by dsimp only; omega, (i + 1, (endZ t o.zx o.se).1, m2), ⟨by dsimp only; omega, wz_end hw' _ _, q1⟩, (by dsimp only; omega), ?_⟩
   refine ⟨?_, ?_, rfl⟩ <;> repeat' (first | exact True.intro | with_reducible rfl | exact rfl | refine And.intro ?_ ?_)
  ·refine (do_o hM hw' o.zx o.se o.l hs.len hs.path).cal fun q rs hq => ?_
   obtain ⟨m2, q1, rfl, rfl⟩ := hq
   refine ⟨by dsimp only; omega, (i + 1, (doZ t o.zx o.se o.l).t, m2), ⟨by dsimp only; omega, wz_do hw' _ _ _, q1⟩, (by dsimp only; omega), ?_⟩
   refine ⟨?_, ?_, rfl⟩ <;> repeat' (first | exact True.intro | with_reducible rfl | exact rfl | refine And.intro ?_ ?_)
 ·refine (allC hM hw').cal fun q rs hq => ?_
  obtain ⟨_, ⟨rfl, rfl⟩, rfl⟩ := hq
  have hsm := wz_sm hw'
  have hlen := hw'.len
  refine sx_loop [3, 6, 57, 58] [0] (fun i : Nat => [(59, gI i)]) (fun _ => []) (fun i => i ≤ t.length) (fun i => t.length - i) 0 (by omega) ⟨⟨rfl, rfl⟩, trivial⟩ trivial rfl fun i hi => ?_
  refine EvIf.dec (fun h1 => ?_) (fun h1 => ?_)
  ·refine EvIdx.of (by simpa using h1) fun z hx => ?_
   have hlt := lt_of_at hx
   have hzm : z ∈ t := List.mem_of_getElem? hx
   have hps := hsm.path z hzm
   refine (parent_r z.path (by unfold maxZ; omega)).cal fun q hq => ?_
   subst hq
   refine (getC hM (parentZ z.path).1).cal fun q rs hq => ?_
   obtain ⟨_, ⟨rfl, rfl⟩, rfl⟩ := hq
   cases hu : (parentZ z.path).2 with
   | true =>
    obtain ⟨p, hp1, hp2, hp3⟩ := hw'.up z hzm hu
    have hg : getZ t (parentZ z.path).1 = some p := (get_iff hw'.srt).2 ⟨hp1, hp2⟩
    rw [hg]
    refine EvIf.mk (fun _ => ?_) fun hh => by cases hh
    refine EvIf.mk (fun hh => by cases hh) fun _ => ?_
    refine EvIf.bne (fun hh => absurd hp3 hh) fun _ => ?_
    refine ⟨by omega, i + 1, by show i + 1 ≤ t.length; omega, (by show t.length - (i + 1) < t.length - i; omega), ?_⟩
    refine ⟨?_, ?_, rfl⟩ <;> repeat' (first | exact True.intro | with_reducible rfl | exact rfl | refine And.intro ?_ ?_)
   | false =>
    refine EvIf.mk (fun hh => by cases hh) fun _ => ?_
    refine ⟨by omega, i + 1, by show i + 1 ≤ t.length; omega, (by show t.length - (i + 1) < t.length - i; omega), ?_⟩
    refine ⟨?_, ?_, rfl⟩ <;> repeat' (first | exact True.intro | with_reducible rfl | exact rfl | refine And.intro ?_ ?_)
  ·refine (alive_v).cal fun q hq => ?_
   subst hq
   refine EvIf.mk (fun _ => ?_) fun hh => by cases hh
   refine EvIf.dec (fun _ => ?_) (fun h => absurd hlen (by simp at h; omega))
   refine (check_r t hsm.len fun z hz => by have := hsm.path z hz; unfold maxZ; omega).cal fun q hq => ?_
   subst hq
   rw [check_of_wz hw']
   exact rfl
end Go.Proofs.YtifdeajdlhgglaaDoor

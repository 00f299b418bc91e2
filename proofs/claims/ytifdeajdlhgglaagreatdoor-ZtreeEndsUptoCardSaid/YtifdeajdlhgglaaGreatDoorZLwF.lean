/- A part of the proof. -/
import Derived.Test.YtifdeajdlhgglaaGreatDoorLM
import Derived.Test.YtifdeajdlhgglaaGreatDoorZLwFa
namespace Go.Proofs.YtifdeajdlhgglaaGreatDoor
open Go.RowKit
set_option maxRecDepth 100000
set_option maxHeartbeats 2000000 in
theorem ztreeEnds_v (l : List ROp) (hO : SmS l) (a b : Int) : FnV Tryz.prog 6 [.sl (l.map enOp), gI a, gI b] fun q => q = .v (.bool true) := by
 refine fnG Tryz.func6 (by kernel_rfl) rfl (Nat.le_of_ble_eq_true (by kernel_rfl)) (by kernel_rfl) ?_
 refine (new_o).cal fun q rs hq => ?_
 obtain ⟨rfl, rfl⟩ := hq
 refine (few_q l hO.few).cal fun q hq => ?_
 subst hq
 by_cases hb : fewN l ≤ 300
 ·rw [decide_eq_true hb]
  refine EvIf.mk (fun hh => by cases hh) fun _ => ?_
  refine (new_r).cal fun q hq => ?_
  subst hq
  refine (plays_o tm_new wz_new l (hO.len hb) hO.ops).cal fun q rs hq => ?_
  obtain ⟨m, hM, rfl, rfl⟩ := hq
  have hw := wz_play wz_new l
  generalize playZ [zRoot] l = T at *
  refine (allC hM hw).cal fun q rs hq => ?_
  obtain ⟨_, ⟨rfl, rfl⟩, rfl⟩ := hq
  refine (end_o hM hw a b).cal fun q rs hq => ?_
  obtain ⟨m2, hM2, rfl, rfl⟩ := hq
  have bad : ¬ (0 ≤ a ∧ a ≤ 4611686018427387904 ∧ 1 ≤ b ∧ b ≤ 4611686018427387904) → endZ T a b = (T, []) := fun h => end_nil fun ⟨h2, h3, h4⟩ => by
   rw [in_iff] at h2 h3
   unfold big at *
   omega
  by_cases hok : 0 ≤ a ∧ a ≤ 4611686018427387904 ∧ 1 ≤ b ∧ b ≤ 4611686018427387904
  ·refine EvIf.dec (fun h1 => absurd hok.1 (by omega)) (fun _ => ?_)
   refine EvIf.dec (fun h1 => absurd hok.2.1 (by omega)) (fun _ => ?_)
   refine EvIf.dec (fun h1 => absurd hok.2.2.1 (by omega)) (fun _ => ?_)
   refine EvIf.dec (fun h1 => absurd hok.2.2.2 (by omega)) (fun _ => ?_)
   have hz : inZ a = true := in_iff.2 ⟨hok.1, hok.2.1⟩
   have hs : inZ b = true := in_iff.2 ⟨by omega, hok.2.2.2⟩
   have hne : ∀ z ∈ T, isOwn b z = decide (z.ow = b) := fun z _ => by
    unfold isOwn
    have : b ≠ 0 := by omega
    simp [this]
   have hlen := hw.len
   have hcnt : (ownedZ T b).length = T.countP (isOwn b) := by
    unfold ownedZ
    rw [List.length_map, List.countP_eq_length_filter]
   have hcl : ∀ i, (T.take i).countP (isOwn b) ≤ 200 := fun i => by
    have h1 := List.countP_le_length (p := isOwn b) (l := T.take i)
    rw [List.length_take] at h1
    omega
   have hev : (endZ T a b).2.length = 2 * T.countP (isOwn b) := by
    rw [(end_evs hz hs).2, endL_len, hcnt]; simp
   refine sx_loop [2, 7, 9, 64, 65] [0] (fun i : Nat => [(66, gI i), (10, gI ((T.take i).countP (isOwn b) : Nat))]) (fun _ => []) (fun i => i ≤ T.length) (fun i => T.length - i) 0 (by omega) ⟨⟨rfl, rfl⟩, ⟨rfl, rfl⟩, trivial⟩ trivial rfl fun i hi => ?_
   refine EvIf.dec (fun h1 => ?_) (fun h1 => ?_)
   ·refine EvIdx.of (by simpa using h1) fun z hx => ?_
    have hlt := lt_of_at hx
    have hzm : z ∈ T := List.mem_of_getElem? hx
    have hct := countP_take (p := isOwn b) hx
    refine (getC hM2 z.path).cal fun q rs hq => ?_
    obtain ⟨_, ⟨rfl, rfl⟩, rfl⟩ := hq
    have hc1 := hcl i
    cases ho : isOwn b z with
    | true =>
     rw [ho] at hct
     rw [end_is hw hz hs hzm ho]
     rw [hne z hzm] at ho
     refine EvIf.mk (fun hh => by simp [of_decide_eq_true ho] at hh) fun _ => ?_
     refine EvIf.mk (fun _ => ?_) fun hh => by cases hh
     refine ⟨by omega, ⟨by omega, i + 1, by show i + 1 ≤ T.length; omega, (by show T.length - (i + 1) < T.length - i; omega), ?_⟩⟩
     refine ⟨?_, ?_, rfl⟩ <;> repeat' (first | exact True.intro | with_reducible rfl | exact rfl | refine And.intro ?_ ?_)
     exact eqI (by rw [hct]; simp)
    | false =>
     rw [ho] at hct
     obtain ⟨x, hx1, hx2⟩ := end_not hw hz hs hzm ho
     rw [hx1]
     rw [hne z hzm] at ho
     refine EvIf.mk (fun hh => by simp [of_decide_eq_false ho] at hh) fun _ => ?_
     refine EvIf.mk (fun hh => by cases hh) fun _ => ?_
     obtain ⟨f1, f2, f3, f4, f5, f6, f7⟩ := hx2.flds
     have ex : [Value.string x.path, Value.string x.data, Value.int .i64 x.cr, Value.int .i64 x.ch, Value.int .i64 z.ci, Value.int .i64 x.ve, Value.int .i64 z.ki, Value.int .i64 x.ow, Value.int .i64 x.nx] = [Value.string z.path, Value.string z.data, Value.int .i64 z.cr, Value.int .i64 z.ch, Value.int .i64 z.ci, Value.int .i64 z.ve, Value.int .i64 z.ki, Value.int .i64 z.ow, Value.int .i64 z.nx] := by
      rw [f1, f2, f3, f4, f5, f6, f7]
     refine EvEq.flat [.s, .s, .i .i64, .i .i64, .i .i64, .i .i64, .i .i64, .i .i64, .i .i64] [_, _, _, _, _, _, _, _, _] [_, _, _, _, _, _, _, _, _] (by kernel_rfl) (by kernel_rfl) (by kernel_rfl) rfl rfl rfl rfl (fun _ => ?_) (fun h => absurd ex h)
     refine EvIf.mk (fun hh => by cases hh) fun _ => ?_
     refine ⟨by omega, i + 1, by show i + 1 ≤ T.length; omega, (by show T.length - (i + 1) < T.length - i; omega), ?_⟩
     refine ⟨?_, ?_, rfl⟩ <;> repeat' (first | exact True.intro | with_reducible rfl | exact rfl | refine And.intro ?_ ?_)
     exact eqI (by rw [hct]; simp)
   ·have hk : i = T.length := by simp at h1; omega
    subst hk
    rw [List.take_length]
    refine (alive_v).cal fun q hq => ?_
    subst hq
    refine EvIf.mk (fun _ => ?_) fun hh => by cases hh
    refine (ownedC hM2 (wz_end hw a b) b).cal fun q rs hq => ?_
    obtain ⟨_, ⟨rfl, rfl⟩, rfl⟩ := hq
    rw [end_all hw hz hs]
    refine EvIf.mk (fun _ => ?_) fun hh => by cases hh
    have := hcl T.length
    rw [List.take_length] at this
    refine ⟨by omega, ?_⟩
    rw [List.length_map, hev]
    exact congrArg (fun x => G.v (Value.bool x)) (by simp)
  ·rw [bad hok] at hM2 ⊢
   have hlen := hw.len
   refine EvIf.dec (fun h1 => ?_) (fun h1 => EvIf.dec (fun h2 => ?_) (fun h2 => EvIf.dec (fun h3 => ?_) (fun h3 => EvIf.dec (fun h4 => ?_) (fun h4 => absurd ⟨by omega, by omega, by omega, by omega⟩ hok))))
   all_goals
    refine (alive_v).cal fun q hq => ?_
    subst hq
    refine EvIf.mk (fun _ => ?_) fun hh => by cases hh
    refine EvIf.mk (fun _ => ?_) fun hh => by cases hh
    refine (allC hM2 hw).cal fun q rs hq => ?_
    obtain ⟨_, ⟨rfl, rfl⟩, rfl⟩ := hq
    refine (same_r _ (by dsimp only; omega)).cal fun q hq => ?_
    subst hq
    exact rfl
 ·rw [decide_eq_false hb]
  refine EvIf.mk (fun _ => ?_) fun hh => by cases hh
  refine (alive_v).cal fun q hq => ?_
  subst hq
  exact rfl
end Go.Proofs.YtifdeajdlhgglaaGreatDoor

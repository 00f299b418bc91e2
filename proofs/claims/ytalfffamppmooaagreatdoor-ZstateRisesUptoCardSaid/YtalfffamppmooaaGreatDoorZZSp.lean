/- A part of the proof. -/
import Derived.Test.YtalfffamppmooaaGreatDoorZZSl
namespace Go.Proofs.YtalfffamppmooaaGreatDoor
open Go.RowKit
set_option maxRecDepth 100000
structure RisI (l : List ROS) (x : Nat × RSt × Mp × List (Int × G)) : Prop where
 le : x.1 ≤ l.length
 ws : WS x.2.1
 sm : SM x.2.1 x.2.2.1 x.2.2.2
 la : x.2.1.la.length ≤ x.1
set_option maxHeartbeats 2000000 in
theorem zstateRises_v (l : List ROS) (hO : SmS11 l) (o : ROS) (ho : SmT11 o.t) : FnV Tryz.prog 5 [.sl (l.map enOS), .agg (enOS o)] fun q => q = .v (.bool true) := by
 refine fnG Tryz.func5 (by kernel_rfl) rfl (Nat.le_of_ble_eq_true (by kernel_rfl)) (by kernel_rfl) ?_
 refine (newS_o).cal fun q rs hq => ?_
 obtain ⟨rfl, m, L, hm, rfl⟩ := hq
 refine (few11_v l hO.len).cal fun q hq => ?_
 subst hq
 cases hb : fewS l with
 | false =>
  refine EvIf.mk (fun _ => (alive11_v).cal fun q hq => ?_) fun hh => by cases hh
  subst hq
  exact rfl
 | true =>
  have hl := few_len11 hb
  refine EvIf.mk (fun hh => by cases hh) fun _ => ?_
  refine (few11_v [o] (by simp)).cal fun q hq => ?_
  subst hq
  cases hb2 : fewS [o] with
  | false =>
   refine EvIf.mk (fun _ => (alive11_v).cal fun q hq => ?_) fun hh => by cases hh
   subst hq
   exact rfl
  | true =>
   refine EvIf.mk (fun hh => by cases hh) fun _ => ?_
   refine sx_loop [3, 5, 34, 35] [0] (fun x : Nat × RSt × Mp × List (Int × G) => [(36, gI x.1), (6, gI x.2.1.zx)]) (fun x => [(1, .blk [gI x.2.1.zx, .ptr 2 0, .ptr 3 0, .mp 4] tSta), (2, .abs (cl (oO x.2.2.1))), (3, .abs (cl (oTs x.2.1.ls))), (4, .mpI x.2.2.2)]) (RisI l) (fun x => l.length - x.1) (0, newSt, m, L) ⟨by simp, ws_new, hm, by simp [newSt]⟩ ⟨⟨rfl, rfl⟩, ⟨rfl, rfl⟩, trivial⟩ ⟨⟨rfl, rfl, rfl⟩, ⟨rfl, rfl, rfl⟩, ⟨rfl, rfl, rfl⟩, ⟨rfl, rfl, rfl⟩, trivial⟩ rfl fun ⟨i, t, m', L'⟩ hI => ?_
   have hle : i ≤ l.length := hI.le
   have hw' : WS t := hI.ws
   have hM : SM t m' L' := hI.sm
   have hla' : t.la.length ≤ i := hI.la
   refine EvIf.dec (fun h1 => ?_) (fun h1 => ?_)
   ·refine EvIdx.of (by simpa using h1) fun p hp => ?_
    have hlt := lt_of_at hp
    have hs := hO.ops p (List.mem_of_getElem? hp)
    have hws := ws_apply hw' p.zx p.t
    have hla2 := apply_la t p.zx p.t
    have hrs := rises t p.zx p.t
    refine (ownT_v p.t).cal fun q hq => ?_
    subst hq
    refine (apply_o hw' hM p.zx p.t hs.len hs.path).cal fun q rs hq => ?_
    obtain ⟨rfl, m2, L2, q1, rfl⟩ := hq
    refine (zxid_o (applyS t p.zx p.t).s.zx m2 (applyS t p.zx p.t).s.ls L2).cal fun q rs hq => ?_
    obtain ⟨rfl, rfl⟩ := hq
    refine EvIf.dec (fun (hh : (applyS t p.zx p.t).s.zx < t.zx) => by omega) (fun _ => ?_)
    refine (zxid_o (applyS t p.zx p.t).s.zx m2 (applyS t p.zx p.t).s.ls L2).cal fun q rs hq => ?_
    obtain ⟨rfl, rfl⟩ := hq
    refine ⟨by dsimp only; omega, (i + 1, (applyS t p.zx p.t).s, m2, L2), ⟨by dsimp only; omega, hws, q1, by dsimp only; omega⟩, (by dsimp only; omega), ?_⟩
    refine ⟨?_, ?_, rfl⟩ <;> repeat' (first | exact True.intro | with_reducible rfl | exact rfl | refine And.intro ?_ ?_)
   ·refine (seen_o hw' hM).cal fun q rs hq => ?_
    obtain ⟨rfl, rfl⟩ := hq
    have hA2 : FnO Tryz.prog 16 [.ptr 0 0, gI (min o.zx t.zx), .agg (enT o.t)] (oS t.zx m' t.ls L') fun g rs => g = .tup [.agg (enRp (rp 1)), .sl []] ∧ StP t rs := (apply_o hw' hM (min o.zx t.zx) o.t ho.len ho.path).mono fun g rs ⟨h1, h2⟩ => by
     rw [stale t (by omega) o.t] at h1 h2
     exact ⟨h1, h2⟩
    refine jn2 (P := fun m2 L2 => SM t m2 L2) (T := ?T1) (fun hj => ?a1) ?b1
    case a1 =>
     refine And.intro ?_ ?_
     all_goals refine (ownT_v o.t).cal fun q hq => ?_; subst hq
     refine And.intro ?_ ?_
     all_goals refine hA2.cal fun q rs hq => ?_; obtain ⟨rfl, m2, L2, q2, rfl⟩ := hq
     all_goals (conv => whnf)
     exact hj m2 L2 q2
     all_goals exact hj m2 L2 q2
    intro m2 L2 q2
    refine (seen_o hw' q2).cal fun q rs hq => ?_
    obtain ⟨rfl, rfl⟩ := hq
    refine (alive11_v).cal fun q hq => ?_
    subst hq
    have hl3 : (seenS t).la.length ≤ 100000000 := Nat.le_trans (List.length_filterMap_le _ _) (by have := hw'.ls.len; omega)
    have hsame := same11_r (a := seenS t) (b := seenS t) rfl rfl rfl (fun x hx => ⟨rfl, rfl⟩) (fun x hx => by rw [seen_find hw' hx]; have := find_ps hw' x.id; omega) (by have := hw'.t.len; show t.t.length ≤ _; omega) (by have := hw'.ls.len; show t.ls.length ≤ _; omega) hl3 hl3
    refine EvIf.mk (fun _ => ?_) fun hh => by cases hh
    refine EvIf.beq (fun _ => ?_) (fun hh => absurd rfl hh)
    refine EvIf.beq (fun _ => ?_) (fun hh => absurd rfl hh)
    refine hsame.cal fun q hq => ?_
    subst hq
    refine EvIf.mk (fun _ => ?_) fun hh => by cases hh
    refine hsame.cal fun q hq => ?_
    subst hq
    exact rfl
end Go.Proofs.YtalfffamppmooaaGreatDoor

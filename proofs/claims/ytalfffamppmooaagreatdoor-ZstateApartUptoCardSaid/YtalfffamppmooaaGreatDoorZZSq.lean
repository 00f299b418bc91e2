/- A part of the proof. -/
import Derived.Test.YtalfffamppmooaaGreatDoorZZSn
import Derived.Test.YtalfffamppmooaaGreatDoorZZSl
namespace Go.Proofs.YtalfffamppmooaaGreatDoor
open Go.RowKit
set_option maxRecDepth 100000
def mineS : ByteArray := ⟨#[109, 105, 110, 101]⟩
def minePS : ByteArray := ⟨#[47, 109, 105, 110, 101]⟩
set_option maxHeartbeats 4000000 in
theorem zstateApart_v (l : List ROS) (hO : SmS11 l) (w : List ROS) (hW : SmS11 w) : FnV Tryz.prog 6 [.sl (l.map enOS), .sl (w.map enOS)] fun q => q = .v (.bool true) := by
 refine fnG Tryz.func6 (by kernel_rfl) rfl (Nat.le_of_ble_eq_true (by kernel_rfl)) (by kernel_rfl) ?_
 refine (newS_o).cal fun q rs hq => ?_
 obtain ⟨rfl, m, L, hm, rfl⟩ := hq
 refine (few11_v l hO.len).cal fun q hq => ?_
 subst hq
 cases hb : fewS l with
 | false =>
  refine EvIf.mk (fun _ => (alive11_v).cal fun q hq => ?_) fun hh => by cases hh
  subst hq
  exact rfl
 | true =>
  have hl := few_len11 hb
  refine EvIf.mk (fun hh => by cases hh) fun _ => ?_
  refine (few11_v w hW.len).cal fun q hq => ?_
  subst hq
  cases hb2 : fewS w with
  | false =>
   refine EvIf.mk (fun _ => (alive11_v).cal fun q hq => ?_) fun hh => by cases hh
   subst hq
   exact rfl
  | true =>
   have hl2 := few_len11 hb2
   refine EvIf.mk (fun hh => by cases hh) fun _ => ?_
   refine (newS_r).cal fun q hq => ?_
   subst hq
   refine (plays11_o ws_new hm l (by omega) (Nat.zero_le _) hO.ops).cal fun q rs hq => ?_
   obtain ⟨rfl, m1, L1, q1, rfl⟩ := hq
   have hw0 : WS (playS newSt l) := ws_play ws_new
   have hla0 : (playS newSt l).la.length ≤ 150 := by have := play_la l newSt; have : newSt.la.length = 0 := rfl; omega
   generalize playS newSt l = s0 at *
   have hlen := hw0.ls.len
   refine (cloneSt_o s0.zx m1 hw0.ls L1).cal fun q rs hq => ?_
   obtain ⟨rfl, rfl⟩ := hq
   refine (treeS_o s0.zx m1 s0.ls L1).cal fun q rs hq => ?_
   obtain ⟨rfl, rfl⟩ := hq
   refine (leasesS_o s0.zx m1 hw0.ls L1).cal fun q rs hq => ?_
   obtain ⟨rfl, rfl⟩ := hq
   refine EvIf.mk (fun hh => by cases hh) fun _ => ?_
   refine (do_o q1.tm hw0.t 1 0 [⟨1, minePS, noS, 0, false, false⟩] (by simp) (by intro c hc; rw [List.mem_singleton.1 hc]; decide)).cal fun q rs hq => ?_
   obtain ⟨m3, -, rfl, rfl⟩ := hq
   refine (openT_o hw0.ls 4611686018427387904 1 1).cal fun q rs hq => ?_
   obtain ⟨rfl, rfl⟩ := hq
   refine sx_loop [1, 5, 6, 8, 71, 72] [] (fun i : Nat => [(73, gI i)]) (fun _ => [(0, .blk [gI s0.zx, .ptr 1 0, .ptr 2 0, .mp 3] tSta), (1, .abs (cl (oO m1))), (2, .abs (cl (oTs s0.ls))), (3, .mpI L1), (4, .blk (enSt s0) tR11), (5, .blk [gI s0.zx, .ptr 6 0, .ptr 7 0, .mp 8] tSta), (6, .abs (cl (oO m1))), (7, .abs (cl (oTs s0.ls))), (8, .mpI L1)]) (fun i => i ≤ s0.ls.length) (fun i => s0.ls.length - i) 0 (by omega) ⟨⟨rfl, rfl⟩, trivial⟩ ⟨⟨rfl, rfl, rfl⟩, ⟨rfl, rfl, rfl⟩, ⟨rfl, rfl, rfl⟩, ⟨rfl, rfl, rfl⟩, ⟨rfl, rfl, rfl⟩, ⟨rfl, rfl, rfl⟩, ⟨rfl, rfl, rfl⟩, ⟨rfl, rfl, rfl⟩, ⟨rfl, rfl, rfl⟩, trivial⟩ rfl fun i hi => ?_
   refine EvIf.dec (fun h1 => ?_) (fun h1 => ?_)
   ·refine EvIdx.of (by simpa using h1) fun x hx => ?_
    have hlt : i < s0.ls.length := lt_of_at hx
    have hxm := List.mem_of_getElem? hx
    obtain ⟨y, hy⟩ : ∃ y, getL s0.ls x.id = some y := by
     cases hg : getL s0.ls x.id with
     | some y => exact ⟨y, rfl⟩
     | none => exact absurd rfl (getL_none.1 hg x hxm)
    have hps := find_ps hw0 x.id
    refine (lastS_p hw0 q1 hy).cal fun q rs hq => ?_
    obtain ⟨rfl, rfl⟩ := hq
    generalize (findS s0 x.id).r.ps = ps at hps ⊢
    refine sx_loop [1, 5, 6, 8, 71, 72, 73, 14, 87] [0, 1, 2, 3, 4, 5, 6, 7, 8, 14] (fun z : Nat × List ByteArray => [(88, gI z.1)]) (fun z => [(13, .slc (z.2.map gSt) tSt 1)]) (fun z => z.1 ≤ ps.length ∧ z.2.length = ps.length) (fun z => ps.length - z.1) (0, ps) ⟨by simp, rfl⟩ ⟨⟨rfl, rfl⟩, trivial⟩ ⟨⟨rfl, rfl, rfl⟩, trivial⟩ rfl fun ⟨j, ss⟩ ⟨hj, hss⟩ => ?_
    dsimp only at hj hss
    refine EvIf.dec (fun h2 => ?_) (fun h2 => ?_)
    ·have h2 : j < ss.length := by rw [List.length_map] at h2; dsimp only at h2; omega
     obtain ⟨z, hz⟩ : ∃ z, ss[j]? = some z := ⟨_, List.getElem?_eq_getElem h2⟩
     refine ⟨⟨by dsimp only; omega, by rw [List.length_map]; dsimp only; omega⟩, ?_⟩
     refine EvSet.at (f := gSt) (x := z) (y := mineS) hz (fun k (hk : k [gS mineS]) => hk) rfl ?_
     refine ⟨by dsimp only; omega, (j + 1, ss.set j mineS), ⟨by dsimp only; omega, by simpa using hss⟩, (by dsimp only; omega), ?_⟩
     refine ⟨?_, ?_, rfl⟩ <;> repeat' (first | exact True.intro | with_reducible rfl | exact rfl | refine And.intro ?_ ?_)
    ·refine ⟨by omega, i + 1, by omega, (by dsimp only; omega), ?_⟩
     refine ⟨?_, ?_, rfl⟩ <;> repeat' (first | exact True.intro | with_reducible rfl | exact rfl | refine And.intro ?_ ?_)
   ·refine (plays11_o hw0 q1 w (by omega) (by omega) hW.ops).cal fun q rs hq => ?_
    obtain ⟨rfl, m4, L4, q4, rfl⟩ := hq
    have hw4 : WS (playS s0 w) := ws_play hw0
    have hla4 := play_la w s0
    refine (alive11_v).cal fun q hq => ?_
    subst hq
    refine EvIf.mk (fun _ => EvIf.mk (fun _ => ?_) fun hh => by cases hh) fun hh => by cases hh
    refine (stands11_o hw4 (by omega) q4).cal fun q rs hq => ?_
    obtain ⟨rfl, rfl⟩ := hq
    refine EvIf.mk (fun _ => ?_) fun hh => by cases hh
    refine (stands11_o hw0 (by omega) q1).cal fun q rs hq => ?_
    obtain ⟨rfl, rfl⟩ := hq
    exact rfl
end Go.Proofs.YtalfffamppmooaaGreatDoor

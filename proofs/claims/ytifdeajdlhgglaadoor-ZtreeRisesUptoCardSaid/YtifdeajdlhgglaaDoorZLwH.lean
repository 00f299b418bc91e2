/- A part of the proof. -/
import Derived.Test.YtifdeajdlhgglaaDoorLM
import Derived.Test.YtifdeajdlhgglaaDoorZLwHb
namespace Go.Proofs.YtifdeajdlhgglaaDoor
open Go.RowKit
set_option maxRecDepth 100000
theorem op_rows (l : List ROp) : ∀ r ∈ l.map enOp, r.length = 4 ∧ r.all G.one = true := fun r hr => by
 obtain ⟨x, -, rfl⟩ := List.mem_map.1 hr
 exact ⟨rfl, rfl⟩
structure RiI (l : List ROp) (x : Nat × List RZ × Mp × ByteArray) : Prop where
 le : x.1 ≤ l.length
 wz : Wz x.2.1
 tm : TM x.2.2.1 x.2.1
 last : LastOk x.2.2.2 x.2.1
structure RjI (l : List RC) (last : ByteArray) (x : Nat × List RZ × Mp) : Prop where
 le : x.1 ≤ l.length
 wz : Wz x.2.1
 tm : TM x.2.2 x.2.1
 last : LastOk last x.2.1
set_option maxHeartbeats 2000000 in
theorem ztreeRises_v (l : List ROp) (hO : SmS l) (k : List ROp) (hK : SmS k) : FnV Tryd.prog 4 [.sl (l.map enOp), .sl (k.map enOp)] fun q => q = .v (.bool true) := by
 refine fnG Tryd.func4 (by kernel_rfl) rfl (Nat.le_of_ble_eq_true (by kernel_rfl)) (by kernel_rfl) ?_
 refine (new_o).cal fun q rs hq => ?_
 obtain ⟨rfl, rfl⟩ := hq
 refine (few_q l hO.few).cal fun q hq => ?_
 subst hq
 by_cases hb : fewN l ≤ 300
 ·rw [decide_eq_true hb]
  refine EvIf.mk (fun hh => by cases hh) fun _ => (few_q k hK.few).cal fun q hq => ?_
  subst hq
  by_cases hb2 : fewN k ≤ 300
  ·rw [decide_eq_true hb2]
   refine EvIf.mk (fun hh => by cases hh) fun _ => ?_
   refine (do_o tm_new wz_new 1 0 [qC] (by simp) fun x hx => by simp at hx; subst hx; decide).cal fun q rs hq => ?_
   obtain ⟨m, hM, rfl, rfl⟩ := hq
   have hlast := last_new
   have hw := wz_do wz_new 1 0 [qC]
   generalize (doZ [zRoot] 1 0 [qC]).t = T at *
   have hf1 := few_len l
   have hf2 := few_len k
   refine ⟨op_rows l, ⟨by simp; omega, ⟨op_rows k, ⟨by simp; omega, ?_⟩⟩⟩⟩
   have hmem : ∀ o ∈ l ++ k, SmO o := fun o ho => by
    rcases List.mem_append.1 ho with h | h
    ·exact hO.ops o h
    ·exact hK.ops o h
   have hlk : (l ++ k).length ≤ 600 := by rw [List.length_append]; omega
   rw [show [] ++ List.map enOp l ++ List.map enOp k = (l ++ k).map enOp by simp]
   generalize l ++ k = L at *
   refine sx_loop [5, 42, 43] [4] (fun x : Nat × List RZ × Mp × ByteArray => [(44, gI x.1), (6, gS x.2.2.2)]) (fun x => [(0, .abs (cl (oO x.2.2.1)))]) (RiI L) (fun x => L.length - x.1) (0, T, m, noS) ⟨by simp, hw, hM, hlast⟩ ⟨⟨rfl, rfl⟩, ⟨rfl, rfl⟩, trivial⟩ ⟨⟨rfl, rfl, rfl⟩, trivial⟩ rfl fun ⟨i, t, m', last⟩ hI => ?_
   have hle : i ≤ L.length := hI.le
   have hw' : Wz t := hI.wz
   have hM : TM m' t := hI.tm
   have hlast : LastOk last t := hI.last
   refine EvIf.dec (fun h1 => ?_) (fun h1 => ?_)
   ·obtain ⟨o, ho⟩ : ∃ o, L[i]? = some o := ⟨_, List.getElem?_eq_getElem (by simpa using h1)⟩
    have hlt := lt_of_at ho
    have hs := hmem o (List.mem_of_getElem? ho)
    refine ⟨⟨by dsimp only; omega, by simpa using h1⟩, EvIdx.at ho ?_⟩
    refine (do_o hM hw' o.zx 0 [qnC] (by simp) fun x hx => by simp at hx; subst hx; decide).cal fun q rs hq => ?_
    obtain ⟨m2, hM2, rfl, rfl⟩ := hq
    have hw2 := wz_do hw' o.zx 0 [qnC]
    have hk0 : LastOk last (doZ t o.zx 0 [qnC]).t := hlast.keep (do_keep hw' o.zx 0 (by decide))
    refine (getC hM2 qS).cal fun q rs hq => ?_
    obtain ⟨m2, ⟨rfl, rfl⟩, rfl⟩ := hq
    have hk1 := hk0
    obtain ⟨z, hz, -⟩ := hk0
    rw [hz]
    refine EvIf.mk (fun hh => by cases hh) fun _ => ?_
    refine EvIf.beq (fun (he : (doZ t o.zx 0 [qnC]).e = 0) => ?_) (fun _ => ?_)
    ·obtain ⟨p, hp1, hp2, hp3⟩ := hlast.rise hw' he
     rw [hp1]
     refine EvIf.mk (fun hh => by cases hh) fun _ => ?_
     refine EvIdx.at (x := p) rfl ?_
     refine EvIf.mk (fun hh => by rw [leq_not, hp2] at hh; cases hh) fun _ => ?_
     refine EvIdx.at (x := p) rfl ?_
     refine sx_loop [5, 6, 8, 42, 43, 44, 82, 83] [4, 5] (fun x : Nat × List RZ × Mp => [(84, gI x.1)]) (fun x => [(0, .abs (cl (oO x.2.2)))]) (RjI o.l p) (fun x => o.l.length - x.1) (0, (doZ t o.zx 0 [qnC]).t, m2) ⟨by simp, hw2, hM2, hp3⟩ ⟨⟨rfl, rfl⟩, trivial⟩ ⟨⟨rfl, rfl, rfl⟩, trivial⟩ rfl fun ⟨j, t', m3⟩ hJ => ?_
     have hle2 : j ≤ o.l.length := hJ.le
     have hwj : Wz t' := hJ.wz
     have hMj : TM m3 t' := hJ.tm
     have hlj : LastOk p t' := hJ.last
     refine EvIf.dec (fun h3 => ?_) (fun h3 => ?_)
     ·refine EvIdx.of (by simpa using h3) fun c hc => ?_
      have hltc := lt_of_at hc
      have hcp := hs.path c (List.mem_of_getElem? hc)
      have go : ¬ (c.kind = 2 ∧ c.path = qS) → LastOk p (doZ t' o.zx o.se [c]).t := fun hh => hlj.keep (do_keep hwj o.zx o.se hh)
      have hsl := hs.len
      refine EvIf.beq (fun (k2 : c.kind = 2) => ?_) (fun (k2 : ¬ c.kind = 2) => ?_)
      ·refine EvIf.beqS (fun k3 => ?_) (fun k3 => ?_)
       ·refine ⟨by dsimp only; omega, (j + 1, t', m3), ⟨by dsimp only; omega, hwj, hMj, hlj⟩, (by dsimp only; omega), ?_⟩
        refine ⟨?_, ?_, rfl⟩ <;> repeat' (first | exact True.intro | with_reducible rfl | exact rfl | refine And.intro ?_ ?_)
       ·refine (do_o hMj hwj o.zx o.se [c] (by simp) fun x hx => by simp at hx; subst hx; exact hcp).cal fun q rs hq => ?_
        obtain ⟨m4, hM4, rfl, rfl⟩ := hq
        refine ⟨by dsimp only; omega, (j + 1, (doZ t' o.zx o.se [c]).t, m4), ⟨by dsimp only; omega, wz_do hwj _ _ _, hM4, go fun hh => k3 hh.2⟩, (by dsimp only; omega), ?_⟩
        refine ⟨?_, ?_, rfl⟩ <;> repeat' (first | exact True.intro | with_reducible rfl | exact rfl | refine And.intro ?_ ?_)
      ·refine (do_o hMj hwj o.zx o.se [c] (by simp) fun x hx => by simp at hx; subst hx; exact hcp).cal fun q rs hq => ?_
       obtain ⟨m4, hM4, rfl, rfl⟩ := hq
       refine ⟨by dsimp only; omega, (j + 1, (doZ t' o.zx o.se [c]).t, m4), ⟨by dsimp only; omega, wz_do hwj _ _ _, hM4, go fun hh => k2 hh.1⟩, (by dsimp only; omega), ?_⟩
       refine ⟨?_, ?_, rfl⟩ <;> repeat' (first | exact True.intro | with_reducible rfl | exact rfl | refine And.intro ?_ ?_)
     ·have hj : j = o.l.length := by simp at h3; omega
      subst hj
      refine ⟨by dsimp only; omega, (i + 1, t', m3, p), ⟨by dsimp only; omega, hwj, hMj, hlj⟩, (by dsimp only; omega), ?_⟩
      refine ⟨?_, ?_, rfl⟩ <;> repeat' (first | exact True.intro | with_reducible rfl | exact rfl | refine And.intro ?_ ?_)
    ·refine sx_loop [5, 6, 8, 42, 43, 44, 82, 83] [4, 5] (fun x : Nat × List RZ × Mp => [(84, gI x.1)]) (fun x => [(0, .abs (cl (oO x.2.2)))]) (RjI o.l last) (fun x => o.l.length - x.1) (0, (doZ t o.zx 0 [qnC]).t, m2) ⟨by simp, hw2, hM2, hk1⟩ ⟨⟨rfl, rfl⟩, trivial⟩ ⟨⟨rfl, rfl, rfl⟩, trivial⟩ rfl fun ⟨j, t', m3⟩ hJ => ?_
     have hle2 : j ≤ o.l.length := hJ.le
     have hwj : Wz t' := hJ.wz
     have hMj : TM m3 t' := hJ.tm
     have hlj : LastOk last t' := hJ.last
     refine EvIf.dec (fun h3 => ?_) (fun h3 => ?_)
     ·refine EvIdx.of (by simpa using h3) fun c hc => ?_
      have hltc := lt_of_at hc
      have hcp := hs.path c (List.mem_of_getElem? hc)
      have go : ¬ (c.kind = 2 ∧ c.path = qS) → LastOk last (doZ t' o.zx o.se [c]).t := fun hh => hlj.keep (do_keep hwj o.zx o.se hh)
      have hsl := hs.len
      refine EvIf.beq (fun (k2 : c.kind = 2) => ?_) (fun (k2 : ¬ c.kind = 2) => ?_)
      ·refine EvIf.beqS (fun k3 => ?_) (fun k3 => ?_)
       ·refine ⟨by dsimp only; omega, (j + 1, t', m3), ⟨by dsimp only; omega, hwj, hMj, hlj⟩, (by dsimp only; omega), ?_⟩
        refine ⟨?_, ?_, rfl⟩ <;> repeat' (first | exact True.intro | with_reducible rfl | exact rfl | refine And.intro ?_ ?_)
       ·refine (do_o hMj hwj o.zx o.se [c] (by simp) fun x hx => by simp at hx; subst hx; exact hcp).cal fun q rs hq => ?_
        obtain ⟨m4, hM4, rfl, rfl⟩ := hq
        refine ⟨by dsimp only; omega, (j + 1, (doZ t' o.zx o.se [c]).t, m4), ⟨by dsimp only; omega, wz_do hwj _ _ _, hM4, go fun hh => k3 hh.2⟩, (by dsimp only; omega), ?_⟩
        refine ⟨?_, ?_, rfl⟩ <;> repeat' (first | exact True.intro | with_reducible rfl | exact rfl | refine And.intro ?_ ?_)
      ·refine (do_o hMj hwj o.zx o.se [c] (by simp) fun x hx => by simp at hx; subst hx; exact hcp).cal fun q rs hq => ?_
       obtain ⟨m4, hM4, rfl, rfl⟩ := hq
       refine ⟨by dsimp only; omega, (j + 1, (doZ t' o.zx o.se [c]).t, m4), ⟨by dsimp only; omega, wz_do hwj _ _ _, hM4, go fun hh => k2 hh.1⟩, (by dsimp only; omega), ?_⟩
       refine ⟨?_, ?_, rfl⟩ <;> repeat' (first | exact True.intro | with_reducible rfl | exact rfl | refine And.intro ?_ ?_)
     ·have hj : j = o.l.length := by simp at h3; omega
      subst hj
      refine ⟨by dsimp only; omega, (i + 1, t', m3, last), ⟨by dsimp only; omega, hwj, hMj, hlj⟩, (by dsimp only; omega), ?_⟩
      refine ⟨?_, ?_, rfl⟩ <;> repeat' (first | exact True.intro | with_reducible rfl | exact rfl | refine And.intro ?_ ?_)
   ·refine (alive_v).cal fun q hq => ?_
    subst hq
    exact rfl
  ·rw [decide_eq_false hb2]
   refine EvIf.mk (fun _ => (alive_v).cal fun q hq => ?_) fun hh => by cases hh
   subst hq
   exact rfl
 ·rw [decide_eq_false hb]
  refine EvIf.mk (fun _ => (alive_v).cal fun q hq => ?_) fun hh => by cases hh
  subst hq
  exact rfl
end Go.Proofs.YtifdeajdlhgglaaDoor

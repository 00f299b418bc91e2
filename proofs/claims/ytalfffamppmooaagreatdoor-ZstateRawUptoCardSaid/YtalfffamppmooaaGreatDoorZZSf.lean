/- A part of the proof. -/
import Derived.Test.YtalfffamppmooaaGreatDoorZIe
namespace Go.Proofs.YtalfffamppmooaaGreatDoor
open Go.RowKit
set_option maxRecDepth 100000
theorem find_p {l : List RL} (hs : SrtL l) (hl : l.length ≤ 100000) (id : Int) : FnO Tryz.prog 58 [.ptr 0 0, gI id] [.blk [.osl 1] tTab, slL l] fun g rs => g = .tup [gI (posL l id : Nat), .v (.bool (getL l id).isSome)] ∧ rs = [.blk [.osl 2] tTab, .gone, slL l] :=
 (FnO.open1 (t := tTab) (e := tLe) (sz := 3) (rows := l.map enL) (gs := [gI id]) (Q := fun g rows => g = .tup [gI (posL l id : Nat), .v (.bool (getL l id).isSome)] ∧ rows = l.map enL) ((find_o hs hl id).mono fun g rs ⟨h1, h2⟩ => ⟨_, ⟨h1, rfl⟩, h2⟩) rfl (fun g r h => by rw [h.1]; rfl)).mono fun g rs ⟨rows, ⟨h1, h2⟩, h3⟩ => ⟨h1, by rw [h3, h2]⟩
theorem getT_o {l : List RL} (h : WL l) (id : Int) : FnO Tryz.prog 42 [.ptr 0 0, gI id] (cT l) fun g rs => g = .tup [gL ((getL l id).getD rl0), .v (.bool (getL l id).isSome)] ∧ rs = cT l := by
 refine fnoG Tryz.func42 (by kernel_rfl) rfl (Nat.le_of_ble_eq_true (by kernel_rfl)) (by kernel_rfl) (lent_cl0 (O := oTs l) (n0 := 2) rfl) ?_
 have hlen := h.len
 refine EvCall.lend ((find_p h.srt (by omega) id).cal fun q rs hq => ?_)
 obtain ⟨rfl, rfl⟩ := hq
 cases hg : getL l id with
 | none =>
  refine EvIf.mk (fun _ => ?_) fun hh => by cases hh
  exact end_cl (oTs l) [(1, 3)] ⟨⟨rfl, rfl, rfl⟩, ⟨rfl, rfl, rfl⟩, trivial⟩ rfl ⟨_, rfl⟩ rfl rfl ⟨rfl, rfl⟩
 | some x =>
  refine EvIf.mk (fun hh => by cases hh) fun _ => ?_
  obtain ⟨k1, k2⟩ := getL_at h.srt hg
  have k3 := lt_of_at k1
  refine ⟨⟨by omega, by simp; omega⟩, EvIdx.at k1 ?_⟩
  exact end_cl (oTs l) [(1, 3)] ⟨⟨rfl, rfl, rfl⟩, ⟨rfl, rfl, rfl⟩, trivial⟩ rfl ⟨_, rfl⟩ rfl rfl ⟨rfl, rfl⟩
theorem end_mv {own : Os} {n : Nat} {g : G} {Q : G → List R → Prop} (l : List RL) (k : Nat) (h0 : look 0 own = some (.blk [.osl k] tTab)) (h1 : look k own = some (slL l)) (hn : (Nat.blt 0 n && Nat.blt 1 n && (!Nat.beq 0 k)) = true) (hg : (noKeyB g && resB g) = true) (hq : Q g (cT l)) : ∃ its g', EndK [0] own n g Q its g' := by
 simp only [Bool.and_eq_true] at hn
 refine end_cl (oTs l) [(1, k)] ⟨⟨hn.1.1, ?_, h0⟩, ⟨hn.1.2, rfl, h1⟩, trivial⟩ rfl ⟨_, rfl⟩ ?_ hg hq
 ·show allB (keyC n) [.osl 1] = true
  show (bif Nat.blt 1 n then true else false) = true
  rw [hn.1.2]; rfl
 ·show (bif memB 0 [k] then false else true) = true
  have h := hn.2
  have h2 : Nat.beq 0 k = false := by simpa using h
  show (bif (bif Nat.beq 0 k then true else false) then false else true) = true
  rw [h2]; rfl
theorem openT_o {l : List RL} (h : WL l) (id span now : Int) : FnO Tryz.prog 27 [.ptr 0 0, gI id, gI span, gI now] (cT l) fun g rs => g = gI (openE l ⟨id, span, now⟩) ∧ rs = cT (openL l ⟨id, span, now⟩) := by
 refine fnoG Tryz.func27 (by kernel_rfl) rfl (Nat.le_of_ble_eq_true (by kernel_rfl)) (by kernel_rfl) (lent_cl0 (O := oTs l) (n0 := 2) rfl) ?_
 have hlen := h.len
 have bad : openE l ⟨id, span, now⟩ = 1 → ∀ g, g = gI 1 → g = gI (openE l ⟨id, span, now⟩) ∧ cT l = cT (openL l ⟨id, span, now⟩) := fun e g hg => ⟨by rw [e, hg], by unfold openL; rw [if_neg (by rw [e]; decide)]⟩
 refine EvCall.lend ((find_p h.srt (by omega) id).cal fun q rs hq => ?_)
 obtain ⟨rfl, rfl⟩ := hq
 refine (rightL_v ⟨id, span, now⟩).cal fun q hq => ?_
 subst hq
 have hE : openE l ⟨id, span, now⟩ = if okL ⟨id, span, now⟩ = false ∨ (getL l id).isSome = true ∨ l.length ≥ 100 then 1 else 0 := rfl
 cases hk : okL ⟨id, span, now⟩ with
 | false =>
  have e : openE l ⟨id, span, now⟩ = 1 := by rw [hE, if_pos (.inl hk)]
  refine EvIf.mk (fun _ => ?_) fun hh => by cases hh
  exact end_mv l 3 rfl rfl rfl rfl (bad e _ rfl)
 | true =>
  refine EvIf.mk (fun hh => by cases hh) fun _ => ?_
  cases hg : getL l id with
  | some y =>
   have e : openE l ⟨id, span, now⟩ = 1 := by rw [hE, if_pos (.inr (.inl (by rw [hg]; rfl)))]
   refine EvIf.mk (fun _ => ?_) fun hh => by cases hh
   exact end_mv l 3 rfl rfl rfl rfl (bad e _ rfl)
  | none =>
   refine EvIf.mk (fun hh => by cases hh) fun _ => EvIf.dec (fun h2 => ?_) (fun h2 => ?_)
   ·have e : openE l ⟨id, span, now⟩ = 1 := by rw [hE, if_pos (.inr (.inr (by simp at h2; omega)))]
    exact end_mv l 3 rfl rfl rfl rfl (bad e _ rfl)
   ·have e : openE l ⟨id, span, now⟩ = 0 := by rw [hE, if_neg (by rw [hk, hg]; simp at h2 ⊢; omega)]
    have e2 : openL l ⟨id, span, now⟩ = l.take (posL l id) ++ ⟨id, span, now⟩ :: l.drop (posL l id) := by unfold openL; rw [if_pos e]; exact putL_new h.srt (x := ⟨id, span, now⟩) hg
    refine EvCall.lend ((ins_o (l := l) (posL l id) ⟨id, span, now⟩ (posL_le _ _) (by omega)).cal fun q rs hq => ?_)
    obtain ⟨rfl, rfl⟩ := hq
    exact end_mv (l.take (posL l id) ++ ⟨id, span, now⟩ :: l.drop (posL l id)) 5 rfl rfl rfl rfl ⟨by rw [e]; rfl, by rw [e2]⟩
theorem renewT_o {l : List RL} (h : WL l) (id now : Int) : FnO Tryz.prog 44 [.ptr 0 0, gI id, gI now] (cT l) fun g rs => g = gI (renewE l id now) ∧ rs = cT (renewL l id now) := by
 refine fnoG Tryz.func44 (by kernel_rfl) rfl (Nat.le_of_ble_eq_true (by kernel_rfl)) (by kernel_rfl) (lent_cl0 (O := oTs l) (n0 := 2) rfl) ?_
 have hlen := h.len
 refine EvCall.lend ((find_p h.srt (by omega) id).cal fun q rs hq => ?_)
 obtain ⟨rfl, rfl⟩ := hq
 refine (clock_v now).cal fun q hq => ?_
 subst hq
 cases hk : clockL now with
 | false =>
  have e1 : renewE l id now = 1 := by unfold renewE; rw [if_pos hk]
  have e2 : renewL l id now = l := by unfold renewL; rw [if_pos hk]
  refine EvIf.mk (fun _ => ?_) fun hh => by cases hh
  exact end_mv l 2 rfl rfl rfl rfl ⟨by rw [e1]; rfl, by rw [e2]⟩
 | true =>
  refine EvIf.mk (fun hh => by cases hh) fun _ => ?_
  cases hg : getL l id with
  | none =>
   have e1 : renewE l id now = 100 := by unfold renewE; rw [if_neg (by rw [hk]; decide), hg]; rfl
   have e2 : renewL l id now = l := by unfold renewL; rw [if_neg (by rw [hk]; decide), hg]
   refine EvIf.mk (fun _ => ?_) fun hh => by cases hh
   exact end_mv l 2 rfl rfl rfl rfl ⟨by rw [e1]; rfl, by rw [e2]⟩
  | some x =>
   have e1 : renewE l id now = 0 := by unfold renewE; rw [if_neg (by rw [hk]; decide), hg]; rfl
   have e2 : renewL l id now = putL l { x with last := max x.last now } := by unfold renewL; rw [if_neg (by rw [hk]; decide), hg]
   obtain ⟨k1, k2⟩ := getL_at h.srt hg
   have k3 := lt_of_at k1
   have e3 : putL l { x with last := max x.last now } = l.set (posL l id) ⟨x.id, x.span, max x.last now⟩ := by
    have e4 := putL_old h.srt (x := { x with last := max x.last now }) (y := x) (by show getL l x.id = _; rw [k2]; exact hg)
    rw [show posL l ({ x with last := max x.last now } : RL).id = posL l id from congrArg (posL l) k2] at e4
    exact e4
   refine EvIf.mk (fun hh => by cases hh) fun _ => ?_
   have hb : (0 : Int) ≤ (posL l id : Nat) ∧ ((posL l id : Nat) : Int) < (l.map enL).length := ⟨by omega, by rw [List.length_map]; omega⟩
   refine ⟨hb, EvIdx.at k1 ⟨hb, ?_⟩⟩
   refine EvSet.at (f := enL) (x := x) (y := (⟨x.id, x.span, max x.last now⟩ : RL)) k1 (fun k (hk : k [gI x.id, gI x.span, gI (max x.last now)]) => hk) e3.symm ?_
   exact end_mv (putL l { x with last := max x.last now }) 2 rfl rfl rfl rfl ⟨by rw [e1]; rfl, by rw [e2]⟩
theorem closeT_o {l : List RL} (h : WL l) (id : Int) : FnO Tryz.prog 89 [.ptr 0 0, gI id] (cT l) fun g rs => g = gI (closeE l id) ∧ rs = cT (closeL l id) := by
 refine fnoG Tryz.func89 (by kernel_rfl) rfl (Nat.le_of_ble_eq_true (by kernel_rfl)) (by kernel_rfl) (lent_cl0 (O := oTs l) (n0 := 2) rfl) ?_
 have hlen := h.len
 refine EvCall.lend ((find_p h.srt (by omega) id).cal fun q rs hq => ?_)
 obtain ⟨rfl, rfl⟩ := hq
 cases hg : getL l id with
 | none =>
  have e1 : closeE l id = 100 := by unfold closeE; rw [hg]; rfl
  have e2 : closeL l id = l := by unfold closeL; rw [hg]; rfl
  refine EvIf.mk (fun _ => ?_) fun hh => by cases hh
  exact end_mv l 2 rfl rfl rfl rfl ⟨by rw [e1]; rfl, by rw [e2]⟩
 | some x =>
  have e1 : closeE l id = 0 := by unfold closeE; rw [hg]; rfl
  have e2 : closeL l id = delL l id := by unfold closeL; rw [hg]; rfl
  have e3 := delL_old h.srt hg
  have k3 := lt_of_at (getL_at h.srt hg).1
  refine EvIf.mk (fun hh => by cases hh) fun _ => ⟨by omega, ?_⟩
  refine EvCall.lend ((del_o (l := l) (posL l id) k3 (by omega)).cal fun q rs hq => ?_)
  obtain ⟨rfl, rfl⟩ := hq
  exact end_mv (l.take (posL l id) ++ l.drop (posL l id + 1)) 3 rfl rfl rfl rfl ⟨by rw [e1]; rfl, by rw [e2, e3]⟩
theorem allT_o {l : List RL} (h : WL l) : FnO Tryz.prog 48 [.ptr 0 0] (cT l) fun g rs => g = gLs l ∧ rs = cT l := by
 refine fnoG Tryz.func48 (by kernel_rfl) rfl (Nat.le_of_ble_eq_true (by kernel_rfl)) (by kernel_rfl) (lent_cl0 (O := oTs l) (n0 := 2) rfl) ?_
 have hlen := h.len
 refine EvCall.lend ((clo_o (l := l) (by omega)).cal fun q rs hq => ?_)
 obtain ⟨rfl, rfl⟩ := hq
 exact end_cl (oTs l) [] ⟨⟨rfl, rfl, rfl⟩, ⟨rfl, rfl, rfl⟩, trivial⟩ rfl ⟨_, rfl⟩ rfl rfl ⟨rfl, rfl⟩
theorem cloneT_o {l : List RL} (h : WL l) : FnO Tryz.prog 54 [.ptr 0 0] (cT l) fun g rs => g = .ptr 1 0 ∧ rs = [.abs (cl (oTs l)), .abs (cl (oTs l))] := by
 refine fnoG Tryz.func54 (by kernel_rfl) rfl (Nat.le_of_ble_eq_true (by kernel_rfl)) (by kernel_rfl) (lent_cl0 (O := oTs l) (n0 := 2) rfl) ?_
 have hlen := h.len
 refine EvCall.lend ((clo_o (l := l) (by omega)).cal fun q rs hq => ?_)
 obtain ⟨rfl, rfl⟩ := hq
 exact ⟨[⟨oTs l, [], true⟩, ⟨oTs l, [(0, 3), (1, 2)], true⟩], .ptr 1 0, ⟨⟨⟨⟨⟨rfl, rfl, rfl⟩, ⟨rfl, rfl, rfl⟩, trivial⟩, _, rfl⟩, ⟨⟨⟨rfl, rfl, rfl⟩, ⟨rfl, rfl, rfl⟩, trivial⟩, _, rfl⟩, trivial⟩, rfl, ⟨_, rfl⟩, rfl, rfl, ⟨rfl, rfl⟩⟩⟩
end Go.Proofs.YtalfffamppmooaaGreatDoor

/- A part of the proof. -/
import Derived.Test.YtalfffamppmooaaGreatDoorZZSi
namespace Go.Proofs.YtalfffamppmooaaGreatDoor
open Go.RowKit
set_option maxRecDepth 100000
abbrev tR11 : Nat := 31
abbrev tR10 : Nat := 68
inductive SeenX where
 | a
 | b (i : Nat)
 | c (i : Nat)
def lasts (s : RSt) (i : Nat) : List RLa := (s.ls.take i).filterMap fun x => findA s.la x.id
def seenD : SeenX → Ts
 | .a => [(31, gI ((0 : Nat) : Int))]
 | .b i => [(31, gI i), (50, .osl 5)]
 | .c i => [(31, gI i), (50, .osl 5), (63, .osl 6)]
def seenR (s : RSt) : SeenX → Os
 | .a => [(7, .blk [gI s.zx, gT s.t, .nl, .nl] tR11)]
 | .b i => [(7, .blk [gI s.zx, gT s.t, .osl 5, .nl] tR11), (5, .slc ((s.ls.take i).map enL) tR10 3)]
 | .c i => [(7, .blk [gI s.zx, gT s.t, .osl 5, .osl 6] tR11), (5, .slc ((s.ls.take i).map enL) tR10 3), (6, .slc ((lasts s i).map enLa) tLa 5)]
def seenI (s : RSt) : SeenX → Prop
 | .a => True
 | .b i => i ≤ s.ls.length ∧ lasts s i = []
 | .c i => i ≤ s.ls.length
def seenM (s : RSt) : SeenX → Nat
 | .a => s.ls.length
 | .b i => s.ls.length - i
 | .c i => s.ls.length - i
theorem lasts_step {s : RSt} {i : Nat} {x : RL} (hx : s.ls[i]? = some x) : lasts s (i + 1) = lasts s i ++ (match findA s.la x.id with | some y => [y] | none => []) := by
 unfold lasts
 rw [take_more hx, List.filterMap_append]
 cases h : findA s.la x.id with
 | none => simp [h]
 | some y => simp [h]
theorem lasts_len (s : RSt) (i : Nat) : (lasts s i).length ≤ i := Nat.le_trans (List.length_filterMap_le _ _) (List.length_take_le _ _)
set_option maxHeartbeats 1000000 in
theorem seen_o {s : RSt} (h : WS s) {m : Mp} {L : List (Int × G)} (hm : SM s m L) : FnO Tryz.prog 18 [.ptr 0 0] (oS s.zx m s.ls L) fun g rs => g = .tup [.agg (enSt (seenS s)), .v (.bool true)] ∧ rs = oS s.zx m s.ls L := by
 refine fnoG Tryz.func18 (by kernel_rfl) rfl (Nat.le_of_ble_eq_true (by kernel_rfl)) (by kernel_rfl) (lent_id _ _) ?_
 have hlen := h.ls.len
 refine (treeS_o s.zx m s.ls L).cal fun q rs hq => ?_
 obtain ⟨rfl, rfl⟩ := hq
 refine (leasesS_o s.zx m h.ls L).cal fun q rs hq => ?_
 obtain ⟨rfl, rfl⟩ := hq
 refine (zxid_o s.zx m s.ls L).cal fun q rs hq => ?_
 obtain ⟨rfl, rfl⟩ := hq
 refine (allC hm.tm h.t).cal fun q rs hq => ?_
 obtain ⟨m2, ⟨rfl, rfl⟩, rfl⟩ := hq
 refine (allT_o h.ls).cal fun q rs hq => ?_
 obtain ⟨rfl, rfl⟩ := hq
 refine sx_loop [0, 2, 6, 29, 30] [0, 1, 2, 3, 4] seenD (seenR s) (seenI s) (seenM s) .a trivial ⟨⟨rfl, rfl⟩, trivial⟩ ⟨⟨rfl, rfl, rfl⟩, trivial⟩ rfl fun x hI => ?_
 have one : ∀ x ∈ s.ls, gLast s x.id = .tup [gI (findS s x.id).nu, .agg (enRp (findS s x.id).r), .v (.bool true)] := fun x hx => by
  unfold gLast
  rw [if_pos]
  cases hg : getL s.ls x.id with
  | some y => rfl
  | none => exact absurd rfl (getL_none.1 hg x hx)
 cases x with
 | a =>
  refine EvIf.dec (fun h1 => ?_) (fun h1 => ?_)
  ·refine EvIdx.of (i := 0) (by simpa using h1) fun x hx => ?_
   have hxm := List.mem_of_getElem? hx
   have hlt := lt_of_at hx
   have hst := lasts_step hx
   have hln := lasts_len s 0
   have hL := lastS_o h hm x.id
   rw [one x hxm] at hL
   cases hf : findA s.la x.id with
   | none =>
    have hw : findS s x.id = ⟨x.id, 0, rp 0⟩ := by unfold findS; rw [hf]; rfl
    rw [hw] at hL
    rw [hf] at hst
    refine hL.cal fun q rs hq => ?_
    obtain ⟨rfl, rfl⟩ := hq
    refine EvIf.mk (fun hh => by cases hh) fun _ => ⟨by simp; try omega, ?_⟩
    refine EvIf.dec (fun (hh : (0 : Int) > 0) => absurd hh (by decide)) (fun _ => ?_)
    refine ⟨by omega, .b (0 + 1), ⟨by omega, by rw [hst]; rfl⟩, (by dsimp only [seenM]; omega), ?_⟩
    refine ⟨?_, ?_, rfl⟩ <;> repeat' (first | exact True.intro | with_reducible rfl | exact rfl | refine And.intro ?_ ?_)
    all_goals first
     | exact eqR (by rw [take_more hx, List.map_append]; rfl)
     | exact eqR (by rw [hst, List.append_nil])
     | exact eqR (by rw [hst, ← hse, List.map_append]; rfl)
     | exact eqR (by rw [hst, hla, ← hse]; rfl)
     | exact eqR (by rw [hst, ← hse]; rfl)
   | some y =>
    have hw : findS s x.id = y := by unfold findS; rw [hf]; rfl
    have hnu := h.la.nu y (findA_se hf).1
    have hse := (findA_se hf).2
    rw [hw] at hL
    rw [hf] at hst
    refine hL.cal fun q rs hq => ?_
    obtain ⟨rfl, rfl⟩ := hq
    refine EvIf.mk (fun hh => by cases hh) fun _ => ⟨by simp; try omega, ?_⟩
    refine EvIf.dec (fun _ => ?_) (fun hh => absurd (show y.nu > 0 by omega) hh)
    refine (plain_v y.r).cal fun q hq => ?_
    subst hq
    refine ⟨by simp; try omega, ?_⟩
    refine ⟨by omega, .c (0 + 1), (by show _ ≤ _; omega), (by dsimp only [seenM]; omega), ?_⟩
    refine ⟨?_, ?_, rfl⟩ <;> repeat' (first | exact True.intro | with_reducible rfl | exact rfl | refine And.intro ?_ ?_)
    all_goals first
     | exact eqR (by rw [take_more hx, List.map_append]; rfl)
     | exact eqR (by rw [hst, List.append_nil])
     | exact eqR (by rw [hst, ← hse, List.map_append]; rfl)
     | exact eqR (by rw [hst, hla, ← hse]; rfl)
     | exact eqR (by rw [hst, ← hse]; rfl)
  ·have hls : s.ls = [] := List.eq_nil_of_length_eq_zero (by rw [List.length_map] at h1; omega)
   exact end_st s.zx m2 s.ls L rfl rfl rfl rfl rfl ⟨by unfold enSt seenS; rw [hls]; rfl, rfl⟩
 | b i =>
  obtain ⟨hi, hla⟩ := hI
  refine EvIf.dec (fun h1 => ?_) (fun h1 => ?_)
  ·refine EvIdx.of (i := i) (by simpa using h1) fun x hx => ?_
   have hxm := List.mem_of_getElem? hx
   have hlt := lt_of_at hx
   have hst := lasts_step hx
   have hln := lasts_len s i
   have hL := lastS_o h hm x.id
   rw [one x hxm] at hL
   cases hf : findA s.la x.id with
   | none =>
    have hw : findS s x.id = ⟨x.id, 0, rp 0⟩ := by unfold findS; rw [hf]; rfl
    rw [hw] at hL
    rw [hf] at hst
    refine hL.cal fun q rs hq => ?_
    obtain ⟨rfl, rfl⟩ := hq
    refine EvIf.mk (fun hh => by cases hh) fun _ => ⟨by simp; try omega, ?_⟩
    refine EvIf.dec (fun (hh : (0 : Int) > 0) => absurd hh (by decide)) (fun _ => ?_)
    refine ⟨by omega, .b (i + 1), ⟨by omega, by rw [hst]; rw [hla]; rfl⟩, (by dsimp only [seenM]; omega), ?_⟩
    refine ⟨?_, ?_, rfl⟩ <;> repeat' (first | exact True.intro | with_reducible rfl | exact rfl | refine And.intro ?_ ?_)
    all_goals first
     | exact eqR (by rw [take_more hx, List.map_append]; rfl)
     | exact eqR (by rw [hst, List.append_nil])
     | exact eqR (by rw [hst, ← hse, List.map_append]; rfl)
     | exact eqR (by rw [hst, hla, ← hse]; rfl)
     | exact eqR (by rw [hst, ← hse]; rfl)
   | some y =>
    have hw : findS s x.id = y := by unfold findS; rw [hf]; rfl
    have hnu := h.la.nu y (findA_se hf).1
    have hse := (findA_se hf).2
    rw [hw] at hL
    rw [hf] at hst
    refine hL.cal fun q rs hq => ?_
    obtain ⟨rfl, rfl⟩ := hq
    refine EvIf.mk (fun hh => by cases hh) fun _ => ⟨by simp; try omega, ?_⟩
    refine EvIf.dec (fun _ => ?_) (fun hh => absurd (show y.nu > 0 by omega) hh)
    refine (plain_v y.r).cal fun q hq => ?_
    subst hq
    refine ⟨by simp; try omega, ?_⟩
    refine ⟨by omega, .c (i + 1), (by show _ ≤ _; omega), (by dsimp only [seenM]; omega), ?_⟩
    refine ⟨?_, ?_, rfl⟩ <;> repeat' (first | exact True.intro | with_reducible rfl | exact rfl | refine And.intro ?_ ?_)
    all_goals first
     | exact eqR (by rw [take_more hx, List.map_append]; rfl)
     | exact eqR (by rw [hst, List.append_nil])
     | exact eqR (by rw [hst, ← hse, List.map_append]; rfl)
     | exact eqR (by rw [hst, hla, ← hse]; rfl)
     | exact eqR (by rw [hst, ← hse]; rfl)
  ·have hk : i = s.ls.length := by simp at h1; omega
   subst hk
   have e1 : (seenS s).la = [] := by rw [← hla]; unfold lasts; rw [List.take_length]; rfl
   refine end_st s.zx m2 s.ls L rfl rfl rfl rfl rfl ⟨?_, rfl⟩
   unfold enSt
   rw [e1]
   show G.tup [G.agg [gI s.zx, gT s.t, G.sl ((s.ls.take s.ls.length).map enL), G.sl []], _] = _
   rw [List.take_length]; rfl
 | c i =>
  have hi : i ≤ s.ls.length := hI
  refine EvIf.dec (fun h1 => ?_) (fun h1 => ?_)
  ·refine EvIdx.of (i := i) (by simpa using h1) fun x hx => ?_
   have hxm := List.mem_of_getElem? hx
   have hlt := lt_of_at hx
   have hst := lasts_step hx
   have hln := lasts_len s i
   have hL := lastS_o h hm x.id
   rw [one x hxm] at hL
   cases hf : findA s.la x.id with
   | none =>
    have hw : findS s x.id = ⟨x.id, 0, rp 0⟩ := by unfold findS; rw [hf]; rfl
    rw [hw] at hL
    rw [hf] at hst
    refine hL.cal fun q rs hq => ?_
    obtain ⟨rfl, rfl⟩ := hq
    refine EvIf.mk (fun hh => by cases hh) fun _ => ⟨by simp; try omega, ?_⟩
    refine EvIf.dec (fun (hh : (0 : Int) > 0) => absurd hh (by decide)) (fun _ => ?_)
    refine ⟨by omega, .c (i + 1), (by show _ ≤ _; omega), (by dsimp only [seenM]; omega), ?_⟩
    refine ⟨?_, ?_, rfl⟩ <;> repeat' (first | exact True.intro | with_reducible rfl | exact rfl | refine And.intro ?_ ?_)
    all_goals first
     | exact eqR (by rw [take_more hx, List.map_append]; rfl)
     | exact eqR (by rw [hst, List.append_nil])
     | exact eqR (by rw [hst, ← hse, List.map_append]; rfl)
     | exact eqR (by rw [hst, hla, ← hse]; rfl)
     | exact eqR (by rw [hst, ← hse]; rfl)
   | some y =>
    have hw : findS s x.id = y := by unfold findS; rw [hf]; rfl
    have hnu := h.la.nu y (findA_se hf).1
    have hse := (findA_se hf).2
    rw [hw] at hL
    rw [hf] at hst
    refine hL.cal fun q rs hq => ?_
    obtain ⟨rfl, rfl⟩ := hq
    refine EvIf.mk (fun hh => by cases hh) fun _ => ⟨by simp; try omega, ?_⟩
    refine EvIf.dec (fun _ => ?_) (fun hh => absurd (show y.nu > 0 by omega) hh)
    refine (plain_v y.r).cal fun q hq => ?_
    subst hq
    refine ⟨by simp; try omega, ?_⟩
    refine ⟨by omega, .c (i + 1), (by show _ ≤ _; omega), (by dsimp only [seenM]; omega), ?_⟩
    refine ⟨?_, ?_, rfl⟩ <;> repeat' (first | exact True.intro | with_reducible rfl | exact rfl | refine And.intro ?_ ?_)
    all_goals first
     | exact eqR (by rw [take_more hx, List.map_append]; rfl)
     | exact eqR (by rw [hst, List.append_nil])
     | exact eqR (by rw [hst, ← hse, List.map_append]; rfl)
     | exact eqR (by rw [hst, hla, ← hse]; rfl)
     | exact eqR (by rw [hst, ← hse]; rfl)
  ·have hk : i = s.ls.length := by simp at h1; omega
   subst hk
   have e1 : (seenS s).la = lasts s s.ls.length := by unfold lasts; rw [List.take_length]; rfl
   refine end_st s.zx m2 s.ls L rfl rfl rfl rfl rfl ⟨?_, rfl⟩
   unfold enSt
   rw [e1]
   show G.tup [G.agg [gI s.zx, gT s.t, G.sl ((s.ls.take s.ls.length).map enL), G.sl ((lasts s s.ls.length).map enLa)], _] = _
   rw [List.take_length]; rfl
end Go.Proofs.YtalfffamppmooaaGreatDoor

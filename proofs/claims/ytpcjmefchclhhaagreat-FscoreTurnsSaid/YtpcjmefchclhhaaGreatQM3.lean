/- A part of the proof, merged from several texts. -/
import Derived.Test.YtpcjmefchclhhaaGreatQM2
import Derived.Test.YtpcjmefchclhhaaGreatFsXW
namespace Go.Proofs.YtpcjmefchclhhaaGreat
section
variable {r : RFs} {K : Nat}
theorem nms_split {l : List RNm} (hu : l.Pairwise fun a b => ¬ (a.dir = b.dir ∧ a.name = b.name)) {n : RNm} (hn : n ∈ l) : ((l.filter fun m => !decide (m.dir = n.dir ∧ m.name = n.name)) ++ [n]).Perm l := by
 induction l with
 | nil => cases hn
 | cons m l ih =>
  obtain ⟨h1, h2⟩ := List.pairwise_cons.1 hu
  rw [List.filter_cons]
  rcases List.mem_cons.1 hn with rfl | hn
  ·rw [if_neg (by simp), List.filter_eq_self.2 (fun a ha => by have := h1 a ha; simp only [Bool.not_eq_true', decide_eq_false_iff_not]; exact fun e => this ⟨e.1.symm, e.2.symm⟩)]
   exact List.perm_append_comm
  ·rw [if_pos (by have := h1 n hn; simp only [Bool.not_eq_true', decide_eq_false_iff_not]; exact this)]
   exact (ih h2 hn).cons m
theorem ins_split {l : List RIn} (hn : (l.map (·.id)).Nodup) {x : RIn} (hx : x ∈ l) : ((l.filter fun y => decide (y.id ≠ x.id)) ++ [x]).Perm l := by
 induction l with
 | nil => cases hx
 | cons m l ih =>
  simp only [List.map_cons, List.nodup_cons] at hn
  rw [List.filter_cons]
  rcases List.mem_cons.1 hx with rfl | hx
  ·rw [if_neg (by simp), List.filter_eq_self.2 (fun a ha => by simp only [decide_eq_true_eq]; exact fun e => hn.1 (List.mem_map.2 ⟨a, ha, e⟩))]
   exact List.perm_append_comm
  ·rw [if_pos (by simp only [decide_eq_true_eq]; exact fun e => hn.1 (List.mem_map.2 ⟨x, hx, e.symm⟩))]
   exact (ih hn.2 hx).cons m
theorem entry_zero {l : List RNm} {d : Int} {s : ByteArray} (h : ∀ n ∈ l, ¬ (n.dir = d ∧ n.name = s)) : entryP l d s = 0 := by
 unfold entryP
 rw [List.find?_eq_none.2 (fun n hn => by simpa using h n hn)]; rfl
theorem entry_last {l : List RNm} {d : Int} {s : ByteArray} (h : ∀ n ∈ l, ¬ (n.dir = d ∧ n.name = s)) (n : RNm) (hd : n.dir = d) (hs : n.name = s) : entryP (l ++ [n]) d s = n.id := by
 unfold entryP
 rw [List.find?_append, List.find?_eq_none.2 (fun n hn => by simpa using h n hn), List.find?_cons, show decide (n.dir = d ∧ n.name = s) = true from decide_eq_true ⟨hd, hs⟩]; rfl
theorem rename_ok {h g : Int × Int} {s t : ByteArray} (e : (renameP r h s g t).2 = 0) : (liveP r h = true ∧ liveP r g = true) ∧ ((byIdP r.ins h.1).kind = 2 ∧ (byIdP r.ins g.1).kind = 2) ∧ (validP s = true ∧ validP t = true) ∧ entryP r.nms h.1 s ≠ 0 ∧
  (entryP r.nms g.1 t = 0 → ¬ ((byIdP r.ins (entryP r.nms h.1 s)).kind = 2 ∧ belowB r g.1 (entryP r.nms h.1 s) = true) ∧ renameP r h s g t = (movedP r h.1 s g.1 t (byIdP r.ins (entryP r.nms h.1 s)), 0)) := by
 have hp : placesE r h s g t = 0 := by
  rcases Classical.em (placesE r h s g t = 0) with h | h
  ·exact h
  ·unfold renameP at e; rw [if_pos h] at e; exact e
 have he : entryP r.nms h.1 s ≠ 0 := fun h0 => by
  unfold renameP at e; rw [if_neg (by simp [hp]), if_pos h0] at e; cases e
 have hh := hp
 unfold placesE at hh
 split at hh
 ·cases hh
 rename_i h1
 split at hh
 ·cases hh
 rename_i h2
 split at hh
 case isFalse => cases hh
 rename_i h3
 refine ⟨⟨by simpa using fun e => h1 (.inl e), by simpa using fun e => h1 (.inr e)⟩, ⟨Classical.byContradiction fun e => h2 (.inl e), Classical.byContradiction fun e => h2 (.inr e)⟩, h3, he, fun h0 => ?_⟩
 unfold renameP at e ⊢
 rw [if_neg (by simp [hp]), if_neg he, if_neg (by rw [h0]; exact he)] at e ⊢
 rcases Classical.em ((byIdP r.ins (entryP r.nms h.1 s)).kind = 2 ∧ belowB r g.1 (entryP r.nms h.1 s) = true) with h4 | h4
 ·rw [if_pos h4] at e; cases e
 rw [if_neg h4, if_neg (by simp [h0])] at e ⊢
 rcases Classical.em ((byIdP r.ins (entryP r.nms h.1 s)).kind = 2 ∧ h.1 ≠ g.1 ∧ 20 ≤ linksN r (byIdP r.ins g.1)) with h5 | h5
 ·rw [if_pos h5] at e; cases e
 rw [if_neg h5]
 exact ⟨h4, rfl⟩
theorem moved_byIdP {p q : Int} {s t : ByteArray} {x : RIn} (j : Int) : byIdP (movedP r p s q t x).ins j = if x.kind = 2 ∧ j = x.id then upP x q else byIdP r.ins j := by
 unfold movedP
 by_cases hk : x.kind = 2
 ·rw [if_pos hk, byIdP_set]
  simp only [hk, true_and]
  rfl
 ·rw [if_neg hk, if_neg (fun e => hk e.1)]
  rfl
theorem turns (hW : Wf r K) {h g : Int × Int} {s t : ByteArray} (h2 : (lookP r g t).2 = 170) (h3 : (renameP r h s g t).2 = 0) :
  lookP (renameP r h s g t).1 g t = ((lookP r h s).1, 0) ∧ (lookP (renameP r h s g t).1 h s).2 = 170 ∧
  (renameP (renameP r h s g t).1 g t h s).2 = 0 ∧ Alike r (renameP (renameP r h s g t).1 g t h s).1 := by
 obtain ⟨⟨hl, gl⟩, ⟨hk, gk⟩, ⟨vs, vt⟩, he, hr⟩ := rename_ok h3
 have nodot : ∀ {c}, validP c = true → c ≠ dotS ∧ c ≠ dot2S := fun {c} h => by
  unfold validP at h
  simp only [Bool.and_eq_true, decide_eq_true_eq] at h
  exact ⟨h.1.2.2.1, h.1.2.2.2⟩
 obtain ⟨s1, s2⟩ := nodot vs
 obtain ⟨t1, t2⟩ := nodot vt
 have folder : ∀ {q : RFs} {k : Int × Int}, liveP q k = true → (byIdP q.ins k.1).kind = 2 → folderE q k = 0 := fun h1 h2 => by unfold folderE; rw [if_pos h1, if_pos h2]
 have place : ∀ {q : RFs} {k : Int × Int} {c}, liveP q k = true → (byIdP q.ins k.1).kind = 2 → validP c = true → placeE q k c true = 0 := fun {q k c} h1 h2 h3 => by
  unfold placeE
  rw [folder h1 h2, if_neg (by simp), h3]
  split <;> rfl
 have look : ∀ {q : RFs} {k : Int × Int} {c}, liveP q k = true → (byIdP q.ins k.1).kind = 2 → validP c = true → c ≠ dotS → c ≠ dot2S → lookP q k c = if entryP q.nms k.1 c = 0 then ((0, 0), 170) else ((entryP q.nms k.1 c, (byIdP q.ins (entryP q.nms k.1 c)).gen), 0) := fun {q k c} h1 h2 h3 h4 h5 => by
  unfold lookP
  rw [if_neg (by simp [place h1 h2 h3]), if_neg h4, if_neg h5]
 have e0 : entryP r.nms g.1 t = 0 := by
  rw [look gl gk vt t1 t2] at h2
  rcases Classical.em (entryP r.nms g.1 t = 0) with h | h
  ·exact h
  ·rw [if_neg h] at h2; cases h2
 obtain ⟨hb, hr⟩ := hr e0
 rw [hr]
 rw [look hl hk vs s1 s2, if_neg he]
 dsimp only
 obtain ⟨n, hn, n1, n2, n3⟩ := entry_mem he
 obtain ⟨-, x, hx, hxn⟩ := hW.nmI n hn
 have hxe : byIdP r.ins (entryP r.nms h.1 s) = x := by rw [← n3, ← hxn]; exact hW.byId hx
 rw [hxe] at hb ⊢
 rw [← n3, ← hxn] at he hb ⊢
 have hpi := byIdP_mem (l := r.ins) (id := h.1) (by unfold liveP at hl; simp only [decide_eq_true_eq] at hl; exact hl.1)
 generalize hpp : byIdP r.ins h.1 = p at hpi hk
 obtain ⟨hp, hpid⟩ := hpi
 have hF := entry_none hW (fun n hn => hn) e0
 have hbyx := hW.byId hx
 have id1 : ∀ j, (byIdP (movedP r h.1 s g.1 t x).ins j).id = (byIdP r.ins j).id := fun j => by
  rw [moved_byIdP]; split
  ·rename_i e; rw [e.2, hbyx]; rfl
  ·rfl
 have gen1 : ∀ j, (byIdP (movedP r h.1 s g.1 t x).ins j).gen = (byIdP r.ins j).gen := fun j => by
  rw [moved_byIdP]; split
  ·rename_i e; rw [e.2, hbyx]; rfl
  ·rfl
 have kind1 : ∀ j, (byIdP (movedP r h.1 s g.1 t x).ins j).kind = (byIdP r.ins j).kind := fun j => moved_byId r _ _ _ _ hbyx j
 have live1 : ∀ k, liveP (movedP r h.1 s g.1 t x) k = liveP r k := fun k => by unfold liveP; rw [id1, gen1]
 have hne : ¬ (g.1 = h.1 ∧ t = s) := fun e => by
  have := hF n hn
  rw [e.1, e.2] at this
  exact this ⟨n1, n2⟩
 have hms := moved_nms r h.1 s g.1 t x
 have en1 : entryP (movedP r h.1 s g.1 t x).nms g.1 t = x.id := by
  rw [hms]
  exact entry_last (fun m hm => hF m (List.mem_filter.1 hm).1) ⟨g.1, t, x.id⟩ rfl rfl
 have en0 : entryP (movedP r h.1 s g.1 t x).nms h.1 s = 0 := by
  rw [hms]
  refine entry_zero fun m hm => ?_
  rcases List.mem_append.1 hm with hm | hm
  ·have := (List.mem_filter.1 hm).2; simp only [Bool.not_eq_true', decide_eq_false_iff_not] at this; exact this
  ·rw [List.mem_singleton.1 hm]; exact hne
 have hx0 := hW.ne0 hx
 have hx1 : x.id ≠ 1 := by rw [hxn]; exact (hW.nmI n hn).1
 have hkh : (byIdP (movedP r h.1 s g.1 t x).ins h.1).kind = 2 := by rw [kind1, hpp]; exact hk
 have hkg : (byIdP (movedP r h.1 s g.1 t x).ins g.1).kind = 2 := by rw [kind1]; exact gk
 have lh : liveP (movedP r h.1 s g.1 t x) h = true := (live1 h).trans hl
 have lg : liveP (movedP r h.1 s g.1 t x) g = true := (live1 g).trans gl
 have hxk : (byIdP (movedP r h.1 s g.1 t x).ins x.id).kind = x.kind := by rw [kind1, hbyx]
 have hbel : x.kind = 2 → belowB (movedP r h.1 s g.1 t x) h.1 x.id = false := fun kx => by
  obtain ⟨ρ, hρ⟩ := hW.tree
  have hpar : x.parent = h.1 := by rw [← hW.dir_of hx kx hn hxn.symm, n1]
  have main : ∀ (k : Nat) (y : RIn), y ∈ r.ins → y.kind = 2 → ρ y.id ≤ k → ρ y.id < ρ x.id → belowB (movedP r h.1 s g.1 t x) y.id x.id = false := by
   intro k
   induction k with
   | zero =>
    intro y hy hky h1 h2
    by_cases hy1 : y.id = 1
    ·rw [hy1]; exact below_root (fun e => hx1 e.symm)
    ·have := hρ y hy hky hy1; omega
   | succ k ih =>
    intro y hy hky h1 h2
    by_cases hy1 : y.id = 1
    ·rw [hy1]; exact below_root (fun e => hx1 e.symm)
    ·have hlt := hρ y hy hky hy1
     have hyx : y.id ≠ x.id := fun e => by rw [e] at h2; omega
     obtain ⟨z, hz, hzi, hkz⟩ := hW.par y hy hky
     rw [below_step hyx hy1, moved_byIdP, if_neg (fun e => hyx e.2), hW.byId hy, ← hzi]
     rw [← hzi] at hlt
     exact ih z hz hkz (by omega) (by omega)
  have hlt := hρ x hx kx hx1
  rw [hpar, ← hpid] at hlt
  have hm := main _ p hp hk (Nat.le_refl _) hlt
  rw [hpid] at hm
  exact hm
 have hlim : ¬ (x.kind = 2 ∧ g.1 ≠ h.1 ∧ 20 ≤ linksN (movedP r h.1 s g.1 t x) (byIdP (movedP r h.1 s g.1 t x).ins h.1)) := fun ⟨kx, hgh, h20⟩ => by
  have hxp : p.id ≠ x.id := fun e => hW.self_ne hn (by rw [n1, ← hxn, ← e, hpid])
  have hpm : byIdP (movedP r h.1 s g.1 t x).ins h.1 = p := by
   rw [moved_byIdP, if_neg (fun e => hxp (by rw [hpid, e.2])), hpp]
  rw [hpm] at h20
  have hm := moved_links hW hx hn hxn.symm g.1 t (y := p) (y' := p) rfl rfl
  rw [n1, n2, if_pos ⟨hk, kx, hpid.symm⟩, if_neg (fun e => hgh (by rw [e.2.2, hpid]))] at hm
  have := hW.lim p hp
  omega
 have hback : renameP (movedP r h.1 s g.1 t x) g t h s = (movedP (movedP r h.1 s g.1 t x) g.1 t h.1 s (byIdP (movedP r h.1 s g.1 t x).ins x.id), 0) := by
  have hpl : placesE (movedP r h.1 s g.1 t x) g t h s = 0 := by
   unfold placesE
   rw [lg, lh, if_neg (by simp), if_neg (by rw [hkg, hkh]; simp), if_pos ⟨vt, vs⟩]
  unfold renameP
  rw [hpl, en1, en0, if_neg (by simp), if_neg hx0, if_neg hx0, hxk, if_neg (fun e => by rw [hbel e.1] at e; cases e.2), if_neg (by simp), if_neg hlim]
 rw [hback]
 refine ⟨?_, ?_, rfl, ⟨?_, hW.ids, ?_, ?_⟩⟩
 ·rw [look lg hkg vt t1 t2, en1, if_neg hx0, gen1, hbyx]
 ·rw [look lh hkh vs s1 s2, en0, if_pos rfl]
 ·unfold movedP; split <;> split <;> rfl
 ·by_cases kx : x.kind = 2
  ·have hpar : x.parent = h.1 := by rw [← hW.dir_of hx kx hn hxn.symm, n1]
   rw [moved_byIdP, if_pos ⟨kx, rfl⟩]
   have e1 : upP (upP x g.1) h.1 = x := by unfold upP; rw [← hpar]
   have e2 : (movedP (movedP r h.1 s g.1 t x) g.1 t h.1 s (upP x g.1)).ins = (r.ins.filter fun y => decide (y.id ≠ x.id)) ++ [x] := by
    unfold movedP
    rw [if_pos kx, if_pos (show (upP x g.1).kind = 2 from kx), e1]
    show ((((r.ins.filter fun y => decide (y.id ≠ x.id)) ++ [upP x g.1]).filter fun y => decide (y.id ≠ x.id)) ++ [x]) = _
    rw [List.filter_append, List.filter_filter]
    simp [upP]
   rw [e2]
   exact ins_split hW.ids hx
  ·rw [moved_byIdP, if_neg (fun e => kx e.1), hbyx]
   have e2 : (movedP (movedP r h.1 s g.1 t x) g.1 t h.1 s x).ins = r.ins := by
    unfold movedP
    rw [if_neg kx, if_neg kx]; rfl
   rw [e2]
 ·have e1 : (byIdP (movedP r h.1 s g.1 t x).ins x.id).id = x.id := by rw [id1, hbyx]
  rw [moved_nms, hms, e1, List.filter_append, List.filter_filter]
  have e2 : (r.nms.filter fun m => (!decide (m.dir = g.1 ∧ m.name = t)) && !decide (m.dir = h.1 ∧ m.name = s)) = r.nms.filter fun m => !decide (m.dir = n.dir ∧ m.name = n.name) := by
   rw [n1, n2]
   refine List.filter_congr fun m hm => ?_
   rw [show decide (m.dir = g.1 ∧ m.name = t) = false from decide_eq_false (hF m hm)]; rfl
  rw [e2, show ([⟨g.1, t, x.id⟩] : List RNm).filter (fun m => !decide (m.dir = g.1 ∧ m.name = t)) = [] by simp, List.append_nil]
  have e3 : (⟨h.1, s, x.id⟩ : RNm) = n := by cases n; simp only at n1 n2 n3 hxn; rw [← n1, ← n2, hxn]
  rw [e3]
  exact nms_split hW.uniq hn
end
end Go.Proofs.YtpcjmefchclhhaaGreat
namespace Go.Proofs.YtpcjmefchclhhaaGreat
open Go.RowKit
set_option maxRecDepth 100000
theorem jn {T G : Prop} (f : T → G) (x : T) : G := f x
def mvSp : List Sp := [.i .i64, .i .i64, .s, .i .i64, .i .i64, .s]
structure MvF where
 h : Int × Int
 s : ByteArray
 g : Int × Int
 t : ByteArray
def enMv (m : MvF) : List G := [.v (.int .i64 m.h.1), .v (.int .i64 m.h.2), .v (.string m.s), .v (.int .i64 m.g.1), .v (.int .i64 m.g.2), .v (.string m.t)]
theorem mv_of {r : List G} (h : TyL mvSp r) : ∃ m : MvF, r = enMv m ∧ (m.s.size ≤ maxLen ∧ m.t.size ≤ maxLen) := by
 obtain ⟨a0, r, rfl, -, h⟩ := h.i_inv
 obtain ⟨a1, r, rfl, -, h⟩ := h.i_inv
 obtain ⟨a2, r, rfl, h2, h⟩ := h.s_inv
 obtain ⟨a3, r, rfl, -, h⟩ := h.i_inv
 obtain ⟨a4, r, rfl, -, h⟩ := h.i_inv
 obtain ⟨a5, r, rfl, h5, h⟩ := h.s_inv
 obtain rfl := h.nil_inv
 exact ⟨⟨(a0, a1), a2, (a3, a4), a5⟩, rfl, h2, h5⟩
set_option maxHeartbeats 4000000 in
theorem fscoreTurns_v (l : List OpF) (hO : ∀ o ∈ l, SmallO o) (m : MvF) (hm : m.s.size ≤ maxLen ∧ m.t.size ≤ maxLen) : FnV Tryz.prog 6 [.sl (l.map cellO), .agg (enMv m)] fun q => q = .v (.bool true) := by
 refine fnG Tryz.func6 (by kernel_rfl) rfl (Nat.le_of_ble_eq_true (by kernel_rfl)) (by kernel_rfl) ?_
 refine (new_o 50 (by decide)).cal fun q rs hq => ?_
 obtain ⟨rfl, rfl, hG⟩ := hq
 refine (few_q l).cal fun q hq => ?_
 subst hq
 cases hb : (decide (l.length ≤ 250) && l.all fewFO) with
 | false =>
  refine EvIf.mk (fun _ => ?_) fun hh => by cases hh
  refine (alive_v).cal fun q hq => ?_
  subst hq
  exact rfl
 | true =>
  have h250 := fewFO_len hb
  refine EvIf.mk (fun hh => by cases hh) fun _ => ?_
  refine (new_q 50).cal fun q hq => ?_
  subst hq
  refine (plays_o (newP 50) hG l (by omega) hO).cal fun q rs hq => ?_
  obtain ⟨rfl, K', hK', rfl, hG'⟩ := hq
  refine EvIf.mk (fun hh => by cases hh) fun _ => ?_
  obtain ⟨h, s, g, t⟩ := m
  obtain ⟨hs, ht⟩ := hm
  dsimp only at hs ht
  refine jn (T := ?T1) (fun hj => ?a1) ?b1
  case a1 =>
   refine And.intro ?_ ?_
   all_goals refine (own_q _ _).cal fun q hq => ?_; subst hq
   refine And.intro ?_ ?_
   all_goals refine (look_o h s hs).cal fun q rs hq => ?_; obtain ⟨rfl, rfl⟩ := hq
   all_goals (conv => whnf)
   exact hj
   all_goals exact hj
  refine jn (T := ?T2) (fun hj => ?a2) ?b2
  case a2 =>
   refine And.intro ?_ ?_
   all_goals refine (own_q _ _).cal fun q hq => ?_; subst hq
   refine And.intro ?_ ?_
   all_goals refine (look_o g t ht).cal fun q rs hq => ?_; obtain ⟨rfl, rfl⟩ := hq
   all_goals (conv => whnf)
   exact hj
   all_goals exact hj
  refine EvIf.bne (fun hh => ?_) (fun _ => ?_)
  ·refine (alive_v).cal fun q hq => ?_
   subst hq
   exact rfl
  refine EvIf.bne (fun hh => ?_) (fun (h2 : (lookP (runF (newP 50) l) g t).2 = 170) => ?_)
  ·refine (alive_v).cal fun q hq => ?_
   subst hq
   exact rfl
  refine (own_q _ _).cal fun q hq => ?_; subst hq
  refine (own_q _ _).cal fun q hq => ?_; subst hq
  refine (rename_o h s hs g t ht).cal fun q rs hq => ?_
  obtain ⟨rfl, rfl, hG1⟩ := hq
  refine EvIf.bne (fun hh => ?_) (fun (h3 : (renameP (runF (newP 50) l) h s g t).2 = 0) => ?_)
  ·refine (alive_v).cal fun q hq => ?_
   subst hq
   exact rfl
  obtain ⟨t1, t2, t3, hA⟩ := turns hG'.wf h2 h3
  refine jn (T := ?T3) (fun hj => ?a3) ?b3
  case a3 =>
   refine And.intro ?_ ?_
   all_goals refine (own_q _ _).cal fun q hq => ?_; subst hq
   refine And.intro ?_ ?_
   all_goals refine (look_o g t ht).cal fun q rs hq => ?_; obtain ⟨rfl, rfl⟩ := hq
   all_goals (conv => whnf)
   exact hj
   all_goals exact hj
  refine jn (T := ?T4) (fun hj => ?a4) ?b4
  case a4 =>
   refine And.intro ?_ ?_
   all_goals refine (own_q _ _).cal fun q hq => ?_; subst hq
   refine And.intro ?_ ?_
   all_goals refine (look_o h s hs).cal fun q rs hq => ?_; obtain ⟨rfl, rfl⟩ := hq
   all_goals (conv => whnf)
   exact hj
   all_goals exact hj
  rw [t1]
  refine EvIf.bne (fun hh => absurd rfl hh) fun _ => ?_
  refine EvEq.flat [.i .i64, .i .i64] [_, _] [_, _] (by kernel_rfl) (by kernel_rfl) (by kernel_rfl) rfl rfl rfl rfl (fun _ => ?_) (fun h => absurd rfl h)
  refine EvIf.mk (fun hh => by cases hh) fun _ => ?_
  refine EvIf.bne (fun hh => absurd t2 hh) fun _ => ?_
  refine (own_q _ _).cal fun q hq => ?_; subst hq
  refine (own_q _ _).cal fun q hq => ?_; subst hq
  refine (rename_o g t ht h s hs).cal fun q rs hq => ?_
  rw [t3] at hq
  obtain ⟨rfl, rfl, hG2⟩ := hq
  refine EvIf.bne (fun hh => absurd rfl hh) fun _ => ?_
  refine (alive_v).cal fun q hq => ?_
  subst hq
  refine EvIf.mk (fun _ => ?_) fun hh => by cases hh
  refine (stands_o (runF (newP 50) l) _ hG' (by omega) (by omega) hA).cal fun q rs hq => ?_
  obtain ⟨rfl, rfl⟩ := hq
  exact rfl
end Go.Proofs.YtpcjmefchclhhaaGreat

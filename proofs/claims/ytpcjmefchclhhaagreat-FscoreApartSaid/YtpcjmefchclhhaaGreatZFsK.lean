/- A part of the proof. -/
import Derived.Test.YtpcjmefchclhhaaGreatZFsJ
namespace Go.Proofs.YtpcjmefchclhhaaGreat
open Go.RowKit Go.MapKept
def freeP (l : List RIn) : Int := ((((List.range 201).find? fun k : Nat => decide ((byIdP l ((k : Int) + 1)).id = 0)).getD 0 : Nat) : Int) + 1
theorem freeP_of {l : List RIn} {j : Nat} (hj : j < 201) (h0 : (byIdP l ((j : Int) + 1)).id = 0) (hl : ∀ k, k < j → (byIdP l ((k : Int) + 1)).id ≠ 0) : freeP l = (j : Int) + 1 := by
 unfold freeP
 have : (List.range 201).find? (fun k : Nat => decide ((byIdP l ((k : Int) + 1)).id = 0)) = some j := by
  rw [List.find?_range_eq_some]
  refine ⟨decide_eq_true h0, List.mem_range.2 hj, fun k hk => ?_⟩
  simpa using hl k hk
 rw [this]
 rfl
theorem ids_le {r : RFs} {K : Nat} (_hW : Wf r K) {j : Nat} (hl : ∀ k, k < j → (byIdP r.ins ((k : Int) + 1)).id ≠ 0) : j ≤ r.ins.length := by
 have h1 := nodup_sub_len (l := (List.range j).map fun k => ((k : Nat) : Int) + 1) (m := r.ins.map (·.id)) (by
  rw [List.nodup_iff_pairwise_ne, List.pairwise_map]
  exact (List.nodup_iff_pairwise_ne.1 List.nodup_range).imp fun h e => h (by omega)) (fun x hx => by
  obtain ⟨k, hk, rfl⟩ := List.mem_map.1 hx
  have h2 := byIdP_mem (hl k (List.mem_range.1 hk))
  exact List.mem_map.2 ⟨_, h2.1, h2.2⟩)
 simpa using h1
def gensUp (l : List Int) (id : Int) : List Int := (l ++ List.replicate (id.toNat + 1 - l.length) 0).set id.toNat (gensAt l id + 1)
theorem gensAt_up (l : List Int) {id : Int} (h0 : 0 ≤ id) (j : Int) : gensAt (gensUp l id) j = if j = id then gensAt l id + 1 else gensAt l j := by
 unfold gensUp
 by_cases hj : 0 ≤ j
 ·have e : gensAt ((l ++ List.replicate (id.toNat + 1 - l.length) 0).set id.toNat (gensAt l id + 1)) j = ((l ++ List.replicate (id.toNat + 1 - l.length) 0).set id.toNat (gensAt l id + 1)).getD j.toNat 0 := by
   show (if 0 ≤ j then _ else _) = _
   rw [if_pos hj]
  rw [e, List.getD_eq_getElem?_getD, List.getElem?_set]
  by_cases h1 : j = id
  ·subst h1
   rw [if_pos rfl, if_pos (by simp; omega), if_pos rfl]
   rfl
  ·rw [if_neg (by omega), if_neg h1]
   unfold gensAt
   rw [if_pos hj, List.getD_eq_getElem?_getD, List.getElem?_append]
   split
   ·rfl
   ·rename_i h2
    rw [List.getElem?_eq_none (l := l) (by omega), List.getElem?_replicate]
    split <;> rfl
 ·unfold gensAt
  rw [if_neg hj, if_neg (by omega), if_neg hj]
def newIn (r : RFs) (h : Int × Int) (m : RMk) : RIn := ⟨freeP r.ins, gensAt r.gens (freeP r.ins) + 1, m.kind, m.mode, m.time, h.1, m.target, [], []⟩
def addP (r : RFs) (x : RIn) : RFs := { r with ins := r.ins ++ [x], gens := gensUp r.gens x.id }
def makeP (r : RFs) (h : Int × Int) (s : ByteArray) (m : RMk) : RFs × (Int × Int) × Int :=
 if placeE r h s false ≠ 0 then (r, (0, 0), placeE r h s false) else if rightB m = false then (r, (0, 0), 1) else if entryP r.nms h.1 s ≠ 0 then (r, (0, 0), 171)
 else if m.kind = 2 ∧ 20 ≤ linksN r (byIdP r.ins h.1) then (r, (0, 0), 179) else if 200 ≤ r.ins.length then (r, (0, 0), 177)
 else (namedP (addP r (newIn r h m)) h.1 s (freeP r.ins), (freeP r.ins, gensAt r.gens (freeP r.ins) + 1), 0)
section
variable {r : RFs} {K : Nat} {x d : RIn}
theorem byIdP_add (hf : ∀ y ∈ r.ins, y.id ≠ x.id) (j : Int) : byIdP (addP r x).ins j = if j = x.id then x else byIdP r.ins j := byIdP_append _ _ _ hf
theorem linksN_add (hW : Wf r K) (hf : ∀ y ∈ r.ins, y.id ≠ x.id) (y : RIn) : linksN (addP r x) y = linksN r y := by
 refine linksN_congr rfl rfl rfl fun n hn => ?_
 rw [byIdP_add hf, if_neg]
 intro e
 obtain ⟨_, z, hz, ez⟩ := hW.nmI n hn
 exact hf z hz (ez.trans e)
theorem linksN_make (hW : Wf r K) (hf : ∀ y ∈ r.ins, y.id ≠ x.id) (s : ByteArray) {y : RIn} (hy : y ∈ r.ins) : linksN (namedP (addP r x) d.id s x.id) y = linksN r y + if y.kind = 2 ∧ d.id = y.id ∧ x.kind = 2 then 1 else 0 := by
 rw [linksN_named, linksN_add hW hf, byIdP_add hf, if_pos rfl, if_neg (c := x.id = y.id) (fun e => hf y hy e.symm)]
 by_cases h : y.kind = 2 <;> simp [h]
theorem linksN_new (hW : Wf r K) (hf : ∀ y ∈ r.ins, y.id ≠ x.id) (hd : d ∈ r.ins) (s : ByteArray) : linksN (namedP (addP r x) d.id s x.id) x = if x.kind = 2 then 2 else 1 := by
 rw [linksN_named, linksN_add hW hf, byIdP_add hf, if_pos rfl]
 have h1 : r.nms.countP (fun n => decide (n.dir = x.id ∧ (byIdP r.ins n.id).kind = 2)) = 0 := by
  rw [List.countP_eq_zero]
  intro n hn
  obtain ⟨e, he, e1, _⟩ := hW.nmD n hn
  simp only [decide_eq_true_eq]
  exact fun q => hf e he (e1.trans q.1)
 have h2 : r.nms.countP (fun n => decide (n.id = x.id)) = 0 := by
  rw [List.countP_eq_zero]
  intro n hn
  obtain ⟨_, e, he, e1⟩ := hW.nmI n hn
  simp only [decide_eq_true_eq]
  exact fun q => hf e he (e1.trans q)
 unfold linksN
 by_cases h : x.kind = 2
 ·rw [if_pos h, if_pos h, if_pos h, h1, if_neg (fun e => hf d hd e.1)]
 ·rw [if_neg h, if_neg h, if_neg h, h2, if_pos rfl]
theorem names_none (hW : Wf r K) (hf : ∀ y ∈ r.ins, y.id ≠ x.id) : namesP r.nms x.id = [] := by
 unfold namesP
 rw [List.map_eq_nil_iff, List.filter_eq_nil_iff]
 intro n hn
 obtain ⟨e, he, e1, _⟩ := hW.nmD n hn
 simp only [decide_eq_true_eq]
 exact fun q => hf e he (e1.trans q)
end
theorem names_new {r : RFs} {K : Nat} {x d : RIn} (hW : Wf r K) (hf : ∀ y ∈ r.ins, y.id ≠ x.id) (hd : d ∈ r.ins) (s : ByteArray) : namesP (namedP (addP r x) d.id s x.id).nms x.id = [] := by
 show namesP (r.nms ++ [⟨d.id, s, x.id⟩]) x.id = []
 rw [namesP_named, if_neg (fun e => hf d hd e.symm)]
 exact names_none hW hf
theorem Frm.trans' {S : List Nat} {a b c : World} {g : Nat} (h : Frm S a b) (hg : b.grownBy c (some g)) (hb : a.heap.size ≤ g) : Frm S a c :=
 ⟨hg.os.trans h.os, hg.tape.trans h.tape, hg.output.trans h.output, Nat.le_trans h.size hg.size, fun k hk hs => (hg.block k (Nat.lt_of_lt_of_le hk h.size) (by simp; omega)).trans (h.block k hk hs)⟩
theorem FsN.len {w : World} {f mi mg K : Nat} {r : RFs} {N : List Nd} (h : FsN w f mi mg r N) (hW : Wf r K) : N.length = r.ins.length := by
 have h1 := nodup_sub_len (l := N.map (·.id)) (m := r.ins.map (·.id)) h.idU (fun i hi => by
  obtain ⟨n, hn, rfl⟩ := List.mem_map.1 hi
  obtain ⟨x, hx, hr⟩ := h.node n hn
  exact List.mem_map.2 ⟨x, hx, hr.id.symm⟩)
 have h2 := nodup_sub_len (l := r.ins.map (·.id)) (m := N.map (·.id)) hW.ids (fun i hi => by
  obtain ⟨x, hx, rfl⟩ := List.mem_map.1 hi
  obtain ⟨n, hn, e⟩ := h.all x hx
  exact List.mem_map.2 ⟨n, hn, e⟩)
 simp at h1 h2
 omega
theorem make_fs {w w' : World} {f mi mg K : Nat} {r : RFs} {N : List Nd} (h : FsN w f mi mg r N) (hW : Wf r K) {d x : RIn} {np nd : Nd} (hd : d ∈ r.ins) (hk : d.kind = 2) (hnp : np ∈ N) (hrp : NodeR w r d np) (hf : ∀ y ∈ r.ins, y.id ≠ x.id) (s : ByteArray)
  (kk : ∀ k, k < w.heap.size → k ≠ np.m → k ≠ np.blk → k ≠ mi → k ≠ mg → w'.heap[k]? = w.heap[k]?) (hm : MapB w' np.m strK intK (namesP r.nms d.id ++ [(s, x.id)]))
  (hi : MapB w' mi intK ptrV (N.map (fun n => (n.id, n.blk)) ++ [(x.id, nd.blk)])) (hg : ∃ G, MapB w' mg intK intK G ∧ ∀ id, (aget G id).getD 0 = gensAt (gensUp r.gens x.id) id)
  (hp' : w'.heap[np.blk]? = some (.cells (inoC d (linksN r d + if x.kind = 2 then 1 else 0) np) 73 (0, 0))) (hx' : NodeR w' (namedP (addP r x) d.id s x.id) x nd) (hnew : ∀ k ∈ nd.foot, w.heap.size ≤ k) :
  FsN w' f mi mg (namedP (addP r x) d.id s x.id) (N ++ [nd]) := by
 have hpb : np.big = true := by rw [hrp.big, hk]; rfl
 obtain ⟨l1, l2, l3, l4⟩ := h.lt hW
 obtain ⟨o1, o2, o3⟩ := h.off np hnp
 obtain ⟨G, hg1, _⟩ := h.gmap
 have hfi : f ≠ mi := fun e => map_ne h.imap h.head e.symm
 have hfg : f ≠ mg := fun e => map_ne hg1 h.head e.symm
 refine ⟨(kk f l1 (fun e => o1 (e ▸ Nd.m_mem hpb)) (fun e => o1 (e ▸ np.blk_mem)) hfi hfg).trans h.head, ?_, hg, fun n hn => ?_, fun y hy => ?_, ?_, fun n hn => ?_, h.mm⟩
 ·rw [List.map_append, List.map_cons, List.map_nil, hx'.id]; exact hi
 ·rcases List.mem_append.1 hn with hn | hn
  ·obtain ⟨y, hy, hr⟩ := h.node n hn
   refine ⟨y, List.mem_append.2 (.inl hy), ?_⟩
   have hi' := (h.off n hn).2.1
   have hg' := (h.off n hn).2.2
   have hl := linksN_make (d := d) hW hf s hy
   by_cases h2 : n = np
   ·have : y = d := by
     have a1 := hW.byId hy
     rw [← hr.id, h2, hrp.id, hW.byId hd] at a1
     exact a1.symm
    subst h2 this
    refine hr.mk2 ?_ (fun hb => kk _ (l4 _ hn _ (Nd.b_mem hb)) (fun e => map_ne (hr.dir hk).2 (hr.dir hk).1 e.symm) (blk_ne (hr.dir hk).1 hr.head (by decide)) (fun e => hi' (e ▸ Nd.b_mem hb)) (fun e => hg' (e ▸ Nd.b_mem hb))) (fun q => absurd q (by omega)) (fun _ => ?_)
    ·rw [hl, hp']
     simp [hk]
    ·show MapB w' n.m strK intK (namesP (r.nms ++ [⟨y.id, s, x.id⟩]) y.id)
     rw [namesP_named, if_pos rfl]
     exact hm
   ·have hap := h.apart hnp hn (fun e => h2 e.symm)
    have hyd : y.id ≠ d.id := fun e => h2 (nodup_inj h.idU hn hnp (by rw [hr.id, hrp.id, e]))
    refine hr.keep (fun k hkf => kk k (l4 n hn k hkf) (fun e => hap _ (Nd.m_mem hpb) (e ▸ hkf)) (fun e => hap _ np.blk_mem (e ▸ hkf)) (fun e => hi' (e ▸ hkf)) (fun e => hg' (e ▸ hkf))) ?_ (fun _ => ?_)
    ·rw [hl, if_neg (fun e => hyd e.2.1.symm)]; rfl
    ·show namesP (r.nms ++ [⟨d.id, s, x.id⟩]) y.id = _
     rw [namesP_named, if_neg hyd]
  ·simp only [List.mem_singleton] at hn
   subst hn
   exact ⟨x, List.mem_append.2 (.inr (by simp)), hx'⟩
 ·rcases List.mem_append.1 hy with hy | hy
  ·obtain ⟨n, hn, e⟩ := h.all y hy
   exact ⟨n, List.mem_append.2 (.inl hn), e⟩
  ·simp only [List.mem_singleton] at hy
   subst hy
   exact ⟨nd, by simp, hx'.id⟩
 ·rw [List.pairwise_append]
  refine ⟨h.sep, by simp, fun n hn n' hn' k hk1 hk2 => ?_⟩
  simp only [List.mem_singleton] at hn'
  subst hn'
  have := l4 n hn k hk1
  have := hnew k hk2
  omega
 ·rcases List.mem_append.1 hn with hn | hn
  ·exact h.off n hn
  ·simp only [List.mem_singleton] at hn
   subst hn
   exact ⟨fun e => by have := hnew _ e; omega, fun e => by have := hnew _ e; omega, fun e => by have := hnew _ e; omega⟩
end Go.Proofs.YtpcjmefchclhhaaGreat

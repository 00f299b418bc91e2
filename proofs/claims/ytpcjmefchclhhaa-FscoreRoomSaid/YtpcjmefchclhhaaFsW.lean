/- A name that has moved, in memory. -/
import Derived.Test.YtpcjmefchclhhaaFsV
import Derived.Test.YtpcjmefchclhhaaFsJ
namespace Go.Proofs.Ytpcjmefchclhhaa
open Go.RowKit Go.MapKept

theorem NodeR.ne {w : World} {r : RFs} {x : RIn} {n : Nd} (h : NodeR w r x n) (hk : x.kind = 2) : n.big = true ∧ n.b ≠ n.m ∧ n.b ≠ n.blk ∧ n.m ≠ n.blk :=
  ⟨by rw [h.big, hk]; rfl, fun e => map_ne (h.dir hk).2 (h.dir hk).1 e.symm, blk_ne (h.dir hk).1 h.head (by decide), map_ne (h.dir hk).2 h.head⟩
theorem FsN.uniq {w : World} {f mi mg K : Nat} {r : RFs} {N : List Nd} (h : FsN w f mi mg r N) (hW : Wf r K) {x y : RIn} {n : Nd} (hx : x ∈ r.ins) (hrx : NodeR w r x n) (hy : y ∈ r.ins) (hry : NodeR w r y n) : x = y := by
  have _ := h
  rw [← hW.byId hx, ← hrx.id, hry.id, hW.byId hy]
theorem moved_fs {w w' : World} {f mi mg K : Nat} {r : RFs} {N : List Nd} (h : FsN w f mi mg r N) (hW : Wf r K) {x p q : RIn} {nx np nq : Nd} (hx : x ∈ r.ins) (hnx : nx ∈ N) (hrx : NodeR w r x nx) (hp : p ∈ r.ins) (hkp : p.kind = 2) (hnp : np ∈ N) (hrp : NodeR w r p np) (hq : q ∈ r.ins) (hkq : q.kind = 2) (hnq : nq ∈ N) (hrq : NodeR w r q nq)
    {s : ByteArray} {n0 : RNm} (hn0 : n0 ∈ r.nms) (e1 : n0.dir = p.id) (e2 : n0.name = s) (e3 : n0.id = x.id) (xp : x.id ≠ p.id) (xq : x.id ≠ q.id) {t : ByteArray}
    (kk : ∀ k, k < w.heap.size → k ≠ np.m → k ≠ nq.m → k ≠ np.blk → k ≠ nq.blk → (x.kind = 2 → k ≠ nx.b) → w'.heap[k]? = w.heap[k]?)
    (hmp : MapB w' np.m strK intK (namesP (movedP r p.id s q.id t x).nms p.id)) (hmq : MapB w' nq.m strK intK (namesP (movedP r p.id s q.id t x).nms q.id))
    (hbp : w'.heap[np.blk]? = some (.cells (inoC p (linksN (movedP r p.id s q.id t x) p) np) 113 (0, 0))) (hbq : w'.heap[nq.blk]? = some (.cells (inoC q (linksN (movedP r p.id s q.id t x) q) nq) 113 (0, 0)))
    (hxb : x.kind = 2 → w'.heap[nx.b]? = some (.cells #[.map (some nx.m), .int .i64 q.id] 111 (0, 0))) : FsN w' f mi mg (movedP r p.id s q.id t x) N := by
  have hlk := fun y y' => moved_links hW hx hn0 e3 q.id t (y := y) (y' := y')
  rw [e1, e2] at hlk
  have hmem := moved_mem r x p.id s q.id t
  have hnm := moved_nms r p.id s q.id t x
  have hnames : ∀ i, i ≠ p.id → i ≠ q.id → namesP (movedP r p.id s q.id t x).nms i = namesP r.nms i := fun i a b => by
    rw [hnm, namesP_named, if_neg b, namesP_unnamed, if_neg a]
  generalize hr' : movedP r p.id s q.id t x = r' at *
  have hgens : r'.gens = r.gens ∧ r'.room = r.room := by rw [← hr']; unfold movedP; split <;> exact ⟨rfl, rfl⟩
  obtain ⟨pb, p1, p2, p3⟩ := hrp.ne hkp
  obtain ⟨qb, q1, q2, q3⟩ := hrq.ne hkq
  obtain ⟨l1, l2, l3, l4⟩ := h.lt hW
  have hxp : nx ≠ np := fun e => xp (by rw [← hrx.id, ← hrp.id, e])
  have hxq : nx ≠ nq := fun e => xq (by rw [← hrx.id, ← hrq.id, e])
  have far : ∀ {a b : Nd} {i j : Nat}, a ∈ N → b ∈ N → a ≠ b → i ∈ a.foot → j ∈ b.foot → i ≠ j := fun ha hb hne hi hj e => h.apart ha hb hne _ hi (e ▸ hj)
  have off : ∀ {k : Nat}, (∀ n ∈ N, k ∉ n.foot) → k < w.heap.size → w'.heap[k]? = w.heap[k]? := fun hk hl => kk _ hl (fun e => hk np hnp (e ▸ Nd.m_mem pb)) (fun e => hk nq hnq (e ▸ Nd.m_mem qb)) (fun e => hk np hnp (e ▸ np.blk_mem)) (fun e => hk nq hnq (e ▸ nq.blk_mem)) (fun k2 e => hk nx hnx (e ▸ Nd.b_mem (by rw [hrx.big, k2]; rfl)))
  obtain ⟨G, g1, g2⟩ := h.gmap
  refine ⟨?_, h.imap.of_block (off (fun n hn => (h.off n hn).2.1) l2), ⟨G, g1.of_block (off (fun n hn => (h.off n hn).2.2) l3), by rw [hgens.1]; exact g2⟩, fun n hn => ?_, fun y hy => ?_, h.sep, h.off, h.mm⟩
  · rw [hgens.2]
    exact (off (fun n hn => (h.off n hn).1) l1).trans h.head
  · obtain ⟨y, hy, hr⟩ := h.node n hn
    have hlt := hr.lt (hW.kind y hy)
    by_cases c1 : n = nx
    · subst c1
      obtain rfl := h.uniq hW hx hrx hy hr
      have hlx : ∀ y', y'.id = x.id → y'.kind = x.kind → linksN r' y' = linksN r x := fun y' a b => by
        have := hlk x y' a b
        rw [if_neg (fun e => xp e.2.2.symm), if_neg (fun e => xq e.2.2.symm)] at this
        exact this
      have base : ∀ k ∈ n.foot, (x.kind = 2 → k ≠ n.b) → w'.heap[k]? = w.heap[k]? := fun k hk hb => kk k (hlt k hk) (far hn hnp hxp hk (Nd.m_mem pb)) (far hn hnq hxq hk (Nd.m_mem qb)) (far hn hnp hxp hk np.blk_mem) (far hn hnq hxq hk nq.blk_mem) hb
      by_cases k2 : x.kind = 2
      · obtain ⟨xb, x1, x2, x3⟩ := hr.ne k2
        refine ⟨upP x q.id, (hmem _).2 (.inr ⟨k2, rfl⟩), hr.id, ?_, hr.big, fun e => ?_, fun _ => ⟨hxb k2, ?_⟩⟩
        · rw [hlx (upP x q.id) rfl rfl]
          exact (base _ n.blk_mem (fun _ => x2.symm)).trans hr.head
        · have : x.kind = 1 := e
          omega
        · show MapB w' n.m strK intK (namesP r'.nms x.id)
          rw [hnames _ xp xq]
          exact (hr.dir k2).2.of_block (base _ (Nd.m_mem xb) (fun _ => x1.symm))
      · exact ⟨x, (hmem _).2 (.inl ⟨hx, fun e => absurd e k2⟩), hr.keep (fun k hk => base k hk (fun e => absurd e k2)) (hlx x rfl rfl) (fun e => absurd e k2)⟩
    · have hyx : y.id ≠ x.id := fun e => c1 (nodup_inj h.idU hn hnx (by rw [hr.id, hrx.id, e]))
      have hym : y ∈ r'.ins := (hmem _).2 (.inl ⟨hy, fun _ => hyx⟩)
      have hxbn : x.kind = 2 → ∀ k ∈ n.foot, k ≠ nx.b := fun k2 k hk => far hn hnx c1 hk (Nd.b_mem (by rw [hrx.big, k2]; rfl))
      by_cases c2 : n = np
      · subst c2
        obtain rfl := h.uniq hW hp hrp hy hr
        refine ⟨p, hym, hr.mk2 hbp (fun hb => ?_) (fun e => absurd e (by omega)) (fun _ => hmp)⟩
        by_cases c3 : n = nq
        · subst c3
          exact kk _ (hlt _ (Nd.b_mem hb)) p1 p1 p2 p2 (fun k2 => hxbn k2 _ (Nd.b_mem hb))
        · exact kk _ (hlt _ (Nd.b_mem hb)) p1 (far hn hnq c3 (Nd.b_mem hb) (Nd.m_mem qb)) p2 (far hn hnq c3 (Nd.b_mem hb) nq.blk_mem) (fun k2 => hxbn k2 _ (Nd.b_mem hb))
      · by_cases c3 : n = nq
        · subst c3
          obtain rfl := h.uniq hW hq hrq hy hr
          exact ⟨q, hym, hr.mk2 hbq (fun hb => kk _ (hlt _ (Nd.b_mem hb)) (far hn hnp c2 (Nd.b_mem hb) (Nd.m_mem pb)) q1 (far hn hnp c2 (Nd.b_mem hb) np.blk_mem) q2 (fun k2 => hxbn k2 _ (Nd.b_mem hb))) (fun e => absurd e (by omega)) (fun _ => hmq)⟩
        · have hyp : y.id ≠ p.id := fun e => c2 (nodup_inj h.idU hn hnp (by rw [hr.id, hrp.id, e]))
          have hyq : y.id ≠ q.id := fun e => c3 (nodup_inj h.idU hn hnq (by rw [hr.id, hrq.id, e]))
          refine ⟨y, hym, hr.keep (fun k hk => kk k (hlt k hk) (far hn hnp c2 hk (Nd.m_mem pb)) (far hn hnq c3 hk (Nd.m_mem qb)) (far hn hnp c2 hk np.blk_mem) (far hn hnq c3 hk nq.blk_mem) (fun k2 => hxbn k2 k hk)) ?_ (fun _ => hnames _ hyp hyq)⟩
          have := hlk y y rfl rfl
          rw [if_neg (fun e => hyp e.2.2.symm), if_neg (fun e => hyq e.2.2.symm)] at this
          exact this
  · rcases (hmem y).1 hy with ⟨h1, _⟩ | ⟨_, rfl⟩
    · exact h.all y h1
    · exact h.all x hx
end Go.Proofs.Ytpcjmefchclhhaa

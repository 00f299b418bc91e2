/- A part of the proof. -/
import Derived.Test.YtpcjmefchclhhaaGreatZFsG
import Derived.Test.YtpcjmefchclhhaaGreatZFsF
namespace Go.Proofs.YtpcjmefchclhhaaGreat
open Go.RowKit Go.MapKept
set_option maxRecDepth 100000 in
set_option maxHeartbeats 2000000 in
theorem may_any {w : World} {r : RFs} {x : RIn} {n : Nd} (h : NodeR w r x n) (fo : Bool) (fp : Option Addr) :
  Calls Tryz.prog 46 #[.pointer fp, .pointer (some ⟨n.blk, 0, none⟩), .bool fo] w fun e w' => e = .returned (.int .i64 (mayP r x fo)) ∧ w = w' := by
 obtain ⟨-, -, -, -, -, c5⟩ := h.cells
 have hta := fun w => ta_dir w x n
 by_cases hk : x.kind = 2
 ·obtain ⟨hd, hm⟩ := h.dir hk
  have c0 : w.cell? ⟨n.b, 0, none⟩ = some (.map (some n.m)) := by rw [cell_at hd]; rfl
  have hl := run_len_map (P := Tryz.prog) (ty := 3) (t := 69) Tryz.underlying69 hm
  rw [namesP_len] at hl
  unfold mayP
  simp only [hk, if_true, ptrV] at hta ⊢
  clear h hd hm hk
  generalize holdsV x n = hv at *
  generalize manyP r.nms x.id = k at *
  have hcs : fo = false ∨ fo = true ∧ (0 < k ∨ k = 0) := by cases fo <;> simp; omega
  rcases hcs with rfl | ⟨rfl, q | rfl⟩
  ·simp only [Bool.false_eq_true, if_false]
   go_enter Tryz.func46, Tryz.ntmps46
   go_wp2
   go_ret
   exact ⟨rfl, rfl⟩
  ·simp only [q, if_true]
   have q2 : decide (0 < (k : Int)) = true := decide_eq_true (by omega)
   have q3 : decide (0 < k) = true := decide_eq_true q
   go_enter Tryz.func46, Tryz.ntmps46
   go_wp2
   go_ret
   exact ⟨rfl, rfl⟩
  ·simp only [Nat.lt_irrefl, if_true, if_false]
   go_enter Tryz.func46, Tryz.ntmps46
   go_wp2
   go_ret
   exact ⟨rfl, rfl⟩
 ·unfold mayP
  simp only [hk, if_false] at hta ⊢
  clear h hk
  generalize holdsV x n = hv at *
  cases fo
  ·simp only [Bool.false_eq_true, if_false]
   go_enter Tryz.func46, Tryz.ntmps46
   go_wp2
   go_ret
   exact ⟨rfl, rfl⟩
  ·simp only [if_true]
   go_enter Tryz.func46, Tryz.ntmps46
   go_wp2
   go_ret
   exact ⟨rfl, rfl⟩
def fpL (f mi mg : Nat) (N : List Nd) : List Nat := f :: mi :: mg :: N.flatMap Nd.foot
theorem fp_node {f mi mg : Nat} {N : List Nd} {n : Nd} (hn : n ∈ N) {k : Nat} (hk : k ∈ n.foot) : k ∈ fpL f mi mg N := by
 unfold fpL
 simp only [List.mem_cons, List.mem_flatMap]
 exact .inr (.inr (.inr ⟨n, hn, hk⟩))
theorem NodeR.mk2 {w w' : World} {r r' : RFs} {x : RIn} {n : Nd} (h : NodeR w r x n) (hh : w'.heap[n.blk]? = some (.cells (inoC x (linksN r' x) n) 73 (0, 0))) (hb : n.big = true → w'.heap[n.b]? = w.heap[n.b]?) (h1 : x.kind = 1 → w'.heap[n.m]? = w.heap[n.m]?) (h2 : x.kind = 2 → MapB w' n.m strK intK (namesP r'.nms x.id)) : NodeR w' r' x n := by
 refine ⟨h.id, hh, h.big, fun hk => ?_, fun hk => ?_⟩
 ·have hbig : n.big = true := by rw [h.big, hk]; rfl
  obtain ⟨s, bl, g1, g2⟩ := h.file hk
  exact ⟨s, bl, g1.keep (hb hbig) (h1 hk), g2⟩
 ·have hbig : n.big = true := by rw [h.big, hk]; rfl
  exact ⟨(hb hbig).trans (h.dir hk).1, h2 hk⟩
theorem links_set {w : World} {x : RIn} {n : Nd} {lk lk' : Nat} (h : w.heap[n.blk]? = some (.cells (inoC x lk n) 73 (0, 0))) : (w.setCell ⟨n.blk, 4, none⟩ (.int .i64 (lk' : Int))).heap[n.blk]? = some (.cells (inoC x lk' n) 73 (0, 0)) :=
 heap_setCell_same w n.blk 4 _ _ _ h
theorem setCell_far (w : World) (b i k : Nat) (v : Value) (h : k ≠ b) : (w.setCell ⟨b, i, none⟩ v).heap[k]? = w.heap[k]? := Below.heap_setCell w ⟨b, i, none⟩ v k h
theorem blk_ne {w : World} {a b : Nat} {cs cs' : Array Value} {t t' : TypeId} {fr fr' : Nat × Nat} (ha : w.heap[a]? = some (.cells cs t fr)) (hb : w.heap[b]? = some (.cells cs' t' fr')) (ht : t ≠ t') : a ≠ b := fun e => by
 rw [e, hb] at ha
 injection ha with ha
 injection ha with _ h2 _
 exact ht h2.symm
theorem map_ne {κ β : Type} {w : World} {a b : Nat} {kf : κ → Value} {vf : β → Value} {L : List (κ × β)} {cs : Array Value} {t : TypeId} {fr : Nat × Nat} (ha : MapB w a kf vf L) (hb : w.heap[b]? = some (.cells cs t fr)) : a ≠ b := fun e => by
 obtain ⟨es, c, h, _⟩ := ha
 rw [e, hb] at h
 cases h
set_option maxRecDepth 100000 in
set_option maxHeartbeats 4000000 in
theorem drop_any {w : World} {f mi mg K : Nat} {r : RFs} {N : List Nd} (h : FsN w f mi mg r N) (hW : Wf r K) {d : RIn} {np : Nd} (hd : d ∈ r.ins) (hk : d.kind = 2) (hnp : np ∈ N) (hrp : NodeR w r d np) (s : ByteArray) (he : entryP r.nms d.id s ≠ 0) :
  Calls Tryz.prog 47 #[.pointer (some ⟨f, 0, none⟩), .agg #[.pointer (some ⟨np.blk, 0, none⟩), .pointer (some ⟨np.b, 0, none⟩), .string s]] w
   fun e w' => e = .returned (.tuple #[]) ∧ (∃ N', FsN w' f mi mg (dropP r d.id s) N' ∧ ∀ n ∈ N', n ∈ N) ∧ Frm (fpL f mi mg N) w w' := by
 obtain ⟨n0, hn0, e1, e2, e3⟩ := entry_mem he
 obtain ⟨hx1, x, hx, ex⟩ := hW.nmI n0 hn0
 obtain ⟨nx, hnx, hrx⟩ := h.at_ hW hx
 have hid : entryP r.nms d.id s = x.id := by rw [← e3, ← ex]
 have hbx : byIdP r.ins x.id = x := hW.byId hx
 have hxd : x.id ≠ d.id := by rw [ex, ← e1]; exact hW.self_ne hn0
 have hnxp : nx ≠ np := fun e => hxd (by rw [← hrx.id, ← hrp.id, e])
 have hne : nx.blk ≠ np.blk := fun e => h.apart hnx hnp hnxp _ nx.blk_mem (by rw [e]; exact np.blk_mem)
 have hpb : np.big = true := by rw [hrp.big, hk]; rfl
 obtain ⟨l1, l2, l3, l4⟩ := h.lt hW
 obtain ⟨o1, o2, o3⟩ := h.off np hnp
 obtain ⟨o4, o5, o6⟩ := h.off nx hnx
 have hun := linksN_unnamed hW hn0
 rw [e1, e2] at hun
 have hlx : 1 ≤ linksN r x := by
  have := hun x
  by_cases hkx : x.kind = 2
  ·unfold linksN; rw [if_pos hkx]; omega
  ·rw [if_neg hkx, if_pos ex.symm] at this; omega
 have hlx2 := hW.lim x hx
 have hld2 := hW.lim d hd
 have hld : 2 ≤ linksN r d := by unfold linksN; rw [if_pos hk]; omega
 obtain ⟨w1, hw1, hB1, hs1, hb1⟩ := box1 w #[.pointer (some ⟨np.blk, 0, none⟩), .pointer (some ⟨np.b, 0, none⟩), .string s] 85
 have h1 := h.below hW hB1
 have hrp1 := hrp.below (.inr (.inl hk)) hB1
 have HAt := Lib.hid (at_any hrp1 hk (hrp1.lt (.inr (.inl hk))) s (some ⟨np.blk, 0, none⟩))
 rw [hid] at HAt
 have HG := Lib.hid (show ∀ w2, Below w1.heap.size w1 w2 → FsN w2 f mi mg r N ∧ NodeR w2 r d np ∧ NodeR w2 r x nx ∧ w2.heap[w.heap.size]? = some (.cells #[.pointer (some ⟨np.blk, 0, none⟩), .pointer (some ⟨np.b, 0, none⟩), .string s] 85 (0, 0)) ∧ Below w.heap.size w w2 from fun w2 hb =>
  ⟨h1.below hW hb, hrp1.below (.inr (.inl hk)) hb, (hrx.below (hW.kind x hx) hB1).below (hW.kind x hx) hb, (hb.block _ (by omega)).trans hb1, hB1.trans (hb.mono hB1.size)⟩)
 have HW1 := Lib.hid hw1
 have HGet := Lib.hid (h.get hnx)
 rw [hrx.id] at HGet
 have hta := fun w => ta_dir w x nx
 have HFin : Hid (∀ (w3 : World), Frm [np.m] w w3 → MapB w3 np.m strK intK (adel (namesP r.nms d.id) s) →
   (x.kind = 2 → ∀ o, MapB (putObj ((w3.setCell ⟨nx.blk, 4, none⟩ (.int .i64 ((linksN r x - 1 : Nat) : Int))).setCell ⟨np.blk, 4, none⟩ (.int .i64 ((linksN r d - 1 : Nat) : Int))) mi o) mi intK ptrV (adel (N.map fun n => (n.id, n.blk)) x.id) →
    (∃ N', FsN (putObj ((w3.setCell ⟨nx.blk, 4, none⟩ (.int .i64 ((linksN r x - 1 : Nat) : Int))).setCell ⟨np.blk, 4, none⟩ (.int .i64 ((linksN r d - 1 : Nat) : Int))) mi o) f mi mg (dropP r d.id s) N' ∧ ∀ n ∈ N', n ∈ N) ∧ Frm (fpL f mi mg N) w (putObj ((w3.setCell ⟨nx.blk, 4, none⟩ (.int .i64 ((linksN r x - 1 : Nat) : Int))).setCell ⟨np.blk, 4, none⟩ (.int .i64 ((linksN r d - 1 : Nat) : Int))) mi o)) ∧
   (x.kind ≠ 2 → linksN r x = 1 → ∀ o, MapB (putObj (w3.setCell ⟨nx.blk, 4, none⟩ (.int .i64 ((linksN r x - 1 : Nat) : Int))) mi o) mi intK ptrV (adel (N.map fun n => (n.id, n.blk)) x.id) →
    (∃ N', FsN (putObj (w3.setCell ⟨nx.blk, 4, none⟩ (.int .i64 ((linksN r x - 1 : Nat) : Int))) mi o) f mi mg (dropP r d.id s) N' ∧ ∀ n ∈ N', n ∈ N) ∧ Frm (fpL f mi mg N) w (putObj (w3.setCell ⟨nx.blk, 4, none⟩ (.int .i64 ((linksN r x - 1 : Nat) : Int))) mi o)) ∧
   (x.kind ≠ 2 → linksN r x ≠ 1 →
    (∃ N', FsN (w3.setCell ⟨nx.blk, 4, none⟩ (.int .i64 ((linksN r x - 1 : Nat) : Int))) f mi mg (dropP r d.id s) N' ∧ ∀ n ∈ N', n ∈ N) ∧ Frm (fpL f mi mg N) w (w3.setCell ⟨nx.blk, 4, none⟩ (.int .i64 ((linksN r x - 1 : Nat) : Int))))) := by
  have hkx := hW.kind x hx
  have hm3 : np.m ∉ nx.foot := fun hm => h.apart hnp hnx (fun e => hnxp e.symm) _ (Nd.m_mem hpb) hm
  have hud : linksN (unnamedP r d.id s) d = if x.kind = 2 then linksN r d - 1 else linksN r d := by
   have := hun d
   rw [if_pos hk, e3, hid, hbx] at this
   by_cases q : x.kind = 2
   ·rw [if_pos q]; rw [if_pos ⟨rfl, q⟩] at this; omega
   ·rw [if_neg q]; rw [if_neg (fun e => q e.2)] at this; omega
  have hux : x.kind ≠ 2 → linksN (unnamedP r d.id s) x = linksN r x - 1 := fun q => by
   have := hun x
   rw [if_neg q, if_pos ex.symm] at this
   omega
  have huo : ∀ y : RIn, y.id ≠ d.id → y.id ≠ x.id → linksN (unnamedP r d.id s) y = linksN r y := fun y q1 q2 => by
   have := hun y
   by_cases q : y.kind = 2
   ·rw [if_pos q, if_neg (fun e => q1 e.1.symm)] at this; omega
   ·rw [if_neg q, if_neg (fun e => q2 (e.symm.trans ex.symm))] at this; omega
  have hgo : ∀ y, linksN (goneP (unnamedP r d.id s) x.id) y = linksN (unnamedP r d.id s) y := fun y => by
   refine linksN_gone (fun n hn hni => ?_) y
   show (byIdP r.ins x.id).kind ≠ 2
   rw [hbx]
   intro q
   have hn' := (List.mem_filter.1 hn)
   have := hW.one_name hx q (by rw [ex]; exact hx1) hn'.1 hn0 hni ex.symm
   have hn2 := hn'.2
   rw [this.1, this.2, e1, e2] at hn2
   simp at hn2
  intro w3 F3 M3
  have M3' : MapB w3 np.m strK intK (namesP (unnamedP r d.id s).nms d.id) := by
   unfold unnamedP
   rw [namesP_unnamed, if_pos rfl]
   exact M3
  have hno : ∀ y : RIn, y.id ≠ d.id → namesP (unnamedP r d.id s).nms y.id = namesP r.nms y.id := fun y q => by
   unfold unnamedP
   rw [namesP_unnamed, if_neg q]
  have k3 : ∀ k, k < w.heap.size → k ≠ np.m → w3.heap[k]? = w.heap[k]? := fun k hk1 hk2 => F3.block k hk1 (by simpa using hk2)
  have hpm : np.m < w.heap.size := l4 np hnp _ (Nd.m_mem hpb)
  -- what is known of every node, whatever cells 4 of x and of d become
  have node : ∀ (w' : World) (r' : RFs), (∀ k, k < w.heap.size → k ≠ np.m → k ≠ nx.blk → k ≠ np.blk → k ≠ mi → w'.heap[k]? = w.heap[k]?) → w'.heap[np.m]? = w3.heap[np.m]? →
    r'.nms = (unnamedP r d.id s).nms → (∀ y, linksN r' y = linksN (unnamedP r d.id s) y) →
    (w'.heap[np.blk]? = some (.cells (inoC d (linksN (unnamedP r d.id s) d) np) 73 (0, 0))) →
    ∀ n ∈ N, n ≠ nx → ∃ y ∈ r.ins, y.id ≠ x.id ∧ NodeR w' r' y n := by
   intro w' r' hk1 hm1 hn1 hl1 hp1 n hn hnn
   obtain ⟨y, hy, hr⟩ := h.node n hn
   have hyx : y.id ≠ x.id := fun e => hnn (nodup_inj h.idU hn hnx (by rw [hr.id, hrx.id, e]))
   refine ⟨y, hy, hyx, ?_⟩
   have hmi' : mi ∉ n.foot := (h.off n hn).2.1
   have hxb : nx.blk ∉ n.foot := fun hm => h.apart hnx hn (fun e => hnn e.symm) _ nx.blk_mem hm
   by_cases hnp' : n = np
   ·subst hnp'
    have : y = d := by
     have a1 := hW.byId hy
     have a2 := hW.byId hd
     rw [← hr.id, hrp.id, a2] at a1
     exact a1.symm
    subst this
    refine hr.mk2 (by rw [hl1]; exact hp1) (fun hb => hk1 _ (l4 _ hn _ (Nd.b_mem hb)) ?_ (fun e => hxb (by rw [← e]; exact Nd.b_mem hb)) ?_ (fun e => hmi' (by rw [← e]; exact Nd.b_mem hb))) (fun q => absurd q (by omega)) (fun _ => ?_)
    ·exact fun e => map_ne (hr.dir hk).2 (hr.dir hk).1 e.symm
    ·exact blk_ne (hr.dir hk).1 hr.head (by decide)
    ·rw [hn1]
     exact M3'.of_block hm1
   ·have hyd : y.id ≠ d.id := fun e => hnp' (nodup_inj h.idU hn hnp (by rw [hr.id, hrp.id, e]))
    have hap := h.apart hnp hn (fun e => hnp' e.symm)
    refine hr.keep (fun k hkf => hk1 k (l4 n hn k hkf) (fun e => hap _ (Nd.m_mem hpb) (e ▸ hkf)) (fun e => hxb (e ▸ hkf)) (fun e => hap _ np.blk_mem (e ▸ hkf)) (fun e => hmi' (e ▸ hkf))) ?_ (fun _ => ?_)
    ·rw [hl1]; exact huo y hyd hyx
    ·rw [hn1]; exact hno y hyd
  have hx3 : w3.heap[nx.blk]? = some (.cells (inoC x (linksN r x) nx) 73 (0, 0)) := (k3 _ (l4 nx hnx _ nx.blk_mem) (fun e => hm3 (e ▸ nx.blk_mem))).trans hrx.head
  have hp3 : w3.heap[np.blk]? = some (.cells (inoC d (linksN r d) np) 73 (0, 0)) := (k3 _ (l4 np hnp _ np.blk_mem) (fun e => map_ne (hrp.dir hk).2 hrp.head e.symm)).trans hrp.head
  obtain ⟨G, hg1, hg2⟩ := h.gmap
  have hmn : mi ≠ nx.blk := fun e => o5 (e ▸ nx.blk_mem)
  have hmp' : mi ≠ np.blk := fun e => o2 (e ▸ np.blk_mem)
  have hgn : mg ≠ nx.blk := fun e => o6 (e ▸ nx.blk_mem)
  have hgp : mg ≠ np.blk := fun e => o3 (e ▸ np.blk_mem)
  have hfn : f ≠ nx.blk := fun e => o4 (e ▸ nx.blk_mem)
  have hfp : f ≠ np.blk := fun e => o1 (e ▸ np.blk_mem)
  have hfm : f ≠ np.m := fun e => o1 (e ▸ Nd.m_mem hpb)
  have hmm : mi ≠ np.m := fun e => o2 (e ▸ Nd.m_mem hpb)
  have hgm : mg ≠ np.m := fun e => o3 (e ▸ Nd.m_mem hpb)
  have hfi : f ≠ mi := fun e => map_ne h.imap h.head e.symm
  have o1p : np.m ≠ np.blk := map_ne (hrp.dir hk).2 hrp.head
  have hadl : adel (N.map fun n => (n.id, n.blk)) x.id = (N.filter fun n => decide (n.id ≠ x.id)).map fun n => (n.id, n.blk) := by
   unfold adel
   rw [List.filter_map]
   rfl
  refine ⟨fun q o hmp => ?_, fun q ql o hmp => ?_, fun q ql => ?_⟩
  ·have hr' : dropP r d.id s = goneP (unnamedP r d.id s) x.id := by
    unfold dropP
    rw [hid, hbx, if_pos (.inl q)]
   rw [hr']
   have kk : ∀ k, k < w.heap.size → k ≠ np.m → k ≠ nx.blk → k ≠ np.blk → k ≠ mi → (putObj ((w3.setCell ⟨nx.blk, 4, none⟩ (.int .i64 ((linksN r x - 1 : Nat) : Int))).setCell ⟨np.blk, 4, none⟩ (.int .i64 ((linksN r d - 1 : Nat) : Int))) mi o).heap[k]? = w.heap[k]? := fun k a b c c2 e => (putObj_other _ o e).trans ((setCell_far _ _ _ _ _ c2).trans ((setCell_far _ _ _ _ _ c).trans (k3 k a b)))
   have km : (putObj ((w3.setCell ⟨nx.blk, 4, none⟩ (.int .i64 ((linksN r x - 1 : Nat) : Int))).setCell ⟨np.blk, 4, none⟩ (.int .i64 ((linksN r d - 1 : Nat) : Int))) mi o).heap[np.m]? = w3.heap[np.m]? := (putObj_other _ o (fun e => hmm e.symm)).trans ((setCell_far _ _ _ _ _ (fun e => o1p e)).trans (setCell_far _ _ _ _ _ (fun e => hm3 (e ▸ nx.blk_mem))))
   refine ⟨⟨N.filter fun n => decide (n.id ≠ x.id), ⟨(kk f l1 hfm hfn hfp hfi).trans h.head, ?_, ⟨G, hg1.of_block (kk mg l3 hgm hgn hgp (fun e => h.mm e.symm)), hg2⟩, fun n hn => ?_, fun y hy => ?_, h.sep.filter _, fun n hn => h.off n (List.mem_filter.1 hn).1, h.mm⟩, fun n hn => (List.mem_filter.1 hn).1⟩, ?_⟩
   ·have e := hadl
    rw [e] at hmp
    exact hmp
   ·obtain ⟨hn1, hn2⟩ := List.mem_filter.1 hn
    have hnn : n ≠ nx := fun e => by rw [e, hrx.id] at hn2; simp at hn2
    obtain ⟨y, hy, hyx, hr⟩ := node _ (goneP (unnamedP r d.id s) x.id) kk km rfl hgo ((putObj_other _ o (fun e => hmp' e.symm)).trans (by rw [hud, if_pos q]; exact links_set ((setCell_far _ _ _ _ _ (fun e => hne e.symm)).trans hp3))) n hn1 hnn
    exact ⟨y, List.mem_filter.2 ⟨hy, by simpa using hyx⟩, hr⟩
   ·obtain ⟨hy1, hy2⟩ := List.mem_filter.1 hy
    obtain ⟨n, hn, e⟩ := h.all y hy1
    exact ⟨n, List.mem_filter.2 ⟨hn, by rw [e]; exact hy2⟩, e⟩
   ·exact (((F3.mono (fun k hk1 => by simp at hk1; subst hk1; exact fp_node hnp (Nd.m_mem hpb))).setCell (.inl (fp_node hnx nx.blk_mem)) _).setCell (.inl (fp_node hnp np.blk_mem)) _).putObj (.inl (by unfold fpL; simp)) o
  ·have hr' : dropP r d.id s = goneP (unnamedP r d.id s) x.id := by
    unfold dropP
    rw [hid, hbx, if_pos (.inr (by rw [hux q, ql]))]
   rw [hr']
   have kk : ∀ k, k < w.heap.size → k ≠ np.m → k ≠ nx.blk → k ≠ np.blk → k ≠ mi → (putObj (w3.setCell ⟨nx.blk, 4, none⟩ (.int .i64 ((linksN r x - 1 : Nat) : Int))) mi o).heap[k]? = w.heap[k]? := fun k a b c c2 e => (putObj_other _ o e).trans ((setCell_far _ _ _ _ _ c).trans (k3 k a b))
   have km : (putObj (w3.setCell ⟨nx.blk, 4, none⟩ (.int .i64 ((linksN r x - 1 : Nat) : Int))) mi o).heap[np.m]? = w3.heap[np.m]? := (putObj_other _ o (fun e => hmm e.symm)).trans (setCell_far _ _ _ _ _ (fun e => hm3 (e ▸ nx.blk_mem)))
   refine ⟨⟨N.filter fun n => decide (n.id ≠ x.id), ⟨(kk f l1 hfm hfn hfp hfi).trans h.head, ?_, ⟨G, hg1.of_block (kk mg l3 hgm hgn hgp (fun e => h.mm e.symm)), hg2⟩, fun n hn => ?_, fun y hy => ?_, h.sep.filter _, fun n hn => h.off n (List.mem_filter.1 hn).1, h.mm⟩, fun n hn => (List.mem_filter.1 hn).1⟩, ?_⟩
   ·have e := hadl
    rw [e] at hmp
    exact hmp
   ·obtain ⟨hn1, hn2⟩ := List.mem_filter.1 hn
    have hnn : n ≠ nx := fun e => by rw [e, hrx.id] at hn2; simp at hn2
    obtain ⟨y, hy, hyx, hr⟩ := node _ (goneP (unnamedP r d.id s) x.id) kk km rfl hgo ((putObj_other _ o (fun e => hmp' e.symm)).trans ((setCell_far _ _ _ _ _ (fun e => hne e.symm)).trans (by rw [hp3, hud, if_neg q]))) n hn1 hnn
    exact ⟨y, List.mem_filter.2 ⟨hy, by simpa using hyx⟩, hr⟩
   ·obtain ⟨hy1, hy2⟩ := List.mem_filter.1 hy
    obtain ⟨n, hn, e⟩ := h.all y hy1
    exact ⟨n, List.mem_filter.2 ⟨hn, by rw [e]; exact hy2⟩, e⟩
   ·exact ((F3.mono (fun k hk1 => by simp at hk1; subst hk1; exact fp_node hnp (Nd.m_mem hpb))).setCell (.inl (fp_node hnx nx.blk_mem)) _).putObj (.inl (by unfold fpL; simp)) o
  ·have hr' : dropP r d.id s = unnamedP r d.id s := by
    unfold dropP
    rw [hid, hbx, if_neg]
    rintro (e | e)
    ·exact q e
    ·rw [hux q] at e; omega
   rw [hr']
   have kk : ∀ k, k < w.heap.size → k ≠ np.m → k ≠ nx.blk → (w3.setCell ⟨nx.blk, 4, none⟩ (.int .i64 ((linksN r x - 1 : Nat) : Int))).heap[k]? = w.heap[k]? := fun k a b c => (setCell_far _ _ _ _ _ c).trans (k3 k a b)
   refine ⟨⟨N, ⟨(kk f l1 hfm hfn).trans h.head, h.imap.of_block (kk mi l2 hmm hmn), ⟨G, hg1.of_block (kk mg l3 hgm hgn), hg2⟩, fun n hn => ?_, h.all, h.sep, h.off, h.mm⟩, fun n hn => hn⟩, ?_⟩
   ·by_cases hnn : n = nx
    ·subst hnn
     refine ⟨x, hx, hrx.mk2 ?_ (fun hb => kk _ (l4 _ hnx _ (Nd.b_mem hb)) (fun e => hm3 (e ▸ Nd.b_mem hb)) ?_) (fun q1 => kk _ (l4 _ hnx _ (Nd.m_mem (by rw [hrx.big, q1]; rfl))) (fun e => hm3 (e ▸ Nd.m_mem (by rw [hrx.big, q1]; rfl))) ?_) (fun q1 => absurd q1 q)⟩
     ·rw [hux q]; exact links_set hx3
     ·rcases hkx with q1 | q1 | q1
      ·obtain ⟨sz, bl, g1, _⟩ := hrx.file q1
       exact blk_ne g1.head hrx.head (by decide)
      ·exact absurd q1 q
      ·rw [hrx.big, q1] at hb; cases hb
     ·obtain ⟨sz, bl, g1, _⟩ := hrx.file q1
      exact map_ne g1.map hrx.head
    ·obtain ⟨y, hy, _, hr⟩ := node _ (unnamedP r d.id s) (fun k a b c _ _ => kk k a b c) (setCell_far _ _ _ _ _ (fun e => hm3 (e ▸ nx.blk_mem))) rfl (fun _ => rfl) ((setCell_far _ _ _ _ _ (fun e => hne e.symm)).trans (by rw [hp3, hud, if_neg q])) n hn hnn
     exact ⟨y, hy, hr⟩
   ·exact (F3.mono (fun k hk1 => by simp at hk1; subst hk1; exact fp_node hnp (Nd.m_mem hpb))).setCell (.inl (fp_node hnx nx.blk_mem)) _
 have HKd := Lib.hid hk
 have HMi := Lib.hid (show mi ≠ np.m from fun e => o2 (by rw [e]; exact Nd.m_mem hpb))
 clear hw1 hB1 hb1 h1 hrp1 h hW hd hk hnp hrp he hn0 hx1 hx ex hnx hrx hid hbx hxd hnxp hpb l1 l2 l3 l4 hun e1 e2 e3 o1 o2 o3 o4 o5 o6
 go_enter Tryz.func47, Tryz.ntmps47
 go_wp2_with fail
 rw [HW1.out]
 go_upto_region 3 with (go_at_call 26; (with_reducible refine HAt.out.mono ?_); rintro e w2 ⟨rfl, hB2⟩; obtain ⟨g1, g2, g3, g4, g5⟩ := HG.out w2 hB2; have hlk := (g1.look x.id).2; rw [HGet.out] at hlk; simp only [Option.map_some, Option.getD_some, ptrV] at hlk; obtain ⟨-, f1, -⟩ := g1.cells; replace hB2 := Lib.hid hB2; replace g1 := Lib.hid g1; replace g2 := Lib.hid g2; replace g3 := Lib.hid g3; replace g4 := Lib.hid g4; replace g5 := Lib.hid g5)
 have d0 : w2.cell? ⟨np.b, 0, none⟩ = some (.map (some np.m)) := by rw [cell_at (g2.out.dir HKd.out).1]; rfl
 have q1 : w2.cell? ⟨w.heap.size, 1, none⟩ = _ := cell_at g4.out 1
 have q2 : w2.cell? ⟨w.heap.size, 2, none⟩ = _ := cell_at g4.out 2
 have hmD : MapB w2.drew np.m strK intK (namesP r.nms d.id) := (g2.out.dir HKd.out).2
 obtain ⟨o, hdel, hmp⟩ := run_delete (P := Tryz.prog) (ty := 0) (tk := 9) KS (t := 69) Tryz.underlying69 hmD s
 have hmlt := hmD.lt
 have M3 := Lib.hid hmp
 have hF3 : Frm [np.m] w2 (putObj w2.drew np.m o) := (Frm.refl _ _).drew.putObj (.inl (by simp)) o
 have F3 := Lib.hid ((Frm.of_below g5.out).trans hF3)
 have k1 := map_ne (g2.out.dir HKd.out).2 g3.out.head
 have k2 := map_ne (g2.out.dir HKd.out).2 g2.out.head
 have X3 := Lib.hid ((hF3.block nx.blk (heap_lt g3.out.head) (by simpa using fun e => k1 e.symm)).trans g3.out.head)
 have D3 := Lib.hid ((hF3.block np.blk (heap_lt g2.out.head) (by simpa using fun e => k2 e.symm)).trans g2.out.head)
 have Q3 := Lib.hid ((hF3.block w.heap.size (heap_lt g4.out) (by simpa using map_ne (g2.out.dir HKd.out).2 g4.out |>.symm)).trans g4.out)
 have E3 := Lib.hid ((hF3.block f (heap_lt g1.out.head) (by simpa using map_ne (g2.out.dir HKd.out).2 g1.out.head |>.symm)).trans g1.out.head)
 have hmi : mi ≠ np.m := HMi.out
 have I3 := Lib.hid (g1.out.imap.of_block (hF3.block mi g1.out.imap.lt (by simpa using hmi)))
 unfold strK at hdel
 clear hmD hmp hF3
 go_still_tail 7, (by kernel_rfl)
 change wpList _ _ _ _ _ w2.drew
 go_upto_region 4 with fail
 obtain ⟨w3, hw3⟩ : ∃ w3, putObj w2.drew np.m o = w3 := ⟨_, rfl⟩
 rw [hw3]
 rw [hw3] at M3 F3 X3 D3 Q3 E3 I3
 clear hw3 hdel k1 k2 hlk d0 q1 q2 f1
 have x4 : w3.cell? ⟨nx.blk, 4, none⟩ = some (.int .i64 (linksN r x : Int)) := by rw [cell_at X3.out]; rfl
 have x5 : w3.cell? ⟨nx.blk, 5, none⟩ = some (holdsV x nx) := by rw [cell_at X3.out]; rfl
 have x4f : w3.frozen? ⟨nx.blk, 4, none⟩ = false := frozen_of_row w3 nx.blk 4 _ _ X3.out
 have y4 : w3.cell? ⟨np.blk, 4, none⟩ = some (.int .i64 (linksN r d : Int)) := by rw [cell_at D3.out]; rfl
 have y4f : w3.frozen? ⟨np.blk, 4, none⟩ = false := frozen_of_row w3 np.blk 4 _ _ D3.out
 have z0 : w3.cell? ⟨w.heap.size, 0, none⟩ = some (.pointer (some ⟨np.blk, 0, none⟩)) := by rw [cell_at Q3.out]; rfl
 have f1 : w3.cell? ⟨f, 1, none⟩ = some (.map (some mi)) := by rw [cell_at E3.out]; rfl
 have hqn : w.heap.size ≠ nx.blk := blk_ne Q3.out X3.out (by decide)
 have hqp : w.heap.size ≠ np.blk := blk_ne Q3.out D3.out (by decide)
 have hfn : f ≠ nx.blk := blk_ne E3.out X3.out (by decide)
 have hfp : f ≠ np.blk := blk_ne E3.out D3.out (by decide)
 generalize hlkx : linksN r x = lk at *
 generalize hlkd : linksN r d = ld at *
 have c1 : ((lk : Int) - 1) = ((lk - 1 : Nat) : Int) := by omega
 have c2 : ((ld : Int) - 1) = ((ld - 1 : Nat) : Int) := by omega
 clear hlkx hlkd
 generalize hh : holdsV x nx = hv at *
 clear hh
 obtain ⟨t1, t2, t3⟩ := HFin.out w3 F3.out M3.out
 have T1 := Lib.hid t1
 have T2 := Lib.hid t2
 have T3 := Lib.hid t3
 clear t1 t2 t3 HFin
 have hcs : x.kind = 2 ∨ x.kind ≠ 2 ∧ (lk = 1 ∨ 2 ≤ lk) := by omega
 rcases hcs with q | ⟨q, q' | q'⟩
 ·simp only [q, if_true] at hta
  have T := Lib.hid (T1.out q)
  clear T1 T2 T3 q
  have q3 : (2 : Int) ≤ ld := by omega
  rw [← c1, ← c2] at T
  clear c1 c2
  obtain ⟨o2, hdl2, hmp2⟩ := run_delete (P := Tryz.prog) (ty := 0) (tk := 3) KI (t := 63) Tryz.underlying63 (I3.out.of_block (w' := (w3.setCell ⟨nx.blk, 4, none⟩ (.int .i64 ((lk : Int) - 1))).setCell ⟨np.blk, 4, none⟩ (.int .i64 ((ld : Int) - 1))) ((setCell_far _ _ _ _ _ (map_ne I3.out D3.out)).trans (setCell_far _ _ _ _ _ (map_ne I3.out X3.out)))) x.id
  have HT := Lib.hid (T.out o2 hmp2)
  unfold intK at hdl2
  clear T hmp2
  go_wp2
  ((try simp only [Exit.inBlock, Exit.then]); first | refine bodyPost_ret (results_none rfl _ _ _) rfl ?_ | refine bodyPost_end (results_none rfl _ _ _) rfl ?_)
  exact ⟨rfl, HT.out⟩
 ·simp only [q, if_false] at hta
  have T := Lib.hid (T2.out q q')
  clear T1 T2 T3 q c1 c2
  subst q'
  rw [show (((1 - 1 : Nat)) : Int) = 0 from rfl] at T
  obtain ⟨o2, hdl2, hmp2⟩ := run_delete (P := Tryz.prog) (ty := 0) (tk := 3) KI (t := 63) Tryz.underlying63 (I3.out.of_block (w' := w3.setCell ⟨nx.blk, 4, none⟩ (.int .i64 0)) (setCell_far _ _ _ _ _ (map_ne I3.out X3.out))) x.id
  have HT := Lib.hid (T.out o2 hmp2)
  unfold intK at hdl2
  clear T hmp2
  go_wp2
  ((try simp only [Exit.inBlock, Exit.then]); first | refine bodyPost_ret (results_none rfl _ _ _) rfl ?_ | refine bodyPost_end (results_none rfl _ _ _) rfl ?_)
  exact ⟨rfl, HT.out⟩
 ·simp only [q, if_false] at hta
  have T := Lib.hid (T3.out q (by omega))
  clear T1 T2 T3 q
  have q2 : ((lk : Int) - 1 == 0) = false := by rw [beq_eq_false_iff_ne]; omega
  rw [← c1] at T
  clear c1 c2
  go_wp2
  ((try simp only [Exit.inBlock, Exit.then]); first | refine bodyPost_ret (results_none rfl _ _ _) rfl ?_ | refine bodyPost_end (results_none rfl _ _ _) rfl ?_)
  exact ⟨rfl, T.out⟩
end Go.Proofs.YtpcjmefchclhhaaGreat

/- A part of the proof. -/
import Derived.Test.YtpcjmefchclhhaaGreatZFsI
namespace Go.Proofs.YtpcjmefchclhhaaGreat
open Go.RowKit Go.MapKept
def linkP (r : RFs) (h d : Int × Int) (s : ByteArray) : RFs × Int :=
 if liveP r h = false then (r, 175) else if placeE r d s false ≠ 0 then (r, placeE r d s false) else if (byIdP r.ins h.1).kind = 2 then (r, 172)
 else if entryP r.nms d.1 s ≠ 0 then (r, 171) else if 20 ≤ linksN r (byIdP r.ins h.1) then (r, 179) else (namedP r d.1 s h.1, 0)
theorem named_fs {w w' : World} {f mi mg K : Nat} {r : RFs} {N : List Nd} (h : FsN w f mi mg r N) (hW : Wf r K) {d x : RIn} {np nx : Nd} (hd : d ∈ r.ins) (hk : d.kind = 2) (hnp : np ∈ N) (hrp : NodeR w r d np) (hx : x ∈ r.ins) (hkx : x.kind ≠ 2) (hnx : nx ∈ N) (hrx : NodeR w r x nx) (s : ByteArray)
  (kk : ∀ k, k < w.heap.size → k ≠ np.m → k ≠ nx.blk → w'.heap[k]? = w.heap[k]?) (hm : MapB w' np.m strK intK (namesP r.nms d.id ++ [(s, x.id)]))
  (hx' : w'.heap[nx.blk]? = some (.cells (inoC x (linksN r x + 1) nx) 73 (0, 0))) : FsN w' f mi mg (namedP r d.id s x.id) N := by
 have hbx : byIdP r.ins x.id = x := hW.byId hx
 have hxd : x.id ≠ d.id := fun e => by
  have a1 := hW.byId hx
  rw [e, hW.byId hd] at a1
  rw [a1] at hk
  exact hkx hk
 have hnxp : nx ≠ np := fun e => hxd (by rw [← hrx.id, ← hrp.id, e])
 have hpb : np.big = true := by rw [hrp.big, hk]; rfl
 obtain ⟨l1, l2, l3, l4⟩ := h.lt hW
 obtain ⟨o1, o2, o3⟩ := h.off np hnp
 obtain ⟨o4, o5, o6⟩ := h.off nx hnx
 have hm3 : np.m ∉ nx.foot := fun hm => h.apart hnp hnx (fun e => hnxp e.symm) _ (Nd.m_mem hpb) hm
 have hl := linksN_named r d.id s x.id
 rw [hbx] at hl
 obtain ⟨G, hg1, hg2⟩ := h.gmap
 have kf : ∀ k, k < w.heap.size → k ∉ np.foot → k ∉ nx.foot → w'.heap[k]? = w.heap[k]? := fun k a b c => kk k a (fun e => b (e ▸ Nd.m_mem hpb)) (fun e => c (e ▸ nx.blk_mem))
 refine ⟨(kf f l1 o1 o4).trans h.head, h.imap.of_block (kf mi l2 o2 o5), ⟨G, hg1.of_block (kf mg l3 o3 o6), hg2⟩, fun n hn => ?_, h.all, h.sep, h.off, h.mm⟩
 obtain ⟨y, hy, hr⟩ := h.node n hn
 refine ⟨y, hy, ?_⟩
 have uniq : ∀ {z : RIn} {nz : Nd}, z ∈ r.ins → NodeR w r z nz → n = nz → y = z := fun {z nz} hz hrz e => by
  have a1 := hW.byId hy
  rw [← hr.id, e, hrz.id, hW.byId hz] at a1
  exact a1.symm
 by_cases h1 : n = nx
 ·have := uniq hx hrx h1
  subst h1 this
  refine hr.mk2 (by rw [hl, if_neg hkx, if_pos rfl]; exact hx') (fun hb => kk _ (l4 _ hn _ (Nd.b_mem hb)) (fun e => hm3 (e ▸ Nd.b_mem hb)) ?_) (fun q1 => kk _ (l4 _ hn _ (Nd.m_mem (by rw [hr.big, q1]; rfl))) (fun e => hm3 (e ▸ Nd.m_mem (by rw [hr.big, q1]; rfl))) ?_) (fun q1 => absurd q1 hkx)
  ·rcases hW.kind y hy with q1 | q1 | q1
   ·obtain ⟨sz, bl, g1, _⟩ := hr.file q1
    exact blk_ne g1.head hr.head (by decide)
   ·exact absurd q1 hkx
   ·rw [hr.big, q1] at hb; cases hb
  ·obtain ⟨sz, bl, g1, _⟩ := hr.file q1
   exact map_ne g1.map hr.head
 ·have hxb : nx.blk ∉ n.foot := fun hm => h.apart hnx hn (fun e => h1 e.symm) _ nx.blk_mem hm
  have hyx : y.id ≠ x.id := fun e => h1 (nodup_inj h.idU hn hnx (by rw [hr.id, hrx.id, e]))
  by_cases h2 : n = np
  ·have := uniq hd hrp h2
   subst h2 this
   refine hr.mk2 ?_ (fun hb => kk _ (l4 _ hn _ (Nd.b_mem hb)) (fun e => map_ne (hr.dir hk).2 (hr.dir hk).1 e.symm) (fun e => hxb (e ▸ Nd.b_mem hb))) (fun q => absurd q (by omega)) (fun _ => ?_)
   ·rw [hl, if_pos hk, if_neg (fun e => hkx e.2), Nat.add_zero]
    exact (kk _ (l4 _ hn _ n.blk_mem) (fun e => map_ne (hr.dir hk).2 hr.head e.symm) (fun e => hxb (e ▸ n.blk_mem))).trans hr.head
   ·unfold namedP
    rw [namesP_named, if_pos rfl]
    exact hm
  ·have hap := h.apart hnp hn (fun e => h2 e.symm)
   have hyd : y.id ≠ d.id := fun e => h2 (nodup_inj h.idU hn hnp (by rw [hr.id, hrp.id, e]))
   refine hr.keep (fun k hkf => kk k (l4 n hn k hkf) (fun e => hap _ (Nd.m_mem hpb) (e ▸ hkf)) (fun e => hxb (e ▸ hkf))) ?_ (fun _ => ?_)
   ·rw [hl]
    by_cases q : y.kind = 2
    ·rw [if_pos q, if_neg (fun e => hyd e.1.symm)]; rfl
    ·rw [if_neg q, if_neg (fun e => hyx e.symm)]; rfl
   ·unfold namedP
    rw [namesP_named, if_neg hyd]
theorem aput_new {κ β : Type} [DecidableEq κ] {L : List (κ × β)} {k : κ} {v : β} (h : (aget L k).isSome = false) : aput L k v = L ++ [(k, v)] := by
 unfold aput
 rw [if_neg (by rw [h]; simp)]
set_option maxRecDepth 100000 in
set_option maxHeartbeats 8000000 in
theorem link_any {w : World} {f mi mg K : Nat} {r : RFs} {N : List Nd} (h : FsN w f mi mg r N) (hW : Wf r K) (i g di dg : Int) (s : ByteArray) (hs : s.size ≤ maxLen) :
  Calls Tryz.prog 41 #[.pointer (some ⟨f, 0, none⟩), .agg #[.int .i64 i, .int .i64 g], .agg #[.int .i64 di, .int .i64 dg], .string s] w
   fun e w' => e = .returned (.int .i64 (linkP r (i, g) (di, dg) s).2) ∧ StepR w w' f mi mg N (linkP r (i, g) (di, dg) s).1 := by
 obtain ⟨w2, hw2, hB, hs2, hb0, hb1⟩ := box2 w #[.int .i64 i, .int .i64 g] #[.int .i64 di, .int .i64 dg] 37 37
 have t0 : w2.cell? ⟨w.heap.size, 0, none⟩ = some (.int .i64 i) := by rw [cell_at hb0]; rfl
 have t1 : w2.cell? ⟨w.heap.size, 1, none⟩ = some (.int .i64 g) := by rw [cell_at hb0]; rfl
 have h2 := h.below hW hB
 have HW2 := Lib.hid hw2
 have HB := Lib.hid hB
 have HSt := Lib.hid (show ∀ w', Below w.heap.size w w' → StepR w w' f mi mg N r from fun w' hb => stepR_below h hW hb)
 have HB1 := Lib.hid hb1
 cases hl : liveP r (i, g)
 ·have HFd := Lib.hid (find_no h2 hW i g hl)
  rw [show linkP r (i, g) (di, dg) s = (r, 175) by unfold linkP; rw [if_pos hl]]
  clear hw2 hB hb0 hb1 h h2 hW hl
  go_enter Tryz.func41, Tryz.ntmps41
  go_wp2_with fail
  rw [HW2.out]
  go_wp2_with (go_at_call 59; (with_reducible refine HFd.out.mono ?_); rintro e w3 ⟨rfl, hB3⟩; replace hB3 := Lib.hid hB3)
  go_ret
  exact ⟨rfl, HSt.out _ (HB.out.trans (hB3.out.mono (by omega)))⟩
 ·obtain ⟨x1, x2, x3⟩ := live_mem hl
  obtain ⟨nx, hnx, hrx⟩ := h2.at_ hW x1
  have hxi : nx.id = i := hrx.id.trans x2
  have HFd := Lib.hid (find_yes h2 hW i g hl hnx hxi)
  unfold ptrV at HFd
  have hxk := hW.kind _ x1
  have hl' : ¬ liveP r (i, g) = false := by rw [hl]; simp
  have HFi := Lib.hid (show ∀ w3, Below w2.heap.size w2 w3 → w3.cell? ⟨w.heap.size + 1, 0, none⟩ = some (.int .i64 di) ∧ w3.cell? ⟨w.heap.size + 1, 1, none⟩ = some (.int .i64 dg) from fun w3 hb => by
   have := (hb.block _ (by omega)).trans hb1
   exact ⟨cell_at this 0, cell_at this 1⟩)
  by_cases hp : placeE r (di, dg) s false = 0
  ·have hf := placeE_folder hp
   obtain ⟨hl2, hk2⟩ := folder_live hf
   obtain ⟨m1, m2, m3⟩ := live_mem hl2
   obtain ⟨n, hn, hr⟩ := h2.at_ hW m1
   have hni : n.id = di := hr.id.trans m2
   have HP := Lib.hid (show ∀ w3, Below w2.heap.size w2 w3 → Calls Tryz.prog 25 #[.pointer (some ⟨f, 0, none⟩), .agg #[.int .i64 di, .int .i64 dg], .string s, .bool false] w3
    fun e w' => e = .returned (.tuple #[.agg #[.pointer (some ⟨n.blk, 0, none⟩), .pointer (some ⟨n.b, 0, none⟩), .string s], .int .i64 0]) ∧ Below w3.heap.size w3 w' from fun w3 hb => by
    have := place_dir (h2.below hW hb) hW di dg s hs false hf hn hni
    rw [hp] at this
    exact this)
   have HAt := Lib.hid (show ∀ w4, Below w2.heap.size w2 w4 → Calls Tryz.prog 26 #[.agg #[.pointer (some ⟨n.blk, 0, none⟩), .pointer (some ⟨n.b, 0, none⟩), .string s]] w4 fun e w' => e = .returned (.tuple #[.int .i64 (entryP r.nms di s), .bool (decide (entryP r.nms di s ≠ 0))]) ∧ Below w4.heap.size w4 w' from fun w4 hb => by
    have hr4 := hr.below (hW.kind _ m1) hb
    have := at_any hr4 hk2 (hr4.lt (hW.kind _ m1)) s (some ⟨n.blk, 0, none⟩)
    rw [m2, hW.entry_some] at this
    exact this)
   have HX := Lib.hid (show ∀ w4, Below w2.heap.size w2 w4 → NodeR w4 r (byIdP r.ins i) nx from fun w4 hb => hrx.below hxk hb)
   have HD := Lib.hid (show ∀ w4, Below w2.heap.size w2 w4 → NodeR w4 r (byIdP r.ins di) n from fun w4 hb => hr.below (.inr (.inl hk2)) hb)
   have HF := Lib.hid (show ∀ w4, Below w2.heap.size w2 w4 → FsN w4 f mi mg r N from fun w4 hb => h2.below hW hb)
   have hta := fun w => ta_dir w (byIdP r.ins i) nx
   have hlx := hW.lim _ x1
   have hcs : (byIdP r.ins i).kind = 2 ∨ (byIdP r.ins i).kind ≠ 2 ∧ (entryP r.nms di s ≠ 0 ∨ entryP r.nms di s = 0 ∧ (20 ≤ linksN r (byIdP r.ins i) ∨ linksN r (byIdP r.ins i) < 20)) := by omega
   have HFin := Lib.hid (show (byIdP r.ins i).kind ≠ 2 → ∀ w', (∀ k, k < w.heap.size → k ≠ n.m → k ≠ nx.blk → w'.heap[k]? = w.heap[k]?) → Frm [n.m, nx.blk] w w' → MapB w' n.m strK intK (namesP r.nms di ++ [(s, i)]) →
     w'.heap[nx.blk]? = some (.cells (inoC (byIdP r.ins i) (linksN r (byIdP r.ins i) + 1) nx) 73 (0, 0)) → StepR w w' f mi mg N (namedP r di s i) from fun q w' k1 k2 k3 k4 => by
    obtain ⟨nx', hnx', hrx'⟩ := h.at_ hW x1
    obtain ⟨n', hn', hr'⟩ := h.at_ hW m1
    have e1 : nx' = nx := nodup_inj h.idU hnx' hnx (by rw [hrx'.id, hrx.id])
    have e2 : n' = n := nodup_inj h.idU hn' hn (by rw [hr'.id, hr.id])
    subst e1 e2
    have := named_fs h hW m1 hk2 hn' hr' x1 q hnx' hrx' s k1 (by rw [m2, x2]; exact k3) k4
    rw [m2, x2] at this
    refine ⟨N, this, fun k hk => .inl hk, k2.mono fun k hk => ?_⟩
    simp at hk
    rcases hk with rfl | rfl
    ·exact fp_node hn' (Nd.m_mem (by rw [hr'.big, hk2]; rfl))
    ·exact fp_node hnx' nx'.blk_mem)
   have HPut := Lib.hid (show entryP r.nms di s = 0 → aput (namesP r.nms di) s i = namesP r.nms di ++ [(s, i)] from fun e => aput_new (by rw [hW.entry_some]; simp [e]))
   have HNe := Lib.hid (show (byIdP r.ins i).kind ≠ 2 → n.m ≠ nx.blk from fun q e => map_ne (hr.dir hk2).2 hrx.head e)
   have HK2 := Lib.hid hk2
   have HXi := Lib.hid x2
   have HDi := Lib.hid m2
   have HLt := Lib.hid ((h.lt hW).2.2.2 nx hnx nx.blk nx.blk_mem)
   rcases hcs with q | ⟨q, q1 | ⟨q1, q2 | q2⟩⟩
   ·rw [show linkP r (i, g) (di, dg) s = (r, 172) by unfold linkP; rw [if_neg hl', if_neg (by simp [hp]), if_pos q]]
    simp only [q, if_true] at hta
    clear hw2 hB hb0 hb1 h h2 hW hl x1 x2 x3 hnx hrx hxi hxk hl' hp hf hl2 hk2 m1 m2 m3 hn hr hni q HFin HPut HNe HK2
    go_enter Tryz.func41, Tryz.ntmps41
    go_wp2_with fail
    rw [HW2.out]
    go_upto_region 7 with (first
     | (go_at_call 59; (with_reducible refine HFd.out.mono ?_); rintro e w3 ⟨rfl, hB3⟩; obtain ⟨i1, i2⟩ := HFi.out w3 hB3; have hs3 := hB3.size; replace hB3 := Lib.hid hB3)
     | (go_at_call 25; (with_reducible refine (HP.out w3 hB3.out).mono ?_); rintro e w4 ⟨rfl, hB4⟩; have hs4 := hB4.size; replace hB4 := Lib.hid (hB3.out.trans (hB4.mono (by omega)))))
    obtain ⟨w5, hw5, hB5, hs5, hb5⟩ := box1 w4 #[.pointer (some ⟨n.blk, 0, none⟩), .pointer (some ⟨n.b, 0, none⟩), .string s] 85
    rw [hw5]
    have c5 : w5.cell? ⟨w4.heap.size, 0, none⟩ = some (.pointer (some ⟨n.blk, 0, none⟩)) := by rw [cell_at hb5]; rfl
    have c6 : w5.cell? ⟨w4.heap.size, 1, none⟩ = some (.pointer (some ⟨n.b, 0, none⟩)) := by rw [cell_at hb5]; rfl
    have c7 : w5.cell? ⟨w4.heap.size, 2, none⟩ = some (.string s) := by rw [cell_at hb5]; rfl
    have HQ5 := Lib.hid hb5
    replace hB5 := Lib.hid (hB4.out.trans (hB5.mono (by omega)))
    clear hw5 hb5
    obtain ⟨-, -, -, -, x4, x5⟩ := (HX.out w5 hB5.out).cells
    go_wp2_with (go_at_call 26; (with_reducible refine (HAt.out w5 hB5.out).mono ?_); rintro e w6 ⟨rfl, hB6⟩; have hs6 := hB6.size; have hq := (hB6.block _ (by omega)).trans HQ5.out; have q60 : w6.cell? ⟨w4.heap.size, 1, none⟩ = _ := cell_at hq 1; clear hq; replace hB6 := Lib.hid (hB5.out.trans (hB6.mono (by omega))); obtain ⟨y0, -, -, -, y4, -⟩ := (HX.out w6 hB6.out).cells)
    go_ret
    exact ⟨rfl, HSt.out _ (HB.out.trans (hB6.out.mono (by omega)))⟩
   ·rw [show linkP r (i, g) (di, dg) s = (r, 171) by unfold linkP; rw [if_neg hl', if_neg (by simp [hp]), if_neg q, if_pos q1]]
    simp only [q, if_false] at hta
    rw [decide_eq_true q1] at HAt
    clear hw2 hB hb0 hb1 h h2 hW hl x1 x2 x3 hnx hrx hxi hxk hl' hp hf hl2 hk2 m1 m2 m3 hn hr hni q q1 HFin HPut HNe HK2
    go_enter Tryz.func41, Tryz.ntmps41
    go_wp2_with fail
    rw [HW2.out]
    go_upto_region 7 with (first
     | (go_at_call 59; (with_reducible refine HFd.out.mono ?_); rintro e w3 ⟨rfl, hB3⟩; obtain ⟨i1, i2⟩ := HFi.out w3 hB3; have hs3 := hB3.size; replace hB3 := Lib.hid hB3)
     | (go_at_call 25; (with_reducible refine (HP.out w3 hB3.out).mono ?_); rintro e w4 ⟨rfl, hB4⟩; have hs4 := hB4.size; replace hB4 := Lib.hid (hB3.out.trans (hB4.mono (by omega)))))
    obtain ⟨w5, hw5, hB5, hs5, hb5⟩ := box1 w4 #[.pointer (some ⟨n.blk, 0, none⟩), .pointer (some ⟨n.b, 0, none⟩), .string s] 85
    rw [hw5]
    have c5 : w5.cell? ⟨w4.heap.size, 0, none⟩ = some (.pointer (some ⟨n.blk, 0, none⟩)) := by rw [cell_at hb5]; rfl
    have c6 : w5.cell? ⟨w4.heap.size, 1, none⟩ = some (.pointer (some ⟨n.b, 0, none⟩)) := by rw [cell_at hb5]; rfl
    have c7 : w5.cell? ⟨w4.heap.size, 2, none⟩ = some (.string s) := by rw [cell_at hb5]; rfl
    have HQ5 := Lib.hid hb5
    replace hB5 := Lib.hid (hB4.out.trans (hB5.mono (by omega)))
    clear hw5 hb5
    obtain ⟨-, -, -, -, x4, x5⟩ := (HX.out w5 hB5.out).cells
    go_wp2_with (go_at_call 26; (with_reducible refine (HAt.out w5 hB5.out).mono ?_); rintro e w6 ⟨rfl, hB6⟩; have hs6 := hB6.size; have hq := (hB6.block _ (by omega)).trans HQ5.out; have q60 : w6.cell? ⟨w4.heap.size, 1, none⟩ = _ := cell_at hq 1; clear hq; replace hB6 := Lib.hid (hB5.out.trans (hB6.mono (by omega))); obtain ⟨y0, -, -, -, y4, -⟩ := (HX.out w6 hB6.out).cells)
    go_ret
    exact ⟨rfl, HSt.out _ (HB.out.trans (hB6.out.mono (by omega)))⟩
   ·rw [show linkP r (i, g) (di, dg) s = (r, 179) by unfold linkP; rw [if_neg hl', if_neg (by simp [hp]), if_neg q, if_neg (by simp [q1]), if_pos q2]]
    simp only [q, if_false] at hta
    rw [q1] at HAt
    simp only [ne_eq, not_true_eq_false, decide_false] at HAt
    have q3 : decide (20 ≤ (linksN r (byIdP r.ins i) : Int)) = true := decide_eq_true (by omega)
    have q4 : decide (20 ≤ linksN r (byIdP r.ins i)) = true := decide_eq_true q2
    clear hw2 hB hb0 hb1 h h2 hW hl x1 x2 x3 hnx hrx hxi hxk hl' hp hf hl2 hk2 m1 m2 m3 hn hr hni q q1 HFin HPut HNe HK2
    go_enter Tryz.func41, Tryz.ntmps41
    go_wp2_with fail
    rw [HW2.out]
    go_upto_region 7 with (first
     | (go_at_call 59; (with_reducible refine HFd.out.mono ?_); rintro e w3 ⟨rfl, hB3⟩; obtain ⟨i1, i2⟩ := HFi.out w3 hB3; have hs3 := hB3.size; replace hB3 := Lib.hid hB3)
     | (go_at_call 25; (with_reducible refine (HP.out w3 hB3.out).mono ?_); rintro e w4 ⟨rfl, hB4⟩; have hs4 := hB4.size; replace hB4 := Lib.hid (hB3.out.trans (hB4.mono (by omega)))))
    obtain ⟨w5, hw5, hB5, hs5, hb5⟩ := box1 w4 #[.pointer (some ⟨n.blk, 0, none⟩), .pointer (some ⟨n.b, 0, none⟩), .string s] 85
    rw [hw5]
    have c5 : w5.cell? ⟨w4.heap.size, 0, none⟩ = some (.pointer (some ⟨n.blk, 0, none⟩)) := by rw [cell_at hb5]; rfl
    have c6 : w5.cell? ⟨w4.heap.size, 1, none⟩ = some (.pointer (some ⟨n.b, 0, none⟩)) := by rw [cell_at hb5]; rfl
    have c7 : w5.cell? ⟨w4.heap.size, 2, none⟩ = some (.string s) := by rw [cell_at hb5]; rfl
    have HQ5 := Lib.hid hb5
    replace hB5 := Lib.hid (hB4.out.trans (hB5.mono (by omega)))
    clear hw5 hb5
    obtain ⟨-, -, -, -, x4, x5⟩ := (HX.out w5 hB5.out).cells
    go_wp2_with (go_at_call 26; (with_reducible refine (HAt.out w5 hB5.out).mono ?_); rintro e w6 ⟨rfl, hB6⟩; have hs6 := hB6.size; have hq := (hB6.block _ (by omega)).trans HQ5.out; have q60 : w6.cell? ⟨w4.heap.size, 1, none⟩ = _ := cell_at hq 1; clear hq; replace hB6 := Lib.hid (hB5.out.trans (hB6.mono (by omega))); obtain ⟨y0, -, -, -, y4, -⟩ := (HX.out w6 hB6.out).cells)
    go_ret
    exact ⟨rfl, HSt.out _ (HB.out.trans (hB6.out.mono (by omega)))⟩
   ·rw [show linkP r (i, g) (di, dg) s = (namedP r di s i, 0) by unfold linkP; rw [if_neg hl', if_neg (by simp [hp]), if_neg q, if_neg (by simp [q1]), if_neg (show ¬ 20 ≤ linksN r (byIdP r.ins i) by omega)]]
    simp only [q, if_false] at hta
    rw [q1] at HAt
    simp only [ne_eq, not_true_eq_false, decide_false] at HAt
    have HFin2 := Lib.hid (HFin.out q)
    have HPut2 := Lib.hid (HPut.out q1)
    have HNe2 := Lib.hid (HNe.out q)
    clear hw2 hB hb0 hb1 h h2 hW hl x1 x2 x3 hnx hrx hxi hxk hl' hp hf hl2 hk2 m1 m2 m3 hn hr hni q q1 HFin HPut HNe
    go_enter Tryz.func41, Tryz.ntmps41
    go_wp2_with fail
    rw [HW2.out]
    go_upto_region 7 with (first
     | (go_at_call 59; (with_reducible refine HFd.out.mono ?_); rintro e w3 ⟨rfl, hB3⟩; obtain ⟨i1, i2⟩ := HFi.out w3 hB3; have hs3 := hB3.size; replace hB3 := Lib.hid hB3)
     | (go_at_call 25; (with_reducible refine (HP.out w3 hB3.out).mono ?_); rintro e w4 ⟨rfl, hB4⟩; have hs4 := hB4.size; replace hB4 := Lib.hid (hB3.out.trans (hB4.mono (by omega)))))
    obtain ⟨w5, hw5, hB5, hs5, hb5⟩ := box1 w4 #[.pointer (some ⟨n.blk, 0, none⟩), .pointer (some ⟨n.b, 0, none⟩), .string s] 85
    rw [hw5]
    have c5 : w5.cell? ⟨w4.heap.size, 0, none⟩ = some (.pointer (some ⟨n.blk, 0, none⟩)) := by rw [cell_at hb5]; rfl
    have c6 : w5.cell? ⟨w4.heap.size, 1, none⟩ = some (.pointer (some ⟨n.b, 0, none⟩)) := by rw [cell_at hb5]; rfl
    have c7 : w5.cell? ⟨w4.heap.size, 2, none⟩ = some (.string s) := by rw [cell_at hb5]; rfl
    have HQ5 := Lib.hid hb5
    replace hB5 := Lib.hid (hB4.out.trans (hB5.mono (by omega)))
    clear hw5 hb5
    obtain ⟨-, -, -, -, x4, x5⟩ := (HX.out w5 hB5.out).cells
    go_upto_region 15 with (go_at_call 26; (with_reducible refine (HAt.out w5 hB5.out).mono ?_); rintro e w6 ⟨rfl, hB6⟩; have hs6 := hB6.size; have hq := (hB6.block _ (by omega)).trans HQ5.out; have q60 : w6.cell? ⟨w4.heap.size, 1, none⟩ = _ := cell_at hq 1; clear hq; replace hB6 := Lib.hid (hB5.out.trans (hB6.mono (by omega))); obtain ⟨y0, -, -, -, y4, -⟩ := (HX.out w6 hB6.out).cells)
    have lt20 : linksN r (byIdP r.ins i) < 20 := q2
    have hX6 := Lib.hid (HX.out w6 hB6.out).head
    have hD6 := Lib.hid ((HD.out w6 hB6.out).dir HK2.out)
    rw [HDi.out] at hD6
    have y4f : w6.frozen? ⟨nx.blk, 4, none⟩ = false := frozen_of_row w6 nx.blk 4 _ _ hX6.out
    have n1 : n.b ≠ nx.blk := blk_ne hD6.out.1 hX6.out (by decide)
    have n2 : w4.heap.size ≠ nx.blk := fun e => by have := HLt.out; have := HB.out.size; omega
    have q61 : w6.cell? ⟨w4.heap.size, 1, none⟩ = some (.pointer (some ⟨n.b, 0, none⟩)) := q60
    have q62 : w6.cell? ⟨n.b, 0, none⟩ = some (.map (some n.m)) := by rw [cell_at hD6.out.1]; rfl
    rw [HXi.out] at y0
    clear q60 x4 x5 c5 c6 c7
    obtain ⟨w7, hw7⟩ : ∃ w7, w6.setCell ⟨nx.blk, 4, none⟩ (.int .i64 ((linksN r (byIdP r.ins i) : Int) + 1)) = w7 := ⟨_, rfl⟩
    have k7 : ∀ k, k ≠ nx.blk → w7.heap[k]? = w6.heap[k]? := fun k hk => by rw [← hw7]; exact setCell_far _ _ _ _ _ hk
    have hL : w7.heap[nx.blk]? = some (.cells (inoC (byIdP r.ins i) (linksN r (byIdP r.ins i) + 1) nx) 73 (0, 0)) := by rw [← hw7]; exact links_set (lk' := linksN r (byIdP r.ins i) + 1) hX6.out
    have hF7 : Frm [n.m, nx.blk] w w7 := by rw [← hw7]; exact (Frm.of_below (HB.out.trans (hB6.out.mono (by omega)))).setCell (p := ⟨nx.blk, 4, none⟩) (.inl (by simp)) _
    have hm7 : MapB w7.drew n.m strK intK (namesP r.nms di) := hD6.out.2.of_block (k7 _ HNe2.out)
    obtain ⟨o, hup, hmp⟩ := run_update KS (P := Tryz.prog) (t := 69) Tryz.underlying69 hm7 s i
    have HS := Lib.hid (HFin2.out (putObj w7.drew n.m o) (fun k a b c => (putObj_other w7.drew o b).trans ((k7 k c).trans ((HB.out.trans (hB6.out.mono (by omega))).block k a)))
     (hF7.drew.putObj (.inl (by simp)) o) (by rw [← HPut2.out]; exact hmp) ((putObj_other w7.drew o (fun e => HNe2.out e.symm)).trans hL))
    unfold strK intK at hup
    have z1 : w7.cell? ⟨w4.heap.size, 1, none⟩ = some (.pointer (some ⟨n.b, 0, none⟩)) := (World.cell?_of_block (k7 _ n2)).trans q61
    have z2 : w7.cell? ⟨n.b, 0, none⟩ = some (.map (some n.m)) := (World.cell?_of_block (k7 _ n1)).trans q62
    have z3 : w7.cell? ⟨nx.blk, 0, none⟩ = some (.int .i64 i) := by rw [cell_at hL]; show some (Value.int .i64 (byIdP r.ins i).id) = _; rw [HXi.out]
    generalize linksN r (byIdP r.ins i) = lk at *
    have HW7 := Lib.hid hw7
    clear hm7 hmp HFin2 HPut2 hw7 k7 hL hF7
    go_upto_region 16 with fail
    rw [HW7.out]
    clear y0 y4 q61 q62
    go_still_tail 11, (by kernel_rfl)
    change wpList _ _ _ _ _ w7.drew
    go_wp2
    go_ret
    exact ⟨rfl, HS.out⟩
  ·rw [show linkP r (i, g) (di, dg) s = (r, placeE r (di, dg) s false) by unfold linkP; rw [if_neg hl', if_pos hp]]
   have HPn := Lib.hid (show ∀ w3, Below w2.heap.size w2 w3 → ∃ pa pb pc, Calls Tryz.prog 25 #[.pointer (some ⟨f, 0, none⟩), .agg #[.int .i64 di, .int .i64 dg], .string s, .bool false] w3
    fun e w' => e = .returned (.tuple #[.agg #[.pointer pa, .pointer pb, .string pc], .int .i64 (placeE r (di, dg) s false)]) ∧ Below w3.heap.size w3 w' from fun w3 hb => place_no (h2.below hW hb) hW di dg s hs false hp)
   have hne : (placeE r (di, dg) s false != 0) = true := by rw [bne_iff_ne]; exact hp
   generalize placeE r (di, dg) s false = pe at *
   clear hw2 hB hb0 hb1 h h2 hW hl x1 x2 x3 hnx hrx hxi hxk hl' hp
   go_enter Tryz.func41, Tryz.ntmps41
   go_wp2_with fail
   rw [HW2.out]
   go_wp2_with (first
    | (go_at_call 59; (with_reducible refine HFd.out.mono ?_); rintro e w3 ⟨rfl, hB3⟩; obtain ⟨i1, i2⟩ := HFi.out w3 hB3; have hs3 := hB3.size; replace hB3 := Lib.hid hB3)
    | (go_at_call 25; obtain ⟨pa, pb, pc, hpl⟩ := HPn.out w3 hB3.out; (with_reducible refine hpl.mono ?_); clear hpl; rintro e w4 ⟨rfl, hB4⟩; have hs4 := hB4.size; replace hB4 := Lib.hid (hB3.out.trans (hB4.mono (by omega)))))
   go_ret
   have hfin := HB.out.trans (hB4.out.mono (by omega))
   exact ⟨rfl, HSt.out _ (hfin.alloc hfin.size _)⟩
end Go.Proofs.YtpcjmefchclhhaaGreat

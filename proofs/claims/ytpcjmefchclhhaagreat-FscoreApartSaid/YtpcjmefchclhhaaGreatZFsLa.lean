/- A part of the proof. -/
import Derived.Test.YtpcjmefchclhhaaGreatZFsK
namespace Go.Proofs.YtpcjmefchclhhaaGreat
open Go.RowKit Go.MapKept
def mkR (p : RFs × (Int × Int) × Int) : Value := .tuple #[.agg #[.int .i64 p.2.1.1, .int .i64 p.2.1.2], .int .i64 p.2.2]
theorem gens_bd {r : RFs} {K : Nat} (hW : Wf r K) (id : Int) : 0 ≤ gensAt r.gens id ∧ gensAt r.gens id ≤ (K : Int) + 1 := by
 unfold gensAt
 split
 ·rw [List.getD_eq_getElem?_getD]
  cases hg : r.gens[id.toNat]? with
  | none => exact ⟨by simp, by simp; omega⟩
  | some v => exact hW.genK v (List.mem_of_getElem? hg)
 ·exact ⟨by omega, by omega⟩
attribute [local go_sem] putObj_size
set_option maxRecDepth 100000 in
set_option maxHeartbeats 16000000 in
theorem make_ok1 {w : World} {f mi mg K : Nat} {r : RFs} {N : List Nd} (h : FsN w f mi mg r N) (hW : Wf r K) (hK : K ≤ 1000000) (i g : Int) (s : ByteArray) (hs : s.size ≤ maxLen) (md tm : Int) (tg : ByteArray) (ht : tg.size ≤ maxLen)
  (hp : placeE r (i, g) s false = 0) (q : rightB ⟨1, md, tm, tg⟩ = true) (q1 : entryP r.nms i s = 0) (q3 : r.ins.length < 200) :
  Calls Tryz.prog 21 #[.pointer (some ⟨f, 0, none⟩), .agg #[.int .i64 i, .int .i64 g], .string s, .agg #[.int .i64 1, .int .i64 md, .int .i64 tm, .string tg]] w
   fun e w' => e = .returned (.tuple #[.agg #[.int .i64 (freeP r.ins), .int .i64 (gensAt r.gens (freeP r.ins) + 1)], .int .i64 0]) ∧ StepR w w' f mi mg N (namedP (addP r (newIn r (i, g) ⟨1, md, tm, tg⟩)) i s (freeP r.ins)) := by
 obtain ⟨w2, hw2, hB, hs2, hb0, hb1, hb2⟩ := box3 w #[.int .i64 i, .int .i64 g] #[.int .i64 1, .int .i64 md, .int .i64 tm, .string tg] #[.int .i64 0, .int .i64 0] 37 76 37
 have t0 : w2.cell? ⟨w.heap.size, 0, none⟩ = some (.int .i64 i) := by rw [cell_at hb0]; rfl
 have t1 : w2.cell? ⟨w.heap.size, 1, none⟩ = some (.int .i64 g) := by rw [cell_at hb0]; rfl
 have h2 := h.below hW hB
 have HW2 := Lib.hid hw2
 have HB := Lib.hid hB
 have HB2 := Lib.hid hb2
 have HM := Lib.hid (show ∀ w', Below w2.heap.size w2 w' → w'.cell? ⟨w.heap.size + 1, 0, none⟩ = some (.int .i64 1) ∧ w'.cell? ⟨w.heap.size + 1, 1, none⟩ = some (.int .i64 md) ∧ w'.cell? ⟨w.heap.size + 1, 2, none⟩ = some (.int .i64 tm) ∧ w'.cell? ⟨w.heap.size + 1, 3, none⟩ = some (.string tg) from fun w' hb => by
  have e := (hb.block (w.heap.size + 1) (by omega)).trans hb1
  exact ⟨cell_at e 0, cell_at e 1, cell_at e 2, cell_at e 3⟩)
 have hf := placeE_folder hp
 obtain ⟨hl, hk2⟩ := folder_live hf
 obtain ⟨m1, m2, m3⟩ := live_mem hl
 obtain ⟨np, hn, hr⟩ := h2.at_ hW m1
 have hni : np.id = i := hr.id.trans m2
 have hpl := place_dir h2 hW i g s hs false hf hn hni
 rw [hp] at hpl
 have HP := Lib.hid hpl
 clear hpl
 have HAt := Lib.hid (show ∀ w4, Below w2.heap.size w2 w4 → Calls Tryz.prog 26 #[.agg #[.pointer (some ⟨np.blk, 0, none⟩), .pointer (some ⟨np.b, 0, none⟩), .string s]] w4 fun e w' => e = .returned (.tuple #[.int .i64 (entryP r.nms i s), .bool (decide (entryP r.nms i s ≠ 0))]) ∧ Below w4.heap.size w4 w' from fun w4 hb => by
  have hr4 := hr.below (hW.kind _ m1) hb
  have := at_any hr4 hk2 (hr4.lt (hW.kind _ m1)) s (some ⟨np.blk, 0, none⟩)
  rw [m2, hW.entry_some] at this
  exact this)
 rw [q1] at HAt
 simp only [ne_eq, not_true_eq_false, decide_false] at HAt
 have HR := Lib.hid (show ∀ w, Calls Tryz.prog 51 #[.agg #[.int .i64 1, .int .i64 md, .int .i64 tm, .string tg]] w fun e w' => e = .returned (.bool true) ∧ Below w.heap.size w w' from fun w => by
  have := right_any ⟨1, md, tm, tg⟩ w ht
  rw [q] at this
  exact this)
 have HD := Lib.hid (show ∀ w4, Below w2.heap.size w2 w4 → NodeR w4 r (byIdP r.ins i) np from fun w4 hb => hr.below (.inr (.inl hk2)) hb)
 have HF := Lib.hid (show ∀ w4, Below w2.heap.size w2 w4 → FsN w4 f mi mg r N from fun w4 hb => h2.below hW hb)
 have HLen := Lib.hid (h.len hW)
 have hlx := hW.lim _ m1
 have HW := Lib.hid hW
 have HH := Lib.hid h
 have HM1 := Lib.hid m1
 have HM2 := Lib.hid m2
 have HK2 := Lib.hid hk2
 have HN := Lib.hid hn
 have HEn := Lib.hid (show (aget (namesP r.nms i) s).isSome = false by rw [hW.entry_some]; simp [q1])
 have hgb := fun id => gens_bd hW id
 have HGb := Lib.hid hgb
 have HLt := Lib.hid (h.lt hW)
 have HRp := Lib.hid hr
 clear hw2 hB hb0 hb1 hb2 h h2 hW hp hf hl hk2 m1 m2 m3 hn hr hni q1 hgb q
 go_enter Tryz.func21, Tryz.ntmps21
 go_wp2_with fail
 rw [HW2.out]
 go_upto_region 4 with (go_at_call 25; (with_reducible refine HP.out.mono ?_); rintro e w3 ⟨rfl, hB3⟩; have hs3 := hB3.size; replace hB3 := Lib.hid hB3)
 obtain ⟨w4, hw4, hB4, hs4, hb4⟩ := box1 w3 #[.pointer (some ⟨np.blk, 0, none⟩), .pointer (some ⟨np.b, 0, none⟩), .string s] 85
 rw [hw4]
 have c5 : w4.cell? ⟨w3.heap.size, 0, none⟩ = some (.pointer (some ⟨np.blk, 0, none⟩)) := by rw [cell_at hb4]; rfl
 have c6 : w4.cell? ⟨w3.heap.size, 1, none⟩ = some (.pointer (some ⟨np.b, 0, none⟩)) := by rw [cell_at hb4]; rfl
 have c7 : w4.cell? ⟨w3.heap.size, 2, none⟩ = some (.string s) := by rw [cell_at hb4]; rfl
 have HQ4 := Lib.hid hb4
 replace hB4 := Lib.hid (hB3.out.trans (hB4.mono (by omega)))
 clear hw4 hb4
 go_wp2_with (first
  | (go_at_call 26; (with_reducible refine (HAt.out w4 hB4.out).mono ?_); rintro e w5 ⟨rfl, hB5⟩; have hs5 := hB5.size; have hqq := (hB5.block _ (by omega)).trans HQ4.out; replace hB5 := Lib.hid (hB4.out.trans (hB5.mono (by omega))); obtain ⟨v0, v1, v2, v3⟩ := HM.out w5 hB5.out; have HQ5 := Lib.hid hqq; clear hqq)
  | (go_at_call 51; (with_reducible refine (HR.out w5).mono ?_); rintro e w6 ⟨rfl, hB6⟩; have hs6 := hB6.size; have HQ6 := Lib.hid ((hB6.block _ (by omega)).trans HQ5.out); replace hB6 := Lib.hid (hB5.out.trans (hB6.mono (by omega))); obtain ⟨u0, u1, u2, u3⟩ := HM.out w6 hB6.out; have p60 : w6.cell? ⟨w3.heap.size, 0, none⟩ = _ := cell_at HQ6.out 0; have p61 : w6.cell? ⟨w3.heap.size, 1, none⟩ = _ := cell_at HQ6.out 1; obtain ⟨-, -, -, -, k4, -⟩ := (HD.out w6 hB6.out).cells; obtain ⟨-, f1, f2⟩ := (HF.out w6 hB6.out).cells; have hlen := run_len_map (P := Tryz.prog) (ty := 3) (t := 63) Tryz.underlying63 (HF.out w6 hB6.out).imap; rw [List.length_map, HLen.out] at hlen))
 go_loop [14] (fun vi => ∃ j : Nat, j ≤ r.ins.length ∧ vi = .int .i64 ((j : Int) + 1) ∧ ∀ k : Nat, k < j → (byIdP r.ins ((k : Int) + 1)).id ≠ 0) (fun vi => 300 - (intOf vi).toNat)
 case atStart => exact ⟨0, Nat.zero_le _, rfl, fun k hk => absurd hk (Nat.not_lt_zero k)⟩
 case round =>
  obtain ⟨j, hj, rfl, hjl⟩ := hrel
  have HJ := Lib.hid hjl
  clear hjl
  have hlk := ((HF.out w6 hB6.out).look ((j : Int) + 1)).2
  by_cases hz : (byIdP r.ins ((j : Int) + 1)).id = 0
  ·rw [(HF.out w6 hB6.out).get_none HW.out hz] at hlk
   simp only [Option.map_none, Option.getD_none] at hlk
   have HId := Lib.hid (freeP_of (by omega) hz HJ.out)
   have HFr := Lib.hid (show ∀ y ∈ r.ins, y.id ≠ (j : Int) + 1 from fun y hy e => by
    rw [← e, HW.out.byId hy] at hz
    exact HW.out.ne0 hy hz)
   obtain ⟨G, g1, g2⟩ := (HF.out w6 hB6.out).gmap
   obtain ⟨ga, hga⟩ : ∃ ga, gensAt r.gens ((j : Int) + 1) = ga := ⟨_, rfl⟩
   obtain ⟨b1, b2⟩ := HGb.out ((j : Int) + 1)
   rw [hga] at b1 b2
   have hgl := run_lookup_plain KI (P := Tryz.prog) (t := 64) (et := 3) Tryz.underlying64 (zint w6) g1 ((j : Int) + 1)
   rw [show ((aget G ((j : Int) + 1)).map intK).getD (.int .i64 0) = intK ga by rw [← hga, ← g2]; cases aget G ((j : Int) + 1) <;> rfl] at hgl
   obtain ⟨o1, hup1, hmp1⟩ := run_update KI (P := Tryz.prog) (t := 64) Tryz.underlying64 g1 ((j : Int) + 1) (ga + 1)
   have hF7 : Frm (fpL f mi mg N) w6 (putObj w6 mg o1) := (Frm.refl _ _).putObj (.inl (by simp [fpL])) o1
   have hs7 : w6.heap.size ≤ (putObj w6 mg o1).heap.size := by rw [putObj_size]; omega
   have hk7 : ∀ k, k ≠ mg → (putObj w6 mg o1).heap[k]? = w6.heap[k]? := fun k hk => putObj_other _ _ hk
   obtain ⟨w7, hw7⟩ : ∃ w7, putObj w6 mg o1 = w7 := ⟨_, rfl⟩
   rw [hw7] at hF7 hs7 hk7 hmp1
   have hgl2 := run_lookup_plain KI (P := Tryz.prog) (w := w7.drew) (t := 64) (et := 3) Tryz.underlying64 (zint w7.drew) (show MapB w7.drew mg intK intK _ from hmp1) ((j : Int) + 1)
   rw [aget_put, if_pos rfl] at hgl2
   simp only [Option.map_some, Option.getD_some] at hgl2
   unfold intK at hgl hup1 hgl2
   have HG7 := Lib.hid (show ∃ G, MapB w7 mg intK intK G ∧ ∀ id, (aget G id).getD 0 = gensAt (gensUp r.gens ((j : Int) + 1)) id from ⟨_, hmp1, fun id => by
    rw [aget_put, gensAt_up _ (by omega)]
    by_cases e : id = (j : Int) + 1
    ·rw [if_pos e, if_pos e, hga]; rfl
    ·rw [if_neg e, if_neg e]; exact g2 id⟩)
   have HGa := Lib.hid hga
   have F7 := Lib.hid hF7
   have K7 := Lib.hid hk7
   have HW7 := Lib.hid hw7
   have l1 := HLt.out.2.2.1
   have hB6s := hB6.out.size
   have e1 : w7.cell? ⟨w.heap.size + 1, 1, none⟩ = some (.int .i64 md) := (World.cell?_of_block (hk7 _ (show w.heap.size + 1 ≠ mg by omega))).trans u1
   have e2 : w7.cell? ⟨w.heap.size + 1, 2, none⟩ = some (.int .i64 tm) := (World.cell?_of_block (hk7 _ (show w.heap.size + 1 ≠ mg by omega))).trans u2
   have e3 : w7.cell? ⟨f, 2, none⟩ = some (.map (some mg)) := (World.cell?_of_block (hk7 _ (fun e => map_ne g1 (HF.out w6 hB6.out).head e.symm))).trans f2
   clear hz hw7 hF7 hk7 hmp1 g1 g2 hga
   go_upto_region 17 with fail
   rw [HW7.out]
   clear v0 v1 v2 v3 c5 c6 c7 hlk hlen hgl hup1 f1 f2 k4 p60 p61
   go_still_tail 13, (by kernel_rfl)
   change wpList _ _ _ _ _ w7.drew
   go_upto_region 18 with fail
   obtain ⟨wa, hwa, hBa, hsa, hba⟩ := box1 w7 #[.int .i64 ((j : Int) + 1), .int .i64 (ga + 1), .int .i64 md, .int .i64 tm, .int .i64 1, .nilIface] 73
   rw [hwa]
   obtain ⟨w8, hw8⟩ : ∃ w8, wa.drew = w8 := ⟨_, rfl⟩
   rw [hw8]
   have hB8 : Below w7.heap.size w7 w8 := by rw [← hw8]; exact hBa.drew
   have hs8 : w7.heap.size + 1 ≤ w8.heap.size := by rw [← hw8]; exact hsa
   have hb8 : w8.heap[w7.heap.size]? = some (.cells #[.int .i64 ((j : Int) + 1), .int .i64 (ga + 1), .int .i64 md, .int .i64 tm, .int .i64 1, .nilIface] 73 (0, 0)) := by rw [← hw8]; exact hba
   clear hwa hBa hsa hba hw8
   have hk8 : ∀ k, k < w6.heap.size → k ≠ mg → w8.heap[k]? = w6.heap[k]? := fun k a b => (hB8.block k (by omega)).trans (K7.out k b)
   have F8 := Lib.hid (F7.out.trans (Frm.of_below hB8))
   have HG8 := Lib.hid (show ∃ G, MapB w8 mg intK intK G ∧ ∀ id, (aget G id).getD 0 = gensAt (gensUp r.gens ((j : Int) + 1)) id from by
    obtain ⟨G, a, b⟩ := HG7.out
    exact ⟨G, a.of_block (hB8.block _ a.lt), b⟩)
   generalize hxb : w7.heap.size = xb at *
   have hxb' : w6.heap.size ≤ xb := hs7
   have e0 : w8.cell? ⟨w.heap.size + 1, 0, none⟩ = some (.int .i64 1) := (World.cell?_of_block (hk8 _ (show w.heap.size + 1 < w6.heap.size by omega) (show w.heap.size + 1 ≠ mg by omega))).trans u0
   have X8 := Lib.hid hb8
   have K8 := Lib.hid hk8
   clear hB8 hb8 hk8 e1 e2 e3 hgl2 hs7 hxb
   have hgm : mi ≠ mg := (HF.out w6 hB6.out).mm
   have l0 := HLt.out.1
   have l2 := HLt.out.2.1
   have hpb : np.big = true := by rw [HRp.out.big, HK2.out]; rfl
   have p1 := HLt.out.2.2.2 np HN.out _ np.blk_mem
   have p2 := HLt.out.2.2.2 np HN.out _ (Nd.b_mem hpb)
   have p3 := HLt.out.2.2.2 np HN.out _ (Nd.m_mem hpb)
   obtain ⟨of1, of2, of3⟩ := HH.out.off np HN.out
   have HNe1 := Lib.hid (show mi ≠ np.blk from fun e => of2 (e ▸ np.blk_mem))
   have HNe3 := Lib.hid (show f ≠ np.blk from fun e => of1 (e ▸ np.blk_mem))
   have HNe4 := Lib.hid (show np.m ≠ mi from fun e => of2 (e ▸ Nd.m_mem hpb))
   have HNe5 := Lib.hid (show np.m ≠ mg from fun e => of3 (e ▸ Nd.m_mem hpb))
   have HNe8 := Lib.hid (show np.b ≠ mi from fun e => of2 (e ▸ Nd.b_mem hpb))
   have HNe9 := Lib.hid (show np.b ≠ mg from fun e => of3 (e ▸ Nd.b_mem hpb))
   have HNe6 := Lib.hid (show np.m ≠ np.blk from map_ne (HRp.out.dir HK2.out).2 HRp.out.head)
   have HNe10 := Lib.hid (show np.b ≠ np.blk from blk_ne (HRp.out.dir HK2.out).1 HRp.out.head (by decide))
   have HNe2 := Lib.hid (show f ≠ mg from fun e => by
    obtain ⟨G, a, _⟩ := HH.out.gmap
    exact map_ne a HH.out.head e.symm)
   clear of1 of2 of3
   have hrw : NodeR w r (byIdP r.ins i) np := by
    obtain ⟨y, hy, hry⟩ := HH.out.node np HN.out
    have a1 := HW.out.byId hy
    rw [← hry.id, HRp.out.id, HM2.out] at a1
    rw [a1]; exact hry
   have HRw := Lib.hid hrw
   have D6 := Lib.hid ((HD.out w6 hB6.out).head)
   clear hrw
   have HNew := Lib.hid (new_any w8)
   go_upto_region 26 with (go_at_call 52; (with_reducible refine HNew.out.mono ?_); rintro e w9 ⟨b, m, rfl, hb, hm, hR9, hB9⟩; have x9 := (hB9.block xb (by omega)).trans X8.out; have x95 : w9.cell? ⟨xb, 5, none⟩ = _ := cell_at x9 5; have x9f : w9.frozen? ⟨xb, 5, none⟩ = false := frozen_of_row w9 xb 5 _ _ x9; have X9 := Lib.hid x9; clear x9; have e09 : w9.cell? ⟨w.heap.size + 1, 0, none⟩ = some (.int .i64 1) := (World.cell?_of_block (hB9.block _ (show w.heap.size + 1 < w8.heap.size by omega))).trans e0; replace hR9 := Lib.hid hR9; replace hB9 := Lib.hid hB9)
   obtain ⟨w10, hw10⟩ : ∃ w10, w9.setCell ⟨xb, 5, none⟩ (.iface 126 (.pointer (some ⟨b, 0, none⟩))) = w10 := ⟨_, rfl⟩
   rw [hw10]
   have k10 : ∀ k, k ≠ xb → w10.heap[k]? = w9.heap[k]? := fun k hk => by rw [← hw10]; exact setCell_far _ _ _ _ _ hk
   have X10 := Lib.hid (show w10.heap[xb]? = some (.cells (inoC ⟨(j : Int) + 1, ga + 1, 1, md, tm, i, tg, [], []⟩ 1 ⟨(j : Int) + 1, xb, b, m, true⟩) 73 (0, 0)) by rw [← hw10]; exact heap_setCell_same w9 xb 5 _ _ _ X9.out)
   have F10 := Lib.hid (show Frm (fpL f mi mg N) w6 w10 by rw [← hw10]; exact (F8.out.trans (Frm.of_below hB9.out)).setCell (.inr hxb') _)
   have A10 := Lib.hid (show ∀ k, k < w6.heap.size → k ≠ mg → k ≠ np.blk → w10.heap[k]? = w6.heap[k]? from fun k a b _ => ((k10 k (by omega)).trans (hB9.out.block k (by omega))).trans (K8.out k a b))
   have P10 := Lib.hid (show w10.heap[np.blk]? = some (.cells (inoC (byIdP r.ins i) (linksN r (byIdP r.ins i) + 0) np) 73 (0, 0)) from (((k10 np.blk (by omega)).trans (hB9.out.block np.blk (by omega))).trans (K8.out np.blk (by omega) (by have := HNe9; intro e; exact (HH.out.off np HN.out).2.2 (e ▸ np.blk_mem)))).trans D6.out)
   have HG10 := Lib.hid (show ∃ G, MapB w10 mg intK intK G ∧ ∀ id, (aget G id).getD 0 = gensAt (gensUp r.gens ((j : Int) + 1)) id from by
    obtain ⟨G, a, c⟩ := HG8.out
    exact ⟨G, a.of_block ((k10 mg (by omega)).trans (hB9.out.block mg a.lt)), c⟩)
   have NC10 := Lib.hid (show ∀ w', (∀ k, k < w10.heap.size → w.heap.size + 2 < k → w'.heap[k]? = w10.heap[k]?) → Raw w' b m 0 [] from fun w' hk => by
    have hsz : w9.heap.size ≤ w10.heap.size := by rw [← hw10]; simp [World.setCell]
    have ht := hR9.out.lt
    have hm2 := hR9.out.map.lt
    exact hR9.out.keep ((hk b (by omega) (by omega)).trans (k10 b (by omega))) ((hk m (by omega) (by omega)).trans (k10 m (by omega))))
   clear hw10 x95 x9f e09 k10
   have i10 := (HF.out w6 hB6.out).imap.of_block (A10.out mi (by omega) hgm (HNe1.out))
   obtain ⟨o2, hup2, hmp2⟩ := run_update KI (P := Tryz.prog) (t := 63) Tryz.underlying63 i10 ((j : Int) + 1) xb
   unfold intK ptrV at hup2
   have f10 : w10.cell? ⟨f, 1, none⟩ = some (.map (some mi)) := (World.cell?_of_block (A10.out f (by omega) HNe2.out HNe3.out)).trans (HF.out w6 hB6.out).cells.2.1
   go_upto_region 27 with fail
   obtain ⟨w11, hw11⟩ : ∃ w11, putObj w10 mi o2 = w11 := ⟨_, rfl⟩
   rw [hw11]
   have k11 : ∀ k, k ≠ mi → w11.heap[k]? = w10.heap[k]? := fun k hk => by rw [← hw11]; exact putObj_other _ _ hk
   have F11 := Lib.hid (show Frm (fpL f mi mg N) w6 w11 by rw [← hw11]; exact F10.out.putObj (.inl (by simp [fpL])) o2)
   rw [hw11] at hmp2
   have I11 := Lib.hid hmp2
   clear hw11 hup2 f10 hmp2
   have hd6 := (HD.out w6 hB6.out).dir HK2.out
   rw [HM2.out] at hd6
   have m11 : MapB w11 np.m strK intK (namesP r.nms i) := hd6.2.of_block ((k11 _ HNe4.out).trans (A10.out np.m (by have := hd6.2.lt; omega) HNe5.out HNe6.out))
   obtain ⟨o3, hup3, hmp3⟩ := run_update KS (P := Tryz.prog) (t := 69) Tryz.underlying69 m11 s ((j : Int) + 1)
   unfold strK intK at hup3
   have g0 : w11.cell? ⟨w3.heap.size, 1, none⟩ = some (.pointer (some ⟨np.b, 0, none⟩)) := (World.cell?_of_block ((k11 _ (show w3.heap.size ≠ mi by omega)).trans (A10.out w3.heap.size (by omega) (by omega) (show w3.heap.size ≠ np.blk by omega)))).trans (cell_at HQ6.out 1)
   have g1 : w11.cell? ⟨np.b, 0, none⟩ = some (.map (some np.m)) := by
    rw [World.cell?_of_block (w := w6) ((k11 _ HNe8.out).trans (A10.out np.b (heap_lt hd6.1) HNe9.out HNe10.out)), cell_at hd6.1]
    rfl
   clear m11
   go_upto_region 28 with fail
   obtain ⟨w12, hw12⟩ : ∃ w12, putObj w11 np.m o3 = w12 := ⟨_, rfl⟩
   rw [hw12]
   have k12 : ∀ k, k ≠ np.m → w12.heap[k]? = w11.heap[k]? := fun k hk => by rw [← hw12]; exact putObj_other _ _ hk
   have F12 := Lib.hid (show Frm (fpL f mi mg N) w6 w12 by rw [← hw12]; exact F11.out.putObj (.inl (fp_node HN.out (Nd.m_mem (by rw [HRp.out.big, HK2.out]; rfl)))) o3)
   rw [hw12, aput_new HEn.out] at hmp3
   have M12 := Lib.hid hmp3
   clear hw12 hup3 hmp3 g0 g1
   have X12 := Lib.hid (((k12 xb (show xb ≠ np.m by omega)).trans (k11 xb (show xb ≠ mi by omega))).trans X10.out)
   have y0 : w12.cell? ⟨xb, 0, none⟩ = some (.int .i64 ((j : Int) + 1)) := by rw [cell_at X12.out]; rfl
   have y1 : w12.cell? ⟨xb, 1, none⟩ = some (.int .i64 (ga + 1)) := by rw [cell_at X12.out]; rfl
   have hQ := ((k12 _ (show w.heap.size + 2 ≠ np.m by omega)).trans ((k11 (w.heap.size + 2) (by omega)).trans (A10.out (w.heap.size + 2) (by omega) (by omega) (show w.heap.size + 2 ≠ np.blk by omega)))).trans ((hB6.out.block _ (by omega)).trans HB2.out)
   have HQ := Lib.hid hQ
   have HPv := Lib.hid (agg2_one ((j : Int) + 1) (ga + 1))
   clear hQ
   have hs12 := F12.out.size
   have M12' := Lib.hid (show MapB w12 mi intK ptrV (N.map (fun n => (n.id, n.blk)) ++ [((j : Int) + 1, xb)]) from (I11.out.of_block (k12 mi (fun e => HNe4.out e.symm))) |> fun h => by
    rw [aput_new (by rw [(HF.out w6 hB6.out).get_none HW.out (by
     cases hx : decide ((byIdP r.ins ((j : Int) + 1)).id = 0)
     ·exfalso
      obtain ⟨a, b⟩ := byIdP_mem (of_decide_eq_false hx)
      exact HFr.out _ a b
     ·exact of_decide_eq_true hx)]; rfl)] at h
    exact h)
   have KK := Lib.hid (show ∀ k, k < w.heap.size → k ≠ np.m → k ≠ np.blk → k ≠ mi → k ≠ mg → w12.heap[k]? = w.heap[k]? from fun k a b c d e => (((k12 k b).trans (k11 k d)).trans (A10.out k (by omega) e c)).trans ((HB.out.trans (hB6.out.mono (by omega))).block k a))
   have G12 := Lib.hid (show ∃ G, MapB w12 mg intK intK G ∧ ∀ id, (aget G id).getD 0 = gensAt (gensUp r.gens ((j : Int) + 1)) id from by
    obtain ⟨G, a, b⟩ := HG10.out
    exact ⟨G, a.of_block ((k12 mg (fun e => HNe5.out e.symm)).trans (k11 mg (fun e => hgm e.symm))), b⟩)
   have P12 := Lib.hid (((k12 np.blk (fun e => HNe6.out e.symm)).trans (k11 np.blk (fun e => HNe1.out e.symm))).trans P10.out)
   have HC12 := Lib.hid (NC10.out w12 (fun k a b => (k12 k (by omega)).trans (k11 k (by omega))))
   have HF12 := Lib.hid (show FsN w12 f mi mg (namedP (addP r ⟨(j : Int) + 1, ga + 1, 1, md, tm, i, tg, [], []⟩) i s ((j : Int) + 1)) (N ++ [⟨(j : Int) + 1, xb, b, m, true⟩]) by
    have hlk := linksN_new (x := ⟨(j : Int) + 1, ga + 1, 1, md, tm, i, tg, [], []⟩) HW.out HFr.out HM1.out s
    have := make_fs (nd := ⟨(j : Int) + 1, xb, b, m, true⟩) HH.out HW.out (x := ⟨(j : Int) + 1, ga + 1, 1, md, tm, i, tg, [], []⟩) HM1.out HK2.out HN.out HRw.out HFr.out s KK.out (by rw [HM2.out]; exact M12.out) M12'.out G12.out P12.out
     ⟨rfl, by rw [hlk]; exact X12.out, rfl, fun _ => ⟨0, [], HC12.out, sameS_new⟩, fun q => absurd (show (1 : Int) = 2 from q) (by decide)⟩
     (fun k hk => by simp [Nd.foot] at hk; omega)
    rw [HM2.out] at this
    exact this)
   have HNx := Lib.hid (show newIn r (i, g) ⟨1, md, tm, tg⟩ = ⟨(j : Int) + 1, ga + 1, 1, md, tm, i, tg, [], []⟩ by unfold newIn; rw [HId.out, HGa.out])
   go_wp2_with (refine wpList_store_row rfl 37 (.tmp 8) (.tmp 150) rfl w12 (w.heap.size + 2) _ _ _ rfl rfl HQ.out rfl hndI HPv.out ?_; intro w13 hX13 hG13)
   refine end_cell_tmp (p := 8) (u := 9) rfl rfl hX13 hndT rfl hndI rfl rfl ⟨by rw [HId.out, HGa.out]; rfl, ?_⟩
   rw [HNx.out, HId.out]
   have lt12 := HF12.out
   have hx12 := X12.out
   refine ⟨_, lt12.keep (hG13.block _ (heap_lt lt12.head) (by simp; omega)) (hG13.block _ lt12.imap.lt (by simp; omega)) (hG13.block _ (by omega) (by simp; omega)) (fun n hn k hk => ?_), fun k hk => ?_, ?_⟩
   ·have hnn : k < w.heap.size ∨ w6.heap.size ≤ k := by
     rcases List.mem_append.1 hn with hn | hn
     ·exact .inl (HLt.out.2.2.2 n hn k hk)
     ·simp only [List.mem_singleton] at hn
      subst hn
      simp [Nd.foot] at hk
      omega
    have hk12 : k < w12.heap.size := by
     rcases List.mem_append.1 hn with hn | hn
     ·have := HLt.out.2.2.2 n hn k hk; omega
     ·simp only [List.mem_singleton] at hn
      subst hn
      simp [Nd.foot] at hk
      (have := HC12.out.lt; have := HC12.out.map.lt; have := heap_lt hx12; omega)
    exact hG13.block k hk12 (by simp; omega)
   ·unfold fpL at hk ⊢
    simp only [List.mem_cons, List.mem_flatMap, List.mem_append] at hk ⊢
    rcases hk with h1 | h1 | h1 | ⟨n, hn | hn, h1⟩
    ·exact .inl (.inl h1)
    ·exact .inl (.inr (.inl h1))
    ·exact .inl (.inr (.inr (.inl h1)))
    ·exact .inl (.inr (.inr (.inr ⟨n, hn, h1⟩)))
    ·simp only [List.not_mem_nil, or_false] at hn
     subst hn
     simp [Nd.foot] at h1
     exact .inr (by omega)
   ·refine ((Frm.of_below (HB.out.trans (hB6.out.mono (by omega)))).trans F12.out).trans' hG13 (by omega)
  ·obtain ⟨z1, z2⟩ := byIdP_mem hz
   obtain ⟨nz, hnz, hrz⟩ := (HF.out w6 hB6.out).at_ HW.out z1
   have hg := (HF.out w6 hB6.out).get hnz
   rw [hrz.id, z2] at hg
   rw [hg] at hlk
   simp only [Option.map_some, Option.getD_some, ptrV] at hlk
   have HJ2 := Lib.hid (show ∀ k : Nat, k < j + 1 → (byIdP r.ins ((k : Int) + 1)).id ≠ 0 from fun k hk => by
    rcases Nat.lt_or_ge k j with h1 | h1
    ·exact HJ.out k h1
    ·obtain rfl : k = j := by omega
     exact hz)
   have hle := ids_le HW.out HJ2.out
   clear hg hz z1 z2 hnz hrz
   go_wp2
   go_round
   case rel => exact ⟨j + 1, hle, by go_num, HJ2.out⟩
   case measure => simp [intOf]; omega
set_option maxRecDepth 100000 in
set_option maxHeartbeats 16000000 in
theorem make_ok2 {w : World} {f mi mg K : Nat} {r : RFs} {N : List Nd} (h : FsN w f mi mg r N) (hW : Wf r K) (hK : K ≤ 1000000) (i g : Int) (s : ByteArray) (hs : s.size ≤ maxLen) (md tm : Int) (tg : ByteArray) (ht : tg.size ≤ maxLen)
  (hp : placeE r (i, g) s false = 0) (q : rightB ⟨2, md, tm, tg⟩ = true) (q1 : entryP r.nms i s = 0) (q2 : linksN r (byIdP r.ins i) < 20) (q3 : r.ins.length < 200) :
  Calls Tryz.prog 21 #[.pointer (some ⟨f, 0, none⟩), .agg #[.int .i64 i, .int .i64 g], .string s, .agg #[.int .i64 2, .int .i64 md, .int .i64 tm, .string tg]] w
   fun e w' => e = .returned (.tuple #[.agg #[.int .i64 (freeP r.ins), .int .i64 (gensAt r.gens (freeP r.ins) + 1)], .int .i64 0]) ∧ StepR w w' f mi mg N (namedP (addP r (newIn r (i, g) ⟨2, md, tm, tg⟩)) i s (freeP r.ins)) := by
 obtain ⟨w2, hw2, hB, hs2, hb0, hb1, hb2⟩ := box3 w #[.int .i64 i, .int .i64 g] #[.int .i64 2, .int .i64 md, .int .i64 tm, .string tg] #[.int .i64 0, .int .i64 0] 37 76 37
 have t0 : w2.cell? ⟨w.heap.size, 0, none⟩ = some (.int .i64 i) := by rw [cell_at hb0]; rfl
 have t1 : w2.cell? ⟨w.heap.size, 1, none⟩ = some (.int .i64 g) := by rw [cell_at hb0]; rfl
 have h2 := h.below hW hB
 have HW2 := Lib.hid hw2
 have HB := Lib.hid hB
 have HB2 := Lib.hid hb2
 have HM := Lib.hid (show ∀ w', Below w2.heap.size w2 w' → w'.cell? ⟨w.heap.size + 1, 0, none⟩ = some (.int .i64 2) ∧ w'.cell? ⟨w.heap.size + 1, 1, none⟩ = some (.int .i64 md) ∧ w'.cell? ⟨w.heap.size + 1, 2, none⟩ = some (.int .i64 tm) ∧ w'.cell? ⟨w.heap.size + 1, 3, none⟩ = some (.string tg) from fun w' hb => by
  have e := (hb.block (w.heap.size + 1) (by omega)).trans hb1
  exact ⟨cell_at e 0, cell_at e 1, cell_at e 2, cell_at e 3⟩)
 have hf := placeE_folder hp
 obtain ⟨hl, hk2⟩ := folder_live hf
 obtain ⟨m1, m2, m3⟩ := live_mem hl
 obtain ⟨np, hn, hr⟩ := h2.at_ hW m1
 have hni : np.id = i := hr.id.trans m2
 have hpl := place_dir h2 hW i g s hs false hf hn hni
 rw [hp] at hpl
 have HP := Lib.hid hpl
 clear hpl
 have HAt := Lib.hid (show ∀ w4, Below w2.heap.size w2 w4 → Calls Tryz.prog 26 #[.agg #[.pointer (some ⟨np.blk, 0, none⟩), .pointer (some ⟨np.b, 0, none⟩), .string s]] w4 fun e w' => e = .returned (.tuple #[.int .i64 (entryP r.nms i s), .bool (decide (entryP r.nms i s ≠ 0))]) ∧ Below w4.heap.size w4 w' from fun w4 hb => by
  have hr4 := hr.below (hW.kind _ m1) hb
  have := at_any hr4 hk2 (hr4.lt (hW.kind _ m1)) s (some ⟨np.blk, 0, none⟩)
  rw [m2, hW.entry_some] at this
  exact this)
 rw [q1] at HAt
 simp only [ne_eq, not_true_eq_false, decide_false] at HAt
 have HR := Lib.hid (show ∀ w, Calls Tryz.prog 51 #[.agg #[.int .i64 2, .int .i64 md, .int .i64 tm, .string tg]] w fun e w' => e = .returned (.bool true) ∧ Below w.heap.size w w' from fun w => by
  have := right_any ⟨2, md, tm, tg⟩ w ht
  rw [q] at this
  exact this)
 have HD := Lib.hid (show ∀ w4, Below w2.heap.size w2 w4 → NodeR w4 r (byIdP r.ins i) np from fun w4 hb => hr.below (.inr (.inl hk2)) hb)
 have HF := Lib.hid (show ∀ w4, Below w2.heap.size w2 w4 → FsN w4 f mi mg r N from fun w4 hb => h2.below hW hb)
 have HLen := Lib.hid (h.len hW)
 have hlx := hW.lim _ m1
 have q4 : decide (20 ≤ (linksN r (byIdP r.ins i) : Int)) = false := decide_eq_false (by omega)
 have q5 : decide (20 ≤ linksN r (byIdP r.ins i)) = false := decide_eq_false (by omega)
 have HW := Lib.hid hW
 have HH := Lib.hid h
 have HM1 := Lib.hid m1
 have HM2 := Lib.hid m2
 have HK2 := Lib.hid hk2
 have HN := Lib.hid hn
 have HEn := Lib.hid (show (aget (namesP r.nms i) s).isSome = false by rw [hW.entry_some]; simp [q1])
 have hgb := fun id => gens_bd hW id
 have HGb := Lib.hid hgb
 have HLt := Lib.hid (h.lt hW)
 have HRp := Lib.hid hr
 clear hw2 hB hb0 hb1 hb2 h h2 hW hp hf hl hk2 m1 m2 m3 hn hr hni q1 hgb q
 go_enter Tryz.func21, Tryz.ntmps21
 go_wp2_with fail
 rw [HW2.out]
 go_upto_region 4 with (go_at_call 25; (with_reducible refine HP.out.mono ?_); rintro e w3 ⟨rfl, hB3⟩; have hs3 := hB3.size; replace hB3 := Lib.hid hB3)
 obtain ⟨w4, hw4, hB4, hs4, hb4⟩ := box1 w3 #[.pointer (some ⟨np.blk, 0, none⟩), .pointer (some ⟨np.b, 0, none⟩), .string s] 85
 rw [hw4]
 have c5 : w4.cell? ⟨w3.heap.size, 0, none⟩ = some (.pointer (some ⟨np.blk, 0, none⟩)) := by rw [cell_at hb4]; rfl
 have c6 : w4.cell? ⟨w3.heap.size, 1, none⟩ = some (.pointer (some ⟨np.b, 0, none⟩)) := by rw [cell_at hb4]; rfl
 have c7 : w4.cell? ⟨w3.heap.size, 2, none⟩ = some (.string s) := by rw [cell_at hb4]; rfl
 have HQ4 := Lib.hid hb4
 replace hB4 := Lib.hid (hB3.out.trans (hB4.mono (by omega)))
 clear hw4 hb4
 go_wp2_with (first
  | (go_at_call 26; (with_reducible refine (HAt.out w4 hB4.out).mono ?_); rintro e w5 ⟨rfl, hB5⟩; have hs5 := hB5.size; have hqq := (hB5.block _ (by omega)).trans HQ4.out; replace hB5 := Lib.hid (hB4.out.trans (hB5.mono (by omega))); obtain ⟨v0, v1, v2, v3⟩ := HM.out w5 hB5.out; have HQ5 := Lib.hid hqq; clear hqq)
  | (go_at_call 51; (with_reducible refine (HR.out w5).mono ?_); rintro e w6 ⟨rfl, hB6⟩; have hs6 := hB6.size; have HQ6 := Lib.hid ((hB6.block _ (by omega)).trans HQ5.out); replace hB6 := Lib.hid (hB5.out.trans (hB6.mono (by omega))); obtain ⟨u0, u1, u2, u3⟩ := HM.out w6 hB6.out; have p60 : w6.cell? ⟨w3.heap.size, 0, none⟩ = _ := cell_at HQ6.out 0; have p61 : w6.cell? ⟨w3.heap.size, 1, none⟩ = _ := cell_at HQ6.out 1; obtain ⟨-, -, -, -, k4, -⟩ := (HD.out w6 hB6.out).cells; obtain ⟨-, f1, f2⟩ := (HF.out w6 hB6.out).cells; have hlen := run_len_map (P := Tryz.prog) (ty := 3) (t := 63) Tryz.underlying63 (HF.out w6 hB6.out).imap; rw [List.length_map, HLen.out] at hlen))
 go_loop [14] (fun vi => ∃ j : Nat, j ≤ r.ins.length ∧ vi = .int .i64 ((j : Int) + 1) ∧ ∀ k : Nat, k < j → (byIdP r.ins ((k : Int) + 1)).id ≠ 0) (fun vi => 300 - (intOf vi).toNat)
 case atStart => exact ⟨0, Nat.zero_le _, rfl, fun k hk => absurd hk (Nat.not_lt_zero k)⟩
 case round =>
  obtain ⟨j, hj, rfl, hjl⟩ := hrel
  have HJ := Lib.hid hjl
  clear hjl
  have hlk := ((HF.out w6 hB6.out).look ((j : Int) + 1)).2
  by_cases hz : (byIdP r.ins ((j : Int) + 1)).id = 0
  ·rw [(HF.out w6 hB6.out).get_none HW.out hz] at hlk
   simp only [Option.map_none, Option.getD_none] at hlk
   have HId := Lib.hid (freeP_of (by omega) hz HJ.out)
   have HFr := Lib.hid (show ∀ y ∈ r.ins, y.id ≠ (j : Int) + 1 from fun y hy e => by
    rw [← e, HW.out.byId hy] at hz
    exact HW.out.ne0 hy hz)
   obtain ⟨G, g1, g2⟩ := (HF.out w6 hB6.out).gmap
   obtain ⟨ga, hga⟩ : ∃ ga, gensAt r.gens ((j : Int) + 1) = ga := ⟨_, rfl⟩
   obtain ⟨b1, b2⟩ := HGb.out ((j : Int) + 1)
   rw [hga] at b1 b2
   have hgl := run_lookup_plain KI (P := Tryz.prog) (t := 64) (et := 3) Tryz.underlying64 (zint w6) g1 ((j : Int) + 1)
   rw [show ((aget G ((j : Int) + 1)).map intK).getD (.int .i64 0) = intK ga by rw [← hga, ← g2]; cases aget G ((j : Int) + 1) <;> rfl] at hgl
   obtain ⟨o1, hup1, hmp1⟩ := run_update KI (P := Tryz.prog) (t := 64) Tryz.underlying64 g1 ((j : Int) + 1) (ga + 1)
   have hF7 : Frm (fpL f mi mg N) w6 (putObj w6 mg o1) := (Frm.refl _ _).putObj (.inl (by simp [fpL])) o1
   have hs7 : w6.heap.size ≤ (putObj w6 mg o1).heap.size := by rw [putObj_size]; omega
   have hk7 : ∀ k, k ≠ mg → (putObj w6 mg o1).heap[k]? = w6.heap[k]? := fun k hk => putObj_other _ _ hk
   obtain ⟨w7, hw7⟩ : ∃ w7, putObj w6 mg o1 = w7 := ⟨_, rfl⟩
   rw [hw7] at hF7 hs7 hk7 hmp1
   have hgl2 := run_lookup_plain KI (P := Tryz.prog) (w := w7.drew) (t := 64) (et := 3) Tryz.underlying64 (zint w7.drew) (show MapB w7.drew mg intK intK _ from hmp1) ((j : Int) + 1)
   rw [aget_put, if_pos rfl] at hgl2
   simp only [Option.map_some, Option.getD_some] at hgl2
   unfold intK at hgl hup1 hgl2
   have HG7 := Lib.hid (show ∃ G, MapB w7 mg intK intK G ∧ ∀ id, (aget G id).getD 0 = gensAt (gensUp r.gens ((j : Int) + 1)) id from ⟨_, hmp1, fun id => by
    rw [aget_put, gensAt_up _ (by omega)]
    by_cases e : id = (j : Int) + 1
    ·rw [if_pos e, if_pos e, hga]; rfl
    ·rw [if_neg e, if_neg e]; exact g2 id⟩)
   have HGa := Lib.hid hga
   have F7 := Lib.hid hF7
   have K7 := Lib.hid hk7
   have HW7 := Lib.hid hw7
   have l1 := HLt.out.2.2.1
   have hB6s := hB6.out.size
   have e1 : w7.cell? ⟨w.heap.size + 1, 1, none⟩ = some (.int .i64 md) := (World.cell?_of_block (hk7 _ (show w.heap.size + 1 ≠ mg by omega))).trans u1
   have e2 : w7.cell? ⟨w.heap.size + 1, 2, none⟩ = some (.int .i64 tm) := (World.cell?_of_block (hk7 _ (show w.heap.size + 1 ≠ mg by omega))).trans u2
   have e3 : w7.cell? ⟨f, 2, none⟩ = some (.map (some mg)) := (World.cell?_of_block (hk7 _ (fun e => map_ne g1 (HF.out w6 hB6.out).head e.symm))).trans f2
   clear hz hw7 hF7 hk7 hmp1 g1 g2 hga
   go_upto_region 17 with fail
   rw [HW7.out]
   clear v0 v1 v2 v3 c5 c6 c7 hlk hlen hgl hup1 f1 f2 k4 p60 p61
   go_still_tail 13, (by kernel_rfl)
   change wpList _ _ _ _ _ w7.drew
   go_upto_region 18 with fail
   obtain ⟨wa, hwa, hBa, hsa, hba⟩ := box1 w7 #[.int .i64 ((j : Int) + 1), .int .i64 (ga + 1), .int .i64 md, .int .i64 tm, .int .i64 1, .nilIface] 73
   rw [hwa]
   obtain ⟨w8, hw8⟩ : ∃ w8, wa.drew = w8 := ⟨_, rfl⟩
   rw [hw8]
   have hB8 : Below w7.heap.size w7 w8 := by rw [← hw8]; exact hBa.drew
   have hs8 : w7.heap.size + 1 ≤ w8.heap.size := by rw [← hw8]; exact hsa
   have hb8 : w8.heap[w7.heap.size]? = some (.cells #[.int .i64 ((j : Int) + 1), .int .i64 (ga + 1), .int .i64 md, .int .i64 tm, .int .i64 1, .nilIface] 73 (0, 0)) := by rw [← hw8]; exact hba
   clear hwa hBa hsa hba hw8
   have hk8 : ∀ k, k < w6.heap.size → k ≠ mg → w8.heap[k]? = w6.heap[k]? := fun k a b => (hB8.block k (by omega)).trans (K7.out k b)
   have F8 := Lib.hid (F7.out.trans (Frm.of_below hB8))
   have HG8 := Lib.hid (show ∃ G, MapB w8 mg intK intK G ∧ ∀ id, (aget G id).getD 0 = gensAt (gensUp r.gens ((j : Int) + 1)) id from by
    obtain ⟨G, a, b⟩ := HG7.out
    exact ⟨G, a.of_block (hB8.block _ a.lt), b⟩)
   generalize hxb : w7.heap.size = xb at *
   have hxb' : w6.heap.size ≤ xb := hs7
   have e0 : w8.cell? ⟨w.heap.size + 1, 0, none⟩ = some (.int .i64 2) := (World.cell?_of_block (hk8 _ (show w.heap.size + 1 < w6.heap.size by omega) (show w.heap.size + 1 ≠ mg by omega))).trans u0
   have X8 := Lib.hid hb8
   have K8 := Lib.hid hk8
   clear hB8 hb8 hk8 e1 e2 e3 hgl2 hs7 hxb
   have hgm : mi ≠ mg := (HF.out w6 hB6.out).mm
   have l0 := HLt.out.1
   have l2 := HLt.out.2.1
   have hpb : np.big = true := by rw [HRp.out.big, HK2.out]; rfl
   have p1 := HLt.out.2.2.2 np HN.out _ np.blk_mem
   have p2 := HLt.out.2.2.2 np HN.out _ (Nd.b_mem hpb)
   have p3 := HLt.out.2.2.2 np HN.out _ (Nd.m_mem hpb)
   obtain ⟨of1, of2, of3⟩ := HH.out.off np HN.out
   have HNe1 := Lib.hid (show mi ≠ np.blk from fun e => of2 (e ▸ np.blk_mem))
   have HNe3 := Lib.hid (show f ≠ np.blk from fun e => of1 (e ▸ np.blk_mem))
   have HNe4 := Lib.hid (show np.m ≠ mi from fun e => of2 (e ▸ Nd.m_mem hpb))
   have HNe5 := Lib.hid (show np.m ≠ mg from fun e => of3 (e ▸ Nd.m_mem hpb))
   have HNe8 := Lib.hid (show np.b ≠ mi from fun e => of2 (e ▸ Nd.b_mem hpb))
   have HNe9 := Lib.hid (show np.b ≠ mg from fun e => of3 (e ▸ Nd.b_mem hpb))
   have HNe6 := Lib.hid (show np.m ≠ np.blk from map_ne (HRp.out.dir HK2.out).2 HRp.out.head)
   have HNe10 := Lib.hid (show np.b ≠ np.blk from blk_ne (HRp.out.dir HK2.out).1 HRp.out.head (by decide))
   have HNe2 := Lib.hid (show f ≠ mg from fun e => by
    obtain ⟨G, a, _⟩ := HH.out.gmap
    exact map_ne a HH.out.head e.symm)
   clear of1 of2 of3
   have hrw : NodeR w r (byIdP r.ins i) np := by
    obtain ⟨y, hy, hry⟩ := HH.out.node np HN.out
    have a1 := HW.out.byId hy
    rw [← hry.id, HRp.out.id, HM2.out] at a1
    rw [a1]; exact hry
   have HRw := Lib.hid hrw
   have D6 := Lib.hid ((HD.out w6 hB6.out).head)
   clear hrw
   have x84 : w8.cell? ⟨xb, 4, none⟩ = _ := cell_at X8.out 4
   have x84f : w8.frozen? ⟨xb, 4, none⟩ = false := frozen_of_row w8 xb 4 _ _ X8.out
   have x85 : w8.cell? ⟨xb, 5, none⟩ = _ := cell_at X8.out 5
   have x8f : w8.frozen? ⟨xb, 5, none⟩ = false := frozen_of_row w8 xb 5 _ _ X8.out
   have d8 : w8.heap[np.blk]? = some (.cells (inoC (byIdP r.ins i) (linksN r (byIdP r.ins i)) np) 73 (0, 0)) := (K8.out np.blk (by omega) (by intro e; exact (HH.out.off np HN.out).2.2 (e ▸ np.blk_mem))).trans D6.out
   have y80 : w8.cell? ⟨np.blk, 0, none⟩ = some (.int .i64 i) := by rw [cell_at d8]; show some (Value.int .i64 (byIdP r.ins i).id) = _; rw [HM2.out]
   have y84 : w8.cell? ⟨np.blk, 4, none⟩ = some (.int .i64 (linksN r (byIdP r.ins i) : Int)) := by rw [cell_at d8]; rfl
   have y84f : w8.frozen? ⟨np.blk, 4, none⟩ = false := frozen_of_row w8 np.blk 4 _ _ d8
   have ep0 : w8.cell? ⟨w3.heap.size, 0, none⟩ = some (.pointer (some ⟨np.blk, 0, none⟩)) := (World.cell?_of_block (K8.out w3.heap.size (show w3.heap.size < w6.heap.size by omega) (show w3.heap.size ≠ mg by omega))).trans (cell_at HQ6.out 0)
   have hl1 : xb < w8.heap.size := by omega
   have hl2 : np.blk < w8.heap.size := by omega
   have hl3 : w3.heap.size < w8.heap.size := by omega
   have hl4 : w3.heap.size ≠ xb := by omega
   have hl5 : xb ≠ np.blk := by omega
   have hl6 : w.heap.size + 1 < w8.heap.size := by omega
   have hmm := @run_makeMap Tryz.prog
   have D8 := Lib.hid d8
   clear d8
   have hX9 := heap_setCell_same _ xb 4 _ _ (.int .i64 2) (heap_setCell_same w8 xb 5 _ _ (.iface 68 (.pointer (some ⟨w8.heap.size + 1, 0, none⟩))) X8.out)
   obtain ⟨w9, hw9⟩ : ∃ w9, ((w8.setCell ⟨xb, 5, none⟩ (.iface 68 (.pointer (some ⟨w8.heap.size + 1, 0, none⟩)))).setCell ⟨xb, 4, none⟩ (.int .i64 2)).setCell ⟨np.blk, 4, none⟩ (.int .i64 ((linksN r (byIdP r.ins i) : Int) + 1)) = w9 := ⟨_, rfl⟩
   have hs9 : w9.heap.size = w8.heap.size := by rw [← hw9]; simp [World.setCell]
   have k9 : ∀ k, k ≠ xb → k ≠ np.blk → w9.heap[k]? = w8.heap[k]? := fun k hk hk2 => by rw [← hw9]; exact (setCell_far _ _ _ _ _ hk2).trans ((setCell_far _ _ _ _ _ hk).trans (setCell_far _ _ _ _ _ hk))
   have X9 := Lib.hid (show w9.heap[xb]? = some (.cells (inoC ⟨(j : Int) + 1, ga + 1, 2, md, tm, i, tg, [], []⟩ 2 ⟨(j : Int) + 1, xb, w8.heap.size + 1, w8.heap.size, true⟩) 73 (0, 0)) by rw [← hw9]; exact (setCell_far _ _ _ _ _ hl5).trans hX9)
   have F9 := Lib.hid (show Frm (fpL f mi mg N) w6 w9 by rw [← hw9]; exact ((F8.out.setCell (.inr hxb') _).setCell (.inr hxb') _).setCell (.inl (fp_node HN.out np.blk_mem)) _)
   have P9 := Lib.hid (show w9.heap[np.blk]? = some (.cells (inoC (byIdP r.ins i) (linksN r (byIdP r.ins i) + 1) np) 73 (0, 0)) by rw [← hw9]; exact links_set (lk' := linksN r (byIdP r.ins i) + 1) ((setCell_far _ _ _ _ _ (fun e => hl5 e.symm)).trans ((setCell_far _ _ _ _ _ (fun e => hl5 e.symm)).trans D8.out)))
   obtain ⟨w10, hw10, hB10, hs10, hm10, hd10⟩ : ∃ w10, (w9.alloc (.map #[] 0)).alloc (.cells #[.map (some w8.heap.size), .int .i64 i] 71) = w10 ∧ Below w9.heap.size w9 w10 ∧ w8.heap.size + 2 ≤ w10.heap.size ∧ MapB w10 w8.heap.size strK intK ([] : List (ByteArray × Int)) ∧ w10.heap[w8.heap.size + 1]? = some (.cells #[.map (some w8.heap.size), .int .i64 i] 71 (0, 0)) := by
    refine ⟨_, rfl, ((Below.refl _ _).alloc (Nat.le_refl _) _).alloc (by simp) _, by simp; omega, ?_, ?_⟩
    ·have := (mapB_new w9 strK intK).of_block (w' := (w9.alloc (.map #[] 0)).alloc (.cells #[.map (some w8.heap.size), .int .i64 i] 71)) (Below.heap_alloc _ _ _ (by simp))
     rw [hs9] at this
     exact this
    ·have := heap_alloc_new (w9.alloc (.map #[] 0)) (.cells #[.map (some w8.heap.size), .int .i64 i] 71)
     simpa [hs9] using this
   have HW9 := Lib.hid hw9
   have HW10 := Lib.hid hw10
   have HS9 := Lib.hid hs9
   have HK9 := Lib.hid k9
   have HM10 := Lib.hid hm10
   have HD10 := Lib.hid hd10
   have HB10 := Lib.hid hB10
   clear hw9 hw10 hs9 k9 hm10 hd10 hB10 hX9
   go_upto_region 26 with fail
   rw [HW9.out, HW10.out]
   have hs9 := HS9.out
   have hs9' : w9.heap.size = w8.heap.size := hs9
   have X10 := Lib.hid ((HB10.out.block xb (by omega)).trans X9.out)
   have F10 := Lib.hid (F9.out.trans (Frm.of_below HB10.out))
   have A10 := Lib.hid (show ∀ k, k < w6.heap.size → k ≠ mg → k ≠ np.blk → w10.heap[k]? = w6.heap[k]? from fun k a b c => ((HB10.out.block k (by omega)).trans (HK9.out k (by omega) c)).trans (K8.out k a b))
   have P10 := Lib.hid ((HB10.out.block np.blk (by omega)).trans P9.out)
   have HG10 := Lib.hid (show ∃ G, MapB w10 mg intK intK G ∧ ∀ id, (aget G id).getD 0 = gensAt (gensUp r.gens ((j : Int) + 1)) id from by
    obtain ⟨G, a, c⟩ := HG8.out
    have := a.lt
    exact ⟨G, a.of_block ((HB10.out.block mg (by omega)).trans (HK9.out mg (by omega) (by intro e; exact (HH.out.off np HN.out).2.2 (e ▸ np.blk_mem)))), c⟩)
   have NC10 := Lib.hid (show ∀ w', (∀ k, k < w10.heap.size → w.heap.size + 2 < k → w'.heap[k]? = w10.heap[k]?) → w'.heap[w8.heap.size + 1]? = some (.cells #[.map (some w8.heap.size), .int .i64 i] 71 (0, 0)) ∧ MapB w' w8.heap.size strK intK ([] : List (ByteArray × Int)) from fun w' hk =>
    ⟨(hk _ (by omega) (by omega)).trans HD10.out, HM10.out.of_block (hk _ (by omega) (by omega))⟩)
   clear x84 x84f x85 x8f y80 y84 y84f ep0 hmm hs9 hs9'
   have i10 := (HF.out w6 hB6.out).imap.of_block (A10.out mi (by omega) hgm (HNe1.out))
   obtain ⟨o2, hup2, hmp2⟩ := run_update KI (P := Tryz.prog) (t := 63) Tryz.underlying63 i10 ((j : Int) + 1) xb
   unfold intK ptrV at hup2
   have f10 : w10.cell? ⟨f, 1, none⟩ = some (.map (some mi)) := (World.cell?_of_block (A10.out f (by omega) HNe2.out HNe3.out)).trans (HF.out w6 hB6.out).cells.2.1
   go_upto_region 27 with fail
   obtain ⟨w11, hw11⟩ : ∃ w11, putObj w10 mi o2 = w11 := ⟨_, rfl⟩
   rw [hw11]
   have k11 : ∀ k, k ≠ mi → w11.heap[k]? = w10.heap[k]? := fun k hk => by rw [← hw11]; exact putObj_other _ _ hk
   have F11 := Lib.hid (show Frm (fpL f mi mg N) w6 w11 by rw [← hw11]; exact F10.out.putObj (.inl (by simp [fpL])) o2)
   rw [hw11] at hmp2
   have I11 := Lib.hid hmp2
   clear hw11 hup2 f10 hmp2
   have hd6 := (HD.out w6 hB6.out).dir HK2.out
   rw [HM2.out] at hd6
   have m11 : MapB w11 np.m strK intK (namesP r.nms i) := hd6.2.of_block ((k11 _ HNe4.out).trans (A10.out np.m (by have := hd6.2.lt; omega) HNe5.out HNe6.out))
   obtain ⟨o3, hup3, hmp3⟩ := run_update KS (P := Tryz.prog) (t := 69) Tryz.underlying69 m11 s ((j : Int) + 1)
   unfold strK intK at hup3
   have g0 : w11.cell? ⟨w3.heap.size, 1, none⟩ = some (.pointer (some ⟨np.b, 0, none⟩)) := (World.cell?_of_block ((k11 _ (show w3.heap.size ≠ mi by omega)).trans (A10.out w3.heap.size (by omega) (by omega) (show w3.heap.size ≠ np.blk by omega)))).trans (cell_at HQ6.out 1)
   have g1 : w11.cell? ⟨np.b, 0, none⟩ = some (.map (some np.m)) := by
    rw [World.cell?_of_block (w := w6) ((k11 _ HNe8.out).trans (A10.out np.b (heap_lt hd6.1) HNe9.out HNe10.out)), cell_at hd6.1]
    rfl
   clear m11
   go_upto_region 28 with fail
   obtain ⟨w12, hw12⟩ : ∃ w12, putObj w11 np.m o3 = w12 := ⟨_, rfl⟩
   rw [hw12]
   have k12 : ∀ k, k ≠ np.m → w12.heap[k]? = w11.heap[k]? := fun k hk => by rw [← hw12]; exact putObj_other _ _ hk
   have F12 := Lib.hid (show Frm (fpL f mi mg N) w6 w12 by rw [← hw12]; exact F11.out.putObj (.inl (fp_node HN.out (Nd.m_mem (by rw [HRp.out.big, HK2.out]; rfl)))) o3)
   rw [hw12, aput_new HEn.out] at hmp3
   have M12 := Lib.hid hmp3
   clear hw12 hup3 hmp3 g0 g1
   have X12 := Lib.hid (((k12 xb (show xb ≠ np.m by omega)).trans (k11 xb (show xb ≠ mi by omega))).trans X10.out)
   have y0 : w12.cell? ⟨xb, 0, none⟩ = some (.int .i64 ((j : Int) + 1)) := by rw [cell_at X12.out]; rfl
   have y1 : w12.cell? ⟨xb, 1, none⟩ = some (.int .i64 (ga + 1)) := by rw [cell_at X12.out]; rfl
   have hQ := ((k12 _ (show w.heap.size + 2 ≠ np.m by omega)).trans ((k11 (w.heap.size + 2) (by omega)).trans (A10.out (w.heap.size + 2) (by omega) (by omega) (show w.heap.size + 2 ≠ np.blk by omega)))).trans ((hB6.out.block _ (by omega)).trans HB2.out)
   have HQ := Lib.hid hQ
   have HPv := Lib.hid (agg2_one ((j : Int) + 1) (ga + 1))
   clear hQ
   have hs12 := F12.out.size
   have M12' := Lib.hid (show MapB w12 mi intK ptrV (N.map (fun n => (n.id, n.blk)) ++ [((j : Int) + 1, xb)]) from (I11.out.of_block (k12 mi (fun e => HNe4.out e.symm))) |> fun h => by
    rw [aput_new (by rw [(HF.out w6 hB6.out).get_none HW.out (by
     cases hx : decide ((byIdP r.ins ((j : Int) + 1)).id = 0)
     ·exfalso
      obtain ⟨a, b⟩ := byIdP_mem (of_decide_eq_false hx)
      exact HFr.out _ a b
     ·exact of_decide_eq_true hx)]; rfl)] at h
    exact h)
   have KK := Lib.hid (show ∀ k, k < w.heap.size → k ≠ np.m → k ≠ np.blk → k ≠ mi → k ≠ mg → w12.heap[k]? = w.heap[k]? from fun k a b c d e => (((k12 k b).trans (k11 k d)).trans (A10.out k (by omega) e c)).trans ((HB.out.trans (hB6.out.mono (by omega))).block k a))
   have G12 := Lib.hid (show ∃ G, MapB w12 mg intK intK G ∧ ∀ id, (aget G id).getD 0 = gensAt (gensUp r.gens ((j : Int) + 1)) id from by
    obtain ⟨G, a, b⟩ := HG10.out
    exact ⟨G, a.of_block ((k12 mg (fun e => HNe5.out e.symm)).trans (k11 mg (fun e => hgm e.symm))), b⟩)
   have P12 := Lib.hid (((k12 np.blk (fun e => HNe6.out e.symm)).trans (k11 np.blk (fun e => HNe1.out e.symm))).trans P10.out)
   have HC12 := Lib.hid (NC10.out w12 (fun k a b => (k12 k (by omega)).trans (k11 k (by omega))))
   have HF12 := Lib.hid (show FsN w12 f mi mg (namedP (addP r ⟨(j : Int) + 1, ga + 1, 2, md, tm, i, tg, [], []⟩) i s ((j : Int) + 1)) (N ++ [⟨(j : Int) + 1, xb, w8.heap.size + 1, w8.heap.size, true⟩]) by
    have hlk := linksN_new (x := ⟨(j : Int) + 1, ga + 1, 2, md, tm, i, tg, [], []⟩) HW.out HFr.out HM1.out s
    have := make_fs (nd := ⟨(j : Int) + 1, xb, w8.heap.size + 1, w8.heap.size, true⟩) HH.out HW.out (x := ⟨(j : Int) + 1, ga + 1, 2, md, tm, i, tg, [], []⟩) HM1.out HK2.out HN.out HRw.out HFr.out s KK.out (by rw [HM2.out]; exact M12.out) M12'.out G12.out P12.out
     ⟨rfl, by rw [hlk]; exact X12.out, rfl, fun q => absurd (show (2 : Int) = 1 from q) (by decide), fun _ => by rw [show namesP (namedP (addP r ⟨(j : Int) + 1, ga + 1, 2, md, tm, i, tg, [], []⟩) (byIdP r.ins i).id s ((j : Int) + 1)).nms ((j : Int) + 1) = [] from names_new HW.out HFr.out HM1.out s]; exact HC12.out⟩
     (fun k hk => by simp [Nd.foot] at hk; omega)
    rw [HM2.out] at this
    exact this)
   have HNx := Lib.hid (show newIn r (i, g) ⟨2, md, tm, tg⟩ = ⟨(j : Int) + 1, ga + 1, 2, md, tm, i, tg, [], []⟩ by unfold newIn; rw [HId.out, HGa.out])
   go_wp2_with (refine wpList_store_row rfl 37 (.tmp 8) (.tmp 150) rfl w12 (w.heap.size + 2) _ _ _ rfl rfl HQ.out rfl hndI HPv.out ?_; intro w13 hX13 hG13)
   refine end_cell_tmp (p := 8) (u := 9) rfl rfl hX13 hndT rfl hndI rfl rfl ⟨by rw [HId.out, HGa.out]; rfl, ?_⟩
   rw [HNx.out, HId.out]
   have lt12 := HF12.out
   have hx12 := X12.out
   refine ⟨_, lt12.keep (hG13.block _ (heap_lt lt12.head) (by simp; omega)) (hG13.block _ lt12.imap.lt (by simp; omega)) (hG13.block _ (by omega) (by simp; omega)) (fun n hn k hk => ?_), fun k hk => ?_, ?_⟩
   ·have hnn : k < w.heap.size ∨ w6.heap.size ≤ k := by
     rcases List.mem_append.1 hn with hn | hn
     ·exact .inl (HLt.out.2.2.2 n hn k hk)
     ·simp only [List.mem_singleton] at hn
      subst hn
      simp [Nd.foot] at hk
      omega
    have hk12 : k < w12.heap.size := by
     rcases List.mem_append.1 hn with hn | hn
     ·have := HLt.out.2.2.2 n hn k hk; omega
     ·simp only [List.mem_singleton] at hn
      subst hn
      simp [Nd.foot] at hk
      (have := heap_lt HC12.out.1; have := HC12.out.2.lt; have := heap_lt hx12; omega)
    exact hG13.block k hk12 (by simp; omega)
   ·unfold fpL at hk ⊢
    simp only [List.mem_cons, List.mem_flatMap, List.mem_append] at hk ⊢
    rcases hk with h1 | h1 | h1 | ⟨n, hn | hn, h1⟩
    ·exact .inl (.inl h1)
    ·exact .inl (.inr (.inl h1))
    ·exact .inl (.inr (.inr (.inl h1)))
    ·exact .inl (.inr (.inr (.inr ⟨n, hn, h1⟩)))
    ·simp only [List.not_mem_nil, or_false] at hn
     subst hn
     simp [Nd.foot] at h1
     exact .inr (by omega)
   ·refine ((Frm.of_below (HB.out.trans (hB6.out.mono (by omega)))).trans F12.out).trans' hG13 (by omega)
  ·obtain ⟨z1, z2⟩ := byIdP_mem hz
   obtain ⟨nz, hnz, hrz⟩ := (HF.out w6 hB6.out).at_ HW.out z1
   have hg := (HF.out w6 hB6.out).get hnz
   rw [hrz.id, z2] at hg
   rw [hg] at hlk
   simp only [Option.map_some, Option.getD_some, ptrV] at hlk
   have HJ2 := Lib.hid (show ∀ k : Nat, k < j + 1 → (byIdP r.ins ((k : Int) + 1)).id ≠ 0 from fun k hk => by
    rcases Nat.lt_or_ge k j with h1 | h1
    ·exact HJ.out k h1
    ·obtain rfl : k = j := by omega
     exact hz)
   have hle := ids_le HW.out HJ2.out
   clear hg hz z1 z2 hnz hrz
   go_wp2
   go_round
   case rel => exact ⟨j + 1, hle, by go_num, HJ2.out⟩
   case measure => simp [intOf]; omega
set_option maxRecDepth 100000 in
set_option maxHeartbeats 16000000 in
theorem make_ok3 {w : World} {f mi mg K : Nat} {r : RFs} {N : List Nd} (h : FsN w f mi mg r N) (hW : Wf r K) (hK : K ≤ 1000000) (i g : Int) (s : ByteArray) (hs : s.size ≤ maxLen) (md tm : Int) (tg : ByteArray) (ht : tg.size ≤ maxLen)
  (hp : placeE r (i, g) s false = 0) (q : rightB ⟨3, md, tm, tg⟩ = true) (q1 : entryP r.nms i s = 0) (q3 : r.ins.length < 200) :
  Calls Tryz.prog 21 #[.pointer (some ⟨f, 0, none⟩), .agg #[.int .i64 i, .int .i64 g], .string s, .agg #[.int .i64 3, .int .i64 md, .int .i64 tm, .string tg]] w
   fun e w' => e = .returned (.tuple #[.agg #[.int .i64 (freeP r.ins), .int .i64 (gensAt r.gens (freeP r.ins) + 1)], .int .i64 0]) ∧ StepR w w' f mi mg N (namedP (addP r (newIn r (i, g) ⟨3, md, tm, tg⟩)) i s (freeP r.ins)) := by
 obtain ⟨w2, hw2, hB, hs2, hb0, hb1, hb2⟩ := box3 w #[.int .i64 i, .int .i64 g] #[.int .i64 3, .int .i64 md, .int .i64 tm, .string tg] #[.int .i64 0, .int .i64 0] 37 76 37
 have t0 : w2.cell? ⟨w.heap.size, 0, none⟩ = some (.int .i64 i) := by rw [cell_at hb0]; rfl
 have t1 : w2.cell? ⟨w.heap.size, 1, none⟩ = some (.int .i64 g) := by rw [cell_at hb0]; rfl
 have h2 := h.below hW hB
 have HW2 := Lib.hid hw2
 have HB := Lib.hid hB
 have HB2 := Lib.hid hb2
 have HM := Lib.hid (show ∀ w', Below w2.heap.size w2 w' → w'.cell? ⟨w.heap.size + 1, 0, none⟩ = some (.int .i64 3) ∧ w'.cell? ⟨w.heap.size + 1, 1, none⟩ = some (.int .i64 md) ∧ w'.cell? ⟨w.heap.size + 1, 2, none⟩ = some (.int .i64 tm) ∧ w'.cell? ⟨w.heap.size + 1, 3, none⟩ = some (.string tg) from fun w' hb => by
  have e := (hb.block (w.heap.size + 1) (by omega)).trans hb1
  exact ⟨cell_at e 0, cell_at e 1, cell_at e 2, cell_at e 3⟩)
 have hf := placeE_folder hp
 obtain ⟨hl, hk2⟩ := folder_live hf
 obtain ⟨m1, m2, m3⟩ := live_mem hl
 obtain ⟨np, hn, hr⟩ := h2.at_ hW m1
 have hni : np.id = i := hr.id.trans m2
 have hpl := place_dir h2 hW i g s hs false hf hn hni
 rw [hp] at hpl
 have HP := Lib.hid hpl
 clear hpl
 have HAt := Lib.hid (show ∀ w4, Below w2.heap.size w2 w4 → Calls Tryz.prog 26 #[.agg #[.pointer (some ⟨np.blk, 0, none⟩), .pointer (some ⟨np.b, 0, none⟩), .string s]] w4 fun e w' => e = .returned (.tuple #[.int .i64 (entryP r.nms i s), .bool (decide (entryP r.nms i s ≠ 0))]) ∧ Below w4.heap.size w4 w' from fun w4 hb => by
  have hr4 := hr.below (hW.kind _ m1) hb
  have := at_any hr4 hk2 (hr4.lt (hW.kind _ m1)) s (some ⟨np.blk, 0, none⟩)
  rw [m2, hW.entry_some] at this
  exact this)
 rw [q1] at HAt
 simp only [ne_eq, not_true_eq_false, decide_false] at HAt
 have HR := Lib.hid (show ∀ w, Calls Tryz.prog 51 #[.agg #[.int .i64 3, .int .i64 md, .int .i64 tm, .string tg]] w fun e w' => e = .returned (.bool true) ∧ Below w.heap.size w w' from fun w => by
  have := right_any ⟨3, md, tm, tg⟩ w ht
  rw [q] at this
  exact this)
 have HD := Lib.hid (show ∀ w4, Below w2.heap.size w2 w4 → NodeR w4 r (byIdP r.ins i) np from fun w4 hb => hr.below (.inr (.inl hk2)) hb)
 have HF := Lib.hid (show ∀ w4, Below w2.heap.size w2 w4 → FsN w4 f mi mg r N from fun w4 hb => h2.below hW hb)
 have HLen := Lib.hid (h.len hW)
 have hlx := hW.lim _ m1
 have HW := Lib.hid hW
 have HH := Lib.hid h
 have HM1 := Lib.hid m1
 have HM2 := Lib.hid m2
 have HK2 := Lib.hid hk2
 have HN := Lib.hid hn
 have HEn := Lib.hid (show (aget (namesP r.nms i) s).isSome = false by rw [hW.entry_some]; simp [q1])
 have hgb := fun id => gens_bd hW id
 have HGb := Lib.hid hgb
 have HLt := Lib.hid (h.lt hW)
 have HRp := Lib.hid hr
 clear hw2 hB hb0 hb1 hb2 h h2 hW hp hf hl hk2 m1 m2 m3 hn hr hni q1 hgb q
 go_enter Tryz.func21, Tryz.ntmps21
 go_wp2_with fail
 rw [HW2.out]
 go_upto_region 4 with (go_at_call 25; (with_reducible refine HP.out.mono ?_); rintro e w3 ⟨rfl, hB3⟩; have hs3 := hB3.size; replace hB3 := Lib.hid hB3)
 obtain ⟨w4, hw4, hB4, hs4, hb4⟩ := box1 w3 #[.pointer (some ⟨np.blk, 0, none⟩), .pointer (some ⟨np.b, 0, none⟩), .string s] 85
 rw [hw4]
 have c5 : w4.cell? ⟨w3.heap.size, 0, none⟩ = some (.pointer (some ⟨np.blk, 0, none⟩)) := by rw [cell_at hb4]; rfl
 have c6 : w4.cell? ⟨w3.heap.size, 1, none⟩ = some (.pointer (some ⟨np.b, 0, none⟩)) := by rw [cell_at hb4]; rfl
 have c7 : w4.cell? ⟨w3.heap.size, 2, none⟩ = some (.string s) := by rw [cell_at hb4]; rfl
 have HQ4 := Lib.hid hb4
 replace hB4 := Lib.hid (hB3.out.trans (hB4.mono (by omega)))
 clear hw4 hb4
 go_wp2_with (first
  | (go_at_call 26; (with_reducible refine (HAt.out w4 hB4.out).mono ?_); rintro e w5 ⟨rfl, hB5⟩; have hs5 := hB5.size; have hqq := (hB5.block _ (by omega)).trans HQ4.out; replace hB5 := Lib.hid (hB4.out.trans (hB5.mono (by omega))); obtain ⟨v0, v1, v2, v3⟩ := HM.out w5 hB5.out; have HQ5 := Lib.hid hqq; clear hqq)
  | (go_at_call 51; (with_reducible refine (HR.out w5).mono ?_); rintro e w6 ⟨rfl, hB6⟩; have hs6 := hB6.size; have HQ6 := Lib.hid ((hB6.block _ (by omega)).trans HQ5.out); replace hB6 := Lib.hid (hB5.out.trans (hB6.mono (by omega))); obtain ⟨u0, u1, u2, u3⟩ := HM.out w6 hB6.out; have p60 : w6.cell? ⟨w3.heap.size, 0, none⟩ = _ := cell_at HQ6.out 0; have p61 : w6.cell? ⟨w3.heap.size, 1, none⟩ = _ := cell_at HQ6.out 1; obtain ⟨-, -, -, -, k4, -⟩ := (HD.out w6 hB6.out).cells; obtain ⟨-, f1, f2⟩ := (HF.out w6 hB6.out).cells; have hlen := run_len_map (P := Tryz.prog) (ty := 3) (t := 63) Tryz.underlying63 (HF.out w6 hB6.out).imap; rw [List.length_map, HLen.out] at hlen))
 go_loop [14] (fun vi => ∃ j : Nat, j ≤ r.ins.length ∧ vi = .int .i64 ((j : Int) + 1) ∧ ∀ k : Nat, k < j → (byIdP r.ins ((k : Int) + 1)).id ≠ 0) (fun vi => 300 - (intOf vi).toNat)
 case atStart => exact ⟨0, Nat.zero_le _, rfl, fun k hk => absurd hk (Nat.not_lt_zero k)⟩
 case round =>
  obtain ⟨j, hj, rfl, hjl⟩ := hrel
  have HJ := Lib.hid hjl
  clear hjl
  have hlk := ((HF.out w6 hB6.out).look ((j : Int) + 1)).2
  by_cases hz : (byIdP r.ins ((j : Int) + 1)).id = 0
  ·rw [(HF.out w6 hB6.out).get_none HW.out hz] at hlk
   simp only [Option.map_none, Option.getD_none] at hlk
   have HId := Lib.hid (freeP_of (by omega) hz HJ.out)
   have HFr := Lib.hid (show ∀ y ∈ r.ins, y.id ≠ (j : Int) + 1 from fun y hy e => by
    rw [← e, HW.out.byId hy] at hz
    exact HW.out.ne0 hy hz)
   obtain ⟨G, g1, g2⟩ := (HF.out w6 hB6.out).gmap
   obtain ⟨ga, hga⟩ : ∃ ga, gensAt r.gens ((j : Int) + 1) = ga := ⟨_, rfl⟩
   obtain ⟨b1, b2⟩ := HGb.out ((j : Int) + 1)
   rw [hga] at b1 b2
   have hgl := run_lookup_plain KI (P := Tryz.prog) (t := 64) (et := 3) Tryz.underlying64 (zint w6) g1 ((j : Int) + 1)
   rw [show ((aget G ((j : Int) + 1)).map intK).getD (.int .i64 0) = intK ga by rw [← hga, ← g2]; cases aget G ((j : Int) + 1) <;> rfl] at hgl
   obtain ⟨o1, hup1, hmp1⟩ := run_update KI (P := Tryz.prog) (t := 64) Tryz.underlying64 g1 ((j : Int) + 1) (ga + 1)
   have hF7 : Frm (fpL f mi mg N) w6 (putObj w6 mg o1) := (Frm.refl _ _).putObj (.inl (by simp [fpL])) o1
   have hs7 : w6.heap.size ≤ (putObj w6 mg o1).heap.size := by rw [putObj_size]; omega
   have hk7 : ∀ k, k ≠ mg → (putObj w6 mg o1).heap[k]? = w6.heap[k]? := fun k hk => putObj_other _ _ hk
   obtain ⟨w7, hw7⟩ : ∃ w7, putObj w6 mg o1 = w7 := ⟨_, rfl⟩
   rw [hw7] at hF7 hs7 hk7 hmp1
   have hgl2 := run_lookup_plain KI (P := Tryz.prog) (w := w7.drew) (t := 64) (et := 3) Tryz.underlying64 (zint w7.drew) (show MapB w7.drew mg intK intK _ from hmp1) ((j : Int) + 1)
   rw [aget_put, if_pos rfl] at hgl2
   simp only [Option.map_some, Option.getD_some] at hgl2
   unfold intK at hgl hup1 hgl2
   have HG7 := Lib.hid (show ∃ G, MapB w7 mg intK intK G ∧ ∀ id, (aget G id).getD 0 = gensAt (gensUp r.gens ((j : Int) + 1)) id from ⟨_, hmp1, fun id => by
    rw [aget_put, gensAt_up _ (by omega)]
    by_cases e : id = (j : Int) + 1
    ·rw [if_pos e, if_pos e, hga]; rfl
    ·rw [if_neg e, if_neg e]; exact g2 id⟩)
   have HGa := Lib.hid hga
   have F7 := Lib.hid hF7
   have K7 := Lib.hid hk7
   have HW7 := Lib.hid hw7
   have l1 := HLt.out.2.2.1
   have hB6s := hB6.out.size
   have e1 : w7.cell? ⟨w.heap.size + 1, 1, none⟩ = some (.int .i64 md) := (World.cell?_of_block (hk7 _ (show w.heap.size + 1 ≠ mg by omega))).trans u1
   have e2 : w7.cell? ⟨w.heap.size + 1, 2, none⟩ = some (.int .i64 tm) := (World.cell?_of_block (hk7 _ (show w.heap.size + 1 ≠ mg by omega))).trans u2
   have e3 : w7.cell? ⟨f, 2, none⟩ = some (.map (some mg)) := (World.cell?_of_block (hk7 _ (fun e => map_ne g1 (HF.out w6 hB6.out).head e.symm))).trans f2
   clear hz hw7 hF7 hk7 hmp1 g1 g2 hga
   go_upto_region 17 with fail
   rw [HW7.out]
   clear v0 v1 v2 v3 c5 c6 c7 hlk hlen hgl hup1 f1 f2 k4 p60 p61
   go_still_tail 13, (by kernel_rfl)
   change wpList _ _ _ _ _ w7.drew
   go_upto_region 18 with fail
   obtain ⟨wa, hwa, hBa, hsa, hba⟩ := box1 w7 #[.int .i64 ((j : Int) + 1), .int .i64 (ga + 1), .int .i64 md, .int .i64 tm, .int .i64 1, .nilIface] 73
   rw [hwa]
   obtain ⟨w8, hw8⟩ : ∃ w8, wa.drew = w8 := ⟨_, rfl⟩
   rw [hw8]
   have hB8 : Below w7.heap.size w7 w8 := by rw [← hw8]; exact hBa.drew
   have hs8 : w7.heap.size + 1 ≤ w8.heap.size := by rw [← hw8]; exact hsa
   have hb8 : w8.heap[w7.heap.size]? = some (.cells #[.int .i64 ((j : Int) + 1), .int .i64 (ga + 1), .int .i64 md, .int .i64 tm, .int .i64 1, .nilIface] 73 (0, 0)) := by rw [← hw8]; exact hba
   clear hwa hBa hsa hba hw8
   have hk8 : ∀ k, k < w6.heap.size → k ≠ mg → w8.heap[k]? = w6.heap[k]? := fun k a b => (hB8.block k (by omega)).trans (K7.out k b)
   have F8 := Lib.hid (F7.out.trans (Frm.of_below hB8))
   have HG8 := Lib.hid (show ∃ G, MapB w8 mg intK intK G ∧ ∀ id, (aget G id).getD 0 = gensAt (gensUp r.gens ((j : Int) + 1)) id from by
    obtain ⟨G, a, b⟩ := HG7.out
    exact ⟨G, a.of_block (hB8.block _ a.lt), b⟩)
   generalize hxb : w7.heap.size = xb at *
   have hxb' : w6.heap.size ≤ xb := hs7
   have e0 : w8.cell? ⟨w.heap.size + 1, 0, none⟩ = some (.int .i64 3) := (World.cell?_of_block (hk8 _ (show w.heap.size + 1 < w6.heap.size by omega) (show w.heap.size + 1 ≠ mg by omega))).trans u0
   have X8 := Lib.hid hb8
   have K8 := Lib.hid hk8
   clear hB8 hb8 hk8 e1 e2 e3 hgl2 hs7 hxb
   have hgm : mi ≠ mg := (HF.out w6 hB6.out).mm
   have l0 := HLt.out.1
   have l2 := HLt.out.2.1
   have hpb : np.big = true := by rw [HRp.out.big, HK2.out]; rfl
   have p1 := HLt.out.2.2.2 np HN.out _ np.blk_mem
   have p2 := HLt.out.2.2.2 np HN.out _ (Nd.b_mem hpb)
   have p3 := HLt.out.2.2.2 np HN.out _ (Nd.m_mem hpb)
   obtain ⟨of1, of2, of3⟩ := HH.out.off np HN.out
   have HNe1 := Lib.hid (show mi ≠ np.blk from fun e => of2 (e ▸ np.blk_mem))
   have HNe3 := Lib.hid (show f ≠ np.blk from fun e => of1 (e ▸ np.blk_mem))
   have HNe4 := Lib.hid (show np.m ≠ mi from fun e => of2 (e ▸ Nd.m_mem hpb))
   have HNe5 := Lib.hid (show np.m ≠ mg from fun e => of3 (e ▸ Nd.m_mem hpb))
   have HNe8 := Lib.hid (show np.b ≠ mi from fun e => of2 (e ▸ Nd.b_mem hpb))
   have HNe9 := Lib.hid (show np.b ≠ mg from fun e => of3 (e ▸ Nd.b_mem hpb))
   have HNe6 := Lib.hid (show np.m ≠ np.blk from map_ne (HRp.out.dir HK2.out).2 HRp.out.head)
   have HNe10 := Lib.hid (show np.b ≠ np.blk from blk_ne (HRp.out.dir HK2.out).1 HRp.out.head (by decide))
   have HNe2 := Lib.hid (show f ≠ mg from fun e => by
    obtain ⟨G, a, _⟩ := HH.out.gmap
    exact map_ne a HH.out.head e.symm)
   clear of1 of2 of3
   have hrw : NodeR w r (byIdP r.ins i) np := by
    obtain ⟨y, hy, hry⟩ := HH.out.node np HN.out
    have a1 := HW.out.byId hy
    rw [← hry.id, HRp.out.id, HM2.out] at a1
    rw [a1]; exact hry
   have HRw := Lib.hid hrw
   have D6 := Lib.hid ((HD.out w6 hB6.out).head)
   clear hrw
   have x85 : w8.cell? ⟨xb, 5, none⟩ = _ := cell_at X8.out 5
   have x8f : w8.frozen? ⟨xb, 5, none⟩ = false := frozen_of_row w8 xb 5 _ _ X8.out
   have e03 : w8.cell? ⟨w.heap.size + 1, 3, none⟩ = some (.string tg) := (World.cell?_of_block (K8.out _ (show w.heap.size + 1 < w6.heap.size by omega) (show w.heap.size + 1 ≠ mg by omega))).trans u3
   go_upto_region 26 with fail
   obtain ⟨w10, hw10⟩ : ∃ w10, w8.setCell ⟨xb, 5, none⟩ (.iface 9 (.string tg)) = w10 := ⟨_, rfl⟩
   rw [hw10]
   have k10 : ∀ k, k ≠ xb → w10.heap[k]? = w8.heap[k]? := fun k hk => by rw [← hw10]; exact setCell_far _ _ _ _ _ hk
   have X10 := Lib.hid (show w10.heap[xb]? = some (.cells (inoC ⟨(j : Int) + 1, ga + 1, 3, md, tm, i, tg, [], []⟩ 1 ⟨(j : Int) + 1, xb, 0, 0, false⟩) 73 (0, 0)) by rw [← hw10]; exact heap_setCell_same w8 xb 5 _ _ _ X8.out)
   have F10 := Lib.hid (show Frm (fpL f mi mg N) w6 w10 by rw [← hw10]; exact F8.out.setCell (.inr hxb') _)
   have A10 := Lib.hid (show ∀ k, k < w6.heap.size → k ≠ mg → k ≠ np.blk → w10.heap[k]? = w6.heap[k]? from fun k a b _ => (k10 k (by omega)).trans (K8.out k a b))
   have P10 := Lib.hid (show w10.heap[np.blk]? = some (.cells (inoC (byIdP r.ins i) (linksN r (byIdP r.ins i) + 0) np) 73 (0, 0)) from ((k10 np.blk (by omega)).trans (K8.out np.blk (by omega) (by intro e; exact (HH.out.off np HN.out).2.2 (e ▸ np.blk_mem)))).trans D6.out)
   have HG10 := Lib.hid (show ∃ G, MapB w10 mg intK intK G ∧ ∀ id, (aget G id).getD 0 = gensAt (gensUp r.gens ((j : Int) + 1)) id from by
    obtain ⟨G, a, c⟩ := HG8.out
    exact ⟨G, a.of_block (k10 mg (by omega)), c⟩)
   have NC10 := Lib.hid (show ∀ w' : World, (∀ k, k < w10.heap.size → w.heap.size + 2 < k → w'.heap[k]? = w10.heap[k]?) → True from fun _ _ => trivial)
   clear hw10 x85 x8f e03 k10
   have i10 := (HF.out w6 hB6.out).imap.of_block (A10.out mi (by omega) hgm (HNe1.out))
   obtain ⟨o2, hup2, hmp2⟩ := run_update KI (P := Tryz.prog) (t := 63) Tryz.underlying63 i10 ((j : Int) + 1) xb
   unfold intK ptrV at hup2
   have f10 : w10.cell? ⟨f, 1, none⟩ = some (.map (some mi)) := (World.cell?_of_block (A10.out f (by omega) HNe2.out HNe3.out)).trans (HF.out w6 hB6.out).cells.2.1
   go_upto_region 27 with fail
   obtain ⟨w11, hw11⟩ : ∃ w11, putObj w10 mi o2 = w11 := ⟨_, rfl⟩
   rw [hw11]
   have k11 : ∀ k, k ≠ mi → w11.heap[k]? = w10.heap[k]? := fun k hk => by rw [← hw11]; exact putObj_other _ _ hk
   have F11 := Lib.hid (show Frm (fpL f mi mg N) w6 w11 by rw [← hw11]; exact F10.out.putObj (.inl (by simp [fpL])) o2)
   rw [hw11] at hmp2
   have I11 := Lib.hid hmp2
   clear hw11 hup2 f10 hmp2
   have hd6 := (HD.out w6 hB6.out).dir HK2.out
   rw [HM2.out] at hd6
   have m11 : MapB w11 np.m strK intK (namesP r.nms i) := hd6.2.of_block ((k11 _ HNe4.out).trans (A10.out np.m (by have := hd6.2.lt; omega) HNe5.out HNe6.out))
   obtain ⟨o3, hup3, hmp3⟩ := run_update KS (P := Tryz.prog) (t := 69) Tryz.underlying69 m11 s ((j : Int) + 1)
   unfold strK intK at hup3
   have g0 : w11.cell? ⟨w3.heap.size, 1, none⟩ = some (.pointer (some ⟨np.b, 0, none⟩)) := (World.cell?_of_block ((k11 _ (show w3.heap.size ≠ mi by omega)).trans (A10.out w3.heap.size (by omega) (by omega) (show w3.heap.size ≠ np.blk by omega)))).trans (cell_at HQ6.out 1)
   have g1 : w11.cell? ⟨np.b, 0, none⟩ = some (.map (some np.m)) := by
    rw [World.cell?_of_block (w := w6) ((k11 _ HNe8.out).trans (A10.out np.b (heap_lt hd6.1) HNe9.out HNe10.out)), cell_at hd6.1]
    rfl
   clear m11
   go_upto_region 28 with fail
   obtain ⟨w12, hw12⟩ : ∃ w12, putObj w11 np.m o3 = w12 := ⟨_, rfl⟩
   rw [hw12]
   have k12 : ∀ k, k ≠ np.m → w12.heap[k]? = w11.heap[k]? := fun k hk => by rw [← hw12]; exact putObj_other _ _ hk
   have F12 := Lib.hid (show Frm (fpL f mi mg N) w6 w12 by rw [← hw12]; exact F11.out.putObj (.inl (fp_node HN.out (Nd.m_mem (by rw [HRp.out.big, HK2.out]; rfl)))) o3)
   rw [hw12, aput_new HEn.out] at hmp3
   have M12 := Lib.hid hmp3
   clear hw12 hup3 hmp3 g0 g1
   have X12 := Lib.hid (((k12 xb (show xb ≠ np.m by omega)).trans (k11 xb (show xb ≠ mi by omega))).trans X10.out)
   have y0 : w12.cell? ⟨xb, 0, none⟩ = some (.int .i64 ((j : Int) + 1)) := by rw [cell_at X12.out]; rfl
   have y1 : w12.cell? ⟨xb, 1, none⟩ = some (.int .i64 (ga + 1)) := by rw [cell_at X12.out]; rfl
   have hQ := ((k12 _ (show w.heap.size + 2 ≠ np.m by omega)).trans ((k11 (w.heap.size + 2) (by omega)).trans (A10.out (w.heap.size + 2) (by omega) (by omega) (show w.heap.size + 2 ≠ np.blk by omega)))).trans ((hB6.out.block _ (by omega)).trans HB2.out)
   have HQ := Lib.hid hQ
   have HPv := Lib.hid (agg2_one ((j : Int) + 1) (ga + 1))
   clear hQ
   have hs12 := F12.out.size
   have M12' := Lib.hid (show MapB w12 mi intK ptrV (N.map (fun n => (n.id, n.blk)) ++ [((j : Int) + 1, xb)]) from (I11.out.of_block (k12 mi (fun e => HNe4.out e.symm))) |> fun h => by
    rw [aput_new (by rw [(HF.out w6 hB6.out).get_none HW.out (by
     cases hx : decide ((byIdP r.ins ((j : Int) + 1)).id = 0)
     ·exfalso
      obtain ⟨a, b⟩ := byIdP_mem (of_decide_eq_false hx)
      exact HFr.out _ a b
     ·exact of_decide_eq_true hx)]; rfl)] at h
    exact h)
   have KK := Lib.hid (show ∀ k, k < w.heap.size → k ≠ np.m → k ≠ np.blk → k ≠ mi → k ≠ mg → w12.heap[k]? = w.heap[k]? from fun k a b c d e => (((k12 k b).trans (k11 k d)).trans (A10.out k (by omega) e c)).trans ((HB.out.trans (hB6.out.mono (by omega))).block k a))
   have G12 := Lib.hid (show ∃ G, MapB w12 mg intK intK G ∧ ∀ id, (aget G id).getD 0 = gensAt (gensUp r.gens ((j : Int) + 1)) id from by
    obtain ⟨G, a, b⟩ := HG10.out
    exact ⟨G, a.of_block ((k12 mg (fun e => HNe5.out e.symm)).trans (k11 mg (fun e => hgm e.symm))), b⟩)
   have P12 := Lib.hid (((k12 np.blk (fun e => HNe6.out e.symm)).trans (k11 np.blk (fun e => HNe1.out e.symm))).trans P10.out)
   have HC12 := Lib.hid (NC10.out w12 (fun k a b => (k12 k (by omega)).trans (k11 k (by omega))))
   have HF12 := Lib.hid (show FsN w12 f mi mg (namedP (addP r ⟨(j : Int) + 1, ga + 1, 3, md, tm, i, tg, [], []⟩) i s ((j : Int) + 1)) (N ++ [⟨(j : Int) + 1, xb, 0, 0, false⟩]) by
    have hlk := linksN_new (x := ⟨(j : Int) + 1, ga + 1, 3, md, tm, i, tg, [], []⟩) HW.out HFr.out HM1.out s
    have := make_fs (nd := ⟨(j : Int) + 1, xb, 0, 0, false⟩) HH.out HW.out (x := ⟨(j : Int) + 1, ga + 1, 3, md, tm, i, tg, [], []⟩) HM1.out HK2.out HN.out HRw.out HFr.out s KK.out (by rw [HM2.out]; exact M12.out) M12'.out G12.out P12.out
     ⟨rfl, by rw [hlk]; exact X12.out, rfl, fun q => absurd (show (3 : Int) = 1 from q) (by decide), fun q => absurd (show (3 : Int) = 2 from q) (by decide)⟩
     (fun k hk => by simp [Nd.foot] at hk; omega)
    rw [HM2.out] at this
    exact this)
   have HNx := Lib.hid (show newIn r (i, g) ⟨3, md, tm, tg⟩ = ⟨(j : Int) + 1, ga + 1, 3, md, tm, i, tg, [], []⟩ by unfold newIn; rw [HId.out, HGa.out])
   go_wp2_with (refine wpList_store_row rfl 37 (.tmp 8) (.tmp 150) rfl w12 (w.heap.size + 2) _ _ _ rfl rfl HQ.out rfl hndI HPv.out ?_; intro w13 hX13 hG13)
   refine end_cell_tmp (p := 8) (u := 9) rfl rfl hX13 hndT rfl hndI rfl rfl ⟨by rw [HId.out, HGa.out]; rfl, ?_⟩
   rw [HNx.out, HId.out]
   have lt12 := HF12.out
   have hx12 := X12.out
   refine ⟨_, lt12.keep (hG13.block _ (heap_lt lt12.head) (by simp; omega)) (hG13.block _ lt12.imap.lt (by simp; omega)) (hG13.block _ (by omega) (by simp; omega)) (fun n hn k hk => ?_), fun k hk => ?_, ?_⟩
   ·have hnn : k < w.heap.size ∨ w6.heap.size ≤ k := by
     rcases List.mem_append.1 hn with hn | hn
     ·exact .inl (HLt.out.2.2.2 n hn k hk)
     ·simp only [List.mem_singleton] at hn
      subst hn
      simp [Nd.foot] at hk
      omega
    have hk12 : k < w12.heap.size := by
     rcases List.mem_append.1 hn with hn | hn
     ·have := HLt.out.2.2.2 n hn k hk; omega
     ·simp only [List.mem_singleton] at hn
      subst hn
      simp [Nd.foot] at hk
      (have := heap_lt hx12; omega)
    exact hG13.block k hk12 (by simp; omega)
   ·unfold fpL at hk ⊢
    simp only [List.mem_cons, List.mem_flatMap, List.mem_append] at hk ⊢
    rcases hk with h1 | h1 | h1 | ⟨n, hn | hn, h1⟩
    ·exact .inl (.inl h1)
    ·exact .inl (.inr (.inl h1))
    ·exact .inl (.inr (.inr (.inl h1)))
    ·exact .inl (.inr (.inr (.inr ⟨n, hn, h1⟩)))
    ·simp only [List.not_mem_nil, or_false] at hn
     subst hn
     simp [Nd.foot] at h1
     exact .inr (by omega)
   ·refine ((Frm.of_below (HB.out.trans (hB6.out.mono (by omega)))).trans F12.out).trans' hG13 (by omega)
  ·obtain ⟨z1, z2⟩ := byIdP_mem hz
   obtain ⟨nz, hnz, hrz⟩ := (HF.out w6 hB6.out).at_ HW.out z1
   have hg := (HF.out w6 hB6.out).get hnz
   rw [hrz.id, z2] at hg
   rw [hg] at hlk
   simp only [Option.map_some, Option.getD_some, ptrV] at hlk
   have HJ2 := Lib.hid (show ∀ k : Nat, k < j + 1 → (byIdP r.ins ((k : Int) + 1)).id ≠ 0 from fun k hk => by
    rcases Nat.lt_or_ge k j with h1 | h1
    ·exact HJ.out k h1
    ·obtain rfl : k = j := by omega
     exact hz)
   have hle := ids_le HW.out HJ2.out
   clear hg hz z1 z2 hnz hrz
   go_wp2
   go_round
   case rel => exact ⟨j + 1, hle, by go_num, HJ2.out⟩
   case measure => simp [intOf]; omega
end Go.Proofs.YtpcjmefchclhhaaGreat

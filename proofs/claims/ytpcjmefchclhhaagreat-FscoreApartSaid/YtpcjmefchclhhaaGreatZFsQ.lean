/- A part of the proof. -/
import Derived.Test.YtpcjmefchclhhaaGreatZFsM
namespace Go.Proofs.YtpcjmefchclhhaaGreat
open Go.RowKit Go.MapKept
theorem infoI : (Tryz.prog.info? 96).map (·.size) = some 8 := by kernel_rfl
theorem infoT : Tryz.prog.underlying 96 = some (.struct (Tryz.prog.fieldsOf 96)) := by kernel_rfl
def sizeN (r : RFs) (x : RIn) : Int := if x.kind = 1 then x.B.length else if x.kind = 2 then manyP r.nms x.id else x.target.size
def infoV (i g k m l s b t : Int) : Value := .agg #[.int .i64 i, .int .i64 g, .int .i64 k, .int .i64 m, .int .i64 l, .int .i64 s, .int .i64 b, .int .i64 t]
def statV (r : RFs) (h : Int × Int) : Value :=
 if liveP r h = true then .tuple #[infoV h.1 h.2 (byIdP r.ins h.1).kind (byIdP r.ins h.1).mode (linksN r (byIdP r.ins h.1)) (sizeN r (byIdP r.ins h.1)) ((byIdP r.ins h.1).On.length : Int) (byIdP r.ins h.1).time, .int .i64 0]
 else .tuple #[infoV 0 0 0 0 0 0 0 0, .int .i64 175]
theorem agg8_one (a b c d e f g h : Int) : ∀ v ∈ (#[.int .i64 a, .int .i64 b, .int .i64 c, .int .i64 d, .int .i64 e, .int .i64 f, .int .i64 g, .int .i64 h] : Array Value).toList, v.oneCell' = true := fun v hv => by
 simp at hv
 rcases hv with rfl | rfl | rfl | rfl | rfl | rfl | rfl | rfl <;> rfl
set_option maxRecDepth 100000 in
set_option maxHeartbeats 8000000 in
theorem stat_any {w : World} {f mi mg K : Nat} {r : RFs} {N : List Nd} (h : FsN w f mi mg r N) (hW : Wf r K) (i g : Int) :
  Calls Tryz.prog 31 #[.pointer (some ⟨f, 0, none⟩), .agg #[.int .i64 i, .int .i64 g]] w fun e w' => e = .returned (statV r (i, g)) ∧ Below w.heap.size w w' := by
 obtain ⟨w2, hw2, hB, hs2, hb0, hb1⟩ := box2 w #[.int .i64 i, .int .i64 g] #[.int .i64 0, .int .i64 0, .int .i64 0, .int .i64 0, .int .i64 0, .int .i64 0, .int .i64 0, .int .i64 0] 37 96
 have t0 : w2.cell? ⟨w.heap.size, 0, none⟩ = some (.int .i64 i) := by rw [cell_at hb0]; rfl
 have t1 : w2.cell? ⟨w.heap.size, 1, none⟩ = some (.int .i64 g) := by rw [cell_at hb0]; rfl
 have h2 := h.below hW hB
 have HW2 := Lib.hid hw2
 have HB := Lib.hid hB
 have HB1 := Lib.hid hb1
 have HB0 := Lib.hid hb0
 cases hl : liveP r (i, g)
 ·rw [show statV r (i, g) = .tuple #[infoV 0 0 0 0 0 0 0 0, .int .i64 175] by unfold statV; rw [hl]; rfl]
  have HFd := Lib.hid (find_no h2 hW i g hl)
  have HPv := Lib.hid (agg8_one 0 0 0 0 0 0 0 0)
  unfold infoV
  clear hw2 hB hb0 hb1 h h2 hW hl
  go_enter Tryz.func31, Tryz.ntmps31
  go_wp2_with fail
  rw [HW2.out]
  go_wp2_with (first
   | (go_at_call 59; (with_reducible refine HFd.out.mono ?_); rintro e w3 ⟨rfl, hB3⟩; have hX3 := (hB3.block _ (by omega)).trans HB1.out; have hs3 := hB3.size; replace hB3 := Lib.hid hB3; replace hX3 := Lib.hid hX3)
   | (refine wpList_store_row rfl 96 (.tmp 4) (.tmp 20) rfl w3 (w.heap.size + 1) _ _ _ rfl rfl hX3.out rfl infoI HPv.out ?_; intro w5 hX5 hG5))
  have hb5 := Below.grownBy (HB.out.trans (hB3.out.mono (by omega))) hG5 (by omega) (fun k hk => by injection hk with hk; omega)
  exact end_cell_tmp (p := 4) (u := 5) rfl rfl hX5 infoT rfl infoI rfl rfl ⟨rfl, hb5⟩
 ·obtain ⟨m1, m2, m3⟩ := live_mem hl
  obtain ⟨n, hn, hr⟩ := h2.at_ hW m1
  have HFd := Lib.hid (find_yes h2 hW i g hl hn (hr.id.trans m2))
  unfold ptrV at HFd
  have hxk := hW.kind _ m1
  rw [show statV r (i, g) = .tuple #[infoV i g (byIdP r.ins i).kind (byIdP r.ins i).mode (linksN r (byIdP r.ins i)) (sizeN r (byIdP r.ins i)) ((byIdP r.ins i).On.length : Int) (byIdP r.ins i).time, .int .i64 0] by unfold statV; rw [if_pos hl]]
  have HX := Lib.hid (show ∀ w3, Below w2.heap.size w2 w3 → NodeR w3 r (byIdP r.ins i) n from fun w3 hb => hr.below hxk hb)
  have HFi := Lib.hid (hW.file _ m1)
  have HXi := Lib.hid m2
  generalize byIdP r.ins i = x at *
  generalize hlk : linksN r x = lk at *
  have HLk := Lib.hid hlk
  clear hlk
  unfold infoV
  clear hw2 hB hb0 hb1 h h2 hW hl m1 m2 m3 hn hr
  have hkk : x.kind = 1 ∨ x.kind = 2 ∨ x.kind = 3 := hxk
  rcases hkk with hk | hk | hk
  ·have hta : ∀ w, (Instr.typeAssert (holdsV x n) 20 126 true).run Tryz.prog w = .ok (.tuple #[.pointer (some ⟨n.b, 0, none⟩), .bool true]) w := fun w => by rw [ta_sht, if_pos hk]; rfl
   have hsz : sizeN r x = x.B.length := by unfold sizeN; rw [if_pos hk]
   rw [hsz, hk]
   go_enter Tryz.func31, Tryz.ntmps31
   go_wp2_with fail
   rw [HW2.out]
   go_upto_region 4 with (go_at_call 59; (with_reducible refine HFd.out.mono ?_); rintro e w3 ⟨rfl, hB3⟩; have hX3 := (hB3.block _ (by omega)).trans HB1.out; have hs3 := hB3.size; obtain ⟨-, -, x2, x3, x4, x5⟩ := (HX.out w3 hB3).cells; have hY3 := (hB3.block _ (by omega)).trans HB0.out; have y0 : w3.cell? ⟨w.heap.size, 0, none⟩ = _ := cell_at hY3 0; have y1 : w3.cell? ⟨w.heap.size, 1, none⟩ = _ := cell_at hY3 1; clear hY3; replace hB3 := Lib.hid hB3; replace hX3 := Lib.hid hX3)
   rw [HLk.out] at x4
   go_region_held3 (fun w' => w'.cell? ⟨w.heap.size, 0, none⟩ = some (.int .i64 i) ∧ w'.cell? ⟨w.heap.size, 1, none⟩ = some (.int .i64 g) ∧ w'.cell? ⟨n.blk, 2, none⟩ = some (.int .i64 x.mode) ∧ w'.cell? ⟨n.blk, 3, none⟩ = some (.int .i64 x.time) ∧ w'.cell? ⟨n.blk, 4, none⟩ = some (.int .i64 (lk : Int)) ∧ w'.cell? ⟨n.blk, 5, none⟩ = some (holdsV x n))
    (go_keep)
    (fail)
   go_upto_region 5 with fail
   clear x2 x3 x4 x5 y0 y1
   obtain ⟨w4, hw4⟩ : ∃ w4, (w3.alloc (.cells #[.int .i64 i, .int .i64 g, .int .i64 0, .int .i64 x.mode, .int .i64 (lk : Int), .int .i64 0, .int .i64 0, .int .i64 x.time] 96)).drew = w4 := ⟨_, rfl⟩
   rw [hw4]
   have HX4 := Lib.hid ((show w4.heap[w.heap.size + 1]? = w3.heap[w.heap.size + 1]? from by rw [← hw4]; exact Below.heap_alloc _ _ _ (by omega)).trans hX3.out)
   have hN4 : w4.heap[w3.heap.size]? = some (.cells #[.int .i64 i, .int .i64 g, .int .i64 0, .int .i64 x.mode, .int .i64 (lk : Int), .int .i64 0, .int .i64 0, .int .i64 x.time] 96 (0, 0)) := by rw [← hw4]; exact heap_alloc_new _ _
   have HB4 := Lib.hid (show Below w2.heap.size w2 w4 from by rw [← hw4]; exact (hB3.out.alloc hs3 _).drew)
   clear hw4
   have d0 := cell_at hN4 0
   have d1 := cell_at hN4 1
   have d2 := cell_at hN4 2
   have d3 := cell_at hN4 3
   have d4 := cell_at hN4 4
   have d5 := cell_at hN4 5
   have d6 := cell_at hN4 6
   have d7 := cell_at hN4 7
   simp at d0 d1 d2 d3 d4 d5 d6 d7
   have df : ∀ k, w4.frozen? ⟨w3.heap.size, k, none⟩ = false := fun k => by simp [World.frozen?, hN4]
   have x5 := (HX.out _ HB4.out).cells.2.2.2.2.2
   obtain ⟨size, bl, hR, hS⟩ := (HX.out _ HB4.out).file hk
   have HSz := Lib.hid (size_any hR)
   have HBl := Lib.hid (blocks_any hR)
   rw [← same_blocks hS] at HBl
   rw [← hS.len] at HSz
   clear hR hS
   go_upto_region 15 with (first
    | (go_at_call 63; (with_reducible refine HSz.out.mono ?_); rintro e w5 ⟨rfl, rfl⟩)
    | (go_at_call 64; (with_reducible refine HBl.out.mono ?_); rintro e w5 ⟨rfl, rfl⟩))
   obtain ⟨w5, hw5⟩ : ∃ w5, (((w4.setCell ⟨w3.heap.size, 2, none⟩ (.int .i64 1)).setCell ⟨w3.heap.size, 5, none⟩ (.int .i64 (x.B.length : Int))).setCell ⟨w3.heap.size, 6, none⟩ (.int .i64 (x.On.length : Int))) = w5 := ⟨_, rfl⟩
   rw [hw5]
   have hX5 := (show w5.heap[w.heap.size + 1]? = w4.heap[w.heap.size + 1]? from by rw [← hw5]; simp only [setCell_far _ _ _ _ _ (show w.heap.size + 1 ≠ w3.heap.size by omega)]).trans HX4.out
   have hN5 : w5.heap[w3.heap.size]? = some (.cells #[.int .i64 i, .int .i64 g, .int .i64 1, .int .i64 x.mode, .int .i64 (lk : Int), .int .i64 (x.B.length : Int), .int .i64 (x.On.length : Int), .int .i64 x.time] 96 (0, 0)) := by
    rw [← hw5]
    exact (heap_setCell_same _ _ 6 _ _ _ (heap_setCell_same _ _ 5 _ _ _ (heap_setCell_same _ _ 2 _ _ _ hN4)))
   have HB5 := Lib.hid (show Below w2.heap.size w2 w5 from by rw [← hw5]; exact ((((((HB4.out).setCell (by omega) _)).setCell (by omega) _)).setCell (by omega) _))
   clear hw5 d0 d1 d2 d3 d4 d5 d6 d7 df hN4
   have d0 := cell_at hN5 0
   have d1 := cell_at hN5 1
   have d2 := cell_at hN5 2
   have d3 := cell_at hN5 3
   have d4 := cell_at hN5 4
   have d5 := cell_at hN5 5
   have d6 := cell_at hN5 6
   have d7 := cell_at hN5 7
   simp at d0 d1 d2 d3 d4 d5 d6 d7
   clear hN5
   have HX5 := Lib.hid hX5
   clear hX5
   have HPv := Lib.hid (agg8_one i g 1 x.mode lk (x.B.length : Int) (x.On.length : Int) x.time)
   go_wp2_with (refine wpList_store_row rfl 96 (.tmp 4) (.tmp 67) rfl _ (w.heap.size + 1) _ _ _ rfl rfl HX5.out rfl infoI HPv.out ?_; intro w6 hX6 hG6)
   have hb6 := Below.grownBy (HB.out.trans (HB5.out.mono (by omega))) hG6 (Nat.le_trans (by omega) HB5.out.size) (fun k hk => by injection hk with hk; omega)
   exact end_cell_tmp (p := 4) (u := 5) rfl rfl hX6 infoT rfl infoI rfl rfl ⟨rfl, hb6⟩
  ·have hta : ∀ w, (Instr.typeAssert (holdsV x n) 20 126 true).run Tryz.prog w = .ok (.tuple #[.pointer none, .bool false]) w := fun w => by rw [ta_sht, if_neg (by omega)]
   have htd : ∀ w, (Instr.typeAssert (holdsV x n) 20 68 true).run Tryz.prog w = .ok (.tuple #[.pointer (some ⟨n.b, 0, none⟩), .bool true]) w := fun w => by rw [ta_dir, if_pos hk]; rfl
   have hsz : sizeN r x = manyP r.nms x.id := by unfold sizeN; rw [if_neg (by omega), if_pos hk]
   have hon : x.On = [] := (HFi.out (by omega)).2
   rw [hsz, hon, hk]
   go_enter Tryz.func31, Tryz.ntmps31
   go_wp2_with fail
   rw [HW2.out]
   go_upto_region 4 with (go_at_call 59; (with_reducible refine HFd.out.mono ?_); rintro e w3 ⟨rfl, hB3⟩; have hX3 := (hB3.block _ (by omega)).trans HB1.out; have hs3 := hB3.size; obtain ⟨-, -, x2, x3, x4, x5⟩ := (HX.out w3 hB3).cells; have hY3 := (hB3.block _ (by omega)).trans HB0.out; have y0 : w3.cell? ⟨w.heap.size, 0, none⟩ = _ := cell_at hY3 0; have y1 : w3.cell? ⟨w.heap.size, 1, none⟩ = _ := cell_at hY3 1; clear hY3; replace hB3 := Lib.hid hB3; replace hX3 := Lib.hid hX3)
   rw [HLk.out] at x4
   go_region_held3 (fun w' => w'.cell? ⟨w.heap.size, 0, none⟩ = some (.int .i64 i) ∧ w'.cell? ⟨w.heap.size, 1, none⟩ = some (.int .i64 g) ∧ w'.cell? ⟨n.blk, 2, none⟩ = some (.int .i64 x.mode) ∧ w'.cell? ⟨n.blk, 3, none⟩ = some (.int .i64 x.time) ∧ w'.cell? ⟨n.blk, 4, none⟩ = some (.int .i64 (lk : Int)) ∧ w'.cell? ⟨n.blk, 5, none⟩ = some (holdsV x n))
    (go_keep)
    (fail)
   go_upto_region 5 with fail
   clear x2 x3 x4 x5 y0 y1
   obtain ⟨w4, hw4⟩ : ∃ w4, (w3.alloc (.cells #[.int .i64 i, .int .i64 g, .int .i64 0, .int .i64 x.mode, .int .i64 (lk : Int), .int .i64 0, .int .i64 0, .int .i64 x.time] 96)).drew = w4 := ⟨_, rfl⟩
   rw [hw4]
   have HX4 := Lib.hid ((show w4.heap[w.heap.size + 1]? = w3.heap[w.heap.size + 1]? from by rw [← hw4]; exact Below.heap_alloc _ _ _ (by omega)).trans hX3.out)
   have hN4 : w4.heap[w3.heap.size]? = some (.cells #[.int .i64 i, .int .i64 g, .int .i64 0, .int .i64 x.mode, .int .i64 (lk : Int), .int .i64 0, .int .i64 0, .int .i64 x.time] 96 (0, 0)) := by rw [← hw4]; exact heap_alloc_new _ _
   have HB4 := Lib.hid (show Below w2.heap.size w2 w4 from by rw [← hw4]; exact (hB3.out.alloc hs3 _).drew)
   clear hw4
   have d0 := cell_at hN4 0
   have d1 := cell_at hN4 1
   have d2 := cell_at hN4 2
   have d3 := cell_at hN4 3
   have d4 := cell_at hN4 4
   have d5 := cell_at hN4 5
   have d6 := cell_at hN4 6
   have d7 := cell_at hN4 7
   simp at d0 d1 d2 d3 d4 d5 d6 d7
   have df : ∀ k, w4.frozen? ⟨w3.heap.size, k, none⟩ = false := fun k => by simp [World.frozen?, hN4]
   have x5 := (HX.out _ HB4.out).cells.2.2.2.2.2
   have hr4 := HX.out _ HB4.out
   obtain ⟨g1, g2⟩ := hr4.dir hk
   have c5 := cell_at g1 0
   have c6 : (Builtin.len_ #[69] 3 #[.map (some n.m)]).run Tryz.prog w4 = .ok (.int .i64 (manyP r.nms x.id : Int)) w4 := by
    rw [← namesP_len]
    exact run_len_map Tryz.underlying69 g2
   have hb5 : c5 = c5 := rfl
   clear hr4 g1 g2 hb5
   go_upto_region 15 with fail
   obtain ⟨w5, hw5⟩ : ∃ w5, ((w4.setCell ⟨w3.heap.size, 2, none⟩ (.int .i64 2)).setCell ⟨w3.heap.size, 5, none⟩ (.int .i64 (manyP r.nms x.id : Int))) = w5 := ⟨_, rfl⟩
   rw [hw5]
   have hX5 := (show w5.heap[w.heap.size + 1]? = w4.heap[w.heap.size + 1]? from by rw [← hw5]; simp only [setCell_far _ _ _ _ _ (show w.heap.size + 1 ≠ w3.heap.size by omega)]).trans HX4.out
   have hN5 : w5.heap[w3.heap.size]? = some (.cells #[.int .i64 i, .int .i64 g, .int .i64 2, .int .i64 x.mode, .int .i64 (lk : Int), .int .i64 (manyP r.nms x.id : Int), .int .i64 0, .int .i64 x.time] 96 (0, 0)) := by
    rw [← hw5]
    exact (heap_setCell_same _ _ 5 _ _ _ (heap_setCell_same _ _ 2 _ _ _ hN4))
   have HB5 := Lib.hid (show Below w2.heap.size w2 w5 from by rw [← hw5]; exact ((((HB4.out).setCell (by omega) _)).setCell (by omega) _))
   clear hw5 d0 d1 d2 d3 d4 d5 d6 d7 df hN4
   have d0 := cell_at hN5 0
   have d1 := cell_at hN5 1
   have d2 := cell_at hN5 2
   have d3 := cell_at hN5 3
   have d4 := cell_at hN5 4
   have d5 := cell_at hN5 5
   have d6 := cell_at hN5 6
   have d7 := cell_at hN5 7
   simp at d0 d1 d2 d3 d4 d5 d6 d7
   clear hN5
   have HX5 := Lib.hid hX5
   clear hX5
   have HPv := Lib.hid (agg8_one i g 2 x.mode lk (manyP r.nms x.id : Int) 0 x.time)
   go_wp2_with (refine wpList_store_row rfl 96 (.tmp 4) (.tmp 67) rfl _ (w.heap.size + 1) _ _ _ rfl rfl HX5.out rfl infoI HPv.out ?_; intro w6 hX6 hG6)
   have hb6 := Below.grownBy (HB.out.trans (HB5.out.mono (by omega))) hG6 (Nat.le_trans (by omega) HB5.out.size) (fun k hk => by injection hk with hk; omega)
   exact end_cell_tmp (p := 4) (u := 5) rfl rfl hX6 infoT rfl infoI rfl rfl ⟨rfl, hb6⟩
  ·have hta : ∀ w, (Instr.typeAssert (holdsV x n) 20 126 true).run Tryz.prog w = .ok (.tuple #[.pointer none, .bool false]) w := fun w => by rw [ta_sht, if_neg (by omega)]
   have htd : ∀ w, (Instr.typeAssert (holdsV x n) 20 68 true).run Tryz.prog w = .ok (.tuple #[.pointer none, .bool false]) w := fun w => by rw [ta_dir, if_neg (by omega)]
   have htt : ∀ w, (Instr.typeAssert (holdsV x n) 20 9 true).run Tryz.prog w = .ok (.tuple #[.string x.target, .bool true]) w := fun w => by rw [ta_str, if_pos (by omega)]
   have hsz : sizeN r x = x.target.size := by unfold sizeN; rw [if_neg (by omega), if_neg (by omega)]
   have hon : x.On = [] := (HFi.out (by omega)).2
   rw [hsz, hon, hk]
   go_enter Tryz.func31, Tryz.ntmps31
   go_wp2_with fail
   rw [HW2.out]
   go_upto_region 4 with (go_at_call 59; (with_reducible refine HFd.out.mono ?_); rintro e w3 ⟨rfl, hB3⟩; have hX3 := (hB3.block _ (by omega)).trans HB1.out; have hs3 := hB3.size; obtain ⟨-, -, x2, x3, x4, x5⟩ := (HX.out w3 hB3).cells; have hY3 := (hB3.block _ (by omega)).trans HB0.out; have y0 : w3.cell? ⟨w.heap.size, 0, none⟩ = _ := cell_at hY3 0; have y1 : w3.cell? ⟨w.heap.size, 1, none⟩ = _ := cell_at hY3 1; clear hY3; replace hB3 := Lib.hid hB3; replace hX3 := Lib.hid hX3)
   rw [HLk.out] at x4
   go_region_held3 (fun w' => w'.cell? ⟨w.heap.size, 0, none⟩ = some (.int .i64 i) ∧ w'.cell? ⟨w.heap.size, 1, none⟩ = some (.int .i64 g) ∧ w'.cell? ⟨n.blk, 2, none⟩ = some (.int .i64 x.mode) ∧ w'.cell? ⟨n.blk, 3, none⟩ = some (.int .i64 x.time) ∧ w'.cell? ⟨n.blk, 4, none⟩ = some (.int .i64 (lk : Int)) ∧ w'.cell? ⟨n.blk, 5, none⟩ = some (holdsV x n))
    (go_keep)
    (fail)
   go_upto_region 5 with fail
   clear x2 x3 x4 x5 y0 y1
   obtain ⟨w4, hw4⟩ : ∃ w4, (w3.alloc (.cells #[.int .i64 i, .int .i64 g, .int .i64 0, .int .i64 x.mode, .int .i64 (lk : Int), .int .i64 0, .int .i64 0, .int .i64 x.time] 96)).drew = w4 := ⟨_, rfl⟩
   rw [hw4]
   have HX4 := Lib.hid ((show w4.heap[w.heap.size + 1]? = w3.heap[w.heap.size + 1]? from by rw [← hw4]; exact Below.heap_alloc _ _ _ (by omega)).trans hX3.out)
   have hN4 : w4.heap[w3.heap.size]? = some (.cells #[.int .i64 i, .int .i64 g, .int .i64 0, .int .i64 x.mode, .int .i64 (lk : Int), .int .i64 0, .int .i64 0, .int .i64 x.time] 96 (0, 0)) := by rw [← hw4]; exact heap_alloc_new _ _
   have HB4 := Lib.hid (show Below w2.heap.size w2 w4 from by rw [← hw4]; exact (hB3.out.alloc hs3 _).drew)
   clear hw4
   have d0 := cell_at hN4 0
   have d1 := cell_at hN4 1
   have d2 := cell_at hN4 2
   have d3 := cell_at hN4 3
   have d4 := cell_at hN4 4
   have d5 := cell_at hN4 5
   have d6 := cell_at hN4 6
   have d7 := cell_at hN4 7
   simp at d0 d1 d2 d3 d4 d5 d6 d7
   have df : ∀ k, w4.frozen? ⟨w3.heap.size, k, none⟩ = false := fun k => by simp [World.frozen?, hN4]
   have x5 := (HX.out _ HB4.out).cells.2.2.2.2.2
   go_upto_region 15 with fail
   obtain ⟨w5, hw5⟩ : ∃ w5, ((w4.setCell ⟨w3.heap.size, 2, none⟩ (.int .i64 3)).setCell ⟨w3.heap.size, 5, none⟩ (.int .i64 (x.target.size : Int))) = w5 := ⟨_, rfl⟩
   rw [hw5]
   have hX5 := (show w5.heap[w.heap.size + 1]? = w4.heap[w.heap.size + 1]? from by rw [← hw5]; simp only [setCell_far _ _ _ _ _ (show w.heap.size + 1 ≠ w3.heap.size by omega)]).trans HX4.out
   have hN5 : w5.heap[w3.heap.size]? = some (.cells #[.int .i64 i, .int .i64 g, .int .i64 3, .int .i64 x.mode, .int .i64 (lk : Int), .int .i64 (x.target.size : Int), .int .i64 0, .int .i64 x.time] 96 (0, 0)) := by
    rw [← hw5]
    exact (heap_setCell_same _ _ 5 _ _ _ (heap_setCell_same _ _ 2 _ _ _ hN4))
   have HB5 := Lib.hid (show Below w2.heap.size w2 w5 from by rw [← hw5]; exact ((((HB4.out).setCell (by omega) _)).setCell (by omega) _))
   clear hw5 d0 d1 d2 d3 d4 d5 d6 d7 df hN4
   have d0 := cell_at hN5 0
   have d1 := cell_at hN5 1
   have d2 := cell_at hN5 2
   have d3 := cell_at hN5 3
   have d4 := cell_at hN5 4
   have d5 := cell_at hN5 5
   have d6 := cell_at hN5 6
   have d7 := cell_at hN5 7
   simp at d0 d1 d2 d3 d4 d5 d6 d7
   clear hN5
   have HX5 := Lib.hid hX5
   clear hX5
   have HPv := Lib.hid (agg8_one i g 3 x.mode lk (x.target.size : Int) 0 x.time)
   go_wp2_with (refine wpList_store_row rfl 96 (.tmp 4) (.tmp 67) rfl _ (w.heap.size + 1) _ _ _ rfl rfl HX5.out rfl infoI HPv.out ?_; intro w6 hX6 hG6)
   have hb6 := Below.grownBy (HB.out.trans (HB5.out.mono (by omega))) hG6 (Nat.le_trans (by omega) HB5.out.size) (fun k hk => by injection hk with hk; omega)
   exact end_cell_tmp (p := 4) (u := 5) rfl rfl hX6 infoT rfl infoI rfl rfl ⟨rfl, hb6⟩
end Go.Proofs.YtpcjmefchclhhaaGreat

/- SheetOrder: of two writes that do not meet it is not seen which one was first: for every input the law returns true. No condition. -/
import Derived.Test.YtpcjmefchclhhaaShGb
import Derived.Test.YtpcjmefchclhhaaShG
import Derived.Deep.DeepCutAuto
namespace Go.Proofs.Ytpcjmefchclhhaa
open Go.RowKit Go.MapKept Go.ChangeShapes Go.WideShapes Go.ChangeAt

set_option maxRecDepth 100000 in
set_option maxHeartbeats 8000000 in
theorem sheetOrder_main (l : List (OpR × Option Addr × Nat)) (A0 : Option Addr) (c0 : Nat) (x y : Nat) (A2 A3 : Option Addr) (l2 l3 : List UInt8) (c2 c3 : Nat) (W : World) (hm0 : l.length ≤ maxLen) (rd0 : Rd W W.heap.size 4 opC A0 l) (hq0 : ∀ y ∈ l, opQ W y)
    (hf : fewB l = true) (h2 : l2.length ≤ 2000) (h2c : l2.length ≤ c2) (rd2 : Rd W W.heap.size 1 byteC A2 l2) (h3 : l3.length ≤ 2000) (h3c : l3.length ≤ c3) (rd3 : Rd W W.heap.size 1 byteC A3 l3) (hx : x ≤ 5000) (hy : y ≤ 5000)
    (hne : y + l3.length ≤ x ∨ x < y + l3.length ∧ x + l2.length ≤ y) :
    Calls Try.prog 8 #[.slice A0 l.length c0, .agg #[.int .i64 x, .int .i64 y], .agg #[.slice A2 l2.length c2, .slice A3 l3.length c3]] W fun e W' => e = .returned (.bool true) ∧ Below W.heap.size W W' := by
  obtain ⟨n2, hn2⟩ : ∃ n2, l2.length = n2 := ⟨_, rfl⟩
  obtain ⟨n3, hn3⟩ : ∃ n3, l3.length = n3 := ⟨_, rfl⟩
  have HN2 := Lib.hid hn2
  have HN3 := Lib.hid hn3
  have hCB := fun (B : List UInt8) => rwB_comm B l2 l3 (x := x) (y := y) (by omega) (by omega) (by omega)
  have hCO := fun (On : List Nat) (hr : On.Pairwise (· < ·)) => rwOn_comm hr (x := x) (y := y) (n := l2.length) (k := l3.length) (by omega) (by omega)
  rw [hn2] at h2 h2c hne ⊢
  rw [hn3] at h3 h3c hne ⊢
  clear hn2 hn3
  obtain ⟨W2, hw2⟩ : ∃ W2, (W.alloc (.cells #[.int .i64 x, .int .i64 y] 46)).alloc (.cells #[.slice A2 n2 c2, .slice A3 n3 c3] 47) = W2 := ⟨_, rfl⟩
  have hB2 : Below W.heap.size W W2 := by rw [← hw2]; exact ((Below.refl _ _).alloc (Nat.le_refl _) _).alloc (by simp) _
  have hs2 : W2.heap.size = W.heap.size + 2 := by rw [← hw2]; simp
  have hp0 : W2.heap[W.heap.size]? = some (.cells #[.int .i64 x, .int .i64 y] 46 (0, 0)) := by rw [← hw2]; exact (Below.heap_alloc _ _ _ (by simp)).trans (heap_alloc_new _ _)
  have hp1 : W2.heap[W.heap.size + 1]? = some (.cells #[.slice A2 n2 c2, .slice A3 n3 c3] 47 (0, 0)) := by rw [← hw2]; have := heap_alloc_new (W.alloc (.cells #[.int .i64 x, .int .i64 y] 46)) (.cells #[.slice A2 n2 c2, .slice A3 n3 c3] 47); simpa using this
  have HK := Lib.hid (show ∀ w', Below W2.heap.size W2 w' → w'.cell? ⟨W.heap.size, 0, none⟩ = some (.int .i64 x) ∧ w'.cell? ⟨W.heap.size, 1, none⟩ = some (.int .i64 y) ∧ w'.cell? ⟨W.heap.size + 1, 0, none⟩ = some (.slice A2 n2 c2) ∧ w'.cell? ⟨W.heap.size + 1, 1, none⟩ = some (.slice A3 n3 c3) from fun w' hb => by
    have e0 := (hb.block W.heap.size (by omega)).trans hp0
    have e1 := (hb.block (W.heap.size + 1) (by omega)).trans hp1
    exact ⟨cell_at e0 0, cell_at e0 1, cell_at e1 0, cell_at e1 1⟩)
  have HD2 := Lib.hid (show ∀ w', Below W2.heap.size W2 w' → Rd w' w'.heap.size 1 byteC A2 l2 from fun w' hb => ((rd2.below hB2).below (hb.mono (by omega))).more (Nat.le_trans hB2.size hb.size))
  have HD3 := Lib.hid (show ∀ w', Below W2.heap.size W2 w' → Rd w' w'.heap.size 1 byteC A3 l3 from fun w' hb => ((rd3.below hB2).below (hb.mono (by omega))).more (Nat.le_trans hB2.size hb.size))
  have HWx := Lib.hid (show ∀ (w : World) (b m size : Nat) (bl : List (Nat × List UInt8)), Raw w b m size bl → Below W2.heap.size W2 w → Calls Try.prog 19 #[.pointer (some ⟨b, 0, none⟩), .int .i64 x, .slice A2 n2 c2] w fun e w' => e = .returned (.bool (fitsB x n2)) ∧ Raw w' b m (wrSize size x l2.length) (wrBl bl x l2) ∧ Frm [b, m] w w' from fun w b m size bl h hb => by
    have := write_any h x A2 c2 l2 (by rw [HN2.out]; unfold maxLen; omega) (by rw [HN2.out]; exact h2c) (HD2.out w hb)
    rw [HN2.out] at this ⊢
    exact this)
  have HWy := Lib.hid (show ∀ (w : World) (b m size : Nat) (bl : List (Nat × List UInt8)), Raw w b m size bl → Below W2.heap.size W2 w → Calls Try.prog 19 #[.pointer (some ⟨b, 0, none⟩), .int .i64 y, .slice A3 n3 c3] w fun e w' => e = .returned (.bool (fitsB y n3)) ∧ Raw w' b m (wrSize size y l3.length) (wrBl bl y l3) ∧ Frm [b, m] w w' from fun w b m size bl h hb => by
    have := write_any h y A3 c3 l3 (by rw [HN3.out]; unfold maxLen; omega) (by rw [HN3.out]; exact h3c) (HD3.out w hb)
    rw [HN3.out] at this ⊢
    exact this)
  have HVx := Lib.hid (show ∀ (w : World) (v : Value) (B : List UInt8) (On : List Nat), RSh w v B On → Below W2.heap.size W2 w → (rwOn On x l2.length).length ≤ 65536 → Calls Try.prog 28 #[v, .int .i64 x, .slice A2 n2 c2] w fun e w' => ∃ v', e = .returned (.tuple #[v', .bool (fitsB x n2)]) ∧ RSh w' v' (rwB B x l2) (rwOn On x l2.length) ∧ Below w.heap.size w w' from fun w v B On h hb ho => by
    have := rwrite_any h x l2 A2 c2 (by rw [HN2.out]; unfold maxLen; omega) (by rw [HN2.out]; exact h2c) (HD2.out w hb) ho
    rw [HN2.out] at this ⊢
    exact this)
  have HVy := Lib.hid (show ∀ (w : World) (v : Value) (B : List UInt8) (On : List Nat), RSh w v B On → Below W2.heap.size W2 w → (rwOn On y l3.length).length ≤ 65536 → Calls Try.prog 28 #[v, .int .i64 y, .slice A3 n3 c3] w fun e w' => ∃ v', e = .returned (.tuple #[v', .bool (fitsB y n3)]) ∧ RSh w' v' (rwB B y l3) (rwOn On y l3.length) ∧ Below w.heap.size w w' from fun w v B On h hb ho => by
    have := rwrite_any h y l3 A3 c3 (by rw [HN3.out]; unfold maxLen; omega) (by rw [HN3.out]; exact h3c) (HD3.out w hb) ho
    rw [HN3.out] at this ⊢
    exact this)
  have HW2 := Lib.hid hw2
  have HB2 := Lib.hid hB2
  have HN := Lib.hid (new_any W2)
  have HA := Lib.hid alive_any
  have HFw := Lib.hid (show ∀ w, Below W2.heap.size W2 w → Calls Try.prog 14 #[.slice A0 l.length c0] w fun e w' => e = .returned (.bool true) ∧ Below W2.heap.size W2 w' ∧ Below w.heap.size w w' from fun w hb =>
    (few_any l A0 c0 w hm0 (((rd0.below hB2).below (hb.mono (by omega))).more (Nat.le_trans hB2.size hb.size)) (fun y hy => (hq0 y hy).1)).mono fun e w' ⟨h1, h2⟩ => ⟨by rw [h1, hf], hb.trans (h2.mono hb.size), h2⟩)
  have HP := Lib.hid (fun (w1 w2 : World) (b m : Nat) (hb : W2.heap.size ≤ b) (hm : W2.heap.size ≤ m) (hR : Raw w1 b m 0 []) (hB : Below W2.heap.size W2 w1) (h2 : Below w1.heap.size w1 w2) => play_new (c0 := c0) (W := W2) hm0 ((rd0.below hB2).more hB2.size) (fun y hy => by obtain ⟨q1, q2, q3, q4⟩ := hq0 y hy; exact ⟨q1, q2, (q3.below hB2).more hB2.size, q4⟩) hb hm hR hB h2)
  have HCB := Lib.hid hCB
  have HCO := Lib.hid hCO
  clear rd0 hq0 hw2 hp0 hp1 hB2 rd2 rd3 hf hCB hCO hm0
  generalize l.length = n at *
  rcases hne with h1 | ⟨h1, h1'⟩
  all_goals
    go_enter Try.func8, Try.ntmps8
    go_wp2_with fail
    rw [HW2.out]
    go_upto_region 7 with (first
      | (go_at_call 13; (with_reducible refine HN.out.mono ?_); rintro e w1 ⟨b, m, rfl, hb, hm, hR, hB⟩; obtain ⟨x0, x1, x2, x3⟩ := HK.out _ hB; replace hB := Lib.hid hB; replace hR := Lib.hid hR)
      | (go_at_call 14; (with_reducible refine (HFw.out _ hB.out).mono ?_); rintro e w2 ⟨rfl, hB2, hB12⟩; obtain ⟨y0, y1, y2, y3⟩ := HK.out _ hB2; replace hB2 := Lib.hid hB2; replace hB12 := Lib.hid hB12)
      | (go_at_call 16; (with_reducible refine (HP.out w1 _ b m hb hm hR.out hB.out hB12.out).mono ?_); rintro e w4 ⟨A, c, A', c', size', bl', B', On', rfl, hR4, hV4, hS4, hB4⟩; replace hR4 := Lib.hid hR4; replace hV4 := Lib.hid hV4; replace hS4 := Lib.hid hS4; replace hB4 := Lib.hid hB4))
    obtain ⟨w4a, hw4a⟩ : ∃ w4a, w4.alloc (.cells #[.slice A B'.length c, .slice A' On'.length c'] 30) = w4a := ⟨_, rfl⟩
    rw [hw4a]
    have hB4a : Below w4.heap.size w4 w4a := by rw [← hw4a]; exact (Below.refl _ _).alloc (Nat.le_refl _) _
    have X4 := Lib.hid (show w4a.heap[w4.heap.size]? = some (.cells #[.slice A B'.length c, .slice A' On'.length c'] 30 (0, 0)) by rw [← hw4a]; exact heap_alloc_new _ _)
    have hs4a : w4.heap.size + 1 ≤ w4a.heap.size := by rw [← hw4a]; simp
    have bB4 := Lib.hid (hB4.out.trans (hB4a.mono hB4.out.size))
    have R4 := Lib.hid (hR4.out.below hB4a)
    have V4 := Lib.hid (hV4.out.below hB4a)
    have hbl := hR4.out.lt
    have hml := hR4.out.map.lt
    have HCl := Lib.hid (clone_any R4.out)
    have hs4 := hB4.out.size
    obtain ⟨z0, z1, z2, z3⟩ := HK.out _ bB4.out
    clear hw4a hB4a hR4 hV4 hB4
    go_upto_region 14 with (first
      | (go_at_call 24; (with_reducible refine HCl.out.mono ?_); rintro e w5 ⟨b2, m2, rfl, hb2, hm2, hU5, hB5⟩; have bB5 := bB4.out.trans (hB5.mono bB4.out.size); obtain ⟨a0, a1, a2, a3⟩ := HK.out _ bB5; have hs5 := hB5.size; have R5 := R4.out.below hB5; have V5 := V4.out.below hB5; have X5 := (hB5.block _ (by omega)).trans X4.out; have hbl5 := hU5.lt; have hml5 := hU5.map.lt; replace bB5 := Lib.hid bB5; replace R5 := Lib.hid R5; replace V5 := Lib.hid V5; replace X5 := Lib.hid X5; replace hU5 := Lib.hid hU5; clear hB5)
      | (go_at_call 19; (with_reducible refine (HWx.out w5 b m _ _ R5.out bB5.out).mono ?_); rintro e w6 ⟨rfl, R6, F6⟩; have bB6 := F6.below bB5.out bB5.out.size (by simp; omega); obtain ⟨b0, b1, b2', b3⟩ := HK.out _ bB6; have hs6 := F6.size; have V6 := V5.out.frm R5.out F6; have X6 := (F6.block _ (by omega) (by simp; omega)).trans X5.out; have U6 := hU5.out.frm F6 (by simp; omega) (by simp; omega); replace bB6 := Lib.hid bB6; replace R6 := Lib.hid R6; replace V6 := Lib.hid V6; replace X6 := Lib.hid X6; replace U6 := Lib.hid U6; clear F6)
      | (go_at_call 19; (with_reducible refine (HWy.out w6 b m _ _ R6.out bB6.out).mono ?_); rintro e w7 ⟨rfl, R7, F7⟩; have bB7 := F7.below bB6.out bB6.out.size (by simp; omega); obtain ⟨d0, d1, d2, d3⟩ := HK.out _ bB7; have hs7 := F7.size; have V7 := V6.out.frm R6.out F7; have X7 := (F7.block _ (by omega) (by simp; omega)).trans X6.out; have U7 := U6.out.frm F7 (by simp; omega) (by simp; omega); replace bB7 := Lib.hid bB7; replace R7 := Lib.hid R7; replace V7 := Lib.hid V7; replace X7 := Lib.hid X7; replace U7 := Lib.hid U7; clear F7)
      | (go_at_call 19; (with_reducible refine (HWy.out w7 b2 m2 _ _ U7.out bB7.out).mono ?_); rintro e w8 ⟨rfl, U8, F8⟩; have bB8 := F8.below bB7.out bB7.out.size (by simp; omega); obtain ⟨e0, e1, e2, e3⟩ := HK.out _ bB8; have hs8 := F8.size; have V8 := V7.out.frm U7.out F8; have X8 := (F8.block _ (by omega) (by simp; omega)).trans X7.out; have R8 := R7.out.frm F8 (by simp; omega) (by simp; omega); replace bB8 := Lib.hid bB8; replace R8 := Lib.hid R8; replace V8 := Lib.hid V8; replace X8 := Lib.hid X8; replace U8 := Lib.hid U8; clear F8)
      | (go_at_call 19; (with_reducible refine (HWx.out w8 b2 m2 _ _ U8.out bB8.out).mono ?_); rintro e w9 ⟨rfl, U9, F9⟩; have bB9 := F9.below bB8.out bB8.out.size (by simp; omega); obtain ⟨f0, f1, f2, f3⟩ := HK.out _ bB9; have hs9 := F9.size; have V9 := V8.out.frm U8.out F9; have X9 := (F9.block _ (by omega) (by simp; omega)).trans X8.out; have R9 := R8.out.frm F9 (by simp; omega) (by simp; omega); replace bB9 := Lib.hid bB9; replace R9 := Lib.hid R9; replace V9 := Lib.hid V9; replace X9 := Lib.hid X9; replace U9 := Lib.hid U9; clear F9))
    have x90 : w9.cell? ⟨w4.heap.size, 0, none⟩ = _ := cell_at X9.out 0
    have x91 : w9.cell? ⟨w4.heap.size, 1, none⟩ = _ := cell_at X9.out 1
    have SX := Lib.hid (same_write hS4.out (x : Int) l2)
    have SXY := Lib.hid (same_write SX.out (y : Int) l3)
    have SYX := Lib.hid (show SameS (wrSize (wrSize size' y l3.length) x l2.length) (wrBl (wrBl bl' y l3) x l2) (rwB (rwB B' x l2) y l3) (rwOn (rwOn On' x l2.length) y l3.length) by
      rw [HCB.out, HCO.out _ (by rw [hS4.out.on]; exact keysS_rising hS4.out.nodup)]
      exact same_write (same_write hS4.out (y : Int) l3) (x : Int) l2)
    have HO1 := Lib.hid (rwOn_le hS4.out R6.out)
    have HO2 := Lib.hid (rwOn_le SX.out R9.out)
    go_upto_region 15 with (first
      | (go_at_call 28; (with_reducible refine (HVx.out w9 _ _ _ V9.out bB9.out HO1.out).mono ?_); rintro e w10 ⟨v10, rfl, V10, hB10⟩; obtain ⟨A5, c5, A5', c5', rfl⟩ := V10.cells; have X10 := (hB10.block _ (by omega)).trans X9.out; have hs10 := hB10.size; have R10 := R9.out.below hB10; have U10 := U9.out.below hB10; have bB10 := bB9.out.trans (hB10.mono bB9.out.size); replace bB10 := Lib.hid bB10; replace R10 := Lib.hid R10; replace V10 := Lib.hid V10; replace X10 := Lib.hid X10; replace U10 := Lib.hid U10; clear hB10)
      | (refine wpList_store_row rfl 30 (.tmp 8) (.tmp 119) rfl w10 w4.heap.size _ #[.slice A5 (rwB B' x l2).length c5, .slice A5' (rwOn On' x l2.length).length c5'] _ rfl rfl X10.out rfl sheetI (fun u hu => by simp at hu; rcases hu with rfl | rfl <;> rfl) ?_; intro w11 X11 G11; have bB11 := Below.grownBy bB10.out G11 bB10.out.size (fun k hk => by injection hk with hk; omega); obtain ⟨g0, g1, g2, g3⟩ := HK.out _ bB11; have hs11 := G11.size; have x110 : w11.cell? ⟨w4.heap.size, 0, none⟩ = _ := cell_at X11 0; have x111 : w11.cell? ⟨w4.heap.size, 1, none⟩ = _ := cell_at X11 1; have V11 := V10.out.off X10.out (fun v hv => by simp at hv; rcases hv with rfl | rfl <;> exact ⟨_, _, _, rfl⟩) G11 (by decide); have R11 := R10.out.keep (G11.block b (by omega) (fun e => by injection e with e; omega)) (G11.block m (by omega) (fun e => by injection e with e; omega)); have U11 := U10.out.keep (G11.block b2 (by omega) (fun e => by injection e with e; omega)) (G11.block m2 (by omega) (fun e => by injection e with e; omega)); replace bB11 := Lib.hid bB11; replace R11 := Lib.hid R11; replace V11 := Lib.hid V11; replace X11 := Lib.hid X11; replace U11 := Lib.hid U11; clear G11))
    go_upto_region 16 with (first
      | (go_at_call 28; (with_reducible refine (HVy.out w11 _ _ _ V11.out bB11.out HO2.out).mono ?_); rintro e w12 ⟨v12, rfl, V12, hB12⟩; obtain ⟨A6, c6, A6', c6', rfl⟩ := V12.cells; have X12 := (hB12.block _ (by omega)).trans X11.out; have hs12 := hB12.size; have R12 := R11.out.below hB12; have U12 := U11.out.below hB12; have bB12 := bB11.out.trans (hB12.mono bB11.out.size); replace bB12 := Lib.hid bB12; replace R12 := Lib.hid R12; replace V12 := Lib.hid V12; replace X12 := Lib.hid X12; replace U12 := Lib.hid U12; clear hB12)
      | (refine wpList_store_row rfl 30 (.tmp 8) (.tmp 128) rfl w12 w4.heap.size _ #[.slice A6 (rwB (rwB B' x l2) y l3).length c6, .slice A6' (rwOn (rwOn On' x l2.length) y l3.length).length c6'] _ rfl rfl X12.out rfl sheetI (fun u hu => by simp at hu; rcases hu with rfl | rfl <;> rfl) ?_; intro w13 X13 G13; have bB13 := Below.grownBy bB12.out G13 bB12.out.size (fun k hk => by injection hk with hk; omega); have hs13 := G13.size; have V13 := V12.out.off X12.out (fun v hv => by simp at hv; rcases hv with rfl | rfl <;> exact ⟨_, _, _, rfl⟩) G13 (by decide); have R13 := R12.out.keep (G13.block b (by omega) (fun e => by injection e with e; omega)) (G13.block m (by omega) (fun e => by injection e with e; omega)); have U13 := U12.out.keep (G13.block b2 (by omega) (fun e => by injection e with e; omega)) (G13.block m2 (by omega) (fun e => by injection e with e; omega)); replace bB13 := Lib.hid bB13; replace R13 := Lib.hid R13; replace V13 := Lib.hid V13; replace X13 := Lib.hid X13; replace U13 := Lib.hid U13; clear G13))
    go_wp2_with (first
      | (go_at_call 15; (with_reducible refine (HA.out _).mono ?_); rintro e w14 ⟨rfl, hB14⟩; have hx := (hB14.block _ (by omega)).trans X13.out; have x140 : w14.cell? ⟨w4.heap.size, 0, none⟩ = _ := cell_at hx 0; have x141 : w14.cell? ⟨w4.heap.size, 1, none⟩ = _ := cell_at hx 1; have X14 := Lib.hid hx; clear hx; replace hB14 := Lib.hid hB14)
      | (go_at_call 27; (with_reducible refine (stands_any (R13.out.below hB14.out) (V13.out.below hB14.out) SXY.out).mono ?_); rintro e w15 ⟨rfl, hB15⟩; have hs14 := hB14.out.size; have hx := (hB15.block _ (by omega)).trans X14.out; have x150 : w15.cell? ⟨w4.heap.size, 0, none⟩ = _ := cell_at hx 0; have x151 : w15.cell? ⟨w4.heap.size, 1, none⟩ = _ := cell_at hx 1; clear hx; replace hB15 := Lib.hid hB15)
      | (go_at_call 27; (with_reducible refine (stands_any ((U13.out.below hB14.out).below hB15.out) ((V13.out.below hB14.out).below hB15.out) SYX.out).mono ?_); rintro e w16 ⟨rfl, hB16⟩; replace hB16 := Lib.hid hB16))
    go_ret
    have hsw := HB2.out.size
    exact ⟨rfl, (((HB2.out.trans (bB13.out.mono hsw)).trans (hB14.out.mono (by have := bB13.out.size; omega))).trans (hB15.out.mono (by have := bB13.out.size; have := hB14.out.size; omega))).trans (hB16.out.mono (by have := bB13.out.size; have := hB14.out.size; have := hB15.out.size; omega))⟩

theorem sheetOrder_walk (l : List (OpR × Option Addr × Nat)) (A0 : Option Addr) (c0 : Nat) (x y : Int) (A2 A3 : Option Addr) (l2 l3 : List UInt8) (c2 c3 : Nat) (W : World) (hm0 : l.length ≤ maxLen) (rd0 : Rd W W.heap.size 4 opC A0 l) (hq0 : ∀ y ∈ l, opQ W y)
    (h2 : l2.length ≤ maxLen) (h2c : l2.length ≤ c2) (rd2 : Rd W W.heap.size 1 byteC A2 l2) (h3 : l3.length ≤ maxLen) (h3c : l3.length ≤ c3) (rd3 : Rd W W.heap.size 1 byteC A3 l3) :
    Calls Try.prog 8 #[.slice A0 l.length c0, .agg #[.int .i64 x, .int .i64 y], .agg #[.slice A2 l2.length c2, .slice A3 l3.length c3]] W fun e W' => e = .returned (.bool true) ∧ Below W.heap.size W W' := by
  cases hf : fewB l
  · exact sheetOrder_early l A0 c0 x y A2 A3 _ c2 _ c3 W hm0 rd0 hq0 h2 h3 (.inl hf)
  · by_cases h : l2.length ≤ 2000 ∧ l3.length ≤ 2000 ∧ 0 ≤ x ∧ x ≤ 5000 ∧ 0 ≤ y ∧ y ≤ 5000 ∧ ¬ (x < y + l3.length ∧ y < x + l2.length)
    · obtain ⟨h1, h4, h5, h6, h7, h8, h9⟩ := h
      obtain ⟨x, rfl⟩ := Int.eq_ofNat_of_zero_le h5
      obtain ⟨y, rfl⟩ := Int.eq_ofNat_of_zero_le h7
      exact sheetOrder_main l A0 c0 x y A2 A3 l2 l3 c2 c3 W hm0 rd0 hq0 hf h1 h2c rd2 h4 h3c rd3 (by omega) (by omega) (by omega)
    · exact sheetOrder_early l A0 c0 x y A2 A3 _ c2 _ c3 W hm0 rd0 hq0 h2 h3 (.inr ⟨hf, by omega⟩)

set_option maxRecDepth 100000 in
theorem sheetOrder_given (W : World) (args : Array Value) (h : Given W Try.f8 args) :
    Calls Try.prog 8 args W fun e W' => e = .returned (.bool true) ∧ Below W.heap.size W W' := by
  obtain ⟨⟨H, enc, ds, p, hA, hwt⟩, base, hval⟩ := h
  rw [Try.params8] at hA hval hwt
  obtain ⟨v0, vs0, d0, ds0, p0, q0, hargs, rfl, rfl, h0, r0⟩ := trodAll_cons hA
  obtain ⟨v1, vs1, d1, ds1, p1, q1, rfl, rfl, rfl, h1, r1⟩ := trodAll_cons r0
  obtain ⟨v2, vs2, d2, ds2, p2, q2, rfl, rfl, rfl, h2, r2⟩ := trodAll_cons r1
  obtain ⟨rfl, rfl, rfl⟩ := trodAll_nil r2
  obtain rfl : args = #[v0, v1, v2] := by cases args; simp_all
  simp only [DataW.weightsEach, List.all_append, Bool.and_eq_true] at hwt
  obtain ⟨g0, g1, g2, _⟩ := hwt
  obtain ⟨⟨A0, c0, l0⟩, rfl, hm0, hn0, hz0, rd0, hq0⟩ := opens_ops W H enc base v0 d0 p0 (hval 0 _ v0 rfl rfl) h0 g0
  obtain ⟨⟨x1, y1⟩, rfl⟩ := opens_int2 W H enc base v1 d1 p1 (hval 1 _ v1 rfl rfl) h1 g1
  obtain ⟨⟨⟨A2, c2, l2⟩, ⟨A3, c3, l3⟩⟩, rfl, ⟨r1, r2, r3⟩, ⟨s1, s2, s3⟩⟩ := opens_bytes2 W H enc base v2 d2 p2 (hval 2 _ v2 rfl rfl) h2 g2
  exact sheetOrder_walk l0 A0 c0 x1 y1 A2 A3 l2 l3 c2 c3 W hm0 rd0 hq0 r1 r2 r3 s1 s2 s3

theorem sheetOrder_lifted (os : Os) (started : os.Started) (H : Type) (enc : TypeId × Value → H) :
    ReturnsInHanded {} Try.checked os 8 .any (Rows.sheetOrderSpec.pre6 enc Try.prog Try.f8 Rows.sheetOrderRow.domain false) (Rows.sheetOrderSpec.post enc Try.prog Try.f8 false true false false) :=
  law_lifted (s := Rows.sheetOrderSpec) os started H enc (by kernel_rfl) Try.func8 rfl (by kernel_rfl)
    (by rw [Try.params8]; intro t ht; simp at ht; rcases ht with rfl | rfl | rfl <;> exact ⟨by kernel_rfl, of_decide_eq_true (by kernel_rfl)⟩)
    (by rw [Try.params8]; intro ds hd; match ds, hd with | [x0, x1, x2], _ => exact ⟨rfl, rfl, rfl⟩)
    (ChangeSpec.witness6 (enc := enc) (C := Try.checked) false ⟨#[], #[.slice none 0 0, .agg #[.int .i64 0, .int .i64 0], .agg #[.slice none 0 0, .slice none 0 0]], []⟩ 8 (by kernel_rfl) (by kernel_rfl) (by kernel_rfl) (by kernel_rfl))
    sheetOrder_given

theorem sheetOrder_holds : Rows.SheetOrderSaid :=
  OpenClaim.holds_of_wide 8 Try.f8 rfl rfl rfl rfl rfl rfl rfl ⟨rfl, rfl, rfl, rfl, rfl⟩ rfl rfl rfl rfl rfl (by kernel_rfl) Try.func8 (by kernel_rfl)
    (of_decide_eq_true (by kernel_rfl)) (by unfold Func.isWrapper; first | (rw [if_pos (by decide +kernel)]; kernel_rfl) | (rw [if_neg (by decide +kernel)]; exact ⟨rfl, rfl⟩))
    (fun os started H enc _ => sheetOrder_lifted os started H enc)
#print axioms sheetOrder_holds
end Go.Proofs.Ytpcjmefchclhhaa

/- The laws' plays: a script on a sheet, and on the reference's. -/
import Derived.Test.YtpcjmefchclhhaaShU
import Derived.Test.YtpcjmefchclhhaaShJ
import Derived.Deep.RegionHeld3
namespace Go.Proofs.Ytpcjmefchclhhaa
open Go.RowKit Go.MapKept

/-- A reference's sheet in a block. -/
theorem RSh.cells {w : World} {v : Value} {B : List UInt8} {On : List Nat} (h : RSh w v B On) : ∃ A c A' c', v = .agg #[.slice A B.length c, .slice A' On.length c'] := by
  obtain ⟨⟨A, c, A', c', e, _⟩, _⟩ := h
  exact ⟨A, c, A', c', e⟩
theorem stepSize_le {size : Nat} (h : size ≤ 1048576) (o : OpR) : stepSize size o ≤ 1048576 := by
  unfold stepSize wrSize cutSize
  split
  · split
    · rename_i hf
      obtain ⟨h0, h1, h2⟩ := of_decide_eq_true hf.1
      omega
    · exact h
  · split
    · split
      · rename_i hc
        obtain ⟨h0, h1⟩ := of_decide_eq_true hc
        omega
      · exact h
    · exact h
theorem Rd.keepF {α : Type} {w w' : World} {B sz : Nat} {S : List Nat} {A : Option Addr} {l : List α} {f : α → List Value} (h : Rd w B sz f A l) (hf : Frm S w w') (hS : ∀ k ∈ S, B ≤ k) (hB : B ≤ w.heap.size) : Rd w' B sz f A l :=
  h.keep fun p hp => World.cell?_of_block (w := w) (hf.block _ (Nat.lt_of_lt_of_le hp hB) (fun hm => by have := hS _ hm; omega))
set_option maxRecDepth 100000 in
set_option maxHeartbeats 4000000 in
theorem plays_any {w : World} {b m size : Nat} {bl : List (Nat × List UInt8)} {v : Value} {B : List UInt8} {On : List Nat} (hR : Raw w b m size bl) (hV : RSh w v B On) (hS : SameS size bl B On) (l : List (OpR × Option Addr × Nat)) (A0 : Option Addr) (c0 : Nat) (B0 : Nat) (hBb : B0 ≤ b) (hBm : B0 ≤ m) (hm0 : l.length ≤ maxLen) (rd0 : Rd w B0 4 opC A0 l)
    (hq0 : ∀ y ∈ l, y.1.bytes.length ≤ maxLen ∧ y.1.bytes.length ≤ y.2.2 ∧ Rd w B0 1 byteC y.2.1 y.1.bytes) :
    Calls Try.prog 16 #[.pointer (some ⟨b, 0, none⟩), v, .slice A0 l.length c0] w fun e w' => ∃ v' size' bl' B' On', e = .returned (.tuple #[v', .bool true]) ∧ Raw w' b m size' bl' ∧ RSh w' v' B' On' ∧ SameS size' bl' B' On' ∧ Frm [b, m] w w' := by
  obtain ⟨As, cs, As', cs', rfl⟩ := hV.cells
  obtain ⟨w2, hw2⟩ : ∃ w2, (w.alloc (.cells #[.slice As B.length cs, .slice As' On.length cs'] 30)).alloc (.cells #[.slice none 0 0, .slice none 0 0] 30) = w2 := ⟨_, rfl⟩
  have hs2 : w2.heap.size = w.heap.size + 2 := by rw [← hw2]; simp
  have hx2 : w2.heap[w.heap.size]? = some (.cells #[.slice As B.length cs, .slice As' On.length cs'] 30 (0, 0)) := by rw [← hw2]; exact heap_alloc2_old _ _ _
  have hz2 : w2.heap[w.heap.size + 1]? = some (.cells #[.slice none 0 0, .slice none 0 0] 30 (0, 0)) := by rw [← hw2]; exact heap_alloc2_new _ _ _
  have hB2 : Below w.heap.size w w2 := by rw [← hw2]; exact ((Below.refl _ _).alloc (Nat.le_refl _) _).alloc (by simp) _
  have HX2 := Lib.hid hx2
  have HZ2 := Lib.hid hz2
  have HB2 := Lib.hid hB2
  have HW2 := Lib.hid hw2
  have HS2 := Lib.hid hs2
  have HR0 := Lib.hid (hR.below hB2)
  have HV0 := Lib.hid (hV.below hB2)
  have HS0 := Lib.hid hS
  have HD0 := Lib.hid rd0
  have HQ0 := Lib.hid hq0
  have hbl := hR.lt
  have hml := hR.map.lt
  unfold maxLen at hm0
  clear hs2 hx2 hz2 hB2 hw2 hR hV hS rd0 hq0
  generalize hn : l.length = n at *
  have HNl := Lib.hid hn
  clear hn
  go_enter Try.func16, Try.ntmps16
  go_wp2
  rw [HW2.out]
  go_loopw [14] (fun vi wr => ∃ (i size' : Nat) (bl' : List (Nat × List UInt8)) (B' : List UInt8) (On' : List Nat) (Ar Ar' : Option Addr) (cr cr' : Nat), i ≤ n ∧ vi = .int .i64 (i : Int) ∧ Raw wr b m size' bl' ∧ RSh wr (.agg #[.slice Ar B'.length cr, .slice Ar' On'.length cr']) B' On' ∧ SameS size' bl' B' On' ∧ Frm [b, m] w wr ∧ w.heap.size + 2 ≤ wr.heap.size ∧
    wr.heap[w.heap.size]? = some (.cells #[.slice Ar B'.length cr, .slice Ar' On'.length cr'] 30 (0, 0)) ∧ wr.heap[w.heap.size + 1]? = some (.cells #[.slice none 0 0, .slice none 0 0] 30 (0, 0))) (fun vi _ => n - (intOf vi).toNat)
  case atStart => exact ⟨0, size, bl, B, On, As, As', cs, cs', Nat.zero_le _, rfl, HR0.out, HV0.out, HS0.out, Frm.of_below HB2.out, by rw [HS2.out]; exact Nat.le_refl _, HX2.out, HZ2.out⟩
  case round =>
    obtain ⟨i, size', bl', B', On', Ar, Ar', cr, cr', hi, rfl, hRr, hVr, hSr, hFr, hszr, hxr, hzr⟩ := hrel
    have HRr := Lib.hid hRr
    have HVr := Lib.hid hVr
    have HSr := Lib.hid hSr
    have HFr := Lib.hid hFr
    have HXr := Lib.hid hxr
    have HZr := Lib.hid hzr
    clear hRr hVr hSr hFr hxr hzr HR0 HV0 HS0 HX2 HZ2
    by_cases hin : i < n
    · have hil : i < l.length := by rw [HNl.out]; exact hin
      have hB0w : B0 ≤ wr.heap.size := by have := HFr.out.size; omega
      have hd := HD0.out.keepF HFr.out (by simp; omega) (by omega)
      obtain ⟨ad, had, hadb⟩ := hd.addr hil
      subst had
      have d0 : wr.cell? (ad.add (i * 4)) = _ := hd.cell hil (j := 0) rfl
      have d1 : wr.cell? ⟨(ad.add (i * 4)).block, (ad.add (i * 4)).off + 1, none⟩ = _ := hd.cell hil (j := 1) rfl
      have d2 : wr.cell? ⟨(ad.add (i * 4)).block, (ad.add (i * 4)).off + 2, none⟩ = _ := hd.cell hil (j := 2) rfl
      have d3 : wr.cell? ⟨(ad.add (i * 4)).block, (ad.add (i * 4)).off + 3, none⟩ = _ := hd.cell hil (j := 3) rfl
      obtain ⟨q1, q2, q3⟩ := HQ0.out _ (List.getElem_mem hil)
      have q3 := (q3.keepF HFr.out (by simp; omega) (by omega))
      generalize l[i] = x at *
      obtain ⟨o, A, c⟩ := x
      obtain ⟨K, at_, nn, bs⟩ := o
      dsimp only at d0 d1 d2 d3 q1 q2 q3
      have Q1 := Lib.hid q1
      -- the call's own copy of the operation
      obtain ⟨w3, hw3⟩ : ∃ w3, wr.alloc (.cells #[.int .i64 K, .int .i64 at_, .int .i64 nn, .slice A bs.length c] 39) = w3 := ⟨_, rfl⟩
      have hb3 : Below wr.heap.size wr w3 := by rw [← hw3]; exact (Below.refl _ _).alloc (Nat.le_refl _) _
      have hy3 : w3.heap[wr.heap.size]? = some (.cells #[.int .i64 K, .int .i64 at_, .int .i64 nn, .slice A bs.length c] 39 (0, 0)) := by rw [← hw3]; exact heap_alloc_new _ _
      have hs3 : w3.heap.size = wr.heap.size + 1 := by rw [← hw3]; simp
      have HW3 := Lib.hid hw3
      have HB3 := Lib.hid hb3
      have HY3 := Lib.hid hy3
      have HS3 := Lib.hid hs3
      have HR3 := Lib.hid (HRr.out.below hb3)
      have HV3 := Lib.hid (HVr.out.below hb3)
      have HX3 := Lib.hid ((hb3.block _ (by omega)).trans HXr.out)
      have HZ3 := Lib.hid ((hb3.block _ (by omega)).trans HZr.out)
      have Q3 := Lib.hid (q3.below (hb3.mono hB0w))
      have HN1 := Lib.hid (show Ever w3 23 #[.pointer (some ⟨b, 0, none⟩), .int .i64 at_, .slice A bs.length c] (.int .i64 (needN bl' at_ bs.length : Nat)) from ever_below fun w' hw => need_any (HR3.out.below hw) at_ A bs.length c Q1.out)
      have HN2 := Lib.hid (show Ever w3 44 #[.agg #[.slice Ar B'.length cr, .slice Ar' On'.length cr'], .int .i64 at_, .slice A bs.length c] (.int .i64 (needN bl' at_ bs.length : Nat)) from ever_below fun w' hw => by
        have := rneed_any (HV3.out.below hw) at_ bs.length Q1.out A c
        rw [same_need HSr.out] at this
        exact this)
      generalize needN bl' at_ bs.length = nd at HN1 HN2
      -- whatever memory was made since: what the region reads
      have hk : ∀ w', Below w3.heap.size w3 w' → w'.cell? ⟨wr.heap.size, 0, none⟩ = some (.int .i64 K) ∧ w'.cell? ⟨wr.heap.size, 1, none⟩ = some (.int .i64 at_) ∧ w'.cell? ⟨wr.heap.size, 2, none⟩ = some (.int .i64 nn) ∧ w'.cell? ⟨wr.heap.size, 3, none⟩ = some (.slice A bs.length c) ∧ w'.cell? ⟨w.heap.size, 0, none⟩ = some (.slice Ar B'.length cr) ∧ w'.cell? ⟨w.heap.size, 1, none⟩ = some (.slice Ar' On'.length cr') := fun w' hb => by
        have e1 := (hb.block wr.heap.size (by omega)).trans HY3.out
        have e2 := (hb.block w.heap.size (by omega)).trans HX3.out
        exact ⟨cell_at e1 0, cell_at e1 1, cell_at e1 2, cell_at e1 3, cell_at e2 0, cell_at e2 1⟩
      have HK := Lib.hid hk
      obtain ⟨e0, e1, e2, e3, x0, x1⟩ := hk w3 (Below.refl _ _)
      have hbz := Below.refl w3.heap.size w3
      have hbz2 := hbz.drew
      have hK : K = 0 ∨ K ≠ 0 := by omega
      clear hd hil q1 q3 hb3 hy3 hs3 hw3 hk
      have hON : (doOn B' On' ⟨K, at_, nn, bs⟩).length ≤ 65536 := ((same_step HSr.out ⟨K, at_, nn, bs⟩).small (stepSize_le HRr.out.small _)).1
      have HDo := Lib.hid (show ∀ w4, Below w3.heap.size w3 w4 → Calls Try.prog 45 #[.agg #[.slice Ar B'.length cr, .slice Ar' On'.length cr'], .agg #[.int .i64 K, .int .i64 at_, .int .i64 nn, .slice A bs.length c]] w4 fun e w' => ∃ v', e = .returned (.tuple #[v', .bool (stepOk ⟨K, at_, nn, bs⟩)]) ∧ RSh w' v' (doB B' ⟨K, at_, nn, bs⟩) (doOn B' On' ⟨K, at_, nn, bs⟩) ∧ Below w4.heap.size w4 w' from fun w4 hb4 =>
        rdo_any (HV3.out.below hb4) ⟨K, at_, nn, bs⟩ A c Q1.out q2 ((Q3.out.keep fun p hp => hb4.cell (by have := HS3.out; omega)).more (by have := hb4.size; have := HS3.out; omega)) hON)
      have HDs := Lib.hid (show ∀ w4 w5, Raw w4 b m size' bl' → Below w3.heap.size w3 w4 ∨ True → Rd w5 w5.heap.size 1 byteC A bs → Raw w5 b m size' bl' → Calls Try.prog 20 #[.pointer (some ⟨b, 0, none⟩), .agg #[.int .i64 K, .int .i64 at_, .int .i64 nn, .slice A bs.length c]] w5 fun e w' => e = .returned (.bool (stepOk ⟨K, at_, nn, bs⟩)) ∧ Raw w' b m (stepSize size' ⟨K, at_, nn, bs⟩) (stepBl size' bl' ⟨K, at_, nn, bs⟩) ∧ Frm [b, m] w5 w' from fun w4 w5 _ _ hrd hraw =>
        does_any hraw ⟨K, at_, nn, bs⟩ A c Q1.out q2 hrd)
      have HSn := Lib.hid (same_step HSr.out ⟨K, at_, nn, bs⟩)
      have hok : ∀ ok : Bool, (ok != ok) = false := fun ok => by cases ok <;> rfl
      have hokn := hok (stepOk ⟨K, at_, nn, bs⟩)
      generalize stepOk ⟨K, at_, nn, bs⟩ = ok at HDo HDs hokn
      generalize stepSize size' ⟨K, at_, nn, bs⟩ = size2 at HDs HSn
      generalize stepBl size' bl' ⟨K, at_, nn, bs⟩ = bl2 at HDs HSn
      generalize doOn B' On' ⟨K, at_, nn, bs⟩ = On2 at HDo HSn
      generalize doB B' ⟨K, at_, nn, bs⟩ = B2 at HDo HSn
      obtain rfl : size2 = B2.length := HSn.out.len.symm
      have hbll : On2.length = bl2.length := same_blocks HSn.out
      have HBLL := Lib.hid hbll
      clear hok hON hbll
      rcases hK with hK | hK
      · have t0 : (K == 0) = true := beq_iff_eq.2 hK
        clear hK
        go_wp2
        rw [HW3.out]
        go_region_held3 (fun w' => w'.cell? ⟨wr.heap.size, 0, none⟩ = some (.int .i64 K) ∧ w'.cell? ⟨wr.heap.size, 1, none⟩ = some (.int .i64 at_) ∧ w'.cell? ⟨wr.heap.size, 2, none⟩ = some (.int .i64 nn) ∧ w'.cell? ⟨wr.heap.size, 3, none⟩ = some (.slice A bs.length c) ∧ w'.cell? ⟨w.heap.size, 0, none⟩ = some (.slice Ar B'.length cr) ∧ w'.cell? ⟨w.heap.size, 1, none⟩ = some (.slice Ar' On'.length cr'))
          (first
            | go_keep
            | exact HK.out _ hb1)
          (first
            | (go_at_call 23; (with_reducible refine (Ever.at_ HN1 _ (by assumption)).mono ?_); rintro e w1 ⟨rfl, hb1⟩)
            | (go_at_call 44; (with_reducible refine (Ever.at_ HN2 _ (by assumption)).mono ?_); rintro e w1 ⟨rfl, hb1⟩))
        have HB4 := Lib.hid hb1
        clear hb1 e0 e1 e2 e3 x0 x1 hbz hbz2 t0
        obtain ⟨e0, e1, e2, e3, x0, x1⟩ := HK.out w1 HB4.out
        have hsz1 := HB4.out.size
        go_wp2_with (first
          | (go_at_call 45; (with_reducible refine (HDo.out _ HB4.out).mono ?_); rintro e w5 ⟨v5, rfl, hV5, hb5⟩; obtain ⟨A5, c5, A5', c5', rfl⟩ := hV5.cells; have hzb := (hb5.block (w.heap.size) (by have := HS3.out; omega)).trans ((HB4.out.block w.heap.size (by have := HS3.out; omega)).trans HX3.out); have hzc := (Below.heap_alloc w5 (.cells #[.slice A5 B2.length c5, .slice A5' On2.length c5'] 30) w.heap.size (by have := HS3.out; have := hb5.size; omega)).trans hzb; replace hV5 := Lib.hid hV5; replace hb5 := Lib.hid hb5; replace hzc := Lib.hid hzc; clear hzb)
          | (refine wpList_store_row rfl 30 (.tmp 4) (.tmp 43) rfl _ w.heap.size _ #[.slice A5 B2.length c5, .slice A5' On2.length c5'] _ rfl rfl hzc.out rfl sheetI (fun u hu => by simp at hu; rcases hu with rfl | rfl <;> rfl) ?_))
        intro w6 hg6 hgr6
        have hsz5 := hb5.out.size
        have hs5 : (w5.alloc (.cells #[.slice A5 B2.length c5, .slice A5' On2.length c5'] 30)).heap.size = w5.heap.size + 1 := by simp
        have hsz6 := hgr6.size
        rw [hs5] at hsz6
        have hb35 : Below w3.heap.size w3 (w5.alloc (.cells #[.slice A5 B2.length c5, .slice A5' On2.length c5'] 30)) := (HB4.out.trans (hb5.out.mono hsz1)).alloc (by omega) _
        have hF36 : Frm [w.heap.size] w3 w6 := ⟨hgr6.os.trans hb35.os, hgr6.tape.trans hb35.tape, hgr6.output.trans hb35.output, by omega, fun k hk hne => (hgr6.block k (by rw [hs5]; omega) (fun e => hne (by injection e with e; simp [e]))).trans (hb35.block k hk)⟩
        have HR6 := Lib.hid (HR3.out.frm hF36 (by simp; omega) (by simp; omega))
        have HV6 := Lib.hid ((hV5.out.below ((Below.refl _ _).alloc (Nat.le_refl _) _)).off hzc.out (fun u hu => by simp at hu; rcases hu with rfl | rfl <;> exact ⟨_, _, _, rfl⟩) hgr6 (by decide))
        have HD6 := Lib.hid ((Q3.out.keepF hF36 (by simp; omega) (by have := HS3.out; omega)).more (show B0 ≤ w6.heap.size by have := HS3.out; omega))
        have hk6 : ∀ w', Frm [b, m] w6 w' → w'.cell? ⟨wr.heap.size, 0, none⟩ = some (.int .i64 K) ∧ w'.cell? ⟨wr.heap.size, 1, none⟩ = some (.int .i64 at_) ∧ w'.cell? ⟨wr.heap.size, 2, none⟩ = some (.int .i64 nn) ∧ w'.cell? ⟨wr.heap.size, 3, none⟩ = some (.slice A bs.length c) ∧ w'.cell? ⟨w.heap.size, 0, none⟩ = some (.slice A5 B2.length c5) ∧ w'.cell? ⟨w.heap.size, 1, none⟩ = some (.slice A5' On2.length c5') := fun w' hf => by
          have e1 := (hf.block wr.heap.size (by have := HS3.out; omega) (by simp; omega)).trans ((hF36.block wr.heap.size (by have := HS3.out; omega) (by simp; omega)).trans HY3.out)
          have e2 := (hf.block w.heap.size (by have := HS3.out; omega) (by simp; omega)).trans hg6
          exact ⟨cell_at e1 0, cell_at e1 1, cell_at e1 2, cell_at e1 3, cell_at e2 0, cell_at e2 1⟩
        have HK6 := Lib.hid hk6
        have HG6 := Lib.hid hg6
        have HF6 := Lib.hid hF36
        obtain ⟨y0, y1, y2, y3, z0, z1⟩ := hk6 w6 (Frm.refl _ _)
        have HD7 := Lib.hid (show ∀ w5, Below w6.heap.size w6 w5 → Calls Try.prog 20 #[.pointer (some ⟨b, 0, none⟩), .agg #[.int .i64 K, .int .i64 at_, .int .i64 nn, .slice A bs.length c]] w5 fun e w' => e = .returned (.bool ok) ∧ Raw w' b m B2.length bl2 ∧ Frm [b, m] w6 w' from fun w5 hb =>
          (HDs.out w5 w5 (HR6.out.below hb) (.inr trivial) ((HD6.out.keep fun p hp => hb.cell (by have := HS3.out; omega)).more (by have := hb.size; have := HS3.out; omega)) (HR6.out.below hb)).mono fun e w' ⟨h1, h2, h3⟩ => ⟨h1, h2, (Frm.of_below hb).trans h3⟩)
        have hbz := Below.refl w6.heap.size w6
        have hbz2 := hbz.drew
        have hbl1 : ((On2.length : Int) != (bl2.length : Int)) = false := by rw [bne_eq_false_iff_eq]; have := HBLL.out; omega
        have hbl2 : ((bl2.length : Int) != (On2.length : Int)) = false := by rw [bne_eq_false_iff_eq]; have := HBLL.out; omega
        have hbl3 : ((B2.length : Int) != (B2.length : Int)) = false := by simp
        clear hg6 hgr6 hs5 hb35 hF36 hk6 e0 e1 e2 e3 x0 x1 HDs HDo hzc hV5 hb5
        go_wp2
        go_region_held3 (fun w' => w'.cell? ⟨wr.heap.size, 0, none⟩ = some (.int .i64 K) ∧ w'.cell? ⟨wr.heap.size, 1, none⟩ = some (.int .i64 at_) ∧ w'.cell? ⟨wr.heap.size, 2, none⟩ = some (.int .i64 nn) ∧ w'.cell? ⟨wr.heap.size, 3, none⟩ = some (.slice A bs.length c) ∧ w'.cell? ⟨w.heap.size, 0, none⟩ = some (.slice A5 B2.length c5) ∧ w'.cell? ⟨w.heap.size, 1, none⟩ = some (.slice A5' On2.length c5'))
          (first
            | go_keep
            | exact HK6.out _ hF7)
          (first
            | (go_at_call 20; (with_reducible refine (HD7.out _ (by assumption)).mono ?_); rintro e w7 ⟨rfl, hR7, hF7⟩)
            | (go_at_call 22; (with_reducible refine (size_any hR7).mono ?_); rintro e w8 ⟨rfl, rfl⟩)
            | (go_at_call 21; (with_reducible refine (blocks_any hR7).mono ?_); rintro e w8 ⟨rfl, rfl⟩))
        have HF7 := Lib.hid hF7
        have HR7 := Lib.hid hR7
        have hB3s := HB3.out.size
        have HG7 := Lib.hid ((hF7.block w.heap.size (by have := HS3.out; omega) (by simp; omega)).trans HG6.out)
        have HZ7 := Lib.hid ((hF7.block (w.heap.size + 1) (by have := HS3.out; omega) (by simp; omega)).trans ((HF6.out.block (w.heap.size + 1) (by have := HS3.out; omega) (by simp)).trans HZ3.out))
        have HV7 := Lib.hid (HV6.out.frm HR6.out hF7)
        have HFn := Lib.hid (show Frm [b, m] w w7 from ⟨hF7.os.trans (HF6.out.os.trans (HB3.out.os.trans HFr.out.os)), hF7.tape.trans (HF6.out.tape.trans (HB3.out.tape.trans HFr.out.tape)), hF7.output.trans (HF6.out.output.trans (HB3.out.output.trans HFr.out.output)), by have := hF7.size; have := HS3.out; omega, fun k hk hne => (hF7.block k (by have := HS3.out; omega) hne).trans ((HF6.out.block k (by have := HS3.out; omega) (by simp; omega)).trans ((HB3.out.block k (by omega)).trans (HFr.out.block k hk hne)))⟩)
        have hsz7 : w.heap.size + 2 ≤ w7.heap.size := by have := hF7.size; have := HS3.out; omega
        clear hF7 hR7 y0 y1 y2 y3 z0 z1
        go_wp2
        go_roundw
        case rel => exact ⟨i + 1, B2.length, bl2, B2, On2, A5, A5', c5, c5', by omega, by go_num, HR7.out, HV7.out, HSn.out, HFn.out, hsz7, HG7.out, HZ7.out⟩
        case measure => simp [intOf]; omega
      · have t0 : (K == 0) = false := beq_eq_false_iff_ne.2 hK
        clear hK
        go_wp2
        rw [HW3.out]
        go_quiet (fail)
        have hb1 := below_drewN (Below.refl w3.heap.size w3) nq
        generalize w3.drewN nq = w1 at *
        have HB4 := Lib.hid hb1
        clear hb1 e0 e1 e2 e3 x0 x1 hbz hbz2 t0
        obtain ⟨e0, e1, e2, e3, x0, x1⟩ := HK.out w1 HB4.out
        have hsz1 := HB4.out.size
        go_wp2_with (first
          | (go_at_call 45; (with_reducible refine (HDo.out _ HB4.out).mono ?_); rintro e w5 ⟨v5, rfl, hV5, hb5⟩; obtain ⟨A5, c5, A5', c5', rfl⟩ := hV5.cells; have hzb := (hb5.block (w.heap.size) (by have := HS3.out; omega)).trans ((HB4.out.block w.heap.size (by have := HS3.out; omega)).trans HX3.out); have hzc := (Below.heap_alloc w5 (.cells #[.slice A5 B2.length c5, .slice A5' On2.length c5'] 30) w.heap.size (by have := HS3.out; have := hb5.size; omega)).trans hzb; replace hV5 := Lib.hid hV5; replace hb5 := Lib.hid hb5; replace hzc := Lib.hid hzc; clear hzb)
          | (refine wpList_store_row rfl 30 (.tmp 4) (.tmp 43) rfl _ w.heap.size _ #[.slice A5 B2.length c5, .slice A5' On2.length c5'] _ rfl rfl hzc.out rfl sheetI (fun u hu => by simp at hu; rcases hu with rfl | rfl <;> rfl) ?_))
        intro w6 hg6 hgr6
        have hsz5 := hb5.out.size
        have hs5 : (w5.alloc (.cells #[.slice A5 B2.length c5, .slice A5' On2.length c5'] 30)).heap.size = w5.heap.size + 1 := by simp
        have hsz6 := hgr6.size
        rw [hs5] at hsz6
        have hb35 : Below w3.heap.size w3 (w5.alloc (.cells #[.slice A5 B2.length c5, .slice A5' On2.length c5'] 30)) := (HB4.out.trans (hb5.out.mono hsz1)).alloc (by omega) _
        have hF36 : Frm [w.heap.size] w3 w6 := ⟨hgr6.os.trans hb35.os, hgr6.tape.trans hb35.tape, hgr6.output.trans hb35.output, by omega, fun k hk hne => (hgr6.block k (by rw [hs5]; omega) (fun e => hne (by injection e with e; simp [e]))).trans (hb35.block k hk)⟩
        have HR6 := Lib.hid (HR3.out.frm hF36 (by simp; omega) (by simp; omega))
        have HV6 := Lib.hid ((hV5.out.below ((Below.refl _ _).alloc (Nat.le_refl _) _)).off hzc.out (fun u hu => by simp at hu; rcases hu with rfl | rfl <;> exact ⟨_, _, _, rfl⟩) hgr6 (by decide))
        have HD6 := Lib.hid ((Q3.out.keepF hF36 (by simp; omega) (by have := HS3.out; omega)).more (show B0 ≤ w6.heap.size by have := HS3.out; omega))
        have hk6 : ∀ w', Frm [b, m] w6 w' → w'.cell? ⟨wr.heap.size, 0, none⟩ = some (.int .i64 K) ∧ w'.cell? ⟨wr.heap.size, 1, none⟩ = some (.int .i64 at_) ∧ w'.cell? ⟨wr.heap.size, 2, none⟩ = some (.int .i64 nn) ∧ w'.cell? ⟨wr.heap.size, 3, none⟩ = some (.slice A bs.length c) ∧ w'.cell? ⟨w.heap.size, 0, none⟩ = some (.slice A5 B2.length c5) ∧ w'.cell? ⟨w.heap.size, 1, none⟩ = some (.slice A5' On2.length c5') := fun w' hf => by
          have e1 := (hf.block wr.heap.size (by have := HS3.out; omega) (by simp; omega)).trans ((hF36.block wr.heap.size (by have := HS3.out; omega) (by simp; omega)).trans HY3.out)
          have e2 := (hf.block w.heap.size (by have := HS3.out; omega) (by simp; omega)).trans hg6
          exact ⟨cell_at e1 0, cell_at e1 1, cell_at e1 2, cell_at e1 3, cell_at e2 0, cell_at e2 1⟩
        have HK6 := Lib.hid hk6
        have HG6 := Lib.hid hg6
        have HF6 := Lib.hid hF36
        obtain ⟨y0, y1, y2, y3, z0, z1⟩ := hk6 w6 (Frm.refl _ _)
        have HD7 := Lib.hid (show ∀ w5, Below w6.heap.size w6 w5 → Calls Try.prog 20 #[.pointer (some ⟨b, 0, none⟩), .agg #[.int .i64 K, .int .i64 at_, .int .i64 nn, .slice A bs.length c]] w5 fun e w' => e = .returned (.bool ok) ∧ Raw w' b m B2.length bl2 ∧ Frm [b, m] w6 w' from fun w5 hb =>
          (HDs.out w5 w5 (HR6.out.below hb) (.inr trivial) ((HD6.out.keep fun p hp => hb.cell (by have := HS3.out; omega)).more (by have := hb.size; have := HS3.out; omega)) (HR6.out.below hb)).mono fun e w' ⟨h1, h2, h3⟩ => ⟨h1, h2, (Frm.of_below hb).trans h3⟩)
        have hbz := Below.refl w6.heap.size w6
        have hbz2 := hbz.drew
        have hbl1 : ((On2.length : Int) != (bl2.length : Int)) = false := by rw [bne_eq_false_iff_eq]; have := HBLL.out; omega
        have hbl2 : ((bl2.length : Int) != (On2.length : Int)) = false := by rw [bne_eq_false_iff_eq]; have := HBLL.out; omega
        have hbl3 : ((B2.length : Int) != (B2.length : Int)) = false := by simp
        clear hg6 hgr6 hs5 hb35 hF36 hk6 e0 e1 e2 e3 x0 x1 HDs HDo hzc hV5 hb5
        go_wp2
        go_region_held3 (fun w' => w'.cell? ⟨wr.heap.size, 0, none⟩ = some (.int .i64 K) ∧ w'.cell? ⟨wr.heap.size, 1, none⟩ = some (.int .i64 at_) ∧ w'.cell? ⟨wr.heap.size, 2, none⟩ = some (.int .i64 nn) ∧ w'.cell? ⟨wr.heap.size, 3, none⟩ = some (.slice A bs.length c) ∧ w'.cell? ⟨w.heap.size, 0, none⟩ = some (.slice A5 B2.length c5) ∧ w'.cell? ⟨w.heap.size, 1, none⟩ = some (.slice A5' On2.length c5'))
          (first
            | go_keep
            | exact HK6.out _ hF7)
          (first
            | (go_at_call 20; (with_reducible refine (HD7.out _ (by assumption)).mono ?_); rintro e w7 ⟨rfl, hR7, hF7⟩)
            | (go_at_call 22; (with_reducible refine (size_any hR7).mono ?_); rintro e w8 ⟨rfl, rfl⟩)
            | (go_at_call 21; (with_reducible refine (blocks_any hR7).mono ?_); rintro e w8 ⟨rfl, rfl⟩))
        have HF7 := Lib.hid hF7
        have HR7 := Lib.hid hR7
        have hB3s := HB3.out.size
        have HG7 := Lib.hid ((hF7.block w.heap.size (by have := HS3.out; omega) (by simp; omega)).trans HG6.out)
        have HZ7 := Lib.hid ((hF7.block (w.heap.size + 1) (by have := HS3.out; omega) (by simp; omega)).trans ((HF6.out.block (w.heap.size + 1) (by have := HS3.out; omega) (by simp)).trans HZ3.out))
        have HV7 := Lib.hid (HV6.out.frm HR6.out hF7)
        have HFn := Lib.hid (show Frm [b, m] w w7 from ⟨hF7.os.trans (HF6.out.os.trans (HB3.out.os.trans HFr.out.os)), hF7.tape.trans (HF6.out.tape.trans (HB3.out.tape.trans HFr.out.tape)), hF7.output.trans (HF6.out.output.trans (HB3.out.output.trans HFr.out.output)), by have := hF7.size; have := HS3.out; omega, fun k hk hne => (hF7.block k (by have := HS3.out; omega) hne).trans ((HF6.out.block k (by have := HS3.out; omega) (by simp; omega)).trans ((HB3.out.block k (by omega)).trans (HFr.out.block k hk hne)))⟩)
        have hsz7 : w.heap.size + 2 ≤ w7.heap.size := by have := hF7.size; have := HS3.out; omega
        clear hF7 hR7 y0 y1 y2 y3 z0 z1
        go_wp2
        go_roundw
        case rel => exact ⟨i + 1, B2.length, bl2, B2, On2, A5, A5', c5, c5', by omega, by go_num, HR7.out, HV7.out, HSn.out, HFn.out, hsz7, HG7.out, HZ7.out⟩
        case measure => simp [intOf]; omega
    · have x0 : wr.cell? ⟨w.heap.size, 0, none⟩ = _ := cell_at HXr.out 0
      have x1 : wr.cell? ⟨w.heap.size, 1, none⟩ = _ := cell_at HXr.out 1
      have HA2 := Lib.hid HVr.out.agg
      have hS1 : ∀ u ∈ (#[Value.slice Ar B'.length cr, Value.slice Ar' On'.length cr'] : Array Value).toList, u.oneCell' = true := fun u hu => by simp at hu; rcases hu with rfl | rfl <;> rfl
      have HS1 := Lib.hid hS1
      clear hS1
      go_wp2_with (refine wpList_store_row rfl 30 (.tmp 6) (.tmp 67) rfl wr (w.heap.size + 1) _ _ _ rfl rfl HZr.out rfl sheetI HS1.out ?_)
      intro w7 hg7 hgr7
      have HG7 := Lib.hid hg7
      have hF7 : Frm [w.heap.size + 1] wr w7 := ⟨hgr7.os, hgr7.tape, hgr7.output, hgr7.size, fun k hk hne => hgr7.block k hk (fun e => hne (by injection e with e; simp [e]))⟩
      have HR7 := Lib.hid (HRr.out.frm hF7 (by simp; omega) (by simp; omega))
      have HV7 := Lib.hid (HVr.out.off HZr.out (fun u hu => by simp at hu; rcases hu with rfl | rfl <;> exact ⟨_, _, _, rfl⟩) hgr7 (by decide))
      have HF7 := Lib.hid (show Frm [b, m] w w7 from ⟨hF7.os.trans HFr.out.os, hF7.tape.trans HFr.out.tape, hF7.output.trans HFr.out.output, Nat.le_trans HFr.out.size hF7.size, fun k hk hne => (hF7.block k (Nat.lt_of_lt_of_le hk HFr.out.size) (by simp; omega)).trans (HFr.out.block k hk hne)⟩)
      clear hg7 hgr7 hF7
      go_wp2
      exact end_cell_tmp (p := 6) (u := 7) (ty := 30) (by kernel_rfl) rfl HG7.out sheetT rfl sheetI rfl rfl ⟨_, size', bl', B', On', rfl, HR7.out, HV7.out, HSr.out, HF7.out⟩
end Go.Proofs.Ytpcjmefchclhhaa

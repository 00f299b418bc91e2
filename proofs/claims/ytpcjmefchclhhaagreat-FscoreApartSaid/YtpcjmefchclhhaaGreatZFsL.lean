/- A part of the proof. -/
import Derived.Test.YtpcjmefchclhhaaGreatZFsLa
namespace Go.Proofs.YtpcjmefchclhhaaGreat
open Go.RowKit Go.MapKept
attribute [local go_sem] putObj_size
set_option maxRecDepth 100000 in
set_option maxHeartbeats 16000000 in
theorem make_any {w : World} {f mi mg K : Nat} {r : RFs} {N : List Nd} (h : FsN w f mi mg r N) (hW : Wf r K) (hK : K ≤ 1000000) (i g : Int) (s : ByteArray) (hs : s.size ≤ maxLen) (kd md tm : Int) (tg : ByteArray) (ht : tg.size ≤ maxLen) :
  Calls Tryz.prog 21 #[.pointer (some ⟨f, 0, none⟩), .agg #[.int .i64 i, .int .i64 g], .string s, .agg #[.int .i64 kd, .int .i64 md, .int .i64 tm, .string tg]] w
   fun e w' => e = .returned (mkR (makeP r (i, g) s ⟨kd, md, tm, tg⟩)) ∧ StepR w w' f mi mg N (makeP r (i, g) s ⟨kd, md, tm, tg⟩).1 := by
 obtain ⟨w2, hw2, hB, hs2, hb0, hb1, hb2⟩ := box3 w #[.int .i64 i, .int .i64 g] #[.int .i64 kd, .int .i64 md, .int .i64 tm, .string tg] #[.int .i64 0, .int .i64 0] 37 76 37
 have t0 : w2.cell? ⟨w.heap.size, 0, none⟩ = some (.int .i64 i) := by rw [cell_at hb0]; rfl
 have t1 : w2.cell? ⟨w.heap.size, 1, none⟩ = some (.int .i64 g) := by rw [cell_at hb0]; rfl
 have h2 := h.below hW hB
 have HW2 := Lib.hid hw2
 have HB := Lib.hid hB
 have HB2 := Lib.hid hb2
 have HSt := Lib.hid (show ∀ w', Below w.heap.size w w' → StepR w w' f mi mg N r from fun w' hb => stepR_below h hW hb)
 have HM := Lib.hid (show ∀ w', Below w2.heap.size w2 w' → w'.cell? ⟨w.heap.size + 1, 0, none⟩ = some (.int .i64 kd) ∧ w'.cell? ⟨w.heap.size + 1, 1, none⟩ = some (.int .i64 md) ∧ w'.cell? ⟨w.heap.size + 1, 2, none⟩ = some (.int .i64 tm) ∧ w'.cell? ⟨w.heap.size + 1, 3, none⟩ = some (.string tg) from fun w' hb => by
  have e := (hb.block (w.heap.size + 1) (by omega)).trans hb1
  exact ⟨cell_at e 0, cell_at e 1, cell_at e 2, cell_at e 3⟩)
 by_cases hp : placeE r (i, g) s false = 0
 ·have hf := placeE_folder hp
  obtain ⟨hl, hk2⟩ := folder_live hf
  obtain ⟨m1, m2, m3⟩ := live_mem hl
  obtain ⟨np, hn, hr⟩ := h2.at_ hW m1
  have hni : np.id = i := hr.id.trans m2
  have hpl := place_dir h2 hW i g s hs false hf hn hni
  rw [hp] at hpl
  have HP := Lib.hid hpl
  clear hpl
  have HAt := Lib.hid (show ∀ w4, Below w2.heap.size w2 w4 → Calls Tryz.prog 26 #[.agg #[.pointer (some ⟨np.blk, 0, none⟩), .pointer (some ⟨np.b, 0, none⟩), .string s]] w4 fun e w' => e = .returned (.tuple #[.int .i64 (entryP r.nms i s), .bool (decide (entryP r.nms i s ≠ 0))]) ∧ Below w4.heap.size w4 w' from fun w4 hb => by
   have hr4 := hr.below (hW.kind _ m1) hb
   have := at_any hr4 hk2 (hr4.lt (hW.kind _ m1)) s (some ⟨np.blk, 0, none⟩)
   rw [m2, hW.entry_some] at this
   exact this)
  have HR := Lib.hid (show ∀ w, Calls Tryz.prog 51 #[.agg #[.int .i64 kd, .int .i64 md, .int .i64 tm, .string tg]] w fun e w' => e = .returned (.bool (rightB ⟨kd, md, tm, tg⟩)) ∧ Below w.heap.size w w' from fun w => right_any ⟨kd, md, tm, tg⟩ w ht)
  have HD := Lib.hid (show ∀ w4, Below w2.heap.size w2 w4 → NodeR w4 r (byIdP r.ins i) np from fun w4 hb => hr.below (.inr (.inl hk2)) hb)
  have HF := Lib.hid (show ∀ w4, Below w2.heap.size w2 w4 → FsN w4 f mi mg r N from fun w4 hb => h2.below hW hb)
  have HLen := Lib.hid (h.len hW)
  have hlx := hW.lim _ m1
  have hcnt := hW.cnt
  have hnp : ¬ placeE r (i, g) s false ≠ 0 := by simp [hp]
  have hcs : rightB ⟨kd, md, tm, tg⟩ = false ∨ rightB ⟨kd, md, tm, tg⟩ = true ∧ (entryP r.nms i s ≠ 0 ∨ entryP r.nms i s = 0 ∧ ((kd = 2 ∧ 20 ≤ linksN r (byIdP r.ins i)) ∨ ((kd ≠ 2 ∨ kd = 2 ∧ linksN r (byIdP r.ins i) < 20) ∧ (200 ≤ r.ins.length ∨ r.ins.length < 200)))) := by
   cases rightB ⟨kd, md, tm, tg⟩
   ·exact .inl rfl
   ·exact .inr ⟨rfl, by omega⟩
  rcases hcs with q | ⟨q, q1 | ⟨q1, ⟨q2, q3⟩ | ⟨q2, q3 | q3⟩⟩⟩
  ·rw [show makeP r (i, g) s ⟨kd, md, tm, tg⟩ = (r, (0, 0), 1) by unfold makeP; rw [if_neg hnp, if_pos q]]
   rw [q] at HR
   unfold mkR
   generalize entryP r.nms i s = ent at *
   clear hw2 hB hb0 hb1 hb2 h h2 hW hp hf hl hk2 m1 m2 m3 hn hr hni hnp
   go_enter Tryz.func21, Tryz.ntmps21
   go_wp2_with fail
   rw [HW2.out]
   go_upto_region 4 with (go_at_call 25; (with_reducible refine HP.out.mono ?_); rintro e w3 ⟨rfl, hB3⟩; have hs3 := hB3.size; replace hB3 := Lib.hid hB3)
   obtain ⟨w4, hw4, hB4, hs4, hb4⟩ := box1 w3 #[.pointer (some ⟨np.blk, 0, none⟩), .pointer (some ⟨np.b, 0, none⟩), .string s] 85
   rw [hw4]
   have c5 : w4.cell? ⟨w3.heap.size, 0, none⟩ = some (.pointer (some ⟨np.blk, 0, none⟩)) := by rw [cell_at hb4]; rfl
   have c6 : w4.cell? ⟨w3.heap.size, 1, none⟩ = some (.pointer (some ⟨np.b, 0, none⟩)) := by rw [cell_at hb4]; rfl
   have c7 : w4.cell? ⟨w3.heap.size, 2, none⟩ = some (.string s) := by rw [cell_at hb4]; rfl
   have HQ4 := Lib.hid hb4
   replace hB4 := Lib.hid (hB3.out.trans (hB4.mono (by omega)))
   clear hw4 hb4
   have HPv := Lib.hid (agg2_one 0 0)
   go_wp2_with (first
    | (go_at_call 26; (with_reducible refine (HAt.out w4 hB4.out).mono ?_); rintro e w5 ⟨rfl, hB5⟩; have hs5 := hB5.size; have hqq := (hB5.block _ (by omega)).trans HQ4.out; replace hB5 := Lib.hid (hB4.out.trans (hB5.mono (by omega))); obtain ⟨v0, v1, v2, v3⟩ := HM.out w5 hB5.out; have HQ5 := Lib.hid hqq; clear hqq)
    | (go_at_call 51; (with_reducible refine (HR.out w5).mono ?_); rintro e w6 ⟨rfl, hB6⟩; have hs6 := hB6.size; have HQ6 := Lib.hid ((hB6.block _ (by omega)).trans HQ5.out); replace hB6 := Lib.hid (hB5.out.trans (hB6.mono (by omega))); obtain ⟨u0, u1, u2, u3⟩ := HM.out w6 hB6.out; have p60 : w6.cell? ⟨w3.heap.size, 0, none⟩ = _ := cell_at HQ6.out 0; have p61 : w6.cell? ⟨w3.heap.size, 1, none⟩ = _ := cell_at HQ6.out 1; obtain ⟨-, -, -, -, k4, -⟩ := (HD.out w6 hB6.out).cells; obtain ⟨-, f1, f2⟩ := (HF.out w6 hB6.out).cells; have hlen := run_len_map (P := Tryz.prog) (ty := 3) (t := 63) Tryz.underlying63 (HF.out w6 hB6.out).imap; rw [List.length_map, HLen.out] at hlen)
    | (refine wpList_store_row rfl 37 (.tmp 8) (.tmp 36) rfl w6 (w.heap.size + 2) _ _ _ rfl rfl ((hB6.out.block _ (by omega)).trans HB2.out) rfl hndI HPv.out ?_; intro w9 hX9 hG9))
   have hb9 := Below.grownBy (HB.out.trans (hB6.out.mono (by omega))) hG9 (by omega) (fun k hk => by injection hk with hk; omega)
   exact end_cell_tmp (p := 8) (u := 9) rfl rfl hX9 hndT rfl hndI rfl rfl ⟨rfl, HSt.out _ hb9⟩
  ·rw [show makeP r (i, g) s ⟨kd, md, tm, tg⟩ = (r, (0, 0), 171) by unfold makeP; rw [if_neg hnp, if_neg (by rw [q]; simp), if_pos q1]]
   rw [q] at HR
   rw [decide_eq_true q1] at HAt
   unfold mkR
   clear hw2 hB hb0 hb1 hb2 h h2 hW hp hf hl hk2 m1 m2 m3 hn hr hni hnp q1
   go_enter Tryz.func21, Tryz.ntmps21
   go_wp2_with fail
   rw [HW2.out]
   go_upto_region 4 with (go_at_call 25; (with_reducible refine HP.out.mono ?_); rintro e w3 ⟨rfl, hB3⟩; have hs3 := hB3.size; replace hB3 := Lib.hid hB3)
   obtain ⟨w4, hw4, hB4, hs4, hb4⟩ := box1 w3 #[.pointer (some ⟨np.blk, 0, none⟩), .pointer (some ⟨np.b, 0, none⟩), .string s] 85
   rw [hw4]
   have c5 : w4.cell? ⟨w3.heap.size, 0, none⟩ = some (.pointer (some ⟨np.blk, 0, none⟩)) := by rw [cell_at hb4]; rfl
   have c6 : w4.cell? ⟨w3.heap.size, 1, none⟩ = some (.pointer (some ⟨np.b, 0, none⟩)) := by rw [cell_at hb4]; rfl
   have c7 : w4.cell? ⟨w3.heap.size, 2, none⟩ = some (.string s) := by rw [cell_at hb4]; rfl
   have HQ4 := Lib.hid hb4
   replace hB4 := Lib.hid (hB3.out.trans (hB4.mono (by omega)))
   clear hw4 hb4
   have HPv := Lib.hid (agg2_one 0 0)
   go_wp2_with (first
    | (go_at_call 26; (with_reducible refine (HAt.out w4 hB4.out).mono ?_); rintro e w5 ⟨rfl, hB5⟩; have hs5 := hB5.size; have hqq := (hB5.block _ (by omega)).trans HQ4.out; replace hB5 := Lib.hid (hB4.out.trans (hB5.mono (by omega))); obtain ⟨v0, v1, v2, v3⟩ := HM.out w5 hB5.out; have HQ5 := Lib.hid hqq; clear hqq)
    | (go_at_call 51; (with_reducible refine (HR.out w5).mono ?_); rintro e w6 ⟨rfl, hB6⟩; have hs6 := hB6.size; have HQ6 := Lib.hid ((hB6.block _ (by omega)).trans HQ5.out); replace hB6 := Lib.hid (hB5.out.trans (hB6.mono (by omega))); obtain ⟨u0, u1, u2, u3⟩ := HM.out w6 hB6.out; have p60 : w6.cell? ⟨w3.heap.size, 0, none⟩ = _ := cell_at HQ6.out 0; have p61 : w6.cell? ⟨w3.heap.size, 1, none⟩ = _ := cell_at HQ6.out 1; obtain ⟨-, -, -, -, k4, -⟩ := (HD.out w6 hB6.out).cells; obtain ⟨-, f1, f2⟩ := (HF.out w6 hB6.out).cells; have hlen := run_len_map (P := Tryz.prog) (ty := 3) (t := 63) Tryz.underlying63 (HF.out w6 hB6.out).imap; rw [List.length_map, HLen.out] at hlen)
    | (refine wpList_store_row rfl 37 (.tmp 8) (.tmp 39) rfl w6 (w.heap.size + 2) _ _ _ rfl rfl ((hB6.out.block _ (by omega)).trans HB2.out) rfl hndI HPv.out ?_; intro w9 hX9 hG9))
   have hb9 := Below.grownBy (HB.out.trans (hB6.out.mono (by omega))) hG9 (by omega) (fun k hk => by injection hk with hk; omega)
   exact end_cell_tmp (p := 8) (u := 9) rfl rfl hX9 hndT rfl hndI rfl rfl ⟨rfl, HSt.out _ hb9⟩
  ·rw [show makeP r (i, g) s ⟨kd, md, tm, tg⟩ = (r, (0, 0), 179) by unfold makeP; rw [if_neg hnp, if_neg (by rw [q]; simp), if_neg (by simp [q1]), if_pos ⟨q2, q3⟩]]
   rw [q] at HR
   rw [q1] at HAt
   simp only [ne_eq, not_true_eq_false, decide_false] at HAt
   subst q2
   have q4 : decide (20 ≤ (linksN r (byIdP r.ins i) : Int)) = true := decide_eq_true (by omega)
   have q5 : decide (20 ≤ linksN r (byIdP r.ins i)) = true := decide_eq_true q3
   unfold mkR
   clear hw2 hB hb0 hb1 hb2 h h2 hW hp hf hl hk2 m1 m2 m3 hn hr hni hnp q1
   go_enter Tryz.func21, Tryz.ntmps21
   go_wp2_with fail
   rw [HW2.out]
   go_upto_region 4 with (go_at_call 25; (with_reducible refine HP.out.mono ?_); rintro e w3 ⟨rfl, hB3⟩; have hs3 := hB3.size; replace hB3 := Lib.hid hB3)
   obtain ⟨w4, hw4, hB4, hs4, hb4⟩ := box1 w3 #[.pointer (some ⟨np.blk, 0, none⟩), .pointer (some ⟨np.b, 0, none⟩), .string s] 85
   rw [hw4]
   have c5 : w4.cell? ⟨w3.heap.size, 0, none⟩ = some (.pointer (some ⟨np.blk, 0, none⟩)) := by rw [cell_at hb4]; rfl
   have c6 : w4.cell? ⟨w3.heap.size, 1, none⟩ = some (.pointer (some ⟨np.b, 0, none⟩)) := by rw [cell_at hb4]; rfl
   have c7 : w4.cell? ⟨w3.heap.size, 2, none⟩ = some (.string s) := by rw [cell_at hb4]; rfl
   have HQ4 := Lib.hid hb4
   replace hB4 := Lib.hid (hB3.out.trans (hB4.mono (by omega)))
   clear hw4 hb4
   have HPv := Lib.hid (agg2_one 0 0)
   go_wp2_with (first
    | (go_at_call 26; (with_reducible refine (HAt.out w4 hB4.out).mono ?_); rintro e w5 ⟨rfl, hB5⟩; have hs5 := hB5.size; have hqq := (hB5.block _ (by omega)).trans HQ4.out; replace hB5 := Lib.hid (hB4.out.trans (hB5.mono (by omega))); obtain ⟨v0, v1, v2, v3⟩ := HM.out w5 hB5.out; have HQ5 := Lib.hid hqq; clear hqq)
    | (go_at_call 51; (with_reducible refine (HR.out w5).mono ?_); rintro e w6 ⟨rfl, hB6⟩; have hs6 := hB6.size; have HQ6 := Lib.hid ((hB6.block _ (by omega)).trans HQ5.out); replace hB6 := Lib.hid (hB5.out.trans (hB6.mono (by omega))); obtain ⟨u0, u1, u2, u3⟩ := HM.out w6 hB6.out; have p60 : w6.cell? ⟨w3.heap.size, 0, none⟩ = _ := cell_at HQ6.out 0; have p61 : w6.cell? ⟨w3.heap.size, 1, none⟩ = _ := cell_at HQ6.out 1; obtain ⟨-, -, -, -, k4, -⟩ := (HD.out w6 hB6.out).cells; obtain ⟨-, f1, f2⟩ := (HF.out w6 hB6.out).cells; have hlen := run_len_map (P := Tryz.prog) (ty := 3) (t := 63) Tryz.underlying63 (HF.out w6 hB6.out).imap; rw [List.length_map, HLen.out] at hlen)
    | (refine wpList_store_row rfl 37 (.tmp 8) (.tmp 52) rfl w6 (w.heap.size + 2) _ _ _ rfl rfl ((hB6.out.block _ (by omega)).trans HB2.out) rfl hndI HPv.out ?_; intro w9 hX9 hG9))
   have hb9 := Below.grownBy (HB.out.trans (hB6.out.mono (by omega))) hG9 (by omega) (fun k hk => by injection hk with hk; omega)
   exact end_cell_tmp (p := 8) (u := 9) rfl rfl hX9 hndT rfl hndI rfl rfl ⟨rfl, HSt.out _ hb9⟩
  ·have hq : ¬ (kd = 2 ∧ 20 ≤ linksN r (byIdP r.ins i)) := by omega
   rw [show makeP r (i, g) s ⟨kd, md, tm, tg⟩ = (r, (0, 0), 177) by unfold makeP; rw [if_neg hnp, if_neg (by rw [q]; simp), if_neg (by simp [q1]), if_neg hq, if_pos q3]]
   rw [q] at HR
   rw [q1] at HAt
   simp only [ne_eq, not_true_eq_false, decide_false] at HAt
   have q6 : decide (200 ≤ (r.ins.length : Int)) = true := decide_eq_true (by omega)
   have q7 : decide (200 ≤ r.ins.length) = true := decide_eq_true q3
   unfold mkR
   clear hw2 hB hb0 hb1 hb2 h h2 hW hp hf hl hk2 m1 m2 m3 hn hr hni hnp q1 hq
   rcases q2 with q2 | ⟨rfl, q2⟩
   ·have q4 : (kd == 2) = false := by rw [beq_eq_false_iff_ne]; exact q2
    go_enter Tryz.func21, Tryz.ntmps21
    go_wp2_with fail
    rw [HW2.out]
    go_upto_region 4 with (go_at_call 25; (with_reducible refine HP.out.mono ?_); rintro e w3 ⟨rfl, hB3⟩; have hs3 := hB3.size; replace hB3 := Lib.hid hB3)
    obtain ⟨w4, hw4, hB4, hs4, hb4⟩ := box1 w3 #[.pointer (some ⟨np.blk, 0, none⟩), .pointer (some ⟨np.b, 0, none⟩), .string s] 85
    rw [hw4]
    have c5 : w4.cell? ⟨w3.heap.size, 0, none⟩ = some (.pointer (some ⟨np.blk, 0, none⟩)) := by rw [cell_at hb4]; rfl
    have c6 : w4.cell? ⟨w3.heap.size, 1, none⟩ = some (.pointer (some ⟨np.b, 0, none⟩)) := by rw [cell_at hb4]; rfl
    have c7 : w4.cell? ⟨w3.heap.size, 2, none⟩ = some (.string s) := by rw [cell_at hb4]; rfl
    have HQ4 := Lib.hid hb4
    replace hB4 := Lib.hid (hB3.out.trans (hB4.mono (by omega)))
    clear hw4 hb4
    have HPv := Lib.hid (agg2_one 0 0)
    go_wp2_with (first
     | (go_at_call 26; (with_reducible refine (HAt.out w4 hB4.out).mono ?_); rintro e w5 ⟨rfl, hB5⟩; have hs5 := hB5.size; have hqq := (hB5.block _ (by omega)).trans HQ4.out; replace hB5 := Lib.hid (hB4.out.trans (hB5.mono (by omega))); obtain ⟨v0, v1, v2, v3⟩ := HM.out w5 hB5.out; have HQ5 := Lib.hid hqq; clear hqq)
     | (go_at_call 51; (with_reducible refine (HR.out w5).mono ?_); rintro e w6 ⟨rfl, hB6⟩; have hs6 := hB6.size; have HQ6 := Lib.hid ((hB6.block _ (by omega)).trans HQ5.out); replace hB6 := Lib.hid (hB5.out.trans (hB6.mono (by omega))); obtain ⟨u0, u1, u2, u3⟩ := HM.out w6 hB6.out; have p60 : w6.cell? ⟨w3.heap.size, 0, none⟩ = _ := cell_at HQ6.out 0; have p61 : w6.cell? ⟨w3.heap.size, 1, none⟩ = _ := cell_at HQ6.out 1; obtain ⟨-, -, -, -, k4, -⟩ := (HD.out w6 hB6.out).cells; obtain ⟨-, f1, f2⟩ := (HF.out w6 hB6.out).cells; have hlen := run_len_map (P := Tryz.prog) (ty := 3) (t := 63) Tryz.underlying63 (HF.out w6 hB6.out).imap; rw [List.length_map, HLen.out] at hlen)
     | (refine wpList_store_row rfl 37 (.tmp 8) (.tmp 60) rfl w6 (w.heap.size + 2) _ _ _ rfl rfl ((hB6.out.block _ (by omega)).trans HB2.out) rfl hndI HPv.out ?_; intro w9 hX9 hG9))
    have hb9 := Below.grownBy (HB.out.trans (hB6.out.mono (by omega))) hG9 (by omega) (fun k hk => by injection hk with hk; omega)
    exact end_cell_tmp (p := 8) (u := 9) rfl rfl hX9 hndT rfl hndI rfl rfl ⟨rfl, HSt.out _ hb9⟩
   ·have q4 : decide (20 ≤ (linksN r (byIdP r.ins i) : Int)) = false := decide_eq_false (by omega)
    have q5 : decide (20 ≤ linksN r (byIdP r.ins i)) = false := decide_eq_false (by omega)
    go_enter Tryz.func21, Tryz.ntmps21
    go_wp2_with fail
    rw [HW2.out]
    go_upto_region 4 with (go_at_call 25; (with_reducible refine HP.out.mono ?_); rintro e w3 ⟨rfl, hB3⟩; have hs3 := hB3.size; replace hB3 := Lib.hid hB3)
    obtain ⟨w4, hw4, hB4, hs4, hb4⟩ := box1 w3 #[.pointer (some ⟨np.blk, 0, none⟩), .pointer (some ⟨np.b, 0, none⟩), .string s] 85
    rw [hw4]
    have c5 : w4.cell? ⟨w3.heap.size, 0, none⟩ = some (.pointer (some ⟨np.blk, 0, none⟩)) := by rw [cell_at hb4]; rfl
    have c6 : w4.cell? ⟨w3.heap.size, 1, none⟩ = some (.pointer (some ⟨np.b, 0, none⟩)) := by rw [cell_at hb4]; rfl
    have c7 : w4.cell? ⟨w3.heap.size, 2, none⟩ = some (.string s) := by rw [cell_at hb4]; rfl
    have HQ4 := Lib.hid hb4
    replace hB4 := Lib.hid (hB3.out.trans (hB4.mono (by omega)))
    clear hw4 hb4
    have HPv := Lib.hid (agg2_one 0 0)
    go_wp2_with (first
     | (go_at_call 26; (with_reducible refine (HAt.out w4 hB4.out).mono ?_); rintro e w5 ⟨rfl, hB5⟩; have hs5 := hB5.size; have hqq := (hB5.block _ (by omega)).trans HQ4.out; replace hB5 := Lib.hid (hB4.out.trans (hB5.mono (by omega))); obtain ⟨v0, v1, v2, v3⟩ := HM.out w5 hB5.out; have HQ5 := Lib.hid hqq; clear hqq)
     | (go_at_call 51; (with_reducible refine (HR.out w5).mono ?_); rintro e w6 ⟨rfl, hB6⟩; have hs6 := hB6.size; have HQ6 := Lib.hid ((hB6.block _ (by omega)).trans HQ5.out); replace hB6 := Lib.hid (hB5.out.trans (hB6.mono (by omega))); obtain ⟨u0, u1, u2, u3⟩ := HM.out w6 hB6.out; have p60 : w6.cell? ⟨w3.heap.size, 0, none⟩ = _ := cell_at HQ6.out 0; have p61 : w6.cell? ⟨w3.heap.size, 1, none⟩ = _ := cell_at HQ6.out 1; obtain ⟨-, -, -, -, k4, -⟩ := (HD.out w6 hB6.out).cells; obtain ⟨-, f1, f2⟩ := (HF.out w6 hB6.out).cells; have hlen := run_len_map (P := Tryz.prog) (ty := 3) (t := 63) Tryz.underlying63 (HF.out w6 hB6.out).imap; rw [List.length_map, HLen.out] at hlen)
     | (refine wpList_store_row rfl 37 (.tmp 8) (.tmp 60) rfl w6 (w.heap.size + 2) _ _ _ rfl rfl ((hB6.out.block _ (by omega)).trans HB2.out) rfl hndI HPv.out ?_; intro w9 hX9 hG9))
    have hb9 := Below.grownBy (HB.out.trans (hB6.out.mono (by omega))) hG9 (by omega) (fun k hk => by injection hk with hk; omega)
    exact end_cell_tmp (p := 8) (u := 9) rfl rfl hX9 hndT rfl hndI rfl rfl ⟨rfl, HSt.out _ hb9⟩
  ·have hq : ¬ (kd = 2 ∧ 20 ≤ linksN r (byIdP r.ins i)) := by omega
   rw [show makeP r (i, g) s ⟨kd, md, tm, tg⟩ = (namedP (addP r (newIn r (i, g) ⟨kd, md, tm, tg⟩)) i s (freeP r.ins), (freeP r.ins, gensAt r.gens (freeP r.ins) + 1), 0) by unfold makeP; rw [if_neg hnp, if_neg (by rw [q]; simp), if_neg (by simp [q1]), if_neg hq, if_neg (show ¬ 200 ≤ r.ins.length by omega)]]
   unfold mkR
   have hkd : kd = 1 ∨ kd = 2 ∨ kd = 3 := by have := of_decide_eq_true q; dsimp only at this; omega
   rcases hkd with rfl | rfl | rfl
   ·exact make_ok1 h hW hK i g s hs md tm tg ht hp q q1 q3
   ·exact make_ok2 h hW hK i g s hs md tm tg ht hp q q1 (by omega) q3
   ·exact make_ok3 h hW hK i g s hs md tm tg ht hp q q1 q3
 ·rw [show makeP r (i, g) s ⟨kd, md, tm, tg⟩ = (r, (0, 0), placeE r (i, g) s false) by unfold makeP; rw [if_pos hp]]
  obtain ⟨pa, pb, pc, hpl⟩ := place_no h2 hW i g s hs false hp
  have HP := Lib.hid hpl
  have hne : (placeE r (i, g) s false != 0) = true := by rw [bne_iff_ne]; exact hp
  generalize placeE r (i, g) s false = pe at *
  unfold mkR
  clear hw2 hB hb0 hb1 hb2 h h2 hW hp hpl
  go_enter Tryz.func21, Tryz.ntmps21
  go_wp2_with fail
  rw [HW2.out]
  have HPv := Lib.hid (agg2_one 0 0)
  go_wp2_with (first
   | (go_at_call 25; (with_reducible refine HP.out.mono ?_); rintro e w3 ⟨rfl, hB3⟩; have hs3 := hB3.size; replace hB3 := Lib.hid hB3)
   | (refine wpList_store_row rfl 37 (.tmp 8) (.tmp 25) rfl _ (w.heap.size + 2) _ _ _ rfl rfl ((Below.heap_alloc _ _ _ (by omega)).trans ((hB3.out.block _ (by omega)).trans HB2.out)) rfl hndI HPv.out ?_; intro w9 hX9 hG9))
  have hb3 := HB.out.trans (hB3.out.mono (by omega))
  have hb9 := Below.grownBy (hb3.alloc hb3.size _) hG9 (by simp; omega) (fun k hk => by injection hk with hk; omega)
  exact end_cell_tmp (p := 8) (u := 9) rfl rfl hX9 hndT rfl hndI rfl rfl ⟨rfl, HSt.out _ hb9⟩
end Go.Proofs.YtpcjmefchclhhaaGreat

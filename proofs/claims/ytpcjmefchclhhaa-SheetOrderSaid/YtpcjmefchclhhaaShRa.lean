/- The reference's Punch. -/
import Derived.Test.YtpcjmefchclhhaaShQ
namespace Go.Proofs.Ytpcjmefchclhhaa
open Go.RowKit Go.MapKept

theorem splice_rep_set (B : List UInt8) (a j : Nat) (h : a + j < B.length) : (splice B a (List.replicate j 0)).set (a + j) 0 = splice B a (List.replicate (j + 1) 0) := by
  apply List.ext_getElem?
  intro i
  have h1 : (splice B a (List.replicate j (0 : UInt8))).length = B.length := length_splice _ _ _ (by rw [List.length_replicate]; omega)
  have h2 : (splice B a (List.replicate (j + 1) (0 : UInt8))).length = B.length := length_splice _ _ _ (by rw [List.length_replicate]; omega)
  by_cases hi : i < B.length
  · have g1 := getD_splice B a (List.replicate j 0) (by rw [List.length_replicate]; omega) i
    have g2 := getD_splice B a (List.replicate (j + 1) 0) (by rw [List.length_replicate]; omega) i
    rw [getD_rep, List.length_replicate] at g1 g2
    rw [List.getElem?_set]
    rw [List.getD_eq_getElem?_getD, List.getElem?_eq_getElem (by omega)] at g1 g2
    rw [List.getElem?_eq_getElem (l := splice B a (List.replicate (j + 1) 0)) (by omega)]
    simp only [Option.getD_some] at g1 g2
    by_cases hij : a + j = i
    · rw [if_pos hij, if_pos (by omega), g2, if_pos (by omega)]
    · rw [if_neg hij, List.getElem?_eq_getElem (by omega), g1, g2]
      by_cases h3 : a ≤ i ∧ i < a + j
      · rw [if_pos h3, if_pos (by omega)]
      · rw [if_neg h3, if_neg (by omega)]
  · rw [List.getElem?_eq_none (by simp; omega), List.getElem?_eq_none (by omega)]
theorem len_splice_rep (B : List UInt8) (a j : Nat) (h : j = 0 ∨ a + j ≤ B.length) : (splice B a (List.replicate j (0 : UInt8))).length = B.length := by
  unfold splice
  simp only [List.length_append, List.length_take, List.length_drop, List.length_replicate]
  omega

set_option maxRecDepth 100000 in
set_option maxHeartbeats 8000000 in
theorem rpunch_0 {w : World} {v : Value} {B : List UInt8} {On : List Nat} (h : RSh w v B On) (a n : Nat) (hf : punchOk a n = true) (hcase : n = 0) :
    Calls Try.prog 68 #[v, .int .i64 (a : Int), .int .i64 (n : Int)] w fun e w' => ∃ v', e = .returned (.tuple #[v', .bool (punchOk (a : Int) (n : Int))]) ∧ RSh w' v' (rpB B (a : Int) (n : Int)) (rpOn B On (a : Int) (n : Int)) ∧ Below w.heap.size w w' := by
  have HR := Lib.hid h
  obtain ⟨⟨A, c, A', c', rfl, h1, h2, h3, h4, h5, h6, h7⟩, hlb, hlo, hsm⟩ := h
  have HA := Lib.hid h4
  have HA' := Lib.hid h5
  have HCO := Lib.hid h6
  have H1 := Lib.hid h1
  have H2 := Lib.hid h2
  have HSm := Lib.hid hsm
  clear h1 h2 h4 h5 h6 h7 hsm
  have hB0 : Below w.heap.size w (w.alloc (.cells #[.slice A B.length c, .slice A' On.length c'] 30)) := (Below.refl _ _).alloc (Nat.le_refl _) _
  have same : ∀ (w' : World) (B' : List UInt8) (On' : List Nat), Below w.heap.size w w' → B' = B → On' = On → RSh w' (.agg #[.slice A B.length c, .slice A' On.length c']) B' On' := fun w' B' On' hb e1 e2 => by rw [e1, e2]; exact HR.out.below hb
  have SAME := Lib.hid same
  have HB0 := Lib.hid hB0
  clear hB0 same
  obtain ⟨ha, hn, hn1, ha1⟩ := of_decide_eq_true hf
  have E1 := Lib.hid (show rpB B a n = splice B a (List.replicate (min n (B.length - a)) 0) by unfold rpB; rw [if_pos hf, Int.toNat_natCast, Int.toNat_natCast])
  have E2 := Lib.hid (show rpOn B On a n = On.filter (fun k => decide (n = 0 ∨ 16 * k < a ∨ a + n < min (16 * k + 16) B.length)) by unfold rpOn; rw [if_pos hf, Int.toNat_natCast, Int.toNat_natCast])
  have t1 : decide ((a : Int) < 0) = false := by rw [decide_eq_false_iff_not]; omega
  have t2 : decide ((n : Int) < 0) = false := by rw [decide_eq_false_iff_not]; omega
  have t3 : decide (1048576 < (n : Int)) = false := by rw [decide_eq_false_iff_not]; omega
  have t4 : decide (1048576 - (n : Int) < (a : Int)) = false := by rw [decide_eq_false_iff_not]; omega
  have han : a + n ≤ 1048576 := by omega
  have HOk := Lib.hid hf
  have HN0 := Lib.hid hcase
  have t5 : ((n : Int) == 0) = true := by rw [beq_iff_eq]; omega
  have hcase' : n ≤ 0 := by omega
  clear hf hcase
  obtain ⟨w2, hw2⟩ : ∃ w2, (w.alloc (.cells #[.slice A B.length c, .slice A' On.length c'] 30)).alloc (.cells #[.slice none 0 0, .slice none 0 0] 30) = w2 := ⟨_, rfl⟩
  have hs2 : w2.heap.size = w.heap.size + 2 := by rw [← hw2]; simp
  have hx2 : w2.heap[w.heap.size]? = some (.cells #[.slice A B.length c, .slice A' On.length c'] 30 (0, 0)) := by rw [← hw2]; exact heap_alloc2_old _ _ _
  have hz2 : w2.heap[w.heap.size + 1]? = some (.cells #[.slice none 0 0, .slice none 0 0] 30 (0, 0)) := by rw [← hw2]; exact heap_alloc2_new _ _ _
  have hB2 : Below w.heap.size w w2 := by rw [← hw2]; exact HB0.out.alloc (by simp) _
  have HX2 := Lib.hid hx2
  have HZ2 := Lib.hid hz2
  have HB2 := Lib.hid hB2
  have HW2 := Lib.hid hw2
  have HS2 := Lib.hid hs2
  clear hs2 hx2 hz2 hB2 hw2 SAME
  have hO := Own.empty w2 (w.heap.size + 2) 5 1 byteC (g := w.heap.size + 1 + 1) HS2.out (Nat.le_refl _)
  rw [← HW2.out] at hO
  have hR := (H1.out.below HB2.out).alloc (by have := HS2.out; omega) (.cells #[] 5)
  rw [← HW2.out] at hR
  have HO := Lib.hid hO
  have HRr := Lib.hid hR
  clear hO hR
  go_enter Try.func68, Try.ntmps68
  go_wp2_with (refine wpList_appL rfl (.tmp 31) (.tmp 33) 27 rfl 5 1 1 byteC byteT _ (w.heap.size + 2) (.slice (some ⟨w.heap.size + 1 + 1, 0, none⟩) 0 0) [] B A c w.heap.size rfl rfl HO.out HRr.out HA.out (by simp [maxLen] <;> omega) (by simp <;> omega) (by simp <;> omega) ?_)
  intro v1 w1 hown1 hgr1
  have HO1 := Lib.hid hown1
  have HB1 := Lib.hid (show Below (w.heap.size + 2) w2 w1 from by
    have := HO.out.grown (B := w.heap.size + 2) (w0 := w2) (by rw [← HW2.out]; exact (Below.refl _ _).alloc (by simp) _) hgr1 (Nat.le_refl _) (by simp)
    exact this)
  clear hown1 hgr1 HO HRr
  go_wp2
  clear t1 t2 t3 t4
  obtain ⟨Ax, cx, hvx, hlx, hcx, hAx, hAn⟩ := HO1.out.val
  subst hvx
  have HAx := Lib.hid hAx
  clear hAx hAn
  go_loopw [9] (fun vi wr => ∃ j : Nat, j ≤ n ∧ (j = 0 ∨ a + j ≤ B.length) ∧ vi = .int .i64 ((a + j : Nat) : Int) ∧ Own wr (w.heap.size + 2) 5 1 byteC (.slice Ax B.length cx) (splice B a (List.replicate j 0)) ∧ Below (w.heap.size + 2) w2 wr) (fun vi _ => a + n - (intOf vi).toNat)
  case atStart => exact ⟨0, Nat.zero_le _, .inl rfl, by simp, by simpa [splice] using HO1.out, HB1.out⟩
  case round =>
    obtain ⟨j, hj, hjl, rfl, hown, hbr⟩ := hrel
    have hXl : (splice B a (List.replicate j (0 : UInt8))).length = B.length := len_splice_rep B a j hjl
    have hsz : w.heap.size + 2 ≤ wr.heap.size := by have := hbr.size; have := HS2.out; omega
    have HO := Lib.hid hown
    have HB := Lib.hid hbr
    clear hown hbr HO1 HB1
    have HXl := Lib.hid hXl
    clear hXl
    by_cases hlt : j < n ∧ a + j < B.length
    · exact absurd hlt.1 (by omega)
    · generalize hX : splice B a (List.replicate j (0 : UInt8)) = X at *
      have HXp := Lib.hid (show X = splice B a (List.replicate (min n (B.length - a)) 0) by rw [← hX, show j = min n (B.length - a) by omega])
      have hx2 : B.length ≤ 1048576 := hlb
      have hlt' : n ≤ j := by omega
      clear hX hlt hj hjl
      obtain ⟨w4, rfl⟩ : ∃ w4 : World, w4 = wr := ⟨_, rfl⟩
      have HO4 := HO
      have HB4 := HB
      clear HO HB
      generalize hp : (fun k : Nat => decide (n = 0 ∨ 16 * k < a ∨ a + n < min (16 * k + 16) B.length)) = p at E2
      have HP := Lib.hid hp
      clear hp
      go_wp2
      go_loopw [10, 11] (fun vo vi wr => ∃ i : Nat, i ≤ On.length ∧ vi = .int .i64 (i : Int) ∧ Own wr w4.heap.size 3 1 numC vo ((On.take i).filter p) ∧ Below w4.heap.size w4 wr) (fun _ vi _ => On.length - (intOf vi).toNat)
      case atStart => exact ⟨0, Nat.zero_le _, rfl, Own.nil _ _ _ _ _, Below.refl _ _⟩
      case round =>
        obtain ⟨i, hi, rfl, hown, hbr⟩ := hrel
        have HO := Lib.hid hown
        have HB := Lib.hid hbr
        have hsz4 := hbr.size
        clear hown hbr
        have hxb := (HB.out.block w.heap.size (by omega)).trans ((HB4.out.block w.heap.size (by omega)).trans HX2.out)
        have c0 : wr.cell? ⟨w.heap.size, 0, none⟩ = _ := cell_at hxb 0
        have c1 : wr.cell? ⟨w.heap.size, 1, none⟩ = _ := cell_at hxb 1
        clear hxb
        have hol : ((On.take i).filter p).length ≤ i := Nat.le_trans (List.length_filter_le _ _) (by rw [List.length_take]; omega)
        by_cases hin : i < On.length
        · have HS := Lib.hid (filter_succ p hin)
          obtain ⟨ad, hA', had⟩ := H2.out.addr hin
          subst hA'
          have hc : wr.cell? (ad.add i) = some (.int .i64 (On[i] : Int)) := (((H2.out.below HB2.out).below (HB4.out.mono (by omega))).below (HB.out.mono (by omega))).at1 hin rfl
          have HPx := Lib.hid (show p On[i] = decide (n = 0 ∨ 16 * On[i] < a ∨ a + n < min (16 * On[i] + 16) B.length) by rw [← HP.out])
          have hxs := HSm.out _ (List.getElem_mem hin)
          generalize On[i] = x at *
          generalize (On.take i).filter p = out at *
          go_wp2_with (refine wpList_app1 rfl (.tmp 87) (.tmp 93) 28 rfl 3 1 8 numC intT wr w4.heap.size _ out x _ _ _ rfl rfl rfl HO.out (by unfold maxLen; omega) (by omega) hsz4 ?_)
          all_goals first
            | (intro v5 w5 hown5 hgr5
               have HE := Lib.hid (show p x = true by rw [HPx.out]; have := HN0.out; exact decide_eq_true (by omega))
               have HO5 := Lib.hid hown5
               have HB5 := Lib.hid (HO.out.grown HB.out hgr5 (Nat.le_refl _) hsz4)
               clear hown5 hgr5
               go_wp2
               go_roundw
               case rel => exact ⟨i + 1, by omega, by go_num, by rw [HS.out, HE.out]; exact HO5.out, HB5.out⟩
               case measure => simp [intOf]; omega)
            | (have HE := Lib.hid (show p x = false by rw [HPx.out]; have := HN0.out; exact decide_eq_false (by omega))
               go_roundw
               case rel => exact ⟨i + 1, by omega, by go_num, by rw [HS.out, HE.out]; simpa using HO.out, HB.out⟩
               case measure => simp [intOf]; omega)
        · have HOn := Lib.hid (show (On.take i).filter p = On.filter p by rw [List.take_of_length_le (by omega)])
          have hO5 := HO.out
          rw [HOn.out] at hO5
          obtain ⟨Al, cl, rfl, hl1, hl2, hl3, -⟩ := hO5.rd0 (fun _ => rfl)
          have HT5 := Lib.hid hO5.tag
          have HL1 := Lib.hid hl1
          have HL2 := Lib.hid hl2
          have HL3 := Lib.hid hl3
          have HLl := Lib.hid (List.length_filter_le p On)
          clear hO5 hl1 hl2 hl3 hol HO
          have HZq := Lib.hid ((HB.out.block (w.heap.size + 1) (by omega)).trans ((HB4.out.block (w.heap.size + 1) (by omega)).trans HZ2.out))
          have HSf := Lib.hid (show ∀ k ∈ On.filter p, k < 65536 from fun k hk => HSm.out k (List.mem_filter.1 hk).1)
          generalize On.filter p = L at *
          have HO4r := HO4.out.below HB.out (Nat.le_refl _)
          have hcx : B.length ≤ cx := by omega
          have h1c : ∀ v ∈ (#[Value.slice Ax B.length cx, Value.slice Al L.length cl] : Array Value).toList, v.oneCell' = true := by
            intro v hv
            simp at hv
            rcases hv with rfl | rfl <;> rfl
          have H1c := Lib.hid h1c
          have HO4r := Lib.hid HO4r
          clear h1c
          go_wp2_with (refine wpList_store_row rfl 30 (.tmp 6) (.tmp 97) rfl wr (w.heap.size + 1) _ _ _ rfl rfl HZq.out rfl sheetI H1c.out ?_)
          intro w7 hg7 hgr7
          have HG7 := Lib.hid hg7
          have hB7 : Below w.heap.size w w7 := Below.grown (HB2.out.trans ((HB4.out.mono (by omega)).trans (HB.out.mono (by omega)))) hgr7 (by omega) (fun k hk => by injection hk with hk; omega)
          have HB7 := Lib.hid hB7
          have hne : (Value.slice Ax B.length cx).ownBlock ≠ some (w.heap.size + 1) := fun e => by have := (HO4r.out.lt _ e).1; omega
          have hO7 : Own w7 (w.heap.size + 2) 5 1 byteC (.slice Ax B.length cx) X := HO4r.out.kept hgr7 (.inr hne)
          obtain ⟨A8, c8, e8, h81, h82, h83, -⟩ := hO7.rd0 (fun _ => rfl)
          rw [HXl.out] at e8 h81
          obtain ⟨rfl, -, rfl⟩ := Value.slice.inj e8
          have h9 := (HL3.out.off1 (w' := w7) (g := w.heap.size + 1) HZq.out (fun v hv => by simp at hv; rcases hv with rfl | rfl <;> exact ⟨_, _, _, rfl⟩) (fun k hk hne => hgr7.block k hk (fun e => hne (by injection e)))).more hgr7.size
          have hXn : X.length = B.length := HXl.out
          have HFin := Lib.hid (show RSh w7 (.agg #[.slice Ax B.length cx, .slice Al L.length cl]) (rpB B (a : Int) (n : Int)) (rpOn B On (a : Int) (n : Int)) from by
            rw [E1.out, E2.out, ← HXp.out]
            exact ⟨⟨_, _, _, _, by rw [hXn], h83, h9, by rw [hXn]; exact hcx, h82, HL2.out, HL1.out, HT5.out.grown hgr7 HZq.out (by decide)⟩, by rw [hXn]; omega, by have := HLl.out; omega, HSf.out⟩)
          clear hg7 hgr7 hB7 hO7 e8 h81 h82 h83 h9
          go_wp2
          rw [show punchOk (a : Int) (n : Int) = true from HOk.out]
          exact end_cell_tmp (p := 6) (u := 7) (ty := 30) (by kernel_rfl) rfl HG7.out sheetT rfl sheetI rfl rfl ⟨_, rfl, HFin.out, HB7.out⟩
end Go.Proofs.Ytpcjmefchclhhaa

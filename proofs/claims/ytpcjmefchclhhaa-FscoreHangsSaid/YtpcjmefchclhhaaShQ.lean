/- The reference's Cut and Punch. -/
import Derived.Test.YtpcjmefchclhhaaShP
namespace Go.Proofs.Ytpcjmefchclhhaa
open Go.RowKit Go.MapKept

theorem filter_succ (p : Nat → Bool) {l : List Nat} {i : Nat} (h : i < l.length) : (l.take (i + 1)).filter p = (l.take i).filter p ++ if p l[i] then [l[i]] else [] := by
  rw [List.take_succ_eq_append_getElem h, List.filter_append]
  cases hp : p l[i] <;> simp [hp]

set_option maxRecDepth 100000 in
set_option maxHeartbeats 4000000 in
theorem rcut_any {w : World} {v : Value} {B : List UInt8} {On : List Nat} (h : RSh w v B On) (n : Int) :
    Calls Try.prog 67 #[v, .int .i64 n] w fun e w' => ∃ v', e = .returned (.tuple #[v', .bool (cutOk n)]) ∧ RSh w' v' (rcB B n) (rcOn B On n) ∧ Below w.heap.size w w' := by
  have HR := Lib.hid h
  obtain ⟨⟨A, c, A', c', rfl, h1, h2, h3, h4, h5, h6, h7⟩, hlb, hlo, hsm⟩ := h
  have HA := Lib.hid h4
  have HA' := Lib.hid h5
  have HCO := Lib.hid h6
  have H1 := Lib.hid h1
  have H2 := Lib.hid h2
  have HSm := Lib.hid hsm
  clear h1 h2 h4 h5 h6 h7 hsm
  have hB0 : Below w.heap.size w (w.alloc (.cells #[.slice A B.length c, .slice A' On.length c'] 30)) := (Below.refl _ _).alloc (Nat.le_refl _) _
  have same : ∀ (w' : World) (B' : List UInt8) (On' : List Nat), Below w.heap.size w w' → B' = B → On' = On → RSh w' (.agg #[.slice A B.length c, .slice A' On.length c']) B' On' := fun w' B' On' hb e1 e2 => by rw [e1, e2]; exact HR.out.below hb
  have SAME := Lib.hid same
  have HB0 := Lib.hid hB0
  clear hB0 same
  cases hf : cutOk n
  · have E1 := Lib.hid (show rcB B n = B by unfold rcB; rw [hf]; rfl)
    have E2 := Lib.hid (show rcOn B On n = On by unfold rcOn; rw [hf]; rfl)
    have t0 := of_decide_eq_false hf
    have t1 : decide (n < 0) = true ∨ decide (n < 0) = false ∧ decide (1048576 < n) = true := by
      simp only [decide_eq_true_eq, decide_eq_false_iff_not]; omega
    clear t0 hf
    rcases t1 with t1 | ⟨t1, t2⟩
    all_goals
      go_enter Try.func67, Try.ntmps67
      go_wp2
      exact end_cell_tmp (p := 4) (u := 5) (ty := 30) (by kernel_rfl) rfl (heap_alloc2_new _ _ _) sheetT rfl sheetI rfl rfl ⟨_, rfl, SAME.out _ _ _ (HB0.out.alloc (by simp) _) E1.out E2.out, HB0.out.alloc (by simp) _⟩
  · obtain ⟨ha, hn1⟩ := of_decide_eq_true hf
    obtain ⟨n, rfl⟩ := Int.eq_ofNat_of_zero_le ha
    have E1 := Lib.hid (show rcB B n = (padTo B n).take n by unfold rcB; rw [if_pos hf, Int.toNat_natCast])
    have E2 := Lib.hid (show rcOn B On n = On.filter (fun k => decide (16 * k < n ∨ B.length ≤ n)) by unfold rcOn; rw [if_pos hf, Int.toNat_natCast])
    have t1 : decide ((n : Int) < 0) = false := by rw [decide_eq_false_iff_not]; omega
    have t2 : decide (1048576 < (n : Int)) = false := by rw [decide_eq_false_iff_not]; omega
    clear hf
    obtain ⟨w2, hw2⟩ : ∃ w2, (w.alloc (.cells #[.slice A B.length c, .slice A' On.length c'] 30)).alloc (.cells #[.slice none 0 0, .slice none 0 0] 30) = w2 := ⟨_, rfl⟩
    have hs2 : w2.heap.size = w.heap.size + 2 := by rw [← hw2]; simp
    have hx2 : w2.heap[w.heap.size]? = some (.cells #[.slice A B.length c, .slice A' On.length c'] 30 (0, 0)) := by rw [← hw2]; exact heap_alloc2_old _ _ _
    have hz2 : w2.heap[w.heap.size + 1]? = some (.cells #[.slice none 0 0, .slice none 0 0] 30 (0, 0)) := by rw [← hw2]; exact heap_alloc2_new _ _ _
    have hB2 : Below w.heap.size w w2 := by rw [← hw2]; exact HB0.out.alloc (by simp) _
    have HX2 := Lib.hid hx2
    have HZ2 := Lib.hid hz2
    have HB2 := Lib.hid hB2
    have HW2 := Lib.hid hw2
    have HS2 := Lib.hid hs2
    clear hs2 hx2 hz2 hB2 hw2 SAME
    have hO := Own.empty w2 (w.heap.size + 2) 5 1 byteC (g := w.heap.size + 1 + 1) HS2.out (Nat.le_refl _)
    rw [← HW2.out] at hO
    have hR := (H1.out.below HB2.out).alloc (by have := HS2.out; omega) (.cells #[] 5)
    rw [← HW2.out] at hR
    have HO := Lib.hid hO
    have HRr := Lib.hid hR
    clear hO hR
    go_enter Try.func67, Try.ntmps67
    go_wp2_with (refine wpList_appL rfl (.tmp 16) (.tmp 18) 27 rfl 5 1 1 byteC byteT _ (w.heap.size + 2) (.slice (some ⟨w.heap.size + 1 + 1, 0, none⟩) 0 0) [] B A c w.heap.size rfl rfl HO.out HRr.out HA.out (by simp [maxLen] <;> omega) (by simp <;> omega) (by simp <;> omega) ?_)
    intro v1 w1 hown1 hgr1
    have HO1 := Lib.hid hown1
    have HB1 := Lib.hid (show Below (w.heap.size + 2) w2 w1 from by
      have := HO.out.grown (B := w.heap.size + 2) (w0 := w2) (by rw [← HW2.out]; exact (Below.refl _ _).alloc (by simp) _) hgr1 (Nat.le_refl _) (by simp)
      exact this)
    clear hown1 hgr1 HO HRr
    go_wp2
    clear t1 t2
    go_loopw [6] (fun vx wr => ∃ j : Nat, j ≤ n - B.length ∧ Own wr (w.heap.size + 2) 5 1 byteC vx (B ++ List.replicate j 0) ∧ Below (w.heap.size + 2) w2 wr) (fun vx _ => match vx with | .slice _ m _ => n - m | _ => 0)
    case atStart => exact ⟨0, Nat.zero_le _, by simpa using HO1.out, HB1.out⟩
    case round =>
      obtain ⟨j, hj, hown, hbr⟩ := hrel
      obtain ⟨Ax, cx, rfl, hlx, hcx, _, -⟩ := hown.val
      have hXl : (B ++ List.replicate j (0 : UInt8)).length = B.length + j := by simp
      rw [hXl] at hown hlx ⊢
      have hsz : w.heap.size + 2 ≤ wr.heap.size := by have := hbr.size; have := HS2.out; omega
      have HO := Lib.hid hown
      have HB := Lib.hid hbr
      clear hown hbr HO1 HB1
      have HXl := Lib.hid hXl
      clear hXl
      by_cases hlt : B.length + j < n
      · go_wp2_with (refine wpList_app1 rfl (.tmp 24) (.tmp 25) 27 rfl 5 1 1 byteC byteT wr (w.heap.size + 2) (.slice Ax (B.length + j) cx) (B ++ List.replicate j 0) 0 _ _ _ rfl rfl rfl HO.out (by rw [HXl.out]; unfold maxLen; omega) (by rw [HXl.out]; omega) hsz ?_)
        intro v2 w3 hown2 hgr2
        have HB2' := Lib.hid (HO.out.grown HB.out hgr2 (Nat.le_refl _) hsz)
        rw [← List.replicate_succ'] at hown2
        have HO2 := Lib.hid hown2
        obtain ⟨A2, c2, hv2, -⟩ := hown2.val
        have HV2 := Lib.hid hv2
        clear hown2 hgr2 hv2
        go_wp2
        go_roundw
        case rel => exact ⟨j + 1, by omega, HO2.out, HB2'.out⟩
        case measure => rw [HV2.out]; simp; omega
      · generalize hX : B ++ List.replicate j (0 : UInt8) = X at *
        have HXp := Lib.hid (show X = padTo B n by rw [← hX]; unfold padTo; rw [show j = n - B.length by omega])
        have hx1 : n ≤ B.length + j := by omega
        have hx2 : B.length + j ≤ 1048576 := by omega
        clear hX hlt hj
        obtain ⟨w4, rfl⟩ : ∃ w4 : World, w4 = wr := ⟨_, rfl⟩
        have HO4 := HO
        have HB4 := HB
        clear HO HB
        generalize hp : (fun k : Nat => decide (16 * k < n ∨ B.length ≤ n)) = p at E2
        have HP := Lib.hid hp
        clear hp
        go_wp2
        go_loopw [7, 8] (fun vo vi wr => ∃ i : Nat, i ≤ On.length ∧ vi = .int .i64 (i : Int) ∧ Own wr w4.heap.size 3 1 numC vo ((On.take i).filter p) ∧ Below w4.heap.size w4 wr) (fun _ vi _ => On.length - (intOf vi).toNat)
        case atStart => exact ⟨0, Nat.zero_le _, rfl, Own.nil _ _ _ _ _, Below.refl _ _⟩
        case round =>
          obtain ⟨i, hi, rfl, hown, hbr⟩ := hrel
          have HO := Lib.hid hown
          have HB := Lib.hid hbr
          have hsz4 := hbr.size
          clear hown hbr
          have hxb := (HB.out.block w.heap.size (by omega)).trans ((HB4.out.block w.heap.size (by omega)).trans HX2.out)
          have c0 : wr.cell? ⟨w.heap.size, 0, none⟩ = _ := cell_at hxb 0
          have c1 : wr.cell? ⟨w.heap.size, 1, none⟩ = _ := cell_at hxb 1
          clear hxb
          have hol : ((On.take i).filter p).length ≤ i := Nat.le_trans (List.length_filter_le _ _) (by rw [List.length_take]; omega)
          by_cases hin : i < On.length
          · have HS := Lib.hid (filter_succ p hin)
            obtain ⟨ad, hA', had⟩ := H2.out.addr hin
            subst hA'
            have hc : wr.cell? (ad.add i) = some (.int .i64 (On[i] : Int)) := (((H2.out.below HB2.out).below (HB4.out.mono (by omega))).below (HB.out.mono (by omega))).at1 hin rfl
            have HPx := Lib.hid (show p On[i] = decide (16 * On[i] < n ∨ B.length ≤ n) by rw [← HP.out])
            have hxs := HSm.out _ (List.getElem_mem hin)
            generalize On[i] = x at *
            generalize (On.take i).filter p = out at *
            have hcs : 16 * x < n ∨ ¬ 16 * x < n ∧ B.length ≤ n ∨ ¬ 16 * x < n ∧ ¬ B.length ≤ n := by omega
            rcases hcs with h1 | ⟨h1, h2⟩ | ⟨h1, h2⟩
            case inr.inr =>
              have HE := Lib.hid (show p x = false by rw [HPx.out]; exact decide_eq_false (by omega))
              go_wp2
              go_roundw
              case rel => exact ⟨i + 1, by omega, by go_num, by rw [HS.out, HE.out]; simpa using HO.out, HB.out⟩
              case measure => simp [intOf]; omega
            all_goals
              have HE := Lib.hid (show p x = true by rw [HPx.out]; exact decide_eq_true (by omega))
              go_wp2_with (refine wpList_app1 rfl (.tmp 49) (.tmp 55) 28 rfl 3 1 8 numC intT wr w4.heap.size _ out x _ _ _ rfl rfl rfl HO.out (by unfold maxLen; omega) (by omega) hsz4 ?_)
              intro v5 w5 hown5 hgr5
              have HO5 := Lib.hid hown5
              have HB5 := Lib.hid (HO.out.grown HB.out hgr5 (Nat.le_refl _) hsz4)
              clear hown5 hgr5
              go_wp2
              go_roundw
              case rel => exact ⟨i + 1, by omega, by go_num, by rw [HS.out, HE.out]; exact HO5.out, HB5.out⟩
              case measure => simp [intOf]; omega
          · have HOn := Lib.hid (show (On.take i).filter p = On.filter p by rw [List.take_of_length_le (by omega)])
            have hO5 := HO.out
            rw [HOn.out] at hO5
            obtain ⟨Al, cl, rfl, hl1, hl2, hl3, -⟩ := hO5.rd0 (fun _ => rfl)
            have HT5 := Lib.hid hO5.tag
            have HL1 := Lib.hid hl1
            have HL2 := Lib.hid hl2
            have HL3 := Lib.hid hl3
            have HLl := Lib.hid (List.length_filter_le p On)
            clear hO5 hl1 hl2 hl3 hol HO
            have HZq := Lib.hid ((HB.out.block (w.heap.size + 1) (by omega)).trans ((HB4.out.block (w.heap.size + 1) (by omega)).trans HZ2.out))
            have HSf := Lib.hid (show ∀ k ∈ On.filter p, k < 65536 from fun k hk => HSm.out k (List.mem_filter.1 hk).1)
            generalize On.filter p = L at *
            have HO4r := HO4.out.below HB.out (Nat.le_refl _)
            have hcx : n ≤ cx := by omega
            have h1c : ∀ v ∈ (#[Value.slice Ax n cx, Value.slice Al L.length cl] : Array Value).toList, v.oneCell' = true := by
              intro v hv
              simp at hv
              rcases hv with rfl | rfl <;> rfl
            have H1c := Lib.hid h1c
            have HO4r := Lib.hid HO4r
            clear h1c
            go_wp2_with (refine wpList_store_row rfl 30 (.tmp 4) (.tmp 61) rfl wr (w.heap.size + 1) _ _ _ rfl rfl HZq.out rfl sheetI H1c.out ?_)
            intro w7 hg7 hgr7
            have HG7 := Lib.hid hg7
            have hB7 : Below w.heap.size w w7 := Below.grown (HB2.out.trans ((HB4.out.mono (by omega)).trans (HB.out.mono (by omega)))) hgr7 (by omega) (fun k hk => by injection hk with hk; omega)
            have HB7 := Lib.hid hB7
            have hne : (Value.slice Ax (B.length + j) cx).ownBlock ≠ some (w.heap.size + 1) := fun e => by have := (HO4r.out.lt _ e).1; omega
            have hO7 : Own w7 (w.heap.size + 2) 5 1 byteC (.slice Ax (B.length + j) cx) X := HO4r.out.kept hgr7 (.inr hne)
            obtain ⟨A8, c8, e8, h81, h82, h83, -⟩ := hO7.rd0 (fun _ => rfl)
            rw [HXl.out] at e8 h81
            obtain ⟨rfl, -, rfl⟩ := Value.slice.inj e8
            have h9 := (HL3.out.off1 (w' := w7) (g := w.heap.size + 1) HZq.out (fun v hv => by simp at hv; rcases hv with rfl | rfl <;> exact ⟨_, _, _, rfl⟩) (fun k hk hne => hgr7.block k hk (fun e => hne (by injection e)))).more hgr7.size
            have hXn : (X.take n).length = n := by rw [List.length_take, HXl.out]; omega
            have HFin := Lib.hid (show RSh w7 (.agg #[.slice Ax n cx, .slice Al L.length cl]) (rcB B (n : Int)) (rcOn B On (n : Int)) from by
              rw [E1.out, E2.out, ← HXp.out]
              exact ⟨⟨_, _, _, _, by rw [hXn], h83.take n, h9, by rw [hXn]; exact hcx, h82, HL2.out, HL1.out, HT5.out.grown hgr7 HZq.out (by decide)⟩, by rw [hXn]; omega, by have := HLl.out; omega, HSf.out⟩)
            clear hg7 hgr7 hB7 hO7 e8 h81 h82 h83 h9
            go_wp2
            exact end_cell_tmp (p := 4) (u := 5) (ty := 30) (by kernel_rfl) rfl HG7.out sheetT rfl sheetI rfl rfl ⟨_, rfl, HFin.out, HB7.out⟩
end Go.Proofs.Ytpcjmefchclhhaa

/- The reference's Write. -/
import Derived.Test.YtpcjmefchclhhaaShO
import Derived.Test.YtpcjmefchclhhaaRes
namespace Go.Proofs.Ytpcjmefchclhhaa
open Go.RowKit Go.MapKept

theorem sheetT : Try.prog.underlying 30 = some (.struct (Try.prog.fieldsOf 30)) := by kernel_rfl
theorem sheetI : (Try.prog.info? 30).map (·.size) = some 2 := by kernel_rfl
theorem len_insK (k : Nat) : ∀ l : List Nat, (insK k l).length ≤ l.length + 1
  | [] => by simp [insK]
  | x :: l => by
    unfold insK
    split
    · have := List.length_filter_le (· ≠ k) (x :: l)
      simp only [List.length_cons] at *
      omega
    · have := len_insK k l
      simp only [List.length_cons]
      omega
theorem len_rwOnL (On : List Nat) (a : Nat) : ∀ n, (rwOnL On a n).length ≤ On.length + n
  | 0 => Nat.le_refl _
  | n + 1 => by
    rw [rwOnL_succ]
    have := len_rwOnL On a n
    split
    · have := len_insK ((a + n) / 16) (rwOnL On a n); omega
    · omega

/-- Numbers that are read do not lie where slices lie. -/
theorem Rd.off1 {w w' : World} {B g : Nat} {A : Option Addr} {l : List Nat} (h : Rd w B 1 numC A l) {cs : Array Value} {t : TypeId} {fr : Nat × Nat} (hg : w.heap[g]? = some (.cells cs t fr)) (hcs : ∀ v ∈ cs.toList, ∃ a b c, v = .slice a b c)
    (hb : ∀ k, k < w.heap.size → k ≠ g → w'.heap[k]? = w.heap[k]?) : Rd w' B 1 numC A l := fun i x hx => by
  obtain ⟨a, e, hB, hc⟩ := h i x hx
  refine ⟨a, e, hB, fun j v hv => ?_⟩
  have h1 := hc j v hv
  have hne : ((a.add (i * 1)).add j).block ≠ g := by
    intro heq
    generalize (a.add (i * 1)).add j = p at *
    have hj : v = .int .i64 (x : Int) := by
      match j, hv with
      | 0, hv => simpa [numC] using hv.symm
      | j + 1, hv => simp [numC] at hv
    rw [← heq] at hg
    simp only [World.cell?, hg] at h1
    split at h1
    · cases h1
    · obtain ⟨a1, b1, c1, e1⟩ := hcs v (by obtain ⟨hlt, he⟩ := Array.getElem?_eq_some_iff.1 h1; rw [← he]; simp)
      rw [hj] at e1
      cases e1
  rw [World.cell?_of_block (w := w) (hb _ (block_lt_of_cell h1) hne)]
  exact h1

set_option maxRecDepth 100000 in
set_option maxHeartbeats 4000000 in
theorem rwrite_any {w : World} {v : Value} {B : List UInt8} {On : List Nat} (h : RSh w v B On) (a : Int) (b : List UInt8) (Ab : Option Addr) (cb : Nat) (hn : b.length ≤ maxLen) (hbc : b.length ≤ cb) (hrd : Rd w w.heap.size 1 byteC Ab b) (hOn : (rwOn On a b.length).length ≤ 65536) :
    Calls Try.prog 28 #[v, .int .i64 a, .slice Ab b.length cb] w fun e w' => ∃ v', e = .returned (.tuple #[v', .bool (fitsB a b.length)]) ∧ RSh w' v' (rwB B a b) (rwOn On a b.length) ∧ Below w.heap.size w w' := by
  have HF := fun w => Lib.hid (rfits_any a b.length hn w)
  have hO0 := hOn
  generalize hnn : b.length = n at *
  have HN := Lib.hid hnn
  have HOn := Lib.hid hOn
  have HRb := Lib.hid hrd
  clear hnn hOn hO0 hrd
  unfold maxLen at hn
  have HR := Lib.hid h
  obtain ⟨⟨A, c, A', c', rfl, h1, h2, h3, h4, h5, h6, h7⟩, hlb, hlo, hsm⟩ := h
  have HA := Lib.hid h4
  have HA' := Lib.hid h5
  have HCO := Lib.hid h6
  have H1 := Lib.hid h1
  have H2 := Lib.hid h2
  have HSm := Lib.hid hsm
  have HTg := Lib.hid h7
  clear h1 h2 h4 h5 h6 h7 hsm
  have hB0 : Below w.heap.size w (w.alloc (.cells #[.slice A B.length c, .slice A' On.length c'] 30)) := (Below.refl _ _).alloc (Nat.le_refl _) _
  have same : ∀ (w' : World), Below w.heap.size w w' → rwB B a b = B → rwOn On a n = On → RSh w' (.agg #[.slice A B.length c, .slice A' On.length c']) (rwB B a b) (rwOn On a n) := fun w' hb e1 e2 => by rw [e1, e2]; exact HR.out.below hb
  have SAME := Lib.hid same
  have HB0 := Lib.hid hB0
  clear hB0 same
  cases hf : fitsB a n
  · rw [hf] at HF
    have E1 := Lib.hid (show rwB B a b = B by unfold rwB; rw [HN.out, hf]; simp)
    have E2 := Lib.hid (show rwOn On a n = On by unfold rwOn; rw [hf]; rfl)
    clear hf
    go_enter Try.func28, Try.ntmps28
    go_wp2_with (go_at_call 52; (with_reducible refine (HF _).out.mono ?_); rintro e w1 ⟨rfl, rfl⟩)
    exact end_cell_tmp (p := 6) (u := 7) (ty := 30) (by kernel_rfl) rfl (heap_alloc2_new _ _ _) sheetT rfl sheetI rfl rfl ⟨_, rfl, SAME.out _ (HB0.out.alloc (by simp) _) E1.out E2.out, HB0.out.alloc (by simp) _⟩
  · rw [hf] at HF
    obtain ⟨ha, hn1, ha1⟩ := of_decide_eq_true hf
    obtain ⟨a, rfl⟩ := Int.eq_ofNat_of_zero_le ha
    rcases Nat.eq_zero_or_pos n with h0 | h0
    · have E1 := Lib.hid (show rwB B a b = B by unfold rwB; rw [HN.out]; rw [if_neg (by omega)])
      have E2 := Lib.hid (show rwOn On a n = On by unfold rwOn; rw [if_pos hf, h0]; rfl)
      have t0 : ((n : Int) == 0) = true := by rw [beq_iff_eq]; omega
      clear hf h0
      go_enter Try.func28, Try.ntmps28
      go_wp2_with (go_at_call 52; (with_reducible refine (HF _).out.mono ?_); rintro e w1 ⟨rfl, rfl⟩)
      exact end_cell_tmp (p := 6) (u := 7) (ty := 30) (by kernel_rfl) rfl (heap_alloc2_new _ _ _) sheetT rfl sheetI rfl rfl ⟨_, rfl, SAME.out _ (HB0.out.alloc (by simp) _) E1.out E2.out, HB0.out.alloc (by simp) _⟩
    · have E1 := Lib.hid (show rwB B a b = splice (padTo B (a + n)) a b by unfold rwB; rw [HN.out, if_pos ⟨hf, h0⟩, Int.toNat_natCast])
      have E2 := Lib.hid (show rwOn On a n = rwOnL On a n by unfold rwOn; rw [if_pos hf, Int.toNat_natCast])
      have t0 : ((n : Int) == 0) = false := by rw [beq_eq_false_iff_ne]; omega
      clear hf SAME
      obtain ⟨w2, hw2⟩ : ∃ w2, (w.alloc (.cells #[.slice A B.length c, .slice A' On.length c'] 30)).alloc (.cells #[.slice none 0 0, .slice none 0 0] 30) = w2 := ⟨_, rfl⟩
      have hs2 : w2.heap.size = w.heap.size + 2 := by rw [← hw2]; simp
      have hx2 : w2.heap[w.heap.size]? = some (.cells #[.slice A B.length c, .slice A' On.length c'] 30 (0, 0)) := by rw [← hw2]; exact heap_alloc2_old _ _ _
      have hz2 : w2.heap[w.heap.size + 1]? = some (.cells #[.slice none 0 0, .slice none 0 0] 30 (0, 0)) := by rw [← hw2]; exact heap_alloc2_new _ _ _
      have hB2 : Below w.heap.size w w2 := by rw [← hw2]; exact HB0.out.alloc (by simp) _
      have HX2 := Lib.hid hx2
      have HZ2 := Lib.hid hz2
      have HB2 := Lib.hid hB2
      have HW2 := Lib.hid hw2
      have HS2 := Lib.hid hs2
      clear hs2 hx2 hz2 hB2 hw2
      have hO := Own.empty w2 (w.heap.size + 2) 5 1 byteC (g := w.heap.size + 1 + 1) HS2.out (Nat.le_refl _)
      rw [← HW2.out] at hO
      have hR := (H1.out.below HB2.out).alloc (by have := HS2.out; omega) (.cells #[] 5)
      rw [← HW2.out] at hR
      have HO := Lib.hid hO
      have HRr := Lib.hid hR
      clear hO hR
      go_enter Try.func28, Try.ntmps28
      go_wp2_with (first
        | (go_at_call 52; (with_reducible refine (HF _).out.mono ?_); rintro e w1 ⟨rfl, rfl⟩)
        | (refine wpList_appL rfl (.tmp 21) (.tmp 23) 27 rfl 5 1 1 byteC byteT _ (w.heap.size + 2) (.slice (some ⟨w.heap.size + 1 + 1, 0, none⟩) 0 0) [] B A c w.heap.size rfl rfl HO.out HRr.out HA.out (by simp [maxLen] <;> omega) (by simp <;> omega) (by simp <;> omega) ?_))
      intro v1 w1 hown1 hgr1
      have HO1 := Lib.hid hown1
      have HB1 := Lib.hid (show Below (w.heap.size + 2) w2 w1 from by
        have := HO.out.grown (B := w.heap.size + 2) (w0 := w2) (by rw [← HW2.out]; exact (Below.refl _ _).alloc (by simp) _) hgr1 (Nat.le_refl _) (by simp)
        exact this)
      clear hown1 hgr1 HO HRr
      go_wp2
      go_loopw [8] (fun vx wr => ∃ j : Nat, j ≤ a + n - B.length ∧ Own wr (w.heap.size + 2) 5 1 byteC vx (B ++ List.replicate j 0) ∧ Below (w.heap.size + 2) w2 wr) (fun vx _ => match vx with | .slice _ m _ => a + n - m | _ => 0)
      case atStart => exact ⟨0, Nat.zero_le _, by simpa using HO1.out, HB1.out⟩
      case round =>
        obtain ⟨j, hj, hown, hbr⟩ := hrel
        obtain ⟨Ax, cx, rfl, hlx, hcx, _, -⟩ := hown.val
        have hXl : (B ++ List.replicate j (0 : UInt8)).length = B.length + j := by simp
        rw [hXl] at hown hlx ⊢
        have hsz : w.heap.size + 2 ≤ wr.heap.size := by have := hbr.size; have := HS2.out; omega
        have HO := Lib.hid hown
        have HB := Lib.hid hbr
        clear hown hbr HO1 HB1
        have hxb := (HB.out.block w.heap.size (by omega)).trans HX2.out
        have c0 : wr.cell? ⟨w.heap.size, 0, none⟩ = _ := cell_at hxb 0
        have c1 : wr.cell? ⟨w.heap.size, 1, none⟩ = _ := cell_at hxb 1
        have HXl := Lib.hid hXl
        have HXb := Lib.hid hxb
        clear hXl hxb
        by_cases hlt : B.length + j < a + n
        · go_wp2_with (refine wpList_app1 rfl (.tmp 32) (.tmp 33) 27 rfl 5 1 1 byteC byteT wr (w.heap.size + 2) (.slice Ax (B.length + j) cx) (B ++ List.replicate j 0) 0 _ _ _ rfl rfl rfl HO.out (by rw [HXl.out]; unfold maxLen; omega) (by rw [HXl.out]; omega) hsz ?_)
          intro v2 w3 hown2 hgr2
          have HB2' := Lib.hid (HO.out.grown HB.out hgr2 (Nat.le_refl _) hsz)
          rw [← List.replicate_succ'] at hown2
          have HO2 := Lib.hid hown2
          obtain ⟨A2, c2, hv2, -⟩ := hown2.val
          have HV2 := Lib.hid hv2
          clear hown2 hgr2 hv2
          go_wp2
          go_roundw
          case rel => exact ⟨j + 1, by omega, HO2.out, HB2'.out⟩
          case measure => rw [HV2.out]; simp; omega
        · generalize hX : B ++ List.replicate j (0 : UInt8) = X at *
          have HXp := Lib.hid (show X = padTo B (a + n) by rw [← hX]; unfold padTo; rw [show j = a + n - B.length by omega])
          have hx1 : a + n ≤ B.length + j := by omega
          have hx2 : B.length + j ≤ 1048576 := by omega
          clear hX hlt hj
          obtain ⟨g, cap, L, hvv, hgb, hgh, hgn, hgc, hgl, hgt⟩ := Own.row1 (g := byteV) (show Own wr (w.heap.size + 2) 5 1 (fun x => [byteV x]) _ X from HO.out) (by rw [HXl.out]; omega)
          rw [HXl.out] at hvv hgn hgt
          obtain ⟨rfl, -, rfl⟩ := Value.slice.inj hvv
          have HGH := Lib.hid hgh
          have HGL := Lib.hid hgl
          have HGT := Lib.hid hgt
          clear hvv hgh hgl hgt
          have hca : ¬ cx = a := by omega
          have hRbr := (HRb.out.below HB2.out).below (HB.out.mono (by omega)) 
          have HRbr := Lib.hid hRbr
          have HCN := Lib.hid (show (b.map byteV).length = Nat.min n (B.length + j - a) by rw [List.length_map, HN.out]; show n = min _ _; omega)
          have HCF := Lib.hid (show a + (b.map byteV).length ≤ L.length by rw [List.length_map, HN.out, HGL.out]; omega)
          have HC1 := Lib.hid (show ∀ v ∈ b.map byteV, v.oneCell' = true by intro v hv; obtain ⟨x, _, rfl⟩ := List.mem_map.1 hv; rfl)
          have HSR := Lib.hid (show 0 < (b.map byteV).length → some (⟨g, a, none⟩ : Addr) = some ⟨g, a, none⟩ ∧ ∃ ad, Ab = some ad ∧ ∀ j v, (b.map byteV)[j]? = some v → wr.cell? (ad.add j) = some v from fun hp => by
            obtain ⟨ad, e1, e2⟩ := HRbr.out.src b.length (by rw [List.take_length]; exact hp)
            rw [List.take_length] at e2
            exact ⟨rfl, ad, e1, e2⟩)
          have HBs := Lib.hid (Below.refl (w.heap.size + 2) wr)
          clear hRbr
          go_wp2_with (refine wpList_copy_splice rfl (.tmp 37) (.tmp 38) 27 27 rfl 5 Try.underlying27 (by kernel_rfl) (some ⟨g, a, none⟩) Ab (B.length + j - a) (cx - a) n cb rfl rfl g a L 5 HGH.out (b.map byteV) HCN.out HSR.out HCF.out HC1.out (w.heap.size + 2) wr HBs.out hgb ?_)
          intro w4 hc4 hb4
          have hL4 : (splice X a b).length = B.length + j := by rw [length_splice _ _ _ (by rw [HN.out, HXl.out]; omega), HXl.out]
          have hO4 : Own w4 (w.heap.size + 2) 5 1 byteC (.slice (some ⟨g, 0, none⟩) (splice X a b).length cx) (splice X a b) :=
            Own.of_row1 (g := byteV) hgb hc4.out (by rw [hL4]; omega) hgc (by rw [length_splice _ _ _ HCF.out, HGL.out]) (by
              rw [hL4, take_splice _ _ _ _ (by rw [List.length_map, HN.out]; omega) (by rw [HGL.out]; omega), HGT.out, splice_map])
          rw [hL4] at hO4
          have HO4 := Lib.hid hO4
          have HL4 := Lib.hid hL4
          have HB4 := Lib.hid (HB.out.trans hb4)
          clear c0 c1 hL4 hO4 hc4 hb4 HGH HCN HCF HC1 HSR HBs HRbr HGL HGT HO
          have c1 : w4.cell? ⟨w.heap.size, 1, none⟩ = _ := cell_at ((HB4.out.block w.heap.size (by omega)).trans HX2.out) 1
          have hsz4 := HB4.out.size
          have hR4 := ((H2.out.below HB2.out).below (HB4.out.mono (by omega))).more (B' := w4.heap.size) (by have := HS2.out; omega)
          have HR4 := Lib.hid hR4
          have HTg4 := Lib.hid ((HTg.out.below HB2.out).below (HB4.out.mono (by have := HS2.out; omega)))
          have HOL := Lib.hid (len_rwOnL On a)
          clear hR4
          go_wp2
          go_loopw [9, 10] (fun vl vi wq => ∃ (i : Nat) (Al : Option Addr) (cl : Nat), i ≤ n ∧ vi = .int .i64 (i : Int) ∧ vl = .slice Al (rwOnL On a i).length cl ∧ Rd wq wq.heap.size 1 numC Al (rwOnL On a i) ∧ (Al = none → cl = 0) ∧ (rwOnL On a i).length ≤ cl ∧ Tag wq 3 Al ∧ Below w4.heap.size w4 wq) (fun _ vi _ => n - (intOf vi).toNat)
          case atStart => exact ⟨0, A', c', Nat.zero_le _, rfl, rfl, HR4.out, HA'.out, HCO.out, HTg4.out, Below.refl _ _⟩
          case round =>
            obtain ⟨i, Al, cl, hi, rfl, rfl, hrd, hnil, hlc, htg, hbq⟩ := hrel
            have HTq := Lib.hid htg
            clear htg
            have HRq := Lib.hid hrd
            have HNq := Lib.hid hnil
            have HLq := Lib.hid hlc
            have HBq := Lib.hid hbq
            have hlen := HOL.out i
            have hszq := hbq.size
            clear hrd hnil hlc hbq c1
            by_cases hin : i < n
            · have HI := Lib.hid (rwOnL_succ On a i)
              by_cases hh : i = 0 ∨ (a + i) % 16 = 0
              · have HE := Lib.hid (show rwOnL On a (i + 1) = insK ((a + i) / 16) (rwOnL On a i) by rw [HI.out, if_pos (show headAt a i = true from decide_eq_true hh)])
                have hcs : ((i : Int) == 0) = true ∨ ((i : Int) == 0) = false ∧ (((a : Int) + (i : Int)) % 16 == 0) = true := by
                  rcases Nat.eq_zero_or_pos i with h | h
                  · exact .inl (by rw [beq_iff_eq]; omega)
                  · exact .inr ⟨by rw [beq_eq_false_iff_ne]; omega, by rw [beq_iff_eq]; omega⟩
                have hw := with_any (rwOnL On a i) Al cl ((a + i) / 16) HRq.out (by omega)
                rw [show (((a + i) / 16 : Nat) : Int) = ((a : Int) + (i : Int)) / 16 by omega] at hw
                have HWi := Lib.hid hw
                clear hh hw HI
                rcases hcs with t1 | ⟨t1, t2⟩
                all_goals
                  go_wp2_with (go_at_call 53; (with_reducible refine HWi.out.mono ?_); rintro e w6 ⟨v6, rfl, hown6, hb6⟩)
                  rw [← HE.out] at hown6
                  obtain ⟨A6, c6, rfl, h61, h62, h63, -⟩ := hown6.rd0 (fun _ => rfl)
                  have HT6 := Lib.hid hown6.tag
                  have H61 := Lib.hid h61
                  have H62 := Lib.hid h62
                  have H63 := Lib.hid h63
                  have H6 := Lib.hid hb6
                  clear hown6 h61 h62 h63 hb6
                  go_wp2
                  go_roundw
                  case rel => exact ⟨i + 1, A6, c6, by omega, by go_num, rfl, H63.out, H62.out, H61.out, HT6.out, HBq.out.trans (H6.out.mono hszq)⟩
                  case measure => simp [intOf]; omega
              · have HE := Lib.hid (show rwOnL On a (i + 1) = rwOnL On a i by rw [HI.out, if_neg (by rw [show headAt a i = false from decide_eq_false hh]; simp)])
                have t1 : ((i : Int) == 0) = false := by rw [beq_eq_false_iff_ne]; omega
                have t2 : (((a : Int) + (i : Int)) % 16 == 0) = false := by rw [beq_eq_false_iff_ne]; omega
                clear hh HI
                go_wp2
                go_roundw
                case rel => exact ⟨i + 1, Al, cl, by omega, by go_num, by rw [HE.out], by rw [HE.out]; exact HRq.out, HNq.out, by rw [HE.out]; exact HLq.out, HTq.out, HBq.out⟩
                case measure => simp [intOf]; omega
            · obtain rfl : i = n := by omega
              have HZq := Lib.hid ((HBq.out.block (w.heap.size + 1) (by have := HS2.out; omega)).trans ((HB4.out.block (w.heap.size + 1) (by omega)).trans HZ2.out))
              have h1c : ∀ v ∈ (#[Value.slice (some ⟨g, 0, none⟩) (B.length + j) cx, Value.slice Al (rwOnL On a i).length cl] : Array Value).toList, v.oneCell' = true := by
                intro v hv
                simp at hv
                rcases hv with rfl | rfl <;> rfl
              have H1c := Lib.hid h1c
              clear h1c
              go_wp2_with (refine wpList_store_row rfl 30 (.tmp 6) (.tmp 65) rfl wr (w.heap.size + 1) _ _ _ rfl rfl HZq.out rfl sheetI H1c.out ?_)
              intro w7 hg7 hgr7
              have HG7 := Lib.hid hg7
              have hB7 : Below w.heap.size w w7 := Below.grown (HB2.out.trans ((HB4.out.mono (by omega)).trans (HBq.out.mono (by have := HS2.out; omega)))) hgr7 (by have := HS2.out; omega) (fun k hk => by injection hk with hk; omega)
              have HB7 := Lib.hid hB7
              have hO7 : Own w7 (w.heap.size + 2) 5 1 byteC (.slice (some ⟨g, 0, none⟩) (B.length + j) cx) (splice X a b) := (HO4.out.below HBq.out (Nat.le_refl _)).kept hgr7 (.inr (by simp [Value.ownBlock]; omega))
              obtain ⟨A8, c8, e8, h81, h82, h83, -⟩ := hO7.rd0 (fun _ => rfl)
              have h9 := (HRq.out.off1 (w' := w7) (g := w.heap.size + 1) HZq.out (fun v hv => by simp at hv; rcases hv with rfl | rfl <;> exact ⟨_, _, _, rfl⟩) (fun k hk hne => hgr7.block k hk (fun e => hne (by injection e)))).more hgr7.size
              rw [HL4.out] at e8 h81
              obtain ⟨rfl, -, rfl⟩ := Value.slice.inj e8
              have HFin := Lib.hid (show RSh w7 (.agg #[.slice (some ⟨g, 0, none⟩) (B.length + j) cx, .slice Al (rwOnL On a i).length cl]) (rwB B (a : Int) b) (rwOn On (a : Int) i) from by
                rw [E1.out, E2.out, ← HXp.out]
                exact ⟨⟨_, _, _, _, by rw [HL4.out], h83, h9, by rw [HL4.out]; exact h81, h82, HNq.out, HLq.out, HTq.out.grown hgr7 HZq.out (by decide)⟩, by rw [HL4.out]; exact hx2, by rw [← E2.out]; exact HOn.out, fun k hk => by
                  rcases (mem_rwOnL On a k i).1 hk with h | h
                  · omega
                  · exact HSm.out k h⟩)
              clear hg7 hgr7 hB7 hO7 e8 h81 h82 h83 h9
              go_wp2
              exact end_cell_tmp (p := 6) (u := 7) (ty := 30) (by kernel_rfl) rfl HG7.out sheetT rfl sheetI rfl rfl ⟨_, rfl, HFin.out, HB7.out⟩
end Go.Proofs.Ytpcjmefchclhhaa

/- FscoreStale: a handle that is stale is stale for ever: for every input the law returns true. No condition. -/
import Derived.Test.YtpcjmefchclhhaaFtW
namespace Go.Proofs.Ytpcjmefchclhhaa
open Go.RowKit Go.MapKept Go.ChangeShapes Go.WideShapes Go.ChangeAt

theorem stale_stat {r : RFs} {h : Int × Int} (hd : liveP r h = false) : statV r h = .tuple #[infoV 0 0 0 0 0 0 0 0, .int .i64 175] := by unfold statV; rw [hd]; rfl
theorem stale_look {r : RFs} {h : Int × Int} (hd : liveP r h = false) : lookP r h dotS = ((0, 0), 175) := by
  have hf : folderE r h = 175 := by unfold folderE; rw [hd]; rfl
  have hp : placeE r h dotS true = 175 := by unfold placeE; rw [hf]; rfl
  unfold lookP
  rw [if_pos (by rw [hp]; decide), hp]

set_option maxRecDepth 100000 in
set_option maxHeartbeats 16000000 in
theorem fscoreStale_walk (l : List (OpF × Option Addr × Nat)) (A0 : Option Addr) (c0 : Nat) (l1 : List (OpF × Option Addr × Nat)) (A1 : Option Addr) (c1 : Nat) (i2 j2 : Int) (W : World) (hm0 : l.length ≤ maxLen) (rd0 : Rd W W.heap.size 16 fopC A0 l) (hq0 : ∀ y ∈ l, FopQ W W.heap.size y)
    (hm1 : l1.length ≤ maxLen) (rd1 : Rd W W.heap.size 16 fopC A1 l1) (hq1 : ∀ y ∈ l1, FopQ W W.heap.size y) :
    Calls Try.prog 10 #[.slice A0 l.length c0, .slice A1 l1.length c1, .agg #[.int .i64 i2, .int .i64 j2]] W fun e W' => e = .returned (.bool true) ∧ Below W.heap.size W W' := by
  obtain ⟨W1, hw1, hB1, hs1, hb1⟩ := box1 W #[.int .i64 i2, .int .i64 j2] 55
  have HN := Lib.hid (fsAt_new W1 W1 (Below.refl _ _) 50 (by decide))
  have HFw := Lib.hid (show ∀ w, Below W1.heap.size W1 w → Calls Try.prog 30 #[.slice A0 l.length c0] w fun e w' => e = .returned (.bool (fewFB l)) ∧ Below w.heap.size w w' from fun w hb =>
    few_any17 l A0 c0 w hm0 ((rd0.below (hB1.trans (hb.mono (by omega)))).more (by have := hb.size; omega)) (fun y hy => (hq0 y hy).len))
  have HFw1 := Lib.hid (show ∀ w, Below W1.heap.size W1 w → Calls Try.prog 30 #[.slice A1 l1.length c1] w fun e w' => e = .returned (.bool (fewFB l1)) ∧ Below w.heap.size w w' from fun w hb =>
    few_any17 l1 A1 c1 w hm1 ((rd1.below (hB1.trans (hb.mono (by omega)))).more (by have := hb.size; omega)) (fun y hy => (hq1 y hy).len))
  have HA := Lib.hid alive_any17
  have HD0 := Lib.hid ((rd0.below hB1).more (show W.heap.size ≤ W1.heap.size by omega))
  have HQ0 := Lib.hid (show ∀ y ∈ l, FopQ W1 W1.heap.size y from fun y hy => ((hq0 y hy).below hB1).more (by omega))
  have HD1 := Lib.hid ((rd1.below hB1).more (show W.heap.size ≤ W1.heap.size by omega))
  have HQ1 := Lib.hid (show ∀ y ∈ l1, FopQ W1 W1.heap.size y from fun y hy => ((hq1 y hy).below hB1).more (by omega))
  have HBW := Lib.hid hB1
  have HW1 := Lib.hid hw1
  have HBx := Lib.hid hb1
  clear rd0 hq0 rd1 hq1 hw1 hB1 hb1
  unfold maxLen at hm0 hm1
  have HLe := Lib.hid (fewFB_len (l := l))
  have HLe1 := Lib.hid (fewFB_len (l := l1))
  generalize hf : fewFB l = fb at *
  clear hf
  generalize hf : fewFB l1 = fb1 at *
  clear hf
  generalize hn : l.length = n at *
  have HNl := Lib.hid hn
  clear hn
  generalize hn : l1.length = n1 at *
  have HNl1 := Lib.hid hn
  clear hn
  cases fb
  · go_enter Try.func10, Try.ntmps10
    go_wp2_with fail
    rw [HW1.out]
    go_wp2_with (first
      | (go_at_call 29; (with_reducible refine HN.out.mono ?_); rintro e w1 ⟨f, mi, mg, N, rfl, hA1, -, -⟩; replace hA1 := Lib.hid hA1)
      | (go_at_call 30; (with_reducible refine (HFw.out _ hA1.out.blw).mono ?_); rintro e w2 ⟨rfl, hB2⟩; have hA2 := Lib.hid (hA1.out.below hB2))
      | (go_at_call 30; (with_reducible refine (HFw1.out _ hA2.out.blw).mono ?_); rintro e w3 ⟨rfl, hB3⟩; have hA2 := Lib.hid (hA2.out.below hB3))
      | (go_at_call 31; (with_reducible refine (HA.out _).mono ?_); rintro e w4 ⟨rfl, hB4⟩; have hA3 := Lib.hid (hA2.out.below hB4)))
    go_ret
    exact ⟨rfl, HBW.out.trans (hA3.out.blw.mono (by omega))⟩
  · cases fb1
    · go_enter Try.func10, Try.ntmps10
      go_wp2_with fail
      rw [HW1.out]
      go_wp2_with (first
        | (go_at_call 29; (with_reducible refine HN.out.mono ?_); rintro e w1 ⟨f, mi, mg, N, rfl, hA1, -, -⟩; replace hA1 := Lib.hid hA1)
        | (go_at_call 30; (with_reducible refine (HFw.out _ hA1.out.blw).mono ?_); rintro e w2 ⟨rfl, hB2⟩; have hA2 := Lib.hid (hA1.out.below hB2))
        | (go_at_call 30; (with_reducible refine (HFw1.out _ hA2.out.blw).mono ?_); rintro e w3 ⟨rfl, hB3⟩; have hA2 := Lib.hid (hA2.out.below hB3))
        | (go_at_call 31; (with_reducible refine (HA.out _).mono ?_); rintro e w4 ⟨rfl, hB4⟩; have hA3 := Lib.hid (hA2.out.below hB4)))
      go_ret
      exact ⟨rfl, HBW.out.trans (hA3.out.blw.mono (by omega))⟩
    · have hn250 := HLe.out rfl
      have hn251 := HLe1.out rfl
      go_enter Try.func10, Try.ntmps10
      go_wp2_with fail
      rw [HW1.out]
      go_wp2_with (first
        | (go_at_call 29; (with_reducible refine HN.out.mono ?_); rintro e w1 ⟨f, mi, mg, N, rfl, hA1, hNew, hBn⟩; replace hA1 := Lib.hid hA1)
        | (go_at_call 30; (with_reducible refine (HFw.out _ hA1.out.blw).mono ?_); rintro e w2 ⟨rfl, hB2⟩; have hA2 := Lib.hid (hA1.out.below hB2))
        | (go_at_call 30; (with_reducible refine (HFw1.out _ hA2.out.blw).mono ?_); rintro e w3 ⟨rfl, hB3⟩; have hA4 := Lib.hid (hA2.out.below hB3)))
      go_loopw [47, 8] (fun vi v wr => ∃ (i : Nat) (r : RFs) (N : List Nd) (X : List (Int × Int)), i ≤ n ∧ vi = .int .i64 (i : Int) ∧ FsAt W1 wr f mi mg r i N ∧ Own wr W1.heap.size 68 2 hndC v X ∧ (∀ h ∈ X, Known r h) ∧ X.length ≤ i) (fun vi _ _ => n - (intOf vi).toNat)
      case atStart => exact ⟨0, newP 50, N, [], Nat.zero_le _, rfl, hA4.out, Own.nil _ _ _ _ _, by simp, by simp⟩
      case round =>
        obtain ⟨i, r, N, X, hi, rfl, hAr, hOw, hKn, hXl⟩ := hrel
        have HAr := Lib.hid hAr
        have HOw := Lib.hid hOw
        have HKn := Lib.hid hKn
        clear hAr hOw hKn
        by_cases hin : i < n
        · have hil : i < l.length := by rw [HNl.out]; exact hin
          have hd := HD0.out.below HAr.out.blw
          obtain ⟨ad, had, hadb⟩ := hd.addr hil
          subst had
          have HLd := Lib.hid (load_fop hd hil)
          have q1 := HQ0.out _ (List.getElem_mem hil)
          generalize l[i] = x at *
          have HBa := Lib.hid (show Below wr.heap.size wr (wr.alloc (.cells (fopC x).toArray 59)) from (Below.refl _ _).alloc (Nat.le_refl _) _)
          have HNw := Lib.hid (heap_alloc_new wr (.cells (fopC x).toArray 59))
          have HOne := Lib.hid (fop_one x)
          have HI := Lib.hid (opI x)
          have HAa := Lib.hid (HAr.out.below HBa.out)
          have HDo := Lib.hid (does_at HAa.out (by omega) x ((q1.below HAa.out.blw).more HAa.out.blw.size))

          have HKn2 := Lib.hid (show ∀ h ∈ X, Known (doP r x.1).1 h from fun h hh => known_do HAr.out.wf x.1 (HKn.out h hh))
          have HAns := Lib.hid (answered HAr.out.wf x.1)
          generalize doP r x.1 = p at HDo HKn2 HAns
          obtain ⟨r', ⟨h1, h2⟩, er, ab⟩ := p
          unfold ansV at HDo
          dsimp only at HDo HKn2 HAns
          generalize hrow : (fopC x).toArray = row at *
          clear q1 hil hd hrow
          have hcs : er ≠ 0 ∨ er = 0 ∧ (h1 = 0 ∧ h2 = 0) ∨ er = 0 ∧ ¬ (h1 = 0 ∧ h2 = 0) := by omega
          rcases hcs with he | ⟨rfl, hz⟩ | ⟨rfl, hz⟩
          · have t1 : (er == 0) = false := beq_eq_false_iff_ne.2 he
            clear he
            go_wp2_with (first
              | (refine wpList_load_at rfl 59 (.tmp 49) rfl _ _ rfl HLd.out ?_)
              | (refine wpList_store_new rfl 59 (.tmp 10) (.tmp 50) rfl wr _ _ _ rfl rfl (by have := HI.out; rw [opI2] at this; injection this) HI.out HOne.out ?_)
              | (refine wpList_load_row rfl 59 (.tmp 10) rfl wr.heap.size rfl _ _ _ _ HNw.out opT rfl HI.out ?_)
              | (go_at_call 32; (with_reducible refine HDo.out.mono ?_); rintro e w5 ⟨rfl, N3, hG3⟩; have HA3 := Lib.hid hG3.at_; have HO3 := Lib.hid (Own.goes (HOw.out.alloc _) HAa.out hG3)))
            go_roundw
            case rel => exact ⟨i + 1, r', N3, X, by omega, by go_num, HA3.out.below ((Below.refl _ _).alloc (Nat.le_refl _) _), HO3.out.alloc _, HKn2.out, by omega⟩
            case measure => simp [intOf]; omega
          · have hne := fun w => neq_rhnd w h1 h2 0 0
            rw [decide_eq_true hz] at hne
            simp only [Bool.not_true] at hne
            go_wp2_with (first
              | (refine wpList_load_at rfl 59 (.tmp 49) rfl _ _ rfl HLd.out ?_)
              | (refine wpList_store_new rfl 59 (.tmp 10) (.tmp 50) rfl wr _ _ _ rfl rfl (by have := HI.out; rw [opI2] at this; injection this) HI.out HOne.out ?_)
              | (refine wpList_load_row rfl 59 (.tmp 10) rfl wr.heap.size rfl _ _ _ _ HNw.out opT rfl HI.out ?_)
              | (go_at_call 32; (with_reducible refine HDo.out.mono ?_); rintro e w5 ⟨rfl, N3, hG3⟩; have HA3 := Lib.hid hG3.at_; have HO3 := Lib.hid (Own.goes (HOw.out.alloc _) HAa.out hG3)))
            go_roundw
            case rel => exact ⟨i + 1, r', N3, X, by omega, by go_num, HA3.out.below ((Below.refl _ _).alloc (Nat.le_refl _) _), HO3.out.alloc _, HKn2.out, by omega⟩
            case measure => simp [intOf]; omega
          · have hne := fun w => neq_rhnd w h1 h2 0 0
            rw [decide_eq_false hz] at hne
            simp only [Bool.not_false] at hne
            have HK9 := Lib.hid (HAns.out rfl (fun e => by injection e with e1 e2; exact hz ⟨e1, e2⟩))
            clear hz
            go_wp2_with (first
              | (refine wpList_load_at rfl 59 (.tmp 49) rfl _ _ rfl HLd.out ?_)
              | (refine wpList_store_new rfl 59 (.tmp 10) (.tmp 50) rfl wr _ _ _ rfl rfl (by have := HI.out; rw [opI2] at this; injection this) HI.out HOne.out ?_)
              | (refine wpList_load_row rfl 59 (.tmp 10) rfl wr.heap.size rfl _ _ _ _ HNw.out opT rfl HI.out ?_)
              | (go_at_call 32; (with_reducible refine HDo.out.mono ?_); rintro e w5 ⟨rfl, N3, hG3⟩; have HA3 := Lib.hid hG3.at_; have HO3 := Lib.hid (Own.goes (HOw.out.alloc _) HAa.out hG3))
              | (go_at_call 34; (with_reducible refine (own_any _ _ _).mono ?_); rintro e w6 ⟨rfl, hb6⟩; have HA6 := Lib.hid ((HA3.out.below ((Below.refl _ _).alloc (Nat.le_refl _) _)).below hb6); have HO6 := Lib.hid (Own.below (HO3.out.alloc _) hb6 (Nat.le_refl _)))
              | (refine wpList_app1 rfl (.tmp 63) (.tmp 67) 67 rfl 68 2 16 hndC hndSl w6 W1.heap.size _ X (h1, h2) _ _ _ rfl rfl rfl HO6.out (by unfold maxLen; omega) (by omega) HA6.out.blw.size ?_))
            intro v7 w7 hown7 hgr7
            have HA7 := Lib.hid (HA6.out.app HO6.out (Nat.le_refl _) hgr7)
            have HO7 := Lib.hid hown7
            clear hgr7 hown7
            go_wp2
            go_roundw
            case rel => exact ⟨i + 1, r', N3, X ++ [(h1, h2)], by omega, by go_num, HA7.out, HO7.out, fun h hh => (List.mem_append.1 hh).elim (HKn2.out h) (fun e => by rw [List.mem_singleton.1 e]; exact HK9.out), by simp; omega⟩
            case measure => simp [intOf]; omega
        · obtain ⟨A, c, rfl, hlc, hAc, hrd, hAb⟩ := HOw.out.rd0 hndSl.len
          have HX := Lib.hid hrd
          obtain ⟨w8, rfl⟩ : ∃ w4 : World, w4 = wr := ⟨_, rfl⟩
          have hXn : X.length ≤ 250 := by omega
          generalize hx : X.length = nx at *
          have HXn := Lib.hid hx
          clear hx hrd hAb hAc hlc HOw
          have HSt := Lib.hid (show ∀ (h : Int × Int) w, Below w8.heap.size w8 w → Calls Try.prog 35 #[.pointer (some ⟨f, 0, none⟩), .agg #[.int .i64 h.1, .int .i64 h.2]] w (fun e w' => e = .returned (statV r h) ∧ Below w8.heap.size w8 w' ∧ Below w.heap.size w w') from fun h w hb =>
            (stat_any (HAr.out.below hb).fs HAr.out.wf h.1 h.2).mono fun e w' ⟨he, hs⟩ => ⟨he, hb.trans (hs.mono hb.size), hs⟩)
          go_wp2
          go_loopw [72, 12] (fun vi v wr => ∃ (j : Nat) (Y : List (Int × Int)), j ≤ nx ∧ vi = .int .i64 (j : Int) ∧ Below w8.heap.size w8 wr ∧ Own wr w8.heap.size 68 2 hndC v Y ∧ (∀ h ∈ Y, Known r h ∧ liveP r h = false) ∧ Y.length ≤ j) (fun vi _ _ => nx - (intOf vi).toNat)
          case atStart => exact ⟨0, [], Nat.zero_le _, rfl, Below.refl _ _, Own.nil _ _ _ _ _, by simp, by simp⟩
          case round =>
            obtain ⟨j, Y, hj, rfl, hB9, hOw, hDd, hYl⟩ := hrel
            have HOw := Lib.hid hOw
            have HDd := Lib.hid hDd
            have HB9 := Lib.hid hB9
            clear hOw hDd hB9
            by_cases hjn : j < nx
            · have hjl : j < X.length := by rw [HXn.out]; exact hjn
              have hd := HX.out.below HB9.out
              obtain ⟨ad, had, hadb⟩ := hd.addr hjl
              subst had
              have d0 : wr.cell? (ad.add (j * 2)) = _ := hd.cell hjl (j := 0) rfl
              have d1 : wr.cell? ⟨(ad.add (j * 2)).block, (ad.add (j * 2)).off + 1, none⟩ = _ := hd.cell hjl (j := 1) rfl
              have HK9 := Lib.hid (HKn.out _ (List.getElem_mem hjl))
              generalize X[j] = h at *
              obtain ⟨h1, h2⟩ := h
              dsimp only at d0 d1
              have HS := HSt.out (h1, h2)
              have HAl := Lib.hid (show Below w8.heap.size w8 (wr.alloc (.cells #[.int .i64 h1, .int .i64 h2] 68)) from HB9.out.alloc HB9.out.size _)
              have HNw := Lib.hid (heap_alloc_new wr (.cells #[.int .i64 h1, .int .i64 h2] 68))
              have hsz9 := HB9.out.size
              clear hd hjl
              cases hlv : liveP r (h1, h2)
              · rw [stale_stat hlv] at HS
                have HS := Lib.hid HS
                unfold infoV at HS
                dsimp only at HS
                have HDd9 := Lib.hid hlv
                clear hlv
                go_upto_region 18 with (go_at_call 35; (with_reducible refine (HS.out _ HAl.out).mono ?_); rintro e w9 ⟨rfl, hb9, hl9⟩)
                obtain ⟨w10, hw10⟩ : ∃ w10, w9.alloc (.cells #[.int .i64 0, .int .i64 0, .int .i64 0, .int .i64 0, .int .i64 0, .int .i64 0, .int .i64 0, .int .i64 0] 71) = w10 := ⟨_, rfl⟩
                rw [hw10]
                have hx9 := (hl9.block wr.heap.size (by simp)).trans HNw.out
                have hx10 : w10.heap[wr.heap.size]? = some (.cells #[.int .i64 h1, .int .i64 h2] 68 (0, 0)) := (by rw [← hw10]; exact (Below.heap_alloc w9 _ _ (heap_lt hx9)).trans hx9)
                have x0 := cell_at hx10 0
                have x1 := cell_at hx10 1
                have HO9 := Lib.hid (show Own w10 w8.heap.size 68 2 hndC _ Y from by rw [← hw10]; exact Own.alloc (Own.below (HOw.out.alloc _) hl9 (Nat.le_refl _)) _)
                have HB10 := Lib.hid (show Below w8.heap.size w8 w10 from by rw [← hw10]; exact hb9.alloc hb9.size _)
                clear hx9 hx10 hw10 hb9 hl9
                go_wp2_with (refine wpList_app1 rfl (.tmp 84) (.tmp 86) 67 rfl 68 2 16 hndC hndSl w10 w8.heap.size _ Y (h1, h2) _ _ _ rfl rfl rfl HO9.out (by unfold maxLen; omega) (by omega) HB10.out.size ?_)
                intro v11 w11 hown11 hgr11
                have HO11 := Lib.hid hown11
                have HB11 := Lib.hid (HO9.out.grown HB10.out hgr11 (Nat.le_refl _) HB10.out.size)
                clear hgr11 hown11
                go_wp2
                go_roundw
                case rel => exact ⟨j + 1, Y ++ [(h1, h2)], by omega, by go_num, HB11.out, HO11.out, fun h hh => (List.mem_append.1 hh).elim (HDd.out h) (fun e => by rw [List.mem_singleton.1 e]; exact ⟨HK9.out, HDd9.out⟩), by simp; omega⟩
                case measure => simp [intOf]; omega
              · obtain ⟨q3, q4, q5, q6, q7, q8, hq⟩ : ∃ q3 q4 q5 q6 q7 q8, statV r (h1, h2) = .tuple #[infoV h1 h2 q3 q4 q5 q6 q7 q8, .int .i64 0] := ⟨_, _, _, _, _, _, by unfold statV; rw [if_pos hlv]⟩
                rw [hq] at HS
                have HS := Lib.hid HS
                unfold infoV at HS
                dsimp only at HS
                clear hlv hq
                go_wp2_with (first
                  | (go_at_call 35; (with_reducible refine (HS.out _ HAl.out).mono ?_); rintro e w9 ⟨rfl, hb9, hl9⟩; replace hb9 := Lib.hid hb9; replace hl9 := Lib.hid hl9))
                go_roundw
                case rel => exact ⟨j + 1, Y, by omega, by go_num, hb9.out.alloc hb9.out.size _, Own.alloc (Own.below (HOw.out.alloc _) hl9.out (Nat.le_refl _)) _, HDd.out, by omega⟩
                case measure => simp [intOf]; omega
            · obtain ⟨AY, cY, rfl, hlc, hAc, hrd, hAb⟩ := HOw.out.rd0 hndSl.len
              obtain ⟨w10, rfl⟩ : ∃ w4 : World, w4 = wr := ⟨_, rfl⟩
              have hYn : Y.length ≤ 250 := by omega
              have HOw := Lib.hid (HOw.out.mono (show W1.heap.size ≤ w8.heap.size from HAr.out.blw.size))
              have HAr2 := Lib.hid (HAr.out.below HB9.out)
              generalize hy : Y.length = ny at *
              have HYn := Lib.hid hy
              clear hy hrd hAb hAc hlc HAr HB9 HX HKn HSt
              go_wp2
              go_loopw [91] (fun vi wr => ∃ (k : Nat) (r3 : RFs) (N3 : List Nd), k ≤ n1 ∧ vi = .int .i64 (k : Int) ∧ FsAt W1 wr f mi mg r3 (i + k) N3 ∧ Own wr W1.heap.size 68 2 hndC (.slice AY ny cY) Y ∧ (∀ h ∈ Y, Known r3 h ∧ liveP r3 h = false)) (fun vi _ => n1 - (intOf vi).toNat)
              case atStart => exact ⟨0, r, N, Nat.zero_le _, rfl, HAr2.out, HOw.out, HDd.out⟩
              case round =>
                clear HDd HAr2 HOw
                obtain ⟨k, r3, N3, hk, rfl, hAr3, hOw, hDd⟩ := hrel
                have HAr3 := Lib.hid hAr3
                have HOw := Lib.hid hOw
                have HDd := Lib.hid hDd
                clear hAr3 hOw hDd
                by_cases hkn : k < n1
                · have hil : k < l1.length := by rw [HNl1.out]; exact hkn
                  have hd := HD1.out.below HAr3.out.blw
                  obtain ⟨ad, had, hadb⟩ := hd.addr hil
                  subst had
                  have HLd := Lib.hid (load_fop hd hil)
                  have q1 := HQ1.out _ (List.getElem_mem hil)
                  generalize l1[k] = x at *
                  have HBa := Lib.hid (show Below wr.heap.size wr (wr.alloc (.cells (fopC x).toArray 59)) from (Below.refl _ _).alloc (Nat.le_refl _) _)
                  have HNw := Lib.hid (heap_alloc_new wr (.cells (fopC x).toArray 59))
                  have HOne := Lib.hid (fop_one x)
                  have HI := Lib.hid (opI x)
                  have HAa := Lib.hid (HAr3.out.below HBa.out)
                  have HDo := Lib.hid (does_at HAa.out (by omega) x ((q1.below HAa.out.blw).more HAa.out.blw.size))
                  have HDd2 := Lib.hid (show ∀ h ∈ Y, Known (doP r3 x.1).1 h ∧ liveP (doP r3 x.1).1 h = false from fun h hh => ⟨known_do HAr3.out.wf x.1 (HDd.out h hh).1, dead_do HAr3.out.wf x.1 (HDd.out h hh).1 (HDd.out h hh).2⟩)
                  generalize doP r3 x.1 = p at HDo HDd2
                  obtain ⟨r', ⟨h1, h2⟩, er, ab⟩ := p
                  unfold ansV at HDo
                  dsimp only at HDo HDd2
                  generalize hrow : (fopC x).toArray = row at *
                  clear q1 hil hd hrow
                  go_wp2_with (first
                    | (refine wpList_load_at rfl 59 (.tmp 93) rfl _ _ rfl HLd.out ?_)
                    | (refine wpList_store_new rfl 59 (.tmp 18) (.tmp 94) rfl wr _ _ _ rfl rfl (by have := HI.out; rw [opI2] at this; injection this) HI.out HOne.out ?_)
                    | (refine wpList_load_row rfl 59 (.tmp 18) rfl wr.heap.size rfl _ _ _ _ HNw.out opT rfl HI.out ?_)
                    | (go_at_call 32; (with_reducible refine HDo.out.mono ?_); rintro e w5 ⟨rfl, N5, hG5⟩; have HA5 := Lib.hid hG5.at_; have HO5 := Lib.hid (Own.goes (HOw.out.alloc _) HAa.out hG5)))
                  have HSt5 := Lib.hid (show ∀ (h : Int × Int), liveP r' h = false → ∀ w, Below w5.heap.size w5 w → Calls Try.prog 35 #[.pointer (some ⟨f, 0, none⟩), .agg #[.int .i64 h.1, .int .i64 h.2]] w (fun e w' => e = .returned (.tuple #[infoV 0 0 0 0 0 0 0 0, .int .i64 175]) ∧ Below w5.heap.size w5 w') from fun h hl w hb => by
                    have := stat_any (HA5.out.below hb).fs HA5.out.wf h.1 h.2
                    rw [stale_stat hl] at this
                    exact this.mono fun e w' ⟨he, hs⟩ => ⟨he, hb.trans (hs.mono hb.size)⟩)
                  obtain ⟨A', c', e, -, -, hrd, -⟩ := HO5.out.rd0 hndSl.len
                  obtain ⟨rfl, -, rfl⟩ := Value.slice.inj e
                  have HY5 := Lib.hid hrd
                  clear e hrd
                  go_loopw [100] (fun vi wr => ∃ (m : Nat), m ≤ ny ∧ vi = .int .i64 (m : Int) ∧ Below w5.heap.size w5 wr) (fun vi _ => ny - (intOf vi).toNat)
                  case atStart => exact ⟨0, Nat.zero_le _, rfl, Below.refl _ _⟩
                  case round =>
                    obtain ⟨m, hm, rfl, hB6⟩ := hrel
                    have HB6 := Lib.hid hB6
                    clear hB6
                    by_cases hmn : m < ny
                    · have hml : m < Y.length := by rw [HYn.out]; exact hmn
                      have hd := HY5.out.below HB6.out
                      obtain ⟨ad2, had2, had2b⟩ := hd.addr hml
                      subst had2
                      have d0 : wr.cell? (ad2.add (m * 2)) = _ := hd.cell hml (j := 0) rfl
                      have d1 : wr.cell? ⟨(ad2.add (m * 2)).block, (ad2.add (m * 2)).off + 1, none⟩ = _ := hd.cell hml (j := 1) rfl
                      have hdd := (HDd2.out _ (List.getElem_mem hml)).2
                      generalize Y[m] = h at *
                      obtain ⟨j1, j2'⟩ := h
                      dsimp only at d0 d1
                      have HS := HSt5.out (j1, j2') hdd
                      have HS := Lib.hid HS
                      unfold infoV at HS
                      dsimp only at HS
                      have HAl := Lib.hid (show Below w5.heap.size w5 (wr.alloc (.cells #[.int .i64 j1, .int .i64 j2'] 68)) from HB6.out.alloc HB6.out.size _)
                      clear hd hml hdd
                      go_wp2_with (go_at_call 35; (with_reducible refine (HS.out _ HAl.out).mono ?_); rintro e w9 ⟨rfl, hb9⟩; replace hb9 := Lib.hid hb9)
                      go_roundw
                      case rel => exact ⟨m + 1, by omega, by go_num, hb9.out.alloc hb9.out.size _⟩
                      case measure => simp [intOf]; omega
                    · go_wp2
                      go_roundw
                      case rel => exact ⟨k + 1, r', N5, by omega, by go_num, HA5.out.below HB6.out, Own.below HO5.out HB6.out (Nat.le_refl _), HDd2.out⟩
                      case measure => simp [intOf]; omega
                · have e0 := (HAr3.out.blw.block W.heap.size (by omega)).trans HBx.out
                  have x0 : wr.cell? ⟨W.heap.size, 0, none⟩ = _ := cell_at e0 0
                  have x1 : wr.cell? ⟨W.heap.size, 1, none⟩ = _ := cell_at e0 1
                  have HC := Lib.hid (show ∀ w, Below wr.heap.size wr w → w.cell? ⟨W.heap.size, 0, none⟩ = some (.int .i64 i2) ∧ w.cell? ⟨W.heap.size, 1, none⟩ = some (.int .i64 j2) from fun w hb => by
                    have e1 := (hb.block W.heap.size (heap_lt e0)).trans e0
                    exact ⟨cell_at e1 0, cell_at e1 1⟩)
                  have HOw2 := Lib.hid (show ∀ w, Below wr.heap.size wr w → Calls Try.prog 34 #[.agg #[.int .i64 i2, .int .i64 j2]] w (fun e w' => e = .returned (.agg #[.int .i64 i2, .int .i64 j2]) ∧ Below wr.heap.size wr w') from fun w hb =>
                    (own_any w i2 j2).mono fun e w' ⟨he, hs⟩ => ⟨he, hb.trans (hs.mono hb.size)⟩)
                  have HS2 := show ∀ w, Below wr.heap.size wr w → Calls Try.prog 35 #[.pointer (some ⟨f, 0, none⟩), .agg #[.int .i64 i2, .int .i64 j2]] w (fun e w' => e = .returned (statV r3 (i2, j2)) ∧ Below wr.heap.size wr w') from fun w hb =>
                    (stat_any (HAr3.out.below hb).fs HAr3.out.wf i2 j2).mono fun e w' ⟨he, hs⟩ => ⟨he, hb.trans (hs.mono hb.size)⟩
                  have HL2 := show ∀ w, Below wr.heap.size wr w → Calls Try.prog 36 #[.pointer (some ⟨f, 0, none⟩), .agg #[.int .i64 i2, .int .i64 j2], .string ⟨#[46]⟩] w (fun e w' => e = .returned (hndV (lookP r3 (i2, j2) dotS)) ∧ Below wr.heap.size wr w') from fun w hb =>
                    (look_any (HAr3.out.below hb).fs HAr3.out.wf i2 j2 dotS (by decide)).mono fun e w' ⟨he, hs⟩ => ⟨he, hb.trans (hs.mono hb.size)⟩
                  have hlast : ∃ q1 q2 q3 q4 q5 q6 q7 q8 e5 p1 p2 e6, statV r3 (i2, j2) = .tuple #[infoV q1 q2 q3 q4 q5 q6 q7 q8, .int .i64 e5] ∧ lookP r3 (i2, j2) dotS = ((p1, p2), e6) ∧ (e5 = 0 ∨ e5 = 175 ∧ e6 = 175) := by
                    cases hlv : liveP r3 (i2, j2)
                    · exact ⟨_, _, _, _, _, _, _, _, _, _, _, _, stale_stat hlv, stale_look hlv, .inr ⟨rfl, rfl⟩⟩
                    · exact ⟨_, _, _, _, _, _, _, _, _, _, _, _, by unfold statV; rw [if_pos hlv], rfl, .inl rfl⟩
                  obtain ⟨q1, q2, q3, q4, q5, q6, q7, q8, e5, p1, p2, e6, hs2, hl2, hcs⟩ := hlast
                  rw [hs2] at HS2
                  rw [hl2] at HL2
                  unfold infoV at HS2
                  unfold hndV at HL2
                  dsimp only at HL2
                  replace HS2 := Lib.hid HS2
                  replace HL2 := Lib.hid HL2
                  have hbz := Below.refl wr.heap.size wr
                  clear hs2 hl2 e0
                  rcases hcs with rfl | ⟨rfl, rfl⟩
                  all_goals
                    go_wp2_with (first
                      | (go_at_call 34; (with_reducible refine (HOw2.out _ (by first | exact hb12.alloc hb12.size _ | exact hbz)).mono ?_); rintro e w11 ⟨rfl, hb11⟩)
                      | (go_at_call 35; (with_reducible refine (HS2.out _ hb11).mono ?_); rintro e w12 ⟨rfl, hb12⟩; obtain ⟨y0, y1⟩ := HC.out _ hb12; have hs12 : W.heap.size < w12.heap.size := (by have := hb12.size; have := HAr3.out.blw.size; omega))
                      | (go_at_call 36; (with_reducible refine (HL2.out _ hb11).mono ?_); rintro e w14 ⟨rfl, hb14⟩)
                      | (go_at_call 31; (with_reducible refine (HA.out _).mono ?_); rintro e w15 ⟨rfl, hb15⟩; have hb16 := (hb14.alloc hb14.size (.cells #[.int .i64 p1, .int .i64 p2] 68)).trans (hb15.mono (by have := hb14.size; simp; omega))))
                    go_ret
                    exact ⟨rfl, HBW.out.trans ((HAr3.out.below hb16).blw.mono (by omega))⟩

set_option maxRecDepth 100000 in
theorem fscoreStale_given (W : World) (args : Array Value) (h : Given W Try.f10 args) :
    Calls Try.prog 10 args W fun e W' => e = .returned (.bool true) ∧ Below W.heap.size W W' := by
  obtain ⟨⟨H, enc, ds, p, hA, hwt⟩, base, hval⟩ := h
  rw [Try.params10] at hA hval hwt
  obtain ⟨v0, vs0, d0, ds0, p0, q0, hargs, rfl, rfl, h0, r0⟩ := trodAll_cons hA
  obtain ⟨v1, vs1, d1, ds1, p1, q1, rfl, rfl, rfl, h1, r1⟩ := trodAll_cons r0
  obtain ⟨v2, vs2, d2, ds2, p2, q2, rfl, rfl, rfl, h2, r2⟩ := trodAll_cons r1
  obtain ⟨rfl, rfl, rfl⟩ := trodAll_nil r2
  obtain rfl : args = #[v0, v1, v2] := by cases args; simp_all
  simp only [DataW.weightsEach, List.all_append, Bool.and_eq_true] at hwt
  obtain ⟨g0, g1, g2, _⟩ := hwt
  obtain ⟨⟨A0, c0, l0⟩, rfl, hm0, hn0, hz0, rd0, hq0⟩ := opens_fops W H enc base v0 d0 p0 (hval 0 _ v0 rfl rfl) h0 g0
  obtain ⟨⟨A1, c1, l1⟩, rfl, hm1, hn1, hz1, rd1, hq1⟩ := opens_fops W H enc base v1 d1 p1 (hval 1 _ v1 rfl rfl) h1 g1
  obtain ⟨⟨i2, j2⟩, rfl⟩ := opens_hnd W H enc base v2 d2 p2 (hval 2 _ v2 rfl rfl) h2 g2
  exact fscoreStale_walk l0 A0 c0 l1 A1 c1 i2 j2 W hm0 rd0 hq0 hm1 rd1 hq1

theorem fscoreStale_lifted (os : Os) (started : os.Started) (H : Type) (enc : TypeId × Value → H) :
    ReturnsInHanded {} Try.checked os 10 .any (Rows.fscoreStaleSpec.pre6 enc Try.prog Try.f10 Rows.fscoreStaleRow.domain false) (Rows.fscoreStaleSpec.post enc Try.prog Try.f10 false true false false) :=
  law_lifted (s := Rows.fscoreStaleSpec) os started H enc (by kernel_rfl) Try.func10 rfl (by kernel_rfl)
    (by rw [Try.params10]; intro t ht; simp at ht; rcases ht with rfl | rfl | rfl <;> exact ⟨by kernel_rfl, of_decide_eq_true (by kernel_rfl)⟩)
    (by rw [Try.params10]; intro ds hd; match ds, hd with | [x0, x1, x2], _ => exact ⟨rfl, rfl, rfl⟩)
    (ChangeSpec.witness6 (enc := enc) (C := Try.checked) false ⟨#[], #[.slice none 0 0, .slice none 0 0, .agg #[.int .i64 0, .int .i64 0]], []⟩ 8 (by kernel_rfl) (by kernel_rfl) (by kernel_rfl) (by kernel_rfl))
    fscoreStale_given

theorem fscoreStale_holds : Rows.FscoreStaleSaid :=
  OpenClaim.holds_of_wide 10 Try.f10 rfl rfl rfl rfl rfl rfl rfl ⟨rfl, rfl, rfl, rfl, rfl⟩ rfl rfl rfl rfl rfl (by kernel_rfl) Try.func10 (by kernel_rfl)
    (of_decide_eq_true (by kernel_rfl)) (by unfold Func.isWrapper; first | (rw [if_pos (by decide +kernel)]; kernel_rfl) | (rw [if_neg (by decide +kernel)]; exact ⟨rfl, rfl⟩))
    (fun os started H enc _ => fscoreStale_lifted os started H enc)
#print axioms fscoreStale_holds
end Go.Proofs.Ytpcjmefchclhhaa

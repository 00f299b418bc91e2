/- FscoreHangs: behind any calls all folders hang on the root, and links are as many as are counted: for every input the law returns true. No condition. -/
import Derived.Test.YtpcjmefchclhhaaFtV
import Derived.Test.YtpcjmefchclhhaaFtW
namespace Go.Proofs.Ytpcjmefchclhhaa
open Go.RowKit Go.MapKept Go.ChangeShapes Go.WideShapes Go.ChangeAt

set_option maxRecDepth 100000 in
set_option maxHeartbeats 16000000 in
theorem fscoreHangs_walk (l : List (OpF × Option Addr × Nat)) (A0 : Option Addr) (c0 : Nat) (W : World) (hm0 : l.length ≤ maxLen) (rd0 : Rd W W.heap.size 16 fopC A0 l) (hq0 : ∀ y ∈ l, FopQ W W.heap.size y) :
    Calls Try.prog 12 #[.slice A0 l.length c0] W fun e W' => e = .returned (.bool true) ∧ Below W.heap.size W W' := by
  have HN := Lib.hid (fsAt_new W W (Below.refl _ _) 50 (by decide))
  have HFw := Lib.hid (show ∀ w, Below W.heap.size W w → Calls Try.prog 30 #[.slice A0 l.length c0] w fun e w' => e = .returned (.bool (fewFB l)) ∧ Below w.heap.size w w' from fun w hb =>
    few_any17 l A0 c0 w hm0 ((rd0.below hb).more hb.size) (fun y hy => (hq0 y hy).len))
  have HA := Lib.hid alive_any17
  have HD0 := Lib.hid rd0
  have HQ0 := Lib.hid hq0
  clear rd0 hq0
  unfold maxLen at hm0
  have HLe := Lib.hid (fewFB_len (l := l))
  generalize hf : fewFB l = fb at *
  clear hf
  generalize hn : l.length = n at *
  have HNl := Lib.hid hn
  clear hn
  cases fb
  · go_enter Try.func12, Try.ntmps12
    go_wp2_with (first
      | (go_at_call 29; (with_reducible refine HN.out.mono ?_); rintro e w1 ⟨f, mi, mg, N, rfl, hA1, -, -⟩; replace hA1 := Lib.hid hA1)
      | (go_at_call 30; (with_reducible refine (HFw.out _ hA1.out.blw).mono ?_); rintro e w2 ⟨rfl, hB2⟩; have hA2 := Lib.hid (hA1.out.below hB2))
      | (go_at_call 31; (with_reducible refine (HA.out _).mono ?_); rintro e w3 ⟨rfl, hB3⟩; have hA3 := Lib.hid (hA2.out.below hB3)))
    go_ret
    exact ⟨rfl, hA3.out.blw⟩
  · have hn250 := HLe.out rfl
    go_enter Try.func12, Try.ntmps12
    go_wp2_with (first
      | (go_at_call 29; (with_reducible refine HN.out.mono ?_); rintro e w1 ⟨f, mi, mg, N, rfl, hA1, -, -⟩; replace hA1 := Lib.hid hA1)
      | (go_at_call 30; (with_reducible refine (HFw.out _ hA1.out.blw).mono ?_); rintro e w2 ⟨rfl, hB2⟩; have hA2 := Lib.hid (hA1.out.below hB2)))
    go_loopw [29] (fun vi wr => ∃ (i : Nat) (r : RFs) (N : List Nd), i ≤ n ∧ vi = .int .i64 (i : Int) ∧ FsAt W wr f mi mg r i N) (fun vi _ => n - (intOf vi).toNat)
    case atStart => exact ⟨0, newP 50, N, Nat.zero_le _, rfl, hA2.out⟩
    case round =>
      obtain ⟨i, r, N, hi, rfl, hAr⟩ := hrel
      have HAr := Lib.hid hAr
      clear hAr
      by_cases hin : i < n
      · have hil : i < l.length := by rw [HNl.out]; exact hin
        have hd := HD0.out.below HAr.out.blw
        obtain ⟨ad, had, hadb⟩ := hd.addr hil
        subst had
        have HLd := Lib.hid (load_fop hd hil)
        have q1 := HQ0.out _ (List.getElem_mem hil)
        generalize l[i] = x at *
        have HBa := Lib.hid (show Below wr.heap.size wr (wr.alloc (.cells (fopC x).toArray 59)) from (Below.refl _ _).alloc (Nat.le_refl _) _)
        have HNw := Lib.hid (heap_alloc_new wr (.cells (fopC x).toArray 59))
        have HOne := Lib.hid (fop_one x)
        have HI := Lib.hid (opI x)
        have HAa := HAr.out.below HBa.out
        have HDo := Lib.hid (does_at HAa (by omega) x ((q1.below HAa.blw).more HAa.blw.size))
        generalize doP r x.1 = p at HDo
        obtain ⟨r', hd2, er, ab⟩ := p
        unfold ansV at HDo
        dsimp only at HDo
        generalize hrow : (fopC x).toArray = row at *
        clear q1 HAa hil hd hrow
        go_wp2_with (first
          | (refine wpList_load_at rfl 59 (.tmp 31) rfl _ _ rfl HLd.out ?_)
          | (refine wpList_store_new rfl 59 (.tmp 5) (.tmp 32) rfl wr _ _ _ rfl rfl (by have := HI.out; rw [opI2] at this; injection this) HI.out HOne.out ?_)
          | (refine wpList_load_row rfl 59 (.tmp 5) rfl wr.heap.size rfl _ _ _ _ HNw.out opT rfl HI.out ?_)
          | (go_at_call 32; (with_reducible refine HDo.out.mono ?_); rintro e w3 ⟨rfl, N3, hG3⟩; have HA3 := Lib.hid hG3.at_))
        go_roundw
        case rel => exact ⟨i + 1, r', N3, by omega, by go_num, HA3.out⟩
        case measure => simp [intOf]; omega
      · have hiE : i = n := by omega
        obtain ⟨w5, rfl⟩ : ∃ w4 : World, w4 = wr := ⟨_, rfl⟩
        have hW := HAr.out.wf
        rw [hiE] at hW
        have HRt := Lib.hid (show Calls Try.prog 38 #[.pointer (some ⟨f, 0, none⟩)] w5 (fun e w' => e = .returned (.agg #[.int .i64 1, .int .i64 1]) ∧ Below w5.heap.size w5 w') from root_any w5 _)
        have HWk := Lib.hid (show ∀ w, Below w5.heap.size w5 w → Calls Try.prog 43 #[.pointer (some ⟨f, 0, none⟩), .agg #[.int .i64 1, .int .i64 1], .int .i64 0] w (fun e w' => e = .returned (.tuple #[.int .i64 (r.nms.length : Int), .bool true]) ∧ Below w5.heap.size w5 w') from fun w hb => by
          have hl : liveP r (1, 1) = true := by
            obtain ⟨x, hx, e1, e2, _⟩ := hW.root
            exact (live_iff hW _).2 ⟨x, hx, e1, e2⟩
          have := walk_any hW (by omega) 200 1 1 [1] Chain.root (by decide) hl w f mi mg N (HAr.out.below hb).fs
          rw [met_root hW] at this
          exact this.mono fun e w' ⟨he, hs⟩ => ⟨he, hb.trans (hs.mono hb.size)⟩)
        have HSt := Lib.hid (show ∀ (i g : Int) w, Below w5.heap.size w5 w → Calls Try.prog 35 #[.pointer (some ⟨f, 0, none⟩), .agg #[.int .i64 i, .int .i64 g]] w (fun e w' => e = .returned (statV r (i, g)) ∧ Below w5.heap.size w5 w') from fun i g w hb =>
          (stat_any (HAr.out.below hb).fs hW i g).mono fun e w' ⟨he, hs⟩ => ⟨he, hb.trans (hs.mono hb.size)⟩)
        have HWf := Lib.hid hW
        have hlast := cnt_last hW
        have hfirst := cnt_first hW
        have hnl := hW.nmK
        clear hW
        go_wp2_with (first
          | (go_at_call 38; (with_reducible refine HRt.out.mono ?_); rintro e w6 ⟨rfl, hb6⟩)
          | (go_at_call 43; (with_reducible refine (HWk.out _ hb6).mono ?_); rintro e w7 ⟨rfl, hb7⟩))
        have HB7 := Lib.hid hb7
        clear hb6 hb7
        go_loopw [10, 8, 9] (fun vi vl vf wr => ∃ (j : Nat), 1 ≤ j ∧ j ≤ 201 ∧ vi = .int .i64 (j : Int) ∧ vl = .int .i64 (LNn r j 0 : Int) ∧ vf = .int .i64 (FNn r j 0 : Int) ∧ Below w5.heap.size w5 wr) (fun vi _ _ _ => 201 - (intOf vi).toNat)
        case atStart => exact ⟨1, Nat.le_refl _, by omega, rfl, by rw [show ((1 : Nat) : Int) = 1 from rfl, hfirst.2]; rfl, by rw [show ((1 : Nat) : Int) = 1 from rfl, hfirst.1]; rfl, HB7.out⟩
        case round =>
          obtain ⟨j, hj1, hj2, rfl, rfl, rfl, hBr⟩ := hrel
          have HBr := Lib.hid hBr
          clear hBr
          by_cases hjn : j ≤ 200
          · have tj : decide ((j : Int) ≤ 200) = true := decide_eq_true (by omega)
            go_wp2
            go_loopw [11, 8, 9] (fun vi vl vf wr => ∃ (g : Nat), 1 ≤ g ∧ g ≤ n + 2 ∧ vi = .int .i64 (g : Int) ∧ vl = .int .i64 (LNn r j g : Int) ∧ vf = .int .i64 (FNn r j g : Int) ∧ Below w5.heap.size w5 wr) (fun vi _ _ _ => n + 2 - (intOf vi).toNat)
            case atStart =>
              have hbg := cnt_begin HWf.out (j : Int)
              exact ⟨1, Nat.le_refl _, by omega, rfl, by rw [show ((1 : Nat) : Int) = 1 from rfl, hbg.2], by rw [show ((1 : Nat) : Int) = 1 from rfl, hbg.1], HBr.out⟩
            case round =>
              obtain ⟨g, hg1, hg2, rfl, rfl, rfl, hBg⟩ := hrel
              have HBg := Lib.hid hBg
              clear hBg
              have hcl := cnt_le HWf.out (j : Int) (g : Int)
              by_cases hgn : g ≤ n + 1
              · have tg : decide ((g : Int) ≤ (n : Int) + 1) = true := decide_eq_true (by omega)
                have HS := HSt.out (j : Int) (g : Int)
                cases hlv : liveP r ((j : Int), (g : Int))
                · rw [show statV r ((j : Int), (g : Int)) = .tuple #[infoV 0 0 0 0 0 0 0 0, .int .i64 175] by unfold statV; rw [hlv]; rfl] at HS
                  unfold infoV at HS
                  replace HS := Lib.hid HS
                  have HC := Lib.hid (cnt_dead HWf.out hlv)
                  clear hlv
                  generalize LNn r j g = ln at *
                  generalize FNn r j g = fn at *
                  go_wp2_with (go_at_call 35; (with_reducible refine (HS.out _ HBg.out).mono ?_); rintro e w8 ⟨rfl, hb8⟩)
                  go_roundw
                  case rel => exact ⟨g + 1, by omega, by omega, by go_num, by rw [show ((g + 1 : Nat) : Int) = (g : Int) + 1 by omega, HC.out.2], by rw [show ((g + 1 : Nat) : Int) = (g : Int) + 1 by omega, HC.out.1], hb8.alloc hb8.size _⟩
                  case measure => simp [intOf]; omega
                · have hcnt := cnt_live HWf.out hlv
                  have hcl2 := cnt_le HWf.out (j : Int) ((g : Int) + 1)
                  rw [show statV r ((j : Int), (g : Int)) = .tuple #[infoV j g (byIdP r.ins j).kind (byIdP r.ins j).mode (linksN r (byIdP r.ins j)) (sizeN r (byIdP r.ins j)) (((byIdP r.ins j).On.length : Nat) : Int) (byIdP r.ins j).time, .int .i64 0] by unfold statV; rw [if_pos hlv]] at HS
                  unfold infoV at HS
                  generalize byIdP r.ins j = x at *
                  generalize sizeN r x = v5 at *
                  generalize ((x.On.length : Nat) : Int) = v6 at *
                  generalize linksN r x = lk at *
                  generalize LNn r j g = ln at *
                  generalize FNn r j g = fn at *
                  generalize x.mode = v3 at *
                  generalize x.time = v7 at *
                  clear hlv
                  by_cases hk : x.kind = 2
                  · rw [if_pos hk, if_pos hk] at hcnt
                    rw [hk] at HS
                    replace HS := Lib.hid HS
                    rw [hcnt.1, hcnt.2] at hcl2
                    have HC := Lib.hid hcnt
                    clear hcnt hk
                    go_wp2_with (go_at_call 35; (with_reducible refine (HS.out _ HBg.out).mono ?_); rintro e w8 ⟨rfl, hb8⟩)
                    go_roundw
                    case rel => exact ⟨g + 1, by omega, by omega, by go_num, by rw [show ((g + 1 : Nat) : Int) = (g : Int) + 1 by omega, HC.out.2]; simp, by rw [show ((g + 1 : Nat) : Int) = (g : Int) + 1 by omega, HC.out.1]; simp, hb8.alloc hb8.size _⟩
                    case measure => simp [intOf]; omega
                  · rw [if_neg hk, if_neg hk] at hcnt
                    have tk : (x.kind == 2) = false := beq_eq_false_iff_ne.2 hk
                    generalize x.kind = xk at *
                    replace HS := Lib.hid HS
                    rw [hcnt.1, hcnt.2] at hcl2
                    have HC := Lib.hid hcnt
                    clear hcnt hk
                    go_wp2_with (go_at_call 35; (with_reducible refine (HS.out _ HBg.out).mono ?_); rintro e w8 ⟨rfl, hb8⟩)
                    go_roundw
                    case rel => exact ⟨g + 1, by omega, by omega, by go_num, by rw [show ((g + 1 : Nat) : Int) = (g : Int) + 1 by omega, HC.out.2]; simp, by rw [show ((g + 1 : Nat) : Int) = (g : Int) + 1 by omega, HC.out.1]; simp, hb8.alloc hb8.size _⟩
                    case measure => simp [intOf]; omega
              · have hgE : g = n + 2 := by omega
                have hnx := cnt_next HWf.out (j : Int)
                rw [show (n : Int) + 2 = (g : Int) by omega] at hnx
                rw [hnx.1, hnx.2]
                have HJ := Lib.hid (show (j : Int) + 1 = ((j + 1 : Nat) : Int) by omega)
                rw [HJ.out]
                clear hnx hcl
                go_wp2
                go_roundw
                case rel => exact ⟨j + 1, by omega, by omega, by go_num, rfl, rfl, HBg.out⟩
                case measure => simp [intOf]; omega
          · have hjE : j = 201 := by omega
            subst hjE
            have hl2 : LNn r ((201 : Nat) : Int) 0 + FNn r ((201 : Nat) : Int) 0 = r.nms.length + 1 := hlast
            generalize LNn r ((201 : Nat) : Int) 0 = ln at *
            generalize FNn r ((201 : Nat) : Int) 0 = fn at *
            have teq : ((r.nms.length : Int) == (ln : Int) + (fn : Int) - 1) = true := by rw [beq_iff_eq]; omega
            generalize r.nms.length = q at *
            go_wp2_with (go_at_call 31; (with_reducible refine (HA.out _).mono ?_); rintro e w9 ⟨rfl, hB9⟩; have hA9 := Lib.hid ((HAr.out.below HBr.out).below hB9))
            go_ret
            exact ⟨rfl, hA9.out.blw⟩

set_option maxRecDepth 100000 in
theorem fscoreHangs_given (W : World) (args : Array Value) (h : Given W Try.f12 args) :
    Calls Try.prog 12 args W fun e W' => e = .returned (.bool true) ∧ Below W.heap.size W W' := by
  obtain ⟨⟨H, enc, ds, p, hA, hwt⟩, base, hval⟩ := h
  rw [Try.params12] at hA hval hwt
  obtain ⟨v0, vs0, d0, ds0, p0, q0, hargs, rfl, rfl, h0, r0⟩ := trodAll_cons hA
  obtain ⟨rfl, rfl, rfl⟩ := trodAll_nil r0
  obtain rfl : args = #[v0] := by cases args; simp_all
  simp only [DataW.weightsEach, List.all_append, Bool.and_eq_true] at hwt
  obtain ⟨g0, _⟩ := hwt
  obtain ⟨⟨A0, c0, l0⟩, rfl, hm0, hn0, hz0, rd0, hq0⟩ := opens_fops W H enc base v0 d0 p0 (hval 0 _ v0 rfl rfl) h0 g0
  exact fscoreHangs_walk l0 A0 c0 W hm0 rd0 hq0

theorem fscoreHangs_lifted (os : Os) (started : os.Started) (H : Type) (enc : TypeId × Value → H) :
    ReturnsInHanded {} Try.checked os 12 .any (Rows.fscoreHangsSpec.pre6 enc Try.prog Try.f12 Rows.fscoreHangsRow.domain false) (Rows.fscoreHangsSpec.post enc Try.prog Try.f12 false true false false) :=
  law_lifted (s := Rows.fscoreHangsSpec) os started H enc (by kernel_rfl) Try.func12 rfl (by kernel_rfl)
    (by rw [Try.params12]; intro t ht; simp at ht; rcases ht with rfl <;> exact ⟨by kernel_rfl, of_decide_eq_true (by kernel_rfl)⟩)
    (by rw [Try.params12]; intro ds hd; match ds, hd with | [x0], _ => exact ⟨rfl, rfl, rfl⟩)
    (ChangeSpec.witness6 (enc := enc) (C := Try.checked) false ⟨#[], #[.slice none 0 0], []⟩ 8 (by kernel_rfl) (by kernel_rfl) (by kernel_rfl) (by kernel_rfl))
    fscoreHangs_given

theorem fscoreHangs_holds : Rows.FscoreHangsSaid :=
  OpenClaim.holds_of_wide 12 Try.f12 rfl rfl rfl rfl rfl rfl rfl ⟨rfl, rfl, rfl, rfl, rfl⟩ rfl rfl rfl rfl rfl (by kernel_rfl) Try.func12 (by kernel_rfl)
    (of_decide_eq_true (by kernel_rfl)) (by unfold Func.isWrapper; first | (rw [if_pos (by decide +kernel)]; kernel_rfl) | (rw [if_neg (by decide +kernel)]; exact ⟨rfl, rfl⟩))
    (fun os started H enc _ => fscoreHangs_lifted os started H enc)
#print axioms fscoreHangs_holds
end Go.Proofs.Ytpcjmefchclhhaa

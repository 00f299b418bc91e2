/- FscoreBack: what was written into a file is read by any of its names: for every input the law returns true. No condition. -/
import Derived.Test.YtpcjmefchclhhaaFtW
namespace Go.Proofs.Ytpcjmefchclhhaa
open Go.RowKit Go.MapKept Go.ChangeShapes Go.WideShapes Go.ChangeAt

/-- The string of bytes that are read. -/
theorem rd_str {w : World} {B : Nat} {A : Option Addr} {l : List UInt8} {c : Nat} (h : Rd w B 1 byteC A l) : (convert 27 9 (.slice A l.length c)).run Try.prog w = .ok (.string ⟨l.toArray⟩) w := by
  cases A with
  | none =>
    cases l with
    | nil =>
      rw [run_convert_bytes_string w _ _ 5 _ _ _ Try.underlying27 Try.underlying5 Try.underlying9]
      rfl
    | cons x l => obtain ⟨a, e, _⟩ := h 0 x rfl; cases e
  | some a =>
    refine run_convert_bytes_back w _ _ 5 a c l Try.underlying27 Try.underlying5 Try.underlying9 (fun j hj => ?_)
    have := h.cell hj (j := 0) rfl
    rw [add_assoc', Nat.mul_one, Nat.add_zero] at this
    exact this
theorem ownB_rd {w w' : World} {P : Option Addr} {l : List UInt8} (h : OwnB w w' P l) : Rd w' w'.heap.size 1 byteC P l := by
  rcases h with ⟨rfl, rfl⟩ | ⟨g, _, rfl, hg⟩
  · exact Rd.nil _ _ _ _ _
  · refine rd_block hg (heap_lt hg) (fun i x hx j v hv => ?_)
    match j, hv with
    | 0, hv =>
      have hv' : v = byteV x := by simpa [byteC] using hv.symm
      subst hv'
      simp [List.getElem?_map, hx]
    | j + 1, hv => simp [byteC] at hv
set_option maxRecDepth 100000 in
set_option maxHeartbeats 16000000 in
theorem fscoreBack_walk (l : List (OpF × Option Addr × Nat)) (A0 : Option Addr) (c0 : Nat) (a1 : Int) (l2 : List UInt8) (A2 : Option Addr) (c2 : Nat) (W : World) (hm0 : l.length ≤ maxLen) (rd0 : Rd W W.heap.size 16 fopC A0 l) (hq0 : ∀ y ∈ l, FopQ W W.heap.size y)
    (hm2 : l2.length ≤ maxLen) (hn2 : l2.length ≤ c2) (rd2 : Rd W W.heap.size 1 byteC A2 l2) :
    Calls Try.prog 11 #[.slice A0 l.length c0, .int .i64 a1, .slice A2 l2.length c2] W fun e W' => e = .returned (.bool true) ∧ Below W.heap.size W W' := by
  have HN := Lib.hid (fsAt_new W W (Below.refl _ _) 300 (by decide))
  have HFw := Lib.hid (show ∀ w, Below W.heap.size W w → Calls Try.prog 30 #[.slice A0 l.length c0] w fun e w' => e = .returned (.bool (fewFB l)) ∧ Below w.heap.size w w' from fun w hb =>
    few_any17 l A0 c0 w hm0 ((rd0.below hb).more hb.size) (fun y hy => (hq0 y hy).len))
  have HA := Lib.hid alive_any17
  have HD0 := Lib.hid rd0
  have HQ0 := Lib.hid hq0
  have HD2 := Lib.hid rd2
  have HM2 := Lib.hid hm2
  have HN2 := Lib.hid hn2
  clear rd0 hq0 rd2 hn2
  unfold maxLen at hm0 hm2
  have HLe := Lib.hid (fewFB_len (l := l))
  generalize hf : fewFB l = fb at *
  clear hf
  generalize hn : l.length = n at *
  have HNl := Lib.hid hn
  clear hn
  generalize hn : l2.length = n2 at *
  have HNl2 := Lib.hid hn
  clear hn
  have hearly : fb = false ∨ fb = true ∧ (a1 < 0 ∨ 0 ≤ a1 ∧ (2000 < a1 ∨ a1 ≤ 2000 ∧ (2000 < n2 ∨ n2 ≤ 2000))) := by
    cases fb
    · exact .inl rfl
    · exact .inr ⟨rfl, by omega⟩
  rcases hearly with rfl | ⟨rfl, h1 | ⟨h1, h2 | ⟨h2, h3 | h3⟩⟩⟩
  · go_enter Try.func11, Try.ntmps11
    go_wp2_with (first
      | (go_at_call 29; (with_reducible refine HN.out.mono ?_); rintro e w1 ⟨f, mi, mg, N, rfl, hA1, -, -⟩; replace hA1 := Lib.hid hA1)
      | (go_at_call 30; (with_reducible refine (HFw.out _ hA1.out.blw).mono ?_); rintro e w2 ⟨rfl, hB2⟩; have hA2 := Lib.hid (hA1.out.below hB2))
      | (go_at_call 31; (with_reducible refine (HA.out _).mono ?_); rintro e w3 ⟨rfl, hB3⟩; have hA3 := Lib.hid (hA2.out.below hB3)))
    go_ret
    exact ⟨rfl, hA3.out.blw⟩
  · go_enter Try.func11, Try.ntmps11
    go_wp2_with (first
      | (go_at_call 29; (with_reducible refine HN.out.mono ?_); rintro e w1 ⟨f, mi, mg, N, rfl, hA1, -, -⟩; replace hA1 := Lib.hid hA1)
      | (go_at_call 30; (with_reducible refine (HFw.out _ hA1.out.blw).mono ?_); rintro e w2 ⟨rfl, hB2⟩; have hA2 := Lib.hid (hA1.out.below hB2))
      | (go_at_call 31; (with_reducible refine (HA.out _).mono ?_); rintro e w3 ⟨rfl, hB3⟩; have hA3 := Lib.hid (hA2.out.below hB3)))
    go_ret
    exact ⟨rfl, hA3.out.blw⟩
  · go_enter Try.func11, Try.ntmps11
    go_wp2_with (first
      | (go_at_call 29; (with_reducible refine HN.out.mono ?_); rintro e w1 ⟨f, mi, mg, N, rfl, hA1, -, -⟩; replace hA1 := Lib.hid hA1)
      | (go_at_call 30; (with_reducible refine (HFw.out _ hA1.out.blw).mono ?_); rintro e w2 ⟨rfl, hB2⟩; have hA2 := Lib.hid (hA1.out.below hB2))
      | (go_at_call 31; (with_reducible refine (HA.out _).mono ?_); rintro e w3 ⟨rfl, hB3⟩; have hA3 := Lib.hid (hA2.out.below hB3)))
    go_ret
    exact ⟨rfl, hA3.out.blw⟩
  · go_enter Try.func11, Try.ntmps11
    go_wp2_with (first
      | (go_at_call 29; (with_reducible refine HN.out.mono ?_); rintro e w1 ⟨f, mi, mg, N, rfl, hA1, -, -⟩; replace hA1 := Lib.hid hA1)
      | (go_at_call 30; (with_reducible refine (HFw.out _ hA1.out.blw).mono ?_); rintro e w2 ⟨rfl, hB2⟩; have hA2 := Lib.hid (hA1.out.below hB2))
      | (go_at_call 31; (with_reducible refine (HA.out _).mono ?_); rintro e w3 ⟨rfl, hB3⟩; have hA3 := Lib.hid (hA2.out.below hB3)))
    go_ret
    exact ⟨rfl, hA3.out.blw⟩
  · have hn250 := HLe.out rfl
    go_enter Try.func11, Try.ntmps11
    go_wp2_with (first
      | (go_at_call 29; (with_reducible refine HN.out.mono ?_); rintro e w1 ⟨f, mi, mg, N, rfl, hA1, -, -⟩; replace hA1 := Lib.hid hA1)
      | (go_at_call 30; (with_reducible refine (HFw.out _ hA1.out.blw).mono ?_); rintro e w2 ⟨rfl, hB2⟩; have hA2 := Lib.hid (hA1.out.below hB2)))
    go_loopw [48] (fun vi wr => ∃ (i : Nat) (r : RFs) (N : List Nd), i ≤ n ∧ vi = .int .i64 (i : Int) ∧ FsAt W wr f mi mg r i N) (fun vi _ => n - (intOf vi).toNat)
    case atStart => exact ⟨0, newP 300, N, Nat.zero_le _, rfl, hA2.out⟩
    case round =>
      obtain ⟨i, r, N, hi, rfl, hAr⟩ := hrel
      have HAr := Lib.hid hAr
      clear hAr
      by_cases hin : i < n
      · have hil : i < l.length := by rw [HNl.out]; exact hin
        have hd := HD0.out.below HAr.out.blw
        obtain ⟨ad, had, hadb⟩ := hd.addr hil
        subst had
        have HLd := Lib.hid (load_fop hd hil)
        have q1 := HQ0.out _ (List.getElem_mem hil)
        generalize l[i] = x at *
        have HBa := Lib.hid (show Below wr.heap.size wr (wr.alloc (.cells (fopC x).toArray 59)) from (Below.refl _ _).alloc (Nat.le_refl _) _)
        have HNw := Lib.hid (heap_alloc_new wr (.cells (fopC x).toArray 59))
        have HOne := Lib.hid (fop_one x)
        have HI := Lib.hid (opI x)
        have HAa := HAr.out.below HBa.out
        have HDo := Lib.hid (does_at HAa (by omega) x ((q1.below HAa.blw).more HAa.blw.size))
        generalize doP r x.1 = p at HDo
        obtain ⟨r', hd2, er, ab⟩ := p
        unfold ansV at HDo
        dsimp only at HDo
        generalize hrow : (fopC x).toArray = row at *
        clear q1 HAa hil hd hrow
        go_wp2_with (first
          | (refine wpList_load_at rfl 59 (.tmp 50) rfl _ _ rfl HLd.out ?_)
          | (refine wpList_store_new rfl 59 (.tmp 9) (.tmp 51) rfl wr _ _ _ rfl rfl (by have := HI.out; rw [opI2] at this; injection this) HI.out HOne.out ?_)
          | (refine wpList_load_row rfl 59 (.tmp 9) rfl wr.heap.size rfl _ _ _ _ HNw.out opT rfl HI.out ?_)
          | (go_at_call 32; (with_reducible refine HDo.out.mono ?_); rintro e w3 ⟨rfl, N3, hG3⟩; have HA3 := Lib.hid hG3.at_))
        go_roundw
        case rel => exact ⟨i + 1, r', N3, by omega, by go_num, HA3.out⟩
        case measure => simp [intOf]; omega
      · obtain ⟨w5, rfl⟩ : ∃ w4 : World, w4 = wr := ⟨_, rfl⟩
        have HRt := Lib.hid (show ∀ w, Below w5.heap.size w5 w → Calls Try.prog 38 #[.pointer (some ⟨f, 0, none⟩)] w (fun e w' => e = .returned (.agg #[.int .i64 1, .int .i64 1]) ∧ Below w5.heap.size w5 w') from fun w hb =>
          (root_any w _).mono fun e w' ⟨he, hs⟩ => ⟨he, hb.trans (hs.mono hb.size)⟩)
        have HMk := show ∀ w, Below w5.heap.size w5 w → Calls Try.prog 37 #[.pointer (some ⟨f, 0, none⟩), .agg #[.int .i64 1, .int .i64 1], .string ⟨#[109, 105, 110, 101]⟩, .agg #[.int .i64 1, .int .i64 0, .int .i64 0, .string ⟨#[]⟩]] w (fun e w' => e = .returned (mkR (makeP r (1, 1) mineS ⟨1, 0, 0, noStr⟩)) ∧ ∃ N', FsAt W w' f mi mg (makeP r (1, 1) mineS ⟨1, 0, 0, noStr⟩).1 (i + 1) N') from fun w hb =>
          (make_at (HAr.out.below hb) (by omega) 1 1 mineS (by decide) ⟨1, 0, 0, noStr⟩ (by decide)).mono fun e w' ⟨he, N', hg⟩ => ⟨he, N', hg.at_⟩
        have hbz := Below.refl w5.heap.size w5
        have hmm := mine_made HAr.out.wf
        generalize makeP r (1, 1) mineS ⟨1, 0, 0, noStr⟩ = p at HMk hmm
        obtain ⟨r1, hh, er⟩ := p
        unfold mkR at HMk
        dsimp only at HMk hmm
        rcases hmm with hmm | ⟨x, hx, hxB, hMi⟩
        · replace HMk := Lib.hid HMk
          have t0 : (er == 0) = false := beq_eq_false_iff_ne.2 (by omega)
          rcases hmm with rfl | rfl
          all_goals
            go_wp2_with (first
              | (go_at_call 38; (with_reducible refine (HRt.out _ hbz).mono ?_); rintro e w6 ⟨rfl, hb6⟩)
              | (go_at_call 37; (with_reducible refine (HMk.out _ hb6).mono ?_); rintro e w7 ⟨rfl, N7, hA7⟩)
              | (go_at_call 31; (with_reducible refine (HA.out _).mono ?_); rintro e w8 ⟨rfl, hB8⟩; have hA8 := Lib.hid ((hA7.below ((Below.refl _ _).alloc (Nat.le_refl _) _)).below hB8)))
            go_ret
            exact ⟨rfl, hA8.out.blw⟩
        · obtain ⟨rfl, rfl⟩ := Prod.mk.inj hx
          have hwr := fun (w : World) (N7 : List Nd) (hA : FsAt W w f mi mg r1 (i + 1) N7) => write_at hA x.id x.gen a1 A2 c2 l2 (by rw [HNl2.out]; exact HM2.out) (by rw [HNl2.out]; exact HN2.out) ((HD2.out.below hA.blw).more hA.blw.size) 7
          rw [HNl2.out] at hwr
          have hmw := fun (h : ∃ w f mi mg N, FsN w f mi mg r1 N) => mine_write hMi h h1 l2
          rw [HNl2.out] at hmw
          generalize fwriteP r1 (x.id, x.gen) a1 l2 7 = p2 at hwr hmw
          obtain ⟨r2, ew⟩ := p2
          dsimp only at hwr hmw HMk
          replace HMk := Lib.hid HMk
          replace hwr := Lib.hid hwr
          replace hmw := Lib.hid hmw
          have HMi := Lib.hid hMi
          clear hMi hx
          go_upto_region 13 with (first
            | (go_at_call 38; (with_reducible refine (HRt.out _ hbz).mono ?_); rintro e w6 ⟨rfl, hb6⟩)
            | (go_at_call 37; (with_reducible refine (HMk.out _ hb6).mono ?_); rintro e w7 ⟨rfl, N7, hA7⟩; have hA7a := Lib.hid (hA7.below ((Below.refl w7.heap.size w7).alloc (Nat.le_refl _) (.cells #[.int .i64 x.id, .int .i64 x.gen] 68))); have hmw7 := Lib.hid (hmw.out ⟨w7, f, mi, mg, N7, hA7.fs⟩); have hl7 := Lib.hid hA7.fpl)
            | (go_at_call 39; (with_reducible refine (hwr.out _ _ hA7a.out).mono ?_); rintro e w8 ⟨rfl, N8, hG8⟩))
          have e10 : w8.heap[w7.heap.size]? = some (.cells #[.int .i64 x.id, .int .i64 x.gen] 68 (0, 0)) := (hG8.frm.block w7.heap.size (by simp) (fun hm => by have := hl7.out _ hm; omega)).trans (heap_alloc_new w7 _)
          have hoff8 : w7.heap.size ∉ fpL f mi mg N8 := fun hm => (hG8.old _ hm).elim (fun h => by have := hl7.out _ h; omega) (fun h => by simp at h; omega)
          have HA8 := Lib.hid hG8.at_
          have hmw8 := hmw7.out
          clear hG8 hA7 hb6 HMk hwr hmw hA7a hmw7 hl7
          generalize w7.heap.size = b10 at *
          rcases hmw8 with rfl | ⟨rfl, hfit, hMi⟩
          · go_wp2_with (go_at_call 31; (with_reducible refine (HA.out _).mono ?_); rintro e w9 ⟨rfl, hB9⟩; have hA9 := Lib.hid (HA8.out.below hB9))
            go_ret
            exact ⟨rfl, hA9.out.blw⟩
          have hrd := back_read (b := l2) h1 x.B (by rw [HNl2.out]; exact hfit)
          have hxk : (fileP x (rwB x.B a1 l2) (rwOn x.On a1 n2) 7).id = x.id ∧ (fileP x (rwB x.B a1 l2) (rwOn x.On a1 n2) 7).gen = x.gen ∧ (fileP x (rwB x.B a1 l2) (rwOn x.On a1 n2) 7).time = 7 ∧ (fileP x (rwB x.B a1 l2) (rwOn x.On a1 n2) 7).B = rwB x.B a1 l2 := ⟨rfl, rfl, rfl, rfl⟩
          generalize fileP x (rwB x.B a1 l2) (rwOn x.On a1 n2) 7 = y at hMi hxk
          obtain ⟨y1, y2, y3, y4⟩ := hxk
          rw [← y4, HNl2.out] at hrd
          clear HMi y4 hfit
          generalize x.id = xi at *
          generalize x.gen = xg at *
          subst y1 y2
          have hmm2 := mine_link hMi
          have HLk := show ∀ w, Below w8.heap.size w8 w → Calls Try.prog 40 #[.pointer (some ⟨f, 0, none⟩), .agg #[.int .i64 y.id, .int .i64 y.gen], .agg #[.int .i64 1, .int .i64 1], .string ⟨#[111, 116, 104, 101, 114]⟩] w (fun e w' => e = .returned (.int .i64 (linkP r2 (y.id, y.gen) (1, 1) otherS).2) ∧ ∃ N', FsAt W w' f mi mg (linkP r2 (y.id, y.gen) (1, 1) otherS).1 (i + 2) N' ∧ w'.heap[b10]? = some (.cells #[.int .i64 y.id, .int .i64 y.gen] 68 (0, 0)) ∧ b10 ∉ fpL f mi mg N') from fun w hb =>
            (link_at (HA8.out.below hb) y.id y.gen 1 1 otherS (by decide)).mono fun e w' ⟨he, N', hg⟩ => ⟨he, N', hg.at_, (hg.frm.block b10 (Nat.lt_of_lt_of_le (heap_lt e10) hb.size) hoff8).trans ((hb.block b10 (heap_lt e10)).trans e10), fun hm => (hg.old _ hm).elim hoff8 (fun h => by have := heap_lt e10; have := hb.size; omega)⟩
          have HRm := show ∀ (w : World) (N' : List Nd), FsAt W w f mi mg (linkP r2 (y.id, y.gen) (1, 1) otherS).1 (i + 2) N' → Calls Try.prog 41 #[.pointer (some ⟨f, 0, none⟩), .agg #[.int .i64 1, .int .i64 1], .string ⟨#[109, 105, 110, 101]⟩, .bool false] w (fun e w' => e = .returned (.int .i64 (removeP (linkP r2 (y.id, y.gen) (1, 1) otherS).1 (1, 1) mineS false).2) ∧ ∃ N'', Goes W w w' f mi mg N' (removeP (linkP r2 (y.id, y.gen) (1, 1) otherS).1 (1, 1) mineS false).1 (i + 2) N'') from fun w N' hA => remove_at hA 1 1 mineS (by decide) false
          generalize linkP r2 (y.id, y.gen) (1, 1) otherS = p3 at HLk HRm hmm2
          obtain ⟨r3, eg⟩ := p3
          dsimp only at HLk HRm hmm2
          generalize removeP r3 (1, 1) mineS false = p4 at HRm hmm2
          obtain ⟨r4, em⟩ := p4
          dsimp only at HRm hmm2
          replace HLk := Lib.hid HLk
          replace HRm := Lib.hid HRm
          have HRt8 := Lib.hid (show ∀ w, Below w8.heap.size w8 w → Calls Try.prog 38 #[.pointer (some ⟨f, 0, none⟩)] w (fun e w' => e = .returned (.agg #[.int .i64 1, .int .i64 1]) ∧ Below w8.heap.size w8 w') from fun w hb =>
            (root_any w _).mono fun e w' ⟨he, hs⟩ => ⟨he, hb.trans (hs.mono hb.size)⟩)
          have hK8 := Lib.hid (show ∀ w, Below w8.heap.size w8 w → w.cell? ⟨b10, 0, none⟩ = some (.int .i64 y.id) ∧ w.cell? ⟨b10, 1, none⟩ = some (.int .i64 y.gen) from fun w hb => by
            have e1 := (hb.block b10 (heap_lt e10)).trans e10
            exact ⟨cell_at e1 0, cell_at e1 1⟩)
          obtain ⟨x0, x1⟩ := hK8.out w8 (Below.refl _ _)
          have hb8 := Below.refl w8.heap.size w8
          have hb8d := hb8.drew
          have HMi := Lib.hid hMi
          clear e10 hoff8 hMi
          go_wp2_with fail
          go_region_held3 (fun w' => w'.cell? ⟨b10, 0, none⟩ = some (.int .i64 y.id) ∧ w'.cell? ⟨b10, 1, none⟩ = some (.int .i64 y.gen))
            (first | exact hK8.out _ (by assumption) | exact ⟨cell_at hT10 0, cell_at hT10 1⟩ | go_keep)
            (first
              | (go_at_call 38; (with_reducible refine (HRt8.out _ (by assumption)).mono ?_); rintro e w9 ⟨rfl, hb9⟩)
              | (go_at_call 40; (with_reducible refine (HLk.out _ (by assumption)).mono ?_); rintro e w10 ⟨rfl, N10, hA10, hT10, hoff10⟩))
          rcases hmm2 with ⟨rfl, rfl⟩ | ⟨rfl, rfl, hMi2⟩
          · obtain ⟨wz, rfl⟩ : ∃ w : World, w = w10 := ⟨_, rfl⟩
            have HAz := Lib.hid hA10
            have HTz := Lib.hid hT10
            have HMz := HMi
            clear hA10 hT10 hoff10 HRt8 hK8 HLk HRm hb8 hb8d x0 x1
            (try clear hb9)
            (try clear hHeld)
            have HRz := Lib.hid (show ∀ w, Below wz.heap.size wz w → Calls Try.prog 38 #[.pointer (some ⟨f, 0, none⟩)] w (fun e w' => e = .returned (.agg #[.int .i64 1, .int .i64 1]) ∧ Below wz.heap.size wz w') from fun w hb =>
              (root_any w _).mono fun e w' ⟨he, hs⟩ => ⟨he, hb.trans (hs.mono hb.size)⟩)
            have HLz := show ∀ w, Below wz.heap.size wz w → Calls Try.prog 36 #[.pointer (some ⟨f, 0, none⟩), .agg #[.int .i64 1, .int .i64 1], .string ⟨#[109, 105, 110, 101]⟩] w (fun e w' => e = .returned (hndV (lookP r3 (1, 1) mineS)) ∧ Below wz.heap.size wz w') from fun w hb =>
              (look_any (HAz.out.below hb).fs HAz.out.wf 1 1 mineS (by decide)).mono fun e w' ⟨he, hs⟩ => ⟨he, hb.trans (hs.mono hb.size)⟩
            rw [mine_look HMz.out mine_ok] at HLz
            unfold hndV at HLz
            dsimp only at HLz
            replace HLz := Lib.hid HLz
            have HDz := show ∀ w, Below wz.heap.size wz w → Calls Try.prog 42 #[.pointer (some ⟨f, 0, none⟩), .agg #[.int .i64 y.id, .int .i64 y.gen], .int .i64 a1, .int .i64 (n2 : Int)] w (fun e w' => ∃ P, e = .returned (.tuple #[.slice P (freadP r3 (y.id, y.gen) a1 n2).1.length (freadP r3 (y.id, y.gen) a1 n2).1.length, .int .i64 (freadP r3 (y.id, y.gen) a1 n2).2]) ∧ OwnB w w' P (freadP r3 (y.id, y.gen) a1 n2).1 ∧ Below wz.heap.size wz w' ∧ Below w.heap.size w w') from fun w hb =>
              (fread_any (HAz.out.below hb).fs HAz.out.wf y.id y.gen a1 n2).mono fun e w' ⟨P, he, ho, hs⟩ => ⟨P, he, ho, hb.trans (hs.mono hb.size), hs⟩
            rw [mine_read HMz.out h1 (by omega), hrd] at HDz
            dsimp only at HDz
            rw [HNl2.out] at HDz
            replace HDz := Lib.hid HDz
            have HSz := show ∀ w, Below wz.heap.size wz w → Calls Try.prog 35 #[.pointer (some ⟨f, 0, none⟩), .agg #[.int .i64 y.id, .int .i64 y.gen]] w (fun e w' => e = .returned (statV r3 (y.id, y.gen)) ∧ Below wz.heap.size wz w' ∧ Below w.heap.size w w') from fun w hb =>
              (stat_any (HAz.out.below hb).fs HAz.out.wf y.id y.gen).mono fun e w' ⟨he, hs⟩ => ⟨he, hb.trans (hs.mono hb.size), hs⟩
            rw [mine_stat HMz.out, y3] at HSz
            unfold infoV at HSz
            generalize sizeN r3 y = v5 at HSz
            generalize (y.On.length : Int) = v6 at HSz
            generalize y.kind = v2 at HSz
            generalize y.mode = v3 at HSz
            replace HSz := Lib.hid HSz
            have HKz := Lib.hid (show ∀ w, Below wz.heap.size wz w → w.cell? ⟨b10, 0, none⟩ = some (.int .i64 y.id) ∧ w.cell? ⟨b10, 1, none⟩ = some (.int .i64 y.gen) from fun w hb => by
              have e1 := (hb.block b10 (heap_lt HTz.out)).trans HTz.out
              exact ⟨cell_at e1 0, cell_at e1 1⟩)
            have heq := fun w => eq_hnd w y.id y.gen y.id y.gen
            simp only [and_self, decide_true] at heq
            have hbz := Below.refl wz.heap.size wz
            go_wp2_with (first
              | (go_at_call 38; (with_reducible refine (HRz.out _ hbz).mono ?_); rintro e w13 ⟨rfl, hb13⟩)
              | (go_at_call 36; (with_reducible refine (HLz.out _ hb13).mono ?_); rintro e w14 ⟨rfl, hb14⟩; have e14 := Lib.hid (heap_alloc_new w14 (.cells #[.int .i64 y.id, .int .i64 y.gen] 68)); have hb14a := hb14.alloc hb14.size (.cells #[.int .i64 y.id, .int .i64 y.gen] 68))
              | (go_at_call 42; (with_reducible refine (HDz.out _ hb14a).mono ?_); rintro e w15 ⟨P, rfl, ho15, hb15, hl15⟩; have e15 := (hl15.block w14.heap.size (by simp)).trans e14.out; have u0 := cell_at e15 0; have u1 := cell_at e15 1; have hR15 := Lib.hid (ownB_rd ho15); replace e15 := Lib.hid e15; clear ho15)
              | (go_at_call 35; (with_reducible refine (HSz.out _ hb15).mono ?_); rintro e w16 ⟨rfl, hb16, hl16⟩; have e16 := Lib.hid ((hl16.block w14.heap.size (heap_lt e15.out)).trans e15.out); have hR16 := Lib.hid ((hR15.out.below hl16).more hl16.size); have e18 := Lib.hid (heap_alloc_new w16 (.cells #[.int .i64 y.id, .int .i64 y.gen, .int .i64 v2, .int .i64 v3, .int .i64 1, .int .i64 v5, .int .i64 v6, .int .i64 7] 71)); have hb16a := hb16.alloc hb16.size (.cells #[.int .i64 y.id, .int .i64 y.gen, .int .i64 v2, .int .i64 v3, .int .i64 1, .int .i64 v5, .int .i64 v6, .int .i64 7] 71); clear u0 u1)
              | (go_at_call 31; (with_reducible refine (HA.out _).mono ?_); rintro e w17 ⟨rfl, hl17⟩;
                 have hb17 := hb16a.trans (hl17.mono hb16a.size);
                 have e17 := (hl17.block w14.heap.size (by have := heap_lt e16.out; simp; omega)).trans ((Below.heap_alloc w16 _ _ (heap_lt e16.out)).trans e16.out);
                 have g17 := (hl17.block w16.heap.size (by simp)).trans e18.out;
                 have u0 := cell_at e17 0; have u1 := cell_at e17 1; have v4 := cell_at g17 4; have v7 := cell_at g17 7;
                 obtain ⟨z0, z1⟩ := HKz.out _ hb17;
                 have hR17 := ((hR16.out.alloc (Nat.le_refl _) _).below (hl17.mono (by simp)) : Rd w17 w16.heap.size 1 byteC P l2);
                 have hcv1 := rd_str (c := n2) hR17;
                 have hcv2 := rd_str (c := c2) (HD2.out.below (HAz.out.below hb17).blw);
                 rw [HNl2.out] at hcv1 hcv2; clear e17 g17 hR17))
            go_ret
            exact ⟨rfl, (HAz.out.below hb17).blw⟩
          · have HMz := Lib.hid hMi2
            have HA10 := Lib.hid hA10
            have HT10 := Lib.hid hT10
            have HOf := Lib.hid hoff10
            clear hA10 hT10 hoff10 HRt8 hK8 HLk hb8 hb8d x0 x1 hMi2
            (try clear hb9)
            go_upto_region 18 with (first
              | (go_at_call 38; (with_reducible refine (root_any _ _).mono ?_); rintro e w11 ⟨rfl, hb11⟩; have HA11 := Lib.hid (HA10.out.below hb11); have HT11 := Lib.hid ((hb11.block b10 (heap_lt HT10.out)).trans HT10.out))
              | (go_at_call 41; (with_reducible refine (HRm.out _ _ HA11.out).mono ?_); rintro e wz ⟨rfl, N12, hG12⟩; have HAz := Lib.hid hG12.at_; have HTz := Lib.hid ((hG12.frm.block b10 (heap_lt HT11.out) HOf.out).trans HT11.out)))
            have HRz := Lib.hid (show ∀ w, Below wz.heap.size wz w → Calls Try.prog 38 #[.pointer (some ⟨f, 0, none⟩)] w (fun e w' => e = .returned (.agg #[.int .i64 1, .int .i64 1]) ∧ Below wz.heap.size wz w') from fun w hb =>
              (root_any w _).mono fun e w' ⟨he, hs⟩ => ⟨he, hb.trans (hs.mono hb.size)⟩)
            have HLz := show ∀ w, Below wz.heap.size wz w → Calls Try.prog 36 #[.pointer (some ⟨f, 0, none⟩), .agg #[.int .i64 1, .int .i64 1], .string ⟨#[111, 116, 104, 101, 114]⟩] w (fun e w' => e = .returned (hndV (lookP r4 (1, 1) otherS)) ∧ Below wz.heap.size wz w') from fun w hb =>
              (look_any (HAz.out.below hb).fs HAz.out.wf 1 1 otherS (by decide)).mono fun e w' ⟨he, hs⟩ => ⟨he, hb.trans (hs.mono hb.size)⟩
            rw [mine_look HMz.out other_ok] at HLz
            unfold hndV at HLz
            dsimp only at HLz
            replace HLz := Lib.hid HLz
            have HDz := show ∀ w, Below wz.heap.size wz w → Calls Try.prog 42 #[.pointer (some ⟨f, 0, none⟩), .agg #[.int .i64 y.id, .int .i64 y.gen], .int .i64 a1, .int .i64 (n2 : Int)] w (fun e w' => ∃ P, e = .returned (.tuple #[.slice P (freadP r4 (y.id, y.gen) a1 n2).1.length (freadP r4 (y.id, y.gen) a1 n2).1.length, .int .i64 (freadP r4 (y.id, y.gen) a1 n2).2]) ∧ OwnB w w' P (freadP r4 (y.id, y.gen) a1 n2).1 ∧ Below wz.heap.size wz w' ∧ Below w.heap.size w w') from fun w hb =>
              (fread_any (HAz.out.below hb).fs HAz.out.wf y.id y.gen a1 n2).mono fun e w' ⟨P, he, ho, hs⟩ => ⟨P, he, ho, hb.trans (hs.mono hb.size), hs⟩
            rw [mine_read HMz.out h1 (by omega), hrd] at HDz
            dsimp only at HDz
            rw [HNl2.out] at HDz
            replace HDz := Lib.hid HDz
            have HSz := show ∀ w, Below wz.heap.size wz w → Calls Try.prog 35 #[.pointer (some ⟨f, 0, none⟩), .agg #[.int .i64 y.id, .int .i64 y.gen]] w (fun e w' => e = .returned (statV r4 (y.id, y.gen)) ∧ Below wz.heap.size wz w' ∧ Below w.heap.size w w') from fun w hb =>
              (stat_any (HAz.out.below hb).fs HAz.out.wf y.id y.gen).mono fun e w' ⟨he, hs⟩ => ⟨he, hb.trans (hs.mono hb.size), hs⟩
            rw [mine_stat HMz.out, y3] at HSz
            unfold infoV at HSz
            generalize sizeN r4 y = v5 at HSz
            generalize (y.On.length : Int) = v6 at HSz
            generalize y.kind = v2 at HSz
            generalize y.mode = v3 at HSz
            replace HSz := Lib.hid HSz
            have HKz := Lib.hid (show ∀ w, Below wz.heap.size wz w → w.cell? ⟨b10, 0, none⟩ = some (.int .i64 y.id) ∧ w.cell? ⟨b10, 1, none⟩ = some (.int .i64 y.gen) from fun w hb => by
              have e1 := (hb.block b10 (heap_lt HTz.out)).trans HTz.out
              exact ⟨cell_at e1 0, cell_at e1 1⟩)
            have heq := fun w => eq_hnd w y.id y.gen y.id y.gen
            simp only [and_self, decide_true] at heq
            have hbz := Below.refl wz.heap.size wz
            go_wp2_with (first
              | (go_at_call 38; (with_reducible refine (HRz.out _ hbz).mono ?_); rintro e w13 ⟨rfl, hb13⟩)
              | (go_at_call 36; (with_reducible refine (HLz.out _ hb13).mono ?_); rintro e w14 ⟨rfl, hb14⟩; have e14 := Lib.hid (heap_alloc_new w14 (.cells #[.int .i64 y.id, .int .i64 y.gen] 68)); have hb14a := hb14.alloc hb14.size (.cells #[.int .i64 y.id, .int .i64 y.gen] 68))
              | (go_at_call 42; (with_reducible refine (HDz.out _ hb14a).mono ?_); rintro e w15 ⟨P, rfl, ho15, hb15, hl15⟩; have e15 := (hl15.block w14.heap.size (by simp)).trans e14.out; have u0 := cell_at e15 0; have u1 := cell_at e15 1; have hR15 := Lib.hid (ownB_rd ho15); replace e15 := Lib.hid e15; clear ho15)
              | (go_at_call 35; (with_reducible refine (HSz.out _ hb15).mono ?_); rintro e w16 ⟨rfl, hb16, hl16⟩; have e16 := Lib.hid ((hl16.block w14.heap.size (heap_lt e15.out)).trans e15.out); have hR16 := Lib.hid ((hR15.out.below hl16).more hl16.size); have e18 := Lib.hid (heap_alloc_new w16 (.cells #[.int .i64 y.id, .int .i64 y.gen, .int .i64 v2, .int .i64 v3, .int .i64 1, .int .i64 v5, .int .i64 v6, .int .i64 7] 71)); have hb16a := hb16.alloc hb16.size (.cells #[.int .i64 y.id, .int .i64 y.gen, .int .i64 v2, .int .i64 v3, .int .i64 1, .int .i64 v5, .int .i64 v6, .int .i64 7] 71); clear u0 u1)
              | (go_at_call 31; (with_reducible refine (HA.out _).mono ?_); rintro e w17 ⟨rfl, hl17⟩;
                 have hb17 := hb16a.trans (hl17.mono hb16a.size);
                 have e17 := (hl17.block w14.heap.size (by have := heap_lt e16.out; simp; omega)).trans ((Below.heap_alloc w16 _ _ (heap_lt e16.out)).trans e16.out);
                 have g17 := (hl17.block w16.heap.size (by simp)).trans e18.out;
                 have u0 := cell_at e17 0; have u1 := cell_at e17 1; have v4 := cell_at g17 4; have v7 := cell_at g17 7;
                 obtain ⟨z0, z1⟩ := HKz.out _ hb17;
                 have hR17 := ((hR16.out.alloc (Nat.le_refl _) _).below (hl17.mono (by simp)) : Rd w17 w16.heap.size 1 byteC P l2);
                 have hcv1 := rd_str (c := n2) hR17;
                 have hcv2 := rd_str (c := c2) (HD2.out.below (HAz.out.below hb17).blw);
                 rw [HNl2.out] at hcv1 hcv2; clear e17 g17 hR17))
            go_ret
            exact ⟨rfl, (HAz.out.below hb17).blw⟩

set_option maxRecDepth 100000 in
theorem fscoreBack_given (W : World) (args : Array Value) (h : Given W Try.f11 args) :
    Calls Try.prog 11 args W fun e W' => e = .returned (.bool true) ∧ Below W.heap.size W W' := by
  obtain ⟨⟨H, enc, ds, p, hA, hwt⟩, base, hval⟩ := h
  rw [Try.params11] at hA hval hwt
  obtain ⟨v0, vs0, d0, ds0, p0, q0, hargs, rfl, rfl, h0, r0⟩ := trodAll_cons hA
  obtain ⟨v1, vs1, d1, ds1, p1, q1, rfl, rfl, rfl, h1, r1⟩ := trodAll_cons r0
  obtain ⟨v2, vs2, d2, ds2, p2, q2, rfl, rfl, rfl, h2, r2⟩ := trodAll_cons r1
  obtain ⟨rfl, rfl, rfl⟩ := trodAll_nil r2
  obtain rfl : args = #[v0, v1, v2] := by cases args; simp_all
  simp only [DataW.weightsEach, List.all_append, Bool.and_eq_true] at hwt
  obtain ⟨g0, g1, g2, _⟩ := hwt
  obtain ⟨⟨A0, c0, l0⟩, rfl, hm0, hn0, hz0, rd0, hq0⟩ := opens_fops W H enc base v0 d0 p0 (hval 0 _ v0 rfl rfl) h0 g0
  obtain ⟨a1, rfl, hw_a1⟩ := opens_int W H enc base v1 d1 p1 (hval 1 _ v1 rfl rfl) h1 g1
  obtain ⟨⟨A2, c2, l2⟩, rfl, hm2, hn2, hz2, rd2, hq2⟩ := opens_bytes W H enc base v2 d2 p2 (hval 2 _ v2 rfl rfl) h2 g2
  exact fscoreBack_walk l0 A0 c0 a1 l2 A2 c2 W hm0 rd0 hq0 hm2 hn2 rd2

theorem fscoreBack_lifted (os : Os) (started : os.Started) (H : Type) (enc : TypeId × Value → H) :
    ReturnsInHanded {} Try.checked os 11 .any (Rows.fscoreBackSpec.pre6 enc Try.prog Try.f11 Rows.fscoreBackRow.domain false) (Rows.fscoreBackSpec.post enc Try.prog Try.f11 false true false false) :=
  law_lifted (s := Rows.fscoreBackSpec) os started H enc (by kernel_rfl) Try.func11 rfl (by kernel_rfl)
    (by rw [Try.params11]; intro t ht; simp at ht; rcases ht with rfl | rfl | rfl <;> exact ⟨by kernel_rfl, of_decide_eq_true (by kernel_rfl)⟩)
    (by rw [Try.params11]; intro ds hd; match ds, hd with | [x0, x1, x2], _ => exact ⟨rfl, rfl, rfl⟩)
    (ChangeSpec.witness6 (enc := enc) (C := Try.checked) false ⟨#[], #[.slice none 0 0, .int .i64 0, .slice none 0 0], []⟩ 8 (by kernel_rfl) (by kernel_rfl) (by kernel_rfl) (by kernel_rfl))
    fscoreBack_given

theorem fscoreBack_holds : Rows.FscoreBackSaid :=
  OpenClaim.holds_of_wide 11 Try.f11 rfl rfl rfl rfl rfl rfl rfl ⟨rfl, rfl, rfl, rfl, rfl⟩ rfl rfl rfl rfl rfl (by kernel_rfl) Try.func11 (by kernel_rfl)
    (of_decide_eq_true (by kernel_rfl)) (by unfold Func.isWrapper; first | (rw [if_pos (by decide +kernel)]; kernel_rfl) | (rw [if_neg (by decide +kernel)]; exact ⟨rfl, rfl⟩))
    (fun os started H enc _ => fscoreBack_lifted os started H enc)
#print axioms fscoreBack_holds
end Go.Proofs.Ytpcjmefchclhhaa

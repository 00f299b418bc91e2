/- FscoreRoom: there are never more blocks than there is room, nor more inodes than may be: for every input the law returns true. No condition. -/
import Derived.Test.YtpcjmefchclhhaaFtX
namespace Go.Proofs.Ytpcjmefchclhhaa
open Go.RowKit Go.MapKept Go.ChangeShapes Go.WideShapes Go.ChangeAt

set_option maxRecDepth 100000 in
set_option maxHeartbeats 4000000 in
theorem fscoreRoom_walk (room : Int) (hroom : i64ok room) (l : List (OpF × Option Addr × Nat)) (A0 : Option Addr) (c0 : Nat) (W : World) (hm0 : l.length ≤ maxLen) (rd0 : Rd W W.heap.size 16 fopC A0 l) (hq0 : ∀ y ∈ l, FopQ W W.heap.size y) :
    Calls Try.prog 9 #[.int .i64 room, .slice A0 l.length c0] W fun e W' => e = .returned (.bool true) ∧ Below W.heap.size W W' := by
  have HN := Lib.hid (fsAt_new W W (Below.refl _ _) room hroom.2)
  have HFw := Lib.hid (show ∀ w, Below W.heap.size W w → Calls Try.prog 30 #[.slice A0 l.length c0] w fun e w' => e = .returned (.bool (fewFB l)) ∧ Below w.heap.size w w' from fun w hb =>
    few_any17 l A0 c0 w hm0 ((rd0.below hb).more hb.size) (fun y hy => (hq0 y hy).len))
  have HA := Lib.hid alive_any17
  have HD0 := Lib.hid rd0
  have HQ0 := Lib.hid hq0
  clear rd0 hq0
  unfold maxLen at hm0
  have HLe := Lib.hid (fewFB_len (l := l))
  generalize hf : fewFB l = fb at *
  clear hf
  generalize hn : l.length = n at *
  have HNl := Lib.hid hn
  clear hn
  cases fb
  · go_enter Try.func9, Try.ntmps9
    go_wp2_with (first
      | (go_at_call 29; (with_reducible refine HN.out.mono ?_); rintro e w1 ⟨f, mi, mg, N, rfl, hA1, -, -⟩; replace hA1 := Lib.hid hA1)
      | (go_at_call 30; (with_reducible refine (HFw.out _ hA1.out.blw).mono ?_); rintro e w2 ⟨rfl, hB2⟩; have hA2 := Lib.hid (hA1.out.below hB2))
      | (go_at_call 31; (with_reducible refine (HA.out _).mono ?_); rintro e w3 ⟨rfl, hB3⟩; have hA3 := Lib.hid (hA2.out.below hB3)))
    go_ret
    exact ⟨rfl, hA3.out.blw⟩
  · have hn250 := HLe.out rfl
    go_enter Try.func9, Try.ntmps9
    go_wp2_with (first
      | (go_at_call 29; (with_reducible refine HN.out.mono ?_); rintro e w1 ⟨f, mi, mg, N, rfl, hA1, -, -⟩; replace hA1 := Lib.hid hA1)
      | (go_at_call 30; (with_reducible refine (HFw.out _ hA1.out.blw).mono ?_); rintro e w2 ⟨rfl, hB2⟩; have hA2 := Lib.hid (hA1.out.below hB2)))
    go_loopw [26] (fun vi wr => ∃ (i : Nat) (r : RFs) (N : List Nd), i ≤ n ∧ vi = .int .i64 (i : Int) ∧ FsAt W wr f mi mg r i N ∧ r.room = max room 0) (fun vi _ => n - (intOf vi).toNat)
    case atStart => exact ⟨0, newP room, N, Nat.zero_le _, rfl, hA2.out, rfl⟩
    case round =>
      obtain ⟨i, r, N, hi, rfl, hAr, hRo⟩ := hrel
      have HAr := Lib.hid hAr
      clear hAr
      by_cases hin : i < n
      · have hil : i < l.length := by rw [HNl.out]; exact hin
        have hd := HD0.out.below HAr.out.blw
        obtain ⟨ad, had, hadb⟩ := hd.addr hil
        subst had
        have HLd := Lib.hid (load_fop hd hil)
        have q1 := HQ0.out _ (List.getElem_mem hil)
        generalize l[i] = x at *
        have HBa := Lib.hid (show Below wr.heap.size wr (wr.alloc (.cells (fopC x).toArray 59)) from (Below.refl _ _).alloc (Nat.le_refl _) _)
        have HNw := Lib.hid (heap_alloc_new wr (.cells (fopC x).toArray 59))
        have HOne := Lib.hid (fop_one x)
        have HI := Lib.hid (opI x)
        have HAa := HAr.out.below HBa.out
        have HDo := Lib.hid (does_at HAa (by omega) x ((q1.below HAa.blw).more HAa.blw.size))
        have hrm := (do_room HAr.out.wf x.1).trans hRo
        generalize doP r x.1 = p at HDo hrm
        obtain ⟨r', hd2, er, ab⟩ := p
        unfold ansV at HDo
        dsimp only at HDo hrm
        generalize hrow : (fopC x).toArray = row at *
        clear q1 HAa hil hd hrow
        go_wp2_with (first
          | (refine wpList_load_at rfl 59 (.tmp 28) rfl _ _ rfl HLd.out ?_)
          | (refine wpList_store_new rfl 59 (.tmp 7) (.tmp 29) rfl wr _ _ _ rfl rfl (by have := HI.out; rw [opI2] at this; injection this) HI.out HOne.out ?_)
          | (refine wpList_load_row rfl 59 (.tmp 7) rfl wr.heap.size rfl _ _ _ _ HNw.out opT rfl HI.out ?_)
          | (go_at_call 32; (with_reducible refine HDo.out.mono ?_); rintro e w3 ⟨rfl, N3, hG3⟩; have HA3 := Lib.hid hG3.at_; have HFr := Lib.hid (free_any HA3.out.fs HA3.out.wf);
             obtain ⟨t1, t2, t3, t4⟩ : decide (roomP r' < 0) = false ∧ decide (max room 0 < roomP r') = false ∧ decide (200 - (r'.ins.length : Int) < 0) = false ∧ decide (200 ≤ 200 - (r'.ins.length : Int)) = false := (by rw [← hrm]; exact room_bounds HA3.out.wf);
             generalize roomP r' = a1 at *; generalize 200 - (r'.ins.length : Int) = a2 at *)
          | (go_at_call 33; (with_reducible refine HFr.out.mono ?_); rintro e w4 ⟨rfl, hB4⟩; have HA4 := Lib.hid (HA3.out.below hB4)))
        go_roundw
        case rel => exact ⟨i + 1, r', N3, by omega, by go_num, HA4.out, hrm⟩
        case measure => simp [intOf]; omega
      · go_wp2_with (first | (go_at_call 31; (with_reducible refine (HA.out _).mono ?_); rintro e w2 ⟨rfl, hB2⟩; replace hB2 := Lib.hid hB2))
        go_ret
        exact ⟨rfl, (HAr.out.below hB2.out).blw⟩

set_option maxRecDepth 100000 in
theorem fscoreRoom_given (W : World) (args : Array Value) (h : Given W Try.f9 args) :
    Calls Try.prog 9 args W fun e W' => e = .returned (.bool true) ∧ Below W.heap.size W W' := by
  obtain ⟨⟨H, enc, ds, p, hA, hwt⟩, base, hval⟩ := h
  rw [Try.params9] at hA hval hwt
  obtain ⟨v0, vs0, d0, ds0, p0, q0, hargs, rfl, rfl, h0, r0⟩ := trodAll_cons hA
  obtain ⟨v1, vs1, d1, ds1, p1, q1, rfl, rfl, rfl, h1, r1⟩ := trodAll_cons r0
  obtain ⟨rfl, rfl, rfl⟩ := trodAll_nil r1
  obtain rfl : args = #[v0, v1] := by cases args; simp_all
  simp only [DataW.weightsEach, List.all_append, Bool.and_eq_true] at hwt
  obtain ⟨g0, g1, _⟩ := hwt
  obtain ⟨a1, rfl, hw_a1⟩ := opens_int W H enc base v0 d0 p0 (hval 0 _ v0 rfl rfl) h0 g0
  obtain ⟨⟨A0, c0, l0⟩, rfl, hm0, hn0, hz0, rd0, hq0⟩ := opens_fops W H enc base v1 d1 p1 (hval 1 _ v1 rfl rfl) h1 g1
  exact fscoreRoom_walk a1 hw_a1 l0 A0 c0 W hm0 rd0 hq0

theorem fscoreRoom_lifted (os : Os) (started : os.Started) (H : Type) (enc : TypeId × Value → H) :
    ReturnsInHanded {} Try.checked os 9 .any (Rows.fscoreRoomSpec.pre6 enc Try.prog Try.f9 Rows.fscoreRoomRow.domain false) (Rows.fscoreRoomSpec.post enc Try.prog Try.f9 false true false false) :=
  law_lifted (s := Rows.fscoreRoomSpec) os started H enc (by kernel_rfl) Try.func9 rfl (by kernel_rfl)
    (by rw [Try.params9]; intro t ht; simp at ht; rcases ht with rfl | rfl <;> exact ⟨by kernel_rfl, of_decide_eq_true (by kernel_rfl)⟩)
    (by rw [Try.params9]; intro ds hd; match ds, hd with | [x0, x1], _ => exact ⟨rfl, rfl, rfl⟩)
    (ChangeSpec.witness6 (enc := enc) (C := Try.checked) false ⟨#[], #[.int .i64 0, .slice none 0 0], []⟩ 8 (by kernel_rfl) (by kernel_rfl) (by kernel_rfl) (by kernel_rfl))
    fscoreRoom_given

theorem fscoreRoom_holds : Rows.FscoreRoomSaid :=
  OpenClaim.holds_of_wide 9 Try.f9 rfl rfl rfl rfl rfl rfl rfl ⟨rfl, rfl, rfl, rfl, rfl⟩ rfl rfl rfl rfl rfl (by kernel_rfl) Try.func9 (by kernel_rfl)
    (of_decide_eq_true (by kernel_rfl)) (by unfold Func.isWrapper; first | (rw [if_pos (by decide +kernel)]; kernel_rfl) | (rw [if_neg (by decide +kernel)]; exact ⟨rfl, rfl⟩))
    (fun os started H enc _ => fscoreRoom_lifted os started H enc)
#print axioms fscoreRoom_holds
end Go.Proofs.Ytpcjmefchclhhaa

/- SheetRoom: never more blocks than the bytes have, and just as many more as a write needs: for every input the law returns true. No condition. -/
import Derived.Test.YtpcjmefchclhhaaShJ
import Derived.Test.YtpcjmefchclhhaaShK
namespace Go.Proofs.Ytpcjmefchclhhaa
open Go.RowKit Go.MapKept Go.ChangeShapes Go.WideShapes Go.ChangeAt

theorem need_le (bl : List (Nat × List UInt8)) (a : Int) (n : Nat) : needN bl a n ≤ 70000 := by
  unfold needN
  split
  · rename_i h
    obtain ⟨h0, h1, h2⟩ := of_decide_eq_true h.1
    have := missing_le bl (a.toNat / 16) ((a.toNat + n - 1) / 16 - a.toNat / 16 + 1)
    omega
  · omega
theorem blocks_le {w : World} {b m size : Nat} {bl : List (Nat × List UInt8)} (h : Raw w b m size bl) : bl.length ≤ 65536 := by
  have := nodup_lt 65536 (bl.map (·.1)) h.map.nodup (fun x hx => by
    obtain ⟨p, hp, rfl⟩ := List.mem_map.1 hx
    exact h.keys p hp)
  simpa using this

set_option maxRecDepth 100000 in
set_option maxHeartbeats 2000000 in
theorem sheetRoom_walk (l : List (OpR × Option Addr × Nat)) (A0 : Option Addr) (c0 : Nat) (a1 : Int) (l2 : List UInt8) (A2 : Option Addr) (c2 : Nat) (W : World) (hm0 : l.length ≤ maxLen) (rd0 : Rd W W.heap.size 4 opC A0 l) (hq0 : ∀ y ∈ l, opQ W y)
    (hm2 : l2.length ≤ maxLen) (hn2 : l2.length ≤ c2) (rd2 : Rd W W.heap.size 1 byteC A2 l2) :
    Calls Try.prog 5 #[.slice A0 l.length c0, .int .i64 a1, .slice A2 l2.length c2] W fun e W' => e = .returned (.bool true) ∧ Below W.heap.size W W' := by
  have HN := Lib.hid (new_any W)
  have HA := Lib.hid alive_any
  have HD0 := Lib.hid rd0
  have HD2 := Lib.hid rd2
  have HQ0 := Lib.hid hq0
  have HM2 := Lib.hid hm2
  have HC2 := Lib.hid hn2
  clear rd0 rd2 hq0 hn2
  unfold maxLen at hm0 hm2
  generalize hn : l.length = n at *
  have HNl := Lib.hid hn
  clear hn
  generalize hn : l2.length = n2 at *
  have HN2 := Lib.hid hn
  clear hn
  by_cases h1 : n ≤ 60
  · by_cases h2 : n2 ≤ 3000
    · go_enter Try.func5, Try.ntmps5
      go_wp2_with (go_at_call 13; (with_reducible refine HN.out.mono ?_); rintro e w1 ⟨b, m, rfl, hb, hm, hR, hB⟩)
      have HR1 := Lib.hid hR
      have HB1 := Lib.hid hB
      clear hR hB
      go_loopw [33] (fun vi wr => ∃ (i size : Nat) (bl : List (Nat × List UInt8)), i ≤ n ∧ vi = .int .i64 (i : Int) ∧ Raw wr b m size bl ∧ Inv size bl ∧ Below W.heap.size W wr) (fun vi _ => n - (intOf vi).toNat)
      case atStart => exact ⟨0, 0, [], Nat.zero_le _, rfl, HR1.out, by intro p hp; simp at hp, HB1.out⟩
      case round =>
        obtain ⟨i, size, bl, hi, rfl, hRr, hIr, hBr⟩ := hrel
        have HRr := Lib.hid hRr
        have HIr := Lib.hid hIr
        have HBr := Lib.hid hBr
        clear hRr hIr hBr
        by_cases hin : i < n
        · have hil : i < l.length := by rw [HNl.out]; exact hin
          have hd := HD0.out.below HBr.out
          obtain ⟨ad, had, hadb⟩ := hd.addr hil
          subst had
          have d0 : wr.cell? (ad.add (i * 4)) = _ := hd.cell hil (j := 0) rfl
          have d1 : wr.cell? ⟨(ad.add (i * 4)).block, (ad.add (i * 4)).off + 1, none⟩ = _ := hd.cell hil (j := 1) rfl
          have d2 : wr.cell? ⟨(ad.add (i * 4)).block, (ad.add (i * 4)).off + 2, none⟩ = _ := hd.cell hil (j := 2) rfl
          have d3 : wr.cell? ⟨(ad.add (i * 4)).block, (ad.add (i * 4)).off + 3, none⟩ = _ := hd.cell hil (j := 3) rfl
          obtain ⟨q1, q2, q3, _, _⟩ := HQ0.out _ (List.getElem_mem hil)
          generalize l[i] = x at *
          obtain ⟨⟨K, at_, nn, bs⟩, A, c⟩ := x
          dsimp only at d0 d1 d2 d3 q1 q2 q3
          have hba : Below wr.heap.size wr (wr.alloc (.cells #[.int .i64 K, .int .i64 at_, .int .i64 nn, .slice A bs.length c] 39)) := (Below.refl _ _).alloc (Nat.le_refl _) _
          have HDo := Lib.hid (show Calls Try.prog 20 #[.pointer (some ⟨b, 0, none⟩), .agg #[.int .i64 K, .int .i64 at_, .int .i64 nn, .slice A bs.length c]] _ _ from does_any (HRr.out.below hba) ⟨K, at_, nn, bs⟩ A c q1 q2 (((q3.below HBr.out).more HBr.out.size).below hba |>.more hba.size))
          have hinv := inv_step HIr.out ⟨K, at_, nn, bs⟩
          generalize stepOk ⟨K, at_, nn, bs⟩ = ok at HDo
          generalize stepSize size ⟨K, at_, nn, bs⟩ = size' at HDo hinv
          generalize stepBl size bl ⟨K, at_, nn, bs⟩ = bl' at HDo hinv
          have HIn := Lib.hid hinv
          have HBa := Lib.hid hba
          clear hba q1 q2 q3 hd hil hinv
          by_cases hbig : bs.length ≤ 3000
          · go_wp2_with (first
              | (go_at_call 20; (with_reducible refine HDo.out.mono ?_); rintro e w3 ⟨rfl, hR3, hF3⟩; have hsm := hR3.small; have hrm : decide (((size' : Int) + 16 - 1) / 16 < (bl'.length : Int)) = false := (by rw [decide_eq_false_iff_not]; have := inv_room HIn.out hR3.map.nodup; omega); replace hR3 := Lib.hid hR3; replace hF3 := Lib.hid hF3)
              | (go_at_call 22; (with_reducible refine (size_any hR3.out).mono ?_); rintro e w4 ⟨rfl, rfl⟩)
              | (go_at_call 21; (with_reducible refine (blocks_any hR3.out).mono ?_); rintro e w4 ⟨rfl, rfl⟩))
            go_roundw
            case rel => exact ⟨i + 1, size', bl', by omega, by go_num, hR3.out, HIn.out, Frm.below hF3.out (HBr.out.trans (HBa.out.mono HBr.out.size)) (Nat.le_trans HBr.out.size HBa.out.size) (by simp; omega)⟩
            case measure => simp [intOf]; omega
          · go_wp2_with (first | (go_at_call 15; (with_reducible refine (HA.out _).mono ?_); rintro e w2 ⟨rfl, hB2⟩; replace hB2 := Lib.hid hB2))
            go_ret
            exact ⟨rfl, (HBr.out.trans (HBa.out.mono HBr.out.size)).trans (hB2.out.mono (Nat.le_trans HBr.out.size HBa.out.size))⟩
        · have HNe := Lib.hid (need_any HRr.out a1 A2 n2 c2 HM2.out)
          have HW : ∀ w5, Below wr.heap.size wr w5 → Calls Try.prog 19 #[.pointer (some ⟨b, 0, none⟩), .int .i64 a1, .slice A2 n2 c2] w5 fun e w' => e = .returned (.bool (fitsB a1 n2)) ∧ Raw w' b m (wrSize size a1 n2) (wrBl bl a1 l2) ∧ Frm [b, m] w5 w' := fun w5 hB5 => by
            have h := write_any (HRr.out.below hB5) a1 A2 c2 l2 (by rw [HN2.out]; exact HM2.out) (by rw [HN2.out]; exact HC2.out) (((HD2.out.below HBr.out).below (hB5.mono HBr.out.size)).more (Nat.le_trans HBr.out.size hB5.size))
            rw [HN2.out] at h
            exact h
          have HWr := Lib.hid HW
          have HLen := Lib.hid (show (wrBl bl a1 l2).length = bl.length + needN bl a1 n2 by rw [room_write, HN2.out])
          have HF0 := Lib.hid (show fitsB a1 n2 = false → needN bl a1 n2 = 0 from need_zero)
          clear HW
          have hnb1 := blocks_le HRr.out
          have hnb2 := need_le bl a1 n2
          have HBl := Lib.hid (blocks_any HRr.out)
          generalize needN bl a1 n2 = nd at *
          generalize wrBl bl a1 l2 = bl2 at *
          generalize bl.length = L0 at *
          have hlast : fitsB a1 n2 = true ∨ fitsB a1 n2 = false ∧ nd = 0 := by
            cases hfi : fitsB a1 n2
            · exact .inr ⟨rfl, HF0.out hfi⟩
            · exact .inl rfl
          clear HF0
          generalize fitsB a1 n2 = fi at *
          rcases hlast with rfl | ⟨rfl, rfl⟩
          all_goals
            go_wp2_with (first
              | (go_at_call 23; (with_reducible refine HNe.out.mono ?_); rintro e w5 ⟨rfl, hB5⟩; replace hB5 := Lib.hid hB5)
              | (go_at_call 19; (with_reducible refine (HWr.out _ hB5.out).mono ?_); rintro e w3 ⟨rfl, hR3, hF3⟩; replace hR3 := Lib.hid hR3; replace hF3 := Lib.hid hF3)
              | (go_at_call 15; (with_reducible refine (HA.out _).mono ?_); rintro e w2 ⟨rfl, hB2⟩; have hbl2 := blocks_any (hR3.out.below hB2); rw [HLen.out] at hbl2; replace hbl2 := Lib.hid hbl2; replace hB2 := Lib.hid hB2)
              | (go_at_call 21; (with_reducible refine HBl.out.mono ?_); rintro e w4 ⟨rfl, rfl⟩)
              | (go_at_call 21; (with_reducible refine hbl2.out.mono ?_); rintro e w4 ⟨rfl, rfl⟩))
            go_ret
            exact ⟨rfl, (Frm.below hF3.out (HBr.out.trans (hB5.out.mono HBr.out.size)) (Nat.le_trans HBr.out.size hB5.out.size) (by simp; omega)).trans (hB2.out.mono (Nat.le_trans HBr.out.size (Nat.le_trans hB5.out.size hF3.out.size)))⟩
    · go_enter Try.func5, Try.ntmps5
      go_wp2_with (first | (go_at_call 13; (with_reducible refine HN.out.mono ?_); rintro e w1 ⟨b, m, rfl, hb, hm, hR, hB⟩; replace hB := Lib.hid hB; clear hR) | (go_at_call 15; (with_reducible refine (HA.out _).mono ?_); rintro e w2 ⟨rfl, hB2⟩; replace hB2 := Lib.hid hB2))
      go_ret
      exact ⟨rfl, hB.out.trans (hB2.out.mono hB.out.size)⟩
  · go_enter Try.func5, Try.ntmps5
    go_wp2_with (first | (go_at_call 13; (with_reducible refine HN.out.mono ?_); rintro e w1 ⟨b, m, rfl, hb, hm, hR, hB⟩; replace hB := Lib.hid hB; clear hR) | (go_at_call 15; (with_reducible refine (HA.out _).mono ?_); rintro e w2 ⟨rfl, hB2⟩; replace hB2 := Lib.hid hB2))
    go_ret
    exact ⟨rfl, hB.out.trans (hB2.out.mono hB.out.size)⟩

set_option maxRecDepth 100000 in
theorem sheetRoom_given (W : World) (args : Array Value) (h : Given W Try.f5 args) :
    Calls Try.prog 5 args W fun e W' => e = .returned (.bool true) ∧ Below W.heap.size W W' := by
  obtain ⟨⟨H, enc, ds, p, hA, hwt⟩, base, hval⟩ := h
  rw [Try.params5] at hA hval hwt
  obtain ⟨v0, vs0, d0, ds0, p0, q0, hargs, rfl, rfl, h0, r0⟩ := trodAll_cons hA
  obtain ⟨v1, vs1, d1, ds1, p1, q1, rfl, rfl, rfl, h1, r1⟩ := trodAll_cons r0
  obtain ⟨v2, vs2, d2, ds2, p2, q2, rfl, rfl, rfl, h2, r2⟩ := trodAll_cons r1
  obtain ⟨rfl, rfl, rfl⟩ := trodAll_nil r2
  obtain rfl : args = #[v0, v1, v2] := by cases args; simp_all
  simp only [DataW.weightsEach, List.all_append, Bool.and_eq_true] at hwt
  obtain ⟨g0, g1, g2, _⟩ := hwt
  obtain ⟨⟨A0, c0, l0⟩, rfl, hm0, hn0, hz0, rd0, hq0⟩ := opens_ops W H enc base v0 d0 p0 (hval 0 _ v0 rfl rfl) h0 g0
  obtain ⟨a1, rfl, hw_a1⟩ := opens_int W H enc base v1 d1 p1 (hval 1 _ v1 rfl rfl) h1 g1
  obtain ⟨⟨A2, c2, l2⟩, rfl, hm2, hn2, hz2, rd2, hq2⟩ := opens_bytes W H enc base v2 d2 p2 (hval 2 _ v2 rfl rfl) h2 g2
  exact sheetRoom_walk l0 A0 c0 a1 l2 A2 c2 W hm0 rd0 hq0 hm2 hn2 rd2

theorem sheetRoom_lifted (os : Os) (started : os.Started) (H : Type) (enc : TypeId × Value → H) :
    ReturnsInHanded {} Try.checked os 5 .any (Rows.sheetRoomSpec.pre6 enc Try.prog Try.f5 Rows.sheetRoomRow.domain false) (Rows.sheetRoomSpec.post enc Try.prog Try.f5 false true false false) :=
  law_lifted (s := Rows.sheetRoomSpec) os started H enc (by kernel_rfl) Try.func5 rfl (by kernel_rfl)
    (by rw [Try.params5]; intro t ht; simp at ht; rcases ht with rfl | rfl | rfl <;> exact ⟨by kernel_rfl, of_decide_eq_true (by kernel_rfl)⟩)
    (by rw [Try.params5]; intro ds hd; match ds, hd with | [x0, x1, x2], _ => exact ⟨rfl, rfl, rfl⟩)
    (ChangeSpec.witness6 (enc := enc) (C := Try.checked) false ⟨#[], #[.slice none 0 0, .int .i64 0, .slice none 0 0], []⟩ 8 (by kernel_rfl) (by kernel_rfl) (by kernel_rfl) (by kernel_rfl))
    sheetRoom_given

theorem sheetRoom_holds : Rows.SheetRoomSaid :=
  OpenClaim.holds_of_wide 5 Try.f5 rfl rfl rfl rfl rfl rfl rfl ⟨rfl, rfl, rfl, rfl, rfl⟩ rfl rfl rfl rfl rfl (by kernel_rfl) Try.func5 (by kernel_rfl)
    (of_decide_eq_true (by kernel_rfl)) (by unfold Func.isWrapper; first | (rw [if_pos (by decide +kernel)]; kernel_rfl) | (rw [if_neg (by decide +kernel)]; exact ⟨rfl, rfl⟩))
    (fun os started H enc _ => sheetRoom_lifted os started H enc)
#print axioms sheetRoom_holds
end Go.Proofs.Ytpcjmefchclhhaa

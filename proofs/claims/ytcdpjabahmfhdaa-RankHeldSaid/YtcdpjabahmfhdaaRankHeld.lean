/- RankHeld: what a quorum has is told as the document says; of any quorum of the acks one is not below it: for every input the law returns true. No condition. -/
import Derived.Test.YtcdpjabahmfhdaaRkK
import Derived.Test.YtcdpjabahmfhdaaPure
namespace Go.Proofs.Ytcdpjabahmfhdaa
open Go.ChangeShapes Go.WideShapes Go.ChangeAt Go.RowKit

theorem held_cnt {l : List Int} (h : heldI l ≠ 0) : quorumI l.length ≤ cntB l (heldI l) := by
  unfold heldI at h ⊢
  split at h
  · rename_i h7
    rw [if_pos h7]
    obtain ⟨_, _, h2⟩ := heldTo_max l l.length (Nat.le_refl _)
    rcases h2 with h2 | ⟨j, hj, e, hq⟩
    · exact absurd h2 h
    · rw [e]; exact hq
  · exact absurd rfl h
theorem bool_at {w : World} {g : Nat} {t : TypeId} {x : List Bool} (hg : w.heap[g]? = some (.cells (x.map Value.bool).toArray t (0, 0))) {i : Nat} (hi : i < x.length) : w.cell? ⟨g, i, none⟩ = some (.bool x[i]) := by
  rw [cell_at hg]
  simp [hi]

set_option maxHeartbeats 2000000 in
theorem rankHeld_walk (l : List Int) (A : Option Addr) (c : Nat) (x : List Bool) (hx : x.length = 7) (w : World) (hm : l.length ≤ maxLen) (hl : Rd w w.heap.size 1 intC A l) :
    Calls Try.prog 6 #[.slice A l.length c, .agg (x.map Value.bool).toArray] w fun e w' => e = .returned (.bool true) ∧ Below w.heap.size w w' := by
  have HM := Lib.hid hm
  unfold maxLen at hm
  have hb0 : Below w.heap.size w (w.alloc (.cells (x.map Value.bool).toArray 28)) := (Below.refl _ _).alloc (Nat.le_refl _) _
  have HX := Lib.hid (heap_alloc_new w (.cells (x.map Value.bool).toArray 28))
  have hsz : w.heap.size < (w.alloc (.cells (x.map Value.bool).toArray 28)).heap.size := by simp
  go_enter Try.func6, Try.ntmps6
  go_wp2_with fail
  generalize (w.alloc (.cells (x.map Value.bool).toArray 28)) = wb at *
  have H1 := Lib.hid (ever_below (w0 := wb) fun w1 _ => alive_any w1)
  have H2 := Lib.hid (ever_below (w0 := wb) fun w1 hb => held_any l A c w1 HM.out ((hl.below (hb0.trans (hb.mono hb0.size))).more (Nat.le_trans hb0.size hb.size)))
  have H3 := Lib.hid (ever_same (w0 := wb) fun w1 hb => refHeld_any l A c w1 HM.out ((hl.below (hb0.trans (hb.mono hb0.size))).more (Nat.le_trans hb0.size hb.size)))
  have HC := Lib.hid (held_cnt (l := l))
  have HN0 := Lib.hid (held_none (l := l))
  generalize hn : l.length = n at *
  have HN := Lib.hid hn
  clear hn
  have H4 := Lib.hid (ever_same (w0 := wb) fun w1 _ => refQuorum_any n w1)
  generalize hh : heldI l = h at *
  clear hh
  have hbb := Below.refl wb.heap.size wb
  have hq := quorum_bd n
  cases hg : groupB n
  · have hz : h = 0 := HN0.out hg
    have hnn : n = 0 ∨ 7 < n := by unfold groupB at hg; rw [decide_eq_false_iff_not] at hg; omega
    have hzb : (h == 0) = true := by rw [hz]; rfl
    have HZ := Lib.hid hz
    clear hz hl
    rcases hnn with h0 | h7
    · have h0' : (n : Int) < 1 := by omega
      clear h0
      go_wp2_with (first
        | (go_at_call 13; (with_reducible refine (Ever.at_ H1 _ (by assumption)).mono ?_); rintro e w1 ⟨rfl, hb1⟩)
        | (go_at_call 18; (with_reducible refine (Ever.at_ H2 _ (by assumption)).mono ?_); rintro e w1 ⟨rfl, hb1⟩)
        | (go_at_call 19; (with_reducible refine (Ever.at_ H3 _ (by assumption)).mono ?_); rintro e w1 ⟨rfl, hb1⟩)
        | (go_at_call 15; (with_reducible refine (Ever.at_ H4 _ (by assumption)).mono ?_); rintro e w1 ⟨rfl, hb1⟩))
      go_ret
      exact ⟨rfl, hb0.trans (Below.mono (by assumption) hb0.size)⟩
    · have h7' : (7 : Int) < n := by omega
      go_wp2_with (first
        | (go_at_call 13; (with_reducible refine (Ever.at_ H1 _ (by assumption)).mono ?_); rintro e w1 ⟨rfl, hb1⟩)
        | (go_at_call 18; (with_reducible refine (Ever.at_ H2 _ (by assumption)).mono ?_); rintro e w1 ⟨rfl, hb1⟩)
        | (go_at_call 19; (with_reducible refine (Ever.at_ H3 _ (by assumption)).mono ?_); rintro e w1 ⟨rfl, hb1⟩)
        | (go_at_call 15; (with_reducible refine (Ever.at_ H4 _ (by assumption)).mono ?_); rintro e w1 ⟨rfl, hb1⟩))
      go_ret
      exact ⟨rfl, hb0.trans (Below.mono (by assumption) hb0.size)⟩
  · obtain ⟨hg1, hg2⟩ := group_bd hg
    have hq2 : (n : Int) < 2 * quorumI n := by unfold quorumI; rw [if_pos hg]; omega
    go_wp2_with (first
      | (go_at_call 13; (with_reducible refine (Ever.at_ H1 _ (by assumption)).mono ?_); rintro e w1 ⟨rfl, hb1⟩)
      | (go_at_call 18; (with_reducible refine (Ever.at_ H2 _ (by assumption)).mono ?_); rintro e w1 ⟨rfl, hb1⟩)
      | (go_at_call 19; (with_reducible refine (Ever.at_ H3 _ (by assumption)).mono ?_); rintro e w1 ⟨rfl, hb1⟩)
      | (go_at_call 15; (with_reducible refine (Ever.at_ H4 _ (by assumption)).mono ?_); rintro e w1 ⟨rfl, hb1⟩))
    go_loopw [6, 7, 31] (fun vm vr i wr => ∃ (k M Z : Nat) (r : Bool), k ≤ n ∧ i = .int .i64 k ∧ vm = .int .i64 M ∧ vr = .bool r ∧ M + cntB (l.take k) h ≤ k + Z ∧ M ≤ k ∧ (0 < Z → r = true) ∧ Below wb.heap.size wb wr) (fun _ _ i _ => n - (intOf i).toNat)
    case atStart => exact ⟨0, 0, 0, false, Nat.zero_le _, rfl, rfl, rfl, by simp [cntB], by omega, by omega, by assumption⟩
    case round =>
      obtain ⟨k, M, Z, r, hk, rfl, rfl, rfl, hMZ, hMk, hZr, hbr⟩ := hrel
      by_cases hlt : k < n
      · have hkl : k < l.length := by rw [HN.out]; exact hlt
        have hl' := (hl.below (hb0.trans (hbr.mono hb0.size)))
        obtain ⟨a, hA, hab⟩ := hl'.addr hkl
        subst hA
        have c0 : wr.cell? (a.add (k * 1)) = _ := hl'.cell hkl (j := 0) rfl
        rw [Nat.mul_one] at c0
        have hblk : wr.heap[w.heap.size]? = some (.cells (x.map Value.bool).toArray 28 (0, 0)) := (hbr.block _ hsz).trans HX.out
        have cx := bool_at hblk (i := k) (by omega)
        clear hblk hl'
        have i1 : (k : Int) < 7 := by omega
        have HS := Lib.hid (cnt_step h hkl)
        generalize l[k] = y at *
        generalize x[k] = bx at *
        generalize cntB (l.take k) h = C at *
        clear H1 H2 H3 H4 HC
        cases bx
        · by_cases hy : h ≤ y
          · cases r
            · go_wp2
              go_roundw
              case rel => exact ⟨k + 1, M, Z, false, by omega, by go_num, rfl, rfl, by rw [HS.out, if_pos hy]; omega, by omega, by intro h0; exact hZr (by omega), hbr⟩
              case measure => simp [intOf]; omega
            · go_wp2
              go_roundw
              case rel => exact ⟨k + 1, M, Z, true, by omega, by go_num, rfl, rfl, by rw [HS.out, if_pos hy]; omega, by omega, by intro _; rfl, hbr⟩
              case measure => simp [intOf]; omega
          · cases r
            · go_wp2
              go_roundw
              case rel => exact ⟨k + 1, M, Z, false, by omega, by go_num, rfl, rfl, by rw [HS.out, if_neg hy]; omega, by omega, by intro h0; exact hZr (by omega), hbr⟩
              case measure => simp [intOf]; omega
            · go_wp2
              go_roundw
              case rel => exact ⟨k + 1, M, Z, true, by omega, by go_num, rfl, rfl, by rw [HS.out, if_neg hy]; omega, by omega, by intro _; rfl, hbr⟩
              case measure => simp [intOf]; omega
        · by_cases hy : h ≤ y
          · cases r
            · go_wp2
              go_roundw
              case rel => exact ⟨k + 1, M + 1, Z + 1, true, by omega, by go_num, by go_num, rfl, by rw [HS.out, if_pos hy]; omega, by omega, by intro _; rfl, hbr⟩
              case measure => simp [intOf]; omega
            · go_wp2
              go_roundw
              case rel => exact ⟨k + 1, M + 1, Z + 1, true, by omega, by go_num, by go_num, rfl, by rw [HS.out, if_pos hy]; omega, by omega, by intro _; rfl, hbr⟩
              case measure => simp [intOf]; omega
          · cases r
            · go_wp2
              go_roundw
              case rel => exact ⟨k + 1, M + 1, Z, false, by omega, by go_num, by go_num, rfl, by rw [HS.out, if_neg hy]; omega, by omega, by intro h0; exact hZr (by omega), hbr⟩
              case measure => simp [intOf]; omega
            · go_wp2
              go_roundw
              case rel => exact ⟨k + 1, M + 1, Z, true, by omega, by go_num, by go_num, rfl, by rw [HS.out, if_neg hy]; omega, by omega, by intro _; rfl, hbr⟩
              case measure => simp [intOf]; omega
      · obtain rfl : k = n := by omega
        rw [List.take_of_length_le (by rw [HN.out]; exact Nat.le_refl _)] at hMZ
        by_cases h1 : (M : Int) < quorumI k
        · go_wp2_with (first
            | (go_at_call 13; (with_reducible refine (Ever.at_ H1 _ (by assumption)).mono ?_); rintro e w1 ⟨rfl, hb1⟩)
            | (go_at_call 15; (with_reducible refine (Ever.at_ H4 _ (by assumption)).mono ?_); rintro e w1 ⟨rfl, hb1⟩))
          go_ret
          exact ⟨rfl, hb0.trans (Below.mono (by assumption) hb0.size)⟩
        · by_cases h2 : h = 0
          · have h2' : (h == 0) = true := by rw [h2]; rfl
            have HZ := Lib.hid h2
            clear h2
            cases r
            · go_wp2_with (first
                | (go_at_call 13; (with_reducible refine (Ever.at_ H1 _ (by assumption)).mono ?_); rintro e w1 ⟨rfl, hb1⟩)
                | (go_at_call 15; (with_reducible refine (Ever.at_ H4 _ (by assumption)).mono ?_); rintro e w1 ⟨rfl, hb1⟩))
              go_ret
              exact ⟨rfl, hb0.trans (Below.mono (by assumption) hb0.size)⟩
            · go_wp2_with (first
                | (go_at_call 13; (with_reducible refine (Ever.at_ H1 _ (by assumption)).mono ?_); rintro e w1 ⟨rfl, hb1⟩)
                | (go_at_call 15; (with_reducible refine (Ever.at_ H4 _ (by assumption)).mono ?_); rintro e w1 ⟨rfl, hb1⟩))
              go_ret
              exact ⟨rfl, hb0.trans (Below.mono (by assumption) hb0.size)⟩
          · have h3 := HC.out h2
            have h4 : r = true := hZr (by omega)
            subst h4
            go_wp2_with (first
              | (go_at_call 13; (with_reducible refine (Ever.at_ H1 _ (by assumption)).mono ?_); rintro e w1 ⟨rfl, hb1⟩)
              | (go_at_call 15; (with_reducible refine (Ever.at_ H4 _ (by assumption)).mono ?_); rintro e w1 ⟨rfl, hb1⟩))
            go_ret
            exact ⟨rfl, hb0.trans (Below.mono (by assumption) hb0.size)⟩

theorem rankHeld_given (W : World) (args : Array Value) (h : Given W Try.f6 args) :
    Calls Try.prog 6 args W fun e W' => e = .returned (.bool true) ∧ Below W.heap.size W W' := by
  obtain ⟨⟨H, enc, ds, p, hA, hwt⟩, base, hval⟩ := h
  rw [Try.params6] at hA hval hwt
  obtain ⟨v0, vs0, d0, ds0, p0, q0, hargs, rfl, rfl, h0, r0⟩ := trodAll_cons hA
  obtain ⟨v1, vs1, d1, ds1, p1, q1, rfl, rfl, rfl, h1, r1⟩ := trodAll_cons r0
  obtain ⟨rfl, rfl, rfl⟩ := trodAll_nil r1
  obtain rfl : args = #[v0, v1] := by cases args; simp_all
  simp only [DataW.weightsEach, List.all_append, Bool.and_eq_true] at hwt
  obtain ⟨g0, g1, _⟩ := hwt
  obtain ⟨⟨A0, c0, l0⟩, rfl, hm0, hn0, hz0, rd0, hq0⟩ := opens_ints W H enc base v0 d0 p0 (hval 0 _ v0 rfl rfl) h0 g0
  obtain ⟨b1, rfl, hb1⟩ := opens_bools7 W H enc base v1 d1 p1 (hval 1 _ v1 rfl rfl) h1 g1
  exact rankHeld_walk l0 A0 c0 b1 hb1 W hm0 rd0

theorem rankHeld_lifted (os : Os) (started : os.Started) (H : Type) (enc : TypeId × Value → H) :
    ReturnsInHanded {} Try.checked os 6 .any (Rows.rankHeldSpec.pre6 enc Try.prog Try.f6 Rows.rankHeldRow.domain false) (Rows.rankHeldSpec.post enc Try.prog Try.f6 false true false false) :=
  law_lifted (s := Rows.rankHeldSpec) os started H enc (by kernel_rfl) Try.func6 rfl (by kernel_rfl)
    (by rw [Try.params6]; intro t ht; simp at ht; rcases ht with rfl | rfl <;> exact ⟨by kernel_rfl, of_decide_eq_true (by kernel_rfl)⟩)
    (by rw [Try.params6]; intro ds hd; match ds, hd with | [x0, x1], _ => exact ⟨rfl, rfl, rfl⟩)
    (ChangeSpec.witness6 (enc := enc) (C := Try.checked) false ⟨#[], #[.slice none 0 0, .agg #[.bool false, .bool false, .bool false, .bool false, .bool false, .bool false, .bool false]], []⟩ 8 (by kernel_rfl) (by kernel_rfl) (by kernel_rfl) (by kernel_rfl))
    rankHeld_given

theorem rankHeld_holds : Rows.RankHeldSaid :=
  OpenClaim.holds_of_wide 6 Try.f6 rfl rfl rfl rfl rfl rfl rfl ⟨rfl, rfl, rfl, rfl, rfl⟩ rfl rfl rfl rfl rfl (by kernel_rfl) Try.func6 (by kernel_rfl)
    (of_decide_eq_true (by kernel_rfl)) (by unfold Func.isWrapper; first | (rw [if_pos (by decide +kernel)]; kernel_rfl) | (rw [if_neg (by decide +kernel)]; exact ⟨rfl, rfl⟩))
    (fun os started H enc _ => rankHeld_lifted os started H enc)
#print axioms rankHeld_holds
end Go.Proofs.Ytcdpjabahmfhdaa

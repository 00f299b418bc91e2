/- RankMeets: any two sets of as many members as a quorum have a member in common: for every input the law returns true. No condition. -/
import Derived.Test.YtcdpjabahmfhdaaRkK
import Derived.Test.YtcdpjabahmfhdaaPure
namespace Go.Proofs.Ytcdpjabahmfhdaa
open Go.ChangeShapes Go.WideShapes Go.ChangeAt Go.RowKit

theorem bool_cell {w : World} {g : Nat} {t : TypeId} {x : List Bool} (hg : w.heap[g]? = some (.cells (x.map Value.bool).toArray t (0, 0))) {i : Nat} (hi : i < x.length) : w.cell? ⟨g, i, none⟩ = some (.bool x[i]) := by
  rw [cell_at hg]
  simp [hi]

set_option maxHeartbeats 1000000 in
theorem rankMeets_walk (m : Int) (x y : List Bool) (hx : x.length = 7) (hy : y.length = 7) (w : World) :
    Calls Try.prog 4 #[.int .i64 m, .agg (x.map Value.bool).toArray, .agg (y.map Value.bool).toArray] w fun e w' => e = .returned (.bool true) ∧ Below w.heap.size w w' := by
  have hb0 : Below w.heap.size w ((w.alloc (.cells (x.map Value.bool).toArray 28)).alloc (.cells (y.map Value.bool).toArray 28)) := ((Below.refl _ _).alloc (Nat.le_refl _) _).alloc (by simp) _
  have hgx : ((w.alloc (.cells (x.map Value.bool).toArray 28)).alloc (.cells (y.map Value.bool).toArray 28)).heap[w.heap.size]? = some (.cells (x.map Value.bool).toArray 28 (0, 0)) :=
    (Below.heap_alloc _ _ _ (by simp)).trans (heap_alloc_new w _)
  have hgy : ((w.alloc (.cells (x.map Value.bool).toArray 28)).alloc (.cells (y.map Value.bool).toArray 28)).heap[w.heap.size + 1]? = some (.cells (y.map Value.bool).toArray 28 (0, 0)) := by
    have h := heap_alloc_new (w.alloc (.cells (x.map Value.bool).toArray 28)) (.cells (y.map Value.bool).toArray 28)
    simpa using h
  have HX := Lib.hid hgx
  have HY := Lib.hid hgy
  clear hgx hgy
  go_enter Try.func4, Try.ntmps4
  go_wp2_with fail
  have hq := quorum_any m ((w.alloc (.cells (x.map Value.bool).toArray 28)).alloc (.cells (y.map Value.bool).toArray 28))
  refine hq.mono ?_
  clear hq
  rintro e w1 ⟨rfl, rfl⟩
  generalize ((w.alloc (.cells (x.map Value.bool).toArray 28)).alloc (.cells (y.map Value.bool).toArray 28)) = wb at *
  have H1 := Lib.hid (ever_below (w0 := w) fun w1 _ => alive_any w1)
  cases hg : groupB m
  · have hq0 : quorumI m = 0 := by unfold quorumI; rw [hg]; rfl
    rw [hq0]
    have hm : m < 1 ∨ 7 < m := by unfold groupB at hg; rw [decide_eq_false_iff_not] at hg; omega
    by_cases hm1 : m < 1
    · go_wp2_with (go_at_call 13; (with_reducible refine (Ever.at_ H1 _ (by assumption)).mono ?_); rintro e w1 ⟨rfl, hb1⟩)
      go_ret
      exact ⟨rfl, by assumption⟩
    · have hm7 : 7 < m := by omega
      go_wp2_with (go_at_call 13; (with_reducible refine (Ever.at_ H1 _ (by assumption)).mono ?_); rintro e w1 ⟨rfl, hb1⟩)
      go_ret
      exact ⟨rfl, by assumption⟩
  · obtain ⟨hm1, hm2⟩ := group_bd hg
    obtain ⟨n, rfl⟩ := Int.eq_ofNat_of_zero_le (by omega : 0 ≤ m)
    have hq1 : 1 ≤ quorumI n := by unfold quorumI; rw [if_pos hg]; omega
    have hq2 : (n : Int) < 2 * quorumI n := by unfold quorumI; rw [if_pos hg]; omega
    have hqe : (quorumI n == 0) = false := beq_eq_false_iff_ne.2 (by omega)
    have hn7 : n ≤ 7 := by omega
    go_wp2
    go_loop [8, 9, 10, 26] (fun vx vy vz i => ∃ k X Y Z : Nat, k ≤ n ∧ i = .int .i64 k ∧ vx = .int .i64 X ∧ vy = .int .i64 Y ∧ vz = .int .i64 Z ∧ X ≤ k ∧ Y ≤ k ∧ Z ≤ k ∧ X + Y ≤ k + Z) (fun _ _ _ i => n - (intOf i).toNat)
    case atStart => exact ⟨0, 0, 0, 0, Nat.zero_le _, rfl, rfl, rfl, rfl, by omega, by omega, by omega, by omega⟩
    case round =>
      obtain ⟨k, X, Y, Z, hk, rfl, rfl, rfl, rfl, hX, hY, hZ, hXY⟩ := hrel
      by_cases hlt : k < n
      · have cx := bool_cell HX.out (i := k) (by omega)
        have cy := bool_cell HY.out (i := k) (by omega)
        have i1 : (k : Int) < 7 := by omega
        generalize x[k] = bx at cx
        generalize y[k] = by' at cy
        cases bx
        · cases by'
          · go_wp2
            go_round
            case rel => exact ⟨k + 1, X, Y, Z, by omega, by go_num, rfl, rfl, rfl, by omega, by omega, by omega, by omega⟩
            case measure => simp [intOf]; omega
          · go_wp2
            go_round
            case rel => exact ⟨k + 1, X, Y + 1, Z, by omega, by go_num, rfl, by go_num, rfl, by omega, by omega, by omega, by omega⟩
            case measure => simp [intOf]; omega
        · cases by'
          · go_wp2
            go_round
            case rel => exact ⟨k + 1, X + 1, Y, Z, by omega, by go_num, by go_num, rfl, rfl, by omega, by omega, by omega, by omega⟩
            case measure => simp [intOf]; omega
          · go_wp2
            go_round
            case rel => exact ⟨k + 1, X + 1, Y + 1, Z + 1, by omega, by go_num, by go_num, by go_num, by go_num, by omega, by omega, by omega, by omega⟩
            case measure => simp [intOf]; omega
      · obtain rfl : k = n := by omega
        by_cases h1 : (X : Int) < quorumI k
        · go_wp2_with (go_at_call 13; (with_reducible refine (Ever.at_ H1 _ (by assumption)).mono ?_); rintro e w1 ⟨rfl, hb1⟩)
          go_ret
          exact ⟨rfl, by assumption⟩
        · by_cases h2 : (Y : Int) < quorumI k
          · go_wp2_with (go_at_call 13; (with_reducible refine (Ever.at_ H1 _ (by assumption)).mono ?_); rintro e w1 ⟨rfl, hb1⟩)
            go_ret
            exact ⟨rfl, by assumption⟩
          · have h3 : 0 < Z := by omega
            go_wp2_with (go_at_call 13; (with_reducible refine (Ever.at_ H1 _ (by assumption)).mono ?_); rintro e w1 ⟨rfl, hb1⟩)
            go_ret
            exact ⟨rfl, by assumption⟩

theorem rankMeets_given (W : World) (args : Array Value) (h : Given W Try.f4 args) :
    Calls Try.prog 4 args W fun e W' => e = .returned (.bool true) ∧ Below W.heap.size W W' := by
  obtain ⟨⟨H, enc, ds, p, hA, hwt⟩, base, hval⟩ := h
  rw [Try.params4] at hA hval hwt
  obtain ⟨v0, vs0, d0, ds0, p0, q0, hargs, rfl, rfl, h0, r0⟩ := trodAll_cons hA
  obtain ⟨v1, vs1, d1, ds1, p1, q1, rfl, rfl, rfl, h1, r1⟩ := trodAll_cons r0
  obtain ⟨v2, vs2, d2, ds2, p2, q2, rfl, rfl, rfl, h2, r2⟩ := trodAll_cons r1
  obtain ⟨rfl, rfl, rfl⟩ := trodAll_nil r2
  obtain rfl : args = #[v0, v1, v2] := by cases args; simp_all
  simp only [DataW.weightsEach, List.all_append, Bool.and_eq_true] at hwt
  obtain ⟨g0, g1, g2, _⟩ := hwt
  obtain ⟨a0, rfl, hw_a0⟩ := opens_int W H enc base v0 d0 p0 (hval 0 _ v0 rfl rfl) h0 g0
  obtain ⟨b1, rfl, hb1⟩ := opens_bools7 W H enc base v1 d1 p1 (hval 1 _ v1 rfl rfl) h1 g1
  obtain ⟨b2, rfl, hb2⟩ := opens_bools7 W H enc base v2 d2 p2 (hval 2 _ v2 rfl rfl) h2 g2
  exact rankMeets_walk a0 b1 b2 hb1 hb2 W

theorem rankMeets_lifted (os : Os) (started : os.Started) (H : Type) (enc : TypeId × Value → H) :
    ReturnsInHanded {} Try.checked os 4 .any (Rows.rankMeetsSpec.pre6 enc Try.prog Try.f4 Rows.rankMeetsRow.domain false) (Rows.rankMeetsSpec.post enc Try.prog Try.f4 false true false false) :=
  law_lifted (s := Rows.rankMeetsSpec) os started H enc (by kernel_rfl) Try.func4 rfl (by kernel_rfl)
    (by rw [Try.params4]; intro t ht; simp at ht; rcases ht with rfl | rfl | rfl <;> exact ⟨by kernel_rfl, of_decide_eq_true (by kernel_rfl)⟩)
    (by rw [Try.params4]; intro ds hd; match ds, hd with | [x0, x1, x2], _ => exact ⟨rfl, rfl, rfl⟩)
    (ChangeSpec.witness6 (enc := enc) (C := Try.checked) false ⟨#[], #[.int .i64 0, .agg #[.bool false, .bool false, .bool false, .bool false, .bool false, .bool false, .bool false], .agg #[.bool false, .bool false, .bool false, .bool false, .bool false, .bool false, .bool false]], []⟩ 8 (by kernel_rfl) (by kernel_rfl) (by kernel_rfl) (by kernel_rfl))
    rankMeets_given

theorem rankMeets_holds : Rows.RankMeetsSaid :=
  OpenClaim.holds_of_wide 4 Try.f4 rfl rfl rfl rfl rfl rfl rfl ⟨rfl, rfl, rfl, rfl, rfl⟩ rfl rfl rfl rfl rfl (by kernel_rfl) Try.func4 (by kernel_rfl)
    (of_decide_eq_true (by kernel_rfl)) (by unfold Func.isWrapper; first | (rw [if_pos (by decide +kernel)]; kernel_rfl) | (rw [if_neg (by decide +kernel)]; exact ⟨rfl, rfl⟩))
    (fun os started H enc _ => rankMeets_lifted os started H enc)
#print axioms rankMeets_holds
end Go.Proofs.Ytcdpjabahmfhdaa

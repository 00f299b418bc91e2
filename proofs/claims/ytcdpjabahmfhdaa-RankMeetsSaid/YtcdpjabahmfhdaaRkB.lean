/- Contracts of Next and of its reference. -/
import Derived.Test.YtcdpjabahmfhdaaRkA
import Derived.Lib.Hide
namespace Go.Proofs.Ytcdpjabahmfhdaa
open Go.RowKit

set_option maxHeartbeats 400000 in
theorem refPrimary_any (v m : Int) (w : World) :
    Calls Try.prog 17 #[.int .i64 v, .int .i64 m] w fun e w' => e = .returned (.int .i64 (primaryI v m)) ∧ w = w' := by
  by_cases h0 : m < 1
  · go_enter Try.func17, Try.ntmps17
    go_wp2
    go_ret
    exact ⟨ret_int (primary_no (by simp [groupB]; omega)), rfl⟩
  · skip
    by_cases h1 : 7 < m
    · go_enter Try.func17, Try.ntmps17
      go_wp2
      go_ret
      exact ⟨ret_int (primary_no (by simp [groupB]; omega)), rfl⟩
    · skip
      by_cases h2 : v < 0
      · go_enter Try.func17, Try.ntmps17
        go_wp2
        go_ret
        exact ⟨ret_int (primary_no (by simp [groupB]; omega)), rfl⟩
      · skip
        by_cases h3 : 4611686018427387904 < v
        · go_enter Try.func17, Try.ntmps17
          go_wp2
          go_ret
          exact ⟨ret_int (primary_no (by simp [groupB]; omega)), rfl⟩
        · skip
          go_enter Try.func17, Try.ntmps17
          go_wp2
          go_ret
          exact ⟨ret_int (by unfold primaryI; rw [if_pos ⟨by simp [groupB]; omega, by omega, by omega⟩]), rfl⟩

theorem seven {m : Int} (h : groupB m = true) : m = 1 ∨ m = 2 ∨ m = 3 ∨ m = 4 ∨ m = 5 ∨ m = 6 ∨ m = 7 := by
  have := group_bd h
  omega
theorem more_bd {v s m : Int} (hg : groupB m = true) : 1 ≤ moreI v s m ∧ moreI v s m ≤ m := by
  rcases seven hg with rfl | rfl | rfl | rfl | rfl | rfl | rfl <;> (unfold moreI; split <;> omega)
theorem more_hit {v s m : Int} (hg : groupB m = true) (hs : 0 ≤ s) (hsm : s < m) : (v + moreI v s m) % m = s := by
  rcases seven hg with rfl | rfl | rfl | rfl | rfl | rfl | rfl <;> (unfold moreI; split <;> omega)
theorem more_only {v s m k : Int} (hg : groupB m = true) (h1 : 1 ≤ k) (hk : k < moreI v s m) : (v + k) % m ≠ s := by
  rcases seven hg with rfl | rfl | rfl | rfl | rfl | rfl | rfl <;> (unfold moreI at hk; split at hk <;> omega)
theorem primary_yes {v m : Int} (hg : groupB m = true) (h0 : 0 ≤ v) (h1 : v ≤ 4611686018427387904) : primaryI v m = v % m := by
  unfold primaryI; rw [if_pos ⟨hg, h0, h1⟩]
theorem next_no {v s m : Int} (h : ¬ (groupB m = true ∧ 0 ≤ v ∧ 0 ≤ s ∧ s < m ∧ v + moreI v s m ≤ 4611686018427387904)) : nextB v s m = false ∧ nextI v s m = 0 := by
  have : nextB v s m = false := by unfold nextB; simpa using h
  exact ⟨this, by unfold nextI; rw [this]; rfl⟩
theorem next_yes {v s m : Int} (h : groupB m = true ∧ 0 ≤ v ∧ 0 ≤ s ∧ s < m ∧ v + moreI v s m ≤ 4611686018427387904) : nextB v s m = true ∧ nextI v s m = v + moreI v s m := by
  have : nextB v s m = true := by unfold nextB; simpa using h
  exact ⟨this, by unfold nextI; rw [if_pos this]⟩
theorem ret_no {v s m : Int} (h : nextB v s m = false ∧ nextI v s m = 0) : Ending.returned (.tuple #[.int .i64 0, .bool false]) = .returned (.tuple #[.int .i64 (nextI v s m), .bool (nextB v s m)]) := by
  rw [h.1, h.2]
theorem ret_yes {v s m r : Int} (h : nextB v s m = true ∧ nextI v s m = r) : Ending.returned (.tuple #[.int .i64 r, .bool true]) = .returned (.tuple #[.int .i64 (nextI v s m), .bool (nextB v s m)]) := by
  rw [h.1, h.2]

theorem next_end {v s m : Int} (hg : groupB m = true) (hs : 0 ≤ s) (hsm : s < m) : moreI v s m = if ((s - v % m) % m == 0) = true then m else (s - v % m + m) % m := by
  rcases seven hg with rfl | rfl | rfl | rfl | rfl | rfl | rfl <;> (unfold moreI; simp only [beq_iff_eq]; split <;> split <;> omega)
theorem primary_lo {v m : Int} (h : ¬ primaryI v m < 0) : groupB m = true ∧ 0 ≤ v ∧ v ≤ 4611686018427387904 := by
  unfold primaryI at h
  split at h
  · assumption
  · omega
theorem primary_bd (v m : Int) : -1 ≤ primaryI v m ∧ primaryI v m < 7 := by
  unfold primaryI
  split
  · rename_i h
    have hm := group_bd h.1
    have := Int.emod_nonneg v (show m ≠ 0 by omega)
    have := Int.emod_lt_of_pos v (show 0 < m by omega)
    omega
  · omega

set_option maxHeartbeats 400000 in
theorem next_any (v s m : Int) (w : World) :
    Calls Try.prog 11 #[.int .i64 v, .int .i64 s, .int .i64 m] w fun e w' => e = .returned (.tuple #[.int .i64 (nextI v s m), .bool (nextB v s m)]) ∧ w = w' := by
  have hb := primary_bd v m
  obtain ⟨hb1, hb2⟩ := hb
  by_cases hp : primaryI v m < 0
  · go_enter Try.func11, Try.ntmps11
    go_wp2_with (go_at_call 16; refine (primary_any _ _ _).mono ?_; rintro e w1 ⟨rfl, rfl⟩)
    go_ret2
    exact ⟨ret_no (next_no (fun h => by have := group_bd h.1; have := more_bd (v := v) (s := s) h.1; rw [primary_yes h.1 (by omega) (by omega)] at hp; have := Int.emod_nonneg v (show m ≠ 0 by omega); omega)), rfl⟩
  · have hpl := primary_lo hp
    obtain ⟨hg, hv0, hv1⟩ := hpl
    have hm := group_bd hg
    obtain ⟨hm1, hm2⟩ := hm
    by_cases hs : s < 0
    · go_enter Try.func11, Try.ntmps11
      go_wp2_with (go_at_call 16; refine (primary_any _ _ _).mono ?_; rintro e w1 ⟨rfl, rfl⟩)
      go_ret2
      exact ⟨ret_no (next_no (by omega)), rfl⟩
    · by_cases hs2 : m ≤ s
      · go_enter Try.func11, Try.ntmps11
        go_wp2_with (go_at_call 16; refine (primary_any _ _ _).mono ?_; rintro e w1 ⟨rfl, rfl⟩)
        go_ret2
        exact ⟨ret_no (next_no (by omega)), rfl⟩
      · have hmb := more_bd (v := v) (s := s) hg
        obtain ⟨hmb1, hmb2⟩ := hmb
        have HE := Lib.hid (show primaryI v m = v % m from primary_yes hg hv0 hv1)
        have hp2 : primaryI v m < m := by rw [HE.out]; exact Int.emod_lt_of_pos _ (by omega)
        simp only [Int.not_lt, Int.not_le] at hs hs2
        have hk := next_end (v := v) hg hs hs2
        rw [← HE.out] at hk
        by_cases hz : ((s - primaryI v m) % m == 0) = true
        · rw [if_pos hz] at hk
          have hk1 : moreI v s m ≤ m := by omega
          have hk2 : m ≤ moreI v s m := by omega
          clear hk
          by_cases hc : 4611686018427387904 - m < v
          · go_enter Try.func11, Try.ntmps11
            go_wp2_with (go_at_call 16; refine (primary_any _ _ _).mono ?_; rintro e w1 ⟨rfl, rfl⟩)
            go_ret2
            exact ⟨ret_no (next_no (by omega)), rfl⟩
          · go_enter Try.func11, Try.ntmps11
            go_wp2_with (go_at_call 16; refine (primary_any _ _ _).mono ?_; rintro e w1 ⟨rfl, rfl⟩)
            go_ret2
            have hn := next_yes (v := v) (s := s) (m := m) ⟨hg, hv0, hs, hs2, by omega⟩
            exact ⟨ret_yes ⟨hn.1, hn.2.trans (by omega)⟩, rfl⟩
        · rw [if_neg hz, Int.add_emod_right] at hk
          have hk1 : moreI v s m ≤ (s - primaryI v m) % m := by omega
          have hk2 : (s - primaryI v m) % m ≤ moreI v s m := by omega
          clear hk
          have hz0 : ((s - primaryI v m) % m == 0) = false := by simpa using hz
          clear hz
          by_cases hc : 4611686018427387904 - (s - primaryI v m) % m < v
          · go_enter Try.func11, Try.ntmps11
            go_wp2_with (go_at_call 16; refine (primary_any _ _ _).mono ?_; rintro e w1 ⟨rfl, rfl⟩)
            go_ret2
            exact ⟨ret_no (next_no (by omega)), rfl⟩
          · go_enter Try.func11, Try.ntmps11
            go_wp2_with (go_at_call 16; refine (primary_any _ _ _).mono ?_; rintro e w1 ⟨rfl, rfl⟩)
            go_ret2
            have hn := next_yes (v := v) (s := s) (m := m) ⟨hg, hv0, hs, hs2, by omega⟩
            exact ⟨ret_yes ⟨hn.1, hn.2.trans (by omega)⟩, rfl⟩

set_option maxHeartbeats 400000 in
theorem refNext_any (v s m : Int) (w : World) :
    Calls Try.prog 12 #[.int .i64 v, .int .i64 s, .int .i64 m] w fun e w' => e = .returned (.tuple #[.int .i64 (nextI v s m), .bool (nextB v s m)]) ∧ w = w' := by
  have hb := primary_bd v m
  obtain ⟨hb1, hb2⟩ := hb
  by_cases hp : primaryI v m < 0
  · go_enter Try.func12, Try.ntmps12
    go_wp2_with (go_at_call 17; refine (refPrimary_any _ _ _).mono ?_; rintro e w1 ⟨rfl, rfl⟩)
    go_ret2
    exact ⟨ret_no (next_no (fun h => by have := group_bd h.1; have := more_bd (v := v) (s := s) h.1; rw [primary_yes h.1 (by omega) (by omega)] at hp; have := Int.emod_nonneg v (show m ≠ 0 by omega); omega)), rfl⟩
  · have hpl := primary_lo hp
    obtain ⟨hg, hv0, hv1⟩ := hpl
    have hm := group_bd hg
    obtain ⟨hm1, hm2⟩ := hm
    by_cases hs : s < 0
    · go_enter Try.func12, Try.ntmps12
      go_wp2_with (go_at_call 17; refine (refPrimary_any _ _ _).mono ?_; rintro e w1 ⟨rfl, rfl⟩)
      go_ret2
      exact ⟨ret_no (next_no (by omega)), rfl⟩
    · by_cases hs2 : m ≤ s
      · go_enter Try.func12, Try.ntmps12
        go_wp2_with (go_at_call 17; refine (refPrimary_any _ _ _).mono ?_; rintro e w1 ⟨rfl, rfl⟩)
        go_ret2
        exact ⟨ret_no (next_no (by omega)), rfl⟩
      · have hmb := more_bd (v := v) (s := s) hg
        obtain ⟨hmb1, hmb2⟩ := hmb
        go_enter Try.func12, Try.ntmps12
        go_wp2_with (go_at_call 17; refine (refPrimary_any _ _ _).mono ?_; rintro e w1 ⟨rfl, rfl⟩)
        go_loop [8] (fun n => ∃ k : Int, 1 ≤ k ∧ k ≤ moreI v s m ∧ v + k ≤ 4611686018427387905 ∧ n = .int .i64 (v + k)) (fun n => (v + 7 - intOf n).toNat)
        case atStart => exact ⟨1, by omega, by omega, by omega, rfl⟩
        case round =>
          obtain ⟨k, hk1, hk2, hk3, rfl⟩ := hrel
          by_cases hlt : v + k ≤ 4611686018427387904
          · have hv' : 0 ≤ v + k := by omega
            by_cases hke : k = moreI v s m
            · have HP : primaryI (v + k) m = s := by rw [primary_yes hg hv' hlt, hke]; exact more_hit hg (by omega) (by omega)
              have HE := Lib.hid HP
              have HK := Lib.hid hke
              have hpe : ((primaryI (v + k) m == s)) = true := by rw [HP]; simp
              clear HP hke
              go_wp2_with (go_at_call 17; refine (refPrimary_any _ _ _).mono ?_; rintro e w1 ⟨rfl, rfl⟩)
              go_ret2
              exact ⟨ret_yes ⟨(next_yes ⟨hg, hv0, by omega, by omega, by rw [← HK.out]; omega⟩).1, (next_yes ⟨hg, hv0, by omega, by omega, by rw [← HK.out]; omega⟩).2.trans (by rw [HK.out])⟩, rfl⟩
            · have hpe : ((primaryI (v + k) m == s)) = false := by rw [primary_yes hg hv' hlt]; exact beq_eq_false_iff_ne.2 (more_only hg hk1 (by omega))
              go_wp2_with (go_at_call 17; refine (refPrimary_any _ _ _).mono ?_; rintro e w1 ⟨rfl, rfl⟩)
              go_round
              case rel => exact ⟨k + 1, by omega, by omega, by omega, by go_num⟩
              case measure => simp [intOf]; omega
          · go_wp2
            go_ret2
            exact ⟨ret_no (next_no (by omega)), rfl⟩

end Go.Proofs.Ytcdpjabahmfhdaa

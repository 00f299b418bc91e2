/- Contracts of the scalar functions of rank and of its reference. -/
import Derived.Test.YtcdpjabahmfhdaaBase
namespace Go.Proofs.Ytcdpjabahmfhdaa
open Go.RowKit

def groupB (m : Int) : Bool := decide (1 ≤ m ∧ m ≤ 7)
def quorumI (m : Int) : Int := if groupB m = true then m / 2 + 1 else 0
def primaryI (v m : Int) : Int := if groupB m = true ∧ 0 ≤ v ∧ v ≤ 4611686018427387904 then v % m else -1
/-- How many views on. -/
def moreI (v s m : Int) : Int := if (s - v % m + m) % m = 0 then m else (s - v % m + m) % m
def nextB (v s m : Int) : Bool := decide (groupB m = true ∧ 0 ≤ v ∧ 0 ≤ s ∧ s < m ∧ v + moreI v s m ≤ 4611686018427387904)
def nextI (v s m : Int) : Int := if nextB v s m = true then v + moreI v s m else 0

set_option maxHeartbeats 400000 in
theorem group_any (m : Int) (w : World) :
    Calls Try.prog 29 #[.int .i64 m] w fun e w' => e = .returned (.bool (groupB m)) ∧ w = w' := by
  by_cases h1 : 1 ≤ m
  · go_enter Try.func29, Try.ntmps29
    go_wp2
    go_ret
    exact ⟨by simp [groupB, h1], rfl⟩
  · go_enter Try.func29, Try.ntmps29
    go_wp2
    go_ret
    exact ⟨by simp [groupB]; omega, rfl⟩

theorem group_bd {m : Int} (h : groupB m = true) : 1 ≤ m ∧ m ≤ 7 := by simpa [groupB] using h

set_option maxHeartbeats 400000 in
theorem quorum_any (m : Int) (w : World) :
    Calls Try.prog 14 #[.int .i64 m] w fun e w' => e = .returned (.int .i64 (quorumI m)) ∧ w = w' := by
  by_cases hg : groupB m = true
  · obtain ⟨h1, h2⟩ := group_bd hg
    go_enter Try.func14, Try.ntmps14
    go_wp2_with (go_at_call 29; refine (group_any _ _).mono ?_; rintro e w' ⟨rfl, rfl⟩)
    go_ret
    exact ⟨ret_int (by simp [quorumI, hg]), rfl⟩
  · go_enter Try.func14, Try.ntmps14
    go_wp2_with (go_at_call 29; refine (group_any _ _).mono ?_; rintro e w' ⟨rfl, rfl⟩)
    go_ret
    exact ⟨ret_int (by simp [quorumI, hg]), rfl⟩

set_option maxHeartbeats 400000 in
theorem refQuorum_any (m : Int) (w : World) :
    Calls Try.prog 15 #[.int .i64 m] w fun e w' => e = .returned (.int .i64 (quorumI m)) ∧ w = w' := by
  by_cases hg : groupB m = true
  · obtain ⟨h1, h2⟩ := group_bd hg
    go_enter Try.func15, Try.ntmps15
    go_wp2
    go_loop [3] (fun n => ∃ k : Int, 1 ≤ k ∧ k ≤ m / 2 + 1 ∧ n = .int .i64 k) (fun n => (m - intOf n).toNat)
    case atStart => exact ⟨1, by omega, by omega, rfl⟩
    case round =>
      obtain ⟨k, hk1, hk2, rfl⟩ := hrel
      by_cases hlt : 2 * k ≤ m
      · go_wp2
        go_round
        case rel => exact ⟨k + 1, by omega, by omega, by go_num⟩
        case measure => simp [intOf]; omega
      · go_wp2
        go_ret
        exact ⟨ret_int (by simp [quorumI, hg]; omega), rfl⟩
  · have hg' : m < 1 ∨ 7 < m := by simp [groupB] at hg; omega
    by_cases h1 : m < 1
    · go_enter Try.func15, Try.ntmps15
      go_wp2
      go_ret
      exact ⟨ret_int (by simp [quorumI, hg]), rfl⟩
    · have h2 : 7 < m := by omega
      go_enter Try.func15, Try.ntmps15
      go_wp2
      go_ret
      exact ⟨ret_int (by simp [quorumI, hg]), rfl⟩

theorem primary_no {v m : Int} (h : groupB m = false ∨ v < 0 ∨ 4611686018427387904 < v) : (-1 : Int) = primaryI v m := by
  unfold primaryI
  rw [if_neg]
  rintro ⟨h1, h2, h3⟩
  rcases h with h | h | h
  · rw [h] at h1; cases h1
  · omega
  · omega

set_option maxHeartbeats 400000 in
theorem primary_any (v m : Int) (w : World) :
    Calls Try.prog 16 #[.int .i64 v, .int .i64 m] w fun e w' => e = .returned (.int .i64 (primaryI v m)) ∧ w = w' := by
  by_cases hg : groupB m = true
  · have hm := group_bd hg
    obtain ⟨hm1, hm2⟩ := hm
    by_cases h1 : v < 0
    · go_enter Try.func16, Try.ntmps16
      go_wp2_with (go_at_call 29; refine (group_any _ _).mono ?_; rintro e w' ⟨rfl, rfl⟩)
      go_ret
      exact ⟨ret_int (primary_no (by omega)), rfl⟩
    · by_cases h2 : 4611686018427387904 < v
      · go_enter Try.func16, Try.ntmps16
        go_wp2_with (go_at_call 29; refine (group_any _ _).mono ?_; rintro e w' ⟨rfl, rfl⟩)
        go_ret
        exact ⟨ret_int (primary_no (by omega)), rfl⟩
      · go_enter Try.func16, Try.ntmps16
        go_wp2_with (go_at_call 29; refine (group_any _ _).mono ?_; rintro e w' ⟨rfl, rfl⟩)
        go_ret
        exact ⟨ret_int (by unfold primaryI; rw [if_pos ⟨hg, by omega, by omega⟩]), rfl⟩
  · have hg0 : groupB m = false := by simpa using hg
    go_enter Try.func16, Try.ntmps16
    go_wp2_with (go_at_call 29; refine (group_any _ _).mono ?_; rintro e w' ⟨rfl, rfl⟩)
    go_ret
    exact ⟨ret_int (primary_no (.inl hg0)), rfl⟩

end Go.Proofs.Ytcdpjabahmfhdaa

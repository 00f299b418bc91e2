/- Contracts of both Helds. -/
import Derived.Test.YtcdpjabahmfhdaaRkB
import Derived.Test.YtcdpjabahmfhdaaShelf
import Derived.Laws.CopyOwn
namespace Go.Proofs.Ytcdpjabahmfhdaa
open Go.RowKit Go.Sort

def intC (x : Int) : List Value := [.int .i64 x]
def cntB (l : List Int) (v : Int) : Nat := l.countP fun x => decide (v ≤ x)
def heldTo (l : List Int) (k : Nat) : Int := (l.take k).foldl (fun out x => if out < x ∧ quorumI l.length ≤ cntB l x then x else out) 0
/-- What a quorum has. -/
def heldI (l : List Int) : Int := if l.length ≤ 7 then heldTo l l.length else 0

theorem cnt_step {l : List Int} (v : Int) {k : Nat} (hk : k < l.length) : cntB (l.take (k + 1)) v = cntB (l.take k) v + if v ≤ l[k] then 1 else 0 := by
  unfold cntB
  rw [List.take_succ_eq_append_getElem hk, List.countP_append]
  simp [List.countP_cons]
theorem heldTo_step {l : List Int} {k : Nat} (hk : k < l.length) : heldTo l (k + 1) = if heldTo l k < l[k] ∧ quorumI l.length ≤ cntB l l[k] then l[k] else heldTo l k := by
  unfold heldTo
  rw [List.take_succ_eq_append_getElem hk, List.foldl_append]
  rfl

set_option maxHeartbeats 400000 in
theorem atLeast_any (l : List Int) (A : Option Addr) (c : Nat) (v : Int) (w : World) (hm : l.length ≤ maxLen) (hl : Rd w w.heap.size 1 intC A l) :
    Calls Try.prog 31 #[.slice A l.length c, .int .i64 v] w
      fun e w' => e = .returned (.int .i64 (cntB l v : Nat)) ∧ w = w' := by
  unfold maxLen at hm
  generalize hn : l.length = n at *
  have HN := Lib.hid hn
  clear hn
  go_enter Try.func31, Try.ntmps31
  go_wp2
  go_loop [5, 6] (fun b i => ∃ (k : Nat), k ≤ n ∧ i = .int .i64 k ∧ b = .int .i64 (cntB (l.take k) v : Nat)) (fun _ i => n - (intOf i).toNat)
  case atStart => exact ⟨0, Nat.zero_le _, rfl, rfl⟩
  case round =>
    obtain ⟨k, hk, rfl, rfl⟩ := hrel
    have hcb : cntB (l.take k) v ≤ k := Nat.le_trans (List.countP_le_length) (List.length_take_le _ _)
    by_cases hlt : k < n
    · have hkl : k < l.length := by rw [HN.out]; exact hlt
      obtain ⟨a, hA, hab⟩ := hl.addr hkl
      subst hA
      have c0 : w.cell? (a.add (k * 1)) = _ := hl.cell hkl (j := 0) rfl
      rw [Nat.mul_one] at c0
      have HS := Lib.hid (cnt_step v hkl)
      generalize l[k] = x at *
      generalize cntB (l.take k) v = y at *
      by_cases hv : v ≤ x
      · go_wp2
        go_round
        case rel => exact ⟨k + 1, by omega, by go_num, by rw [HS.out, if_pos hv]; go_num⟩
        case measure => simp [intOf]; omega
      · go_wp2
        go_round
        case rel => exact ⟨k + 1, by omega, by go_num, by rw [HS.out, if_neg hv]; rfl⟩
        case measure => simp [intOf]; omega
    · obtain rfl : k = n := by omega
      go_wp2
      go_ret
      exact ⟨ret_int (by rw [List.take_of_length_le (by have := HN.out; omega)]), rfl⟩

theorem quorum_bd (m : Int) : 0 ≤ quorumI m ∧ quorumI m ≤ 4 := by
  unfold quorumI
  split
  · rename_i h; have := group_bd h; omega
  · omega

set_option maxHeartbeats 400000 in
theorem refHeld_any (l : List Int) (A : Option Addr) (c : Nat) (w : World) (hm : l.length ≤ maxLen) (hl : Rd w w.heap.size 1 intC A l) :
    Calls Try.prog 19 #[.slice A l.length c] w
      fun e w' => e = .returned (.int .i64 (heldI l)) ∧ w = w' := by
  have HM := Lib.hid hm
  unfold maxLen at hm
  by_cases h7 : l.length ≤ 7
  · have HH := Lib.hid (show heldI l = heldTo l l.length by unfold heldI; rw [if_pos h7])
    generalize hn : l.length = n at *
    have HN := Lib.hid hn
    clear hn
    go_enter Try.func19, Try.ntmps19
    go_wp2
    go_loop [3, 4] (fun b i => ∃ (k : Nat), k ≤ n ∧ i = .int .i64 k ∧ b = .int .i64 (heldTo l k)) (fun _ i => n - (intOf i).toNat)
    case atStart => exact ⟨0, Nat.zero_le _, rfl, rfl⟩
    case round =>
      obtain ⟨k, hk, rfl, rfl⟩ := hrel
      by_cases hlt : k < n
      · have hkl : k < l.length := by rw [HN.out]; exact hlt
        obtain ⟨a, hA, hab⟩ := hl.addr hkl
        subst hA
        have c0 : w.cell? (a.add (k * 1)) = _ := hl.cell hkl (j := 0) rfl
        rw [Nat.mul_one] at c0
        have HS := Lib.hid (heldTo_step hkl)
        have hat := atLeast_any l (some a) c l[k] w (by rw [HN.out]; exact HM.out) hl
        rw [HN.out] at hat HS
        have HA := Lib.hid hat
        clear hat hl
        generalize l[k] = x at *
        generalize heldTo l k = y at *
        generalize cntB l x = z at *
        have hqb := quorum_bd n
        obtain ⟨hq1, hq2⟩ := hqb
        have HQ := Lib.hid (refQuorum_any n w)
        generalize quorumI n = q at *
        by_cases hv : y < x
        · by_cases hz : q ≤ z
          · go_wp2_with (first | (go_at_call 31; refine HA.out.mono ?_; rintro e w' ⟨rfl, rfl⟩) | (go_at_call 15; refine HQ.out.mono ?_; rintro e w' ⟨rfl, rfl⟩))
            go_round
            case rel => exact ⟨k + 1, by omega, by go_num, by rw [HS.out, if_pos ⟨hv, hz⟩]⟩
            case measure => simp [intOf]; omega
          · go_wp2_with (first | (go_at_call 31; refine HA.out.mono ?_; rintro e w' ⟨rfl, rfl⟩) | (go_at_call 15; refine HQ.out.mono ?_; rintro e w' ⟨rfl, rfl⟩))
            go_round
            case rel => exact ⟨k + 1, by omega, by go_num, by rw [HS.out, if_neg (by omega)]⟩
            case measure => simp [intOf]; omega
        · go_wp2
          go_round
          case rel => exact ⟨k + 1, by omega, by go_num, by rw [HS.out, if_neg (by omega)]⟩
          case measure => simp [intOf]; omega
      · obtain rfl : k = n := by omega
        go_wp2
        go_ret
        exact ⟨ret_int (by rw [HH.out]), rfl⟩
  · go_enter Try.func19, Try.ntmps19
    go_wp2
    refine wp_loop_rounds 1 ?_
    rw [rounds_succ]
    go_wp2
    go_ret
    exact ⟨ret_int (by unfold heldI; rw [if_neg h7]), rfl⟩

end Go.Proofs.Ytcdpjabahmfhdaa

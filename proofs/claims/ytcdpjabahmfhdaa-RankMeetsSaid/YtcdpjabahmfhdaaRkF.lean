/- Contracts of the reference's Common and Right. -/
import Derived.Test.YtcdpjabahmfhdaaRkE
namespace Go.Proofs.Ytcdpjabahmfhdaa
open Go.RowKit

set_option maxHeartbeats 400000 in
theorem refCommon_any (l m : List Ent) (A B : Option Addr) (c d : Nat) (w : World) (hm : l.length ≤ maxLen) (hl : Rd w w.heap.size 3 entC A l) (hl' : Rd w w.heap.size 3 entC B m) :
    Calls Try.prog 23 #[.slice A l.length c, .slice B m.length d] w
      fun e w' => e = .returned (.int .i64 (commonN l m : Nat)) ∧ ∃ n, w' = w.drewN n := by
  unfold maxLen at hm
  generalize hn : l.length = n at *
  have HN := Lib.hid hn
  clear hn
  generalize hn' : m.length = n' at *
  have HN' := Lib.hid hn'
  clear hn'
  go_enter Try.func23, Try.ntmps23
  go_wp2
  go_loopw [5, 6] (fun r i wr => ∃ (k p q : Nat), k ≤ n ∧ k ≤ n' ∧ i = .int .i64 k ∧ r = .int .i64 p ∧ (p = k ∧ k + commonN (l.drop k) (m.drop k) = commonN l m ∨ p < k ∧ p = commonN l m) ∧ wr = w.drewN q) (fun _ i _ => n - (intOf i).toNat)
  case atStart => exact ⟨0, 0, 0, Nat.zero_le _, Nat.zero_le _, rfl, rfl, .inl (by simp), rfl⟩
  case round =>
    obtain ⟨k, p, q, hk, hk', rfl, rfl, hr, rfl⟩ := hrel
    rcases hr with ⟨rfl, hr⟩ | ⟨hpk, hr⟩
    · have HR := Lib.hid hr
      clear hr
      by_cases hlt : p < n
      · by_cases hlt' : p < n'
        · have hkl : p < l.length := by rw [HN.out]; exact hlt
          have hkm : p < m.length := by rw [HN'.out]; exact hlt'
          obtain ⟨a, hA, hab⟩ := hl.addr hkl
          subst hA
          obtain ⟨b, hB, hbb⟩ := hl'.addr hkm
          subst hB
          have c0 : w.cell? (a.add (p * 3)) = _ := hl.cell hkl (j := 0) rfl
          have c1 : w.cell? ⟨(a.add (p * 3)).block, (a.add (p * 3)).off + 1, none⟩ = _ := hl.cell hkl (j := 1) rfl
          have c2 : w.cell? ⟨(a.add (p * 3)).block, (a.add (p * 3)).off + 2, none⟩ = _ := hl.cell hkl (j := 2) rfl
          have d0 : w.cell? (b.add (p * 3)) = _ := hl'.cell hkm (j := 0) rfl
          have d1 : w.cell? ⟨(b.add (p * 3)).block, (b.add (p * 3)).off + 1, none⟩ = _ := hl'.cell hkm (j := 1) rfl
          have d2 : w.cell? ⟨(b.add (p * 3)).block, (b.add (p * 3)).off + 2, none⟩ = _ := hl'.cell hkm (j := 2) rfl
          have HS := Lib.hid (common_step hkl hkm HR.out)
          generalize l[p] = e at c0 c1 c2 HS
          generalize m[p] = e' at d0 d1 d2 HS
          have heq := fun w => ent_eq e e' w
          have t2 : (p : Int) < n := by omega
          have t3 : (p : Int) < n' := by omega
          clear HR
          go_wp2
          go_quiet (fail)
          clear heq
          cases hq : entEq e e'
          · have HS0 := HS.out
            rw [hq] at HS0
            have HS' := Lib.hid HS0
            clear HS HS0 hq
            go_wp2
            go_roundw
            case rel => exact ⟨p + 1, p, q + nq, by omega, by omega, by go_num, rfl, .inr ⟨by omega, HS'.out⟩, by simp⟩
            case measure => simp [intOf]; omega
          · have HS0 := HS.out
            rw [hq] at HS0
            have HS' := Lib.hid HS0
            clear HS HS0 hq
            go_wp2
            go_roundw
            case rel => exact ⟨p + 1, p + 1, q + nq, by omega, by omega, by go_num, by go_num, .inl ⟨rfl, HS'.out⟩, by simp⟩
            case measure => simp [intOf]; omega
        · go_wp2
          go_ret
          exact ⟨ret_int (by rw [← HR.out, List.drop_of_length_le (l := m) (by have := HN'.out; omega)]; simp [commonN]), q, rfl⟩
      · go_wp2
        go_ret
        exact ⟨ret_int (by rw [← HR.out, List.drop_of_length_le (l := l) (by have := HN.out; omega)]; simp [commonN]), q, rfl⟩
    · have HR := Lib.hid hr
      clear hr
      have hpe : ((p : Int) == (k : Int)) = false := by simp; omega
      by_cases hlt : k < n
      · by_cases hlt' : k < n'
        · go_wp2
          go_ret
          exact ⟨ret_int (by rw [← HR.out]), q, rfl⟩
        · go_wp2
          go_ret
          exact ⟨ret_int (by rw [← HR.out]), q, rfl⟩
      · go_wp2
        go_ret
        exact ⟨ret_int (by rw [← HR.out]), q, rfl⟩

/-- One entry of a log, behind the one before it. -/
def okR (view : Int) (i : Nat) (e : Ent) : Bool := decide (e.n = (i : Int) + 1 ∧ 1 ≤ e.v ∧ e.v ≤ 4611686018427387904 ∧ e.b.size ≤ 200) && decide (0 < i → view ≤ e.v)

set_option maxHeartbeats 1000000 in
theorem refRight_any (l : List Ent) (A : Option Addr) (c : Nat) (w : World) (hm : l.length ≤ maxLen) (hl : Rd w w.heap.size 3 entC A l) :
    Calls Try.prog 22 #[.slice A l.length c] w
      fun e w' => e = .returned (.bool (rightB l)) ∧ ∃ n, w' = w.drewN n := by
  unfold maxLen at hm
  generalize hn : l.length = n at *
  have HN := Lib.hid hn
  clear hn
  go_enter Try.func22, Try.ntmps22
  go_wp2
  go_loopw [3] (fun i wr => ∃ (k q : Nat) (view : Int), k ≤ n ∧ i = .int .i64 k ∧ (k = 0 ∧ view = 1 ∨ 0 < k ∧ 1 ≤ view ∧ (l[k - 1]?).map Ent.v = some view) ∧ (rightFrom view k (l.drop k) && decide (l.length ≤ 150)) = rightB l ∧ wr = w.drewN q) (fun i _ => n - (intOf i).toNat)
  case atStart => exact ⟨0, 0, 1, Nat.zero_le _, rfl, .inl ⟨rfl, rfl⟩, by simp [rightB], rfl⟩
  case round =>
    obtain ⟨k, q, view, hk, rfl, hv, hr, rfl⟩ := hrel
    have HR := Lib.hid hr
    clear hr
    by_cases hlt : k < n
    · have hkl : k < l.length := by rw [HN.out]; exact hlt
      obtain ⟨a, hA, hab⟩ := hl.addr hkl
      subst hA
      have c0 : w.cell? (a.add (k * 3)) = _ := hl.cell hkl (j := 0) rfl
      have c1 : w.cell? ⟨(a.add (k * 3)).block, (a.add (k * 3)).off + 1, none⟩ = _ := hl.cell hkl (j := 1) rfl
      have c2 : w.cell? ⟨(a.add (k * 3)).block, (a.add (k * 3)).off + 2, none⟩ = _ := hl.cell hkl (j := 2) rfl
      have HS := Lib.hid (right_step hkl HR.out)
      have hget : l[k]? = some l[k] := List.getElem?_eq_getElem hkl
      have HG := Lib.hid hget
      clear hget HR
      generalize l[k] = e at c0 c1 c2 HS HG
      have t2 : (k : Int) < n := by omega
      rcases hv with ⟨hk0, hv1⟩ | ⟨h0, hv1, hvv⟩
      · have hk0' : k ≤ 0 := by omega
        have hv1' : view ≤ 1 := by omega
        have hv2' : 1 ≤ view := by omega
        clear hk0 hv1
        have g0 : decide (0 < k) = false := by rw [decide_eq_false_iff_not]; omega
        go_wp2
        all_goals
          first
            | (go_ret
               refine ⟨ret_bool ?_, _, rfl⟩
               rw [← HS.out, show okB view k e = false by unfold okB; rw [decide_eq_false_iff_not]; omega]; rfl)
            | (go_quiet (fail)
               go_wp2
               go_roundw
               case rel => exact ⟨k + 1, q + nq, e.v, by omega, by go_num, .inr ⟨by omega, by omega, by rw [Nat.add_sub_cancel, HG.out]; rfl⟩, by rw [← HS.out, show okB view k e = true by unfold okB; rw [decide_eq_true_eq]; omega]; rfl, by simp⟩
               case measure => simp [intOf]; omega)
            | (go_quiet (fail)
               go_wp2
               go_ret
               refine ⟨ret_bool ?_, q + nq, by simp⟩
               rw [← HS.out, show okB view k e = false by unfold okB; rw [decide_eq_false_iff_not]; omega]; rfl)
      · have d0 : w.cell? (a.add ((k - 1) * 3)) = some (.int .i64 view) := by
          have hk1 : k - 1 < l.length := by omega
          have h := hl.cell hk1 (j := 0) rfl
          rw [List.getElem?_eq_getElem hk1] at hvv
          simp only [Option.map_some, Option.some.injEq] at hvv
          rw [← hvv]
          exact h
        clear hvv
        have g0 : decide (0 < k) = true := by rw [decide_eq_true_eq]; omega
        have g3 : 1 ≤ k := h0
        have g1 : (0 : Int) ≤ (k : Int) - 1 := by omega
        have g2 : (k : Int) - 1 < n := by omega
        by_cases hve : e.v < view
        · go_wp2
          all_goals
            first
              | (go_ret
                 refine ⟨ret_bool ?_, _, rfl⟩
                 rw [← HS.out, show okB view k e = false by unfold okB; rw [decide_eq_false_iff_not]; omega]; rfl)
              | (go_quiet (fail)
                 go_wp2
                 go_roundw
                 case rel => exact ⟨k + 1, q + nq, e.v, by omega, by go_num, .inr ⟨by omega, by omega, by rw [Nat.add_sub_cancel, HG.out]; rfl⟩, by rw [← HS.out, show okB view k e = true by unfold okB; rw [decide_eq_true_eq]; omega]; rfl, by simp⟩
                 case measure => simp [intOf]; omega)
              | (go_quiet (fail)
                 go_wp2
                 go_ret
                 refine ⟨ret_bool ?_, q + nq, by simp⟩
                 rw [← HS.out, show okB view k e = false by unfold okB; rw [decide_eq_false_iff_not]; omega]; rfl)
        · go_wp2
          all_goals
            first
              | (go_ret
                 refine ⟨ret_bool ?_, _, rfl⟩
                 rw [← HS.out, show okB view k e = false by unfold okB; rw [decide_eq_false_iff_not]; omega]; rfl)
              | (go_quiet (fail)
                 go_wp2
                 go_roundw
                 case rel => exact ⟨k + 1, q + nq, e.v, by omega, by go_num, .inr ⟨by omega, by omega, by rw [Nat.add_sub_cancel, HG.out]; rfl⟩, by rw [← HS.out, show okB view k e = true by unfold okB; rw [decide_eq_true_eq]; omega]; rfl, by simp⟩
                 case measure => simp [intOf]; omega)
              | (go_quiet (fail)
                 go_wp2
                 go_ret
                 refine ⟨ret_bool ?_, q + nq, by simp⟩
                 rw [← HS.out, show okB view k e = false by unfold okB; rw [decide_eq_false_iff_not]; omega]; rfl)
    · have hke : k = n := by omega
      subst hke
      go_wp2
      go_ret
      refine ⟨ret_bool ?_, q, rfl⟩
      have hn := HN.out
      rw [← HR.out, List.drop_of_length_le (by omega)]
      simp [rightFrom, hn]; omega

end Go.Proofs.Ytcdpjabahmfhdaa

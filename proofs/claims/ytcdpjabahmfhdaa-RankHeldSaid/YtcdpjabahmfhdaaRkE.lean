/- Contracts of Common, and of the reference's Common and Right. -/
import Derived.Test.YtcdpjabahmfhdaaRkD
namespace Go.Proofs.Ytcdpjabahmfhdaa
open Go.RowKit

def entEq (x y : Ent) : Bool := x.v == y.v && x.n == y.n && x.b == y.b
def commonN : List Ent → List Ent → Nat
  | x :: l, y :: m => if entEq x y = true then commonN l m + 1 else 0
  | _, _ => 0

/-- '==' of two entries. -/
theorem ent_eq (x y : Ent) (w : World) : (binOp .eql 48 (.agg #[.int .i64 x.v, .int .i64 x.n, .string x.b]) (.agg #[.int .i64 y.v, .int .i64 y.n, .string y.b])).run Try.prog w = .ok (.bool (entEq x y)) w := by
  rw [run_eql_fields w (L := [("View", 3, 0), ("Number", 3, 1), ("Body", 9, 2)]) (by kernel_rfl) (by kernel_rfl) (by kernel_rfl)]
  have hi : Try.prog.underlying 3 = some (.int .i64) := Try.underlying3
  have hs : Try.prog.underlying 9 = some .string := Try.underlying9
  simp only [eqF, part, isAgg, entEq]
  generalize hb : (x.b == y.b) = b2
  by_cases h0 : x.v = y.v <;> by_cases h1 : x.n = y.n <;> cases b2 <;> simp [run_underlying hi, run_underlying hs, run_equalIn_int w 9998 _ _ _ _ _ hi, run_equalIn_string w 9998 _ _ _ hs, toListB, h0, h1, hb]

theorem common_step {l m : List Ent} {k r : Nat} (hk : k < l.length) (hk' : k < m.length) (h : k + commonN (l.drop k) (m.drop k) = r) :
    if entEq l[k] m[k] = true then k + 1 + commonN (l.drop (k + 1)) (m.drop (k + 1)) = r else k = r := by
  rw [List.drop_eq_getElem_cons hk, List.drop_eq_getElem_cons hk', commonN] at h
  split at h
  · rename_i hq; rw [if_pos hq]; omega
  · rename_i hq; rw [if_neg hq]; omega

set_option maxHeartbeats 400000 in
theorem common_any (l m : List Ent) (A B : Option Addr) (c d : Nat) (w : World) (hm : l.length ≤ maxLen) (_hm' : m.length ≤ maxLen) (hl : Rd w w.heap.size 3 entC A l) (hl' : Rd w w.heap.size 3 entC B m) :
    Calls Try.prog 20 #[.slice A l.length c, .slice B m.length d] w
      fun e w' => e = .returned (.int .i64 (commonN l m : Nat)) ∧ ∃ n, w' = w.drewN n := by
  unfold maxLen at hm
  generalize hn : l.length = n at *
  have HN := Lib.hid hn
  clear hn
  generalize hn' : m.length = n' at *
  have HN' := Lib.hid hn'
  clear hn'
  go_enter Try.func20, Try.ntmps20
  go_wp2
  go_loopw [5] (fun i wr => ∃ (k q : Nat), k ≤ n ∧ k ≤ n' ∧ i = .int .i64 k ∧ k + commonN (l.drop k) (m.drop k) = commonN l m ∧ wr = w.drewN q) (fun i _ => n - (intOf i).toNat)
  case atStart => exact ⟨0, 0, Nat.zero_le _, Nat.zero_le _, rfl, by simp, rfl⟩
  case round =>
    obtain ⟨k, q, hk, hk', rfl, hr, rfl⟩ := hrel
    have HR := Lib.hid hr
    clear hr
    by_cases hlt : k < n
    · by_cases hlt' : k < n'
      · have hkl : k < l.length := by rw [HN.out]; exact hlt
        have hkm : k < m.length := by rw [HN'.out]; exact hlt'
        obtain ⟨a, hA, hab⟩ := hl.addr hkl
        subst hA
        obtain ⟨b, hB, hbb⟩ := hl'.addr hkm
        subst hB
        have c0 : w.cell? (a.add (k * 3)) = _ := hl.cell hkl (j := 0) rfl
        have c1 : w.cell? ⟨(a.add (k * 3)).block, (a.add (k * 3)).off + 1, none⟩ = _ := hl.cell hkl (j := 1) rfl
        have c2 : w.cell? ⟨(a.add (k * 3)).block, (a.add (k * 3)).off + 2, none⟩ = _ := hl.cell hkl (j := 2) rfl
        have d0 : w.cell? (b.add (k * 3)) = _ := hl'.cell hkm (j := 0) rfl
        have d1 : w.cell? ⟨(b.add (k * 3)).block, (b.add (k * 3)).off + 1, none⟩ = _ := hl'.cell hkm (j := 1) rfl
        have d2 : w.cell? ⟨(b.add (k * 3)).block, (b.add (k * 3)).off + 2, none⟩ = _ := hl'.cell hkm (j := 2) rfl
        generalize he : l[k] = e at c0 c1 c2
        generalize he' : m[k] = e' at d0 d1 d2
        have heq := fun w => ent_eq e e' w
        have t1 : decide ((k : Int) < if n' < n then (n' : Int) else (n : Int)) = true := by rw [decide_eq_true_eq]; split <;> omega
        have t2 : (k : Int) < n := by omega
        have t3 : (k : Int) < n' := by omega
        go_wp2
        go_quiet (fail)
        have HS := Lib.hid (common_step hkl hkm HR.out)
        rw [he, he'] at HS
        clear HR heq he he'
        generalize hmn : (if n' < n then (n' : Int) else (n : Int)) = mn at t1 ⊢
        clear hmn
        cases hq : entEq e e'
        · have HS0 := HS.out
          rw [hq] at HS0
          have HS' := Lib.hid HS0
          clear HS HS0 hq
          go_wp2
          go_ret
          exact ⟨ret_int (by rw [← show k = _ from HS'.out]), q + nq, by simp⟩
        · have HS0 := HS.out
          rw [hq] at HS0
          have HS' := Lib.hid HS0
          clear HS HS0 hq
          go_wp2
          go_roundw
          case rel => exact ⟨k + 1, q + nq, by omega, by omega, by go_num, HS'.out, by simp⟩
          case measure => simp [intOf]; omega
      · have t1 : decide ((k : Int) < if n' < n then (n' : Int) else (n : Int)) = false := by rw [decide_eq_false_iff_not]; split <;> omega
        go_wp2
        go_quiet (fail)
        generalize (if n' < n then (n' : Int) else (n : Int)) = mn at t1 ⊢
        go_wp2
        go_ret
        exact ⟨ret_int (by rw [← HR.out, List.drop_of_length_le (l := m) (by have := HN'.out; omega)]; simp [commonN]), q + nq, by simp⟩
    · have t1 : decide ((k : Int) < if n' < n then (n' : Int) else (n : Int)) = false := by rw [decide_eq_false_iff_not]; split <;> omega
      go_wp2
      go_quiet (fail)
      generalize (if n' < n then (n' : Int) else (n : Int)) = mn at t1 ⊢
      go_wp2
      go_ret
      exact ⟨ret_int (by rw [← HR.out, List.drop_of_length_le (l := l) (by have := HN.out; omega)]; simp [commonN]), q + nq, by simp⟩

end Go.Proofs.Ytcdpjabahmfhdaa

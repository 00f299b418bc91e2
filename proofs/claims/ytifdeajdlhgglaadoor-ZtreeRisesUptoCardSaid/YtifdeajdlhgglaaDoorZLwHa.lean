/- A part of the proof. -/
import Derived.Test.YtifdeajdlhgglaaDoorZM1
namespace Go.Proofs.YtifdeajdlhgglaaDoor
theorem dig_nat (m i : Nat) : (digZ m i).toNat = 48 + m / 10 ^ (9 - i) % 10 := by
 unfold digZ
 rw [UInt8.toNat_ofNat', Int.toNat_natCast]
 omega
theorem dig_lt {a b i : Nat} (h : a / 10 ^ (9 - i) % 10 < b / 10 ^ (9 - i) % 10) : digZ a i < digZ b i := by
 rw [UInt8.lt_iff_toNat_lt, dig_nat, dig_nat]; omega
theorem dig_eq' {a b i : Nat} (h : a / 10 ^ (9 - i) % 10 = b / 10 ^ (9 - i) % 10) : digZ a i = digZ b i := by
 rw [← UInt8.toNat_inj, dig_nat, dig_nat, h]
theorem lt_step {a b : Nat} {i : Nat} {l m : List UInt8} (h : a / 10 ^ (9 - i) % 10 < b / 10 ^ (9 - i) % 10 ∨ a / 10 ^ (9 - i) % 10 = b / 10 ^ (9 - i) % 10 ∧ l < m) : digZ a i :: l < digZ b i :: m := by
 rcases h with h | ⟨h1, h2⟩
 ·exact List.cons_lt_cons_iff.2 (.inl (dig_lt h))
 ·exact List.cons_lt_cons_iff.2 (.inr ⟨dig_eq' h1, h2⟩)
theorem stp {a b p : Nat} {L : Prop} (h : a % (10 * p) < b % (10 * p)) (hp : 0 < p) (hL : a % p < b % p → L) : a / p % 10 < b / p % 10 ∨ a / p % 10 = b / p % 10 ∧ L := by
 have ha : a % (10 * p) = a % p + p * (a / p % 10) := by rw [Nat.mul_comm 10 p, Nat.mod_mul]
 have hb : b % (10 * p) = b % p + p * (b / p % 10) := by rw [Nat.mul_comm 10 p, Nat.mod_mul]
 rw [ha, hb] at h
 have h1 := Nat.mod_lt a hp
 have h2 := Nat.mod_lt b hp
 rcases Nat.lt_trichotomy (a / p % 10) (b / p % 10) with h3 | h3 | h3
 ·exact .inl h3
 ·rw [h3] at h
  exact .inr ⟨h3, hL (by omega)⟩
 ·exfalso
  have : p * (b / p % 10) + p ≤ p * (a / p % 10) := by rw [← Nat.mul_succ]; exact Nat.mul_le_mul_left _ h3
  omega
theorem ten_lt {a b : Nat} (h : a < b) (hb : b ≤ 9999999999) : (tenZ a).data.toList < (tenZ b).data.toList := by
 show [digZ a 0, digZ a 1, digZ a 2, digZ a 3, digZ a 4, digZ a 5, digZ a 6, digZ a 7, digZ a 8, digZ a 9] < [digZ b 0, digZ b 1, digZ b 2, digZ b 3, digZ b 4, digZ b 5, digZ b 6, digZ b 7, digZ b 8, digZ b 9]
 refine lt_step (stp (p := 10 ^ 9) (by omega) (by decide) fun h => ?_)
 refine lt_step (stp (p := 10 ^ 8) h (by decide) fun h => ?_)
 refine lt_step (stp (p := 10 ^ 7) h (by decide) fun h => ?_)
 refine lt_step (stp (p := 10 ^ 6) h (by decide) fun h => ?_)
 refine lt_step (stp (p := 10 ^ 5) h (by decide) fun h => ?_)
 refine lt_step (stp (p := 10 ^ 4) h (by decide) fun h => ?_)
 refine lt_step (stp (p := 10 ^ 3) h (by decide) fun h => ?_)
 refine lt_step (stp (p := 10 ^ 2) h (by decide) fun h => ?_)
 refine lt_step (stp (p := 10 ^ 1) h (by decide) fun h => ?_)
 refine lt_step (stp (p := 10 ^ 0) h (by decide) fun h => ?_)
 exact absurd h (by omega)
theorem app_lt (p : List UInt8) {a b : List UInt8} (h : a < b) : p ++ a < p ++ b := by
 induction p with
 | nil => exact h
 | cons c p ih => exact List.cons_lt_cons_iff.2 (.inr ⟨rfl, ih⟩)
theorem num_lt (s : ByteArray) {a b : Int} (h0 : 0 ≤ a) (h : a < b) (hb : b ≤ 9999999999) : ltS (s ++ tenZ a) (s ++ tenZ b) = true := by
 obtain ⟨a, rfl⟩ := Int.eq_ofNat_of_zero_le h0
 obtain ⟨b, rfl⟩ := Int.eq_ofNat_of_zero_le (Int.le_of_lt (Int.lt_of_le_of_lt h0 h))
 rw [ltS_iff, ByteArray.data_append, ByteArray.data_append, Array.toList_append, Array.toList_append]
 exact app_lt _ (ten_lt (by omega) (by omega))
end Go.Proofs.YtifdeajdlhgglaaDoor

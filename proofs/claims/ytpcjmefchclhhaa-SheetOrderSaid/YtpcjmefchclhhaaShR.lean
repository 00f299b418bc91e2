/- The reference's Punch. -/
import Derived.Test.YtpcjmefchclhhaaShRa
import Derived.Test.YtpcjmefchclhhaaShRb
import Derived.Test.YtpcjmefchclhhaaShRc
namespace Go.Proofs.Ytpcjmefchclhhaa
open Go.RowKit Go.MapKept

set_option maxRecDepth 100000 in
set_option maxHeartbeats 8000000 in
theorem rpunch_no {w : World} {v : Value} {B : List UInt8} {On : List Nat} (h : RSh w v B On) (a n : Int) (hf : punchOk a n = false) :
    Calls Try.prog 68 #[v, .int .i64 a, .int .i64 n] w fun e w' => ∃ v', e = .returned (.tuple #[v', .bool false]) ∧ RSh w' v' (rpB B a n) (rpOn B On a n) ∧ Below w.heap.size w w' := by
  have HR := Lib.hid h
  obtain ⟨⟨A, c, A', c', rfl, h1, h2, h3, h4, h5, h6, h7⟩, hlb, hlo, hsm⟩ := h
  have HA := Lib.hid h4
  have HA' := Lib.hid h5
  have HCO := Lib.hid h6
  have H1 := Lib.hid h1
  have H2 := Lib.hid h2
  have HSm := Lib.hid hsm
  clear h1 h2 h4 h5 h6 h7 hsm
  have hB0 : Below w.heap.size w (w.alloc (.cells #[.slice A B.length c, .slice A' On.length c'] 30)) := (Below.refl _ _).alloc (Nat.le_refl _) _
  have same : ∀ (w' : World) (B' : List UInt8) (On' : List Nat), Below w.heap.size w w' → B' = B → On' = On → RSh w' (.agg #[.slice A B.length c, .slice A' On.length c']) B' On' := fun w' B' On' hb e1 e2 => by rw [e1, e2]; exact HR.out.below hb
  have SAME := Lib.hid same
  have HB0 := Lib.hid hB0
  clear hB0 same
  have E1 := Lib.hid (show rpB B a n = B by unfold rpB; rw [hf]; rfl)
  have E2 := Lib.hid (show rpOn B On a n = On by unfold rpOn; rw [hf]; rfl)
  have t0 := of_decide_eq_false hf
  clear hf
  have t1 : decide (a < 0) = true ∨ decide (a < 0) = false ∧ (decide (n < 0) = true ∨ decide (n < 0) = false ∧ (decide (1048576 < n) = true ∨ decide (1048576 < n) = false ∧ 0 ≤ n ∧ n ≤ 1048576 ∧ decide (1048576 - n < a) = true)) := by
    simp only [decide_eq_true_eq, decide_eq_false_iff_not]; omega
  clear t0
  rcases t1 with t1 | ⟨t1, t2 | ⟨t2, t3 | ⟨t3, n0, n1, t4⟩⟩⟩
  all_goals
    go_enter Try.func68, Try.ntmps68
    go_wp2
    exact end_cell_tmp (p := 6) (u := 7) (ty := 30) (by kernel_rfl) rfl (heap_alloc2_new _ _ _) sheetT rfl sheetI rfl rfl ⟨_, rfl, SAME.out _ _ _ (HB0.out.alloc (by simp) _) E1.out E2.out, HB0.out.alloc (by simp) _⟩

theorem rpunch_any {w : World} {v : Value} {B : List UInt8} {On : List Nat} (h : RSh w v B On) (a n : Int) :
    Calls Try.prog 68 #[v, .int .i64 a, .int .i64 n] w fun e w' => ∃ v', e = .returned (.tuple #[v', .bool (punchOk a n)]) ∧ RSh w' v' (rpB B a n) (rpOn B On a n) ∧ Below w.heap.size w w' := by
  cases hf : punchOk a n
  · exact rpunch_no h a n hf
  · obtain ⟨ha, hn, _, _⟩ := of_decide_eq_true hf
    obtain ⟨n, rfl⟩ := Int.eq_ofNat_of_zero_le hn
    obtain ⟨a, rfl⟩ := Int.eq_ofNat_of_zero_le ha
    have hh : n = 0 ∨ (n ≠ 0 ∧ a + n ≤ B.length) ∨ (n ≠ 0 ∧ B.length < a + n) := by omega
    rw [← hf]
    rcases hh with hh | hh | hh
    · exact rpunch_0 h a n hf hh
    · exact rpunch_1 h a n hf hh
    · exact rpunch_2 h a n hf hh
end Go.Proofs.Ytpcjmefchclhhaa

/- Contracts of Less, of the reference's Less, and of both Bests. -/
import Derived.Test.YtcdpjabahmfhdaaBase
import Derived.StillTailTactics
namespace Go.Proofs.Ytcdpjabahmfhdaa
open Go.RowKit

structure Mk where
  v : Int
  n : Int
def mkC (e : Mk) : List Value := [.int .i64 e.v, .int .i64 e.n]
def lessB (a b : Mk) : Bool := decide (a.v < b.v ∨ a.v = b.v ∧ a.n < b.n)

theorem less_1 {a b : Mk} (h2 : a.v = b.v) : decide (a.n < b.n) = lessB a b := by unfold lessB; rw [decide_eq_decide]; omega
theorem less_2 {a b : Mk} (h1 : b.v ≤ a.v) (h2 : ¬ a.v = b.v) : false = lessB a b := by unfold lessB; rw [eq_comm, decide_eq_false_iff_not]; omega
theorem less_3 {a b : Mk} (h1 : a.v < b.v) : true = lessB a b := by unfold lessB; rw [eq_comm, decide_eq_true_eq]; omega

set_option maxHeartbeats 400000 in
theorem less_any (a b : Mk) (w : World) :
    Calls Try.prog 25 #[.agg #[.int .i64 a.v, .int .i64 a.n], .agg #[.int .i64 b.v, .int .i64 b.n]] w
      fun e w' => e = .returned (.bool (lessB a b)) ∧ Below w.heap.size w w' := by
  obtain ⟨av, an⟩ := a
  obtain ⟨bv, bn⟩ := b
  dsimp only
  by_cases h1 : av < bv
  · go_enter Try.func25, Try.ntmps25
    go_wp2
    go_ret
    exact ⟨ret_bool (less_3 (a := ⟨av, an⟩) (b := ⟨bv, bn⟩) h1), ((Below.refl _ _).alloc (Nat.le_refl _) _).alloc (by simp) _⟩
  · by_cases h2 : (av == bv) = true
    · go_enter Try.func25, Try.ntmps25
      go_wp2
      go_ret
      exact ⟨ret_bool (less_1 (a := ⟨av, an⟩) (b := ⟨bv, bn⟩) (by simpa using h2)), ((Below.refl _ _).alloc (Nat.le_refl _) _).alloc (by simp) _⟩
    · have h2' : (av == bv) = false := by simpa using h2
      go_enter Try.func25, Try.ntmps25
      go_wp2
      go_ret
      exact ⟨ret_bool (less_2 (a := ⟨av, an⟩) (b := ⟨bv, bn⟩) (by dsimp only; omega) (by simpa using h2')), ((Below.refl _ _).alloc (Nat.le_refl _) _).alloc (by simp) _⟩

set_option maxHeartbeats 400000 in
theorem refLess_any (a b : Mk) (w : World) :
    Calls Try.prog 26 #[.agg #[.int .i64 a.v, .int .i64 a.n], .agg #[.int .i64 b.v, .int .i64 b.n]] w
      fun e w' => e = .returned (.bool (lessB a b)) ∧ Below w.heap.size w w' := by
  obtain ⟨av, an⟩ := a
  obtain ⟨bv, bn⟩ := b
  dsimp only
  by_cases h2 : (av == bv) = true
  · have h2' : (av != bv) = false := by simpa using h2
    go_enter Try.func26, Try.ntmps26
    go_wp2
    go_ret
    exact ⟨ret_bool (less_1 (a := ⟨av, an⟩) (b := ⟨bv, bn⟩) (by simpa using h2)), ((Below.refl _ _).alloc (Nat.le_refl _) _).alloc (by simp) _⟩
  · have h2' : (av != bv) = true := by simpa using h2
    go_enter Try.func26, Try.ntmps26
    go_wp2
    go_ret
    refine ⟨ret_bool ?_, ((Below.refl _ _).alloc (Nat.le_refl _) _).alloc (by simp) _⟩
    unfold lessB
    rw [decide_eq_decide]
    simp at h2
    dsimp only
    omega

set_option maxHeartbeats 400000 in
theorem after_any (l : List Mk) (A : Option Addr) (c : Nat) (i k : Nat) (w : World) (hi : i < l.length) (hk : k < l.length) (hl : Rd w w.heap.size 2 mkC A l) :
    Calls Try.prog 32 #[.agg #[.slice A l.length c], .int .i64 i, .int .i64 k] w
      fun e w' => e = .returned (.bool (lessB l[k] l[i])) ∧ Below w.heap.size w w' := by
  obtain ⟨a, hA, hab⟩ := hl.addr hi
  subst hA
  have hbw : Below w.heap.size w (w.alloc (Obj.cells #[Value.slice (some a) l.length c] 53)) := (Below.refl _ _).alloc (Nat.le_refl _) _
  have b0 : (w.alloc (Obj.cells #[Value.slice (some a) l.length c] 53)).cell? ⟨w.heap.size, 0, none⟩ = some (Value.slice (some a) l.length c) := cell_one_new w _ _ 0 _ rfl
  have hl' := hl.below hbw
  have hz := hbw.size
  go_enter Try.func32, Try.ntmps32
  go_wp2
  generalize w.alloc (Obj.cells #[Value.slice (some a) l.length c] 53) = w1 at *
  have c0 : w1.cell? (a.add (k * 2)) = _ := hl'.cell hk (j := 0) rfl
  have c1 : w1.cell? ⟨(a.add (k * 2)).block, (a.add (k * 2)).off + 1, none⟩ = _ := hl'.cell hk (j := 1) rfl
  have d0 : w1.cell? (a.add (i * 2)) = _ := hl'.cell hi (j := 0) rfl
  have d1 : w1.cell? ⟨(a.add (i * 2)).block, (a.add (i * 2)).off + 1, none⟩ = _ := hl'.cell hi (j := 1) rfl
  generalize he : l[k] = e at c0 c1
  generalize hi' : l[i] = e' at d0 d1
  have HE := Lib.hid he
  have HI := Lib.hid hi'
  clear he hi'
  have i1 : (i : Int) < l.length := by omega
  have i2 : (k : Int) < l.length := by omega
  clear hl hl'
  go_still_tail 10, (by kernel_rfl)
  change wpList _ _ _ _ _ w1.drew
  have hbd := hbw.drew
  have hzd : w.heap.size ≤ w1.drew.heap.size := hz
  generalize w1.drew = w2 at *
  clear b0 c0 c1 d0 d1 hbw hz
  go_wp2_with (go_at_call 25; refine (less_any e e' w2).mono ?_; rintro e w3 ⟨rfl, hb3⟩)
  go_ret
  exact ⟨ret_bool (by rw [HE.out, HI.out]), hbd.trans (hb3.mono hzd)⟩

/-- The first place at which no other mark is above; -1 for none. -/
def bestI (l : List Mk) : Int := if l = [] then -1 else ((l.findIdx fun x => l.all fun y => !lessB x y : Nat) : Int)

/-- k is the first of the places below n whose mark is not less than any of these. -/
def Top (l : List Mk) (n k : Nat) : Prop := ∃ (hk : k < n) (hn : n ≤ l.length), (∀ j (hj : j < n), lessB l[k] l[j] = false) ∧ ∀ j (hj : j < k), lessB l[j] l[k] = true
theorem less_irr (a : Mk) : lessB a a = false := by unfold lessB; rw [decide_eq_false_iff_not]; omega
theorem less_trans {a b c : Mk} (h1 : lessB a b = true) (h2 : lessB b c = true) : lessB a c = true := by
  unfold lessB at *; rw [decide_eq_true_eq] at *; omega
theorem less_neg {a b c : Mk} (h1 : lessB a b = true) (h2 : lessB a c = false) : lessB c b = true := by
  unfold lessB at *; rw [decide_eq_true_eq] at *; rw [decide_eq_false_iff_not] at h2; omega
theorem less_le {a b c : Mk} (h1 : lessB a b = false) (h2 : lessB b c = false) : lessB a c = false := by
  unfold lessB at *; rw [decide_eq_false_iff_not] at *; omega
theorem Top.one {l : List Mk} (h : 0 < l.length) : Top l 1 0 :=
  ⟨by omega, h, fun j hj => by have e : j = 0 := by omega
                               subst e; exact less_irr _, fun j hj => by omega⟩
theorem Top.stay {l : List Mk} {n k : Nat} (h : Top l n k) (hn : n < l.length) (hl : lessB (l[k]'(by obtain ⟨a, _, _⟩ := h; omega)) l[n] = false) : Top l (n + 1) k := by
  obtain ⟨hk, hn', h1, h2⟩ := h
  refine ⟨by omega, by omega, fun j hj => ?_, h2⟩
  by_cases hjn : j = n
  · subst hjn; exact hl
  · exact h1 j (by omega)
theorem Top.turn {l : List Mk} {n k : Nat} (h : Top l n k) (hn : n < l.length) (hl : lessB (l[k]'(by obtain ⟨a, _, _⟩ := h; omega)) l[n] = true) : Top l (n + 1) n := by
  obtain ⟨hk, hn', h1, h2⟩ := h
  refine ⟨by omega, by omega, fun j hj => ?_, fun j hj => less_neg hl (h1 j hj)⟩
  by_cases hjn : j = n
  · subst hjn; exact less_irr _
  · exact by
      have a := less_neg hl (h1 j (by omega))
      unfold lessB at *; rw [decide_eq_true_eq] at a; rw [decide_eq_false_iff_not]; omega
theorem Top.best {l : List Mk} {k : Nat} (h : Top l l.length k) : bestI l = k := by
  obtain ⟨hk, _, h1, h2⟩ := h
  unfold bestI
  rw [if_neg (by intro e; subst e; simp at hk)]
  congr 1
  rw [List.findIdx_eq hk]
  refine ⟨?_, fun j hj => ?_⟩
  · rw [List.all_eq_true]
    intro y hy
    obtain ⟨j, hj, rfl⟩ := List.getElem_of_mem hy
    rw [h1 j hj]; rfl
  · rw [List.all_eq_false]
    exact ⟨l[k], List.getElem_mem _, by rw [h2 j hj]; simp⟩

set_option maxHeartbeats 400000 in
theorem best_any (l : List Mk) (A : Option Addr) (c : Nat) (w : World) (hm : l.length ≤ maxLen) (hl : Rd w w.heap.size 2 mkC A l) :
    Calls Try.prog 27 #[.slice A l.length c] w
      fun e w' => e = .returned (.int .i64 (bestI l)) ∧ Below w.heap.size w w' := by
  unfold maxLen at hm
  generalize hn : l.length = n at *
  have HN := Lib.hid hn
  clear hn
  go_enter Try.func27, Try.ntmps27
  go_wp2
  go_loopw [4, 11] (fun b i wr => ∃ (k : Nat), k ≤ n ∧ i = .int .i64 k ∧ (k = 0 ∧ b = .int .i64 (-1) ∨ ∃ p : Nat, Top l k p ∧ b = .int .i64 p) ∧ Below w.heap.size w wr) (fun _ i _ => n - (intOf i).toNat)
  case atStart => exact ⟨0, Nat.zero_le _, rfl, .inl ⟨rfl, rfl⟩, Below.refl _ _⟩
  case round =>
    obtain ⟨k, hk, rfl, hb, hbw⟩ := hrel
    by_cases hlt : k < n
    · have hkl : k < l.length := by rw [HN.out]; exact hlt
      rcases hb with ⟨hk0, rfl⟩ | ⟨p, hp, rfl⟩
      · have hk0' : k ≤ 0 := by omega
        clear hk0
        go_wp2
        go_roundw
        case rel => exact ⟨k + 1, by omega, by go_num, .inr ⟨0, by rw [show k = 0 by omega]; exact Top.one (by omega), by congr 1; omega⟩, hbw⟩
        case measure => simp [intOf]; omega
      · have hp' := hp
        obtain ⟨hpk, _, _, _⟩ := hp'
        have hpl : p < l.length := by omega
        have hp0 : ¬ ((p : Int) < 0) := by omega
        have hc := after_any l A c k p wr hkl hpl ((hl.below hbw).more hbw.size)
        rw [HN.out] at hc
        have HC := Lib.hid hc
        clear hc
        have HS : Hid (lessB l[p] l[k] = false → Top l (k + 1) p) := Lib.hid (hp.stay hkl)
        have HT : Hid (lessB l[p] l[k] = true → Top l (k + 1) k) := Lib.hid (hp.turn hkl)
        clear hp
        generalize lessB l[p] l[k] = bb at HC HS HT
        cases bb
        · go_wp2_with (go_at_call 32; refine HC.out.mono ?_; rintro e w3 ⟨rfl, hb3⟩)
          go_roundw
          case rel => exact ⟨k + 1, by omega, by go_num, .inr ⟨p, HS.out (by trivial), rfl⟩, hbw.trans (hb3.mono hbw.size)⟩
          case measure => simp [intOf]; omega
        · go_wp2_with (go_at_call 32; refine HC.out.mono ?_; rintro e w3 ⟨rfl, hb3⟩)
          go_roundw
          case rel => exact ⟨k + 1, by omega, by go_num, .inr ⟨k, HT.out (by trivial), rfl⟩, hbw.trans (hb3.mono hbw.size)⟩
          case measure => simp [intOf]; omega
    · obtain rfl : k = n := by omega
      go_wp2
      go_ret
      refine ⟨?_, hbw⟩
      rcases hb with ⟨rfl, rfl⟩ | ⟨p, hp, rfl⟩
      · have := List.eq_nil_of_length_eq_zero HN.out
        subst this
        rfl
      · exact ret_int (by have := HN.out; subst this; exact hp.best.symm)

end Go.Proofs.Ytcdpjabahmfhdaa

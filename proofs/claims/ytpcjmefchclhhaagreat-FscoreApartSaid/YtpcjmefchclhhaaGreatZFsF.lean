/- A part of the proof. -/
import Derived.Test.YtpcjmefchclhhaaGreatZFsE
namespace Go.Proofs.YtpcjmefchclhhaaGreat
open Go.RowKit Go.MapKept
def clockB (t : Int) : Bool := decide (0 ≤ t ∧ t ≤ 1099511627776)
def rightB (m : RMk) : Bool := decide (1 ≤ m.kind ∧ m.kind ≤ 3 ∧ 0 ≤ m.mode ∧ m.mode < 4096 ∧ 0 ≤ m.time ∧ m.time ≤ 1099511627776 ∧ ((m.kind = 3 → 1 ≤ m.target.size ∧ m.target.size ≤ 100) ∧ (m.kind ≠ 3 → m.target.size = 0)))
def mkV (m : RMk) : Value := .agg #[.int .i64 m.kind, .int .i64 m.mode, .int .i64 m.time, .string m.target]
set_option maxRecDepth 100000 in
set_option maxHeartbeats 400000 in
theorem clock_any (t : Int) (w : World) : Calls Tryz.prog 74 #[.int .i64 t] w fun e w' => e = .returned (.bool (clockB t)) ∧ w = w' := by
 go_enter Tryz.func74, Tryz.ntmps74
 go_wp2
 all_goals
  go_ret
  refine ⟨ret_bool ?_, rfl⟩
  unfold clockB
  first
   | (rw [decide_eq_decide]; omega)
   | (rw [eq_comm, decide_eq_false_iff_not]; omega)
   | (rw [eq_comm, decide_eq_true_eq]; omega)
theorem size_zero {s : ByteArray} (h : s.toList = []) : s.size = 0 := by rw [size_data, ← toList_data, h]; rfl
theorem size_pos {s : ByteArray} (h : ¬ s.toList = []) : 1 ≤ s.size := by rw [size_data, ← toList_data]; exact List.length_pos_iff.2 h
set_option maxRecDepth 100000 in
set_option maxHeartbeats 4000000 in
theorem right_any (m : RMk) (w : World) (hs : m.target.size ≤ maxLen) : Calls Tryz.prog 51 #[mkV m] w fun e w' => e = .returned (.bool (rightB m)) ∧ Below w.heap.size w w' := by
 obtain ⟨kd, md, tm, tg⟩ := m
 unfold maxLen at hs
 dsimp only at hs
 unfold mkV
 dsimp only
 obtain ⟨w1, hw1, hB, hs1, hb⟩ := box1 w #[.int .i64 kd, .int .i64 md, .int .i64 tm, .string tg] 76
 have c0 : w1.cell? ⟨w.heap.size, 0, none⟩ = _ := cell_at hb 0
 have c1 : w1.cell? ⟨w.heap.size, 1, none⟩ = _ := cell_at hb 1
 have c2 : w1.cell? ⟨w.heap.size, 2, none⟩ = _ := cell_at hb 2
 have c3 : w1.cell? ⟨w.heap.size, 3, none⟩ = _ := cell_at hb 3
 have HW1 := Lib.hid hw1
 have HB := Lib.hid hB
 have hcs : tg.toList = [] ∨ ¬ tg.toList = [] := Decidable.em _
 have hck : kd = 3 ∨ kd < 3 ∨ 3 < kd := by omega
 clear hw1 hB hb
 have HC := Lib.hid (clock_any tm)
 rcases hcs with q1 | q1
 all_goals
  have hsz : tg.size = 0 ∨ 1 ≤ tg.size := by omega
  have HS := Lib.hid (show tg.toList = [] → tg.size = 0 from size_zero)
  have HS2 := Lib.hid (show ¬ tg.toList = [] → 1 ≤ tg.size from size_pos)
  rcases hck with rfl | q2 | q2
  all_goals
   go_enter Tryz.func51, Tryz.ntmps51
   go_wp2_with fail
   try rw [HW1.out]
   go_wp2_with (go_at_call 74; (with_reducible refine (HC.out _).mono ?_); rintro e w2 ⟨rfl, rfl⟩)
   all_goals
    have h1 := HS.out
    have h2 := HS2.out
    go_ret
    refine ⟨ret_bool ?_, by first | exact HB.out | exact (Below.refl _ _).alloc (Nat.le_refl _) _⟩
    clear HB HW1 HC HS HS2 c0 c1 c2 c3
    rw [Bool.eq_iff_iff]
    unfold rightB
    dsimp only
    generalize tg.size = z at *
    simp [clockB, q1] at *
    try omega
def newP (room : Int) : RFs := ⟨max room 0, [⟨1, 1, 2, 493, 0, 1, noStr, [], []⟩], [], [0, 1]⟩
attribute [local go_sem] putObj_size
set_option maxRecDepth 100000 in
set_option maxHeartbeats 1000000 in
theorem fnew_any (room : Int) (w : World) : Calls Tryz.prog 8 #[.int .i64 room] w fun e w' => ∃ f mi mg N, e = .returned (ptrV f) ∧ FsN w' f mi mg (newP room) N ∧ w.heap.size ≤ f ∧ w.heap.size ≤ mi ∧ w.heap.size ≤ mg ∧ (∀ n ∈ N, ∀ k ∈ n.foot, w.heap.size ≤ k) ∧ Below w.heap.size w w' := by
 have hmm := @run_makeMap Tryz.prog
 have hm2 : MapB ((w.alloc (.map #[] 0)).alloc (.map #[] 0)) (w.heap.size + 1) intK intK ([] : List (Int × Int)) := by
  have := mapB_new (w.alloc (.map #[] 0)) intK intK
  simpa using this
 have hm1 : MapB ((w.alloc (.map #[] 0)).alloc (.map #[] 0)) w.heap.size intK ptrV ([] : List (Int × Nat)) := (mapB_new w intK ptrV).of_block (Below.heap_alloc _ _ _ (by simp))
 obtain ⟨o, hup, hmp⟩ := run_update KI (t := 64) Tryz.underlying64 hm2 (1 : Int) (1 : Int)
 have hm1' := hm1.of_block (putObj_other ((w.alloc (.map #[] 0)).alloc (.map #[] 0)) (m := w.heap.size + 1) o (by omega))
 have hB2 : Below w.heap.size w (putObj ((w.alloc (.map #[] 0)).alloc (.map #[] 0)) (w.heap.size + 1) o) :=
  Frm.below (S := [w.heap.size + 1]) ((Frm.refl _ _).putObj (.inl (by simp)) o) (((Below.refl _ _).alloc (Nat.le_refl _) _).alloc (by simp) _) (by simp; omega) (by simp)
 have hs2 : (putObj ((w.alloc (.map #[] 0)).alloc (.map #[] 0)) (w.heap.size + 1) o).heap.size = w.heap.size + 2 := by rw [putObj_size]; simp
 obtain ⟨w2, e2⟩ : ∃ w2, putObj ((w.alloc (.map #[] 0)).alloc (.map #[] 0)) (w.heap.size + 1) o = w2 := ⟨_, rfl⟩
 rw [e2] at hs2 hB2 hm1' hmp
 obtain ⟨w3, e3⟩ : ∃ w3, w2.alloc (.cells #[.int .i64 (max room 0), .map (some w.heap.size), .map (some (w.heap.size + 1))] 66) = w3 := ⟨_, rfl⟩
 obtain ⟨w4, e4⟩ : ∃ w4, w3.alloc (.map #[] 0) = w4 := ⟨_, rfl⟩
 obtain ⟨w5, e5⟩ : ∃ w5, w4.alloc (.cells #[.map (some (w.heap.size + 1 + 1 + 1)), .int .i64 1] 71) = w5 := ⟨_, rfl⟩
 obtain ⟨w6, e6⟩ : ∃ w6, w5.alloc (.cells #[.int .i64 1, .int .i64 1, .int .i64 493, .int .i64 0, .int .i64 2, .iface 68 (.pointer (some ⟨w.heap.size + 1 + 1 + 1 + 1, 0, none⟩))] 73) = w6 := ⟨_, rfl⟩
 have hs3 : w3.heap.size = w.heap.size + 3 := by rw [← e3]; simp [hs2]
 have hs4 : w4.heap.size = w.heap.size + 4 := by rw [← e4]; simp [hs3]
 have hs5 : w5.heap.size = w.heap.size + 5 := by rw [← e5]; simp [hs4]
 have hs6 : w6.heap.size = w.heap.size + 6 := by rw [← e6]; simp [hs5]
 have k3 : ∀ k, k < w.heap.size + 2 → w3.heap[k]? = w2.heap[k]? := fun k hk => by rw [← e3]; exact Below.heap_alloc _ _ _ (by omega)
 have k4 : ∀ k, k < w.heap.size + 3 → w4.heap[k]? = w3.heap[k]? := fun k hk => by rw [← e4]; exact Below.heap_alloc _ _ _ (by omega)
 have k5 : ∀ k, k < w.heap.size + 4 → w5.heap[k]? = w4.heap[k]? := fun k hk => by rw [← e5]; exact Below.heap_alloc _ _ _ (by omega)
 have k6 : ∀ k, k < w.heap.size + 5 → w6.heap[k]? = w5.heap[k]? := fun k hk => by rw [← e6]; exact Below.heap_alloc _ _ _ (by omega)
 have n3 : w3.heap[w.heap.size + 2]? = some (.cells #[.int .i64 (max room 0), .map (some w.heap.size), .map (some (w.heap.size + 1))] 66 (0, 0)) := by
  have := heap_alloc_new w2 (.cells #[.int .i64 (max room 0), .map (some w.heap.size), .map (some (w.heap.size + 1))] 66)
  rw [e3, hs2] at this; exact this
 have n5 : w5.heap[w.heap.size + 4]? = some (.cells #[.map (some (w.heap.size + 1 + 1 + 1)), .int .i64 1] 71 (0, 0)) := by
  have := heap_alloc_new w4 (.cells #[.map (some (w.heap.size + 1 + 1 + 1)), .int .i64 1] 71)
  rw [e5, hs4] at this; exact this
 have n6 : w6.heap[w.heap.size + 5]? = some (.cells #[.int .i64 1, .int .i64 1, .int .i64 493, .int .i64 0, .int .i64 2, .iface 68 (.pointer (some ⟨w.heap.size + 1 + 1 + 1 + 1, 0, none⟩))] 73 (0, 0)) := by
  have := heap_alloc_new w5 (.cells #[.int .i64 1, .int .i64 1, .int .i64 493, .int .i64 0, .int .i64 2, .iface 68 (.pointer (some ⟨w.heap.size + 1 + 1 + 1 + 1, 0, none⟩))] 73)
  rw [e6, hs5] at this; exact this
 have hm6 : MapB w6 w.heap.size intK ptrV ([] : List (Int × Nat)) := hm1'.of_block (by rw [k6 _ (by omega), k5 _ (by omega), k4 _ (by omega), k3 _ (by omega)])
 obtain ⟨o2, hup2, hmp2⟩ := run_update KI (t := 63) Tryz.underlying63 hm6 (1 : Int) (w.heap.size + 1 + 1 + 1 + 1 + 1)
 have hB6 : Below w.heap.size w (putObj w6 w.heap.size o2) := by
  refine Frm.below (S := [w.heap.size]) ((Frm.refl _ _).putObj (.inl (by simp)) o2) ?_ (by omega) (by simp)
  rw [← e6, ← e5, ← e4, ← e3]
  exact (((hB2.alloc (by omega) _).alloc (by simp; omega) _).alloc (by simp; omega) _).alloc (by simp; omega) _
 have hFs : FsN (putObj w6 w.heap.size o2) (w.heap.size + 1 + 1) w.heap.size (w.heap.size + 1) (newP room) [⟨1, w.heap.size + 1 + 1 + 1 + 1 + 1, w.heap.size + 1 + 1 + 1 + 1, w.heap.size + 1 + 1 + 1, true⟩] := by
  have hk : ∀ k, k ≠ w.heap.size → (putObj w6 w.heap.size o2).heap[k]? = w6.heap[k]? := fun k hk => putObj_other w6 o2 hk
  refine ⟨?_, hmp2, ⟨_, hmp.of_block ?_, ?_⟩, ?_, ?_, by simp, ?_, by omega⟩
  ·rw [hk _ (by omega), k6 _ (by omega), k5 _ (by omega), k4 _ (by omega), show w.heap.size + 1 + 1 = w.heap.size + 2 by omega, n3]; rfl
  ·rw [hk _ (by omega), k6 _ (by omega), k5 _ (by omega), k4 _ (by omega), k3 _ (by omega)]
  ·intro id
   rw [aget_put]
   unfold gensAt newP
   by_cases h1 : id = 1
   ·subst h1; rfl
   ·rw [if_neg h1]
    show (0 : Int) = _
    by_cases h2 : 0 ≤ id
    ·rw [if_pos h2]
     obtain ⟨j, rfl⟩ := Int.eq_ofNat_of_zero_le h2
     match j, h1 with
     | 0, _ => rfl
     | 1, h1 => exact absurd rfl h1
     | j + 2, _ => show (0 : Int) = [0, 1].getD (Int.toNat ((j + 2 : Nat) : Int)) 0; rw [Int.toNat_natCast]; rfl
    ·rw [if_neg h2]
  ·intro n hn
   simp only [List.mem_singleton] at hn
   subst hn
   refine ⟨⟨1, 1, 2, 493, 0, 1, noStr, [], []⟩, List.mem_singleton.2 rfl, ⟨rfl, ?_, rfl, fun h => absurd h (by decide), fun _ => ⟨?_, ?_⟩⟩⟩
   ·show (putObj w6 w.heap.size o2).heap[w.heap.size + 1 + 1 + 1 + 1 + 1]? = _
    rw [hk _ (by omega), show w.heap.size + 1 + 1 + 1 + 1 + 1 = w.heap.size + 5 by omega, n6]; rfl
   ·show (putObj w6 w.heap.size o2).heap[w.heap.size + 1 + 1 + 1 + 1]? = _
    rw [hk _ (by omega), k6 _ (by omega), show w.heap.size + 1 + 1 + 1 + 1 = w.heap.size + 4 by omega, n5]
   ·refine MapB.of_block (w := w4) ?_ (show (putObj w6 w.heap.size o2).heap[w.heap.size + 1 + 1 + 1]? = w4.heap[w.heap.size + 1 + 1 + 1]? by rw [hk _ (by omega), k6 _ (by omega), k5 _ (by omega)])
    have := mapB_new w3 strK intK
    rw [e4, hs3] at this
    exact this
  ·intro x hx
   unfold newP at hx
   simp at hx
   subst hx
   exact ⟨_, by simp; rfl, rfl⟩
  ·intro n hn
   simp only [List.mem_singleton] at hn
   subst hn
   simp [Nd.foot]
   omega
 have HFs := Lib.hid hFs
 have HB6 := Lib.hid hB6
 rw [← e6, ← e5, ← e4, ← e3, ← e2] at hup2 HFs HB6
 unfold intK ptrV at hup2
 unfold intK at hup
 clear hFs hB6 hmp2 hm6 hs3 hs4 hs5 hs6 k3 k4 k5 k6 n3 n5 n6 e2 e3 e4 e5 e6 hs2 hB2 hm1' hmp hm1 hm2
 go_enter Tryz.func8, Tryz.ntmps8
 go_wp2
 go_ret
 exact ⟨_, _, _, _, rfl, HFs.out, by omega, by omega, by omega, fun n hn k hk => by
  simp only [List.mem_singleton] at hn
  subst hn
  simp [Nd.foot] at hk
  omega, HB6.out⟩
end Go.Proofs.YtpcjmefchclhhaaGreat

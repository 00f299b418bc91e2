/- The reference's Need and Read. -/
import Derived.Test.YtpcjmefchclhhaaShL
import Derived.Test.YtpcjmefchclhhaaTag
namespace Go.Proofs.Ytpcjmefchclhhaa
open Go.RowKit Go.MapKept

theorem ret_slice {A : Option Addr} {n m c : Nat} (h : n = m) : Ending.returned (.slice A n c) = .returned (.slice A m c) := by rw [h]
/-- The value is the reference's sheet with these bytes and blocks. -/
structure RSh (w : World) (v : Value) (B : List UInt8) (On : List Nat) : Prop where
  val : ∃ A c A' c', v = .agg #[.slice A B.length c, .slice A' On.length c'] ∧ Rd w w.heap.size 1 byteC A B ∧ Rd w w.heap.size 1 numC A' On ∧ B.length ≤ c ∧ (A = none → c = 0) ∧ (A' = none → c' = 0) ∧ On.length ≤ c' ∧ Tag w 3 A'
  lenB : B.length ≤ 1048576
  lenOn : On.length ≤ 65536
  small : ∀ k ∈ On, k < 65536
theorem RSh.below {w w' : World} {v : Value} {B : List UInt8} {On : List Nat} (h : RSh w v B On) (hb : Below w.heap.size w w') : RSh w' v B On := by
  obtain ⟨⟨A, c, A', c', rfl, h1, h2, h31, h32, h33, h34, h35⟩, h4, h5, h6⟩ := h
  exact ⟨⟨A, c, A', c', rfl, (h1.below hb).more hb.size, (h2.below hb).more hb.size, h31, h32, h33, h34, h35.below hb⟩, h4, h5, h6⟩

set_option maxRecDepth 100000 in
set_option maxHeartbeats 2000000 in
theorem rneed_any {w : World} {v : Value} {B : List UInt8} {On : List Nat} (h : RSh w v B On) (a : Int) (n : Nat) (hn : n ≤ maxLen) (Ab : Option Addr) (cb : Nat) :
    Calls Try.prog 44 #[v, .int .i64 a, .slice Ab n cb] w fun e w' => e = .returned (.int .i64 (rneed On a n : Nat)) ∧ Below w.heap.size w w' := by
  have HF := fun w => Lib.hid (rfits_any a n hn w)
  obtain ⟨⟨A, c, A', c', rfl, h1, h2, -⟩, -, hlo, -⟩ := h
  have H2 := Lib.hid h2
  clear h1 h2
  unfold maxLen at hn
  have hB0 : Below w.heap.size w (w.alloc (.cells #[.slice A B.length c, .slice A' On.length c'] 30)) := (Below.refl _ _).alloc (Nat.le_refl _) _
  have HB0 := Lib.hid hB0
  clear hB0
  cases hf : fitsB a n
  · rw [hf] at HF
    have HE := Lib.hid (show rneed On a n = 0 by unfold rneed; rw [hf]; rfl)
    clear hf
    rcases Nat.eq_zero_or_pos n with rfl | h0
    all_goals
      go_enter Try.func44, Try.ntmps44
      go_wp2
      go_loopw [7, 8] (fun vn vi wr => vn = .int .i64 0 ∧ vi = .int .i64 0 ∧ Below w.heap.size w wr) (fun _ _ _ => 0)
      case atStart => exact ⟨rfl, rfl, HB0.out⟩
      case round =>
        obtain ⟨rfl, rfl, hbr⟩ := hrel
        have HB := Lib.hid hbr
        clear hbr HB0
        go_wp2_with (go_at_call 52; (with_reducible refine (HF _).out.mono ?_); rintro e w1 ⟨rfl, rfl⟩)
        go_ret
        exact ⟨ret_int (by rw [HE.out]; rfl), HB.out⟩
  · rw [hf] at HF
    obtain ⟨ha, hn1, ha1⟩ := of_decide_eq_true hf
    obtain ⟨a, rfl⟩ := Int.eq_ofNat_of_zero_le ha
    have HE := Lib.hid (show rneed On (a : Int) n = (List.range n).countP fun i => headAt a i && !decide ((a + i) / 16 ∈ On) by unfold rneed; rw [if_pos hf, Int.toNat_natCast])
    clear hf
    generalize hg : (fun i => headAt a i && !decide ((a + i) / 16 ∈ On)) = g at HE
    have HG := Lib.hid hg
    clear hg
    go_enter Try.func44, Try.ntmps44
    go_wp2
    go_loopw [7, 8] (fun vn vi wr => ∃ i : Nat, i ≤ n ∧ vi = .int .i64 (i : Int) ∧ vn = .int .i64 ((List.range i).countP g : Nat) ∧ wr.heap[w.heap.size]? = some (.cells #[.slice A B.length c, .slice A' On.length c'] 30 (0, 0)) ∧ Below w.heap.size w wr) (fun _ vi _ => n - (intOf vi).toNat)
    case atStart => exact ⟨0, Nat.zero_le _, rfl, rfl, heap_alloc_new w _, HB0.out⟩
    case round =>
      obtain ⟨i, hi, rfl, rfl, hb, hbr⟩ := hrel
      have c0 : wr.cell? ⟨w.heap.size, 0, none⟩ = _ := cell_at hb 0
      have c1 : wr.cell? ⟨w.heap.size, 1, none⟩ = _ := cell_at hb 1
      have HC := Lib.hid hb
      have HB := Lib.hid hbr
      have hcl : (List.range i).countP g ≤ i := Nat.le_trans List.countP_le_length (by simp)
      have HS := Lib.hid (show (List.range (i + 1)).countP g = (List.range i).countP g + if g i then 1 else 0 by rw [List.range_succ, List.countP_append]; simp [List.countP_cons])
      have HGi := Lib.hid (show g i = (headAt a i && !decide ((a + i) / 16 ∈ On)) by rw [← HG.out])
      clear hb hbr HB0
      generalize hKe : (List.range i).countP g = K at *
      have HKe := Lib.hid hKe
      clear hKe
      by_cases hin : i < n
      · have HON := Lib.hid (on_any (.slice A B.length c) On A' c' ((a + i) / 16) ((H2.out.below HB.out).more HB.out.size) (by omega))
        rw [show (((a + i) / 16 : Nat) : Int) = ((a : Int) + (i : Int)) / 16 by omega] at HON
        by_cases hh : i = 0 ∨ (a + i) % 16 = 0
        · have HH := Lib.hid (show headAt a i = true from decide_eq_true hh)
          cases hd : decide ((a + i) / 16 ∈ On)
          all_goals
            have HGj := Lib.hid (by have := HGi.out; rw [hd, HH.out] at this; exact this)
            rw [hd] at HON
            clear hd
            have hcs : ((i : Int) == 0) = true ∨ ((i : Int) == 0) = false ∧ (((a : Int) + (i : Int)) % 16 == 0) = true := by
              rcases Nat.eq_zero_or_pos i with h | h
              · exact .inl (by rw [beq_iff_eq]; omega)
              · exact .inr ⟨by rw [beq_eq_false_iff_ne]; omega, by rw [beq_iff_eq]; omega⟩
            clear hh
            rcases hcs with t1 | ⟨t1, t2⟩
            all_goals
              go_wp2_with (first
                | (go_at_call 52; (with_reducible refine (HF _).out.mono ?_); rintro e w1 ⟨rfl, rfl⟩)
                | (go_at_call 66; (with_reducible refine HON.out.mono ?_); rintro e w1 ⟨rfl, hb1⟩; replace hb1 := Lib.hid hb1))
              go_roundw
              case rel => exact ⟨i + 1, by omega, by go_num, by rw [HS.out, HGj.out]; first | rfl | go_num, (hb1.out.block _ (Array.getElem?_eq_some_iff.1 HC.out).1).trans HC.out, HB.out.trans (hb1.out.mono HB.out.size)⟩
              case measure => simp [intOf]; omega
        · have HGj := Lib.hid (show g i = false by rw [HGi.out, show headAt a i = false from decide_eq_false hh]; rfl)
          have t1 : ((i : Int) == 0) = false := by rw [beq_eq_false_iff_ne]; omega
          have t2 : (((a : Int) + (i : Int)) % 16 == 0) = false := by rw [beq_eq_false_iff_ne]; omega
          clear hh
          go_wp2_with (go_at_call 52; (with_reducible refine (HF _).out.mono ?_); rintro e w1 ⟨rfl, rfl⟩)
          go_roundw
          case rel => exact ⟨i + 1, by omega, by go_num, by rw [HS.out, HGj.out]; rfl, HC.out, HB.out⟩
          case measure => simp [intOf]; omega
      · obtain rfl : i = n := by omega
        go_wp2
        go_ret
        exact ⟨ret_int (by rw [HE.out, HKe.out]), HB.out⟩

/-- What the reference reads. -/
def rreadL (B : List UInt8) (a n : Int) : List UInt8 := if readOk B.length a n = true then (B.drop a.toNat).take n.toNat else []

set_option maxRecDepth 100000 in
set_option maxHeartbeats 2000000 in
theorem rread_any {w : World} {v : Value} {B : List UInt8} {On : List Nat} (h : RSh w v B On) (a n : Int) :
    Calls Try.prog 18 #[v, .int .i64 a, .int .i64 n] w fun e w' => ∃ A c, e = .returned (.slice A (rreadL B a n).length c) ∧ Rd w' w'.heap.size 1 byteC A (rreadL B a n) ∧ Below w.heap.size w w' := by
  obtain ⟨⟨A, c, A', c', rfl, h1, h2, h3, -⟩, hlb, -, -⟩ := h
  have HB0 := Lib.hid (show Below w.heap.size w (w.alloc (.cells #[.slice A B.length c, .slice A' On.length c'] 30)) from (Below.refl _ _).alloc (Nat.le_refl _) _)
  have H1 := Lib.hid h1
  have hs : B.length = B.length := rfl
  generalize hn : B.length = N at *
  have HN := Lib.hid hn
  clear hn h1 h2 hs
  cases hf : readOk N a n
  · have HE := Lib.hid (show rreadL B a n = [] by unfold rreadL; rw [HN.out, hf]; rfl)
    have t0 := of_decide_eq_false hf
    have t1 : decide (a < 0) = true ∨ decide (a < 0) = false ∧ (decide (n < 0) = true ∨ decide (n < 0) = false ∧ decide ((N : Int) ≤ a) = true) := by
      simp only [decide_eq_true_eq, decide_eq_false_iff_not]; omega
    clear t0 hf
    rcases t1 with t1 | ⟨t1, t2 | ⟨t2, t3⟩⟩
    all_goals
      go_enter Try.func18, Try.ntmps18
      go_wp2
      go_ret
      exact ⟨none, 0, by rw [HE.out]; rfl, by rw [HE.out]; exact Rd.nil _ _ _ _ _, HB0.out⟩
  · have HE := Lib.hid (show rreadL B a n = (B.drop a.toNat).take n.toNat by unfold rreadL; rw [HN.out, if_pos hf])
    obtain ⟨g0, g1, g2⟩ := of_decide_eq_true hf
    obtain ⟨n, rfl⟩ := Int.eq_ofNat_of_zero_le g1
    obtain ⟨a, rfl⟩ := Int.eq_ofNat_of_zero_le g0
    clear hf g0 g1
    rw [Int.toNat_natCast, Int.toNat_natCast] at HE
    have t1 : decide ((a : Int) < 0) = false := by rw [decide_eq_false_iff_not]; omega
    have t2 : decide ((n : Int) < 0) = false := by rw [decide_eq_false_iff_not]; omega
    have t3 : decide (N ≤ a) = false := by rw [decide_eq_false_iff_not]; omega
    obtain ⟨m, hm⟩ : ∃ m, min n (N - a) = m := ⟨_, rfl⟩
    have HL := Lib.hid (show (rreadL B a n).length = m by rw [HE.out, List.length_take, List.length_drop, HN.out, hm])
    obtain ⟨ad, rfl, -⟩ := H1.out.addr (i := a) (by rw [HN.out]; omega)
    have HRd := Lib.hid (show ∀ w', Below w.heap.size w w' → Rd w' w'.heap.size 1 byteC (some (ad.add a)) (rreadL B a n) from fun w' hb => by
      have h5 := ((H1.out.below hb).more hb.size).cut (k := a) (cap := N) (by rw [HN.out]; omega)
      rw [if_neg (by omega)] at h5
      rw [HE.out]
      exact h5.take n)
    have hca : ¬ c = a := by omega
    by_cases hlt : N - a < n
    all_goals
      go_enter Try.func18, Try.ntmps18
      go_wp2
      go_ret
      exact ⟨some (ad.add a), c - a, by rw [HL.out]; exact ret_slice (by omega), HRd.out _ HB0.out, HB0.out⟩
end Go.Proofs.Ytpcjmefchclhhaa

/- The reference's small functions: fits, on, with. -/
import Derived.Test.YtpcjmefchclhhaaShN
import Derived.Test.YtpcjmefchclhhaaOwn
namespace Go.Proofs.Ytpcjmefchclhhaa
open Go.RowKit Go.MapKept

theorem Rd.at1 {α : Type} {w : World} {B : Nat} {f : α → List Value} {a : Addr} {l : List α} {v : Value} (h : Rd w B 1 f (some a) l) {i : Nat} (hi : i < l.length) (hv : (f l[i])[0]? = some v) : w.cell? (a.add i) = some v := by
  have := h.cell hi hv
  rw [add_assoc', Nat.mul_one, Nat.add_zero] at this
  exact this
theorem intT : SlT 28 3 1 8 numC where
  under := Try.underlying28
  info := ⟨.int .i64 0, by kernel_rfl, rfl⟩
  pos := by omega
  len := fun _ => rfl
  one := fun x u hu => by rw [numC, List.mem_singleton] at hu; subst hu; rfl
theorem byteT : SlT 27 5 1 1 byteC where
  under := Try.underlying27
  info := ⟨.int .u8 0, by kernel_rfl, rfl⟩
  pos := by omega
  len := fun _ => rfl
  one := fun x u hu => by rw [byteC, List.mem_singleton] at hu; subst hu; rfl

set_option maxHeartbeats 400000 in
theorem rfits_any (a : Int) (n : Nat) (hn : n ≤ maxLen) (w : World) :
    Calls Try.prog 52 #[.int .i64 a, .int .i64 (n : Int)] w fun e w' => e = .returned (.bool (fitsB a n)) ∧ w = w' := by
  unfold maxLen at hn
  go_enter Try.func52, Try.ntmps52
  go_wp2
  all_goals (go_ret; refine ⟨ret_bool ?_, rfl⟩)
  all_goals
    unfold fitsB
    first
      | (rw [decide_eq_decide]; omega)
      | (rw [eq_comm, decide_eq_false_iff_not]; omega)

set_option maxRecDepth 100000 in
set_option maxHeartbeats 1000000 in
theorem on_any {w : World} (vB : Value) (On : List Nat) (A : Option Addr) (c k : Nat) (hrd : Rd w w.heap.size 1 numC A On) (hl : On.length ≤ 1048576) :
    Calls Try.prog 66 #[.agg #[vB, .slice A On.length c], .int .i64 (k : Int)] w
      fun e w' => e = .returned (.bool (decide (k ∈ On))) ∧ Below w.heap.size w w' := by
  generalize hn : On.length = n at *
  have HN := Lib.hid hn
  have HR := Lib.hid hrd
  clear hn hrd
  go_enter Try.func66, Try.ntmps66
  go_wp2
  go_loopw [5] (fun vi wr => ∃ i : Nat, i ≤ n ∧ vi = .int .i64 (i : Int) ∧ k ∉ On.take i ∧ wr.cell? ⟨w.heap.size, 1, none⟩ = some (.slice A n c) ∧ Below w.heap.size w wr) (fun vi _ => n - (intOf vi).toNat)
  case atStart => exact ⟨0, Nat.zero_le _, rfl, by simp, by rw [cell_at (heap_alloc_new w _)]; rfl, (Below.refl _ _).alloc (Nat.le_refl _) _⟩
  case round =>
    obtain ⟨i, hi, rfl, hni, c1, hbr⟩ := hrel
    have HK := Lib.hid hni
    have HB := Lib.hid hbr
    clear hni hbr
    by_cases hin : i < n
    · have hil : i < On.length := by rw [HN.out]; exact hin
      obtain ⟨ad, rfl, -⟩ := HR.out.addr hil
      have hc : wr.cell? (ad.add i) = some (.int .i64 (On[i] : Int)) := (HR.out.below HB.out).at1 hil rfl
      have HT := Lib.hid (List.take_succ_eq_append_getElem hil)
      have HM := Lib.hid (show On[i] ∈ On from List.getElem_mem hil)
      generalize On[i] = x at *
      by_cases hk : x = k
      · have hk' : ((x : Int) == (k : Int)) = true := by rw [hk]; simp
        have HKx := Lib.hid hk
        clear hk
        go_wp2
        go_ret
        exact ⟨ret_bool (by rw [← HKx.out]; exact (decide_eq_true HM.out).symm), HB.out⟩
      · have hk' : ((x : Int) == (k : Int)) = false := by rw [beq_eq_false_iff_ne]; omega
        have HKx := Lib.hid hk
        clear hk
        go_wp2
        go_roundw
        case rel => exact ⟨i + 1, by omega, by go_num, by rw [HT.out, List.mem_append, List.mem_singleton]; exact fun h => h.elim HK.out (fun h => HKx.out h.symm), c1, HB.out⟩
        case measure => simp [intOf]; omega
    · have HF := Lib.hid (show k ∉ On by have := HK.out; rw [List.take_of_length_le (by rw [HN.out]; omega)] at this; exact this)
      go_wp2
      go_ret
      exact ⟨ret_bool (decide_eq_false HF.out).symm, HB.out⟩

set_option maxRecDepth 100000 in
set_option maxHeartbeats 2000000 in
theorem with_any {w : World} (l : List Nat) (A : Option Addr) (c k : Nat) (hrd : Rd w w.heap.size 1 numC A l) (hl : l.length ≤ 4194304) :
    Calls Try.prog 53 #[.slice A l.length c, .int .i64 (k : Int)] w
      fun e w' => ∃ v, e = .returned v ∧ Own w' w.heap.size 3 1 numC v (insK k l) ∧ Below w.heap.size w w' := by
  have HW := Lib.hid (with_insK k l [])
  generalize hn : l.length = n at *
  have HN := Lib.hid hn
  have HR := Lib.hid hrd
  clear hn hrd
  go_enter Try.func53, Try.ntmps53
  go_wp2
  go_loopw [5, 6, 7] (fun vo vd vi wr => ∃ (i : Nat) (out : List Nat) (d : Bool), i ≤ n ∧ vi = .int .i64 (i : Int) ∧ vd = .bool d ∧ (l.take i).foldl (wst k) ([], false) = (out, d) ∧ out.length ≤ 2 * i ∧ Own wr w.heap.size 3 1 numC vo out ∧ Below w.heap.size w wr) (fun _ _ vi _ => n - (intOf vi).toNat)
  case atStart => exact ⟨0, [], false, Nat.zero_le _, rfl, rfl, rfl, Nat.zero_le _, Own.nil _ _ _ _ _, Below.refl _ _⟩
  case round =>
    obtain ⟨i, out, d, hi, rfl, rfl, hf, hlo, hown, hbr⟩ := hrel
    have HF := Lib.hid hf
    have HO := Lib.hid hown
    have HB := Lib.hid hbr
    clear hf hown hbr
    have hsz := HB.out.size
    by_cases hin : i < n
    · have hil : i < l.length := by rw [HN.out]; exact hin
      obtain ⟨ad, rfl, had⟩ := HR.out.addr hil
      have hc : wr.cell? (ad.add i) = some (.int .i64 (l[i] : Int)) := (HR.out.below HB.out).at1 hil rfl
      have hTk := List.take_succ_eq_append_getElem hil
      generalize l[i] = x at *
      have HT := Lib.hid (show (l.take (i + 1)).foldl (wst k) ([], false) = wst k (out, d) x by rw [hTk, List.foldl_append, HF.out]; rfl)
      clear hTk
      have hcs : d = false ∧ x < k ∨ d = false ∧ x = k ∨ d = false ∧ k < x ∨ d = true ∧ x = k ∨ d = true ∧ x ≠ k := by
        cases d <;> simp <;> omega
      rcases hcs with ⟨rfl, hx⟩ | ⟨rfl, hx⟩ | ⟨rfl, hx⟩ | ⟨rfl, hx⟩ | ⟨rfl, hx⟩
      · have HS := Lib.hid (show wst k (out, false) x = (out ++ [x], false) by unfold wst; rw [if_neg (by omega), if_neg (by omega), decide_eq_false (by omega)]; simp)
        have t1 : decide (k ≤ x) = false := decide_eq_false (by omega)
        have t2 : ((x : Int) != (k : Int)) = true := by rw [bne_iff_ne]; omega
        go_wp2_with (refine wpList_app1 rfl (.tmp 34) (.tmp 39) 28 rfl 3 1 8 numC intT wr w.heap.size _ out x _ _ _ rfl rfl rfl HO.out (by unfold maxLen; omega) (by omega) hsz ?_)
        intro v1 w1 hown1 hgr1
        have HO1 := Lib.hid hown1
        have HB1 := Lib.hid (HO.out.grown HB.out hgr1 (Nat.le_refl _) hsz)
        clear hown1 hgr1
        go_wp2
        go_roundw
        case rel => exact ⟨i + 1, _, false, by omega, by go_num, rfl, HT.out.trans HS.out, by first | (simp; omega) | omega, HO1.out, HB1.out⟩
        case measure => simp [intOf]; omega
      · have HS := Lib.hid (show wst k (out, false) x = (out ++ [k], true) by unfold wst; rw [if_pos (by simp; omega), if_pos hx, decide_eq_true (by omega)]; simp)
        have t1 : decide (k ≤ x) = true := decide_eq_true (by omega)
        have t2 : ((x : Int) != (k : Int)) = false := by rw [bne_eq_false_iff_eq]; omega
        clear hx
        go_wp2_with (refine wpList_app1 rfl (.tmp 24) (.tmp 26) 28 rfl 3 1 8 numC intT wr w.heap.size _ out k _ _ _ rfl rfl rfl HO.out (by unfold maxLen; omega) (by omega) hsz ?_)
        intro v1 w1 hown1 hgr1
        have HO1 := Lib.hid hown1
        have HB1 := Lib.hid (HO.out.grown HB.out hgr1 (Nat.le_refl _) hsz)
        clear hown1 hgr1
        have hc1 : w1.cell? (ad.add i) = some (.int .i64 (x : Int)) := (HB1.out.cell (p := ad.add i) (by rw [add_block]; exact had)).trans ((HB.out.cell (p := ad.add i) (by rw [add_block]; exact had)).symm.trans hc)
        go_wp2
        go_roundw
        case rel => exact ⟨i + 1, _, true, by omega, by go_num, rfl, HT.out.trans HS.out, by first | (simp; omega) | omega, HO1.out, HB1.out⟩
        case measure => simp [intOf]; omega
      · have HS := Lib.hid (show wst k (out, false) x = (out ++ [k] ++ [x], true) by unfold wst; rw [if_pos (by simp; omega), if_neg (by omega), decide_eq_true (by omega)]; simp)
        have t1 : decide (k ≤ x) = true := decide_eq_true (by omega)
        have t2 : ((x : Int) != (k : Int)) = true := by rw [bne_iff_ne]; omega
        go_wp2_with (refine wpList_app1 rfl (.tmp 24) (.tmp 26) 28 rfl 3 1 8 numC intT wr w.heap.size _ out k _ _ _ rfl rfl rfl HO.out (by unfold maxLen; omega) (by omega) hsz ?_)
        intro v1 w1 hown1 hgr1
        have HO1 := Lib.hid hown1
        have HB1 := Lib.hid (HO.out.grown HB.out hgr1 (Nat.le_refl _) hsz)
        clear hown1 hgr1
        have hsz1 := HB1.out.size
        have hc1 : w1.cell? (ad.add i) = some (.int .i64 (x : Int)) := (HB1.out.cell (p := ad.add i) (by rw [add_block]; exact had)).trans ((HB.out.cell (p := ad.add i) (by rw [add_block]; exact had)).symm.trans hc)
        go_wp2_with (refine wpList_app1 rfl (.tmp 34) (.tmp 39) 28 rfl 3 1 8 numC intT w1 w.heap.size _ (out ++ [k]) x _ _ _ rfl rfl rfl HO1.out (by unfold maxLen; rw [List.length_append, List.length_singleton]; omega) (by rw [List.length_append, List.length_singleton]; omega) hsz1 ?_)
        intro v2 w2 hown2 hgr2
        have HO2 := Lib.hid hown2
        have HB2 := Lib.hid (HO1.out.grown HB1.out hgr2 (Nat.le_refl _) hsz1)
        clear hown2 hgr2
        go_wp2
        go_roundw
        case rel => exact ⟨i + 1, _, true, by omega, by go_num, rfl, by simpa using HT.out.trans HS.out, by first | (simp; omega) | omega, HO2.out, HB2.out⟩
        case measure => simp [intOf]; omega
      · have HS := Lib.hid (show wst k (out, true) x = (out, true) by unfold wst; rw [if_neg (by simp), if_pos hx]; simp)
        have t2 : ((x : Int) != (k : Int)) = false := by rw [bne_eq_false_iff_eq]; omega
        clear hx
        go_wp2
        go_roundw
        case rel => exact ⟨i + 1, _, true, by omega, by go_num, rfl, HT.out.trans HS.out, by first | (simp; omega) | omega, HO.out, HB.out⟩
        case measure => simp [intOf]; omega
      · have HS := Lib.hid (show wst k (out, true) x = (out ++ [x], true) by unfold wst; rw [if_neg (by simp), if_neg hx]; simp)
        have t2 : ((x : Int) != (k : Int)) = true := by rw [bne_iff_ne]; omega
        go_wp2_with (refine wpList_app1 rfl (.tmp 34) (.tmp 39) 28 rfl 3 1 8 numC intT wr w.heap.size _ out x _ _ _ rfl rfl rfl HO.out (by unfold maxLen; omega) (by omega) hsz ?_)
        intro v1 w1 hown1 hgr1
        have HO1 := Lib.hid hown1
        have HB1 := Lib.hid (HO.out.grown HB.out hgr1 (Nat.le_refl _) hsz)
        clear hown1 hgr1
        go_wp2
        go_roundw
        case rel => exact ⟨i + 1, _, true, by omega, by go_num, rfl, HT.out.trans HS.out, by first | (simp; omega) | omega, HO1.out, HB1.out⟩
        case measure => simp [intOf]; omega
    · have HF2 := Lib.hid (show l.foldl (wst k) ([], false) = (out, d) by have := HF.out; rw [List.take_of_length_le (by rw [HN.out]; omega)] at this; exact this)
      cases d
      · have HE := Lib.hid (show out ++ [k] = insK k l by have := HW.out; rw [HF2.out] at this; exact this)
        go_wp2_with (refine wpList_app1 rfl (.tmp 43) (.tmp 45) 28 rfl 3 1 8 numC intT wr w.heap.size _ out k _ _ _ rfl rfl rfl HO.out (by unfold maxLen; omega) (by omega) hsz ?_)
        intro v1 w1 hown1 hgr1
        have HO1 := Lib.hid hown1
        have HB1 := Lib.hid (HO.out.grown HB.out hgr1 (Nat.le_refl _) hsz)
        clear hown1 hgr1
        go_wp2
        go_ret
        exact ⟨v1, rfl, by rw [← HE.out]; exact HO1.out, HB1.out⟩
      · have HE := Lib.hid (show out = insK k l by have := HW.out; rw [HF2.out] at this; exact this)
        go_wp2
        go_ret
        exact ⟨_, rfl, by rw [← HE.out]; exact HO.out, HB.out⟩
end Go.Proofs.Ytpcjmefchclhhaa

/- RankBegins: a log's beginning is a log; what two have in common is as much from both sides, and not more than either: for every input the law returns true. No condition. -/
import Derived.Test.YtcdpjabahmfhdaaRkK
import Derived.Test.YtcdpjabahmfhdaaPure
namespace Go.Proofs.Ytcdpjabahmfhdaa
open Go.ChangeShapes Go.WideShapes Go.ChangeAt Go.RowKit

theorem bytes_refl (a : ByteArray) : (a == a) = true := by rw [← toListB]; simp
theorem bytes_symm (a b : ByteArray) : (a == b) = (b == a) := by rw [← toListB, ← toListB, Bool.eq_iff_iff, beq_iff_eq, beq_iff_eq]; exact eq_comm
theorem entEq_refl (x : Ent) : entEq x x = true := by simp [entEq, bytes_refl]
theorem int_symm (a b : Int) : (a == b) = (b == a) := by rw [Bool.eq_iff_iff, beq_iff_eq, beq_iff_eq]; exact eq_comm
theorem entEq_symm (x y : Ent) : entEq x y = entEq y x := by unfold entEq; rw [bytes_symm, int_symm x.v, int_symm x.n]
theorem common_symm : ∀ l m : List Ent, commonN l m = commonN m l
  | [], [] => rfl
  | [], _ :: _ => rfl
  | _ :: _, [] => rfl
  | x :: l, y :: m => by simp only [commonN]; rw [entEq_symm, common_symm l m]
theorem common_le : ∀ l m : List Ent, commonN l m ≤ l.length
  | [], _ => by simp [commonN]
  | _ :: _, [] => by simp [commonN]
  | x :: l, y :: m => by
    simp only [commonN]
    split
    · have := common_le l m; simp; omega
    · simp
theorem common_self : ∀ l : List Ent, commonN l l = l.length
  | [] => rfl
  | x :: l => by simp [commonN, entEq_refl, common_self l]
theorem common_take : ∀ (l : List Ent) (n : Nat), n ≤ l.length → commonN (l.take n) l = n
  | _, 0, _ => by simp [commonN]
  | [], n + 1, h => by simp at h
  | x :: l, n + 1, h => by simp only [List.take_succ_cons, commonN, entEq_refl, if_true]; rw [common_take l n (by simpa using h)]
theorem rightFrom_take : ∀ (l : List Ent) (v : Int) (i n : Nat), rightFrom v i l = true → rightFrom v i (l.take n) = true
  | _, _, _, 0, _ => by simp [rightFrom]
  | [], _, _, n + 1, _ => by simp [rightFrom]
  | x :: l, v, i, n + 1, h => by
    simp only [rightFrom, Bool.and_eq_true, List.take_succ_cons] at h ⊢
    exact ⟨h.1, rightFrom_take l x.v (i + 1) n h.2⟩
theorem right_take (l : List Ent) (n : Nat) (h : rightB l = true) : rightB (l.take n) = true := by
  unfold rightB at *
  simp only [Bool.and_eq_true, decide_eq_true_eq, List.length_take] at h ⊢
  exact ⟨rightFrom_take l 1 0 n h.1, by omega⟩

set_option maxHeartbeats 1000000 in
theorem rankBegins_walk (l m : List Ent) (A B : Option Addr) (c d : Nat) (v : Int) (w : World) (hm : l.length ≤ maxLen) (hm' : m.length ≤ maxLen) (hc : l.length ≤ c) (hl : Rd w w.heap.size 3 entC A l) (hl' : Rd w w.heap.size 3 entC B m) :
    Calls Try.prog 8 #[.slice A l.length c, .slice B m.length d, .int .i64 v] w fun e w' => e = .returned (.bool true) ∧ Below w.heap.size w w' := by
  have HM := Lib.hid hm
  unfold maxLen at hm
  have H1 := Lib.hid (ever_below (w0 := w) fun w1 _ => alive_any w1)
  have H2 := Lib.hid (ever_below (w0 := w) fun w1 hb => right_any l A c w1 HM.out ((hl.below hb).more hb.size))
  have H4 := Lib.hid (ever_drew (w0 := w) fun w1 hb => common_any l m A B c d w1 HM.out hm' ((hl.below hb).more hb.size) ((hl'.below hb).more hb.size))
  have H5 := Lib.hid (ever_drew (w0 := w) fun w1 hb => common_any m l B A d c w1 hm' HM.out ((hl'.below hb).more hb.size) ((hl.below hb).more hb.size))
  have H6 := Lib.hid (ever_drew (w0 := w) fun w1 hb => common_any l l A A c c w1 HM.out HM.out ((hl.below hb).more hb.size) ((hl.below hb).more hb.size))
  rw [common_symm m l] at H5
  rw [common_self] at H6
  have hle1 : commonN l m ≤ l.length := common_le l m
  have hle2 : commonN l m ≤ m.length := by rw [common_symm]; exact common_le m l
  have hb := Below.refl w.heap.size w
  have hmin : ¬ ((if m.length < l.length then (m.length : Int) else (l.length : Int)) < (commonN l m : Int)) := by split <;> omega
  clear hl' hm'
  by_cases hv0 : v < 0
  · clear hl
    go_enter Try.func8, Try.ntmps8
    go_wp2_with (first
      | (go_at_call 13; (with_reducible refine (Ever.at_ H1 _ (by assumption)).mono ?_); rintro e w1 ⟨rfl, hb1⟩)
      | (go_at_call 21; (with_reducible refine (Ever.at_ H2 _ (by assumption)).mono ?_); rintro e w1 ⟨rfl, hb1⟩)
      | (go_at_call 20; (with_reducible refine (Ever.at_ H4 _ (by assumption)).mono ?_); rintro e w1 ⟨rfl, hb1⟩)
      | (go_at_call 20; (with_reducible refine (Ever.at_ H5 _ (by assumption)).mono ?_); rintro e w1 ⟨rfl, hb1⟩)
      | (go_at_call 20; (with_reducible refine (Ever.at_ H6 _ (by assumption)).mono ?_); rintro e w1 ⟨rfl, hb1⟩))
    go_ret
    exact ⟨rfl, by assumption⟩
  · by_cases hv1 : (l.length : Int) < v
    · clear hl
      go_enter Try.func8, Try.ntmps8
      go_wp2_with (first
        | (go_at_call 13; (with_reducible refine (Ever.at_ H1 _ (by assumption)).mono ?_); rintro e w1 ⟨rfl, hb1⟩)
        | (go_at_call 21; (with_reducible refine (Ever.at_ H2 _ (by assumption)).mono ?_); rintro e w1 ⟨rfl, hb1⟩)
        | (go_at_call 20; (with_reducible refine (Ever.at_ H4 _ (by assumption)).mono ?_); rintro e w1 ⟨rfl, hb1⟩)
        | (go_at_call 20; (with_reducible refine (Ever.at_ H5 _ (by assumption)).mono ?_); rintro e w1 ⟨rfl, hb1⟩)
        | (go_at_call 20; (with_reducible refine (Ever.at_ H6 _ (by assumption)).mono ?_); rintro e w1 ⟨rfl, hb1⟩))
      go_ret
      exact ⟨rfl, by assumption⟩
    · cases hr : rightB l
      · rw [hr] at H2
        clear hl
        go_enter Try.func8, Try.ntmps8
        go_wp2_with (first
          | (go_at_call 13; (with_reducible refine (Ever.at_ H1 _ (by assumption)).mono ?_); rintro e w1 ⟨rfl, hb1⟩)
          | (go_at_call 21; (with_reducible refine (Ever.at_ H2 _ (by assumption)).mono ?_); rintro e w1 ⟨rfl, hb1⟩)
          | (go_at_call 20; (with_reducible refine (Ever.at_ H4 _ (by assumption)).mono ?_); rintro e w1 ⟨rfl, hb1⟩)
          | (go_at_call 20; (with_reducible refine (Ever.at_ H5 _ (by assumption)).mono ?_); rintro e w1 ⟨rfl, hb1⟩)
          | (go_at_call 20; (with_reducible refine (Ever.at_ H6 _ (by assumption)).mono ?_); rintro e w1 ⟨rfl, hb1⟩))
        go_ret
        exact ⟨rfl, by assumption⟩
      · obtain ⟨n, rfl⟩ := Int.eq_ofNat_of_zero_le (by omega : 0 ≤ v)
        have hnl : n ≤ l.length := by omega
        have hln : (l.take n).length = n := by rw [List.length_take]; omega
        have H7 := Lib.hid (ever_below (w0 := w) fun w1 hb => right_any (l.take n) A c w1 (by rw [hln]; exact Nat.le_trans hnl HM.out) (((hl.take n).below hb).more hb.size))
        have H8 := Lib.hid (ever_drew (w0 := w) fun w1 hb => common_any (l.take n) l A A c c w1 (by rw [hln]; exact Nat.le_trans hnl HM.out) HM.out (((hl.take n).below hb).more hb.size) ((hl.below hb).more hb.size))
        rw [hln, right_take l n hr] at H7
        rw [hln, common_take l n hnl] at H8
        rw [hr] at H2
        clear hl hln hr
        go_enter Try.func8, Try.ntmps8
        go_wp2_with (first
          | (go_at_call 13; (with_reducible refine (Ever.at_ H1 _ (by assumption)).mono ?_); rintro e w1 ⟨rfl, hb1⟩)
          | (go_at_call 21; (with_reducible refine (Ever.at_ H2 _ (by assumption)).mono ?_); rintro e w1 ⟨rfl, hb1⟩)
          | (go_at_call 20; (with_reducible refine (Ever.at_ H4 _ (by assumption)).mono ?_); rintro e w1 ⟨rfl, hb1⟩)
          | (go_at_call 20; (with_reducible refine (Ever.at_ H5 _ (by assumption)).mono ?_); rintro e w1 ⟨rfl, hb1⟩)
          | (go_at_call 20; (with_reducible refine (Ever.at_ H6 _ (by assumption)).mono ?_); rintro e w1 ⟨rfl, hb1⟩)
          | (go_at_call 21; (with_reducible refine (Ever.at_ H7 _ (by assumption)).mono ?_); rintro e w1 ⟨rfl, hb1⟩)
          | (go_at_call 20; (with_reducible refine (Ever.at_ H8 _ (by assumption)).mono ?_); rintro e w1 ⟨rfl, hb1⟩))
        go_ret
        exact ⟨rfl, by assumption⟩

theorem rankBegins_given (W : World) (args : Array Value) (h : Given W Try.f8 args) :
    Calls Try.prog 8 args W fun e W' => e = .returned (.bool true) ∧ Below W.heap.size W W' := by
  obtain ⟨⟨H, enc, ds, p, hA, hwt⟩, base, hval⟩ := h
  rw [Try.params8] at hA hval hwt
  obtain ⟨v0, vs0, d0, ds0, p0, q0, hargs, rfl, rfl, h0, r0⟩ := trodAll_cons hA
  obtain ⟨v1, vs1, d1, ds1, p1, q1, rfl, rfl, rfl, h1, r1⟩ := trodAll_cons r0
  obtain ⟨v2, vs2, d2, ds2, p2, q2, rfl, rfl, rfl, h2, r2⟩ := trodAll_cons r1
  obtain ⟨rfl, rfl, rfl⟩ := trodAll_nil r2
  obtain rfl : args = #[v0, v1, v2] := by cases args; simp_all
  simp only [DataW.weightsEach, List.all_append, Bool.and_eq_true] at hwt
  obtain ⟨g0, g1, g2, _⟩ := hwt
  obtain ⟨⟨A0, c0, l0⟩, rfl, hm0, hn0, hz0, rd0, hq0⟩ := opens_ents W H enc base v0 d0 p0 (hval 0 _ v0 rfl rfl) h0 g0
  obtain ⟨⟨A1, c1, l1⟩, rfl, hm1, hn1, hz1, rd1, hq1⟩ := opens_ents W H enc base v1 d1 p1 (hval 1 _ v1 rfl rfl) h1 g1
  obtain ⟨a2, rfl, hw_a2⟩ := opens_int W H enc base v2 d2 p2 (hval 2 _ v2 rfl rfl) h2 g2
  exact rankBegins_walk l0 l1 A0 A1 c0 c1 a2 W hm0 hm1 hn0 rd0 rd1

theorem rankBegins_lifted (os : Os) (started : os.Started) (H : Type) (enc : TypeId × Value → H) :
    ReturnsInHanded {} Try.checked os 8 .any (Rows.rankBeginsSpec.pre6 enc Try.prog Try.f8 Rows.rankBeginsRow.domain false) (Rows.rankBeginsSpec.post enc Try.prog Try.f8 false true false false) :=
  law_lifted (s := Rows.rankBeginsSpec) os started H enc (by kernel_rfl) Try.func8 rfl (by kernel_rfl)
    (by rw [Try.params8]; intro t ht; simp at ht; rcases ht with rfl | rfl | rfl <;> exact ⟨by kernel_rfl, of_decide_eq_true (by kernel_rfl)⟩)
    (by rw [Try.params8]; intro ds hd; match ds, hd with | [x0, x1, x2], _ => exact ⟨rfl, rfl, rfl⟩)
    (ChangeSpec.witness6 (enc := enc) (C := Try.checked) false ⟨#[], #[.slice none 0 0, .slice none 0 0, .int .i64 0], []⟩ 8 (by kernel_rfl) (by kernel_rfl) (by kernel_rfl) (by kernel_rfl))
    rankBegins_given

theorem rankBegins_holds : Rows.RankBeginsSaid :=
  OpenClaim.holds_of_wide 8 Try.f8 rfl rfl rfl rfl rfl rfl rfl ⟨rfl, rfl, rfl, rfl, rfl⟩ rfl rfl rfl rfl rfl (by kernel_rfl) Try.func8 (by kernel_rfl)
    (of_decide_eq_true (by kernel_rfl)) (by unfold Func.isWrapper; first | (rw [if_pos (by decide +kernel)]; kernel_rfl) | (rw [if_neg (by decide +kernel)]; exact ⟨rfl, rfl⟩))
    (fun os started H enc _ => rankBegins_lifted os started H enc)
#print axioms rankBegins_holds
end Go.Proofs.Ytcdpjabahmfhdaa

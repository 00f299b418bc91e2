/- RankLogs: whether entries are a log, how far it goes, and how much two have in common, is told as the document says: for every input the law returns true. No condition. -/
import Derived.Test.YtcdpjabahmfhdaaRkK
import Derived.Test.YtcdpjabahmfhdaaPure
namespace Go.Proofs.Ytcdpjabahmfhdaa
open Go.ChangeShapes Go.WideShapes Go.ChangeAt Go.RowKit

set_option maxHeartbeats 400000 in
theorem markOf_any (v : Int) (A : Option Addr) (n c : Nat) (w : World) :
    Calls Try.prog 24 #[.int .i64 v, .slice A n c] w fun e w' => e = .returned (.agg #[.int .i64 v, .int .i64 n]) ∧ Below w.heap.size w w' := by
  go_enter Try.func24, Try.ntmps24
  go_wp2
  exact bodyPost_ret (v := .agg #[.int .i64 v, .int .i64 n]) (by simp [results, Try.results24, go_sem]) rfl ⟨rfl, (Below.refl _ _).alloc (Nat.le_refl _) _⟩

theorem mark_eq (a b c d : Int) (w : World) : (binOp .eql 41 (.agg #[.int .i64 a, .int .i64 b]) (.agg #[.int .i64 c, .int .i64 d])).run Try.prog w = .ok (.bool (a == c && b == d)) w := by
  rw [run_eql_fields w (L := [("View", 3, 0), ("Number", 3, 1)]) (by kernel_rfl) (by kernel_rfl) (by kernel_rfl)]
  have hi : Try.prog.underlying 3 = some (.int .i64) := Try.underlying3
  simp only [eqF, part, isAgg]
  by_cases h0 : a = c <;> by_cases h1 : b = d <;> simp [run_underlying hi, run_equalIn_int w 9998 _ _ _ _ _ hi, h0, h1]

set_option maxHeartbeats 1000000 in
theorem rankLogs_walk (l m : List Ent) (A B : Option Addr) (c d : Nat) (v : Int) (w : World) (hm : l.length ≤ maxLen) (hm' : m.length ≤ maxLen) (hl : Rd w w.heap.size 3 entC A l) (hl' : Rd w w.heap.size 3 entC B m) :
    Calls Try.prog 9 #[.slice A l.length c, .slice B m.length d, .int .i64 v] w fun e w' => e = .returned (.bool true) ∧ Below w.heap.size w w' := by
  have H1 := Lib.hid (ever_below (w0 := w) fun w1 _ => alive_any w1)
  have H2 := Lib.hid (ever_below (w0 := w) fun w1 hb => right_any l A c w1 hm ((hl.below hb).more hb.size))
  have H3 := Lib.hid (ever_drew (w0 := w) fun w1 hb => refRight_any l A c w1 hm ((hl.below hb).more hb.size))
  have H4 := Lib.hid (ever_drew (w0 := w) fun w1 hb => common_any l m A B c d w1 hm hm' ((hl.below hb).more hb.size) ((hl'.below hb).more hb.size))
  have H5 := Lib.hid (ever_drew (w0 := w) fun w1 hb => refCommon_any l m A B c d w1 hm ((hl.below hb).more hb.size) ((hl'.below hb).more hb.size))
  have H6 := Lib.hid (ever_below (w0 := w) fun w1 _ => markOf_any v A l.length c w1)
  have hb := Below.refl w.heap.size w
  have heq := fun wx => mark_eq v l.length v l.length wx
  simp only [beq_self_eq_true, Bool.and_self] at heq
  clear hm hm' hl hl'
  go_enter Try.func9, Try.ntmps9
  go_wp2_with (first
    | (go_at_call 13; refine (Ever.at_ H1 _ (by assumption)).mono ?_; rintro e w1 ⟨rfl, hb1⟩)
    | (go_at_call 21; refine (Ever.at_ H2 _ (by assumption)).mono ?_; rintro e w1 ⟨rfl, hb1⟩)
    | (go_at_call 22; refine (Ever.at_ H3 _ (by assumption)).mono ?_; rintro e w1 ⟨rfl, hb1⟩)
    | (go_at_call 20; refine (Ever.at_ H4 _ (by assumption)).mono ?_; rintro e w1 ⟨rfl, hb1⟩)
    | (go_at_call 23; refine (Ever.at_ H5 _ (by assumption)).mono ?_; rintro e w1 ⟨rfl, hb1⟩)
    | (go_at_call 24; refine (Ever.at_ H6 _ (by assumption)).mono ?_; rintro e w1 ⟨rfl, hb1⟩))
  go_ret
  exact ⟨rfl, by assumption⟩

theorem rankLogs_given (W : World) (args : Array Value) (h : Given W Try.f9 args) :
    Calls Try.prog 9 args W fun e W' => e = .returned (.bool true) ∧ Below W.heap.size W W' := by
  obtain ⟨⟨H, enc, ds, p, hA, hwt⟩, base, hval⟩ := h
  rw [Try.params9] at hA hval hwt
  obtain ⟨v0, vs0, d0, ds0, p0, q0, hargs, rfl, rfl, h0, r0⟩ := trodAll_cons hA
  obtain ⟨v1, vs1, d1, ds1, p1, q1, rfl, rfl, rfl, h1, r1⟩ := trodAll_cons r0
  obtain ⟨v2, vs2, d2, ds2, p2, q2, rfl, rfl, rfl, h2, r2⟩ := trodAll_cons r1
  obtain ⟨rfl, rfl, rfl⟩ := trodAll_nil r2
  obtain rfl : args = #[v0, v1, v2] := by cases args; simp_all
  simp only [DataW.weightsEach, List.all_append, Bool.and_eq_true] at hwt
  obtain ⟨g0, g1, g2, _⟩ := hwt
  obtain ⟨⟨A0, c0, l0⟩, rfl, hm0, hn0, hz0, rd0, hq0⟩ := opens_ents W H enc base v0 d0 p0 (hval 0 _ v0 rfl rfl) h0 g0
  obtain ⟨⟨A1, c1, l1⟩, rfl, hm1, hn1, hz1, rd1, hq1⟩ := opens_ents W H enc base v1 d1 p1 (hval 1 _ v1 rfl rfl) h1 g1
  obtain ⟨a2, rfl, hw_a2⟩ := opens_int W H enc base v2 d2 p2 (hval 2 _ v2 rfl rfl) h2 g2
  exact rankLogs_walk l0 l1 A0 A1 c0 c1 a2 W hm0 hm1 rd0 rd1

theorem rankLogs_lifted (os : Os) (started : os.Started) (H : Type) (enc : TypeId × Value → H) :
    ReturnsInHanded {} Try.checked os 9 .any (Rows.rankLogsSpec.pre6 enc Try.prog Try.f9 Rows.rankLogsRow.domain false) (Rows.rankLogsSpec.post enc Try.prog Try.f9 false true false false) :=
  law_lifted (s := Rows.rankLogsSpec) os started H enc (by kernel_rfl) Try.func9 rfl (by kernel_rfl)
    (by rw [Try.params9]; intro t ht; simp at ht; rcases ht with rfl | rfl | rfl <;> exact ⟨by kernel_rfl, of_decide_eq_true (by kernel_rfl)⟩)
    (by rw [Try.params9]; intro ds hd; match ds, hd with | [x0, x1, x2], _ => exact ⟨rfl, rfl, rfl⟩)
    (ChangeSpec.witness6 (enc := enc) (C := Try.checked) false ⟨#[], #[.slice none 0 0, .slice none 0 0, .int .i64 0], []⟩ 8 (by kernel_rfl) (by kernel_rfl) (by kernel_rfl) (by kernel_rfl))
    rankLogs_given

theorem rankLogs_holds : Rows.RankLogsSaid :=
  OpenClaim.holds_of_wide 9 Try.f9 rfl rfl rfl rfl rfl rfl rfl ⟨rfl, rfl, rfl, rfl, rfl⟩ rfl rfl rfl rfl rfl (by kernel_rfl) Try.func9 (by kernel_rfl)
    (of_decide_eq_true (by kernel_rfl)) (by unfold Func.isWrapper; first | (rw [if_pos (by decide +kernel)]; kernel_rfl) | (rw [if_neg (by decide +kernel)]; exact ⟨rfl, rfl⟩))
    (fun os started H enc _ => rankLogs_lifted os started H enc)
#print axioms rankLogs_holds
end Go.Proofs.Ytcdpjabahmfhdaa

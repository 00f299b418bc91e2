/- The laws' few. -/
import Derived.Test.YtpcjmefchclhhaaShJ
import Derived.Test.YtpcjmefchclhhaaShL
namespace Go.Proofs.Ytpcjmefchclhhaa
open Go.RowKit Go.MapKept

def fewO (o : OpR) : Bool := !decide (3000 < o.bytes.length ∨ (20000 < o.at_ ∧ o.at_ < 1048576) ∨ (20000 < o.n ∧ o.n ≤ 1048576))
def fewB (l : List (OpR × Option Addr × Nat)) : Bool := decide (l.length ≤ 60) && l.all fun x => fewO x.1
theorem fewB_take {l : List (OpR × Option Addr × Nat)} {i : Nat} (hi : i < l.length) (h : (l.take i).all (fun x => fewO x.1) = true) (hx : fewO l[i].1 = true) : (l.take (i + 1)).all (fun x => fewO x.1) = true := by
  rw [List.take_succ_eq_append_getElem hi, List.all_append, h]
  simpa using hx
theorem fewB_no {l : List (OpR × Option Addr × Nat)} {i : Nat} (hi : i < l.length) (hx : fewO l[i].1 = false) : l.all (fun x => fewO x.1) = false := by
  rw [List.all_eq_false]
  exact ⟨l[i], List.getElem_mem hi, by rw [hx]; simp⟩

set_option maxRecDepth 100000 in
set_option maxHeartbeats 4000000 in
theorem few_any (l : List (OpR × Option Addr × Nat)) (A0 : Option Addr) (c0 : Nat) (W : World) (hm0 : l.length ≤ maxLen) (rd0 : Rd W W.heap.size 4 opC A0 l) (hq : ∀ y ∈ l, y.1.bytes.length ≤ maxLen) :
    Calls Try.prog 14 #[.slice A0 l.length c0] W fun e W' => e = .returned (.bool (fewB l)) ∧ Below W.heap.size W W' := by
  have HD0 := Lib.hid rd0
  have HQ := Lib.hid hq
  clear rd0 hq
  unfold maxLen at hm0
  generalize hn : l.length = n at *
  have HNl := Lib.hid hn
  clear hn
  by_cases h1 : n ≤ 60
  · have HE0 := Lib.hid (show fewB l = l.all fun x => fewO x.1 by unfold fewB; rw [HNl.out, decide_eq_true h1]; rfl)
    go_enter Try.func14, Try.ntmps14
    go_wp2
    go_loopw [10] (fun vi wr => ∃ i : Nat, i ≤ n ∧ vi = .int .i64 (i : Int) ∧ (l.take i).all (fun x => fewO x.1) = true ∧ Below W.heap.size W wr) (fun vi _ => n - (intOf vi).toNat)
    case atStart => exact ⟨0, Nat.zero_le _, rfl, rfl, Below.refl _ _⟩
    case round =>
      obtain ⟨i, hi, rfl, hall, hBr⟩ := hrel
      have HAll := Lib.hid hall
      have HBr := Lib.hid hBr
      clear hall hBr
      by_cases hin : i < n
      · have hil : i < l.length := by rw [HNl.out]; exact hin
        have hd := HD0.out.below HBr.out
        obtain ⟨ad, had, hadb⟩ := hd.addr hil
        subst had
        have d0 : wr.cell? (ad.add (i * 4)) = _ := hd.cell hil (j := 0) rfl
        have d1 : wr.cell? ⟨(ad.add (i * 4)).block, (ad.add (i * 4)).off + 1, none⟩ = _ := hd.cell hil (j := 1) rfl
        have d2 : wr.cell? ⟨(ad.add (i * 4)).block, (ad.add (i * 4)).off + 2, none⟩ = _ := hd.cell hil (j := 2) rfl
        have d3 : wr.cell? ⟨(ad.add (i * 4)).block, (ad.add (i * 4)).off + 3, none⟩ = _ := hd.cell hil (j := 3) rfl
        have q1 := HQ.out _ (List.getElem_mem hil)
        have HT := Lib.hid (fewB_take hil HAll.out)
        have HF := Lib.hid (fewB_no hil)
        generalize l[i] = x at *
        obtain ⟨⟨K, at_, nn, bs⟩, A, c⟩ := x
        dsimp only at d0 d1 d2 d3 q1
        unfold maxLen at q1
        have HBa := Lib.hid (show Below W.heap.size W (wr.alloc (.cells #[.int .i64 K, .int .i64 at_, .int .i64 nn, .slice A bs.length c] 39)) from HBr.out.alloc HBr.out.size _)
        clear hd hil
        go_wp2
        all_goals first
          | (have HX := Lib.hid (show fewO ⟨K, at_, nn, bs⟩ = true by unfold fewO; rw [Bool.not_eq_true', decide_eq_false_iff_not]; dsimp only; omega)
             go_roundw
             case rel => exact ⟨i + 1, by omega, by go_num, HT.out HX.out, HBa.out⟩
             case measure => simp [intOf]; omega)
          | (have HX := Lib.hid (show fewO ⟨K, at_, nn, bs⟩ = false by unfold fewO; rw [Bool.not_eq_false', decide_eq_true_eq]; dsimp only; omega)
             go_ret
             exact ⟨ret_bool (by rw [HE0.out, HF.out HX.out]), HBa.out⟩)
      · have HEn := Lib.hid (show fewB l = true by rw [HE0.out]; have := HAll.out; rw [List.take_of_length_le (by rw [HNl.out]; omega)] at this; exact this)
        go_wp2
        go_ret
        exact ⟨ret_bool (by rw [HEn.out]), HBr.out⟩
  · have HE0 := Lib.hid (show fewB l = false by unfold fewB; rw [HNl.out, decide_eq_false h1]; rfl)
    go_enter Try.func14, Try.ntmps14
    go_wp2
    go_ret
    exact ⟨ret_bool (by rw [HE0.out]), Below.refl _ _⟩
end Go.Proofs.Ytpcjmefchclhhaa

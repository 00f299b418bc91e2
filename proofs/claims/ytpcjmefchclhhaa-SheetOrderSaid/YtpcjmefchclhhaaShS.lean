/- Runs, the program's and the reference's. -/
import Derived.Test.YtpcjmefchclhhaaShO
import Derived.Test.YtpcjmefchclhhaaReg
import Derived.Deep.RegionLaw
import Derived.StillTailTactics
namespace Go.Proofs.Ytpcjmefchclhhaa
open Go.RowKit Go.MapKept

def pairC (p : Nat × Nat) : List Value := [.int .i64 (p.1 : Int), .int .i64 (p.2 : Int)]
theorem pairT : SlT 99 46 2 16 pairC where
  under := Try.underlying99
  info := ⟨.agg #[.int .i64 0, .int .i64 0], by kernel_rfl, rfl⟩
  pos := by omega
  len := fun _ => rfl
  one := fun x u hu => by simp [pairC] at hu; rcases hu with rfl | rfl <;> rfl

/-- One number more in the runs. -/
def runStep (out : List (Nat × Nat)) (x : Nat) : List (Nat × Nat) := match out.getLast? with
  | some p => if p.2 + 1 = x then out.dropLast ++ [(p.1, x)] else out ++ [(x, x)]
  | none => [(x, x)]
def runsL (l : List Nat) : List (Nat × Nat) := l.foldl runStep []
theorem runs_last (l : List Nat) (x : Nat) : ∃ a, (runsL (l ++ [x])).getLast? = some (a, x) := by
  unfold runsL
  rw [List.foldl_append]
  show ∃ a, (runStep (l.foldl runStep []) x).getLast? = _
  unfold runStep
  split
  · split
    · exact ⟨_, List.getLast?_concat⟩
    · exact ⟨_, List.getLast?_concat⟩
  · exact ⟨_, rfl⟩
theorem len_runStep (out : List (Nat × Nat)) (x : Nat) : (runStep out x).length ≤ out.length + 1 := by
  unfold runStep
  split
  · split
    · simp only [List.length_append, List.length_dropLast, List.length_singleton]; omega
    · simp
  · simp
theorem len_runs : ∀ (l : List Nat) (out : List (Nat × Nat)), (l.foldl runStep out).length ≤ out.length + l.length
  | [], _ => Nat.le_refl _
  | x :: l, out => by
    rw [List.foldl_cons]
    have := len_runs l (runStep out x)
    have := len_runStep out x
    simp only [List.length_cons]
    omega
/-- The last element's second part is set. -/
theorem dropLast_set {out : List (Nat × Nat)} {p : Nat × Nat} (h : out.getLast? = some p) (x : Nat) : out.dropLast ++ [(p.1, x)] = out.set (out.length - 1) (p.1, x) := by
  have hne : out ≠ [] := by rintro rfl; simp at h
  have h1 : out = out.dropLast ++ [p] := by
    rw [List.getLast?_eq_some_getLast hne] at h
    injection h with h
    rw [← h]
    exact (List.dropLast_concat_getLast hne).symm
  generalize out.dropLast = m at *
  subst h1
  simp
theorem runStep_ext {out : List (Nat × Nat)} {a y x : Nat} (h : out.getLast? = some (a, y)) (hx : y + 1 = x) : runStep out x = out.set (out.length - 1) (a, x) := by
  unfold runStep
  rw [h]
  simp only
  rw [if_pos hx, ← dropLast_set h]
theorem runStep_new {out : List (Nat × Nat)} {a y x : Nat} (h : out.getLast? = some (a, y)) (hx : ¬ y + 1 = x) : runStep out x = out ++ [(x, x)] := by
  unfold runStep
  rw [h]
  simp only
  rw [if_neg hx]
theorem runsL_succ {l : List Nat} {i : Nat} (h : i < l.length) : runsL (l.take (i + 1)) = runStep (runsL (l.take i)) l[i] := by
  unfold runsL
  rw [List.take_succ_eq_append_getElem h, List.foldl_append]
  rfl
theorem runs_at {l : List Nat} {i : Nat} (h : i < l.length) (h0 : 0 < i) : ∃ a, (runsL (l.take i)).getLast? = some (a, l[i - 1]'(by omega)) := by
  obtain ⟨j, rfl⟩ : ∃ j, i = j + 1 := ⟨i - 1, by omega⟩
  rw [List.take_succ_eq_append_getElem (by omega)]
  exact runs_last _ _

set_option maxRecDepth 100000 in
set_option maxHeartbeats 4000000 in
theorem rruns_any {w : World} {v : Value} {B : List UInt8} {On : List Nat} (h : RSh w v B On) :
    Calls Try.prog 51 #[v] w fun e w' => ∃ u, e = .returned u ∧ Own w' w.heap.size 46 2 pairC u (runsL On) ∧ Below w.heap.size w w' := by
  obtain ⟨⟨A, c, A', c', rfl, h1, h2, -⟩, hlb, hlo, hsm⟩ := h
  obtain ⟨w1, hw1⟩ : ∃ w1, w.alloc (.cells #[.slice A B.length c, .slice A' On.length c'] 30) = w1 := ⟨_, rfl⟩
  have HW1 := Lib.hid hw1
  have HS1 := Lib.hid (show w1.heap.size = w.heap.size + 1 by rw [← hw1]; simp)
  have HX1 := Lib.hid (show w1.heap[w.heap.size]? = some (.cells #[.slice A B.length c, .slice A' On.length c'] 30 (0, 0)) by rw [← hw1]; exact heap_alloc_new _ _)
  have HB1 := Lib.hid (show Below w.heap.size w w1 by rw [← hw1]; exact (Below.refl _ _).alloc (Nat.le_refl _) _)
  have H2 := Lib.hid (h2.below HB1.out)
  have HSm := Lib.hid hsm
  clear hw1 h1 h2 hsm
  go_enter Try.func51, Try.ntmps51
  go_wp2
  rw [HW1.out]
  go_loopw [3, 4] (fun vo vi wr => ∃ i : Nat, i ≤ On.length ∧ vi = .int .i64 (i : Int) ∧ Own wr (w.heap.size + 1) 46 2 pairC vo (runsL (On.take i)) ∧ Below (w.heap.size + 1) w1 wr) (fun _ vi _ => On.length - (intOf vi).toNat)
  case atStart => exact ⟨0, Nat.zero_le _, rfl, Own.nil _ _ _ _ _, Below.refl _ _⟩
  case round =>
    obtain ⟨i, hi, rfl, hown, hbr⟩ := hrel
    have hsz : w.heap.size + 1 ≤ wr.heap.size := by have := hbr.size; have := HS1.out; omega
    have hxb := (hbr.block w.heap.size (by omega)).trans HX1.out
    have c1 : wr.cell? ⟨w.heap.size, 1, none⟩ = _ := cell_at hxb 1
    have HO := Lib.hid hown
    have HB := Lib.hid hbr
    have HXb := Lib.hid hxb
    have hlen := len_runs (On.take i) []
    change (runsL (On.take i)).length ≤ 0 + (On.take i).length at hlen
    rw [List.length_take] at hlen
    have hlen : (runsL (On.take i)).length ≤ i := by omega
    clear hown hbr hxb
    obtain ⟨Ao, co, rfl, -⟩ := HO.out.val
    by_cases hin : i < On.length
    · have hbd : ∀ k, k < On.length → wr.cell? ⟨w.heap.size, 1, none⟩ = wr.cell? ⟨w.heap.size, 1, none⟩ := fun _ _ => rfl
      clear hbd
      obtain ⟨ad, hA', had⟩ := H2.out.addr hin
      subst hA'
      have hc : wr.cell? (ad.add i) = some (.int .i64 (On[i] : Int)) := (H2.out.below (HB.out.mono (by omega))).at1 hin rfl
      have hxs := HSm.out _ (List.getElem_mem hin)
      have HR := Lib.hid (runsL_succ hin)
      rcases Nat.eq_zero_or_pos i with h0 | h0
      · have t0 : decide (0 < i) = false := decide_eq_false (by omega)
        have HE := Lib.hid (show runsL (On.take (i + 1)) = runsL (On.take i) ++ [(On[i], On[i])] by rw [HR.out]; subst h0; rfl)
        generalize On[i] = x at *
        generalize runsL (On.take i) = out at *
        clear h0 HR
        go_wp2
        go_quiet (fail)
        go_wp2
        have hcq : (wr.drewN nq).cell? (ad.add i) = some (.int .i64 (x : Int)) := hc
        have HOq := Lib.hid (show Own (wr.drewN nq) (w.heap.size + 1) 46 2 pairC _ out from HO.out)
        have HBq := Lib.hid (below_drewN HB.out nq)
        have hszq : w.heap.size + 1 ≤ (wr.drewN nq).heap.size := hsz
        have c1q : (wr.drewN nq).cell? ⟨w.heap.size, 1, none⟩ = _ := c1
        clear hc c1
        generalize wr.drewN nq = wq at *
        go_region_law (refine step_app1 rfl (.tmp 42) (.tmp 54) 99 rfl 46 2 16 pairT wq.drew (w.heap.size + 1) (.slice Ao out.length co) out (x, x) _ _ _ rfl rfl rfl (Own.drew HOq.out) (by unfold maxLen; omega) (by omega) hszq ?_; intro v5 w5 hown5 hgr5)
        all_goals
          have HO5 := Lib.hid hown5
          have HB5 := Lib.hid ((Own.drew HOq.out).grown HBq.out.drew hgr5 (Nat.le_refl _) hszq)
          clear hown5 hgr5
          go_wp2
          go_roundw
          case rel => exact ⟨i + 1, by omega, by go_num, by rw [HE.out]; exact HO5.out, HB5.out⟩
          case measure => simp [intOf]; omega
      · have t0 : decide (0 < i) = true := decide_eq_true h0
        obtain ⟨a, ha⟩ := runs_at hin h0
        have hy : wr.cell? (ad.add (i - 1)) = some (.int .i64 (On[i - 1]'(by omega) : Int)) := (H2.out.below (HB.out.mono (by omega))).at1 (by omega) rfl
        have hys := HSm.out _ (List.getElem_mem (show i - 1 < On.length by omega))
        generalize On[i] = x at *
        generalize On[i - 1]'(by omega) = y at *
        generalize runsL (On.take i) = out at *
        have hol : 0 < out.length := by
          rcases Nat.eq_zero_or_pos out.length with h | h
          · rw [List.eq_nil_of_length_eq_zero h] at ha; cases ha
          · exact h
        by_cases hxy : y + 1 = x
        · have HE := Lib.hid (show runsL (On.take (i + 1)) = out.set (out.length - 1) (a, x) by rw [HR.out]; exact runStep_ext ha hxy)
          have t1 : ((x : Int) == (y : Int) + 1) = true := by rw [beq_iff_eq]; omega
          have hlast : out[out.length - 1]'(by omega) = (a, y) := by
            rw [List.getLast?_eq_getElem?, List.getElem?_eq_getElem (by omega)] at ha
            injection ha
          obtain ⟨gg, cc, hvv, hgb, hgw, hcl⟩ := HO.out.get (fun _ => rfl) (i := out.length - 1) (by omega) (j := 1) (u := .int .i64 (y : Int)) (by rw [hlast]; rfl)
          obtain ⟨rfl, -, rfl⟩ := Value.slice.inj hvv
          have hfr := (Own.cellC (f := pairC) (X := out) (fun _ => rfl) HO.out (i := out.length - 1) (by omega) (j := 1) (u := .int .i64 (y : Int)) (by rw [hlast]; rfl)).2.1
          have HSt := Lib.hid (Own.setC (f := pairC) (X := out) (fun _ => rfl) HO.out (i := out.length - 1) (by omega) (j := 1) (by omega) (a, x) (.int .i64 (x : Int)) (by rw [hlast]; rfl))
          have HSb := Lib.hid (HB.out.setCell (p := ⟨gg, (out.length - 1) * 2 + 1, none⟩) hgb (.int .i64 (x : Int)))
          obtain ⟨m, hm⟩ : ∃ m, out.length = m + 1 := ⟨out.length - 1, by omega⟩
          rw [hm, Nat.add_sub_cancel] at hcl hfr HSt HSb HE
          rw [hm] at HO hlen ⊢
          have HM := Lib.hid hm
          clear hxy HR ha hlast hvv hm hol
          go_wp2
          go_quiet (fail)
          go_wp2
          have hcq : (wr.drewN nq).cell? (ad.add i) = some (.int .i64 (x : Int)) := hc
          have HOq := Lib.hid (show Own (wr.drewN nq) (w.heap.size + 1) 46 2 pairC _ out from HO.out)
          have HBq := Lib.hid (below_drewN HB.out nq)
          have hszq : w.heap.size + 1 ≤ (wr.drewN nq).heap.size := hsz
          have c1q : (wr.drewN nq).cell? ⟨w.heap.size, 1, none⟩ = _ := c1
          have hclq : (wr.drewN nq).cell? _ = _ := hcl
          have hfrq : (wr.drewN nq).frozen? _ = false := hfr
          have HSq := Lib.hid (show Own ((wr.drewN nq).setCell ⟨gg, m * 2 + 1, none⟩ (.int .i64 (x : Int))) _ _ _ _ _ _ from HSt.out)
          have HSc := Lib.hid (show Below (w.heap.size + 1) w1 ((wr.drewN nq).setCell ⟨gg, m * 2 + 1, none⟩ (.int .i64 (x : Int))) from ⟨HSb.out.os, HSb.out.tape, HSb.out.output, HSb.out.size, HSb.out.block⟩)
          clear hc c1 hcl hfr HSt HSb
          generalize wr.drewN nq = wq at *
          go_region
          all_goals
            go_wp2
            go_roundw
            case rel => exact ⟨i + 1, by omega, by go_num, by rw [HE.out]; exact HSq.out, ⟨HSc.out.os, HSc.out.tape, HSc.out.output, HSc.out.size, HSc.out.block⟩⟩
            case measure => simp [intOf]; omega
        · have HE := Lib.hid (show runsL (On.take (i + 1)) = out ++ [(x, x)] by rw [HR.out]; exact runStep_new ha hxy)
          have t1 : ((x : Int) == (y : Int) + 1) = false := by rw [beq_eq_false_iff_ne]; omega
          clear hxy HR ha
          go_wp2
          go_quiet (fail)
          go_wp2
          have hcq : (wr.drewN nq).cell? (ad.add i) = some (.int .i64 (x : Int)) := hc
          have HOq := Lib.hid (show Own (wr.drewN nq) (w.heap.size + 1) 46 2 pairC _ out from HO.out)
          have HBq := Lib.hid (below_drewN HB.out nq)
          have hszq : w.heap.size + 1 ≤ (wr.drewN nq).heap.size := hsz
          have c1q : (wr.drewN nq).cell? ⟨w.heap.size, 1, none⟩ = _ := c1
          clear hc c1
          generalize wr.drewN nq = wq at *
          go_region_law (refine step_app1 rfl (.tmp 42) (.tmp 54) 99 rfl 46 2 16 pairT wq.drew (w.heap.size + 1) (.slice Ao out.length co) out (x, x) _ _ _ rfl rfl rfl (Own.drew HOq.out) (by unfold maxLen; omega) (by omega) hszq ?_; intro v5 w5 hown5 hgr5)
          all_goals
            have HO5 := Lib.hid hown5
            have HB5 := Lib.hid ((Own.drew HOq.out).grown HBq.out.drew hgr5 (Nat.le_refl _) hszq)
            clear hown5 hgr5
            go_wp2
            go_roundw
            case rel => exact ⟨i + 1, by omega, by go_num, by rw [HE.out]; exact HO5.out, HB5.out⟩
            case measure => simp [intOf]; omega
    · have hii : i = On.length := by omega
      have HOn := Lib.hid (show runsL (On.take i) = runsL On by rw [List.take_of_length_le (by omega)])
      clear hii
      go_wp2
      go_ret
      exact ⟨_, rfl, by rw [← HOn.out]; exact HO.out.mono (by omega), HB1.out.trans (HB.out.mono (by omega))⟩

end Go.Proofs.Ytpcjmefchclhhaa

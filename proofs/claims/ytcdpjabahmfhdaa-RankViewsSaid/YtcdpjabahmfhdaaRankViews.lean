/- RankViews: of as many views in a row as there are members each member leads just one: for every input the law returns true. No condition. -/
import Derived.Test.YtcdpjabahmfhdaaRkK
import Derived.Test.YtcdpjabahmfhdaaPure
namespace Go.Proofs.Ytcdpjabahmfhdaa
open Go.ChangeShapes Go.WideShapes Go.ChangeAt Go.RowKit

/-- How often member j led in the first k of the views from v on. -/
def leadI (v m : Int) (k j : Nat) : Int := if ((j : Int) - v) % m < k ∧ (j : Int) < m then 1 else 0
def leadC (v m : Int) (k : Nat) : List Value := (List.range 7).map fun j => .int .i64 (leadI v m k j)
theorem lead_at (v m : Int) (k : Nat) {j : Nat} (hj : j < 7) : (leadC v m k)[j]? = some (.int .i64 (leadI v m k j)) := by
  unfold leadC
  rw [List.getElem?_map, List.getElem?_range hj]
  rfl
theorem lead_zero (v m : Int) (hg : groupB m = true) (j : Nat) : leadI v m 0 j = 0 := by
  unfold leadI
  rw [if_neg]
  rintro ⟨h, _⟩
  have := Int.emod_nonneg ((j : Int) - v) (show m ≠ 0 by have := group_bd hg; omega)
  omega
theorem lead_none (v m : Int) (hg : groupB m = true) : leadC v m 0 = List.replicate 7 (.int .i64 0) := by
  unfold leadC
  simp [lead_zero v m hg, List.replicate, List.range_succ]
theorem lead_old {v m : Int} (hg : groupB m = true) {k : Nat} (hk : (k : Int) < m) {j : Nat} (hj : (j : Int) = (v + k) % m) : leadI v m k j = 0 := by
  unfold leadI
  rw [if_neg]
  rcases seven hg with rfl | rfl | rfl | rfl | rfl | rfl | rfl <;> omega
theorem lead_new {v m : Int} (hg : groupB m = true) {k : Nat} (hk : (k : Int) < m) {j : Nat} (hj : (j : Int) = (v + k) % m) : leadI v m (k + 1) j = 1 := by
  unfold leadI
  rw [if_pos]
  rcases seven hg with rfl | rfl | rfl | rfl | rfl | rfl | rfl <;> omega
theorem lead_else {v m : Int} (hg : groupB m = true) {k : Nat} (hk : (k : Int) < m) {j : Nat} (hj : (j : Int) ≠ (v + k) % m) : leadI v m (k + 1) j = leadI v m k j := by
  unfold leadI
  by_cases hjm : (j : Int) < m
  · have e : (((j : Int) - v) % m < (k + 1 : Nat)) ↔ (((j : Int) - v) % m < k) := by
      rcases seven hg with rfl | rfl | rfl | rfl | rfl | rfl | rfl <;> omega
    simp only [e]
  · rw [if_neg (by omega), if_neg (by omega)]
theorem lead_set {v m : Int} (hg : groupB m = true) {k p : Nat} (hk : (k : Int) < m) (hp : (p : Int) = (v + k) % m) : (leadC v m k).set p (.int .i64 1) = leadC v m (k + 1) := by
  apply List.ext_getElem?
  intro j
  have hp7 : p < 7 := by have := group_bd hg; have := Int.emod_lt_of_pos (v + k) (show 0 < m by omega); omega
  rw [List.getElem?_set]
  have hlen : (leadC v m k).length = 7 := by simp [leadC]
  by_cases hj : j < 7
  · by_cases hpj : p = j
    · subst hpj
      rw [if_pos rfl, if_pos (by omega), lead_at _ _ _ hj, lead_new hg hk hp]
    · rw [if_neg hpj, lead_at _ _ _ hj, lead_at _ _ _ hj, lead_else hg hk (by omega)]
  · rw [if_neg (by omega), List.getElem?_eq_none (by omega), List.getElem?_eq_none (by simp [leadC]; omega)]
theorem lead_all {v m : Int} (hg : groupB m = true) {j : Nat} (hj : (j : Int) < m) {k : Nat} (hk : (k : Int) = m) : leadI v m k j = 1 := by
  unfold leadI
  have := group_bd hg
  have := Int.emod_lt_of_pos ((j : Int) - v) (show 0 < m by omega)
  rw [if_pos (by omega)]

theorem blk_set {w : World} {g : Nat} {cs : Array Value} {t : TypeId} {fr : Nat × Nat} (hg : w.heap[g]? = some (.cells cs t fr)) (i : Nat) (u : Value) : (w.setCell ⟨g, i, none⟩ u).heap[g]? = some (.cells (cs.setIfInBounds i u) t fr) := by
  simp [World.setCell, Array.getElem?_modify, hg]

set_option maxHeartbeats 1000000 in
theorem rankViews_walk (v m : Int) (w : World) (_hv : i64ok v) :
    Calls Try.prog 5 #[.int .i64 v, .int .i64 m] w fun e w' => e = .returned (.bool true) ∧ Below w.heap.size w w' := by
  have H1 := Lib.hid (ever_below (w0 := w) fun w1 _ => alive_any w1)
  have hb := Below.refl w.heap.size w
  by_cases c1 : m < 1
  · go_enter Try.func5, Try.ntmps5
    go_wp2_with (go_at_call 13; (with_reducible refine (Ever.at_ H1 _ (by assumption)).mono ?_); rintro e w1 ⟨rfl, hb1⟩)
    go_ret
    exact ⟨rfl, by assumption⟩
  · by_cases c2 : 7 < m
    · go_enter Try.func5, Try.ntmps5
      go_wp2_with (go_at_call 13; (with_reducible refine (Ever.at_ H1 _ (by assumption)).mono ?_); rintro e w1 ⟨rfl, hb1⟩)
      go_ret
      exact ⟨rfl, by assumption⟩
    · by_cases c3 : v < 0
      · go_enter Try.func5, Try.ntmps5
        go_wp2_with (go_at_call 13; (with_reducible refine (Ever.at_ H1 _ (by assumption)).mono ?_); rintro e w1 ⟨rfl, hb1⟩)
        go_ret
        exact ⟨rfl, by assumption⟩
      · by_cases c4 : 2305843009213693952 < v
        · go_enter Try.func5, Try.ntmps5
          go_wp2_with (go_at_call 13; (with_reducible refine (Ever.at_ H1 _ (by assumption)).mono ?_); rintro e w1 ⟨rfl, hb1⟩)
          go_ret
          exact ⟨rfl, by assumption⟩
        · have hg : groupB m = true := by unfold groupB; rw [decide_eq_true_eq]; omega
          obtain ⟨n, rfl⟩ := Int.eq_ofNat_of_zero_le (by omega : 0 ≤ m)
          have H0 := Lib.hid (lead_none v n hg)
          go_enter Try.func5, Try.ntmps5
          go_wp2
          go_loopw [27] (fun i wr => ∃ k : Nat, k ≤ n ∧ i = .int .i64 k ∧ wr.heap[w.heap.size]? = some (.cells (leadC v n k).toArray 30 (0, 0)) ∧ Below w.heap.size w wr) (fun i _ => n - (intOf i).toNat)
          case atStart => exact ⟨0, Nat.zero_le _, rfl, by rw [H0.out]; exact heap_alloc_new w _, hb.alloc (Nat.le_refl _) _⟩
          case round =>
            obtain ⟨k, hk, rfl, hc, hbr⟩ := hrel
            have HC := Lib.hid hc
            clear hc
            by_cases hlt : k < n
            · have hkm : (k : Int) < n := by omega
              have hp0 := Int.emod_nonneg (v + k) (show (n : Int) ≠ 0 by omega)
              have hp1 := Int.emod_lt_of_pos (v + k) (show 0 < (n : Int) by omega)
              obtain ⟨p, hp⟩ := Int.eq_ofNat_of_zero_le hp0
              have HP := Lib.hid (show primaryI (v + k) n = p by rw [primary_yes hg (by omega) (by omega), hp])
              have hpn : (p : Int) < n := by omega
              have HS := Lib.hid (lead_set hg hkm hp.symm)
              have hcell : wr.cell? ⟨w.heap.size, p, none⟩ = some (.int .i64 0) := by
                rw [cell_at HC.out, ← lead_old hg hkm hp.symm, List.getElem?_toArray]
                exact lead_at v n k (by omega)
              have hfz : wr.frozen? ⟨w.heap.size, p, none⟩ = false := by simp [World.frozen?, HC.out]
              clear hp hp0 hp1
              have HQ := Lib.hid (primary_any (v + k) n wr)
              rw [HP.out] at HQ
              have i1 : (p : Int) < 7 := by omega
              have i2 : (0 : Int) ≤ p := by omega
              go_wp2_with (go_at_call 16; refine HQ.out.mono ?_; rintro e w1 ⟨rfl, rfl⟩)
              go_roundw
              case rel => exact ⟨k + 1, by omega, by go_num, by rw [blk_set HC.out, ← HS.out]; simp, hbr.setCell (Nat.le_refl _) _⟩
              case measure => simp [intOf]; omega
            · obtain rfl : k = n := by omega
              clear hb
              go_wp2
              go_loop [49] (fun i => ∃ q : Nat, q ≤ k ∧ i = .int .i64 q) (fun i => k - (intOf i).toNat)
              case atStart => exact ⟨0, Nat.zero_le _, rfl⟩
              case round =>
                obtain ⟨q, hq, rfl⟩ := hrel
                by_cases hlq : q < k
                · have hcell : wr.cell? ⟨w.heap.size, q, none⟩ = some (.int .i64 1) := by
                    rw [cell_at HC.out, ← lead_all (v := v) hg (j := q) (by omega) (k := k) rfl, List.getElem?_toArray]
                    exact lead_at v k k (by omega)
                  have i1 : (q : Int) < 7 := by omega
                  have i2 : (0 : Int) ≤ q := by omega
                  obtain ⟨hm1, hm2⟩ := more_bd (v := v) (s := q) hg
                  have hn := next_yes (v := v) (s := q) (m := k) ⟨hg, by omega, by omega, by omega, by omega⟩
                  have HN := Lib.hid (next_any v q k wr)
                  rw [hn.1, hn.2] at HN
                  have HP := Lib.hid (primary_any (v + moreI v q k) k wr)
                  rw [primary_yes hg (by omega) (by omega), more_hit hg (by omega) (by omega)] at HP
                  clear hn
                  generalize moreI v q k = mo at *
                  go_wp2_with (first | (go_at_call 11; refine HN.out.mono ?_; rintro e w1 ⟨rfl, rfl⟩) | (go_at_call 16; refine HP.out.mono ?_; rintro e w1 ⟨rfl, rfl⟩))
                  go_round
                  case rel => exact ⟨q + 1, by omega, by go_num⟩
                  case measure => simp [intOf]; omega
                · obtain rfl : q = k := by omega
                  go_wp2_with (go_at_call 13; (with_reducible refine (Ever.at_ H1 _ (by assumption)).mono ?_); rintro e w1 ⟨rfl, hb1⟩)
                  go_ret
                  exact ⟨rfl, by assumption⟩

theorem rankViews_given (W : World) (args : Array Value) (h : Given W Try.f5 args) :
    Calls Try.prog 5 args W fun e W' => e = .returned (.bool true) ∧ Below W.heap.size W W' := by
  obtain ⟨⟨H, enc, ds, p, hA, hwt⟩, base, hval⟩ := h
  rw [Try.params5] at hA hval hwt
  obtain ⟨v0, vs0, d0, ds0, p0, q0, hargs, rfl, rfl, h0, r0⟩ := trodAll_cons hA
  obtain ⟨v1, vs1, d1, ds1, p1, q1, rfl, rfl, rfl, h1, r1⟩ := trodAll_cons r0
  obtain ⟨rfl, rfl, rfl⟩ := trodAll_nil r1
  obtain rfl : args = #[v0, v1] := by cases args; simp_all
  simp only [DataW.weightsEach, List.all_append, Bool.and_eq_true] at hwt
  obtain ⟨g0, g1, _⟩ := hwt
  obtain ⟨a0, rfl, hw_a0⟩ := opens_int W H enc base v0 d0 p0 (hval 0 _ v0 rfl rfl) h0 g0
  obtain ⟨a1, rfl, hw_a1⟩ := opens_int W H enc base v1 d1 p1 (hval 1 _ v1 rfl rfl) h1 g1
  exact rankViews_walk a0 a1 W hw_a0

theorem rankViews_lifted (os : Os) (started : os.Started) (H : Type) (enc : TypeId × Value → H) :
    ReturnsInHanded {} Try.checked os 5 .any (Rows.rankViewsSpec.pre6 enc Try.prog Try.f5 Rows.rankViewsRow.domain false) (Rows.rankViewsSpec.post enc Try.prog Try.f5 false true false false) :=
  law_lifted (s := Rows.rankViewsSpec) os started H enc (by kernel_rfl) Try.func5 rfl (by kernel_rfl)
    (by rw [Try.params5]; intro t ht; simp at ht; rcases ht with rfl | rfl <;> exact ⟨by kernel_rfl, of_decide_eq_true (by kernel_rfl)⟩)
    (by rw [Try.params5]; intro ds hd; match ds, hd with | [x0, x1], _ => exact ⟨rfl, rfl, rfl⟩)
    (ChangeSpec.witness6 (enc := enc) (C := Try.checked) false ⟨#[], #[.int .i64 0, .int .i64 0], []⟩ 8 (by kernel_rfl) (by kernel_rfl) (by kernel_rfl) (by kernel_rfl))
    rankViews_given

theorem rankViews_holds : Rows.RankViewsSaid :=
  OpenClaim.holds_of_wide 5 Try.f5 rfl rfl rfl rfl rfl rfl rfl ⟨rfl, rfl, rfl, rfl, rfl⟩ rfl rfl rfl rfl rfl (by kernel_rfl) Try.func5 (by kernel_rfl)
    (of_decide_eq_true (by kernel_rfl)) (by unfold Func.isWrapper; first | (rw [if_pos (by decide +kernel)]; kernel_rfl) | (rw [if_neg (by decide +kernel)]; exact ⟨rfl, rfl⟩))
    (fun os started H enc _ => rankViews_lifted os started H enc)
#print axioms rankViews_holds
end Go.Proofs.Ytcdpjabahmfhdaa

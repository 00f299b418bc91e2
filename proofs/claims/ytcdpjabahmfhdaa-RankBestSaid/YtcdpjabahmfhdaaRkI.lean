/- Contract of rank.Held: what a quorum has, by sorting. -/
import Derived.Test.YtcdpjabahmfhdaaRkH
import Derived.Sort.OwnSortedInts
namespace Go.Proofs.Ytcdpjabahmfhdaa
open Go.RowKit Go.Sort

def sortI (l : List Int) : List Int := l.mergeSort fun x y => decide (x ≤ y)
theorem sortI_perm (l : List Int) : (sortI l).Perm l := List.mergeSort_perm _ _
theorem sortI_len (l : List Int) : (sortI l).length = l.length := (sortI_perm l).length_eq
theorem sortI_le (l : List Int) {i j : Nat} (hij : i < j) (hj : j < (sortI l).length) : (sortI l)[i]'(by omega) ≤ (sortI l)[j] := by
  have h := List.pairwise_mergeSort (le := fun x y : Int => decide (x ≤ y)) (by intro a b c h1 h2; simp at *; omega) (by intro a b; simp; omega) l
  have h2 := (List.pairwise_iff_getElem.1 h) i j (by have := hj; unfold sortI at this; omega) (by have := hj; unfold sortI at this; omega) hij
  exact of_decide_eq_true h2

theorem cnt_perm {l m : List Int} (h : l.Perm m) (v : Int) : cntB l v = cntB m v := h.countP_eq _
theorem cnt_split (s : List Int) (v : Int) (k : Nat) : cntB s v = cntB (s.take k) v + cntB (s.drop k) v := by
  unfold cntB
  rw [← List.countP_append, List.take_append_drop]
/-- From place k on all are at least the one at k. -/
theorem cnt_from (l : List Int) {k : Nat} (hk : k < (sortI l).length) : l.length - k ≤ cntB l (sortI l)[k] := by
  rw [← cnt_perm (sortI_perm l), cnt_split _ _ k]
  have h : cntB ((sortI l).drop k) (sortI l)[k] = ((sortI l).drop k).length := by
    unfold cntB
    rw [List.countP_eq_length]
    intro x hx
    obtain ⟨j, hj, rfl⟩ := List.getElem_of_mem hx
    rw [List.getElem_drop, decide_eq_true_eq]
    rcases Nat.eq_zero_or_pos j with h0 | h0
    · subst h0; exact Int.le_refl _
    · exact sortI_le l (by omega) (by rw [List.length_drop] at hj; omega)
  rw [h, List.length_drop, sortI_len]
  omega
/-- What is above the one at k is had by fewer. -/
theorem cnt_above (l : List Int) {k : Nat} (hk : k < (sortI l).length) {v : Int} (hv : (sortI l)[k] < v) : cntB l v ≤ l.length - k - 1 := by
  rw [← cnt_perm (sortI_perm l), cnt_split _ _ (k + 1)]
  have h : cntB ((sortI l).take (k + 1)) v = 0 := by
    unfold cntB
    rw [List.countP_eq_zero]
    intro x hx
    obtain ⟨j, hj, rfl⟩ := List.getElem_of_mem hx
    rw [List.getElem_take, decide_eq_true_eq]
    rw [List.length_take] at hj
    rcases Nat.lt_or_ge j k with h0 | h0
    · have := sortI_le l h0 hk; omega
    · have e : j = k := by omega
      subst e; omega
  have h2 : cntB ((sortI l).drop (k + 1)) v ≤ ((sortI l).drop (k + 1)).length := List.countP_le_length
  rw [h, List.length_drop, sortI_len] at *
  omega
theorem heldTo_max (l : List Int) : ∀ k, k ≤ l.length → 0 ≤ heldTo l k ∧ (∀ j (hj : j < l.length), j < k → quorumI l.length ≤ cntB l l[j] → l[j] ≤ heldTo l k) ∧
    (heldTo l k = 0 ∨ ∃ j, ∃ hj : j < l.length, heldTo l k = l[j] ∧ quorumI l.length ≤ cntB l l[j])
  | 0, _ => ⟨by simp [heldTo], fun j _ h => by omega, .inl (by simp [heldTo])⟩
  | k + 1, hk => by
    obtain ⟨h0, h1, h2⟩ := heldTo_max l k (by omega)
    rw [heldTo_step (show k < l.length by omega)]
    split
    · rename_i h
      refine ⟨by omega, fun j hj hjk hq => ?_, .inr ⟨k, by omega, rfl, h.2⟩⟩
      rcases Nat.lt_or_ge j k with hlt | hge
      · have := h1 j hj hlt hq; omega
      · have e : j = k := by omega
        subst e; exact Int.le_refl _
    · rename_i h
      refine ⟨h0, fun j hj hjk hq => ?_, h2⟩
      rcases Nat.lt_or_ge j k with hlt | hge
      · exact h1 j hj hlt hq
      · have e : j = k := by omega
        subst e; omega
theorem held_sorted (l : List Int) (h7 : l.length ≤ 7) {k : Nat} (hk : k < (sortI l).length) (hq : (k : Int) = l.length - quorumI l.length) :
    (if (sortI l)[k] < 0 then 0 else (sortI l)[k]) = heldI l := by
  unfold heldI
  rw [if_pos h7]
  obtain ⟨h0, ha, hb⟩ := heldTo_max l l.length (Nat.le_refl _)
  have hf := cnt_from l hk
  rw [sortI_len] at hk
  have hx : (sortI l)[k]'(by rw [sortI_len]; exact hk) ≤ heldTo l l.length := by
    have hm : (sortI l)[k]'(by rw [sortI_len]; exact hk) ∈ l := (sortI_perm l).mem_iff.1 (List.getElem_mem _)
    obtain ⟨j, hj, e⟩ := List.getElem_of_mem hm
    have := ha j hj hj (by rw [e]; omega)
    rw [e] at this
    exact this
  have hy : heldTo l l.length ≤ 0 ∨ heldTo l l.length ≤ (sortI l)[k]'(by rw [sortI_len]; exact hk) := by
    rcases hb with hb | ⟨j, hj, e, hqj⟩
    · left; omega
    · right
      rw [e]
      apply Int.not_lt.1
      intro hlt
      have := cnt_above l (k := k) (by rw [sortI_len]; exact hk) hlt
      omega
  split <;> omega

theorem held_none {l : List Int} (h : groupB l.length = false) : heldI l = 0 := by
  unfold heldI
  split
  · rename_i h7
    have : l.length = 0 := by unfold groupB at h; rw [decide_eq_false_iff_not] at h; omega
    rw [List.eq_nil_of_length_eq_zero this]
    rfl
  · rfl

/-- slices.Sort, on a row of the call's own. -/
theorem sort_row (g cap : Nat) (zs : List Int) (w : World) (hH : Holds (Value.int .i64) w g 0 zs.toArray) (hg : g < w.heap.size) (hsz : zs.length < 4611686018427387904) :
    Calls Try.prog 30 #[.slice (some ⟨g, 0, none⟩) zs.length cap] w fun e w' =>
      e = .returned (.tuple #[]) ∧ (∀ j v, (sortI zs)[j]? = some v → w'.cell? ⟨g, j, none⟩ = some (.int .i64 v)) ∧ w.grownBy w' (some g) := by
  refine (Try.slices_Sort_int g 0 cap zs w hH hg hsz).mono ?_
  rintro e w' ⟨rfl, n, os, rfl⟩
  refine ⟨rfl, fun j v hv => ?_, grownBy_sortedI _⟩
  have h0 : Holds (Value.int .i64) (Sort.ahead w n) g 0 zs.toArray := hH
  have hj : j < (sortI zs).length := (List.getElem?_eq_some_iff.1 hv).1
  have h := cell?_putRow (Value.int .i64) (Sort.ahead w n) g 0 zs.toArray (sortI zs).toArray h0 (by simp [sortI_len]) j (by simpa using hj)
  rw [cell?_grow _ _ _ (by rw [size_putRow]; exact hg)]
  rw [Nat.zero_add] at h
  refine h.trans ?_
  rw [← (List.getElem?_eq_some_iff.1 hv).2]
  simp [hj]

def intV (l : List Int) : List Value := l.map (.int .i64)
def k0 (n : Nat) : Nat := n - (n / 2 + 1)

set_option maxHeartbeats 1000000 in
theorem held_any (l : List Int) (A : Option Addr) (c : Nat) (w : World) (hm : l.length ≤ maxLen) (hl : Rd w w.heap.size 1 intC A l) :
    Calls Try.prog 18 #[.slice A l.length c] w
      fun e w' => e = .returned (.int .i64 (heldI l)) ∧ Below w.heap.size w w' := by
  have hg := group_any l.length (w.alloc (Obj.cells #[.int .i64 0, .int .i64 0, .int .i64 0, .int .i64 0, .int .i64 0, .int .i64 0, .int .i64 0] 30))
  unfold maxLen at hm
  generalize hn : l.length = n at *
  have HN := Lib.hid hn
  clear hn
  cases hb : groupB n
  · rw [hb] at hg
    have HG := Lib.hid hg
    clear hg
    go_enter Try.func18, Try.ntmps18
    go_wp2_with (go_at_call 29; refine HG.out.mono ?_; rintro e w' ⟨rfl, rfl⟩)
    go_ret
    exact ⟨ret_int (by rw [held_none (by rw [HN.out]; exact hb)]), (Below.refl _ _).alloc (Nat.le_refl _) _⟩
  · rw [hb] at hg
    have HG := Lib.hid hg
    clear hg
    have hgb := group_bd hb
    obtain ⟨hg1, hg2⟩ := hgb
    go_enter Try.func18, Try.ntmps18
    have hn2 : n ≤ 7 := by omega
    have hsrc : 0 < n → ∃ ad, A = some ad ∧ ∀ j v, (intV l)[j]? = some v → (w.alloc (Obj.cells #[.int .i64 0, .int .i64 0, .int .i64 0, .int .i64 0, .int .i64 0, .int .i64 0, .int .i64 0] 30)).cell? (ad.add j) = some v := fun h0 => by
      obtain ⟨a, hA, hab⟩ := hl.addr (i := 0) (by rw [HN.out]; exact h0)
      subst hA
      refine ⟨a, rfl, fun j v hv => ?_⟩
      unfold intV at hv
      rw [List.getElem?_map] at hv
      cases hx : l[j]? with
      | none => rw [hx] at hv; cases hv
      | some x =>
        rw [hx] at hv
        simp only [Option.map_some, Option.some.injEq] at hv
        subst hv
        have hj : j < l.length := (List.getElem?_eq_some_iff.1 hx).1
        have h := hl.cell hj (j := 0) (v := .int .i64 x) (by rw [(List.getElem?_eq_some_iff.1 hx).2]; rfl)
        rw [Nat.mul_one, add_assoc', Nat.add_zero] at h
        rw [World.cell?_alloc_lt w _ _ (by rw [add_block]; exact hab)]
        exact h
    have HS := Lib.hid hsrc
    clear hsrc
    have hlen : (intV l).length = n := by unfold intV; rw [List.length_map]; exact HN.out
    have HL := Lib.hid hlen
    clear hlen
    have H2 := Lib.hid (show (intV l).length = Nat.min n 7 by rw [HL.out]; show n = min n 7; omega)
    have H4 := Lib.hid (show 0 + (intV l).length ≤ (List.replicate 7 (Value.int .i64 0)).length by rw [HL.out]; simp; omega)
    have H5 := Lib.hid (show ∀ v ∈ intV l, v.oneCell' = true by unfold intV; intro v hv; obtain ⟨x, _, rfl⟩ := List.mem_map.1 hv; rfl)
    have H6 := Lib.hid (show Below w.heap.size w (w.alloc _) from (Below.refl _ _).alloc (Nat.le_refl _) (Obj.cells #[.int .i64 0, .int .i64 0, .int .i64 0, .int .i64 0, .int .i64 0, .int .i64 0, .int .i64 0] 30))
    go_wp2_with (first | (go_at_call 29; refine HG.out.mono ?_; rintro e w' ⟨rfl, rfl⟩) | (refine wpList_copy_splice rfl (.tmp 10) (.tmp 11) 32 32 rfl 3 Try.underlying32 (by kernel_rfl) (some ⟨w.heap.size, 0, none⟩) A 7 7 n c rfl rfl w.heap.size 0 (List.replicate 7 (.int .i64 0)) 30 (heap_alloc_new w _) (intV l) H2.out (fun h => ⟨rfl, HS.out (by rw [HL.out] at h; exact h)⟩) H4.out H5.out w.heap.size w H6.out (Nat.le_refl _) ?_))
    intro w1 hc1 hb1
    have hkq : (k0 n : Int) = n - quorumI n := by have := quorum_bd n; unfold k0; unfold quorumI; rw [if_pos hb]; omega
    have hkn : k0 n < n := by unfold k0; omega
    have hq0 := quorum_bd n
    obtain ⟨hq1, hq2⟩ := hq0
    have hgl : w.heap.size < w1.heap.size := by
      have h := hc1.out
      rcases Nat.lt_or_ge w.heap.size w1.heap.size with hlt | hge
      · exact hlt
      · rw [Array.getElem?_eq_none hge] at h; cases h
    have hH : Holds (Value.int .i64) w1 w.heap.size 0 l.toArray := fun j hj => by
      have hj' : j < l.length := by simpa using hj
      have h := hc1.out
      refine ⟨?_, by simp [World.frozen?, h]⟩
      have hj2 : j < (intV l).length := by unfold intV; simpa using hj'
      have hgj : (l.toArray)[j]! = l[j] := by simp [hj']
      rw [hgj]
      simp only [World.cell?, h, splice, List.take_zero, List.nil_append, Nat.zero_add, Option.isSome_none, Bool.false_eq_true, if_false, List.getElem?_toArray]
      rw [List.getElem?_append_left hj2, List.getElem?_eq_getElem hj2]
      simp [intV]
    have hsort := sort_row w.heap.size 7 l w1 hH hgl (by rw [HN.out]; omega)
    rw [HN.out] at hsort
    have HO := Lib.hid hsort
    clear hsort hH hc1 hl
    go_wp2_with (first | (go_at_call 30; refine HO.out.mono ?_; rintro e w2 ⟨rfl, hcell, hgr⟩))
    have hbw := hb1.grown hgr hb1.size (by simp)
    have hk1 : k0 n < (sortI l).length := by rw [sortI_len, HN.out]; exact hkn
    have hck := hcell (k0 n) _ (List.getElem?_eq_getElem hk1)
    have HF := Lib.hid (held_sorted l (by rw [HN.out]; exact hn2) hk1 (by rw [HN.out]; exact hkq))
    have HQ := Lib.hid (quorum_any n w2)
    generalize (sortI l)[k0 n] = x at hck HF
    rw [show k0 n = ((n : Int) - quorumI n).toNat by rw [← hkq]; simp] at hck
    have hq3 : quorumI n ≤ n := by omega
    have hq4 : (n : Int) - quorumI n < 7 := by omega
    clear hkq hcell hgr hb1 HO HS HL H2 H4 H5 H6
    generalize quorumI n = q at hck hq1 hq2 hq3 hq4 HQ
    go_wp2_with (first | (go_at_call 14; refine HQ.out.mono ?_; rintro e w3 ⟨rfl, rfl⟩))
    go_ret
    exact ⟨ret_int (by rw [← HF.out]; show max x 0 = _; split <;> omega), hbw⟩

end Go.Proofs.Ytcdpjabahmfhdaa

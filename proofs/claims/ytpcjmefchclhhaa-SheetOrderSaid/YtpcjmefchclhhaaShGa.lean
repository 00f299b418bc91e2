/- Plain laws for SheetGone and SheetOrder: bytes that were cut off or punched are 0; two writes that do not meet. -/
import Derived.Test.YtpcjmefchclhhaaShZ
namespace Go.Proofs.Ytpcjmefchclhhaa
open Go.RowKit Go.MapKept

theorem list_ext_getD {l m : List UInt8} (hl : l.length = m.length) (h : ∀ i, i < l.length → l.getD i 0 = m.getD i 0) : l = m := by
  apply List.ext_getElem hl
  intro i h1 h2
  have := h i h1
  simpa [List.getD_eq_getElem?_getD, List.getElem?_eq_getElem h1, List.getElem?_eq_getElem h2] using this
theorem cutOk_of {n : Nat} (h : n ≤ 1048576) : cutOk (n : Int) = true := decide_eq_true ⟨by omega, by omega⟩
theorem rcB_len (B : List UInt8) {n : Nat} (h : n ≤ 1048576) : (rcB B (n : Int)).length = n := by
  unfold rcB; rw [if_pos (cutOk_of h), List.length_take, padTo_len]; simp; omega
theorem getD_rcB (B : List UInt8) {n : Nat} (h : n ≤ 1048576) (i : Nat) : (rcB B (n : Int)).getD i 0 = if i < n then B.getD i 0 else 0 := by
  unfold rcB
  rw [if_pos (cutOk_of h), List.getD_eq_getElem?_getD, List.getElem?_take, Int.toNat_natCast]
  split
  · rw [← List.getD_eq_getElem?_getD, getD_padTo]
  · rfl
theorem rreadL_take (B : List UInt8) (n : Nat) : rreadL B 0 (n : Int) = B.take n := by
  unfold rreadL
  cases hf : readOk B.length 0 (n : Int)
  · have := of_decide_eq_false hf
    have hz : B.length = 0 := by omega
    rw [List.eq_nil_of_length_eq_zero hz]; simp
  · simp
/-- What is read behind the two cuts. -/
theorem gone_read (B : List UInt8) (n k : Nat) (hn : n ≤ 20000) (hk : k ≤ 20000) :
    (rreadL (rcB (rcB B (n : Int)) ((n + k : Nat) : Int)) 0 ((n + k : Nat) : Int)).length = n + k ∧
    (rreadL (rcB (rcB B (n : Int)) ((n + k : Nat) : Int)) 0 ((n + k : Nat) : Int)).take (rreadL B 0 (n : Int)).length = rreadL B 0 (n : Int) ∧
    (rreadL (rcB (rcB B (n : Int)) ((n + k : Nat) : Int)) 0 ((n + k : Nat) : Int)).drop (rreadL B 0 (n : Int)).length = List.replicate (n + k - (rreadL B 0 (n : Int)).length) 0 := by
  rw [rreadL_take, rreadL_take]
  have hl := rcB_len (rcB B (n : Int)) (n := n + k) (by omega)
  have hE : (rcB (rcB B (n : Int)) ((n + k : Nat) : Int)).take (n + k) = rcB (rcB B (n : Int)) ((n + k : Nat) : Int) := List.take_of_length_le (by omega)
  rw [hE]
  have hg : ∀ i, (rcB (rcB B (n : Int)) ((n + k : Nat) : Int)).getD i 0 = if i < n then B.getD i 0 else 0 := fun i => by
    rw [getD_rcB _ (by omega), getD_rcB _ (by omega)]
    by_cases h : i < n
    · rw [if_pos (by omega)]
    · rw [if_neg h]; simp
  generalize rcB (rcB B (n : Int)) ((n + k : Nat) : Int) = X at *
  have hbl : (B.take n).length = min n B.length := List.length_take
  refine ⟨hl, list_ext_getD ?_ fun i hi => ?_, list_ext_getD ?_ fun i hi => ?_⟩
  · rw [List.length_take, hbl]; omega
  · rw [List.length_take, hbl] at hi
    rw [List.getD_eq_getElem?_getD, List.getElem?_take, if_pos (by omega), ← List.getD_eq_getElem?_getD, hg, if_pos (by omega), List.getD_eq_getElem?_getD, List.getD_eq_getElem?_getD, List.getElem?_take, if_pos (by omega)]
  · rw [List.length_drop, List.length_replicate]; omega
  · rw [List.getD_eq_getElem?_getD, List.getElem?_drop, ← List.getD_eq_getElem?_getD, hg, getD_rep]
    split
    · rw [hbl]
      exact getD_ge (by omega)
    · rfl
theorem punchOk_of {a n : Nat} (h : a + n ≤ 1048576) : punchOk (a : Int) (n : Int) = true := decide_eq_true ⟨by omega, by omega, by omega, by omega⟩
/-- What is read where holes were made. -/
theorem gone_hole (B : List UInt8) (n k : Nat) (hn : n ≤ 20000) (hk : k ≤ 20000) :
    ∃ j, j ≤ k ∧ rreadL (rpB B (n : Int) (k : Int)) (n : Int) (k : Int) = List.replicate j 0 := by
  unfold rreadL
  cases hf : readOk (rpB B (n : Int) (k : Int)).length (n : Int) (k : Int)
  · exact ⟨0, by omega, rfl⟩
  · rw [if_pos rfl]
    have hlt := (of_decide_eq_true hf).2.2
    unfold rpB at hlt ⊢
    rw [if_pos (punchOk_of (by omega))] at hlt ⊢
    simp only [Int.toNat_natCast] at hlt ⊢
    have hs : n + (List.replicate (min k (B.length - n)) (0 : UInt8)).length ≤ B.length ∨ B.length ≤ n := by rw [List.length_replicate]; omega
    rcases hs with hs | hs
    · have hl := length_splice B n (List.replicate (min k (B.length - n)) 0) hs
      refine ⟨min k (B.length - n), by omega, list_ext_getD ?_ fun i hi => ?_⟩
      · rw [List.length_take, List.length_drop, hl, List.length_replicate]
      · rw [List.length_take, List.length_drop, hl] at hi
        rw [List.getD_eq_getElem?_getD, List.getElem?_take, if_pos (by omega), List.getElem?_drop, ← List.getD_eq_getElem?_getD, getD_splice _ _ _ hs, List.length_replicate, if_pos ⟨by omega, by omega⟩, getD_rep, getD_rep]
    · exfalso
      rw [show min k (B.length - n) = 0 by omega] at hlt
      unfold splice at hlt
      simp at hlt
      omega

theorem rwB_nil (B : List UInt8) (a : Int) : rwB B a [] = B := by unfold rwB; rw [if_neg (by simp)]
theorem fits_of {a n : Nat} (h : a + n ≤ 1048576) : fitsB (a : Int) n = true := decide_eq_true ⟨by omega, by omega, by omega⟩
theorem getD_rwB (B b : List UInt8) {a : Nat} (h : a + b.length ≤ 1048576) (i : Nat) : (rwB B (a : Int) b).getD i 0 = if a ≤ i ∧ i < a + b.length then b.getD (i - a) 0 else B.getD i 0 := by
  unfold rwB
  by_cases h0 : 0 < b.length
  · rw [if_pos ⟨fits_of h, h0⟩, Int.toNat_natCast, getD_splice _ _ _ (by rw [padTo_len]; omega), getD_padTo]
  · rw [if_neg (fun h => h0 h.2), if_neg (by omega)]
theorem len_rwB (B b : List UInt8) {a : Nat} (h : a + b.length ≤ 1048576) : (rwB B (a : Int) b).length = if 0 < b.length then max B.length (a + b.length) else B.length := by
  unfold rwB
  by_cases h0 : 0 < b.length
  · rw [if_pos ⟨fits_of h, h0⟩, if_pos h0, Int.toNat_natCast, length_splice _ _ _ (by rw [padTo_len]; omega), padTo_len]
  · rw [if_neg (fun h => h0 h.2), if_neg h0]
/-- Two writes that do not meet: the bytes. -/
theorem rwB_comm (B b c : List UInt8) {x y : Nat} (hb : x + b.length ≤ 1048576) (hc : y + c.length ≤ 1048576) (h : y + c.length ≤ x ∨ x + b.length ≤ y) : rwB (rwB B (x : Int) b) (y : Int) c = rwB (rwB B (y : Int) c) (x : Int) b := by
  refine list_ext_getD ?_ fun i _ => ?_
  · rw [len_rwB _ _ hc, len_rwB _ _ hb, len_rwB _ _ hb, len_rwB _ _ hc]
    split <;> split <;> omega
  · rw [getD_rwB _ _ hc, getD_rwB _ _ hb, getD_rwB _ _ hb, getD_rwB _ _ hc]
    by_cases h1 : y ≤ i ∧ i < y + c.length
    · rw [if_pos h1, if_neg (by omega), if_pos h1]
    · rw [if_neg h1, if_neg h1]
/-- Two writes: the blocks. -/
theorem rwOn_comm {On : List Nat} (hr : On.Pairwise (· < ·)) {x y n k : Nat} (hb : x + n ≤ 1048576) (hc : y + k ≤ 1048576) : rwOn (rwOn On (x : Int) n) (y : Int) k = rwOn (rwOn On (y : Int) k) (x : Int) n := by
  unfold rwOn
  rw [if_pos (fits_of hb), if_pos (fits_of hc), if_pos (fits_of hc), if_pos (fits_of hb)]
  refine rising_ext (rising_rwOnL (rising_rwOnL hr _ _) _ _) (rising_rwOnL (rising_rwOnL hr _ _) _ _) fun z => ?_
  rw [mem_rwOnL, mem_rwOnL, mem_rwOnL, mem_rwOnL]
  constructor
  · rintro (h | h | h)
    · exact .inr (.inl h)
    · exact .inl h
    · exact .inr (.inr h)
  · rintro (h | h | h)
    · exact .inr (.inl h)
    · exact .inl h
    · exact .inr (.inr h)
theorem blocks_le2 {w : World} {b m size : Nat} {bl : List (Nat × List UInt8)} (h : Raw w b m size bl) : bl.length ≤ 65536 := by
  have := nodup_lt 65536 (bl.map (·.1)) h.map.nodup (fun x hx => by
    obtain ⟨p, hp, rfl⟩ := List.mem_map.1 hx
    exact h.keys p hp)
  simpa using this
theorem rwOn_le {w : World} {b m size : Nat} {bl : List (Nat × List UInt8)} {B : List UInt8} {On : List Nat} {a : Int} {l : List UInt8} (hs : SameS size bl B On) (hr : Raw w b m (wrSize size a l.length) (wrBl bl a l)) : (rwOn On a l.length).length ≤ 65536 := by
  rw [same_blocks (same_write hs a l)]
  exact blocks_le2 hr
end Go.Proofs.Ytpcjmefchclhhaa

/- A part of the proof. -/
import Derived.Test.YtpcjmefchclhhaaGreatZShM
namespace Go.Proofs.YtpcjmefchclhhaaGreat
open Go.RowKit Go.MapKept
def insK (k : Nat) : List Nat → List Nat
 | [] => [k]
 | x :: l => if k ≤ x then k :: (x :: l).filter (· ≠ k) else x :: insK k l
theorem mem_insK (k x : Nat) : ∀ l, x ∈ insK k l ↔ x = k ∨ x ∈ l
 | [] => by simp [insK]
 | y :: l => by
  unfold insK
  split
  ·rw [List.mem_cons, List.mem_filter]
   by_cases h : x = k <;> simp [h]
  ·rw [List.mem_cons, mem_insK k x l, List.mem_cons]
   constructor
   ·rintro (h | h | h) <;> simp [h]
   ·rintro (h | h | h) <;> simp [h]
theorem rising_insK (k : Nat) : ∀ {l : List Nat}, l.Pairwise (· < ·) → (insK k l).Pairwise (· < ·)
 | [], _ => by simp [insK]
 | y :: l, h => by
  obtain ⟨h1, h2⟩ := List.pairwise_cons.1 h
  unfold insK
  split
  ·rename_i hk
   refine List.pairwise_cons.2 ⟨fun x hx => ?_, h.filter _⟩
   obtain ⟨hm, hn⟩ := List.mem_filter.1 hx
   have hn' : x ≠ k := by simpa using hn
   rcases List.mem_cons.1 hm with rfl | hm
   ·omega
   ·have := h1 x hm; omega
  ·refine List.pairwise_cons.2 ⟨fun x hx => ?_, rising_insK k h2⟩
   rcases (mem_insK k x l).1 hx with rfl | hx
   ·omega
   ·exact h1 x hx
def wst (k : Nat) (s : List Nat × Bool) (x : Nat) : List Nat × Bool :=
 (s.1 ++ (if s.2 = false ∧ k ≤ x then [k] else []) ++ (if x = k then [] else [x]), s.2 || decide (k ≤ x))
theorem wst_done (k : Nat) : ∀ (l out : List Nat), l.foldl (wst k) (out, true) = (out ++ l.filter (· ≠ k), true)
 | [], out => by simp
 | x :: l, out => by
  rw [List.foldl_cons]
  show l.foldl (wst k) (out ++ (if true = false ∧ k ≤ x then [k] else []) ++ (if x = k then [] else [x]), true || decide (k ≤ x)) = _
  rw [if_neg (by simp), Bool.true_or, wst_done k l]
  by_cases h : x = k
  ·subst h; simp
  ·simp [h]
def wfin (k : Nat) (s : List Nat × Bool) : List Nat := if s.2 = true then s.1 else s.1 ++ [k]
theorem with_insK (k : Nat) : ∀ (l out : List Nat), wfin k (l.foldl (wst k) (out, false)) = out ++ insK k l
 | [], out => by simp [wfin, insK]
 | x :: l, out => by
  rw [List.foldl_cons]
  by_cases h : k ≤ x
  ·show wfin k (l.foldl (wst k) (out ++ (if false = false ∧ k ≤ x then [k] else []) ++ (if x = k then [] else [x]), false || decide (k ≤ x))) = _
   rw [if_pos ⟨rfl, h⟩, decide_eq_true h, Bool.or_true, wst_done, insK, if_pos h]
   unfold wfin
   rw [if_pos rfl, List.filter_cons]
   by_cases h2 : x = k <;> simp [h2]
  ·show wfin k (l.foldl (wst k) (out ++ (if false = false ∧ k ≤ x then [k] else []) ++ (if x = k then [] else [x]), false || decide (k ≤ x))) = _
   rw [if_neg (by omega), if_neg (by omega), decide_eq_false h, Bool.or_false, with_insK k l, insK, if_neg h]
   simp
def headAt (a i : Nat) : Bool := decide (i = 0 ∨ (a + i) % 16 = 0)
def rwOnL (On : List Nat) (a n : Nat) : List Nat := (List.range n).foldl (fun l i => if headAt a i = true then insK ((a + i) / 16) l else l) On
theorem rwOnL_succ (On : List Nat) (a n : Nat) : rwOnL On a (n + 1) = if headAt a n = true then insK ((a + n) / 16) (rwOnL On a n) else rwOnL On a n := by
 unfold rwOnL
 rw [List.range_succ, List.foldl_append]
 rfl
theorem rising_rwOnL {On : List Nat} (h : On.Pairwise (· < ·)) (a : Nat) : ∀ n, (rwOnL On a n).Pairwise (· < ·)
 | 0 => h
 | n + 1 => by
  rw [rwOnL_succ]
  split
  ·exact rising_insK _ (rising_rwOnL h a n)
  ·exact rising_rwOnL h a n
theorem mem_rwOnL (On : List Nat) (a k : Nat) : ∀ n, k ∈ rwOnL On a n ↔ (0 < n ∧ a / 16 ≤ k ∧ k ≤ (a + n - 1) / 16) ∨ k ∈ On
 | 0 => by simp [rwOnL]
 | n + 1 => by
  rw [rwOnL_succ]
  unfold headAt
  by_cases h : n = 0 ∨ (a + n) % 16 = 0
  ·rw [if_pos (by simpa using h), mem_insK, mem_rwOnL On a k n, ← or_assoc]
   refine or_congr_left ?_
   omega
  ·rw [if_neg (by simpa using h), mem_rwOnL On a k n]
   refine or_congr_left ?_
   omega
def padTo (B : List UInt8) (n : Nat) : List UInt8 := B ++ List.replicate (n - B.length) 0
theorem padTo_len (B : List UInt8) (n : Nat) : (padTo B n).length = max B.length n := by simp [padTo]; omega
theorem getD_padTo (B : List UInt8) (n i : Nat) : (padTo B n).getD i 0 = B.getD i 0 := by
 unfold padTo
 simp only [List.getD_eq_getElem?_getD]
 by_cases h : i < B.length
 ·rw [List.getElem?_append_left h]
 ·rw [List.getElem?_append_right (by omega), List.getElem?_replicate, List.getElem?_eq_none (l := B) (by omega)]
  split <;> rfl
def rwB (B : List UInt8) (a : Int) (b : List UInt8) : List UInt8 := if fitsB a b.length = true ∧ 0 < b.length then splice (padTo B (a.toNat + b.length)) a.toNat b else B
def rwOn (On : List Nat) (a : Int) (n : Nat) : List Nat := if fitsB a n = true then rwOnL On a.toNat n else On
def rneed (On : List Nat) (a : Int) (n : Nat) : Nat := if fitsB a n = true then (List.range n).countP fun i => headAt a.toNat i && !decide ((a.toNat + i) / 16 ∈ On) else 0
def rcB (B : List UInt8) (n : Int) : List UInt8 := if cutOk n = true then (padTo B n.toNat).take n.toNat else B
def rcOn (B : List UInt8) (On : List Nat) (n : Int) : List Nat := if cutOk n = true then On.filter (fun k => decide (16 * k < n.toNat ∨ B.length ≤ n.toNat)) else On
structure SameS (size : Nat) (bl : List (Nat × List UInt8)) (B : List UInt8) (On : List Nat) : Prop where
 len : B.length = size
 bytes : ∀ i, B.getD i 0 = byteAt bl i
 on : On = keysS bl
 inv : Inv size bl
 full : ∀ p ∈ bl, p.2.length = 16
 nodup : (bl.map (·.1)).Nodup
theorem sameS_new : SameS 0 [] [] [] := ⟨rfl, fun i => (getD_rep 16 (i % 16)).symm, by simp [keysS], by intro p hp; simp at hp, by intro p hp; simp at hp, by simp⟩
theorem nodup_wrL : ∀ (f : Nat) (bl : List (Nat × List UInt8)) (a : Nat) (b : List UInt8), (bl.map (·.1)).Nodup → ((wrL f bl a b).map (·.1)).Nodup
 | 0, _, _, _, h => h
 | f + 1, bl, a, b, h => by
  rw [wrL]
  split
  ·exact h
  ·exact nodup_wrL f _ _ _ (nodup_put h _ _)
theorem nodup_wp1 {bl : List (Nat × List UInt8)} (h : (bl.map (·.1)).Nodup) (f t k : Nat) : ((wp1 f t bl k).map (·.1)).Nodup := by
 unfold wp1
 split
 ·unfold zr1
  cases aget bl k with
  | none => exact h
  | some v =>
   simp only
   split
   ·exact h
   ·split
    ·exact nodup_del h _
    ·exact nodup_put h _ _
 ·exact h
theorem nodup_fold {f t : Nat} : ∀ (ks : List Nat) {bl : List (Nat × List UInt8)}, (bl.map (·.1)).Nodup → ((ks.foldl (wp1 f t) bl).map (·.1)).Nodup
 | [], _, h => h
 | k :: ks, _, h => nodup_fold ks (nodup_wp1 h f t k)
theorem wrL_full : ∀ (f : Nat) {bl : List (Nat × List UInt8)} (a : Nat) (b : List UInt8), (∀ p ∈ bl, p.2.length = 16) → ∀ p ∈ wrL f bl a b, p.2.length = 16
 | 0, _, _, _, h => h
 | f + 1, bl, a, b, h => by
  rw [wrL]
  split
  ·exact h
  ·exact wrL_full f _ _ (wr1_full h a b)
theorem same_write {size : Nat} {bl : List (Nat × List UInt8)} {B : List UInt8} {On : List Nat} (h : SameS size bl B On) (a : Int) (b : List UInt8) :
  SameS (wrSize size a b.length) (wrBl bl a b) (rwB B a b) (rwOn On a b.length) := by
 have hi := inv_write h.inv a b
 by_cases hf : fitsB a b.length = true
 ·have hnd : ((wrBl bl a b).map (·.1)).Nodup := by unfold wrBl; rw [if_pos hf]; exact nodup_wrL _ _ _ _ h.nodup
  have hfu : ∀ p ∈ wrBl bl a b, p.2.length = 16 := by unfold wrBl; rw [if_pos hf]; exact wrL_full _ _ _ h.full
  refine ⟨?_, fun i => ?_, ?_, hi, hfu, hnd⟩
  ·unfold rwB wrSize
   by_cases h0 : 0 < b.length
   ·rw [if_pos ⟨hf, h0⟩, if_pos ⟨hf, h0⟩, length_splice _ _ _ (by rw [padTo_len]; omega), padTo_len, h.len]
   ·rw [if_neg (fun h => h0 h.2), if_neg (fun h => h0 h.2)]; exact h.len
  ·unfold rwB wrBl
   rw [if_pos hf, byteAt_wrL _ _ _ h.full (Nat.le_refl _)]
   by_cases h0 : 0 < b.length
   ·rw [if_pos ⟨hf, h0⟩, getD_splice _ _ _ (by rw [padTo_len]; omega), getD_padTo, h.bytes]
   ·rw [if_neg (fun h => h0 h.2), if_neg (by omega), h.bytes]
  ·refine rising_ext ?_ (keysS_rising hnd) (fun k => ?_)
   ·unfold rwOn
    rw [if_pos hf]
    exact rising_rwOnL (by rw [h.on]; exact keysS_rising h.nodup) _ _
   ·unfold rwOn
    rw [if_pos hf, mem_rwOnL, mem_keysS]
    unfold wrBl
    rw [if_pos hf, bhas_wrL _ _ _ _ (Nat.le_refl _), h.on, mem_keysS, Bool.or_eq_true, decide_eq_true_eq]
 ·have e1 : wrSize size a b.length = size := by unfold wrSize; rw [if_neg (fun h => hf h.1)]
  have e2 : wrBl bl a b = bl := by unfold wrBl; rw [if_neg hf]
  have e3 : rwB B a b = B := by unfold rwB; rw [if_neg (fun h => hf h.1)]
  have e4 : rwOn On a b.length = On := by unfold rwOn; rw [if_neg hf]
  rw [e1, e2, e3, e4]
  exact h
theorem same_need {size : Nat} {bl : List (Nat × List UInt8)} {B : List UInt8} {On : List Nat} (h : SameS size bl B On) (a : Int) (n : Nat) : rneed On a n = needN bl a n := by
 unfold rneed needN
 by_cases hf : fitsB a n = true
 ·rw [if_pos hf]
  have key : ∀ m, (List.range m).countP (fun i => headAt a.toNat i && !decide ((a.toNat + i) / 16 ∈ On)) = if 0 < m then missing bl (a.toNat / 16) ((a.toNat + m - 1) / 16 - a.toNat / 16 + 1) else 0 := by
   intro m
   induction m with
   | zero => rfl
   | succ m ih =>
    rw [List.range_succ, List.countP_append, ih, if_pos (Nat.succ_pos m)]
    have hg : ∀ k, decide (k ∈ On) = (aget bl k).isSome := fun k => by
     rw [Bool.eq_iff_iff, decide_eq_true_eq, h.on, mem_keysS]; rfl
    simp only [List.countP_cons, List.countP_nil, Nat.zero_add, hg, Option.not_isSome]
    unfold headAt
    rcases Nat.eq_zero_or_pos m with rfl | hm
    ·rw [if_neg (Nat.lt_irrefl 0), show (a.toNat + (0 + 1) - 1) / 16 - a.toNat / 16 + 1 = 0 + 1 by omega, missing_step]
     simp [missing]
    ·rw [if_pos hm]
     by_cases hz : (a.toNat + m) % 16 = 0
     ·rw [show (a.toNat + (m + 1) - 1) / 16 - a.toNat / 16 + 1 = (a.toNat + m - 1) / 16 - a.toNat / 16 + 1 + 1 by omega, missing_step bl (a.toNat / 16) ((a.toNat + m - 1) / 16 - a.toNat / 16 + 1),
       show a.toNat / 16 + ((a.toNat + m - 1) / 16 - a.toNat / 16 + 1) = (a.toNat + m) / 16 by omega]
      simp [hz]
     ·rw [show (a.toNat + (m + 1) - 1) / 16 - a.toNat / 16 + 1 = (a.toNat + m - 1) / 16 - a.toNat / 16 + 1 by omega]
      simp [hz, show ¬ m = 0 by omega]
  rw [key]
  by_cases h0 : 0 < n
  ·rw [if_pos h0, if_pos ⟨hf, h0⟩]
  ·rw [if_neg h0, if_neg (fun h => h0 h.2)]
 ·rw [if_neg hf, if_neg (fun h => hf h.1)]
theorem nodup_wipe {bl : List (Nat × List UInt8)} (h : (bl.map (·.1)).Nodup) (f t : Nat) : ((wipeL bl f t).map (·.1)).Nodup := nodup_fold _ h
theorem full_wipe {bl : List (Nat × List UInt8)} (h : ∀ p ∈ bl, p.2.length = 16) (f t : Nat) : ∀ p ∈ wipeL bl f t, p.2.length = 16 := fold_full _ h
theorem getD_ge {B : List UInt8} {i : Nat} (h : B.length ≤ i) : B.getD i 0 = 0 := by
 rw [List.getD_eq_getElem?_getD, List.getElem?_eq_none h]; rfl
theorem has_inv {size : Nat} {bl : List (Nat × List UInt8)} (h : Inv size bl) {k : Nat} (hb : bhas bl k = true) : k * 16 < size := by
 obtain ⟨v, hv⟩ := Option.isSome_iff_exists.1 hb
 have h1 : (k, v) ∈ bl := aget_mem hv
 exact h (k, v) h1
set_option maxHeartbeats 1000000 in
theorem same_cut {size : Nat} {bl : List (Nat × List UInt8)} {B : List UInt8} {On : List Nat} (h : SameS size bl B On) (n : Int) :
  SameS (cutSize size n) (cutBl size bl n) (rcB B n) (rcOn B On n) := by
 have hi := inv_cut h.inv n
 by_cases hc : cutOk n = true
 ·have es : cutSize size n = n.toNat := by unfold cutSize; rw [if_pos hc]
  rw [es] at hi ⊢
  by_cases hlt : n.toNat < size
  ·have eb : cutBl size bl n = wipeL bl n.toNat (wholeN size) := by unfold cutBl; rw [if_pos ⟨hc, hlt⟩]
   rw [eb] at hi ⊢
   refine ⟨?_, fun i => ?_, ?_, hi, full_wipe h.full _ _, nodup_wipe h.nodup _ _⟩
   ·unfold rcB; rw [if_pos hc, List.length_take, padTo_len]; omega
   ·unfold rcB
    rw [if_pos hc, byteAt_wipe h.full, ← h.bytes, List.getD_eq_getElem?_getD, List.getElem?_take]
    by_cases h1 : i < n.toNat
    ·rw [if_pos h1, if_neg (by omega), ← List.getD_eq_getElem?_getD, getD_padTo]
    ·rw [if_neg h1]
     by_cases h2 : i < wholeN size
     ·rw [if_pos ⟨by omega, h2⟩]; rfl
     ·rw [if_neg (by omega), getD_ge (by rw [h.len]; unfold wholeN at h2; omega)]; rfl
   ·refine rising_ext ?_ (keysS_rising (nodup_wipe h.nodup _ _)) (fun k => ?_)
    ·unfold rcOn
     rw [if_pos hc, h.on]
     exact (keysS_rising h.nodup).filter _
    ·unfold rcOn
     rw [if_pos hc, List.mem_filter, mem_keysS, bhas_wipe _ _ _ _ (by unfold wholeN; omega), h.on, mem_keysS, h.len]
     cases hb : bhas bl k
     ·simp
     ·have := has_inv h.inv hb
      simp only [true_and, decide_eq_true_eq, Bool.true_and, Bool.not_eq_true', decide_eq_false_iff_not]
      unfold wholeN
      omega
  ·have eb : cutBl size bl n = bl := by unfold cutBl; rw [if_neg (fun h => hlt h.2)]
   rw [eb] at hi ⊢
   refine ⟨?_, fun i => ?_, ?_, hi, h.full, h.nodup⟩
   ·unfold rcB; rw [if_pos hc, List.length_take, padTo_len]; have := h.len; omega
   ·unfold rcB
    rw [if_pos hc, ← h.bytes, List.getD_eq_getElem?_getD, List.getElem?_take]
    by_cases h1 : i < n.toNat
    ·rw [if_pos h1, ← List.getD_eq_getElem?_getD, getD_padTo]
    ·rw [if_neg h1, getD_ge (by rw [h.len]; omega)]; rfl
   ·unfold rcOn
    rw [if_pos hc, ← h.on]
    exact List.filter_eq_self.2 fun k _ => by simp; right; rw [h.len]; omega
 ·have e1 : cutSize size n = size := by unfold cutSize; rw [if_neg hc]
  have e2 : cutBl size bl n = bl := by unfold cutBl; rw [if_neg (fun h => hc h.1)]
  have e3 : rcB B n = B := by unfold rcB; rw [if_neg hc]
  have e4 : rcOn B On n = On := by unfold rcOn; rw [if_neg hc]
  rw [e1, e2, e3, e4]
  exact h
theorem same_read {size : Nat} {bl : List (Nat × List UInt8)} {B : List UInt8} {On : List Nat} (h : SameS size bl B On) (a n : Nat) (hn : a + n ≤ size) : readL bl a n = (B.drop a).take n := by
 apply List.ext_getElem?
 intro i
 unfold readL
 rw [List.getElem?_map, List.getElem?_take]
 by_cases hi : i < n
 ·have := h.len
  rw [List.getElem?_range hi, if_pos hi, List.getElem?_drop, List.getElem?_eq_getElem (by omega)]
  have hb := h.bytes (a + i)
  rw [List.getD_eq_getElem?_getD, List.getElem?_eq_getElem (by omega)] at hb
  simp only [Option.map_some, Option.getD_some] at hb ⊢
  rw [hb]
 ·rw [if_neg hi, List.getElem?_eq_none (by simp; omega)]; rfl
theorem same_blocks {size : Nat} {bl : List (Nat × List UInt8)} {B : List UInt8} {On : List Nat} (h : SameS size bl B On) : On.length = bl.length := by
 rw [h.on, (keysS_perm bl).length_eq, List.length_map]
def rreadL (B : List UInt8) (a n : Int) : List UInt8 := if readOk B.length a n = true then (B.drop a.toNat).take n.toNat else []
end Go.Proofs.YtpcjmefchclhhaaGreat

/- A part of the proof. -/
import Derived.Test.YtpcjmefchclhhaaGreatZShF
import Derived.Test.YtpcjmefchclhhaaGreatZShH
import Derived.Lib.SlBytesConst
namespace Go.Proofs.YtpcjmefchclhhaaGreat
open Go.RowKit Go.MapKept
theorem missing_head (bl : List (Nat × List UInt8)) (k : Nat) : ∀ j, missing bl k (j + 1) = (if (aget bl k).isNone then 1 else 0) + missing bl (k + 1) j
 | 0 => by rw [missing_step]; simp [missing]
 | j + 1 => by
  rw [missing_step, missing_head bl k j, missing_step, show k + (j + 1) = k + 1 + j by omega]
  omega
theorem missing_congr {bl bl' : List (Nat × List UInt8)} {k j : Nat} (h : ∀ i, i < j → (aget bl (k + i)).isNone = (aget bl' (k + i)).isNone) : missing bl k j = missing bl' k j := by
 unfold missing
 exact List.countP_congr fun i hi => by rw [h i (by simpa using hi)]
theorem len_wr1 (bl : List (Nat × List UInt8)) (a : Nat) (b : List UInt8) : (wr1 bl a b).length = bl.length + if (aget bl (a / 16)).isNone then 1 else 0 := by
 unfold wr1
 rw [len_put]
 cases aget bl (a / 16) <;> simp
theorem len_wrL : ∀ (f : Nat) (bl : List (Nat × List UInt8)) (a : Nat) (b : List UInt8), b.length ≤ f → 0 < b.length →
  (wrL f bl a b).length = bl.length + missing bl (a / 16) ((a + b.length - 1) / 16 - a / 16 + 1)
 | 0, _, _, b, h, h0 => by omega
 | f + 1, bl, a, b, h, h0 => by
  rw [wrL, if_neg (by omega)]
  have hd := List.length_drop (i := 16 - a % 16) (l := b)
  by_cases hs : b.length ≤ 16 - a % 16
  ·have hz : (b.drop (16 - a % 16)) = [] := List.drop_eq_nil_of_le hs
   rw [hz]
   have hw : wrL f (wr1 bl a b) (a + min b.length (16 - a % 16)) [] = wr1 bl a b := by cases f <;> simp [wrL]
   rw [hw, len_wr1, show (a + b.length - 1) / 16 - a / 16 + 1 = 0 + 1 by omega, missing_head]
   simp [missing]
  ·rw [len_wrL f _ _ _ (by omega) (by omega), len_wr1, hd]
   obtain ⟨J, hJ⟩ : ∃ J, (a + b.length - 1) / 16 - a / 16 = J + 1 := ⟨(a + b.length - 1) / 16 - a / 16 - 1, by omega⟩
   rw [hJ, missing_head bl (a / 16) (J + 1), show (a + min b.length (16 - a % 16)) / 16 = a / 16 + 1 by omega,
    show (a + min b.length (16 - a % 16) + (b.length - (16 - a % 16)) - 1) / 16 - (a / 16 + 1) + 1 = J + 1 by omega,
    missing_congr (bl := wr1 bl a b) (bl' := bl) (fun i _ => by unfold wr1; rw [aget_put, if_neg (by omega)])]
   omega
theorem room_write {bl : List (Nat × List UInt8)} (a : Int) (b : List UInt8) : (wrBl bl a b).length = bl.length + needN bl a b.length := by
 unfold wrBl needN
 by_cases hf : fitsB a b.length = true
 ·rw [if_pos hf]
  rcases Nat.eq_zero_or_pos b.length with h0 | h0
  ·rw [if_neg (by omega), h0]; rfl
  ·rw [if_pos ⟨hf, h0⟩]
   exact len_wrL _ _ _ _ (Nat.le_refl _) h0
 ·rw [if_neg hf, if_neg (fun h => hf h.1)]; rfl
def Inv (size : Nat) (bl : List (Nat × List UInt8)) : Prop := ∀ p ∈ bl, p.1 * 16 < size
theorem wrL_keys (P : Nat → Prop) : ∀ (f : Nat) (bl : List (Nat × List UInt8)) (a : Nat) (b : List UInt8), (∀ p ∈ bl, P p.1) → (∀ k, k * 16 < a + b.length → P k) → ∀ p ∈ wrL f bl a b, P p.1
 | 0, _, _, _, h, _ => h
 | f + 1, bl, a, b, h, hk => by
  rw [wrL]
  split
  ·exact h
  ·refine wrL_keys P f _ _ _ (fun p hp => ?_) (fun k hk' => hk k ?_)
   ·rcases put_mem hp with hp | rfl
    ·exact h p hp
    ·exact hk _ (by show a / 16 * 16 < _; omega)
   ·rw [List.length_drop] at hk'
    omega
theorem inv_write {size : Nat} {bl : List (Nat × List UInt8)} (h : Inv size bl) (a : Int) (b : List UInt8) : Inv (wrSize size a b.length) (wrBl bl a b) := by
 unfold wrSize wrBl
 by_cases hf : fitsB a b.length = true
 ·rcases Nat.eq_zero_or_pos b.length with h0 | h0
  ·rw [if_neg (by omega), if_pos hf, h0]
   exact h
  ·rw [if_pos ⟨hf, h0⟩, if_pos hf]
   exact wrL_keys (fun k => k * 16 < max size (a.toNat + b.length)) _ _ _ _ (fun p hp => by have := h p hp; omega) (fun k hk => by omega)
 ·rw [if_neg (fun h => hf h.1), if_neg hf]
  exact h
theorem zr1_mem {bl : List (Nat × List UInt8)} {k f t : Nat} {p : Nat × List UInt8} (h : p ∈ zr1 bl k f t) : ∃ q ∈ bl, q.1 = p.1 := by
 unfold zr1 at h
 cases hg : aget bl k with
 | none => rw [hg] at h; exact ⟨p, h, rfl⟩
 | some v =>
  rw [hg] at h
  simp only at h
  split at h
  ·exact ⟨p, h, rfl⟩
  ·split at h
   ·exact ⟨p, (List.mem_filter.1 h).1, rfl⟩
   ·rcases put_mem h with h | rfl
    ·exact ⟨p, h, rfl⟩
    ·exact ⟨(k, v), aget_mem hg, rfl⟩
theorem wp1_mem {bl : List (Nat × List UInt8)} {k f t : Nat} {p : Nat × List UInt8} (h : p ∈ wp1 f t bl k) : ∃ q ∈ bl, q.1 = p.1 := by
 unfold wp1 at h
 split at h
 ·exact zr1_mem h
 ·exact ⟨p, h, rfl⟩
theorem fold_mem {f t : Nat} : ∀ (ks : List Nat) (bl : List (Nat × List UInt8)) {p : Nat × List UInt8}, p ∈ ks.foldl (wp1 f t) bl → ∃ q ∈ bl, q.1 = p.1
 | [], _, p, h => ⟨p, h, rfl⟩
 | k :: ks, bl, p, h => by
  obtain ⟨q, hq, e⟩ := fold_mem ks _ h
  obtain ⟨r, hr, e'⟩ := wp1_mem hq
  exact ⟨r, hr, e'.trans e⟩
theorem wp1_gone {bl : List (Nat × List UInt8)} {k f t : Nat} (h1 : f ≤ k * 16) (h2 : k * 16 + 16 ≤ t) : ∀ p ∈ wp1 f t bl k, p.1 ≠ k := by
 intro p hp
 unfold wp1 at hp
 rw [if_pos ⟨by omega, by omega⟩] at hp
 unfold zr1 at hp
 cases hg : aget bl k with
 | none => rw [hg] at hp; exact aget_none.1 hg p hp
 | some v =>
  rw [hg] at hp
  simp only at hp
  rw [if_neg (by omega), if_pos ⟨by omega, by omega⟩] at hp
  have := (List.mem_filter.1 hp).2
  simpa using this
theorem fold_gone {f t : Nat} : ∀ (ks : List Nat) (bl : List (Nat × List UInt8)) {k : Nat}, k ∈ ks → f ≤ k * 16 → k * 16 + 16 ≤ t → ∀ p ∈ ks.foldl (wp1 f t) bl, p.1 ≠ k
 | [], _, k, h, _, _ => by simp at h
 | j :: ks, bl, k, h, h1, h2 => by
  intro p hp
  rcases List.mem_cons.1 h with rfl | h
  ·obtain ⟨q, hq, e⟩ := fold_mem ks _ hp
   rw [← e]
   exact wp1_gone h1 h2 q hq
  ·exact fold_gone ks _ h h1 h2 p hp
theorem inv_cut {size : Nat} {bl : List (Nat × List UInt8)} (h : Inv size bl) (n : Int) : Inv (cutSize size n) (cutBl size bl n) := by
 unfold cutSize cutBl
 by_cases hc : cutOk n = true
 ·rw [if_pos hc]
  by_cases hlt : n.toNat < size
  ·rw [if_pos ⟨hc, hlt⟩]
   intro p hp
   obtain ⟨q, hq, e⟩ := fold_mem _ _ hp
   apply Decidable.byContradiction
   intro hge
   refine fold_gone (keysS bl) bl (k := p.1) ?_ (by omega) ?_ p hp rfl
   ·rw [(keysS_perm bl).mem_iff, ← e]
    exact List.mem_map.2 ⟨q, hq, rfl⟩
   ·have := h q hq
    rw [e] at this
    unfold wholeN
    omega
  ·rw [if_neg (fun h => hlt h.2)]
   intro p hp
   have := h p hp
   omega
 ·rw [if_neg hc, if_neg (fun h => hc h.1)]
  exact h
end Go.Proofs.YtpcjmefchclhhaaGreat

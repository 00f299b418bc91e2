/- A part of the proof. -/
import Derived.Test.YtpcjmefchclhhaaGreatZShK
namespace Go.Proofs.YtpcjmefchclhhaaGreat
open Go.RowKit Go.MapKept
theorem cont_put (bl : List (Nat × List UInt8)) (k : Nat) (v : List UInt8) (j : Nat) : cont (aput bl k v) j = if j = k then v else cont bl j := by
 unfold cont
 rw [aget_put]
 split <;> rfl
theorem cont_del (bl : List (Nat × List UInt8)) (k j : Nat) : cont (adel bl k) j = if j = k then List.replicate 16 0 else cont bl j := by
 unfold cont
 rw [aget_del]
 split <;> rfl
theorem getD_rep (n i : Nat) : (List.replicate n (0 : UInt8)).getD i 0 = 0 := by
 rw [List.getD_eq_getElem?_getD, List.getElem?_replicate]
 split <;> rfl
theorem getD_splice (L : List UInt8) (o : Nat) (cs : List UInt8) (h : o + cs.length ≤ L.length) (j : Nat) :
  (splice L o cs).getD j 0 = if o ≤ j ∧ j < o + cs.length then cs.getD (j - o) 0 else L.getD j 0 := by
 unfold splice
 simp only [List.getD_eq_getElem?_getD]
 by_cases h1 : j < o
 ·rw [if_neg (by omega), List.getElem?_append_left (by rw [List.length_take]; omega), List.getElem?_take, if_pos h1]
 ·rw [List.getElem?_append_right (by rw [List.length_take]; omega), List.length_take, show min o L.length = o by omega]
  by_cases h2 : j < o + cs.length
  ·rw [if_pos ⟨by omega, h2⟩, List.getElem?_append_left (by omega)]
  ·rw [if_neg (by omega), List.getElem?_append_right (by omega), List.getElem?_drop, show o + cs.length + (j - o - cs.length) = j by omega]
theorem byteAt_wr1 {bl : List (Nat × List UInt8)} (hf : ∀ p ∈ bl, p.2.length = 16) (a : Nat) (b : List UInt8) (i : Nat) :
  byteAt (wr1 bl a b) i = if a ≤ i ∧ i < a + min b.length (16 - a % 16) then b.getD (i - a) 0 else byteAt bl i := by
 have hl := cont_len hf (a / 16)
 unfold byteAt wr1
 rw [cont_put]
 by_cases h1 : i / 16 = a / 16
 ·rw [if_pos h1, getD_splice _ _ _ (by rw [hl, List.length_take]; omega), List.length_take, h1]
  by_cases h2 : a ≤ i ∧ i < a + min b.length (16 - a % 16)
  ·rw [if_pos h2, if_pos ⟨by omega, by omega⟩, List.getD_eq_getElem?_getD, List.getElem?_take, if_pos (by omega), ← List.getD_eq_getElem?_getD, show i % 16 - a % 16 = i - a by omega]
  ·rw [if_neg h2, if_neg (by omega)]
 ·rw [if_neg h1, if_neg (by omega)]
theorem byteAt_wrL : ∀ (f : Nat) {bl : List (Nat × List UInt8)} (a : Nat) (b : List UInt8), (∀ p ∈ bl, p.2.length = 16) → b.length ≤ f → ∀ i,
  byteAt (wrL f bl a b) i = if a ≤ i ∧ i < a + b.length then b.getD (i - a) 0 else byteAt bl i
 | 0, bl, a, b, _, h, i => by rw [if_neg (by omega)]; rfl
 | f + 1, bl, a, b, hf, h, i => by
  rw [wrL]
  by_cases h0 : b.length = 0
  ·rw [if_pos h0, if_neg (by omega)]
  ·rw [if_neg h0, byteAt_wrL f _ _ (wr1_full hf a b) (by rw [List.length_drop]; omega), List.length_drop, byteAt_wr1 hf]
   by_cases h1 : a ≤ i ∧ i < a + b.length
   ·rw [if_pos h1]
    by_cases h2 : i < a + min b.length (16 - a % 16)
    ·rw [if_neg (by omega), if_pos ⟨h1.1, h2⟩]
    ·rw [if_pos ⟨by omega, by omega⟩, List.getD_eq_getElem?_getD, List.getElem?_drop, ← List.getD_eq_getElem?_getD, show 16 - a % 16 + (i - (a + min b.length (16 - a % 16))) = i - a by omega]
   ·rw [if_neg h1, if_neg (by omega), if_neg (by omega)]
def bhas (bl : List (Nat × List UInt8)) (k : Nat) : Bool := (aget bl k).isSome
theorem bhas_wr1 (bl : List (Nat × List UInt8)) (a : Nat) (b : List UInt8) (k : Nat) : bhas (wr1 bl a b) k = (decide (k = a / 16) || bhas bl k) := by
 unfold bhas wr1
 rw [aget_put]
 by_cases h : k = a / 16 <;> simp [h]
theorem bhas_wrL : ∀ (f : Nat) (bl : List (Nat × List UInt8)) (a : Nat) (b : List UInt8), b.length ≤ f → ∀ k,
  bhas (wrL f bl a b) k = (decide (0 < b.length ∧ a / 16 ≤ k ∧ k ≤ (a + b.length - 1) / 16) || bhas bl k)
 | 0, bl, a, b, h, k => by
  rw [decide_eq_false (by omega)]; rfl
 | f + 1, bl, a, b, h, k => by
  rw [wrL]
  by_cases h0 : b.length = 0
  ·rw [if_pos h0, decide_eq_false (by omega)]; rfl
  ·rw [if_neg h0, bhas_wrL f _ _ _ (by rw [List.length_drop]; omega), List.length_drop, bhas_wr1, ← Bool.or_assoc, ← Bool.decide_or]
   congr 1
   rw [decide_eq_decide]
   omega
theorem byteAt_zr1 {bl : List (Nat × List UInt8)} (hf : ∀ p ∈ bl, p.2.length = 16) (k f t : Nat) (ht : t ≤ 16) (i : Nat) :
  byteAt (zr1 bl k f t) i = if i / 16 = k ∧ f ≤ i % 16 ∧ i % 16 < t then 0 else byteAt bl i := by
 unfold zr1
 cases hg : aget bl k with
 | none =>
  simp only
  split
  ·rename_i h
   unfold byteAt cont
   rw [h.1, hg]
   exact getD_rep _ _
  ·rfl
 | some v =>
  have hv : v.length = 16 := hf _ (aget_mem hg)
  simp only
  by_cases h1 : t ≤ f
  ·rw [if_pos h1, if_neg (by omega)]
  ·rw [if_neg h1]
   by_cases h2 : f = 0 ∧ t = 16
   ·rw [if_pos h2]
    unfold byteAt
    rw [cont_del]
    by_cases h3 : i / 16 = k
    ·rw [if_pos h3, if_pos ⟨h3, by omega, by omega⟩]
     exact getD_rep _ _
    ·rw [if_neg h3, if_neg (by omega)]
   ·rw [if_neg h2]
    unfold byteAt
    rw [cont_put]
    by_cases h3 : i / 16 = k
    ·rw [if_pos h3, getD_splice _ _ _ (by rw [List.length_replicate]; omega), List.length_replicate, show f + (t - f) = t by omega]
     by_cases h4 : f ≤ i % 16 ∧ i % 16 < t
     ·rw [if_pos h4, if_pos ⟨h3, h4⟩]
      exact getD_rep _ _
     ·rw [if_neg h4, if_neg (by omega), h3]
      unfold cont
      rw [hg]; rfl
    ·rw [if_neg h3, if_neg (by omega)]
theorem bhas_zr1 (bl : List (Nat × List UInt8)) (k f t : Nat) (hft : f < t) (j : Nat) : bhas (zr1 bl k f t) j = (bhas bl j && !decide (j = k ∧ f = 0 ∧ t = 16)) := by
 unfold zr1 bhas
 cases hg : aget bl k with
 | none =>
  simp only
  by_cases h : j = k
  ·subst h; rw [hg]; rfl
  ·simp [h]
 | some v =>
  simp only
  rw [if_neg (by omega)]
  split
  ·rename_i h
   rw [aget_del]
   by_cases h3 : j = k
   ·simp [h3, h]
   ·simp [h3]
  ·rename_i h
   rw [aget_put]
   by_cases h3 : j = k
   ·subst h3; rw [hg]; simp [h]
   ·simp [h3]
theorem wp1_full {bl : List (Nat × List UInt8)} (hf : ∀ p ∈ bl, p.2.length = 16) (f t k : Nat) : ∀ p ∈ wp1 f t bl k, p.2.length = 16 := by
 intro p hp
 unfold wp1 at hp
 split at hp
 ·unfold zr1 at hp
  cases hg : aget bl k with
  | none => rw [hg] at hp; exact hf p hp
  | some v =>
   rw [hg] at hp
   simp only at hp
   split at hp
   ·exact hf p hp
   ·split at hp
    ·exact hf p (List.mem_filter.1 hp).1
    ·rcases put_mem hp with hp | rfl
     ·exact hf p hp
     ·have hv : v.length = 16 := hf _ (aget_mem hg)
      show (splice _ _ _).length = 16
      rw [length_splice _ _ _ (by rw [List.length_replicate]; omega), hv]
 ·exact hf p hp
theorem byteAt_wp1 {bl : List (Nat × List UInt8)} (hf : ∀ p ∈ bl, p.2.length = 16) (f t k i : Nat) :
  byteAt (wp1 f t bl k) i = if i / 16 = k ∧ f ≤ i ∧ i < t then 0 else byteAt bl i := by
 unfold wp1
 split
 ·rw [byteAt_zr1 hf _ _ _ (by omega)]
  by_cases h : i / 16 = k ∧ f ≤ i ∧ i < t
  ·rw [if_pos h, if_pos (by omega)]
  ·rw [if_neg h, if_neg (by omega)]
 ·rw [if_neg (by omega)]
theorem bhas_wp1 (bl : List (Nat × List UInt8)) (f t k j : Nat) (hft : f < t) : bhas (wp1 f t bl k) j = (bhas bl j && !decide (j = k ∧ f ≤ j * 16 ∧ j * 16 + 16 ≤ t)) := by
 unfold wp1
 split
 ·rw [bhas_zr1 _ _ _ _ (by omega)]
  congr 2
  rw [decide_eq_decide]
  omega
 ·rw [decide_eq_false (by omega)]; simp
theorem fold_full {f t : Nat} : ∀ (ks : List Nat) {bl : List (Nat × List UInt8)}, (∀ p ∈ bl, p.2.length = 16) → ∀ p ∈ ks.foldl (wp1 f t) bl, p.2.length = 16
 | [], _, h => h
 | k :: ks, _, h => fold_full ks (wp1_full h f t k)
theorem byteAt_fold {f t : Nat} : ∀ (ks : List Nat) {bl : List (Nat × List UInt8)}, (∀ p ∈ bl, p.2.length = 16) → ∀ i, byteAt (ks.foldl (wp1 f t) bl) i = if i / 16 ∈ ks ∧ f ≤ i ∧ i < t then 0 else byteAt bl i
 | [], bl, _, i => by simp
 | k :: ks, bl, h, i => by
  rw [List.foldl_cons, byteAt_fold ks (wp1_full h f t k), byteAt_wp1 h]
  by_cases h1 : f ≤ i ∧ i < t
  ·by_cases h2 : i / 16 ∈ ks
   ·rw [if_pos ⟨h2, h1⟩, if_pos ⟨List.mem_cons_of_mem _ h2, h1⟩]
   ·rw [if_neg (fun h => h2 h.1)]
    by_cases h3 : i / 16 = k
    ·rw [if_pos ⟨h3, h1⟩, if_pos ⟨by rw [h3]; exact List.mem_cons_self, h1⟩]
    ·rw [if_neg (fun h => h3 h.1), if_neg (fun h => by rcases List.mem_cons.1 h.1 with h | h <;> contradiction)]
  ·rw [if_neg (fun h => h1 h.2), if_neg (fun h => h1 h.2), if_neg (fun h => h1 h.2)]
theorem bhas_fold {f t : Nat} (hft : f < t) : ∀ (ks : List Nat) (bl : List (Nat × List UInt8)) (j : Nat), bhas (ks.foldl (wp1 f t) bl) j = (bhas bl j && !decide (j ∈ ks ∧ f ≤ j * 16 ∧ j * 16 + 16 ≤ t))
 | [], bl, j => by simp
 | k :: ks, bl, j => by
  rw [List.foldl_cons, bhas_fold hft ks, bhas_wp1 _ _ _ _ _ hft, Bool.and_assoc, ← Bool.not_or, ← Bool.decide_or]
  congr 2
  rw [decide_eq_decide, List.mem_cons]
  constructor
  ·rintro (⟨h1, h2⟩ | ⟨h1, h2⟩)
   ·exact ⟨.inl h1, h2⟩
   ·exact ⟨.inr h1, h2⟩
  ·rintro ⟨h1 | h1, h2⟩
   ·exact .inl ⟨h1, h2⟩
   ·exact .inr ⟨h1, h2⟩
theorem mem_keysS (bl : List (Nat × List UInt8)) (k : Nat) : k ∈ keysS bl ↔ bhas bl k = true := by
 rw [(keysS_perm bl).mem_iff]
 unfold bhas
 constructor
 ·intro h
  obtain ⟨p, hp, rfl⟩ := List.mem_map.1 h
  rw [Option.isSome_iff_ne_none]
  intro hn
  exact aget_none.1 hn p hp rfl
 ·intro h
  obtain ⟨v, hv⟩ := Option.isSome_iff_exists.1 h
  exact List.mem_map.2 ⟨_, aget_mem hv, rfl⟩
theorem byteAt_none {bl : List (Nat × List UInt8)} {i : Nat} (h : bhas bl (i / 16) = false) : byteAt bl i = 0 := by
 unfold bhas at h
 unfold byteAt cont
 rw [Option.isSome_eq_false_iff, Option.isNone_iff_eq_none] at h
 rw [h]
 exact getD_rep _ _
theorem byteAt_wipe {bl : List (Nat × List UInt8)} (hf : ∀ p ∈ bl, p.2.length = 16) (f t i : Nat) : byteAt (wipeL bl f t) i = if f ≤ i ∧ i < t then 0 else byteAt bl i := by
 unfold wipeL
 rw [byteAt_fold _ hf]
 by_cases h : f ≤ i ∧ i < t
 ·rw [if_pos h]
  by_cases hm : i / 16 ∈ keysS bl
  ·rw [if_pos ⟨hm, h⟩]
  ·rw [if_neg (fun h => hm h.1)]
   exact byteAt_none (Bool.eq_false_iff.2 fun hb => hm ((mem_keysS _ _).2 hb))
 ·rw [if_neg h, if_neg (fun h' => h h'.2)]
theorem bhas_wipe (bl : List (Nat × List UInt8)) (f t k : Nat) (hft : f < t) : bhas (wipeL bl f t) k = (bhas bl k && !decide (f ≤ k * 16 ∧ k * 16 + 16 ≤ t)) := by
 unfold wipeL
 rw [bhas_fold hft]
 cases hb : bhas bl k
 ·rfl
 ·rw [Bool.true_and, Bool.true_and]
  congr 1
  rw [decide_eq_decide]
  exact ⟨fun h => h.2, fun h => ⟨(mem_keysS _ _).2 hb, h⟩⟩
theorem rising_ext {l m : List Nat} (hl : l.Pairwise (· < ·)) (hm : m.Pairwise (· < ·)) (h : ∀ x, x ∈ l ↔ x ∈ m) : l = m := by
 refine List.Perm.eq_of_pairwise (le := fun a b : Nat => a < b) (fun a b _ _ h1 h2 => by omega) hl hm ?_
 exact (List.perm_ext_iff_of_nodup (hl.imp fun h => by omega) (hm.imp fun h => by omega)).2 h
theorem keysS_rising {bl : List (Nat × List UInt8)} (hn : (bl.map (·.1)).Nodup) : (keysS bl).Pairwise (· < ·) := by
 have h1 := keysS_sorted bl
 have h2 : (keysS bl).Nodup := (keysS_perm bl).nodup_iff.2 hn
 exact h1.imp₂ (fun a b h1 h2 => Nat.lt_of_le_of_ne h1 h2) h2
end Go.Proofs.YtpcjmefchclhhaaGreat

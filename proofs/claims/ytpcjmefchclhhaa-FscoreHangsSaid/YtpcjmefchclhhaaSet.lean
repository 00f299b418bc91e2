/- Parts of an owned slice's elements are set. -/
import Derived.Test.YtpcjmefchclhhaaRes
namespace Go.Proofs.Ytpcjmefchclhhaa
open Go.RowKit

theorem flat_set {α : Type} {f : α → List Value} {sz : Nat} (hl : ∀ x, (f x).length = sz) : ∀ (X : List α) (i j : Nat) (y : α) (u : Value) (hi : i < X.length), j < sz → f y = (f X[i]).set j u → (X.set i y).flatMap f = (X.flatMap f).set (i * sz + j) u
  | [], i, _, _, _, hi, _, _ => by simp at hi
  | x :: X, 0, j, y, u, _, hj, hy => by
    rw [List.set_cons_zero, List.flatMap_cons, List.flatMap_cons, Nat.zero_mul, Nat.zero_add, List.set_append, if_pos (by rw [hl]; exact hj), hy]
    rfl
  | x :: X, i + 1, j, y, u, hi, hj, hy => by
    rw [List.set_cons_succ, List.flatMap_cons, List.flatMap_cons, List.set_append, if_neg (by rw [hl, Nat.add_mul]; omega), hl, show (i + 1) * sz + j - sz = i * sz + j by rw [Nat.add_mul]; omega]
    congr 1
    exact flat_set hl X i j y u (by simpa using hi) hj hy
/-- A cell of an element of an owned slice is set. -/
theorem Own.setC {α : Type} {w : World} {base sz : Nat} {e : TypeId} {f : α → List Value} {X : List α} {b n c : Nat} (hl : ∀ x, (f x).length = sz) (h : Own w base e sz f (.slice (some ⟨b, 0, none⟩) n c) X) {i j : Nat} (hi : i < X.length) (hj : j < sz) (y : α) (u : Value) (hy : f y = (f X[i]).set j u) :
    Own (w.setCell ⟨b, i * sz + j, none⟩ u) base e sz f (.slice (some ⟨b, 0, none⟩) n c) (X.set i y) := by
  rcases h with ⟨h1, ⟨hv, h0⟩ | ⟨b', cap, cur, e1, hb, hg, hn, hc, hs, ht⟩⟩
  · cases hv
  · obtain ⟨e2, rfl, rfl⟩ := Value.slice.inj e1
    obtain rfl : b = b' := by injection e2 with e2; injection e2
    have hset := heap_setCell_same w b (i * sz + j) cur e u hg
    have hfl := flat_set hl X i j y u hi hj hy
    unfold Own
    rw [List.length_set]
    refine ⟨by rw [hfl, List.length_set]; exact h1, .inr ⟨b, c, _, rfl, hb, hset, hn, hc, by simpa using hs, ?_⟩⟩
    rw [hfl, ← ht, ← List.take_set]
    simp
theorem Own.cellC {α : Type} {w : World} {base sz : Nat} {e : TypeId} {f : α → List Value} {X : List α} {b n c : Nat} (hl : ∀ x, (f x).length = sz) (h : Own w base e sz f (.slice (some ⟨b, 0, none⟩) n c) X) {i j : Nat} (hi : i < X.length) {u : Value} (hu : (f X[i])[j]? = some u) :
    w.cell? ⟨b, i * sz + j, none⟩ = some u ∧ w.frozen? ⟨b, i * sz + j, none⟩ = false ∧ base ≤ b ∧ b < w.heap.size := by
  obtain ⟨g, c', e1, h1, h2, h3⟩ := h.get hl hi hu
  obtain ⟨e2, -, -⟩ := Value.slice.inj e1
  obtain rfl : b = g := by injection e2 with e2; injection e2
  refine ⟨h3, ?_, h1, h2⟩
  rcases h with ⟨_, ⟨hv, _⟩ | ⟨b', cap, cur, e1, hb, hg, _⟩⟩
  · cases hv
  · obtain ⟨e2, -, -⟩ := Value.slice.inj e1
    obtain rfl : b = b' := by injection e2 with e2; injection e2
    exact frozen_of_row w b _ cur e hg
theorem Own.mono {α : Type} {w : World} {base base' sz : Nat} {e : TypeId} {f : α → List Value} {v : Value} {l : List α} (h : Own w base e sz f v l) (hb : base' ≤ base) : Own w base' e sz f v l := by
  rcases h with ⟨h1, h2 | ⟨g, cap, cur, e1, h3, h4⟩⟩
  · exact ⟨h1, .inl h2⟩
  · exact ⟨h1, .inr ⟨g, cap, cur, e1, Nat.le_trans hb h3, h4⟩⟩
end Go.Proofs.Ytpcjmefchclhhaa

/- The element type that a block bears. -/
import Derived.Test.YtpcjmefchclhhaaSet
namespace Go.Proofs.Ytpcjmefchclhhaa
open Go.RowKit

/-- The slice's block, if there is one, bears the element type e. -/
def Tag (w : World) (e : TypeId) (A : Option Addr) : Prop := ∀ a, A = some a → ∃ cs fr, w.heap[a.block]? = some (.cells cs e fr)
theorem Tag.none (w : World) (e : TypeId) : Tag w e none := fun a h => by cases h
theorem Tag.below {w w' : World} {e : TypeId} {A : Option Addr} (h : Tag w e A) (hb : Below w.heap.size w w') : Tag w' e A := fun a ha => by
  obtain ⟨cs, fr, hc⟩ := h a ha
  exact ⟨cs, fr, (hb.block _ (Array.getElem?_eq_some_iff.1 hc).1).trans hc⟩
theorem Tag.grown {w w' : World} {e : TypeId} {A : Option Addr} {g : Nat} (h : Tag w e A) (hg : w.grownBy w' (some g)) {cs : Array Value} {t : TypeId} {fr : Nat × Nat} (hc : w.heap[g]? = some (.cells cs t fr)) (ht : t ≠ e) : Tag w' e A := fun a ha => by
  obtain ⟨cs', fr', hc'⟩ := h a ha
  refine ⟨cs', fr', (hg.block _ (Array.getElem?_eq_some_iff.1 hc').1 (fun e' => ?_)).trans hc'⟩
  injection e' with e'
  rw [e', hc] at hc'
  injection hc' with hc'
  injection hc' with _ e2 _
  exact ht e2
theorem Tag.ne {w : World} {e : TypeId} {A : Option Addr} {g : Nat} (h : Tag w e A) {o : Obj} (ho : w.heap[g]? = some o) (hne : ∀ cs fr, o ≠ .cells cs e fr) : ∀ a, A = some a → a.block ≠ g := fun a ha e' => by
  obtain ⟨cs, fr, hc⟩ := h a ha
  rw [e', ho] at hc
  injection hc with hc
  exact hne _ _ hc
theorem Own.tag {α : Type} {w : World} {base sz n c : Nat} {e : TypeId} {f : α → List Value} {A : Option Addr} {l : List α} (h : Own w base e sz f (.slice A n c) l) : Tag w e A := fun a ha => by
  subst ha
  rcases h.2 with ⟨hv, _⟩ | ⟨g, cap, cur, e1, _, hg, _⟩
  · cases hv
  · obtain ⟨e2, -, -⟩ := Value.slice.inj e1
    injection e2 with e2
    subst e2
    exact ⟨cur, _, hg⟩
end Go.Proofs.Ytpcjmefchclhhaa

/- A part of the proof. -/
import Derived.Test.YtpcjmefchclhhaaGreatRows
import Derived.WalkKit
import Derived.WalkSpells
import Derived.WalkLawsBesides
import Derived.Lib.Hide
import Derived.Laws.StructEq
import Derived.Deep.QuietTactic
import Derived.BigQuiet
namespace Go.Proofs.YtpcjmefchclhhaaGreat
open Go.RowKit
theorem add_block (a : Addr) (n : Nat) : (a.add n).block = a.block := by unfold Addr.add; split <;> rfl
theorem add_assoc' (a : Addr) (i j : Nat) : (a.add i).add j = a.add (i + j) := by
 unfold Addr.add
 by_cases hi : i = 0 <;> by_cases hj : j = 0 <;> simp [hi, hj, Nat.add_assoc]
def Rd {α : Type} (w : World) (B sz : Nat) (f : α → List Value) (A : Option Addr) (l : List α) : Prop :=
 ∀ (i : Nat) (x : α), l[i]? = some x → ∃ a, A = some a ∧ a.block < B ∧ ∀ (j : Nat) (v : Value), (f x)[j]? = some v → w.cell? ((a.add (i * sz)).add j) = some v
section
variable {α : Type} {w w' : World} {B B' sz : Nat} {f : α → List Value} {A : Option Addr} {a : Addr} {l : List α}
theorem Rd.nil (w : World) (B sz : Nat) (f : α → List Value) (A : Option Addr) : Rd w B sz f A [] := fun i x h => by simp at h
theorem Rd.keep (h : Rd w B sz f A l) (hk : ∀ p : Addr, p.block < B → w'.cell? p = w.cell? p) : Rd w' B sz f A l := fun i x hx => by
 obtain ⟨a, e, hb, hc⟩ := h i x hx
 exact ⟨a, e, hb, fun j v hv => (hk _ (by rw [add_block, add_block]; exact hb)).trans (hc j v hv)⟩
theorem Rd.more (h : Rd w B sz f A l) (hB : B ≤ B') : Rd w B' sz f A l := fun i x hx => by
 obtain ⟨a, e, hb, hc⟩ := h i x hx
 exact ⟨a, e, Nat.lt_of_lt_of_le hb hB, hc⟩
theorem Rd.below (h : Rd w B sz f A l) (hb : Below B w w') : Rd w' B sz f A l := h.keep fun _ hp => hb.cell hp
theorem Rd.drew (h : Rd w B sz f A l) : Rd w.drew B sz f A l := h
theorem Rd.alloc (h : Rd w B sz f A l) (hB : B ≤ w.heap.size) (o : Obj) : Rd (w.alloc o) B sz f A l := h.keep fun p hp => World.cell?_alloc_lt w o p (by omega)
theorem Rd.take (h : Rd w B sz f A l) (n : Nat) : Rd w B sz f A (l.take n) := fun i x hx => h i x (by
 rw [List.getElem?_take] at hx
 split at hx
 ·exact hx
 ·cases hx)
theorem Rd.addr (h : Rd w B sz f A l) {i : Nat} (hi : i < l.length) : ∃ a, A = some a ∧ a.block < B := by
 obtain ⟨a, e, hb, _⟩ := h i l[i] (List.getElem?_eq_getElem hi)
 exact ⟨a, e, hb⟩
theorem Rd.cell (h : Rd w B sz f (some a) l) {i : Nat} (hi : i < l.length) {j : Nat} {v : Value} (hv : (f l[i])[j]? = some v) : w.cell? ((a.add (i * sz)).add j) = some v := by
 obtain ⟨a', e, hb, hc⟩ := h i l[i] (List.getElem?_eq_getElem hi)
 injection e with e
 subst e
 exact hc j v hv
theorem Rd.lt (h : Rd w B sz f (some a) l) {i : Nat} (hi : i < l.length) : a.block < B := by
 obtain ⟨a', e, hb, _⟩ := h i l[i] (List.getElem?_eq_getElem hi)
 injection e with e
 subst e
 exact hb
end
theorem add_zero_at (g n : Nat) : (⟨g, 0, none⟩ : Addr).add n = ⟨g, n, none⟩ := by unfold Addr.add; split <;> simp_all
theorem cell_at {w : World} {g : Nat} {cs : Array Value} {t : TypeId} {fr : Nat × Nat} (hg : w.heap[g]? = some (.cells cs t fr)) (i : Nat) : w.cell? ⟨g, i, none⟩ = cs[i]? := by
 simp [World.cell?, hg]
theorem rd_block {α : Type} {w : World} {B sz g : Nat} {f : α → List Value} {l : List α} {cs : Array Value} {t : TypeId} {fr : Nat × Nat} (hg : w.heap[g]? = some (.cells cs t fr)) (hB : g < B)
  (hc : ∀ i x, l[i]? = some x → ∀ j v, (f x)[j]? = some v → cs[i * sz + j]? = some v) : Rd w B sz f (some ⟨g, 0, none⟩) l := fun i x hx =>
 ⟨_, rfl, hB, fun j v hv => by rw [add_zero_at]; show w.cell? (Addr.add ⟨g, i * sz, none⟩ j) = _
                               have e : (Addr.add ⟨g, i * sz, none⟩ j) = ⟨g, i * sz + j, none⟩ := by unfold Addr.add; split <;> simp_all
                               rw [e, cell_at hg]
                               exact hc i x hx j v hv⟩
def eqF (d : Nat) (xs ys : Array Value) : List (String × TypeId × Nat) → Sem Bool
 | [] => pure true
 | (n, t, o) :: fs =>
  if n ≠ "_" then do
   let a ← part t xs o
   let b ← part t ys o
   let r ← Op.equalIn d t a b
   if (!r) = true then pure false else eqF d xs ys fs
  else eqF d xs ys fs
theorem eqF_of (d : Nat) (xs ys : Array Value) (fs : List Field) : Op.eqFields d xs ys fs = eqF d xs ys (fs.map fun f => (f.name, f.type, f.offset)) := by
 induction fs with
 | nil => rfl
 | cons f fs ih => simp only [Op.eqFields, eqF, List.map_cons, ih]
theorem run_neq_fields {P : Program} (w : World) {t : TypeId} {L : List (String × TypeId × Nat)} (ht : P.underlying t = some (.struct (P.fieldsOf t))) (hp : P.stoodInHeld t = false)
  (hL : (P.fieldsOf t).toList.map (fun f => (f.name, f.type, f.offset)) = L) (xs ys : Array Value) :
  (binOp .neq t (.agg xs) (.agg ys)).run P w = ((eqF 9999 xs ys L).run P w).andThen fun b w' => .ok (.bool (!b)) w' := by
 rw [run_neq_struct, run_equalIn_struct w 9999 _ _ _ ht hp, eqF_of, hL]
theorem ret_int {k : IntKind} {a b : Int} (h : a = b) : Ending.returned (.int k a) = .returned (.int k b) := by rw [h]
theorem ret_bool {a b : Bool} (h : a = b) : Ending.returned (.bool a) = .returned (.bool b) := by rw [h]
end Go.Proofs.YtpcjmefchclhhaaGreat

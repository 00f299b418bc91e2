/- Slices that a call makes and appends to, element by element, whatever the element's size. -/
import Derived.Test.YtpcjmefchclhhaaRow
import Derived.Test.YtpcjmefchclhhaaPure
import Derived.Laws.AppendOwnNone
namespace Go.Proofs.Ytpcjmefchclhhaa
open Go.RowKit

/-- What is told of a slice type: its element's type, cells, bytes, zero. -/
structure SlT {α : Type} (t e : TypeId) (sz bytes : Nat) (f : α → List Value) : Prop where
  under : Try.prog.underlying t = some (.slice e)
  info : ∃ z, (Try.prog.info? e).map (fun i => (i.zero, i.size, i.bytes)) = some (some z, sz, bytes) ∧ z.cells.size = sz
  pos : 0 < sz
  len : ∀ x, (f x).length = sz
  one : ∀ x, ∀ u ∈ f x, u.oneCell' = true

/-- The slice value v is the call's own (its block lies from 'base' on) and holds l. -/
def Own {α : Type} (w : World) (base : Nat) (e : TypeId) (sz : Nat) (f : α → List Value) (v : Value) (l : List α) : Prop :=
  w.ownsRow base e sz v l.length (l.flatMap f)

section
variable {α : Type} {w w' : World} {base : Nat} {t e : TypeId} {sz bytes : Nat} {f : α → List Value} {v : Value} {l : List α}

theorem flat_len (hl : ∀ x, (f x).length = sz) (l : List α) : (l.flatMap f).length = l.length * sz := by
  induction l with
  | nil => simp
  | cons x l ih => rw [List.flatMap_cons, List.length_append, hl, ih, List.length_cons]; rw [Nat.add_mul]; omega
theorem flat_get (hl : ∀ x, (f x).length = sz) : ∀ (l : List α) (i : Nat) (x : α), l[i]? = some x → ∀ (j : Nat) (u : Value), (f x)[j]? = some u → (l.flatMap f)[i * sz + j]? = some u
  | [], i, x, h, _, _, _ => by simp at h
  | y :: l, 0, x, h, j, u, hu => by
    simp only [List.getElem?_cons_zero, Option.some.injEq] at h
    subst h
    rw [List.flatMap_cons, Nat.zero_mul, Nat.zero_add, List.getElem?_append_left (List.getElem?_eq_some_iff.1 hu).1]
    exact hu
  | y :: l, i + 1, x, h, j, u, hu => by
    rw [List.flatMap_cons, List.getElem?_append_right (by rw [hl, Nat.add_mul]; omega), hl, show (i + 1) * sz + j - sz = i * sz + j by rw [Nat.add_mul]; omega]
    exact flat_get hl l i x (by simpa using h) j u hu

theorem Own.nil (w : World) (base : Nat) (e : TypeId) (sz : Nat) (f : α → List Value) : Own w base e sz f (.slice none 0 0) [] := World.ownsRow_nil w base e sz
theorem Own.empty (w : World) (base : Nat) (e : TypeId) (sz : Nat) (f : α → List Value) {g : Nat} (hg : w.heap.size = g) (hb : base ≤ g) : Own (w.alloc (.cells #[] e)) base e sz f (.slice (some ⟨g, 0, none⟩) 0 0) [] := by
  subst hg
  exact World.ownsRow_made w #[] 0 hb (by simp [maxLen]) (by simp)
theorem Own.kept (h : Own w base e sz f v l) {row : Option Nat} (hg : w.grownBy w' row) (hne : v.ownBlock = none ∨ v.ownBlock ≠ row) : Own w' base e sz f v l := World.ownsRow.kept h hg hne
theorem Own.below (h : Own w base e sz f v l) {B : Nat} (hb : Below B w w') (hB : w.heap.size ≤ B) : Own w' base e sz f v l := by
  refine World.ownsRow.kept (row := none) h ⟨hb.os, hb.tape, hb.output, hb.size, fun k hk _ => hb.block k (Nat.lt_of_lt_of_le hk hB)⟩ ?_
  cases hv : v.ownBlock <;> simp
theorem Own.alloc (h : Own w base e sz f v l) (o : Obj) : Own (w.alloc o) base e sz f v l := World.ownsRow.alloc h o
theorem Own.drew (h : Own w base e sz f v l) : Own w.drew base e sz f v l := h
theorem Own.lt (h : Own w base e sz f v l) : ∀ k, v.ownBlock = some k → base ≤ k ∧ k < w.heap.size := World.ownsRow.lt h
theorem Own.val (h : Own w base e sz f v l) : ∃ A c, v = .slice A l.length c ∧ l.length ≤ c ∧ c ≤ maxLen ∧ (∀ a, A = some a → a.off = 0 ∧ base ≤ a.block ∧ a.block < w.heap.size) ∧ (A = none → l = []) := by
  rcases h.2 with ⟨rfl, h0⟩ | ⟨g, cap, cur, rfl, hb, hg, hn, hc, _⟩
  · exact ⟨none, 0, by rw [h0], by omega, by simp [maxLen], fun a ha => by simp at ha, fun _ => List.eq_nil_of_length_eq_zero h0⟩
  · exact ⟨_, cap, rfl, hn, hc, fun a ha => by injection ha with ha; subst ha; exact ⟨rfl, hb, (Array.getElem?_eq_some_iff.1 hg).1⟩, fun h => by cases h⟩
theorem Own.rd (h : Own w base e sz f v l) (hl : ∀ x, (f x).length = sz) : ∃ A c, v = .slice A l.length c ∧ l.length ≤ c ∧ c ≤ maxLen ∧ Rd w w.heap.size sz f A l ∧ ∀ a, A = some a → base ≤ a.block := by
  rcases h.2 with ⟨rfl, h0⟩ | ⟨g, cap, cur, rfl, hb, hg, hn, hc, hs, ht⟩
  · have : l = [] := List.eq_nil_of_length_eq_zero h0
    subst this
    exact ⟨none, 0, rfl, by omega, by simp [maxLen], Rd.nil _ _ _ _ _, fun a ha => by cases ha⟩
  · refine ⟨_, cap, rfl, hn, hc, rd_block hg (Array.getElem?_eq_some_iff.1 hg).1 fun i x hx j u hu => ?_, fun a ha => by injection ha with ha; subst ha; exact hb⟩
    have h1 := flat_get hl l i x hx j u hu
    rw [← ht, List.getElem?_take] at h1
    split at h1
    · simpa using h1
    · cases h1
theorem Own.rd0 (h : Own w base e sz f v l) (hl : ∀ x, (f x).length = sz) : ∃ A c, v = .slice A l.length c ∧ l.length ≤ c ∧ (A = none → c = 0) ∧ Rd w w.heap.size sz f A l ∧ ∀ a, A = some a → base ≤ a.block := by
  rcases h.2 with ⟨rfl, h0⟩ | ⟨g, cap, cur, rfl, hb, hg, hn, hc, hs, ht⟩
  · have : l = [] := List.eq_nil_of_length_eq_zero h0
    subst this
    exact ⟨none, 0, rfl, by omega, fun _ => rfl, Rd.nil _ _ _ _ _, fun a ha => by cases ha⟩
  · obtain ⟨A, c, e1, h1, _, h3, h4⟩ := Own.rd h hl
    obtain ⟨rfl, _, rfl⟩ := Value.slice.inj e1
    exact ⟨_, _, rfl, h1, (fun h => by cases h), h3, h4⟩
theorem Own.get (h : Own w base e sz f v l) (hl : ∀ x, (f x).length = sz) {i : Nat} (hi : i < l.length) {j : Nat} {u : Value} (hu : (f l[i])[j]? = some u) : ∃ g c, v = .slice (some ⟨g, 0, none⟩) l.length c ∧ base ≤ g ∧ g < w.heap.size ∧ w.cell? ⟨g, i * sz + j, none⟩ = some u := by
  rcases h.2 with ⟨rfl, h0⟩ | ⟨g, cap, cur, rfl, hb, hg, hn, hc, hs, ht⟩
  · omega
  · refine ⟨g, cap, rfl, hb, (Array.getElem?_eq_some_iff.1 hg).1, ?_⟩
    have h1 := flat_get hl l i l[i] (List.getElem?_eq_getElem hi) j u hu
    rw [← ht, List.getElem?_take] at h1
    rw [cell_at hg]
    split at h1
    · simpa using h1
    · cases h1

theorem Below.grownBy {B : Nat} {w0 w w' : World} {row : Option Nat} (h : Below B w0 w) (hg : w.grownBy w' row) (hB : B ≤ w.heap.size) (hr : ∀ k, row = some k → B ≤ k) : Below B w0 w' := Below.grown h hg hB hr
theorem Own.grown {B : Nat} {w0 : World} (h : Own w base e sz f v l) (hb : Below B w0 w) (hg : w.grownBy w' v.ownBlock) (hB : B ≤ base) (hs : B ≤ w.heap.size) : Below B w0 w' :=
  Below.grown hb hg hs (fun k hk => Nat.le_trans hB (h.lt k hk).1)

/-- 'append(s, y)', y laid into a block of its own just before. -/
theorem wpList_app1 {ops : Array Oper} {rest : List Oper} {o : Oper} {a : Act} {Q : Exit → Act → World → Prop} (hgd : o.guard = none) (s x : Operand) (t : TypeId)
    (ho : o.op = .call { callee := .builtin .append, args := #[s, x], argTypes := #[t, t] }) (e : TypeId) (sz bytes : Nat) (f : α → List Value) (T : SlT t e sz bytes f)
    (w : World) (base : Nat) (v : Value) (l : List α) (y : α) (cs : Array Value) (et : TypeId) (fr : Nat × Nat) (hs : a.eval s = v) (hx : a.eval x = .slice (some ⟨w.heap.size, 0, none⟩) 1 1) (hcs : cs.toList = f y)
    (hown : Own w base e sz f v l) (h63 : l.length + 1 ≤ maxLen) (hbytes : (l.length + 1) * bytes ≤ 140737488355328) (hbase : base ≤ w.heap.size)
    (h : ∀ v' w', Own w' base e sz f v' (l ++ [y]) → w.grownBy w' v.ownBlock → wpList Try.prog ops Q rest (a.put o.dst v') w') :
    wpList Try.prog ops Q (o :: rest) a (w.alloc (.cells cs et fr)) := by
  obtain ⟨z, hz, hzs⟩ := T.info
  obtain ⟨i, hi, h1, h2, h3⟩ := info_parts hz
  refine wpList_append_own _ hgd s x t ho base e i z sz bytes T.under hi h1 h2 h3 hzs T.pos v l.length (l.flatMap f) hs (hown.alloc _) ⟨w.heap.size, 0, none⟩ 1 1 (f y) hx (by rw [T.len]; omega) ?_ (T.one y) h63 hbytes (by simp; omega) ?_
  · intro j u hu
    rw [add_zero_at, cell_at (heap_alloc_new w _)]
    rw [← hcs] at hu
    simpa using hu
  · intro v' w' hown' hgr _
    refine h v' w' ?_ ?_
    · unfold Own
      rw [List.length_append, List.flatMap_append]
      simpa using hown'
    · exact ⟨hgr.os, hgr.tape, hgr.output, Nat.le_trans (by simp) hgr.size, fun k hk hne => (hgr.block k (by simp; omega) hne).trans (Below.heap_alloc w _ k hk)⟩

/-- 'append(s, r...)', r a slice that is read. -/
theorem wpList_appL {ops : Array Oper} {rest : List Oper} {o : Oper} {a : Act} {Q : Exit → Act → World → Prop} (hgd : o.guard = none) (s x : Operand) (t : TypeId)
    (ho : o.op = .call { callee := .builtin .append, args := #[s, x], argTypes := #[t, t] }) (e : TypeId) (sz bytes : Nat) (f : α → List Value) (T : SlT t e sz bytes f)
    (w : World) (base : Nat) (v : Value) (l r : List α) (A : Option Addr) (c B : Nat) (hs : a.eval s = v) (hx : a.eval x = .slice A r.length c)
    (hown : Own w base e sz f v l) (hrd : Rd w B sz f A r) (hA : A = none → c = 0) (h63 : l.length + r.length ≤ maxLen) (hbytes : (l.length + r.length) * bytes ≤ 140737488355328) (hbase : base ≤ w.heap.size)
    (h : ∀ v' w', Own w' base e sz f v' (l ++ r) → w.grownBy w' v.ownBlock → wpList Try.prog ops Q rest (a.put o.dst v') w') :
    wpList Try.prog ops Q (o :: rest) a w := by
  obtain ⟨z, hz, hzs⟩ := T.info
  obtain ⟨i, hi, h1, h2, h3⟩ := info_parts hz
  cases A with
  | none =>
    have hr : r = [] := by
      cases r with
      | nil => rfl
      | cons y r => obtain ⟨a', e', _⟩ := hrd 0 y rfl; cases e'
    subst hr
    obtain rfl := hA rfl
    have hk := h v w (by rw [List.append_nil]; exact hown) (World.grownBy.refl _ _)
    exact wpList_append_own_none hgd s x t ho base e i sz T.under hi v l.length (l.flatMap f) hs hown hx hk
  | some ad =>
    refine wpList_append_own _ hgd s x t ho base e i z sz bytes T.under hi h1 h2 h3 hzs T.pos v l.length (l.flatMap f) hs hown ad r.length c (r.flatMap f) hx (flat_len T.len r) ?_ (fun u hu => ?_) h63 hbytes hbase ?_
    · intro j u hu
      have hj := (List.getElem?_eq_some_iff.1 hu).1
      rw [flat_len T.len] at hj
      have hpos := T.pos
      have hi : j / sz < r.length := Nat.div_lt_of_lt_mul (by rw [Nat.mul_comm]; exact hj)
      have hjm := Nat.mod_lt j hpos
      have hfl : j % sz < (f r[j / sz]).length := by rw [T.len]; exact hjm
      have e1 := flat_get T.len r (j / sz) _ (List.getElem?_eq_getElem hi) (j % sz) _ (List.getElem?_eq_getElem hfl)
      rw [Nat.div_add_mod' j sz] at e1
      rw [hu] at e1
      have e2 := hrd.cell hi (List.getElem?_eq_getElem hfl)
      rw [add_assoc', Nat.div_add_mod' j sz] at e2
      rw [e2, e1]
    · obtain ⟨y, _, hy⟩ := List.mem_flatMap.1 hu
      exact T.one y u hy
    · intro v' w' hown' hgr _
      refine h v' w' ?_ hgr
      unfold Own
      rw [List.length_append, List.flatMap_append]
      exact hown'
end
end Go.Proofs.Ytpcjmefchclhhaa

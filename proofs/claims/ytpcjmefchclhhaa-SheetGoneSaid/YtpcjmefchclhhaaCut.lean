/- 'append(s[k:], r...)' onto a slice that has no room: what is told is only what is read of the result. -/
import Derived.Test.YtpcjmefchclhhaaOwn
import Derived.ArgAppend
namespace Go.Proofs.Ytpcjmefchclhhaa
open Go.RowKit

theorem rd_flat {α : Type} {w : World} {B sz : Nat} {f : α → List Value} {a : Addr} {l : List α} (hl : ∀ x, (f x).length = sz) (hpos : 0 < sz) (h : Rd w B sz f (some a) l) : ∀ j u, (l.flatMap f)[j]? = some u → w.cell? (a.add j) = some u := by
  intro j u hu
  have hj := (List.getElem?_eq_some_iff.1 hu).1
  rw [flat_len hl] at hj
  have hi : j / sz < l.length := Nat.div_lt_of_lt_mul (by rw [Nat.mul_comm]; exact hj)
  have hfl : j % sz < (f l[j / sz]).length := by rw [hl]; exact Nat.mod_lt j hpos
  have e1 := flat_get hl l (j / sz) _ (List.getElem?_eq_getElem hi) (j % sz) _ (List.getElem?_eq_getElem hfl)
  rw [Nat.div_add_mod' j sz, hu] at e1
  have e2 := h.cell hi (List.getElem?_eq_getElem hfl)
  rw [add_assoc', Nat.div_add_mod' j sz] at e2
  rw [e2, e1]
/-- 'append(s, r...)', s a slice that is read and has no room. -/
theorem wpList_app_full {α : Type} {ops : Array Oper} {rest : List Oper} {o : Oper} {a : Act} {Q : Exit → Act → World → Prop} (hgd : o.guard = none) (s x : Operand) (t : TypeId)
    (ho : o.op = .call { callee := .builtin .append, args := #[s, x], argTypes := #[t, t] }) (e : TypeId) (sz bytes : Nat) (f : α → List Value) (T : SlT t e sz bytes f)
    (w : World) (l r : List α) (A A2 : Option Addr) (c B B2 : Nat) (hs : a.eval s = .slice A l.length l.length) (hx : a.eval x = .slice A2 r.length c) (hrl : Rd w B sz f A l) (hrd : Rd w B2 sz f A2 r) (hc : A2 = none → c = 0)
    (h63 : l.length + r.length ≤ maxLen) (hbytes : (l.length + r.length) * bytes ≤ 140737488355328)
    (h : ∀ A' c' w', Rd w' w'.heap.size sz f A' (l ++ r) → Below w.heap.size w w' → wpList Try.prog ops Q rest (a.put o.dst (.slice A' (l.length + r.length) c')) w') (hB : B ≤ w.heap.size) :
    wpList Try.prog ops Q (o :: rest) a w := by
  obtain ⟨z, hz, hzs⟩ := T.info
  obtain ⟨i, hi, h1, h2, h3⟩ := info_parts hz
  cases r with
  | nil =>
    refine wpList_plain hgd fun K hK => ?_
    have hrun : (Builtin.append_ #[t, t] o.type #[.slice A l.length l.length, .slice A2 0 c]).run Try.prog w = .ok (.slice A l.length l.length) w := by
      cases A2 with
      | none =>
        obtain rfl := hc rfl
        cases A <;> simp [Builtin.append_, run_underlying T.under, sizeOf, typeInfo, hi, Builtin.lenOf, Builtin.firstCells, storeCells]
      | some ad =>
        have hf := run_firstCells_some (P := Try.prog) w i.size 0 ad 0 c [] (by simp) (by simp)
        cases A <;> simp [Builtin.append_, run_underlying T.under, sizeOf, typeInfo, hi, Builtin.lenOf, hf, storeCells]
    unfold Oper.wp execOp
    simp only [ho, resolve, invoke, builtin, Sem.run_bind, Sem.run_pure, Result.andThen_ok, List.map_toArray, List.map_cons, List.map_nil, hs, hx, List.length_nil, hrun]
    have hh := h A l.length w (by rw [List.append_nil]; exact hrl.more hB) (Below.refl _ _)
    exact hK _ _ hh
  | cons y r =>
    obtain ⟨ad, rfl, _⟩ := hrd.addr (i := 0) (by simp)
    refine wpList_append_grows w hgd s x t ho e i z sz bytes T.under hi h1 h2 h3 hzs T.pos A l.length l.length (l.flatMap f) hs ?_ (flat_len T.len l) ?_ ad (y :: r).length c ((y :: r).flatMap f) hx (flat_len T.len _) (rd_flat T.len T.pos hrd) (fun u hu => ?_) (by simp) h63 hbytes ?_
    · intro hA
      subst hA
      cases l with
      | nil => exact ⟨rfl, rfl⟩
      | cons z l => obtain ⟨a', e', _⟩ := hrl 0 z rfl; cases e'
    · intro b hb
      subst hb
      exact rd_flat T.len T.pos hrl
    · obtain ⟨v, _, hv⟩ := List.mem_flatMap.1 hu
      exact T.one v u hv
    · intro v' w' hown hgr
      have hO : Own w' w.heap.size e sz f v' (l ++ y :: r) := by
        unfold Own
        rw [List.length_append, List.flatMap_append]
        exact hown
      obtain ⟨A', c', rfl, _, _, hr, _⟩ := hO.rd T.len
      rw [List.length_append]
      exact h A' c' w' hr ⟨hgr.os, hgr.tape, hgr.output, hgr.size, fun k hk => hgr.block k hk (by simp)⟩
/-- A part of a slice that is read. -/
theorem Rd.from {α : Type} {w : World} {B sz : Nat} {f : α → List Value} {a : Addr} {l : List α} (h : Rd w B sz f (some a) l) (k : Nat) : Rd w B sz f (some (a.add (k * sz))) (l.drop k) := fun i x hx => by
  rw [List.getElem?_drop] at hx
  obtain ⟨a', e, hb, hc⟩ := h _ x hx
  injection e with e
  subst e
  refine ⟨_, rfl, by rw [add_block]; exact hb, fun j v hv => ?_⟩
  have := hc j v hv
  rw [add_assoc'] at this ⊢
  rw [add_assoc']
  rw [← this, ← Nat.add_assoc, ← Nat.add_mul]
end Go.Proofs.Ytpcjmefchclhhaa

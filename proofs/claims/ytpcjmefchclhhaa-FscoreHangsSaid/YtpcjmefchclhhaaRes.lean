/- A struct or an array stored into a variable that is there; a result that lies in memory. -/
import Derived.Test.YtpcjmefchclhhaaOwn
namespace Go.Proofs.Ytpcjmefchclhhaa
open Go.RowKit

theorem grownBy_setRow (w : World) (g : Nat) (cs : Array Value) : w.grownBy (w.setRow g cs) (some g) :=
  ⟨rfl, rfl, rfl, by simp [World.setRow], fun k _ hk => setRow_other w g k cs (fun e => hk (by rw [e]))⟩
/-- 'x = v', x a variable whose block is known, v a struct or an array. -/
theorem wpList_store_row {P : Program} {ops : Array Oper} {rest : List Oper} {o : Oper} {a : Act} {Q : Exit → Act → World → Prop} (hgd : o.guard = none) (ty : TypeId) (x y : Operand) (ho : o.op = .store ty x y)
    (w : World) (g : Nat) (cur cs : Array Value) (t : TypeId) (hx : a.eval x = .pointer (some ⟨g, 0, none⟩)) (hy : a.eval y = .agg cs) (hg : w.heap[g]? = some (.cells cur t (0, 0))) (hsz : cur.size = cs.size) (hi : (P.info? ty).map (·.size) = some cs.size) (h1 : ∀ v ∈ cs.toList, v.oneCell' = true)
    (h : ∀ w', w'.heap[g]? = some (.cells cs t (0, 0)) → w.grownBy w' (some g) → wpList P ops Q rest (a.put o.dst undef) w') : wpList P ops Q (o :: rest) a w := by
  refine wpList_plain hgd fun K hK => ?_
  have hrun := run_storeAt_row (P := P) (w := w) (g := g) (ty := ty) hg hsz hi h1
  unfold Oper.wp execOp
  simp only [ho, hx, hy, Sem.run_bind, hrun, Result.andThen_ok, Sem.run_pure]
  exact hK _ _ (h _ (setRow_heap w g cur cs t _ hg) (grownBy_setRow w g cs))
/-- The end of a function whose first result lies in a block and whose second in a slot. -/
theorem end_cell_tmp {P : Program} {fn : Func} {R : Ending → World → Prop} {a : Act} {w : World} {p u : Tmp} {ty : TypeId} (hr : fn.results = #[.cell p ty, .tmp u]) {g : Nat} {cs : Array Value} {t : TypeId} {fr : Nat × Nat} {d : TypeDesc}
    (hp : a.tmps.getD p undef = .pointer (some ⟨g, 0, none⟩)) (hg : w.heap[g]? = some (.cells cs t fr)) (hu : P.underlying ty = some d) (ha : (match d with | .struct _ | .array _ _ => true | _ => false) = true) {n : Nat} (hs : (P.info? ty).map (·.size) = some n) (hn : cs.size = n)
    (hd : a.defers = []) (hR : R (.returned (.tuple #[.agg cs, a.tmps.getD u undef])) w) : bodyPost P fn R .ret a w := by
  refine bodyPost_ret (v := .tuple #[.agg cs, a.tmps.getD u undef]) ?_ hd hR
  rw [results_cell_tmp hr, hp]
  have hl := run_loadVar_row (P := P) w g t ty cs fr d hg hu ha (by rw [hn]; exact hs)
  simp [asAddr, hl, Result.andThen]
theorem flat_map1 {α : Type} (g : α → Value) (l : List α) : l.flatMap (fun x => [g x]) = l.map g := by
  induction l with
  | nil => rfl
  | cons x l ih => rw [List.flatMap_cons, ih]; rfl
/-- The block behind an owned slice of one-cell elements that is not empty. -/
theorem Own.row1 {α : Type} {w : World} {base : Nat} {e : TypeId} {g : α → Value} {v : Value} {X : List α} (h : Own w base e 1 (fun x => [g x]) v X) (hX : 0 < X.length) :
    ∃ b cap L, v = .slice (some ⟨b, 0, none⟩) X.length cap ∧ base ≤ b ∧ w.heap[b]? = some (.cells (List.toArray L) e (0, 0)) ∧ X.length ≤ cap ∧ cap ≤ maxLen ∧ L.length = cap ∧ L.take X.length = X.map g := by
  rcases h.2 with ⟨rfl, h0⟩ | ⟨b, cap, cur, rfl, hb, hg, hn, hc, hs, ht⟩
  · omega
  · refine ⟨b, cap, cur.toList, rfl, hb, by simpa using hg, hn, hc, by simpa using hs, ?_⟩
    rw [Nat.mul_one, flat_map1] at ht
    exact ht
theorem Own.of_row1 {α : Type} {w : World} {base : Nat} {e : TypeId} {g : α → Value} {X : List α} {b cap : Nat} {L : List Value} (hb : base ≤ b) (hg : w.heap[b]? = some (.cells L.toArray e (0, 0))) (hn : X.length ≤ cap) (hc : cap ≤ maxLen) (hL : L.length = cap) (ht : L.take X.length = X.map g) :
    Own w base e 1 (fun x => [g x]) (.slice (some ⟨b, 0, none⟩) X.length cap) X :=
  ⟨by rw [flat_map1]; simp, .inr ⟨b, cap, L.toArray, rfl, hb, hg, hn, hc, by simpa using hL, by rw [Nat.mul_one, flat_map1]; simpa using ht⟩⟩
theorem Own.set1 {α : Type} {w : World} {base : Nat} {e : TypeId} {g : α → Value} {X : List α} {b n c : Nat} (h : Own w base e 1 (fun x => [g x]) (.slice (some ⟨b, 0, none⟩) n c) X) {i : Nat} (hi : i < X.length) (y : α) :
    Own (w.setCell ⟨b, i, none⟩ (g y)) base e 1 (fun x => [g x]) (.slice (some ⟨b, 0, none⟩) n c) (X.set i y) := by
  obtain ⟨b', cap, L, e1, hb, hg, hn, hc, hl, ht⟩ := h.row1 (by omega)
  obtain ⟨e2, rfl, rfl⟩ := Value.slice.inj e1
  obtain rfl : b = b' := by injection e2 with e2; injection e2
  have h1 := heap_setCell_same w b i L.toArray e (g y) hg
  have h2 : X.length = (X.set i y).length := by simp
  rw [h2] at hn ⊢
  refine Own.of_row1 (L := L.set i (g y)) hb ?_ hn hc (by simpa using hl) ?_
  · rw [h1]; simp
  · rw [← h2, List.take_set, ht, List.map_set]
theorem Own.cell1 {α : Type} {w : World} {base : Nat} {e : TypeId} {g : α → Value} {X : List α} {b n c : Nat} (h : Own w base e 1 (fun x => [g x]) (.slice (some ⟨b, 0, none⟩) n c) X) {i : Nat} (hi : i < X.length) :
    w.cell? ⟨b, i, none⟩ = some (g X[i]) ∧ w.frozen? ⟨b, i, none⟩ = false ∧ base ≤ b ∧ b < w.heap.size := by
  obtain ⟨b', cap, L, e1, hb, hg, hn, hc, hl, ht⟩ := h.row1 (by omega)
  obtain ⟨e2, rfl, rfl⟩ := Value.slice.inj e1
  obtain rfl : b = b' := by injection e2 with e2; injection e2
  refine ⟨?_, frozen_of_row w b i L.toArray e hg, hb, (Array.getElem?_eq_some_iff.1 hg).1⟩
  rw [cell_at hg]
  have h1 := congrArg (·[i]?) ht
  simp only [List.getElem?_take, hi, if_true, List.getElem?_map, List.getElem?_eq_getElem hi, Option.map_some] at h1
  simpa using h1
theorem take_splice {α : Type} (L cs : List α) (o n : Nat) (h : o + cs.length ≤ n) (hn : n ≤ L.length) : (splice L o cs).take n = splice (L.take n) o cs := by
  unfold splice
  rw [List.take_append, List.take_append, List.take_take, List.take_take, List.length_take, List.drop_take, show min n o = o by omega, show min o n = o by omega,
    List.take_of_length_le (l := cs) (by omega)]
  congr 3
  omega
end Go.Proofs.Ytpcjmefchclhhaa

/- The opening of lists of entries, of marks and of numbers; arrays of bools. -/
import Derived.Test.YtcdpjabahmfhdaaLaw
import Derived.Test.YtcdpjabahmfhdaaRkJ
import Derived.Test.YtcdpjabahmfhdaaRkG
namespace Go.Proofs.Ytcdpjabahmfhdaa
open Go.ChangeShapes Go.WideShapes Go.ChangeAt Go.RowKit

theorem list3 {α : Type} {l : List α} (h : l.length = 3) : ∃ x y z, l = [x, y, z] := by
  match l, h with
  | [x, y, z], _ => exact ⟨x, y, z, rfl⟩
theorem list2 {α : Type} {l : List α} (h : l.length = 2) : ∃ x y, l = [x, y] := by
  match l, h with
  | [x, y], _ => exact ⟨x, y, rfl⟩

/-- A struct's reading, field by field. -/
theorem struct_dec {W : World} {H : Type} {enc : TypeId × Value → H} {n : Nat} {cs : List Value} {y : DataW H × List MemPlace} {t : TypeId} (L : List (TypeId × Nat)) (ht : Try.prog.underlying t = some (.struct (Try.prog.fieldsOf t)))
    (hL : (Try.prog.fieldsOf t).toList.map (fun f => (f.type, f.offset)) = L) (h : DataW.trod enc Try.prog W 0 (fun _ => true) true n t cs = some y) :
    ∃ m, cs.length = Try.prog.cellsOf t ∧ ∀ (i : Nat) (u : TypeId) (o : Nat), L[i]? = some (u, o) → ∃ z, DataW.trod enc Try.prog W 0 (fun _ => true) true m u ((cs.drop o).take (Try.prog.cellsOf u)) = some z := by
  obtain ⟨xs, m, _, _, hlen, hxl, hf⟩ := DataW.trod_struct ht h
  refine ⟨m, hlen, fun i u o hi => ?_⟩
  rw [← hL, List.getElem?_map] at hi
  obtain ⟨f, hfi, e⟩ := Option.map_eq_some_iff.1 hi
  simp only [Prod.mk.injEq] at e
  rw [Array.getElem?_toList] at hfi
  have h1 := hf i f hfi
  rw [e.1, e.2] at h1
  have hlt : i < xs.length := by rw [hxl]; exact (Array.getElem?_eq_some_iff.1 hfi).1
  rw [List.getElem?_eq_getElem hlt] at h1
  exact ⟨_, h1⟩

theorem ent_dec (W : World) (H : Type) (enc : TypeId × Value → H) (n : Nat) (cs : List Value) (y : DataW H × List MemPlace) (h : DataW.trod enc Try.prog W 0 (fun _ => true) true n 48 cs = some y) (_ : (y.1.weights Try.prog 48).all (· ≤ reachBytes) = true) : ∃ x : Ent, cs = entC x ∧ x.b.size ≤ maxLen := by
  obtain ⟨m, hlen, hf⟩ := struct_dec [(3, 0), (3, 1), (9, 2)] (by kernel_rfl) (by kernel_rfl) h
  rw [show Try.prog.cellsOf 48 = 3 by kernel_rfl] at hlen
  obtain ⟨c0, c1, c2, rfl⟩ := list3 hlen
  obtain ⟨z0, g0⟩ := hf 0 _ _ rfl
  obtain ⟨z1, g1⟩ := hf 1 _ _ rfl
  obtain ⟨z2, g2⟩ := hf 2 _ _ rfl
  rw [show Try.prog.cellsOf 3 = 1 by kernel_rfl] at g0 g1
  rw [show Try.prog.cellsOf 9 = 1 by kernel_rfl] at g2
  obtain ⟨a, e0, _, _⟩ := DataW.trod_int Try.underlying3 g0
  obtain ⟨b, e1, _, _⟩ := DataW.trod_int Try.underlying3 g1
  obtain ⟨s, e2, _, hs⟩ := DataW.trod_string Try.underlying9 g2
  simp at e0 e1 e2
  subst e0 e1 e2
  exact ⟨⟨a, b, s⟩, rfl, hs⟩
theorem mk_dec (W : World) (H : Type) (enc : TypeId × Value → H) (n : Nat) (cs : List Value) (y : DataW H × List MemPlace) (h : DataW.trod enc Try.prog W 0 (fun _ => true) true n 41 cs = some y) (_ : (y.1.weights Try.prog 41).all (· ≤ reachBytes) = true) : ∃ x : Mk, cs = mkC x ∧ True := by
  obtain ⟨m, hlen, hf⟩ := struct_dec [(3, 0), (3, 1)] (by kernel_rfl) (by kernel_rfl) h
  rw [show Try.prog.cellsOf 41 = 2 by kernel_rfl] at hlen
  obtain ⟨c0, c1, rfl⟩ := list2 hlen
  obtain ⟨z0, g0⟩ := hf 0 _ _ rfl
  obtain ⟨z1, g1⟩ := hf 1 _ _ rfl
  rw [show Try.prog.cellsOf 3 = 1 by kernel_rfl] at g0 g1
  obtain ⟨a, e0, _, _⟩ := DataW.trod_int Try.underlying3 g0
  obtain ⟨b, e1, _, _⟩ := DataW.trod_int Try.underlying3 g1
  simp at e0 e1
  subst e0 e1
  exact ⟨⟨a, b⟩, rfl, trivial⟩
theorem int_dec (W : World) (H : Type) (enc : TypeId × Value → H) (n : Nat) (cs : List Value) (y : DataW H × List MemPlace) (h : DataW.trod enc Try.prog W 0 (fun _ => true) true n 3 cs = some y) (_ : (y.1.weights Try.prog 3).all (· ≤ reachBytes) = true) : ∃ x : Int, cs = intC x ∧ i64ok x := by
  obtain ⟨a, e0, _, hw⟩ := DataW.trod_int Try.underlying3 h
  exact ⟨a, e0, wf_i64 hw⟩
theorem opens_ents : Opens 36 (fun W v (x : Option Addr × Nat × List Ent) => v = .slice x.1 x.2.2.length x.2.1 ∧ x.2.2.length ≤ maxLen ∧ x.2.2.length ≤ x.2.1 ∧ x.2.1 * Try.prog.bytesOf 48 ≤ reachBytes ∧ Rd W W.heap.size 3 entC x.1 x.2.2 ∧ ∀ y ∈ x.2.2, y.b.size ≤ maxLen) :=
  opens_slice entC (fun _ x => x.b.size ≤ maxLen) Try.underlying36 (by kernel_rfl) (by omega) ent_dec
theorem opens_mks : Opens 43 (fun W v (x : Option Addr × Nat × List Mk) => v = .slice x.1 x.2.2.length x.2.1 ∧ x.2.2.length ≤ maxLen ∧ x.2.2.length ≤ x.2.1 ∧ x.2.1 * Try.prog.bytesOf 41 ≤ reachBytes ∧ Rd W W.heap.size 2 mkC x.1 x.2.2 ∧ ∀ y ∈ x.2.2, True) :=
  opens_slice mkC (fun _ _ => True) Try.underlying43 (by kernel_rfl) (by omega) mk_dec
theorem opens_ints : Opens 32 (fun W v (x : Option Addr × Nat × List Int) => v = .slice x.1 x.2.2.length x.2.1 ∧ x.2.2.length ≤ maxLen ∧ x.2.2.length ≤ x.2.1 ∧ x.2.1 * Try.prog.bytesOf 3 ≤ reachBytes ∧ Rd W W.heap.size 1 intC x.1 x.2.2 ∧ ∀ y ∈ x.2.2, i64ok y) :=
  opens_slice intC (fun _ x => i64ok x) Try.underlying32 (by kernel_rfl) (by omega) int_dec

theorem trodAll_bools (P : Program) {W : World} {H : Type} {enc : TypeId × Value → H} {e : TypeId} (hu : P.underlying e = some .bool) (hc : P.cellsOf e = 1) {m : Nat} {cs : List Value} {n : Nat} (hn : cs.length = n)
    (h : ∀ i, i < n → ∃ z, DataW.trod enc P W 0 (fun _ => true) true m e ((cs.drop (i * P.cellsOf e)).take (P.cellsOf e)) = some z) : ∃ bs : List Bool, bs.length = n ∧ cs = bs.map Value.bool := by
  refine ⟨cs.map fun v => match v with | .bool b => b | _ => false, by simpa using hn, ?_⟩
  apply List.ext_getElem?
  intro i
  by_cases hi : i < n
  · obtain ⟨z, hz⟩ := h i hi
    rw [hc, Nat.mul_one] at hz
    obtain ⟨b, hb, _⟩ := DataW.trod_bool hu hz
    have hci : cs[i]? = some (.bool b) := by
      have := congrArg (·[0]?) hb
      simpa using this
    simp [hci]
  · rw [List.getElem?_eq_none (by omega), List.getElem?_eq_none (by simp; omega)]

/-- An array of seven bools. -/
theorem opens_bools7 : Opens 28 (fun _ v (x : List Bool) => v = .agg (x.map Value.bool).toArray ∧ x.length = 7) := fun W H enc base v d p hv h _ => by
  obtain ⟨fuel, hf⟩ := h
  have hu : Try.prog.underlying 28 = some (.array 7 4) := Try.underlying28
  unfold Value.okWide at hv
  rw [hu] at hv
  obtain ⟨cs, rfl, hcs, _⟩ := hv
  obtain ⟨xs, m, _, _, hlen, hxl, hx⟩ := DataW.trod_array hu hf
  have h7 : Try.prog.cellsOf 28 = 7 := by kernel_rfl
  rw [h7] at hlen
  obtain ⟨bs, hb, e⟩ := trodAll_bools Try.prog Try.underlying4 (by kernel_rfl) hlen (fun i hi => ⟨_, (hx i hi).trans (List.getElem?_eq_getElem (by omega))⟩)
  refine ⟨bs, ?_, hb⟩
  have e2 : cs.toList = bs.map Value.bool := e
  rw [← e2]

end Go.Proofs.Ytcdpjabahmfhdaa

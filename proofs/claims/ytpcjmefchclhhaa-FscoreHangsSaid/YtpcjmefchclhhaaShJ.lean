/- Openers: []byte, []Op. -/
import Derived.Test.YtpcjmefchclhhaaShI
import Derived.Test.YtpcjmefchclhhaaLaw
namespace Go.Proofs.Ytpcjmefchclhhaa
open Go.RowKit Go.MapKept Go.ChangeShapes Go.WideShapes Go.ChangeAt

set_option maxRecDepth 100000 in
/-- A slice among an element's cells. -/
theorem slice_dec {α : Type} {W : World} {H : Type} {enc : TypeId × Value → H} {n0 : Nat} {cs : List Value} {y : DataW H × List MemPlace} {t e : TypeId} {sz : Nat} (f : α → List Value) (Q : World → α → Prop) (ht : Try.prog.underlying t = some (.slice e)) (hsz : Try.prog.cellsOf e = sz) (hpos : 0 < sz)
    (hdec : ∀ (n : Nat) (cs : List Value) (y : DataW H × List MemPlace), DataW.trod enc Try.prog W 0 (fun _ => true) true n e cs = some y → ∃ x, cs = f x ∧ Q W x)
    (h : DataW.trod enc Try.prog W 0 (fun _ => true) true n0 t cs = some y) :
    ∃ (A : Option Addr) (c : Nat) (l : List α), cs = [.slice A l.length c] ∧ l.length ≤ maxLen ∧ l.length ≤ c ∧ Rd W W.heap.size sz f A l ∧ ∀ y ∈ l, Q W y := by
  rcases Go.Deep.open_slice ht h with ⟨hcs, _⟩ | ⟨a, len, cap, m, n, D, Pl, hcs, _, hl, hm, hmm, hdd, hi⟩
  · subst hcs
    exact ⟨none, 0, [], rfl, by simp, by simp, Rd.nil _ _ _ _ _, by simp⟩
  · subst hcs
    simp only [if_true] at hmm
    subst hmm
    have hx : ∀ i, i < len → ∃ x : α, Q W x ∧ ∀ (j : Nat) (u : Value), (f x)[j]? = some u → W.cell? ((a.add (i * sz)).add j) = some u := fun i hil => by
      obtain ⟨cs', hc, ht'⟩ := hi i (by omega)
      obtain ⟨x, rfl, hq⟩ := hdec n _ _ ht'
      refine ⟨x, hq, fun j u hu => ?_⟩
      rw [hsz] at hc
      obtain ⟨_, hcl, hat⟩ := World.cells?_some hc
      have hj : j < sz := by
        rw [← hcl]
        exact (List.getElem?_eq_some_iff.1 hu).1
      rw [hat j hj]
      exact hu
    rcases Nat.eq_zero_or_pos len with h0 | h0
    · subst h0
      exact ⟨some a, m, [], rfl, by simp, by simp, Rd.nil _ _ _ _ _, by simp⟩
    · haveI : Inhabited α := ⟨Classical.choose (hx 0 h0)⟩
      obtain ⟨g, hg⟩ := Go.Deep.choose_lt hx
      refine ⟨some a, m, (List.range len).map g, by simp, by simp; omega, by simpa using hl, fun i x hix => ?_, fun y hy => ?_⟩
      · rw [List.getElem?_map] at hix
        cases hr : (List.range len)[i]? with
        | none => rw [hr] at hix; cases hix
        | some i' =>
          rw [hr] at hix
          have hi' : i < len := by simpa using (List.getElem?_eq_some_iff.1 hr).1
          have e : i' = i := by have := (List.getElem?_eq_some_iff.1 hr).2; simpa using this.symm
          subst e
          simp only [Option.map_some, Option.some.injEq] at hix
          subst hix
          refine ⟨a, rfl, ?_, (hg i' hi').2⟩
          have hb : ∀ (q : Addr) (u : Value), W.cell? q = some u → q.block < W.heap.size := fun q u hq => by
            rcases Nat.lt_or_ge q.block W.heap.size with h | h
            · exact h
            · simp [World.cell?, Array.getElem?_eq_none h] at hq
          obtain ⟨cs', hc, _⟩ := hi i' (by omega)
          obtain ⟨_, hcl, hat⟩ := World.cells?_some hc
          rw [hsz] at hcl hat
          have h1 := hat 0 hpos
          rw [List.getElem?_eq_getElem (by omega)] at h1
          have h2 := hb _ _ h1
          rw [add_block, add_block] at h2
          exact h2
      · obtain ⟨i, hi1, rfl⟩ := List.mem_map.1 hy
        exact (hg i (List.mem_range.1 hi1)).1

set_option maxRecDepth 100000 in
theorem byte_dec {W : World} {H : Type} {enc : TypeId × Value → H} (n : Nat) (cs : List Value) (y : DataW H × List MemPlace) (h : DataW.trod enc Try.prog W 0 (fun _ => true) true n 5 cs = some y) : ∃ x : UInt8, cs = byteC x ∧ True := by
  obtain ⟨a, e0, _, hw⟩ := DataW.trod_int Try.underlying5 h
  have h2 : (decide (IntKind.u8.min ≤ a) && decide (a ≤ IntKind.u8.max)) = true := hw
  simp only [Bool.and_eq_true, decide_eq_true_eq] at h2
  rw [show IntKind.u8.min = 0 from by decide, show IntKind.u8.max = 255 from by decide] at h2
  refine ⟨UInt8.ofNat a.toNat, ?_, trivial⟩
  rw [e0]
  unfold byteC byteV
  rw [UInt8.toNat_ofNat', Nat.mod_eq_of_lt (by omega), Int.toNat_of_nonneg h2.1]

/-- A call of a script with the place of its bytes. -/
def opC (x : OpR × Option Addr × Nat) : List Value := [.int .i64 x.1.kind, .int .i64 x.1.at_, .int .i64 x.1.n, .slice x.2.1 x.1.bytes.length x.2.2]
def opQ (W : World) (x : OpR × Option Addr × Nat) : Prop := x.1.bytes.length ≤ maxLen ∧ x.1.bytes.length ≤ x.2.2 ∧ Rd W W.heap.size 1 byteC x.2.1 x.1.bytes ∧ i64ok x.1.at_ ∧ i64ok x.1.n

theorem struct_dec {W : World} {H : Type} {enc : TypeId × Value → H} {n : Nat} {cs : List Value} {y : DataW H × List MemPlace} {t : TypeId} (L : List (TypeId × Nat)) (ht : Try.prog.underlying t = some (.struct (Try.prog.fieldsOf t)))
    (hL : (Try.prog.fieldsOf t).toList.map (fun f => (f.type, f.offset)) = L) (h : DataW.trod enc Try.prog W 0 (fun _ => true) true n t cs = some y) :
    ∃ m, cs.length = Try.prog.cellsOf t ∧ ∀ (i : Nat) (u : TypeId) (o : Nat), L[i]? = some (u, o) → ∃ z, DataW.trod enc Try.prog W 0 (fun _ => true) true m u ((cs.drop o).take (Try.prog.cellsOf u)) = some z := by
  obtain ⟨xs, m, _, _, hlen, hxl, hf⟩ := DataW.trod_struct ht h
  refine ⟨m, hlen, fun i u o hi => ?_⟩
  rw [← hL, List.getElem?_map] at hi
  obtain ⟨f, hfi, e⟩ := Option.map_eq_some_iff.1 hi
  simp only [Prod.mk.injEq] at e
  rw [Array.getElem?_toList] at hfi
  have h1 := hf i f hfi
  rw [e.1, e.2] at h1
  have hlt : i < xs.length := by rw [hxl]; exact (Array.getElem?_eq_some_iff.1 hfi).1
  rw [List.getElem?_eq_getElem hlt] at h1
  exact ⟨_, h1⟩
theorem list4 {α : Type} {l : List α} (h : l.length = 4) : ∃ a b c d, l = [a, b, c, d] := by
  match l, h with
  | [a, b, c, d], _ => exact ⟨a, b, c, d, rfl⟩

set_option maxRecDepth 100000 in
theorem op_dec (W : World) (H : Type) (enc : TypeId × Value → H) (n : Nat) (cs : List Value) (y : DataW H × List MemPlace) (h : DataW.trod enc Try.prog W 0 (fun _ => true) true n 39 cs = some y) (_ : (y.1.weights Try.prog 39).all (· ≤ reachBytes) = true) : ∃ x, cs = opC x ∧ opQ W x := by
  obtain ⟨m, hlen, hf⟩ := struct_dec [(3, 0), (3, 1), (3, 2), (27, 3)] (by kernel_rfl) (by kernel_rfl) h
  rw [show Try.prog.cellsOf 39 = 4 by kernel_rfl] at hlen
  obtain ⟨c0, c1, c2, c3, rfl⟩ := list4 hlen
  obtain ⟨z0, g0⟩ := hf 0 _ _ rfl
  obtain ⟨z1, g1⟩ := hf 1 _ _ rfl
  obtain ⟨z2, g2⟩ := hf 2 _ _ rfl
  obtain ⟨z3, g3⟩ := hf 3 _ _ rfl
  rw [show Try.prog.cellsOf 3 = 1 by kernel_rfl] at g0 g1 g2
  rw [show Try.prog.cellsOf 27 = 1 by kernel_rfl] at g3
  obtain ⟨a, e0, _, _⟩ := DataW.trod_int Try.underlying3 g0
  obtain ⟨b, e1, _, hb⟩ := DataW.trod_int Try.underlying3 g1
  obtain ⟨c, e2, _, hc⟩ := DataW.trod_int Try.underlying3 g2
  obtain ⟨A, k, l, e3, h1, h2, h3, _⟩ := slice_dec (sz := 1) byteC (fun _ _ => True) Try.underlying27 (by kernel_rfl) (by omega) byte_dec g3
  simp at e0 e1 e2 e3
  subst e0 e1 e2 e3
  exact ⟨(⟨a, b, c, l⟩, A, k), rfl, h1, h2, h3, wf_i64 hb, wf_i64 hc⟩
theorem opens_ops : Opens 22 (fun W v (x : Option Addr × Nat × List (OpR × Option Addr × Nat)) => v = .slice x.1 x.2.2.length x.2.1 ∧ x.2.2.length ≤ maxLen ∧ x.2.2.length ≤ x.2.1 ∧ x.2.1 * Try.prog.bytesOf 39 ≤ reachBytes ∧ Rd W W.heap.size 4 opC x.1 x.2.2 ∧ ∀ y ∈ x.2.2, opQ W y) :=
  opens_slice opC opQ Try.underlying22 (by kernel_rfl) (by omega) op_dec
theorem opens_bytes : Opens 27 (fun W v (x : Option Addr × Nat × List UInt8) => v = .slice x.1 x.2.2.length x.2.1 ∧ x.2.2.length ≤ maxLen ∧ x.2.2.length ≤ x.2.1 ∧ x.2.1 * Try.prog.bytesOf 5 ≤ reachBytes ∧ Rd W W.heap.size 1 byteC x.1 x.2.2 ∧ ∀ y ∈ x.2.2, True) :=
  opens_slice byteC (fun _ _ => True) Try.underlying27 (by kernel_rfl) (by omega) (fun _ _ _ n cs y h _ => byte_dec n cs y h)

end Go.Proofs.Ytpcjmefchclhhaa

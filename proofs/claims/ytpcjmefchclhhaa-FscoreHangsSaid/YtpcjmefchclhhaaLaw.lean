/- From a law's walk to its row: every law of this seat answers true and writes nothing that was there. And the opening of arguments. -/
import Derived.Test.YtpcjmefchclhhaaBase
import Derived.ProofKit
import Derived.OpenShut
import Derived.ChangeOld
import Derived.Deep.Slices
import Derived.SizedLaws
namespace Go.Proofs.Ytpcjmefchclhhaa
open Go.ChangeShapes Go.WideShapes Go.ChangeAt Go.RowKit

theorem own : ownKnob Try.prog.godebug = none := by kernel_rfl
theorem laidOut : laidOutB Try.prog = true := by kernel_rfl

/-- Whatever was read ahead of the call reads behind it as it did. -/
theorem trodAll_below {H : Type} {enc : TypeId × Value → H} {P : Program} (hlo : laidOutB P = true) {W W' : World} (ts : List TypeId) : ∀ {vs : List Value} {ds : List (DataW H)} {ps : List MemPlace},
    DataW.TrodAll enc P W 0 (fun _ => true) true ts vs ds ps → (∀ t ∈ ts, P.readableRec t = true ∧ t < P.types.size) → Below W.heap.size W W' →
      DataW.TrodAll enc P W' 0 (fun b => decide (b < W.heap.size)) true ts vs ds ps := by
  induction ts with
  | nil =>
    intro vs ds ps h _ _
    obtain ⟨rfl, rfl, rfl⟩ := trodAll_nil h
    exact trodAll_mk0
  | cons t ts ih =>
    intro vs ds ps h hok hb
    obtain ⟨v, vs', d, ds', p, q, rfl, rfl, rfl, h0, hr⟩ := trodAll_cons h
    have hlt : ∀ x ∈ p, x.block < W.heap.size := by
      obtain ⟨m, hm⟩ := h0
      exact DataW.trod_lt m _ _ _ hm
    exact trodAll_cons_mk (Below.trod hlo (hok t (by simp)).1 (hok t (by simp)).2 h0 hb hlt) (ih hr (fun u hu => hok u (by simp [hu])) hb)

theorem trodAll_len {H : Type} {enc : TypeId × Value → H} {P : Program} {W : World} {spare : Nat → Bool} (ts : List TypeId) : ∀ {vs : List Value} {ds : List (DataW H)} {ps : List MemPlace},
    DataW.TrodAll enc P W 0 spare true ts vs ds ps → ds.length = ts.length := by
  induction ts with
  | nil =>
    intro vs ds ps h
    obtain ⟨rfl, rfl, rfl⟩ := trodAll_nil h
    rfl
  | cons t ts ih =>
    intro vs ds ps h
    obtain ⟨v, vs', d, ds', p, q, rfl, rfl, rfl, h0, hr⟩ := trodAll_cons h
    simp [ih hr]

/-- What is known of a law's arguments. -/
structure Given (W : World) (fn : Func) (args : Array Value) : Prop where
  read : ∃ (H : Type) (enc : TypeId × Value → H) (ds : List (DataW H)) (p : List MemPlace), DataW.TrodAll enc Try.prog W 0 (fun _ => true) true fn.params.toList args.toList ds p ∧
    (DataW.weightsEach Try.prog fn.params.toList ds).all (· ≤ reachBytes) = true
  val : ∃ base, ∀ (j : Nat) t v, fn.params[j]? = some t → args[j]? = some v → Value.okWide Try.prog W .any base t v

set_option maxRecDepth 100000 in
/-- A law's step: from its walk. -/
theorem law_lifted {F : FuncId} {fn : Func} {s : ChangeSpec} (os : Os) (started : os.Started) (H : Type) (enc : TypeId × Value → H)
    (hi : Try.prog.inits.idxOf? F = none) (hf : Try.prog.funcs[F]? = some fn) (hvars : s.vars = []) (hres : fn.resultTypes = #[4])
    (hok : ∀ t ∈ fn.params.toList, Try.prog.readableRec t = true ∧ t < Try.prog.types.size)
    (hspec : ∀ ds : List (DataW H), ds.length = fn.params.toList.length → (s.fn H ds).results = [.lit (.bool true)] ∧ (s.fn H ds).args = ds ∧ (s.fn H ds).vars = [])
    (hwit : ∃ (w : World) (tape : Nat → Question → Nat) (i : Input), w.os = os ∧ World.Shaped Try.prog (w.forCall tape i) ∧ i.vars = [] ∧ Input.okWide Try.prog (w.forCall tape i) Reach.any w.heap.size F i ∧
      ChangeSpec.pre6 enc Try.prog fn s [] false (w.forCall tape i).memory i.args ∧ (({} : Assume)).holds Try.prog (lone (Frame.enter Try.prog F i.args CallKind.normal) [] (w.forCall tape i)))
    (hwalk : ∀ (W : World) (args : Array Value), Given W fn args → Calls Try.prog F args W fun e W' => e = .returned (.bool true) ∧ Below W.heap.size W W') :
    ReturnsInHanded {} Try.checked os F .any (s.pre6 enc Try.prog fn [] false) (s.post enc Try.prog fn false true false false) := by
  refine returnsInHanded_of_change_sized (C := Try.checked) own started hi hf hwit ?_
  intro W base args ds gs before hval hW hcnd hwt _
  have hW' := hW
  obtain ⟨p, q, hA, hV, rfl, hfz, hnd⟩ := hW
  rw [hvars] at hV
  obtain ⟨rfl, rfl⟩ := trodVars_none hV
  simp only [List.append_nil] at hW'
  have hvt : s.plain.varTypes Try.checked.prog = [] := by show DataSpec.varTypes _ _ = []; unfold DataSpec.varTypes ChangeSpec.plain; rw [hvars]; rfl
  rw [hvt, List.append_nil, List.append_nil] at hwt
  refine (hwalk W args ⟨⟨H, enc, ds, p, hA, hwt⟩, ⟨base, hval⟩⟩).mono fun e W' ⟨he, bel⟩ => ?_
  subst he
  have hs := hspec (ds ++ []) (by simpa using trodAll_len _ hA)
  refine ⟨_, rfl, ds, [], p, [], p, [], hW', ?_, ?_, ?_, bel.frame _, fun h => by cases h⟩
  · rw [hs.1, hres]
    exact trodAll_mk1 (shut_bool Try.underlying4 _)
  · rw [hs.2.1, List.append_nil]
    exact trodAll_below laidOut _ hA hok bel
  · rw [hvars, hs.2.2]
    rfl

set_option maxRecDepth 100000 in
theorem weights_all {H : Type} {P : Program} {e : TypeId} : ∀ {l : List (DataW H)}, (DataW.weightsAll P e l).all (· ≤ reachBytes) = true → ∀ d ∈ l, (d.weights P e).all (· ≤ reachBytes) = true
  | [], _, d, hd => by simp at hd
  | d0 :: r, h, d, hd => by
    simp only [DataW.weightsAll, List.all_append, Bool.and_eq_true] at h
    rcases List.mem_cons.1 hd with rfl | hd
    · exact h.1
    · exact weights_all h.2 d hd
set_option maxRecDepth 100000 in
theorem weights_each {H : Type} {P : Program} {e : TypeId} {len : Nat} {D : Nat → DataW H} (h : (DataW.weightsAll P e ((List.range len).map D)).all (· ≤ reachBytes) = true) (i : Nat) (hi : i < len) : ((D i).weights P e).all (· ≤ reachBytes) = true :=
  weights_all h _ (List.mem_map.2 ⟨i, List.mem_range.2 hi, rfl⟩)

section
variable {W : World} {H : Type} {enc : TypeId × Value → H}
/-- The opening of one argument: its reading gives a value of Lean's. -/
def Opens {α : Type} (t : TypeId) (Q : World → Value → α → Prop) : Prop :=
  ∀ (W : World) (H : Type) (enc : TypeId × Value → H) (base : Nat) (v : Value) (d : DataW H) (p : List MemPlace), Value.okWide Try.prog W .any base t v → DataW.Trod enc Try.prog W 0 (fun _ => true) true t v d p → (d.weights Try.prog t).all (· ≤ reachBytes) = true → ∃ x, Q W v x
def i64ok (x : Int) : Prop := -9223372036854775808 ≤ x ∧ x ≤ 9223372036854775807
set_option maxRecDepth 100000 in
theorem wf_i64 {x : Int} (h : (Lit.int .i64 x).wf = true) : i64ok x := by
  have h2 : (decide (IntKind.i64.min ≤ x) && decide (x ≤ IntKind.i64.max)) = true := h
  simp only [Bool.and_eq_true, decide_eq_true_eq] at h2
  have e1 : IntKind.i64.min = -9223372036854775808 := by decide
  have e2 : IntKind.i64.max = 9223372036854775807 := by decide
  rw [e1, e2] at h2
  exact h2
set_option maxRecDepth 100000 in
theorem opens_int : Opens 3 (fun _ v (x : Int) => v = .int .i64 x ∧ i64ok x) := fun W H enc base v d p hv h _ => by
  obtain ⟨x, rfl, _, _, hw⟩ := open_int Try.underlying3 hv h
  exact ⟨x, rfl, wf_i64 hw⟩
set_option maxRecDepth 100000 in
/-- The elements of a slice, each decoded. -/
theorem opens_slice {α : Type} {t e : TypeId} {sz : Nat} (f : α → List Value) (Q : World → α → Prop) (ht : Try.prog.underlying t = some (.slice e)) (hsz : Try.prog.cellsOf e = sz) (hpos : 0 < sz)
    (hdec : ∀ (W : World) (H : Type) (enc : TypeId × Value → H) (n : Nat) (cs : List Value) (y : DataW H × List MemPlace), DataW.trod enc Try.prog W 0 (fun _ => true) true n e cs = some y → (y.1.weights Try.prog e).all (· ≤ reachBytes) = true → ∃ x, cs = f x ∧ Q W x) :
    Opens t (fun W v (x : Option Addr × Nat × List α) => v = .slice x.1 x.2.2.length x.2.1 ∧ x.2.2.length ≤ maxLen ∧ x.2.2.length ≤ x.2.1 ∧ x.2.1 * Try.prog.bytesOf e ≤ reachBytes ∧ Rd W W.heap.size sz f x.1 x.2.2 ∧ ∀ y ∈ x.2.2, Q W y) := fun W H enc base v d p hv h hwt => by
  obtain ⟨A, len, cap, rfl⟩ := okWide_slice ht hv
  obtain ⟨fuel, hf⟩ := h
  rcases Go.Deep.open_slice ht hf with ⟨hcs, _⟩ | ⟨a, len', cap', m, n, D, Pl, hcs, _, hl, hm, hmm, hdd, hi⟩
  · simp [Value.cells] at hcs
    obtain ⟨rfl, rfl, rfl⟩ := hcs
    exact ⟨(none, 0, []), rfl, by simp, by simp, by simp, Rd.nil _ _ _ _ _, by simp⟩
  · simp [Value.cells] at hcs
    obtain ⟨rfl, rfl, rfl⟩ := hcs
    simp only [if_true] at hmm
    subst hmm
    simp only [Prod.mk.injEq] at hdd
    rw [hdd.1] at hwt
    simp only [DataW.weights, ht, List.all_cons, List.all_append, Bool.and_eq_true, decide_eq_true_eq, List.length_map, List.length_range] at hwt
    obtain ⟨hw0, hw1, _⟩ := hwt
    have hwi : ∀ i, i < len → ((D i).weights Try.prog e).all (· ≤ reachBytes) = true := weights_each hw1
    have hcapb : m * Try.prog.bytesOf e ≤ reachBytes := by
      rw [show len + (m - len) = m by omega] at hw0
      exact hw0
    have hx : ∀ i, i < len → ∃ x : α, Q W x ∧ ∀ (j : Nat) (u : Value), (f x)[j]? = some u → W.cell? ((a.add (i * sz)).add j) = some u := fun i hil => by
      obtain ⟨cs', hc, ht'⟩ := hi i (by omega)
      obtain ⟨x, rfl, hq⟩ := hdec W H enc n _ _ ht' (hwi i hil)
      refine ⟨x, hq, fun j u hu => ?_⟩
      rw [hsz] at hc
      obtain ⟨_, hcl, hat⟩ := World.cells?_some hc
      have hj : j < sz := by
        rw [← hcl]
        exact (List.getElem?_eq_some_iff.1 hu).1
      rw [hat j hj]
      exact hu
    rcases Nat.eq_zero_or_pos len with h0 | h0
    · subst h0
      exact ⟨(some a, m, []), rfl, by simp, by simp, hcapb, Rd.nil _ _ _ _ _, by simp⟩
    · haveI : Inhabited α := ⟨Classical.choose (hx 0 h0)⟩
      obtain ⟨g, hg⟩ := Go.Deep.choose_lt hx
      refine ⟨(some a, m, (List.range len).map g), by simp, by simp; omega, by simpa using hl, hcapb, fun i x hix => ?_, fun y hy => ?_⟩
      · rw [List.getElem?_map] at hix
        cases hr : (List.range len)[i]? with
        | none => rw [hr] at hix; cases hix
        | some i' =>
          rw [hr] at hix
          have hi' : i < len := by simpa using (List.getElem?_eq_some_iff.1 hr).1
          have e : i' = i := by have := (List.getElem?_eq_some_iff.1 hr).2; simpa using this.symm
          subst e
          simp only [Option.map_some, Option.some.injEq] at hix
          subst hix
          refine ⟨a, rfl, ?_, (hg i' hi').2⟩
          have hb : ∀ (q : Addr) (u : Value), W.cell? q = some u → q.block < W.heap.size := fun q u hq => by
            rcases Nat.lt_or_ge q.block W.heap.size with h | h
            · exact h
            · simp [World.cell?, Array.getElem?_eq_none h] at hq
          obtain ⟨cs', hc, _⟩ := hi i' (by omega)
          obtain ⟨_, hcl, hat⟩ := World.cells?_some hc
          rw [hsz] at hcl hat
          have h1 := hat 0 hpos
          rw [List.getElem?_eq_getElem (by omega)] at h1
          have h2 := hb _ _ h1
          rw [add_block, add_block] at h2
          exact h2
      · obtain ⟨i, hi1, rfl⟩ := List.mem_map.1 hy
        exact (hg i (List.mem_range.1 hi1)).1
end

end Go.Proofs.Ytpcjmefchclhhaa

/- A part of the proof. -/
import Derived.Test.YtpcjmefchclhhaaGreatZBase
import Derived.ProofKit
import Derived.OpenShut
import Derived.ChangeOld
import Derived.Deep.Slices
import Derived.SizedLaws
namespace Go.Proofs.YtpcjmefchclhhaaGreat
open Go.ChangeShapes Go.WideShapes Go.ChangeAt Go.RowKit
theorem own : ownKnob Tryz.prog.godebug = none := by kernel_rfl
theorem laidOut : laidOutB Tryz.prog = true := by kernel_rfl
theorem trodAll_below {H : Type} {enc : TypeId × Value → H} {P : Program} (hlo : laidOutB P = true) {W W' : World} (ts : List TypeId) : ∀ {vs : List Value} {ds : List (DataW H)} {ps : List MemPlace},
  DataW.TrodAll enc P W 0 (fun _ => true) true ts vs ds ps → (∀ t ∈ ts, P.readableRec t = true ∧ t < P.types.size) → Below W.heap.size W W' →
   DataW.TrodAll enc P W' 0 (fun b => decide (b < W.heap.size)) true ts vs ds ps := by
 induction ts with
 | nil =>
  intro vs ds ps h _ _
  obtain ⟨rfl, rfl, rfl⟩ := trodAll_nil h
  exact trodAll_mk0
 | cons t ts ih =>
  intro vs ds ps h hok hb
  obtain ⟨v, vs', d, ds', p, q, rfl, rfl, rfl, h0, hr⟩ := trodAll_cons h
  have hlt : ∀ x ∈ p, x.block < W.heap.size := by
   obtain ⟨m, hm⟩ := h0
   exact DataW.trod_lt m _ _ _ hm
  exact trodAll_cons_mk (Below.trod hlo (hok t (by simp)).1 (hok t (by simp)).2 h0 hb hlt) (ih hr (fun u hu => hok u (by simp [hu])) hb)
theorem trodAll_len {H : Type} {enc : TypeId × Value → H} {P : Program} {W : World} {spare : Nat → Bool} (ts : List TypeId) : ∀ {vs : List Value} {ds : List (DataW H)} {ps : List MemPlace},
  DataW.TrodAll enc P W 0 spare true ts vs ds ps → ds.length = ts.length := by
 induction ts with
 | nil =>
  intro vs ds ps h
  obtain ⟨rfl, rfl, rfl⟩ := trodAll_nil h
  rfl
 | cons t ts ih =>
  intro vs ds ps h
  obtain ⟨v, vs', d, ds', p, q, rfl, rfl, rfl, h0, hr⟩ := trodAll_cons h
  simp [ih hr]
structure Given (W : World) (fn : Func) (args : Array Value) : Prop where
 read : ∃ (H : Type) (enc : TypeId × Value → H) (ds : List (DataW H)) (p : List MemPlace), DataW.TrodAll enc Tryz.prog W 0 (fun _ => true) true fn.params.toList args.toList ds p ∧
  (DataW.weightsEach Tryz.prog fn.params.toList ds).all (· ≤ reachBytes) = true
 val : ∃ base, ∀ (j : Nat) t v, fn.params[j]? = some t → args[j]? = some v → Value.okWide Tryz.prog W .any base t v
set_option maxRecDepth 100000 in
theorem law_lifted {F : FuncId} {fn : Func} {s : ChangeSpec} (os : Os) (started : os.Started) (H : Type) (enc : TypeId × Value → H)
  (hi : Tryz.prog.inits.idxOf? F = none) (hf : Tryz.prog.funcs[F]? = some fn) (hvars : s.vars = []) (hres : fn.resultTypes = #[4])
  (hok : ∀ t ∈ fn.params.toList, Tryz.prog.readableRec t = true ∧ t < Tryz.prog.types.size)
  (hspec : ∀ ds : List (DataW H), ds.length = fn.params.toList.length → (s.fn H ds).results = [.lit (.bool true)] ∧ (s.fn H ds).args = ds ∧ (s.fn H ds).vars = [])
  (hwit : ∃ (w : World) (tape : Nat → Question → Nat) (i : Input), w.os = os ∧ World.Shaped Tryz.prog (w.forCall tape i) ∧ i.vars = [] ∧ Input.okWide Tryz.prog (w.forCall tape i) Reach.any w.heap.size F i ∧
   ChangeSpec.pre6 enc Tryz.prog fn s [] false (w.forCall tape i).memory i.args ∧ (({} : Assume)).holds Tryz.prog (lone (Frame.enter Tryz.prog F i.args CallKind.normal) [] (w.forCall tape i)))
  (hwalk : ∀ (W : World) (args : Array Value), Given W fn args → Calls Tryz.prog F args W fun e W' => e = .returned (.bool true) ∧ Below W.heap.size W W') :
  ReturnsInHanded {} Tryz.checked os F .any (s.pre6 enc Tryz.prog fn [] false) (s.post enc Tryz.prog fn false true false false) := by
 refine returnsInHanded_of_change_sized (C := Tryz.checked) own started hi hf hwit ?_
 intro W base args ds gs before hval hW hcnd hwt _
 have hW' := hW
 obtain ⟨p, q, hA, hV, rfl, hfz, hnd⟩ := hW
 rw [hvars] at hV
 obtain ⟨rfl, rfl⟩ := trodVars_none hV
 simp only [List.append_nil] at hW'
 have hvt : s.plain.varTypes Tryz.checked.prog = [] := by show DataSpec.varTypes _ _ = []; unfold DataSpec.varTypes ChangeSpec.plain; rw [hvars]; rfl
 rw [hvt, List.append_nil, List.append_nil] at hwt
 refine (hwalk W args ⟨⟨H, enc, ds, p, hA, hwt⟩, ⟨base, hval⟩⟩).mono fun e W' ⟨he, bel⟩ => ?_
 subst he
 have hs := hspec (ds ++ []) (by simpa using trodAll_len _ hA)
 refine ⟨_, rfl, ds, [], p, [], p, [], hW', ?_, ?_, ?_, bel.frame _, fun h => by cases h⟩
 ·rw [hs.1, hres]
  exact trodAll_mk1 (shut_bool Tryz.underlying4 _)
 ·rw [hs.2.1, List.append_nil]
  exact trodAll_below laidOut _ hA hok bel
 ·rw [hvars, hs.2.2]
  rfl
section
variable {W : World} {H : Type} {enc : TypeId × Value → H}
end
end Go.Proofs.YtpcjmefchclhhaaGreat

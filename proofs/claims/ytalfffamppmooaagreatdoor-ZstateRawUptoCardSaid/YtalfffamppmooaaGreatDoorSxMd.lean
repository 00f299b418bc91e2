/- A part of the proof, merged from several texts. -/
import Derived.Test.YtalfffamppmooaaGreatDoorSxMa
import Derived.Test.YtalfffamppmooaaGreatDoorOwnM
import Derived.Great.BuildSlice
import Derived.Laws.AppendOwnNone
import Derived.OrdersHeld
import Derived.Deep.RegionHeld
import Derived.Test.YtalfffamppmooaaGreatDoorSxMb
import Derived.Deep.LoopGhost
import Derived.ScopeJumps
namespace Go.Proofs.YtalfffamppmooaaGreatDoor
open Go.RowKit
section
variable {P : Program} {md : Region.Mode} {ops : Array Oper} {Q : Exit → Act → World → Prop} {S : World → Prop} {late : List Nat}
def reachB (md : Region.Mode) (ops : Array Oper) : Nat → Nat → Nat → Bool
 | 0, _, _ => false
 | n + 1, j, i => match ops[j]? with
  | some o => o.after.toList.any fun e => Region.binds md e && (e.on == i || reachB md ops n e.on i)
  | none => false
def Closed (md : Region.Mode) (ops : Array Oper) (listed : Array Bool) : Prop := ∀ j o, ops[j]? = some o → listed.getD j false = true → ∀ e ∈ o.after, Region.binds md e = true → listed.getD e.on false = true
theorem reach_listed {listed : Array Bool} (hc : Closed md ops listed) {i : Nat} : ∀ (n j : Nat), (∀ o, ops[j]? = some o → ∀ e ∈ o.after, Region.binds md e = true → listed.getD e.on false = true) → reachB md ops n j i = true → listed.getD i false = true
 | 0, _, _, h => by cases h
 | n + 1, j, hj, h => by
  unfold reachB at h
  cases ho : ops[j]? with
  | none => rw [ho] at h; cases h
  | some o =>
   rw [ho] at h
   obtain ⟨e, he, hb⟩ := List.any_eq_true.1 h
   rw [Bool.and_eq_true, Bool.or_eq_true] at hb
   have he' : e ∈ o.after := by simpa using he
   have hl := hj o ho e he' hb.1
   rcases hb.2 with h1 | h1
   ·have : e.on = i := by simpa using h1
    rw [← this]; exact hl
   ·exact reach_listed hc n e.on (fun o' ho' => hc e.on o' ho' hl) h1
theorem closed_set {listed : Array Bool} (hc : Closed md ops listed) {i : Nat} (hr : i ∈ Region.ready md ops listed) : Closed md ops (listed.setIfInBounds i true) := fun j o ho hj e he hb => by
 by_cases hji : i = j
 ·subst hji
  obtain ⟨_, o', ho', hall⟩ := mem_ready.1 hr
  rw [ho] at ho'
  injection ho' with ho'
  subst ho'
  exact getD_set_true (hall e he hb)
 ·rw [getD_set_ne false hji] at hj
  exact getD_set_true (hc j o ho hj e he hb)
theorem closed_start (n : Nat) (hn : n = ops.size) : Closed md ops (Array.replicate n false) := fun j o ho hj => by
 have hlt : j < ops.size := (Array.getElem?_eq_some_iff.1 ho).1
 subst hn
 simp [hlt] at hj
def wpAnyL (P : Program) (md : Region.Mode) (ops : Array Oper) (Q : Exit → Act → World → Prop) (S : World → Prop) (late : List Nat) : Nat → Array Bool → Act → World → Prop
 | 0, listed, a, w => Region.ready md ops listed = [] ∧ Q .normal a w
 | fuel + 1, listed, a, w =>
  (Region.ready md ops listed = [] → Q .normal a w) ∧
  ∀ i ∈ Region.ready md ops listed, wpOp P ops Q i (fun a' w' => (i ∉ late → S w') ∧ (Closed md ops (listed.setIfInBounds i true) → wpAnyL P md ops Q S late fuel (listed.setIfInBounds i true) a' w')) a w
def lateOk (md : Region.Mode) (ops : Array Oper) (late : List Nat) (i : Nat) : Bool := late.all fun j => reachB md ops ops.size j i
def AllL (P : Program) (md : Region.Mode) (ops : Array Oper) (Q : Exit → Act → World → Prop) (S : World → Prop) (late : List Nat) (fuel : Nat) (listed : Array Bool) (a : Act) (w : World) (rs : List Nat) : Prop :=
 ∀ i ∈ rs, wpOp P ops Q i (fun a' w' => (i ∉ late → S w') ∧ (Closed md ops (listed.setIfInBounds i true) → wpAnyL P md ops Q S late fuel (listed.setIfInBounds i true) a' w')) a w
theorem AllL.nil {fuel : Nat} {listed : Array Bool} {a : Act} {w : World} : AllL P md ops Q S late fuel listed a w [] := fun _ h => by cases h
theorem AllL.cons {fuel : Nat} {listed : Array Bool} {a : Act} {w : World} {i : Nat} {oi : Oper} {rs : List Nat} (hi : ops[i]? = some oi)
  (h : ∀ K : Act → World → Prop, Shut (∀ a w, (i ∉ late → S w) → ((i ∉ late → S w) → Closed md ops (listed.setIfInBounds i true) → wpAnyL P md ops Q S late fuel (listed.setIfInBounds i true) a w) → K a w) → if Region.wanted oi (yielded ops a.tmps) = true then oi.wp P a w K Q else K (a.put oi.dst undef) w)
  (hs : AllL P md ops Q S late fuel listed a w rs) : AllL P md ops Q S late fuel listed a w (i :: rs) := fun j hj => by
 rcases List.mem_cons.1 hj with rfl | hj
 ·exact wpOp_step hi (fun K hK => h K (fun a w hS hW => hK a w ⟨hS, hW hS⟩))
 ·exact hs j hj
end
section
variable {P : Program} {ops : Array Oper} {Q : Exit → Act → World → Prop} {w0 w : World} {L : List (Nat × List Value × TypeId)} {U : List (World × List Nat)} {a : Act} {o : Oper} {ty t : TypeId} {i g k : Nat} {row : List Value} {v : Value}
theorem Env.sub {U' : List (World × List Nat)} (h : Env w0 w L U) (hU : ∀ q ∈ U', q ∈ U) : Env w0 w L U' := ⟨h.blw, h.own, h.sep, fun q hq => h.sn q (hU q hq)⟩
theorem wanted_none (hg : o.guard = none) : Region.wanted o (yielded ops a.tmps) = true := by unfold Region.wanted; rw [hg]
theorem yi_pass {S : World → Prop} (hw : Region.wanted o (yielded ops a.tmps) = false) : YieldsIf P ops S o undef a := .inr ⟨hw, rfl⟩
theorem yi_run {S : World → Prop} (hw : Region.wanted o (yielded ops a.tmps) = true) (hr : ∀ w, S w → (execOp a.eval o).run P w = .ok (.value v) w) : YieldsIf P ops S o v a := .inl ⟨hw, hr⟩
end
section
variable {P : Program} {ops : Array Oper} {w0 w : World} {L : List (Nat × List Value × TypeId)} {U : List (World × List Nat)} {a : Act} {o : Oper} {α : Type} {sz : Nat} {f : α → List Value} {l : List α}
end
end Go.Proofs.YtalfffamppmooaaGreatDoor
namespace Go.Proofs.YtalfffamppmooaaGreatDoor
open Go.RowKit
section
variable {P : Program} {md : Region.Mode} {ops : Array Oper} {Q : Exit → Act → World → Prop} {S : World → Prop} {late : List Nat}
def Grow (S : World → Prop) : Prop := ∀ w u, S w → Below w.heap.size w u → S u
def wpAnyG (P : Program) (md : Region.Mode) (ops : Array Oper) (Q : Exit → Act → World → Prop) (late : List Nat) : Nat → (World → Prop) → Array Bool → Act → World → Prop
 | 0, _, listed, a, w => ∀ u, Below w.heap.size w u → Region.ready md ops listed = [] ∧ Q .normal a u
 | fuel + 1, S, listed, a, w => ∀ u, Below w.heap.size w u →
  (Region.ready md ops listed = [] → Q .normal a u) ∧
  ∀ i ∈ Region.ready md ops listed, wpOp P ops Q i (fun a' w' => ∃ S' : World → Prop, (i ∉ late → ∀ u, S' u → S u) ∧ S' w' ∧ Grow S' ∧ (Closed md ops (listed.setIfInBounds i true) → wpAnyG P md ops Q late fuel S' (listed.setIfInBounds i true) a' w')) a u
theorem wpAny_of_G : ∀ (fuel : Nat) (S : World → Prop) (listed : Array Bool) (a : Act) (w : World), Closed md ops listed → wpAnyG P md ops Q late fuel S listed a w → wpAny P md ops Q fuel listed a w
 | 0, _, _, _, _, _, h => h _ (.refl _ _)
 | fuel + 1, _, _, _, _, hc, h => have h := h _ (.refl _ _); ⟨h.1, fun i hi => wpOp_mono (fun a' w' ⟨S', _, _, _, h'⟩ => wpAny_of_G fuel S' _ a' w' (closed_set hc hi) (h' (closed_set hc hi))) (h.2 i hi)⟩
theorem wpAnyG.grow {fuel : Nat} {S : World → Prop} {listed : Array Bool} {a : Act} {w u : World} (h : wpAnyG P md ops Q late fuel S listed a w) (hb : Below w.heap.size w u) : wpAnyG P md ops Q late fuel S listed a u := by
 cases fuel with
 | zero => exact fun v hv => h v (hb.trans (hv.mono hb.size))
 | succ n => exact fun v hv => h v (hb.trans (hv.mono hb.size))
theorem YieldsIf.sub {o : Oper} {v : Value} {a : Act} {S' : World → Prop} (h : YieldsIf P ops S o v a) (hs : ∀ u, S' u → S u) : YieldsIf P ops S' o v a :=
 h.imp (fun h => ⟨h.1, fun u hu => h.2 u (hs u hu)⟩) id
theorem wpAnyG_first {i N : Nat} {oi : Oper} {v : Value} (hi : ops[i]? = some oi) (hsel : ∀ (j : Nat) (o : Oper) cs b, ops[j]? = some o → o.op ≠ .select cs b)
  (hQ : ∀ c a w, Q (.panic c) (a.put oi.dst v) w → Q (.panic c) a w) (hlate : ∀ j ∈ late, reachB md ops N j i = true) :
  ∀ (fuel : Nat) (S : World → Prop) (listed : Array Bool) (a : Act) (w : World), Closed md ops listed →
   (∀ j oj, ops[j]? = some oj → j ≠ i → listed.getD j true = false → (∀ e ∈ oj.after, Region.binds md e = true → e.on ≠ i) → oi.apart ops oj = true) →
   i ∈ Region.ready md ops listed → YieldsIf P ops S oi v a → S w → Grow S →
   wpAnyG P md ops Q late fuel S (listed.setIfInBounds i true) (a.put oi.dst v) w → wpAnyG P md ops Q late (fuel + 1) S listed a w := by
 intro fuel
 induction fuel with
 | zero =>
  intro S listed a w hc _ hr hy hS hG H u hu
  refine ⟨fun h => (by rw [h] at hr; cases hr), fun j hj => ?_⟩
  by_cases hji : j = i
  ·subst hji; exact hy.wpOp hi (hG _ _ hS hu) ⟨S, fun _ _ h => h, hG _ _ hS hu, hG, fun _ => H.grow hu⟩
  ·have := ready_mono hj hji
   rw [(H u hu).1] at this
   cases this
 | succ fuel ih =>
  intro S listed a w hc hfree hr hy hS hG H u hu
  refine ⟨fun h => (by rw [h] at hr; cases hr), fun j hj => ?_⟩
  by_cases hji : j = i
  ·subst hji; exact hy.wpOp hi (hG _ _ hS hu) ⟨S, fun _ _ h => h, hG _ _ hS hu, hG, fun _ => H.grow hu⟩
  ·have h1 := (H u hu).2 j (ready_mono hj hji)
   obtain ⟨hjun, oj, hoj, hall⟩ := mem_ready.1 hj
   have hiun := (mem_ready.1 hr).1
   have hcon : ∀ {b : Bool}, listed.getD i b = true → b = false → False := fun hb hb0 => by
    subst hb0
    rcases Nat.lt_or_ge i listed.size with h' | h'
    ·simp [h'] at hiun hb; rw [hiun] at hb; cases hb
    ·simp [Array.getElem?_eq_none h'] at hb
   have hjl : j ∉ late := fun hm => hcon (reach_listed hc N j (fun o ho => by
    rw [hoj] at ho
    injection ho with ho
    subst ho
    exact hall) (hlate j hm)) rfl
   have hnot : ∀ e ∈ oj.after, Region.binds md e = true → e.on ≠ i := fun e he hb heq => by
    have h1 := hall e he hb
    rw [heq] at h1
    exact hcon h1 rfl
   have h2 := wpOp_putIf hoj (hfree j oj hoj hji hjun hnot) (fun cs b => hsel i oi cs b hi) (fun cs b => hsel j oj cs b hoj) hQ hy h1
   have hfree' : ∀ k ok, ops[k]? = some ok → k ≠ i → (listed.setIfInBounds j true).getD k true = false →
     (∀ e ∈ ok.after, Region.binds md e = true → e.on ≠ i) → oi.apart ops ok = true := fun k ok hk hki hun hno => by
    refine hfree k ok hk hki ?_ hno
    by_cases hjk : j = k
    ·subst hjk; exact hjun
    ·rw [getD_set_ne true hjk] at hun; exact hun
   refine wpOp_mono (fun a' w' h3 => ?_) h2
   obtain ⟨hy3, S', hs1, hs2, hs3, h3⟩ := h3
   refine ⟨S', hs1, hs2, hs3, fun hcj => ih S' (listed.setIfInBounds j true) a' w' hcj hfree' (ready_mono hr (Ne.symm hji)) (YieldsIf.sub (S := S) hy3 (hs1 hjl)) hs2 hs3 ?_⟩
   rw [Array.setIfInBounds_comm _ _ hji]
   exact h3 (by rw [Array.setIfInBounds_comm _ _ (Ne.symm hji)]; exact closed_set hcj (ready_mono hr (Ne.symm hji)))
theorem wpAnyG_firstP {i : Nat} {oi : Oper} {v : Value} (hi : ops[i]? = some oi) (hsel : ∀ (j : Nat) (o : Oper) cs b, ops[j]? = some o → o.op ≠ .select cs b)
  (hQ : ∀ c a w, Q (.panic c) (a.put oi.dst v) w → Q (.panic c) a w) :
  ∀ (fuel : Nat) (S : World → Prop) (listed : Array Bool) (a : Act) (w : World), Closed md ops listed →
   (∀ j oj, ops[j]? = some oj → j ≠ i → listed.getD j true = false → (∀ e ∈ oj.after, Region.binds md e = true → e.on ≠ i) → oi.apart ops oj = true) →
   i ∈ Region.ready md ops listed → YieldsIf P ops (fun _ => True) oi v a → S w → Grow S →
   wpAnyG P md ops Q late fuel S (listed.setIfInBounds i true) (a.put oi.dst v) w → wpAnyG P md ops Q late (fuel + 1) S listed a w := by
 intro fuel
 induction fuel with
 | zero =>
  intro S listed a w hc _ hr hy hS hG H u hu
  refine ⟨fun h => (by rw [h] at hr; cases hr), fun j hj => ?_⟩
  by_cases hji : j = i
  ·subst hji; exact hy.wpOp hi trivial ⟨S, fun _ _ h => h, hG _ _ hS hu, hG, fun _ => H.grow hu⟩
  ·have := ready_mono hj hji
   rw [(H u hu).1] at this
   cases this
 | succ fuel ih =>
  intro S listed a w hc hfree hr hy hS hG H u hu
  refine ⟨fun h => (by rw [h] at hr; cases hr), fun j hj => ?_⟩
  by_cases hji : j = i
  ·subst hji; exact hy.wpOp hi trivial ⟨S, fun _ _ h => h, hG _ _ hS hu, hG, fun _ => H.grow hu⟩
  ·have h1 := (H u hu).2 j (ready_mono hj hji)
   obtain ⟨hjun, oj, hoj, hall⟩ := mem_ready.1 hj
   have hiun := (mem_ready.1 hr).1
   have hnot : ∀ e ∈ oj.after, Region.binds md e = true → e.on ≠ i := fun e he hb heq => by
    have h1 := hall e he hb
    rw [heq] at h1
    rcases Nat.lt_or_ge i listed.size with h' | h'
    ·simp [h'] at hiun h1; rw [hiun] at h1; cases h1
    ·simp [Array.getElem?_eq_none h'] at h1
   have h2 := wpOp_putIf hoj (hfree j oj hoj hji hjun hnot) (fun cs b => hsel i oi cs b hi) (fun cs b => hsel j oj cs b hoj) hQ hy h1
   have hfree' : ∀ k ok, ops[k]? = some ok → k ≠ i → (listed.setIfInBounds j true).getD k true = false →
     (∀ e ∈ ok.after, Region.binds md e = true → e.on ≠ i) → oi.apart ops ok = true := fun k ok hk hki hun hno => by
    refine hfree k ok hk hki ?_ hno
    by_cases hjk : j = k
    ·subst hjk; exact hjun
    ·rw [getD_set_ne true hjk] at hun; exact hun
   refine wpOp_mono (fun a' w' h3 => ?_) h2
   obtain ⟨hy3, S', hs1, hs2, hs3, h3⟩ := h3
   refine ⟨S', hs1, hs2, hs3, fun hcj => ih S' (listed.setIfInBounds j true) a' w' hcj hfree' (ready_mono hr (Ne.symm hji)) hy3 hs2 hs3 ?_⟩
   rw [Array.setIfInBounds_comm _ _ hji]
   exact h3 (by rw [Array.setIfInBounds_comm _ _ (Ne.symm hji)]; exact closed_set hcj (ready_mono hr (Ne.symm hji)))
def CallsTo (P : Program) (ops : Array Oper) (o : Oper) (v : Value) (a : Act) : Prop :=
 Region.wanted o (yielded ops a.tmps) = true ∧ ∃ f vs, (∀ w, (execOp a.eval o).run P w = .ok (.enter f vs) w) ∧ ∀ w, Calls P f vs w fun e w' => e = .returned v ∧ Below w.heap.size w w'
theorem CallsTo.wpOp {i : Nat} {o : Oper} {v : Value} {a : Act} (hi : ops[i]? = some o) (hy : CallsTo P ops o v a) {K : Act → World → Prop} {w : World} (h : ∀ w', Below w.heap.size w w' → K (a.put o.dst v) w') : wpOp P ops Q i K a w := by
 obtain ⟨hw, f, vs, h1, h2⟩ := hy
 unfold Go.wpOp
 simp only [hi, hw, if_true]
 refine .inl ?_
 unfold Oper.wp
 rw [h1 w, Oper.upon_enter]
 refine (h2 w).mono fun e w' ⟨he, hb⟩ => ?_
 subst he
 exact h w' hb
theorem CallsTo.of_same {o : Oper} {v : Value} {a a' : Act} (hy : CallsTo P ops o v a) (he : execOp a'.eval o = execOp a.eval o) (hw : Region.wanted o (yielded ops a'.tmps) = Region.wanted o (yielded ops a.tmps)) : CallsTo P ops o v a' := by
 unfold CallsTo at *
 rw [he, hw]
 exact hy
theorem wpOp_putC {j : Nat} {oi oj : Oper} {v : Value} (hj : ops[j]? = some oj) (hap : oi.apart ops oj = true) (hsi : ∀ cs b, oi.op ≠ .select cs b) (hsj : ∀ cs b, oj.op ≠ .select cs b)
  (hQ : ∀ c a w, Q (.panic c) (a.put oi.dst v) w → Q (.panic c) a w) {K : Act → World → Prop} {a : Act} {w : World} (hy : CallsTo P ops oi v a) (h : wpOp P ops Q j K (a.put oi.dst v) w) : wpOp P ops Q j (fun a' w' => CallsTo P ops oi v a' ∧ K (a'.put oi.dst v) w') a w := by
 obtain ⟨p1, p2, p3⟩ := Oper.apart_spec hap
 have stay : ∀ {b : Act}, CallsTo P ops oi v b → ∀ u, CallsTo P ops oi v (b.put oj.dst u) := fun {b} hb u => hb.of_same (execOp_put oi hsi b oj.dst u p3) (wanted_put oi b oj.dst u p3)
 have comm : ∀ (b : Act) (u : Value), (b.put oi.dst v).put oj.dst u = (b.put oj.dst u).put oi.dst v := fun b u => Act.put_comm b v u p2
 unfold Go.wpOp at h ⊢
 simp only [hj] at h ⊢
 rw [wanted_put oj a oi.dst v p1] at h
 cases hw : Region.wanted oj (yielded ops a.tmps) with
 | false =>
  rw [hw] at h
  have h : K ((a.put oi.dst v).put oj.dst undef) w := h
  rw [comm] at h
  exact ⟨stay hy _, h⟩
 | true =>
  rw [hw] at h
  have h : (oj.wp P (a.put oi.dst v) w K Q ∨ (oj.asks P (a.put oi.dst v) w ∧ LetsOut Q)) := h
  show (oj.wp P a w _ Q ∨ (oj.asks P a w ∧ LetsOut Q))
  rcases h with h | ⟨h, hl⟩
  ·refine .inl ?_
   unfold Oper.wp at h ⊢
   rw [execOp_put oj hsj a oi.dst v p1] at h
   generalize (execOp a.eval oj).run P w = res at h ⊢
   cases res with
   | ok nx w' =>
    cases nx <;> simp only [Oper.upon] at h ⊢
    case value u => rw [comm] at h; exact ⟨stay hy u, h⟩
    case skip => rw [comm] at h; exact ⟨stay hy _, h⟩
    case defer d =>
     have e := comm { a with defers := d :: a.defers } undef
     refine ⟨stay (b := { a with defers := d :: a.defers }) (hy.of_same rfl rfl) _, ?_⟩
     rw [← e, ← Act.put_defers]
     exact h
    case enter f vs =>
     refine Calls.mono h fun e w'' he => ?_
     cases e with
     | returned u => have he : K ((a.put oi.dst v).put oj.dst u) w'' := he; rw [comm] at he; exact ⟨stay hy u, he⟩
     | panicked c => exact hQ _ _ _ he
     | outgrown => exact he
    case row row vs => exact Rows.mono h fun u w'' he => by rw [comm] at he; exact ⟨stay hy u, he⟩
   | halt x w' =>
    cases x <;> simp only [Oper.upon] at h ⊢
    case panic u => exact hQ _ _ _ h
  ·refine .inr ⟨?_, hl⟩
   unfold Oper.asks at h ⊢
   rw [execOp_put oj hsj a oi.dst v p1] at h
   exact h
theorem wpAnyG_firstC {i : Nat} {oi : Oper} {v : Value} (hi : ops[i]? = some oi) (hsel : ∀ (j : Nat) (o : Oper) cs b, ops[j]? = some o → o.op ≠ .select cs b)
  (hQ : ∀ c a w, Q (.panic c) (a.put oi.dst v) w → Q (.panic c) a w) :
  ∀ (fuel : Nat) (S : World → Prop) (listed : Array Bool) (a : Act) (w : World), Closed md ops listed →
   (∀ j oj, ops[j]? = some oj → j ≠ i → listed.getD j true = false → (∀ e ∈ oj.after, Region.binds md e = true → e.on ≠ i) → oi.apart ops oj = true) →
   i ∈ Region.ready md ops listed → CallsTo P ops oi v a → S w → Grow S →
   wpAnyG P md ops Q late fuel S (listed.setIfInBounds i true) (a.put oi.dst v) w → wpAnyG P md ops Q late (fuel + 1) S listed a w := by
 intro fuel
 induction fuel with
 | zero =>
  intro S listed a w hc _ hr hy hS hG H u hu
  refine ⟨fun h => (by rw [h] at hr; cases hr), fun j hj => ?_⟩
  by_cases hji : j = i
  ·subst hji; exact hy.wpOp hi fun w' hb => ⟨S, fun _ _ h => h, hG _ _ (hG _ _ hS hu) hb, hG, fun _ => (H.grow hu).grow hb⟩
  ·have := ready_mono hj hji
   rw [(H u hu).1] at this
   cases this
 | succ fuel ih =>
  intro S listed a w hc hfree hr hy hS hG H u hu
  refine ⟨fun h => (by rw [h] at hr; cases hr), fun j hj => ?_⟩
  by_cases hji : j = i
  ·subst hji; exact hy.wpOp hi fun w' hb => ⟨S, fun _ _ h => h, hG _ _ (hG _ _ hS hu) hb, hG, fun _ => (H.grow hu).grow hb⟩
  ·have h1 := (H u hu).2 j (ready_mono hj hji)
   obtain ⟨hjun, oj, hoj, hall⟩ := mem_ready.1 hj
   have hiun := (mem_ready.1 hr).1
   have hnot : ∀ e ∈ oj.after, Region.binds md e = true → e.on ≠ i := fun e he hb heq => by
    have h1 := hall e he hb
    rw [heq] at h1
    rcases Nat.lt_or_ge i listed.size with h' | h'
    ·simp [h'] at hiun h1; rw [hiun] at h1; cases h1
    ·simp [Array.getElem?_eq_none h'] at h1
   have h2 := wpOp_putC hoj (hfree j oj hoj hji hjun hnot) (fun cs b => hsel i oi cs b hi) (fun cs b => hsel j oj cs b hoj) hQ hy h1
   have hfree' : ∀ k ok, ops[k]? = some ok → k ≠ i → (listed.setIfInBounds j true).getD k true = false →
     (∀ e ∈ ok.after, Region.binds md e = true → e.on ≠ i) → oi.apart ops ok = true := fun k ok hk hki hun hno => by
    refine hfree k ok hk hki ?_ hno
    by_cases hjk : j = k
    ·subst hjk; exact hjun
    ·rw [getD_set_ne true hjk] at hun; exact hun
   refine wpOp_mono (fun a' w' h3 => ?_) h2
   obtain ⟨hy3, S', hs1, hs2, hs3, h3⟩ := h3
   refine ⟨S', hs1, hs2, hs3, fun hcj => ih S' (listed.setIfInBounds j true) a' w' hcj hfree' (ready_mono hr (Ne.symm hji)) hy3 hs2 hs3 ?_⟩
   rw [Array.setIfInBounds_comm _ _ hji]
   exact h3 (by rw [Array.setIfInBounds_comm _ _ (Ne.symm hji)]; exact closed_set hcj (ready_mono hr (Ne.symm hji)))
end
section
variable {P : Program} {tb : List (Nat × TI)} {N n : Nat} {I I' I0 : Imm} {V V' V0 : Va} {a : Act} {t : Ts} {own own' own0 : Os} {w w' w0 : World} {g : G} {y : Value} {d : Option Tmp}
variable {XL : List Nat} {mo : Mo} {S : World → Prop} {K : Ts → Os → Nat → Prop} {next : Act → World → Prop} {Q : Exit → Act → World → Prop} {o : Oper}
theorem sxOp_q (hT : ∀ t i, look t tb = some i → TIok P t i) (hXL : ∀ k ∈ mo.xl, ∃ r, look k own = some r) (hS : isR tb o = true → ∀ u, S u → Agree V mo.xl w u) (hq : isQ tb o = true) (h : sxOp P tb mo o t own V.n K) (hH : Has I V own w) (ha : ARep N I V a t) : QOk S P I V own w a t o K := by
 obtain ⟨dst, op, type, pos, after, guard⟩ := o
 cases op with
 | move x => exact q_move hH ha (.inl rfl) h
 | assign x =>
  unfold sxOp at h
  unfold isQ at hq
  dsimp only at h hq
  split at h
  ·cases hq
  ·exact q_move hH ha (.inr rfl) h
 | pick c x y => exact q_pick hH ha rfl h
 | load ty x => exact q_load hT hH ha hXL (hS rfl) rfl h
 | fieldAddr ty x f => exact q_fieldAddr hT hH ha rfl h
 | field ty x f => exact q_field hT hH ha rfl h
 | indexAddr ty x i => exact q_indexAddr hT hH ha rfl h
 | index ty x i => exact q_index hT hH ha rfl h
 | binOp op ty x y ty' => exact q_bin hT hH ha rfl h
 | unOp op ty x =>
  cases op with
  | not => exact q_not hH ha rfl h
  | _ => exact False.elim h
 | extract x i => exact q_extract hH ha rfl h
 | nilCheck x => exact q_nilCheck hH ha rfl h
 | makeFunc fn p q =>
  cases fn with
  | func f => exact q_makeFunc hH ha rfl h
  | _ => exact False.elim h
 | lookup ty x i ok => exact q_lookup hT hXL (hS rfl) hH ha rfl h
 | build ty parts => exact q_build hT hH ha rfl h
 | slice ty x lo hi mx =>
  cases mx with
  | some _ => exact False.elim h
  | none => exact q_slice hT hH ha rfl hq h
 | convert src dst x =>
  unfold sxOp at h
  unfold isQ at hq
  dsimp only at h hq
  split at h
  ·next p q hp hq2 =>
   rw [hp, hq2] at hq
   dsimp only at hq
   split at h
   ·next e sz h1 h2 => rw [h1, h2] at hq; cases hq
   ·exact q_conv hT (hS rfl) hH ha rfl hp hq2 h
  ·exact h.elim
 | call c =>
  obtain ⟨callee, args, argTypes⟩ := c
  cases callee with
  | builtin b =>
   cases b with
   | len =>
    obtain ⟨args⟩ := args
    obtain ⟨argTypes⟩ := argTypes
    unfold sxOp at h
    dsimp only at h
    split at h
    ·next x ty =>
     split at h
     ·next hl => exact q_lenS hH ha ((hT _ _ hl).str rfl) rfl h
     ·next e hl => exact q_lenL hH ha ((hT _ _ hl).elem _ _ rfl).1 rfl h
     ·next str e hl =>
      refine q_lenM hT hXL (hS ?_) hH ha hl rfl rfl h
      show anyB (isPt tb) [ty] = true
      unfold anyB isPt isKd
      rw [hl]
      rfl
     ·exact h.elim
    ·exact h.elim
   | max =>
    obtain ⟨args⟩ := args
    unfold sxOp at h
    dsimp only at h
    split at h
    ·exact q_max hH ha rfl h
    ·exact h.elim
   | min =>
    obtain ⟨args⟩ := args
    unfold sxOp at h
    dsimp only at h
    split at h
    ·exact q_min hH ha rfl h
    ·exact h.elim
   | _ => cases hq
  | _ => cases hq
 | _ => cases hq
def isCallV (o : Oper) : Bool := match o.op with
 | .call c => match c.callee with
  | .value _ => true
  | _ => false
 | _ => false
theorem sxOp_b (hT : ∀ t i, look t tb = some i → TIok P t i) (hmo : isCallV o = true → mo = .new) (hq : isQ tb o = false) (hl : isL tb o = false) (h : sxOp P tb mo o t own V.n K) (hH : Has I V own w) (ha : ARep N I V a t) (hd : ∀ i, o.dst = some i → i < N) (hK : NxtB N own I V w K next) : o.wp P a w next Q := by
 obtain ⟨dst, op, type, pos, after, guard⟩ := o
 cases op with
 | assign x =>
  unfold sxOp at h
  unfold isQ at hq
  dsimp only at h hq
  split at h
  ·split at h
   ·next e sz _ _ hl => exact op_nil hK hH ha hd ((hT _ _ hl).elem _ _ rfl).2.choose_spec.choose_spec.2.2.2.2.1 rfl h
   ·exact finB (g := .nl) hK ha hd (by rfl) (.refl hH) (Below.refl _ _) (.refl _) (.of_v .nl) h
  ·next hx =>
   split at hq
   ·exact absurd rfl (hx · )
   ·cases hq
 | convert src dst x =>
  unfold sxOp at h
  unfold isQ at hq
  dsimp only at h hq
  split at h
  ·next p q hp hq2 =>
   rw [hp, hq2] at hq
   dsimp only at hq
   split at h
   ·next e sz h1 h2 =>
    split at h
    ·next hu => exact op_bytes hH ha hd hK rfl ((hT _ _ hp).str h1) ((hT _ _ hq2).elem _ _ h2).1 (TIok.u8 hT hu) h
    ·exact h.elim
   ·next hne =>
    split at hq
    ·next e h1 h2 => exact absurd h2 (fun h2 => (by obtain ⟨e, sz⟩ := e; exact hne e sz h1 h2))
    ·cases hq
  ·exact h.elim
 | alloc ty => exact op_alloc hT hK hH ha hd rfl h
 | box ty x => exact op_box hK hH ha hd rfl h
 | slice ty z lo hi mx =>
  cases mx with
  | some _ => exact False.elim h
  | none =>
   unfold isQ at hq
   unfold sxOp at h
   dsimp only at hq h
   split at hq
   ·next e1 sz e2 e3 e4 hl =>
    rw [hl] at h
    split at h
    ·next h1 => cases h1
    ·next h1 => cases h1
    ·next h1 => cases h1; exact op_arrsl hT hH ha hd hK hl rfl h
    ·exact h.elim
   ·cases hq
 | buildSlice ty len parts => exact op_buildSlice hT hK hH ha hd rfl h
 | makeSlice ty len cap => exact op_makeSlice hT hK hH ha hd rfl h
 | call c =>
  obtain ⟨callee, args, argTypes⟩ := c
  cases callee with
  | builtin b => cases b <;> first | (cases hq; done) | (cases hl; done) | exact False.elim h
  | value f =>
   have hmo := hmo rfl
   subst hmo
   refine op_call (fo := f) rfl rfl hH ha hd h fun t own' I' V' a' w' hk hl2 hm har => ?_
   obtain ⟨ks, m1, m2, m3, m4⟩ := hm (fun e => by cases e)
   cases ks with
   | cons k ks => cases m1
   | nil => exact hK _ _ _ _ _ _ hk hl2 ⟨hl2.fro.os, hl2.fro.tape, hl2.fro.output, hl2.fro.size, fun b hb => m3 b hb fun k hk => by simp at hk⟩ (fun k hk b hb => (m4 k hk b hb).elim id fun h => (h.1 rfl).elim) har
  | invoke r m => exact False.elim h
 | makeMap ty r =>
  cases r with
  | some r => exact False.elim h
  | none => exact op_makeMap hH ha hd hK rfl h
 | range ty x => exact op_range hT hH ha hd hK rfl h
 | _ => first | (cases hq; done) | (cases hl; done) | exact False.elim h
theorem sxOp_l (hT : ∀ t i, look t tb = some i → TIok P t i) (hl : isL tb o = true) (h : sxOp P tb mo o t own V.n K) (hL : Since own0 I0 V0 w0 own I V w) (ha : ARep N I V a t) (hd : ∀ i, o.dst = some i → i < N) (hK : Nxt N own0 I0 V0 w0 K next) : o.wp P a w next Q := by
 obtain ⟨dst, op, type, pos, after, guard⟩ := o
 cases op with
 | store ty x y => exact op_store hT hK hL ha hd rfl h
 | mapUpdate ty m k x => exact mput_ok hT hL hK ha hd (.inl rfl) h
 | insert ty m k x => exact mput_ok hT hL hK ha hd (.inr rfl) h
 | next x b =>
  cases b with
  | true => exact op_next hL hK ha hd rfl h
  | false => exact op_nextM hL hK ha hd rfl h
 | entry x => exact op_entry hL hK ha hd rfl h
 | call c =>
  obtain ⟨callee, args, argTypes⟩ := c
  cases callee with
  | builtin b =>
   cases b with
   | append =>
    obtain ⟨args⟩ := args
    obtain ⟨argTypes⟩ := argTypes
    unfold sxOp at h
    dsimp only at h
    split at h
    ·next x y ty ty' =>
     split at h
     ·next e sz _ _ hb hlk =>
      have hb := Nat.eq_of_beq_eq_true hb
      subst hb
      exact op_append hT hK hL ha hd hlk rfl h
     ·next hlk =>
      split at h
      ·next hs1 hl2 =>
       have hs1 := Nat.eq_of_beq_eq_true hs1
       subst hs1
       exact op_append_str hT hK hL ha hd hlk rfl hl2 rfl rfl h
      ·exact h.elim
     ·exact h.elim
    ·exact h.elim
   | copy =>
    obtain ⟨args⟩ := args
    obtain ⟨argTypes⟩ := argTypes
    unfold sxOp at h
    dsimp only at h
    split at h
    ·next x y ty ty' =>
     split at h
     ·next hlk => exact op_copy hT hK hL ha hd hlk rfl h
     ·exact h.elim
    ·exact h.elim
   | delete =>
    obtain ⟨args⟩ := args
    obtain ⟨argTypes⟩ := argTypes
    unfold sxOp at h
    dsimp only at h
    split at h
    ·exact op_delete hT hL hK ha hd rfl h
    ·exact h.elim
   | _ => cases hl
  | value f => exact op_call (fo := f) rfl rfl hL.has ha hd h fun t own' I' V' a' w' hk hl2 _ har => hK _ _ _ _ _ _ hk (hL.trans hl2) har
  | _ => cases hl
 | _ => cases hl
theorem sxOp_vs (hT : ∀ t i, look t tb = some i → TIok P t i) (hv : vsB XL t o = true) (h : sxOp P tb (.vs XL) o t own V.n K) (hH : Has I V own w) (hkX : ∀ k ∈ XL, k < V.n) (ha : ARep N I V a t) (hd : ∀ i, o.dst = some i → i < N) (hK : ∀ t own' I' V' a' w', K t own' V'.n → Later own I V w own' I' V' w' → Agree V XL w w' → (∀ k ∈ XL, ∀ b, V'.f k b → b < w.heap.size → ∃ k' ∈ XL, V.f k' b) → ARep N I' V' a' t → next a' w') : o.wp P a w next Q := by
 obtain ⟨dst, op, type, pos, after, guard⟩ := o
 have hv0 := hv
 unfold vsB at hv
 cases guard with
 | some g => cases hv
 | none =>
 cases op with
 | store ty x z =>
  cases x with
  | tmp d =>
   dsimp only at hv
   cases hl : look d t with
   | none => rw [hl] at hv; cases hv
   | some g =>
    rw [hl] at hv
    cases g with
    | ptr k off =>
     dsimp only at hv
     have hm := memB_mem.1 hv
     obtain ⟨y, hy, hg⟩ := ha.get d _ hl
     obtain ⟨hkn, rfl⟩ := trep_ptr hg
     have he : a.eval (.tmp d) = .pointer (some ⟨V.b k, off, none⟩) := by simp [Act.eval, hy]
     unfold sxOp at h
     dsimp only at h
     unfold ev at h
     dsimp only at h
     rw [hl] at h
     dsimp only at h
     obtain ⟨u, hk, hu⟩ := ev_ok (K := fun u => cellsK own u fun cs => match allB (oneO own) cs, look ty tb with
      | true, some i => match Nat.beq cs.length i.zero.length, cs with
       | true, _ :: _ => match look k own with
        | some (.blk cells ty') => ovr cells off cs fun cells' => K (put dst .un t) ((k, .blk cells' ty') :: own) V.n
        | _ => False
       | _, _ => False
      | _, _ => False) h ha hH
     obtain ⟨cs, hk, hp, -⟩ := cells_ok hk hu hH
     obtain ⟨ds, hds⟩ : ∃ ds, (a.eval z).cells.toList = ds := ⟨_, rfl⟩
     rw [hds] at hp
     split at hk
     ·next i h1 hty =>
      split at hk
      ·next c0 cs0 hb =>
       split at hk
       ·next cells ty' hr =>
        obtain ⟨us, k1, k2, -⟩ := blk_at hH hr
        obtain ⟨cells', k3, k4, k5⟩ := ovr_ok hk k2 hp
        have hone := one_pw hH h1 hp
        have hlen : ds.length = i.zero.length := hp.1.symm.trans (Nat.eq_of_beq_eq_true hb)
        have hdn : ds ≠ [] := fun e => by
         have := hp.1
         rw [e] at this
         simp at this
        have hrun := run_storeAt (P := P) (w := w) (hT ty i hty).size hds hlen k1 (k5 hdn : off + ds.length ≤ us.length) hone
        have hl2 := later_upd (w' := w.setRow (V.b k) _) (r := .blk cells' ty') hH hr rfl rfl rfl (by simp [World.setRow]) (fun b hb => setRow_other w _ b _ (fun e => hb (((hH.each k _ hr).1 b).2 e))) ⟨(hH.each k _ hr).1, _, setRow_heap w _ us.toArray _ ty' _ k1, k4⟩
        unfold Oper.wp
        have hex : (execOp a.eval (⟨dst, .store ty (.tmp d) z, type, pos, after, none⟩ : Oper)).run P w = .ok .skip (w.setRow (V.b k) (List.take off us ++ ds ++ List.drop (off + ds.length) us).toArray) := by
         simp only [execOp, Sem.run_bind, he, hrun, Result.andThen_ok, Sem.run_pure]
        rw [hex]
        exact hK _ _ _ _ _ _ k3 hl2 (fun b hlt hX => setRow_other w _ b _ (fun e => hX k hm (((hH.each k _ hr).1 b).2 e))) (fun k hk b hb _ => ⟨k, hk, hb⟩) ((ha.mono hl2.fro.mono hl2.va).put hd (.of_v .un))
       ·exact hk.elim
      ·exact hk.elim
     ·exact hk.elim
    | _ => cases hv
  | _ => cases hv
 | call cl =>
  cases hce : cl.callee with
  | value f =>
   refine op_call (mo := .vs XL) (K := K) (fo := f) rfl hce hH ha hd ?_ fun t own' I' V' a' w' hk hl2 hm har => ?_
   ·have h := h
    unfold sxOp at h
    dsimp only at h
    rw [hce] at h
    exact h
   ·obtain ⟨ks, m1, m2, m3, m4⟩ := hm (fun e => by cases e)
    have hsub : ∀ k ∈ ks, k ∈ XL := fun k hk => memB_mem.1 (allB_mem (show allB (fun k => memB k XL) ks = true from m1) k hk)
    refine hK _ _ _ _ _ _ hk hl2 (fun b hb hX => m3 b hb fun k hk => hX k (hsub k hk)) (fun k hk b hb hlt => ?_) har
    rcases m4 k (hkX k hk) b hb with h1 | ⟨-, ⟨k', h1, h2⟩ | h1⟩
    ·exact ⟨k, hk, h1⟩
    ·exact ⟨k', hsub k' h1, h2⟩
    ·omega
  | _ => rw [show vsB XL t ⟨dst, .call cl, type, pos, after, none⟩ = false from ?_] at hv0 <;> first | cases hv0 | (unfold vsB; dsimp only; rw [hce])
 | _ => cases hv
theorem sxOp_ok (hT : ∀ t i, look t tb = some i → TIok P t i) (h : sxOp P tb .row o t own V.n K) (hL : Since own0 I0 V0 w0 own I V w) (ha : ARep N I V a t) (hd : ∀ i, o.dst = some i → i < N) (hK : Nxt N own0 I0 V0 w0 K next) : o.wp P a w next Q := by
 cases hq : isQ tb o with
 | true => exact (sxOp_q (S := fun u => u = w) (mo := .row) hT (fun k hk => by simp [Mo.xl] at hk) (fun _ u hu => by subst hu; exact fun _ _ _ => rfl) hq h hL.has ha).wp rfl hK hL ha hd
 | false =>
  cases hl : isL tb o with
  | true => exact sxOp_l hT hl h hL ha hd hK
  | false =>
   cases hc : isCallV o with
   | false => exact sxOp_b hT (fun h => by rw [hc] at h; cases h) hq hl h hL.has ha hd (NxtB.of hK hL)
   | true =>
    obtain ⟨dst, op, type, pos, after, guard⟩ := o
    cases op with
    | call cl =>
     obtain ⟨callee, args, ats⟩ := cl
     cases callee with
     | value f => exact op_call (fo := f) rfl rfl hL.has ha hd h fun t own' I' V' a' w' hk hl2 _ har => hK _ _ _ _ _ _ hk (hL.trans hl2) har
     | _ => cases hc
    | _ => cases hc
end
end Go.Proofs.YtalfffamppmooaaGreatDoor
namespace Go.Proofs.YtalfffamppmooaaGreatDoor
open Go.RowKit
section
variable {P : Program} {tb : List (Nat × TI)} {N n : Nat} {I I' I0 : Imm} {V V' V0 : Va} {a : Act} {t : Ts} {own own' own0 : Os} {w w' w0 : World} {g : G} {y : Value} {d : Option Tmp}
variable {K : Ts → Os → Nat → Prop} {next : Act → World → Prop} {Q : Exit → Act → World → Prop} {o : Oper} {ops : Array Oper} {rest : List Oper}
theorem ARep.redo (h : ARep N I V a t) {i : Nat} {g' : G} {x : Value} (hx : a.tmps[i]? = some x) (hg : TRep I V g' x) : ARep N I V a ((i, g') :: t) :=
 ⟨h.defers, h.size, fun j g hj => by
  rw [look_cons] at hj
  split at hj
  ·next e => subst e; cases hj; exact ⟨x, hx, hg⟩
  ·exact h.get j g hj⟩
theorem sxG_cases {mo : Mo} (h : sxG P tb mo ops.toList o t own n K) (ha : ARep N I V a t) :
  ∃ t', ARep N I V a t' ∧ ((Region.wanted o (yielded ops a.tmps) = true ∧ sxOp P tb mo o t' own n K) ∨ (Region.wanted o (yielded ops a.tmps) = false ∧ K (put o.dst .un t') own n)) := by
 unfold sxG at h
 split at h
 ·next hg => exact ⟨t, ha, .inl ⟨wanted_none hg, h⟩⟩
 ·next j want hg =>
  rw [nth_eq, Array.getElem?_toList] at h
  have hw : Region.wanted o (yielded ops a.tmps) = (yielded ops a.tmps j == some want) := by unfold Region.wanted; rw [hg]
  cases hd : (ops[j]?).bind (·.dst) with
  | none =>
   rw [hd] at h
   exact ⟨t, ha, .inr ⟨by rw [hw]; simp [yielded, hd], h⟩⟩
  | some d =>
   rw [hd] at h
   dsimp only at h
   have hy : ∀ {x}, a.tmps[d]? = some x → yielded ops a.tmps j = match x with | .bool b => some b | _ => none := fun hx => by
    simp only [yielded, hd, Option.bind_some, hx]
    rename_i x
    cases x <;> rfl
   cases hl : look d t with
   | none => rw [hl] at h; exact h.elim
   | some g =>
    obtain ⟨x, hx, hr⟩ := ha.get d g hl
    rw [hl] at h
    cases g with
    | tt =>
     cases (show VRep I .tt x from hr)
     dsimp only at h
     cases want with
     | true => exact ⟨t, ha, .inl ⟨by rw [hw, hy hx]; rfl, h⟩⟩
     | false => exact ⟨t, ha, .inr ⟨by rw [hw, hy hx]; rfl, h⟩⟩
    | ff =>
     cases (show VRep I .ff x from hr)
     dsimp only at h
     cases want with
     | true => exact ⟨t, ha, .inr ⟨by rw [hw, hy hx]; rfl, h⟩⟩
     | false => exact ⟨t, ha, .inl ⟨by rw [hw, hy hx]; rfl, h⟩⟩
    | un =>
     cases (show VRep I .un x from hr)
     exact ⟨t, ha, .inr ⟨by rw [hw, hy hx]; cases want <;> rfl, h⟩⟩
    | v z =>
     have e := trep_v hr
     subst e
     cases x with
     | bool b =>
      dsimp only at h
      cases want with
      | true =>
       obtain ⟨h1, h2⟩ := h
       cases b with
       | true => exact ⟨_, ha.redo hx (.of_v .tt), .inl ⟨by rw [hw, hy hx]; rfl, h1 rfl⟩⟩
       | false => exact ⟨_, ha.redo hx (.of_v .ff), .inr ⟨by rw [hw, hy hx]; rfl, h2 rfl⟩⟩
      | false =>
       obtain ⟨h1, h2⟩ := h
       cases b with
       | true => exact ⟨_, ha.redo hx (.of_v .tt), .inr ⟨by rw [hw, hy hx]; rfl, h1 rfl⟩⟩
       | false => exact ⟨_, ha.redo hx (.of_v .ff), .inl ⟨by rw [hw, hy hx]; rfl, h2 rfl⟩⟩
     | _ => exact h.elim
    | _ => exact h.elim
theorem sxO_ok (hT : ∀ t i, look t tb = some i → TIok P t i) (hK : Nxt N own0 I0 V0 w0 K (fun a w => Q .normal a w)) : ∀ {rest : List Oper} {t : Ts} {own : Os} {I : Imm} {V : Va} {a : Act} {w : World}, sxO P tb ops.toList rest t own V.n K → Since own0 I0 V0 w0 own I V w → ARep N I V a t → (∀ o ∈ rest, ∀ i, o.dst = some i → i < N) → wpList P ops Q rest a w
 | [], t, own, I, V, a, w, h, hL, ha, _ => hK _ _ _ _ _ _ h hL ha
 | o :: rest, t, own, I, V, a, w, h, hL, ha, hd => by
  have hd0 := hd o (by simp)
  have hdr : ∀ o ∈ rest, ∀ i, o.dst = some i → i < N := fun o ho => hd o (by simp [ho])
  obtain ⟨t', ha', h⟩ := sxG_cases h ha
  rcases h with ⟨hw, h⟩ | ⟨hw, h⟩
  ·unfold wpList
   rw [if_pos hw]
   exact .inl (sxOp_ok hT h hL ha' hd0 fun t own I V a w hk hl har => sxO_ok hT hK hk hl har hdr)
  ·unfold wpList
   rw [if_neg (by rw [hw]; exact Bool.false_ne_true)]
   exact sxO_ok hT hK h hL (ha'.put hd0 (.of_v .un)) hdr
/-! ### Drawn -/
theorem getB_eq (l : List Bool) (i : Nat) : getB l i = l.toArray.getD i false := by
 unfold getB
 rw [nth_eq]
 cases h : l[i]? <;> simp [h]
theorem setB_eq (l : List Bool) (i : Nat) : (setB l i).toArray = l.toArray.setIfInBounds i true := by
 have : setB l i = l.set i true := by
  induction l generalizing i with
  | nil => simp [setB]
  | cons b l ih => cases i <;> simp [setB, ih]
 rw [this]; simp
theorem edges_ok (l : List Bool) (es : List Edge) : edgesB l es = true ↔ ∀ e ∈ es, Region.binds .any e = true → l.toArray.getD e.on false = true := by
 induction es with
 | nil => simp [edgesB]
 | cons e es ih =>
  unfold edgesB
  rw [getB_eq]
  constructor
  ·intro h e' he' hb'
   cases hx : (!Region.binds .any e || l.toArray.getD e.on false) with
   | false => rw [hx] at h; cases h
   | true =>
    rw [hx] at h
    rcases List.mem_cons.1 he' with rfl | he'
    ·rw [hb', Bool.not_true, Bool.false_or] at hx; exact hx
    ·exact ih.1 h e' he' hb'
  ·intro h
   have hx : (!Region.binds .any e || l.toArray.getD e.on false) = true := by
    cases hb : Region.binds .any e with
    | false => rfl
    | true => rw [h e (by simp) hb]; rfl
   rw [hx]
   exact ih.2 fun e' he' => h e' (by simp [he'])
theorem rdy_mem (l : List Bool) : ∀ (os : List Oper) (bs : List Bool) (k i : Nat), i ∈ rdy l os bs k ↔ ∃ j o, i = k + j ∧ os[j]? = some o ∧ bs[j]? = some false ∧ edgesB l o.after.toList = true
 | [], bs, k, i => by simp [rdy]
 | o :: os, [], k, i => by simp [rdy]
 | o :: os, b :: bs, k, i => by
  have ih := rdy_mem l os bs (k + 1) i
  have key : (∃ j o', i = k + j ∧ (o :: os)[j]? = some o' ∧ (b :: bs)[j]? = some false ∧ edgesB l o'.after.toList = true) ↔ ((i = k ∧ b = false ∧ edgesB l o.after.toList = true) ∨ ∃ j o', i = k + 1 + j ∧ os[j]? = some o' ∧ bs[j]? = some false ∧ edgesB l o'.after.toList = true) := by
   constructor
   ·rintro ⟨j, o', e, h1, h2, h3⟩
    cases j with
    | zero => simp at h1 h2; subst h1 h2; exact .inl ⟨by omega, rfl, h3⟩
    | succ j => exact .inr ⟨j, o', by omega, by simpa using h1, by simpa using h2, h3⟩
   ·rintro (⟨e, h1, h2⟩ | ⟨j, o', e, h1, h2, h3⟩)
    ·exact ⟨0, o, by omega, by simp, by simp [h1], h2⟩
    ·exact ⟨j + 1, o', by omega, by simpa using h1, by simpa using h2, h3⟩
  rw [key, ← ih]
  show i ∈ (bif (!b && edgesB l o.after.toList) then k :: rdy l os bs (k + 1) else rdy l os bs (k + 1)) ↔ _
  cases hb : b <;> cases he : edgesB l o.after.toList <;> simp
theorem ready_iff {l : List Bool} (hl : l.length = ops.size) (i : Nat) : i ∈ Region.ready .any ops l.toArray ↔ i ∈ rdy l ops.toList l 0 := by
 rw [mem_ready, rdy_mem]
 constructor
 ·rintro ⟨h1, o, h2, h3⟩
  have hi := (Array.getElem?_eq_some_iff.1 h2).1
  refine ⟨i, o, by omega, by simpa using h2, ?_, (edges_ok l _).2 fun e he => h3 e (by simpa using he)⟩
  have : i < l.length := by omega
  simp [this] at h1
  simp [this, h1]
 ·rintro ⟨j, o, e, h1, h2, h3⟩
  obtain rfl : i = j := by omega
  exact ⟨by simp [h2], o, by simpa using h1, fun e he => (edges_ok l _).1 h3 e (by simpa using he)⟩
theorem firstQ_mem {ops : List Oper} : ∀ {rs : List Nat} {i : Nat}, firstQ tb ops rs = some i → i ∈ rs ∧ ∃ o, ops[i]? = some o ∧ isQ tb o = true
 | [], i, h => by cases h
 | j :: rs, i, h => by
  unfold firstQ at h
  rw [nth_eq] at h
  cases ho : ops[j]? with
  | none =>
   rw [ho] at h
   obtain ⟨h1, h2⟩ := firstQ_mem h
   exact ⟨by simp [h1], h2⟩
  | some o =>
   rw [ho] at h
   cases hq : isQ tb o with
   | true =>
    simp [hq] at h
    subst h
    exact ⟨by simp, o, ho, hq⟩
   | false =>
    simp [hq] at h
    obtain ⟨h1, h2⟩ := firstQ_mem h
    exact ⟨by simp [h1], h2⟩
theorem firstQ_none {ops : List Oper} : ∀ {rs : List Nat}, firstQ tb ops rs = none → ∀ i ∈ rs, ∀ o, ops[i]? = some o → isQ tb o = false
 | [], _, i, hi, _, _ => by cases hi
 | j :: rs, h, i, hi, o, ho => by
  unfold firstQ at h
  rw [nth_eq] at h
  cases hj : ops[j]? with
  | none =>
   rw [hj] at h
   rcases List.mem_cons.1 hi with rfl | hi
   ·rw [hj] at ho; cases ho
   ·exact firstQ_none h i hi o ho
  | some o' =>
   rw [hj] at h
   cases hq : isQ tb o' with
   | true => simp [hq] at h
   | false =>
    simp [hq] at h
    rcases List.mem_cons.1 hi with rfl | hi
    ·rw [hj] at ho; cases ho; exact hq
    ·exact firstQ_none h i hi o ho
theorem firstC_mem {ops : List Oper} : ∀ {rs : List Nat} {i : Nat}, firstC tb ops rs = some i → i ∈ rs ∧ ∃ o, ops[i]? = some o ∧ conB tb o = true
 | [], i, h => by cases h
 | j :: rs, i, h => by
  unfold firstC at h
  rw [nth_eq] at h
  cases ho : ops[j]? with
  | none =>
   rw [ho] at h
   obtain ⟨h1, h2⟩ := firstC_mem h
   exact ⟨by simp [h1], h2⟩
  | some o =>
   rw [ho] at h
   cases hq : conB tb o with
   | true => dsimp only at h; rw [hq] at h; cases h; exact ⟨by simp, o, ho, hq⟩
   | false =>
    dsimp only at h
    rw [hq] at h
    obtain ⟨h1, h2⟩ := firstC_mem h
    exact ⟨by simp [h1], h2⟩
theorem conS_mem {ops : List Oper} {rs : List Nat} {i : Nat} (h : conS tb ops rs = some i) : i ∈ rs ∧ ∃ o, ops[i]? = some o ∧ conB tb o = true := by
 unfold conS at h
 split at h
 ·exact firstC_mem h
 ·cases h
def drawOK (tb : List (Nat × TI)) (ops : Array Oper) (late : List Nat) : Nat → List Bool → Bool
 | 0, l => (rdy l ops.toList l 0).isEmpty
 | fuel + 1, l => match firstQ tb ops.toList (rdy l ops.toList l 0) with
  | some i => Region.free .any ops l.toArray i && (match nth ops.toList i with | some o => !isR tb o || lateOk .any ops late i | none => false) && drawOK tb ops late fuel (setB l i)
  | none => match conS tb ops.toList (rdy l ops.toList l 0) with
   | some i => Region.free .any ops l.toArray i && drawOK tb ops late fuel (setB l i)
   | none => (rdy l ops.toList l 0).all fun i => drawOK tb ops late fuel (setB l i)
theorem allOf_mem {f : Nat → Prop} : ∀ {l : List Nat}, allOf f l → ∀ i ∈ l, f i
 | [], _, i, hi => by cases hi
 | [j], h, i, hi => by rw [List.mem_singleton.1 hi]; exact h
 | j :: k :: l, h, i, hi => by
  rcases List.mem_cons.1 hi with rfl | hi
  ·exact h.1
  ·exact allOf_mem h.2 i hi
theorem agree_refl (V : Va) (XL : List Nat) (w : World) : Agree V XL w w := fun _ _ _ => rfl
theorem agree_grow (V : Va) (XL : List Nat) (w : World) : Grow (Agree V XL w) := fun u _ hu hb b hlt hX => by
 have h1 := hu b hlt hX
 have h2 : b < u.heap.size := by
  rcases Nat.lt_or_ge b u.heap.size with h | h
  ·exact h
  ·rw [Array.getElem?_eq_none h, Array.getElem?_eq_getElem hlt] at h1
   cases h1
 rw [hb.block b h2]
 exact h1
theorem conL_eq {I : Imm} : ∀ {l : List G} {cs us : List Value}, conL l = some cs → l.length = us.length → (∀ (j : Nat) g u, l[j]? = some g → us[j]? = some u → VRep I g u) → us = cs
 | [], cs, us, h, hl, _ => by
  cases h
  exact List.eq_nil_of_length_eq_zero hl.symm
 | g :: l, cs, us, h, hl, hu => by
  cases us with
  | nil => simp at hl
  | cons u us =>
   cases g with
   | v x =>
    unfold conL at h
    cases hc : conL l with
    | none => rw [hc] at h; cases h
    | some cs' =>
     rw [hc] at h
     cases h
     have h1 := hu 0 _ _ rfl rfl
     have ih := conL_eq hc (by simpa using hl) fun j g u hg hu' => hu (j + 1) g u (by simpa using hg) (by simpa using hu')
     cases h1
     rw [ih]
   | _ => cases h
theorem conL_len : ∀ {l : List G} {cs : List Value}, conL l = some cs → l.length = cs.length ∧ ∀ (I : Imm) (j : Nat) g u, l[j]? = some g → cs[j]? = some u → VRep I g u
 | [], cs, h => by cases h; exact ⟨rfl, fun I j g u hg => by simp at hg⟩
 | g :: l, cs, h => by
  cases g with
  | v x =>
   unfold conL at h
   cases hc : conL l with
   | none => rw [hc] at h; cases h
   | some cs' =>
    rw [hc] at h
    cases h
    obtain ⟨h1, h2⟩ := conL_len hc
    refine ⟨by simp [h1], fun I j g u hg hu => ?_⟩
    cases j with
    | zero => simp at hg hu; subst hg hu; exact .v _
    | succ j => exact h2 I j g u (by simpa using hg) (by simpa using hu)
  | _ => cases h
theorem conV_eq {I : Imm} {g : G} {x y : Value} (h : conV g = some x) (hy : VRep I g y) : y = x := by
 cases hy with
 | v z => cases h; rfl
 | agg l cs hl hh =>
  have h : (match conL l with | some cs => some (Value.agg cs.toArray) | none => none) = some x := h
  cases hc : conL l with
  | none => rw [hc] at h; cases h
  | some cs' => rw [hc] at h; cases h; rw [conL_eq hc hl hh]
 | _ => cases h
theorem conV_rep {g : G} {x : Value} (h : conV g = some x) (I : Imm) : VRep I g x := by
 cases g with
 | v z => cases h; exact .v _
 | agg l =>
  have h : (match conL l with | some cs => some (Value.agg cs.toArray) | none => none) = some x := h
  cases hc : conL l with
  | none => rw [hc] at h; cases h
  | some cs => rw [hc] at h; cases h; obtain ⟨h1, h2⟩ := conL_len hc; exact .agg _ _ h1 (h2 I)
 | _ => cases h
theorem purB_rep {g : G} {x y : Value} (h : conV (purB g) = some x) (hg : TRep I V g y) : y = x := by
 cases g with
 | tt => cases (show VRep I .tt y from hg); cases h; rfl
 | ff => cases (show VRep I .ff y from hg); cases h; rfl
 | nl => cases h
 | v z => exact conV_eq h (show VRep I (.v z) y from hg)
 | agg l => exact conV_eq h (show VRep I (.agg l) y from hg)
 | _ => cases h
theorem conA_ok (ha : ARep N I V a t) (hH : Has I V own w) : ∀ {l : List Operand} {K : List G → Prop}, conA t own l K → ∃ gs, K gs ∧ gs.length = (l.map a.eval).length ∧ ∀ (I' : Imm) (j : Nat) g u, gs[j]? = some g → (l.map a.eval)[j]? = some u → VRep I' g u
 | [], K, h => ⟨[], h, rfl, fun I' j g u hg => by simp at hg⟩
 | x :: l, K, h => by
  obtain ⟨g, h, hg⟩ := ev_ok h ha hH
  cases hc : conV (purB g) with
  | none => rw [hc] at h; exact h.elim
  | some z =>
   rw [hc] at h
   obtain ⟨gs, hk, h1, h2⟩ := conA_ok (K := fun gs => K (purB g :: gs)) ha hH (l := l) h
   have e := purB_rep hc hg
   refine ⟨purB g :: gs, hk, by simpa using h1, fun I' j g' u hg' hu => ?_⟩
   cases j with
   | zero => simp at hg' hu; subst hg' hu; rw [e]; exact conV_rep hc I'
   | succ j => exact h2 I' j g' u (by simpa using hg') (by simpa using hu)
theorem calls_to {ops : Array Oper} {K : Ts → Prop} (hb : conB tb o = true) (ha : ARep N I V a t) (hH : Has I V own w) (h : sxCon P o t own K) : ∃ g x, CallsTo P ops o x a ∧ conV g = some x ∧ K (put o.dst g t) := by
 unfold sxCon at h
 split at h
 case h_2 => exact h.elim
 next c ho =>
 split at h
 case h_2 => exact h.elim
 next f hf =>
 obtain ⟨gs, ⟨g, x, hc, hV, hk⟩, h1, h2⟩ := conA_ok (K := fun gs => EvCon P f gs fun g => K (put o.dst g t)) ha hH h
 have hg : o.guard = none := by
  unfold conB at hb
  split at hb
  ·next hg _ => exact hg
  ·cases hb
 refine ⟨g, x, ⟨wanted_none hg, f, (c.args.toList.map a.eval).toArray, fun u => ?_, fun u => ?_⟩, hc, hk⟩
 ·have hev : a.eval (.func f) = .func (.func f) #[] #[] := rfl
  have e : ∀ l : Array Operand, (l.toList.map a.eval).toArray = l.map a.eval := fun l => by cases l; simp
  obtain ⟨callee, args, tys⟩ := c
  have hf : callee = .value (.func f) := hf
  subst hf
  have h3 : ∀ ty, (do let d ← resolve a.eval ⟨.value (.func f), args, tys⟩ ty; invoke d.target d.args : Sem Next).run P u = (callFunc f (args.toList.map a.eval).toArray).run P u := fun ty => by
   simp [resolve, Deferred.ofValue, hev, invoke, e]
  have h4 := (h3 o.type).trans (run_enter hV.1 u _)
  simpa only [execOp, ho] using h4
 ·refine (hV.2 (fun _ _ => none) u _ (fun b o x h => by cases h) ⟨h1, fun j g' u' a1 a2 => h2 _ j g' u' a1 a2⟩).mono fun e w' ⟨y, q, I', e1, e2, e3, e4, _, _, e7⟩ => ?_
  have e2 : q = g := e2
  rw [e2] at e4
  have : y = x := by
   cases g with
   | tup l => cases hc
   | _ => exact conV_eq hc e4
  rw [e1, this]
  exact ⟨rfl, e7⟩
theorem setK_eq {α : Type} (l : List Bool) (i : Nat) (K : List Bool → α) : setK l i K = K (setB l i) := by
 induction l generalizing i K with
 | nil => rfl
 | cons b l ih => cases i <;> simp [setK, setB, ih]
theorem addK_p (k : Nat) : ∀ (r : List Nat) (K : List Nat → Prop), addK k r K → ∃ r', K r'
 | [], _, h => ⟨_, h⟩
 | j :: l, K, h => by
  unfold addK at h
  split at h
  ·exact ⟨_, h⟩
  ·obtain ⟨r', h⟩ := addK_p k l _ h; exact ⟨_, h⟩
theorem dstK_p : ∀ (l : List Oper) (r : List Nat) (K : List Nat → Prop), dstK l r K → ∃ r', K r'
 | [], _, _, h => ⟨_, h⟩
 | o :: l, r, K, h => by
  unfold dstK at h
  split at h
  ·obtain ⟨r', h⟩ := addK_p _ _ _ h; exact dstK_p l r' K h
  ·exact dstK_p l r K h
theorem slotK_p : ∀ (l : Ts) (r : List Nat) (K : List Nat → Prop), slotK l r K → ∃ r', K r'
 | [], _, _, h => ⟨_, h⟩
 | (i, g) :: l, r, K, h => by
  obtain ⟨r', h⟩ := addK_p _ _ _ h; exact slotK_p l r' K h
theorem look_cons1 {α : Type} {i j : Nat} {g x : α} {r : List (Nat × α)} (h : look i ((j, g) :: r) = some x) : i = j ∧ g = x ∨ look i r = some x := by
 unfold look at h
 cases hb : Nat.beq i j with
 | true => rw [hb] at h; exact .inl ⟨Nat.eq_of_beq_eq_true hb, Option.some.inj h⟩
 | false => rw [hb] at h; exact .inr h
theorem normT_p (t : Ts) : ∀ (l : List Nat) (acc : Ts) (K : Ts → Prop), (∀ i g, look i acc = some g → look i t = some g) → normT t l acc K → ∃ t', (∀ i g, look i t' = some g → look i t = some g) ∧ K t'
 | [], _, _, ha, h => ⟨_, ha, h⟩
 | i :: l, acc, K, ha, h => by
  unfold normT at h
  split at h
  ·next g hg =>
   refine normT_p t l _ K (fun j x hj => ?_) h
   rcases look_cons1 hj with ⟨rfl, rfl⟩ | hj
   ·exact hg
   ·exact ha _ _ hj
  ·exact normT_p t l acc K ha h
theorem normO_p (w : Os) : ∀ (n : Nat) (acc : Os) (K : Os → Prop), (∀ i g, look i acc = some g → look i w = some g) → normO w n acc K → ∃ w', (∀ i g, look i w' = some g → look i w = some g) ∧ K w'
 | 0, _, _, ha, h => ⟨_, ha, h⟩
 | n + 1, acc, K, ha, h => by
  have h : (match look n w with
   | some r => normO w n ((n, r) :: acc) K
   | none => normO w n acc K) := h
  split at h
  ·next g hg =>
   refine normO_p w n _ K (fun j x hj => ?_) h
   rcases look_cons1 hj with ⟨rfl, rfl⟩ | hj
   ·exact hg
   ·exact ha _ _ hj
  ·exact normO_p w n acc K ha h
theorem Since.sub (h : Since own0 I0 V0 w0 own I V w) (hs : ∀ k r, look k own' = some r → look k own = some r) : Since own0 I0 V0 w0 own' I V w :=
 ⟨⟨h.has.mem, fun k r e => h.has.num k r (hs k r e), fun k r e => h.has.each k r (hs k r e), fun k r b e => h.has.foot k r b (hs k r e), fun k k' r r' b e e' => h.has.disj k k' r r' b (hs k r e) (hs k' r' e')⟩,
  ⟨h.fro.os, h.fro.tape, h.fro.output, h.fro.size, h.fro.blk, h.fro.mono, fun k r b e => h.fro.foot k r b (hs k r e)⟩, h.n, h.bb⟩
theorem brK_p {next : Act → World → Prop} {ol : List Oper} {K : Ts → Os → Nat → Prop} {c : (Ts → Os → Nat → Prop) → Prop} (hK : Nxt N own0 I0 V0 w0 K next) : ∀ {rs : List Nat}, brK ol t K c rs → ∃ K', Nxt N own0 I0 V0 w0 K' next ∧ c K'
 | [], h => ⟨K, hK, h⟩
 | [_], h => ⟨K, hK, h⟩
 | _ :: _ :: _, h => by
  obtain ⟨L, h⟩ := dstK_p _ _ _ h
  obtain ⟨L, h⟩ := slotK_p _ _ _ h
  refine ⟨_, fun t own I V a w hk hS ha => ?_, h⟩
  obtain ⟨t', ht, hk⟩ := normT_p t L [] _ (fun i g h => by cases h) hk
  obtain ⟨w', hw, hk⟩ := normO_p own V.n [] _ (fun i g h => by cases h) hk
  exact hK _ _ _ _ _ _ hk (hS.sub hw) (ha.sub ht)
theorem later_grow {u : World} (h : Has I V own w) (hb : Below w.heap.size w u) : Later own I V w own I V u :=
 ⟨h.below hb, ⟨hb.os, hb.tape, hb.output, hb.size, fun b hlt _ => ⟨hb.block b hlt, fun _ => rfl⟩, fun _ _ _ h => h, fun k r _ hk hf _ => ⟨k, r, hk, hf⟩⟩, .refl _⟩
theorem sxD_ok {XL late : List Nat} (hT : ∀ t i, look t tb = some i → TIok P t i) (hQ : ∀ c d v a w, Q (.panic c) (a.put d v) w → Q (.panic c) a w) (hsel : Region.noSelect ops = true) (hd : ∀ o ∈ ops.toList, ∀ i, o.dst = some i → i < N) :
  ∀ {K : Ts → Os → Nat → Prop} (_ : Nxt N own0 I0 V0 w0 K (fun a w => Q .normal a w)) {fu : List Oper} {l : List Bool} {t : Ts} {own : Os} {I : Imm} {V : Va} {a : Act} {w : World}, l.length = ops.size → Closed .any ops l.toArray → drawOK tb ops late fu.length l = true → sxD P tb XL late ops.toList fu l t own V.n K → Since own0 I0 V0 w0 own I V w → ARep N I V a t → (∀ k ∈ XL, k < V.n) → wpAnyG P .any ops Q late fu.length (Agree V XL w) l.toArray a w
 | K, hK, [], l, t, own, I, V, a, w, hl, hc, hok, h, hL, ha, hkX => by
  intro u hu
  refine ⟨?_, hK _ _ _ _ _ _ h (hL.trans (later_grow hL.has hu)) ha⟩
  rw [List.length_nil] at hok
  unfold drawOK at hok
  refine List.eq_nil_iff_forall_not_mem.2 fun i hi => ?_
  rw [ready_iff hl, List.isEmpty_iff.1 hok] at hi
  cases hi
 | K, hK, o0 :: fu, l, t, own, I, V, a, w, hl, hc, hok, h, hL, ha, hkX => by
  rw [List.length_cons] at hok
  show wpAnyG P .any ops Q late (fu.length + 1) (Agree V XL w) l.toArray a w
  have hl' : ∀ i, (setB l i).length = ops.size := fun i => by
   have := congrArg Array.size (setB_eq l i)
   simp at this
   omega
  unfold drawOK at hok
  have h : sxD1 P tb XL late ops.toList o0 fu (sxD P tb XL late ops.toList fu) l t own V.n K := h
  unfold sxD1 at h
  cases hf : firstQ tb ops.toList (rdy l ops.toList l 0) with
  | some i =>
   rw [hf] at h hok
   dsimp only at h hok
   simp only [Bool.and_eq_true] at hok
   obtain ⟨⟨k1, k2⟩, k3⟩ := hok
   obtain ⟨hi, o, ho, hq⟩ := firstQ_mem hf
   rw [nth_eq, ho] at h k2
   dsimp only at h k2
   cases hvb : volB own XL with
   | false => rw [hvb] at h; exact h.elim
   | true =>
   rw [hvb] at h
   dsimp only at h
   have hXL : ∀ k ∈ (Mo.quiet XL).xl, ∃ r, look k own = some r := fun k hk => by
    have := allB_mem hvb k hk
    split at this
    ·next r hr => exact ⟨r, hr⟩
    ·cases this
   have ho' : ops[i]? = some o := by simpa using ho
   have hr := (ready_iff hl i).2 hi
   have hd0 := hd o (List.mem_of_getElem? ho)
   have hcn := closed_set hc hr
   obtain ⟨t', ha', h⟩ := sxG_cases h ha
   have rest : ∀ {v g}, TRep I V g v → (setK l i fun l => sxD P tb XL late ops.toList fu l (put o.dst g t') own V.n K) → wpAnyG P .any ops Q late fu.length (Agree V XL w) (l.toArray.setIfInBounds i true) (a.put o.dst v) w := fun hg hk => by
    rw [← setB_eq]
    rw [setK_eq] at hk
    exact sxD_ok hT hQ hsel hd hK (hl' i) (by rw [setB_eq]; exact hcn) k3 hk hL (ha'.put hd0 hg) hkX
   have finP : ∀ (v : Value) (g : G), YieldsIf P ops (fun _ => True) o v a → TRep I V g v → (setK l i fun l => sxD P tb XL late ops.toList fu l (put o.dst g t') own V.n K) → wpAnyG P .any ops Q late (fu.length + 1) (Agree V XL w) l.toArray a w := fun v g hy hg hk =>
    wpAnyG_firstP ho' (Region.noSelect_spec hsel) (fun c a w => hQ c _ _ a w) fu.length _ l.toArray a w hc (Region.free_spec ho' k1) hr hy (agree_refl _ _ _) (agree_grow _ _ _) (rest hg hk)
   rcases h with ⟨hw, h⟩ | ⟨hw, h⟩
   ·cases hR : isR tb o with
    | false =>
     obtain ⟨g, y, hk, hy, hrun⟩ := sxOp_q (S := fun _ => True) (mo := .quiet XL) hT hXL (fun h => by rw [hR] at h; cases h) hq h hL.has ha'
     exact finP y g (yi_run hw fun u _ => hrun u trivial) hy hk
    | true =>
     obtain ⟨g, y, hk, hy, hrun⟩ := sxOp_q (S := Agree V XL w) (mo := .quiet XL) hT hXL (fun _ u hu => hu) hq h hL.has ha'
     rw [hR] at k2
     exact wpAnyG_first ho' (Region.noSelect_spec hsel) (fun c a w => hQ c _ _ a w) (fun j hj => List.all_eq_true.1 k2 j hj) fu.length _ l.toArray a w hc (Region.free_spec ho' k1) hr (yi_run hw fun u hu => hrun u hu) (agree_refl _ _ _) (agree_grow _ _ _) (rest hy hk)
   ·exact finP undef .un (yi_pass hw) (.of_v .un) h
  | none =>
   rw [hf] at h hok
   dsimp only at h hok
   cases hcs : conS tb ops.toList (rdy l ops.toList l 0) with
   | some i =>
    rw [hcs] at h hok
    dsimp only at h hok
    simp only [Bool.and_eq_true] at hok
    obtain ⟨k1, k3⟩ := hok
    obtain ⟨hi, o, ho, hq⟩ := conS_mem hcs
    rw [nth_eq, ho] at h
    dsimp only at h
    have ho' : ops[i]? = some o := by simpa using ho
    have hr := (ready_iff hl i).2 hi
    have hd0 := hd o (List.mem_of_getElem? ho)
    have hcn := closed_set hc hr
    obtain ⟨g, x, hcl, hcv, hk⟩ := calls_to (ops := ops) hq ha hL.has h
    refine wpAnyG_firstC ho' (Region.noSelect_spec hsel) (fun c a w => hQ c _ _ a w) fu.length _ l.toArray a w hc (Region.free_spec ho' k1) hr hcl (agree_refl _ _ _) (agree_grow _ _ _) ?_
    rw [← setB_eq]
    rw [setK_eq] at hk
    exact sxD_ok hT hQ hsel hd hK (hl' i) (by rw [setB_eq]; exact hcn) k3 hk hL (ha.put hd0 (.of_v (conV_rep hcv I))) hkX
   | none =>
   rw [hcs] at h hok
   dsimp only at h hok
   intro wu hu
   have hS0 : ∀ v, Agree V XL wu v → Agree V XL w v := fun v hv b hb hX => (hv b (Nat.lt_of_lt_of_le hb hu.size) hX).trans (hu.block b hb)
   replace hL := hL.trans (later_grow hL.has hu)
   refine ⟨fun h0 => ?_, fun i hi => ?_⟩
   ·have : rdy l ops.toList l 0 = [] := List.eq_nil_iff_forall_not_mem.2 fun i hi => by
     rw [← ready_iff hl, h0] at hi
     cases hi
    rw [this] at h
    exact hK _ _ _ _ _ _ h hL ha
   ·have hi' := (ready_iff hl i).1 hi
    have hk3 := List.all_eq_true.1 hok i hi'
    have hcn := closed_set hc hi
    obtain ⟨-, o, ho', -⟩ := mem_ready.1 hi
    have ho : ops.toList[i]? = some o := by simpa using ho'
    have hd0 := hd o (List.mem_of_getElem? ho)
    have hq := firstQ_none hf i hi' o ho
    obtain ⟨K, hK, h⟩ := (by
     cases hr : rdy l ops.toList l 0 with
     | nil => rw [hr] at hi'; cases hi'
     | cons j rs => rw [hr] at h hi'; obtain ⟨K', hK', h⟩ := brK_p hK h; exact ⟨K', hK', allOf_mem h i hi'⟩ : ∃ K, Nxt N own0 I0 V0 w0 K (fun a wu => Q .normal a wu) ∧ match nth ops.toList i with
      | some o => match isL tb o with
       | false => sxG P tb .new ops.toList o t own V.n fun t wu n => setK l i fun l => sxD P tb XL late ops.toList fu l t wu n K
       | true => match memB i late with
        | true => sxG P tb .late ops.toList o t own V.n fun t wu n => setK l i fun l => sxD P tb XL late ops.toList fu l t wu n K
        | false => match vsG XL t o, volB own XL with
         | true, true => sxG P tb (.vs XL) ops.toList o t own V.n fun t wu n => setK l i fun l => sxD P tb XL late ops.toList fu l t wu n K
         | _, _ => False
      | none => False)
    rw [nth_eq, ho] at h
    dsimp only at h
    have again : ∀ {t own' I' V' a' wu'}, (setK l i fun l => sxD P tb XL late ops.toList fu l t own' V'.n K) → Since own I V wu own' I' V' wu' → ARep N I' V' a' t → Closed .any ops (l.toArray.setIfInBounds i true) → wpAnyG P .any ops Q late fu.length (Agree V' XL wu') (l.toArray.setIfInBounds i true) a' wu' := fun hk hl2 har hcc => by
     rw [← setB_eq]
     rw [setK_eq] at hk
     exact sxD_ok hT hQ hsel hd hK (hl' i) (by rw [setB_eq]; exact hcn) hk3 hk (hL.tail hl2) har (fun k hk => Nat.lt_of_lt_of_le (hkX k hk) hl2.n)
    have sub : ∀ {own' I' V' wu'}, Later own I V wu own' I' V' wu' → Agree V XL wu wu' → (∀ k ∈ XL, ∀ b, V'.f k b → b < wu.heap.size → ∃ k' ∈ XL, V.f k' b) → ∀ u, Agree V' XL wu' u → Agree V XL w u := fun hl2 hA hf u hu => hS0 u fun b hb hX => by
     rw [← hA b hb hX]
     exact hu b (Nat.lt_of_lt_of_le hb hl2.fro.size) fun k hk hfb => by
      obtain ⟨k', h1, h2⟩ := hf k hk b hfb hb
      exact hX k' h1 h2
    refine wpOp_step ho' fun K1 hK1 => ?_
    have skip : ∀ {t'}, ARep N I V a t' → (setK l i fun l => sxD P tb XL late ops.toList fu l (put o.dst .un t') own V.n K) → K1 (a.put o.dst undef) wu := fun ha' h => hK1 _ _ ⟨_, fun _ => hS0, agree_refl _ _ _, agree_grow _ _ _, fun hcc => again h (Later.refl hL.has).since (ha'.put hd0 (.of_v .un)) hcc⟩
    cases hli : isL tb o with
    | false =>
     rw [hli] at h
     dsimp only at h
     obtain ⟨t', ha', h⟩ := sxG_cases h ha
     rcases h with ⟨hw, h⟩ | ⟨hw, h⟩
     ·rw [if_pos hw]
      exact sxOp_b (mo := .new) hT (fun _ => rfl) hq hli h hL.has ha' hd0 fun t own I V a w1 hk hl2 hb hkp har => hK1 _ _ ⟨_, fun _ => sub hl2 (fun b hb' _ => hb.block b hb') (fun k hk b hf _ => ⟨k, hk, hkp k (hkX k hk) b hf⟩), agree_refl _ _ _, agree_grow _ _ _, fun hcc => again hk hl2.since har hcc⟩
     ·rw [if_neg (by rw [hw]; exact Bool.false_ne_true)]
      exact skip ha' h
    | true =>
     rw [hli] at h
     dsimp only at h
     cases hm : memB i late with
     | true =>
      rw [hm] at h
      dsimp only at h
      obtain ⟨t', ha', h⟩ := sxG_cases h ha
      rcases h with ⟨hw, h⟩ | ⟨hw, h⟩
      ·rw [if_pos hw]
       exact sxOp_l (mo := .late) (own0 := own) (I0 := I) (V0 := V) (w0 := wu) hT hli h (Later.refl hL.has).since ha' hd0 fun t own I V a w1 hk hl2 har => hK1 _ _ ⟨_, fun hn => absurd (memB_mem.1 hm) hn, agree_refl _ _ _, agree_grow _ _ _, fun hcc => again hk hl2 har hcc⟩
      ·rw [if_neg (by rw [hw]; exact Bool.false_ne_true)]
       exact skip ha' h
     | false =>
      rw [hm] at h
      dsimp only at h
      cases hvs : vsG XL t o with
      | false => rw [hvs] at h; exact h.elim
      | true =>
       cases hvb : volB own XL with
       | false => rw [hvs, hvb] at h; exact h.elim
       | true =>
       rw [hvs, hvb] at h
       cases hgn : o.guard with
       | none =>
        have hvs : vsB XL t o = true := by
         unfold vsG at hvs
         rw [hgn] at hvs
         exact hvs
        dsimp only at h
        unfold sxG at h
        rw [hgn] at h
        rw [if_pos (wanted_none hgn)]
        exact sxOp_vs hT hvs h hL.has hkX ha hd0 fun t own I V a w1 hk hl2 hA hf har => hK1 _ _ ⟨_, fun _ => sub hl2 hA hf, agree_refl _ _ _, agree_grow _ _ _, fun hcc => again hk hl2.since har hcc⟩
       | some gd =>
        dsimp only at h
        obtain ⟨t', ha', h⟩ := sxG_cases h ha
        rcases h with ⟨hw, h⟩ | ⟨hw, h⟩
        ·rw [if_pos hw]
         have hvs2 : vsB XL t' { o with guard := none } = true := by
          unfold vsG at hvs
          rw [hgn] at hvs
          obtain ⟨dst, op, type, pos, after, guard⟩ := o
          cases op with
          | call cl => exact hvs
          | _ => cases hvs
         have h2 : sxOp P tb (.vs XL) { o with guard := none } t' own V.n fun t wu n => setK l i fun l => sxD P tb XL late ops.toList fu l t wu n K := by
          obtain ⟨dst, op, type, pos, after, guard⟩ := o
          exact h
         have key := sxOp_vs (o := { o with guard := none }) (Q := Q) (K := fun t wu n => setK l i fun l => sxD P tb XL late ops.toList fu l t wu n K) hT hvs2 h2 hL.has hkX ha' hd0 fun t own I V a w1 hk hl2 hA hf har => hK1 _ _ ⟨_, fun _ => sub hl2 hA hf, agree_refl _ _ _, agree_grow _ _ _, fun hcc => again hk hl2.since har hcc⟩
         exact key
        ·rw [if_neg (by rw [hw]; exact Bool.false_ne_true)]
         exact skip ha' h
end
end Go.Proofs.YtalfffamppmooaaGreatDoor
namespace Go.Proofs.YtalfffamppmooaaGreatDoor
open Go.RowKit
def opsB (N : Nat) (l : List Oper) : Bool := l.all fun o => match o.dst with | some i => Nat.blt i N | none => true
def codeB (tb : List (Nat × TI)) (N : Nat) : Code → Bool
 | .region _ ops d => opsB N ops.toList && (match d with | true => Region.noSelect ops && lateK tb ops.toList ops.toList 0 fun late => drawOK tb ops late ops.toList.length (noB ops.toList) | false => true)
 | .seq a b | .cond _ a b => codeB tb N a && codeB tb N b
 | .block _ a | .loop a | .scope a => codeB tb N a
 | _ => true
def Ex.to : Ex → Exit
 | .normal => .normal
 | .exit id => .exit id
 | .ret => .ret
 | .goto l => .goto l
def Va.renS (V : Va) (m : List (Nat × Nat)) (n : Nat) : Va := ⟨n, V.b, fun k => V.s (Go.Proofs.YtalfffamppmooaaGreatDoor.ren m k), fun k => V.f (Go.Proofs.YtalfffamppmooaaGreatDoor.ren m k)⟩
section
variable {P : Program} {tb : List (Nat × TI)} {N n : Nat} {I I' I0 : Imm} {V V' V0 : Va} {a : Act} {t t' : Ts} {own own' own0 : Os} {w w' w0 : World} {g : G} {x y : Value} {d : Option Tmp} {m : List (Nat × Nat)} {r : R}
theorem crep_renS (hk : keyC n g = true) (h : CRep I V (renSC m g) x) : CRep I (V.renS m n) g x := by
 cases g with
 | ptr k o => exact ⟨Nat.lt_of_lt_of_le (Nat.le_of_ble_eq_true hk) (Nat.le_refl _), h.2⟩
 | osl k => exact ⟨Nat.lt_of_lt_of_le (Nat.le_of_ble_eq_true hk) (Nat.le_refl _), h.2⟩
 | osv k sz lo hi => exact ⟨Nat.lt_of_lt_of_le (Nat.le_of_ble_eq_true hk) (Nat.le_refl _), h.2⟩
 | mp k => exact ⟨Nat.lt_of_lt_of_le (Nat.le_of_ble_eq_true hk) (Nat.le_refl _), h.2⟩
 | oel k i s o => exact h
 | _ => exact h
theorem pw_renS {cs : List G} {us : List Value} (hk : allB (keyC n) cs = true) (h : PW (CRep I V) (cs.map (renSC m)) us) : PW (CRep I (V.renS m n)) cs us :=
 ⟨by have := h.1; simpa using this, fun j g u hg hu => crep_renS (allB_mem hk g (List.mem_of_getElem? hg)) (h.2 j _ u (by rw [List.getElem?_map, hg]; rfl) hu)⟩
theorem trep1_renS (hk : key1 n g = true) (h : TRep1 I V (renS1 m g) x) : TRep1 I (V.renS m n) g x := by
 cases g with
 | oag l =>
  obtain ⟨cs, e, hp⟩ := (show ∃ cs : List Value, x = .agg cs.toArray ∧ PW (CRep I V) (l.map (renSC m)) cs from h)
  exact ⟨cs, e, pw_renS hk hp⟩
 | clo f a c =>
  obtain ⟨⟨g, hg, hn⟩, us, cs, e, h1, h2⟩ := (show (∃ g, (g ∈ a.map (renSC m) ∨ g ∈ c.map (renSC m)) ∧ noKey g = false) ∧ _ from h)
  have hk : (match allB (keyC n) a with | true => allB (keyC n) c | false => false) = true := hk
  split at hk
  ·next ha =>
   have hne : ∀ {g : G}, noKey (renSC m g) = false → noKey g = false := fun {g} h => by cases g <;> first | rfl | exact h
   refine ⟨?_, us, cs, e, pw_renS ha h1, pw_renS hk h2⟩
   rcases hg with hg | hg
   ·obtain ⟨g0, h3, rfl⟩ := List.mem_map.1 hg
    exact ⟨g0, .inl h3, hne hn⟩
   ·obtain ⟨g0, h3, rfl⟩ := List.mem_map.1 hg
    exact ⟨g0, .inr h3, hne hn⟩
  ·cases hk
 | oel k i s o =>
  obtain ⟨h1, h2⟩ := (show _ ∧ _ from h)
  exact ⟨Nat.lt_of_lt_of_le (Nat.le_of_ble_eq_true hk) (Nat.le_refl _), h2⟩
 | elp row o => exact h
 | tup l => cases hk
 | ptr k o => exact .of_c (crep_renS (g := .ptr k o) hk h)
 | osl k => exact .of_c (crep_renS (g := .osl k) hk h)
 | osv k sz lo hi => exact .of_c (crep_renS (g := .osv k sz lo hi) hk h)
 | mp k => exact .of_c (crep_renS (g := .mp k) hk h)
 | v z => exact .of_c (crep_renS (m := m) (V := V) (g := .v z) rfl h)
 | tt => exact .of_c (crep_renS (m := m) (V := V) (g := .tt) rfl h)
 | ff => exact .of_c (crep_renS (m := m) (V := V) (g := .ff) rfl h)
 | un => exact .of_c (crep_renS (m := m) (V := V) (g := .un) rfl h)
 | nl => exact .of_c (crep_renS (m := m) (V := V) (g := .nl) rfl h)
 | agg l => exact .of_c (crep_renS (m := m) (V := V) (g := .agg l) rfl h)
 | sl l => exact .of_c (crep_renS (m := m) (V := V) (g := .sl l) rfl h)
theorem trep_renS (hk : keyB n g = true) (h : TRep I V (renS m g) x) : TRep I (V.renS m n) g x := by
 cases g with
 | tup l =>
  obtain ⟨cs, e, hp⟩ := (show ∃ cs : List Value, x = .tuple cs.toArray ∧ PW (TRep1 I V) (l.map (renS1 m)) cs from h)
  exact ⟨cs, e, by simpa using hp.1, fun j g u hg hu => trep1_renS (allB_mem (show allB (key1 n) l = true from hk) g (List.mem_of_getElem? hg)) (hp.2 j _ u (by rw [List.getElem?_map, hg]; rfl) hu)⟩
 | oag l => exact .of_1 (trep1_renS (g := .oag l) hk h)
 | clo f a c => exact .of_1 (trep1_renS (g := .clo f a c) hk h)
 | oel k i s o => exact .of_1 (trep1_renS (g := .oel k i s o) hk h)
 | elp row o => exact .of_1 (g := .elp row o) h
 | ptr k o => exact .of_1 (trep1_renS (g := .ptr k o) hk h)
 | osl k => exact .of_1 (trep1_renS (g := .osl k) hk h)
 | osv k a b c => exact .of_1 (trep1_renS (g := .osv k a b c) hk h)
 | mp k => exact .of_1 (trep1_renS (g := .mp k) hk h)
 | v z => exact .of_1 (trep1_renS (m := m) (V := V) (g := .v z) rfl h)
 | tt => exact .of_1 (trep1_renS (m := m) (V := V) (g := .tt) rfl h)
 | ff => exact .of_1 (trep1_renS (m := m) (V := V) (g := .ff) rfl h)
 | un => exact .of_1 (trep1_renS (m := m) (V := V) (g := .un) rfl h)
 | nl => exact .of_1 (trep1_renS (m := m) (V := V) (g := .nl) rfl h)
 | agg l => exact .of_1 (trep1_renS (m := m) (V := V) (g := .agg l) rfl h)
 | sl l => exact .of_1 (trep1_renS (m := m) (V := V) (g := .sl l) rfl h)
theorem leT_get : ∀ {T : Ts}, leT m t n T → ∀ {i g}, look i T = some g → keyB n g = true ∧ look i t = some (renS m g)
 | [], _, i, g, h => by cases h
 | (j, g') :: T, hT, i, g, h => by
  rw [look_cons] at h
  split at h
  ·next e => subst e; cases h; exact hT.1
  ·exact leT_get hT.2 h
theorem leO_get : ∀ {T : Os}, leO m own n T → ∀ {i r}, look i T = some r → i < n ∧ (isS r = true ∨ ren m i = i) ∧ keyR n r = true ∧ look (ren m i) own = some (renSR m r)
 | [], _, i, g, h => by cases h
 | (j, g') :: T, hT, i, g, h => by
  rw [look_cons] at h
  split at h
  ·next e =>
   subst e; cases h
   have h1 := hT.1.1
   simp only [Bool.and_eq_true, Bool.or_eq_true] at h1
   exact ⟨Nat.le_of_ble_eq_true h1.1, h1.2.imp id Nat.eq_of_beq_eq_true, hT.1.2⟩
  ·exact leO_get hT.2 h
theorem le_ok (hn : V0.n ≤ n) (hS : Since own0 I0 V0 w0 own I V w) (ha : ARep N I V a t) (h : le m t own n t' own') : Since own0 I0 V0 w0 own' I (V.renS m n) w ∧ ARep N I (V.renS m n) a t' := by
 obtain ⟨h1, h2, h3⟩ := h
 have hH := hS.has
 refine ⟨⟨⟨hH.mem, fun k r hk => (leO_get h2 hk).1, fun k r hk => ?_, fun k r b hk hb => ?_, fun k k' r r' b hk hk' hb hb' => ?_⟩, ⟨hS.fro.os, hS.fro.tape, hS.fro.output, hS.fro.size, hS.fro.blk, hS.fro.mono, fun k r b hk hb hlt => ?_⟩, hn, hS.bb⟩, ⟨ha.defers, ha.size, fun i g hg => ?_⟩⟩
 ·obtain ⟨-, k1, k2, k3⟩ := leO_get h2 hk
  have hr := hH.each _ _ k3
  have hb : isS r = true ∨ V.b k = V.b (ren m k) := k1.imp id fun e => by rw [e]
  cases r with
  | blk cs ty =>
   have hb := hb.resolve_left (fun h => by cases h)
   obtain ⟨q1, us, q2, q3⟩ := hr
   exact ⟨fun b => by show V.f (ren m k) b ↔ b = V.b k; rw [hb]; exact q1 b, us, by show w.heap[V.b k]? = _; rw [hb]; exact q2, pw_renS k2 q3⟩
  | slc rows e sz => exact hr
  | froz rows sz => exact hr
  | gone => exact hr
  | mpI l =>
   have hb := hb.resolve_left (fun h => by cases h)
   exact ⟨fun b => by show V.f (ren m k) b ↔ b = V.b k; rw [hb]; exact hr.1 b, by show MapR I w (V.b k) _ _; rw [hb]; exact hr.2⟩
  | mpS l =>
   have hb := hb.resolve_left (fun h => by cases h)
   exact ⟨fun b => by show V.f (ren m k) b ↔ b = V.b k; rw [hb]; exact hr.1 b, by show MapR I w (V.b k) _ _; rw [hb]; exact hr.2⟩
  | sit s pos =>
   have hb := hb.resolve_left (fun h => by cases h)
   exact ⟨fun b => by show V.f (ren m k) b ↔ b = V.b k; rw [hb]; exact hr.1 b, by show w.heap[V.b k]? = _; rw [hb]; exact hr.2⟩
  | mpX l m2 ob =>
   have hb := hb.resolve_left (fun h => by cases h)
   exact ⟨fun b => by show V.f (ren m k) b ↔ b = V.b k; rw [hb]; exact hr.1 b, (show V.b k = m2 from hb.trans hr.2.1), hr.2.2⟩
  | mit j l D last m2 ob =>
   have hb := hb.resolve_left (fun h => by cases h)
   obtain ⟨a1, it, L, a2, a3, a4⟩ := hr
   exact ⟨fun b => by show V.f (ren m k) b ↔ b = V.b k; rw [hb]; exact a1 b, it, L, by show w.heap[V.b k]? = _; rw [hb]; exact a2, a3, fun w2 e1 e2 => by
    change w2.heap[V.b k]? = _ at e2
    show RanB w2 (V.b k) m2 strK id L D ∧ ∀ kg, last = some kg → ∃ v, VRep I kg.2 v ∧ ∀ P : Program, (Instr.entry (.pointer (some ⟨V.b k, 0, none⟩))).run P w2 = _
    rw [hb] at e2 ⊢
    exact a4 w2 e1 e2⟩
  | abs p =>
   have hb := hb.resolve_left (fun h => by cases h)
   exact ⟨hr.1, by show p I (V.b k) (V.f (ren m k)) w; rw [hb]; exact hr.2⟩
 ·obtain ⟨-, -, k2, k3⟩ := leO_get h2 hk
  exact hH.foot _ _ b k3 hb
 ·obtain ⟨-, -, -, k3⟩ := leO_get h2 hk
  obtain ⟨-, -, -, k3'⟩ := leO_get h2 hk'
  exact nod_inj h3 hk hk' (hH.disj _ _ _ _ b k3 k3' hb hb')
 ·obtain ⟨-, -, -, k3⟩ := leO_get h2 hk
  exact hS.fro.foot _ _ b k3 hb hlt
 ·obtain ⟨k1, k2⟩ := leT_get h1 hg
  obtain ⟨x, hx, hr⟩ := ha.get i _ k2
  exact ⟨x, hx, trep_renS k1 hr⟩
def NxtC (N : Nat) (own0 : Os) (I0 : Imm) (V0 : Va) (w0 : World) (K : KC) (Q : Exit → Act → World → Prop) : Prop :=
 ∀ e t own I V a w, K e t own V.n → Since own0 I0 V0 w0 own I V w → ARep N I V a t → Q e.to a w
theorem wanted_draw (hm : P.follows .mixedOrders = true) {id : Nat} {ops : Array Oper} {Q : Exit → Act → World → Prop} {S : World → Prop} {late : List Nat} (hc : wpAnyG P .any ops Q late ops.size S (Array.replicate ops.size false) a w.drew) : (Code.region id ops true).wp P Q a w :=
 wp_region_any hm (wpAny_of_G _ _ _ _ _ (closed_start _ rfl) hc)
theorem noB_eq (l : List Oper) : (noB l).toArray = Array.replicate l.length false ∧ (noB l).length = l.length := by
 have : noB l = List.replicate l.length false := by
  induction l with
  | nil => rfl
  | cons o l ih => rw [noB, ih]; rfl
 rw [this]; simp
theorem markE_ex (es : List Edge) (m : List Bool) : ∃ m', ∀ {α : Type} (K : List Bool → α), markE es m K = K m' := by
 induction es generalizing m with
 | nil => exact ⟨m, fun _ => rfl⟩
 | cons e es ih =>
  cases hb : Region.binds .any e with
  | true =>
   obtain ⟨m', h⟩ := ih (setB m e.on)
   exact ⟨m', fun K => by unfold markE; rw [hb]; dsimp only; rw [setK_eq]; exact h K⟩
  | false =>
   obtain ⟨m', h⟩ := ih m
   exact ⟨m', fun K => by unfold markE; rw [hb]; exact h K⟩
theorem reachK_ex (ops : List Oper) (n : Nat) (m : List Bool) : ∃ m', ∀ {α : Type} (K : List Bool → α), reachK ops n m K = K m' := by
 induction n generalizing m with
 | zero => exact ⟨m, fun _ => rfl⟩
 | succ n ih =>
  cases hb : getB m n with
  | true =>
   cases ho : nth ops n with
   | none =>
    obtain ⟨m', h⟩ := ih m
    exact ⟨m', fun K => by unfold reachK; rw [hb, ho]; exact h K⟩
   | some o =>
    obtain ⟨m1, h1⟩ := markE_ex o.after.toList m
    obtain ⟨m', h⟩ := ih m1
    exact ⟨m', fun K => by unfold reachK; rw [hb, ho]; dsimp only; rw [h1]; exact h K⟩
  | false =>
   obtain ⟨m', h⟩ := ih m
   exact ⟨m', fun K => by unfold reachK; rw [hb]; exact h K⟩
theorem lateK_ex (ops : List Oper) (l : List Oper) (i : Nat) : ∃ r, ∀ {α : Type} (K : List Nat → α), lateK tb ops l i K = K r := by
 induction l generalizing i with
 | nil => exact ⟨[], fun _ => rfl⟩
 | cons o l ih =>
  obtain ⟨r, h⟩ := ih (i + 1)
  cases hl : isL tb o with
  | false => exact ⟨r, fun K => by unfold lateK; rw [hl]; exact h K⟩
  | true =>
   obtain ⟨m, hm⟩ := reachK_ex ops (i + 1) (setB (noB ops) i)
   cases ha : allR tb ops m with
   | true => exact ⟨i :: r, fun K => by unfold lateK; rw [hl]; dsimp only; rw [setK_eq, hm, ha]; exact h _⟩
   | false => exact ⟨r, fun K => by unfold lateK; rw [hl]; dsimp only; rw [setK_eq, hm, ha]; exact h _⟩
theorem addK_ex (k : Nat) : ∀ r : List Nat, ∃ r' : List Nat, (∀ {α : Type} (K : List Nat → α), addK k r K = K r') ∧ ∀ j ∈ r', j ∈ r ∨ j = k
 | [] => ⟨[k], fun _ => rfl, fun j h => .inr (by simpa using h)⟩
 | i :: r => by
  obtain ⟨r', h1, h2⟩ := addK_ex k r
  cases hb : Nat.beq k i with
  | true => exact ⟨i :: r, fun K => by unfold addK; rw [hb], fun j h => .inl h⟩
  | false =>
   refine ⟨i :: r', fun K => by unfold addK; rw [hb]; exact h1 _, fun j h => ?_⟩
   rcases List.mem_cons.1 h with rfl | h
   ·exact .inl (by simp)
   ·exact (h2 j h).imp (fun h => by simp [h]) id
def GathLt {α : Type} (n : Nat) (F : List Nat → (List Nat → α) → α) : Prop := ∀ r, (∀ k ∈ r, k < n) → ∃ r' : List Nat, (∀ k ∈ r', k < n) ∧ ∀ K : List Nat → α, F r K = K r'
theorem GathLt.seq {α : Type} {n : Nat} {F F' : List Nat → (List Nat → α) → α} (h : GathLt n F) (h' : GathLt n F') : GathLt n (fun r K => F r fun r => F' r K) := fun r hr => by
 obtain ⟨r1, a1, a2⟩ := h r hr
 obtain ⟨r2, b1, b2⟩ := h' r1 a1
 exact ⟨r2, b1, fun K => (a2 _).trans (b2 K)⟩
theorem GathLt.none {α : Type} {n : Nat} : GathLt n (fun r (K : List Nat → α) => K r) := fun r hr => ⟨r, hr, fun _ => rfl⟩
theorem gathLt_add {α : Type} {n k : Nat} (hk : k < n) : GathLt (α := α) n (fun r K => addK k r K) := fun r hr => by
 obtain ⟨r', h1, h2⟩ := addK_ex k r
 exact ⟨r', fun j hj => (h2 j hj).elim (hr j) (fun e => by omega), fun K => h1 K⟩
theorem va_C {α : Type} (h : CRep I V g x) : GathLt (α := α) V.n (fun r K => vaC g r K) := by
 cases g with
 | ptr k o => exact gathLt_add h.1
 | _ => exact GathLt.none
theorem va_CL {α : Type} : ∀ {l : List G} {us : List Value}, PW (CRep I V) l us → GathLt (α := α) V.n (fun r K => vaCL l r K)
 | [], _, _ => GathLt.none
 | g :: l, us, h => by
  obtain ⟨x, us', rfl, h1, h2⟩ := h.uncons
  exact (va_C h1).seq (va_CL h2)
theorem va_1 {α : Type} (h : TRep I V g x) : GathLt (α := α) V.n (fun r K => va1 g r K) := by
 cases g with
 | clo f a c =>
  obtain ⟨-, us, cs, -, h1, h2⟩ := (show TRep1 I V (.clo f a c) x from h)
  exact (va_CL h1).seq (va_CL h2)
 | ptr k o => exact gathLt_add (trep_ptr h).1
 | _ => exact GathLt.none
theorem rootOf_look {ops : List Oper} {k : Nat} : ∀ {n d : Nat}, rootOf t ops n d = some k → ∃ d' o, look d' t = some (.ptr k o)
 | 0, _, h => by cases h
 | n + 1, d, h => by
  unfold rootOf at h
  split at h
  ·next hl => cases h; exact ⟨d, _, hl⟩
  ·cases h
  ·split at h
   ·exact rootOf_look h
   ·cases h
theorem rootO_look {ops : List Oper} {k : Nat} : ∀ {n d : Nat}, rootO t ops n d = some k → ∃ d', look d' t = some (.osl k)
 | 0, _, h => by cases h
 | n + 1, d, h => by
  unfold rootO at h
  split at h
  ·next hl => cases h; exact ⟨d, hl⟩
  ·cases h
  ·split at h
   ·exact rootO_look h
   ·cases h
theorem vs_S {α : Type} (ha : ARep N I V a t) (ops : List Oper) : ∀ l : List Operand, GathLt (α := α) V.n (fun r K => vsS t ops l r K)
 | [] => GathLt.none
 | y :: l => fun r hr => by
  have ih := vs_S (α := α) ha ops l
  cases y with
  | tmp d =>
   cases hro : rootO t ops 8 d with
   | none =>
    obtain ⟨r', h1, h2⟩ := ih r hr
    exact ⟨r', h1, fun K => by show vsS t ops (.tmp d :: l) r K = _; unfold vsS; rw [hro]; exact h2 K⟩
   | some k =>
    obtain ⟨_, hl2⟩ := rootO_look hro
    obtain ⟨y, hy, hg⟩ := ha.get _ _ hl2
    obtain ⟨r1, a1, a2⟩ := gathLt_add (α := α) (show k < V.n from (show CRep I V (.osl k) y from hg).1) r hr
    obtain ⟨r2, b1, b2⟩ := ih r1 a1
    exact ⟨r2, b1, fun K => by show vsS t ops (.tmp d :: l) r K = _; unfold vsS; rw [hro]; exact (a2 _).trans (b2 K)⟩
  | _ => exact ih r hr
theorem sea_K {α : Type} (ha : ARep N I V a t) (b : Bool) (ops : List Oper) (l : List Operand) : GathLt (α := α) V.n (fun r K => seaK b t ops l r K) := by
 cases b with
 | true => exact vs_S ha ops l
 | false => exact GathLt.none
theorem va_L {α : Type} (ha : ARep N I V a t) (ops : List Oper) : ∀ l : List Operand, GathLt (α := α) V.n (fun r K => vaL t ops l r K)
 | [] => GathLt.none
 | y :: l => fun r hr => by
  have ih := va_L (α := α) ha ops l
  cases y with
  | tmp d =>
   cases hl : look d t with
   | none =>
    cases hro : rootOf t ops 8 d with
    | none =>
     obtain ⟨r', h1, h2⟩ := ih r hr
     exact ⟨r', h1, fun K => by show vaL t ops (.tmp d :: l) r K = _; unfold vaL; dsimp only; rw [hl]; dsimp only; rw [hro]; exact h2 K⟩
    | some k =>
     obtain ⟨_, _, hl2⟩ := rootOf_look hro
     obtain ⟨y, hy, hg⟩ := ha.get _ _ hl2
     obtain ⟨r1, a1, a2⟩ := gathLt_add (α := α) (trep_ptr hg).1 r hr
     obtain ⟨r2, b1, b2⟩ := ih r1 a1
     exact ⟨r2, b1, fun K => by show vaL t ops (.tmp d :: l) r K = _; unfold vaL; dsimp only; rw [hl]; dsimp only; rw [hro]; exact (a2 _).trans (b2 K)⟩
   | some g =>
    obtain ⟨z, hz, hg⟩ := ha.get d g hl
    obtain ⟨r1, a1, a2⟩ := va_1 (α := α) hg r hr
    obtain ⟨r2, b1, b2⟩ := ih r1 a1
    exact ⟨r2, b1, fun K => by show vaL t ops (.tmp d :: l) r K = _; unfold vaL; dsimp only; rw [hl]; exact (a2 _).trans (b2 K)⟩
  | _ => exact ih r hr
theorem gkC_lt (h : CRep I V g x) : GathLt (α := Prop) V.n (fun r K => gkC g r K) := by
 cases g with
 | ptr k o => exact gathLt_add h.1
 | osl k => exact gathLt_add h.1
 | osv k a b c => exact gathLt_add h.1
 | oel k i s o => exact h.elim
 | mp k => exact gathLt_add h.1
 | _ => exact GathLt.none
theorem gkCL_lt : ∀ {l : List G} {us : List Value}, PW (CRep I V) l us → GathLt (α := Prop) V.n (fun r K => gkCL l r K)
 | [], _, _ => GathLt.none
 | g :: l, us, h => by
  obtain ⟨x, us', rfl, h1, h2⟩ := h.uncons
  exact (gkC_lt h1).seq (gkCL_lt h2)
theorem stepK_lt (hH : Has I V own w) : ∀ l : List Nat, GathLt (α := Prop) V.n (fun r K => stepK own l r K)
 | [] => GathLt.none
 | k :: l => fun r hr => by
  have ih := stepK_lt hH l
  show ∃ r' : List Nat, _ ∧ ∀ K : List Nat → Prop, stepK own (k :: l) r K = K r'
  unfold stepK
  split
  ·next cs t hl =>
   obtain ⟨-, us, -, hp⟩ := hH.each k _ hl
   obtain ⟨r1, a1, a2⟩ := gkCL_lt hp r hr
   obtain ⟨r2, b1, b2⟩ := ih r1 a1
   exact ⟨r2, b1, fun K => (a2 _).trans (b2 K)⟩
  ·exact ih r hr
theorem trK_lt (hH : Has I V own w) : ∀ n : Nat, GathLt (α := Prop) V.n (fun r K => trK own n r K)
 | 0 => GathLt.none
 | n + 1 => fun r hr => by
  obtain ⟨r1, a1, a2⟩ := stepK_lt hH r r hr
  obtain ⟨r2, b1, b2⟩ := trK_lt hH n r1 a1
  exact ⟨r2, b1, fun K => (a2 _).trans (b2 K)⟩
theorem absK_lt {α : Type} {n : Nat} : ∀ w : Os, (∀ k r, (k, r) ∈ w → k < n) → GathLt (α := α) n (fun r K => absK w r K)
 | [], _ => GathLt.none
 | (k, q) :: l, h => fun r hr => by
  have ih := absK_lt (α := α) l fun k r hk => h k r (by simp [hk])
  cases q with
  | abs p =>
   obtain ⟨r1, a1, a2⟩ := gathLt_add (α := α) (h k _ (by simp : (k, R.abs p) ∈ _)) r hr
   obtain ⟨r2, b1, b2⟩ := ih r1 a1
   exact ⟨r2, b1, fun K => (a2 _).trans (b2 K)⟩
  | _ => exact ih r hr
theorem mapK_lt {α : Type} {n : Nat} : ∀ w : Os, (∀ k r, (k, r) ∈ w → k < n) → GathLt (α := α) n (fun r K => mapK w r K)
 | [], _ => GathLt.none
 | (k, q) :: l, h => fun r hr => by
  have ih := mapK_lt (α := α) l fun k r hk => h k r (by simp [hk])
  cases q with
  | mpI p =>
   obtain ⟨r1, a1, a2⟩ := gathLt_add (α := α) (h k _ (by simp : (k, R.mpI p) ∈ _)) r hr
   obtain ⟨r2, b1, b2⟩ := ih r1 a1
   exact ⟨r2, b1, fun K => (a2 _).trans (b2 K)⟩
  | mpS p =>
   obtain ⟨r1, a1, a2⟩ := gathLt_add (α := α) (h k _ (by simp : (k, R.mpS p) ∈ _)) r hr
   obtain ⟨r2, b1, b2⟩ := ih r1 a1
   exact ⟨r2, b1, fun K => (a2 _).trans (b2 K)⟩
  | _ => exact ih r hr
theorem look_of_mem {α : Type} {k : Nat} {x : α} : ∀ {l : List (Nat × α)}, (k, x) ∈ l → ∃ y, look k l = some y
 | [], h => by simp at h
 | (j, y) :: l, h => by
  rw [look_cons]
  by_cases e : k = j
  ·rw [if_pos e]; exact ⟨y, rfl⟩
  ·rw [if_neg e]
   rcases List.mem_cons.1 h with h | h
   ·exact absurd (congrArg Prod.fst h) e
   ·exact look_of_mem h
theorem volK_ex (hH : Has I V own w) (ha : ARep N I V a t) (late : List Nat) (ops l : List Oper) (i : Nat) (r0 : List Nat) (h0 : ∀ k ∈ r0, k < V.n) : ∃ r : List Nat, (∀ k ∈ r, k < V.n) ∧ ∀ K : List Nat → Prop, volK tb late t own ops l i r0 K = K r := by
 have key : ∀ (l : List Oper) (i : Nat) (r0 : List Nat), (∀ k ∈ r0, k < V.n) → ∃ r : List Nat, (∀ k ∈ r, k < V.n) ∧ ∀ K : List Nat → Prop, volK tb late t own ops l i r0 K = K r := fun l => by
  induction l with
  | nil => exact fun i r0 h0 => ⟨r0, h0, fun _ => rfl⟩
  | cons o l ih =>
   intro i r0 h0
   unfold volK
   split
   ·split
    ·next hro =>
     obtain ⟨_, _, hl⟩ := rootOf_look hro
     obtain ⟨y, hy, hg⟩ := ha.get _ _ hl
     obtain ⟨r1, a1, a2⟩ := addK_ex _ r0
     obtain ⟨r, b1, b2⟩ := ih (i + 1) r1 (fun j hj => (a2 j hj).elim (h0 j) fun e => by rw [e]; exact (trep_ptr hg).1)
     exact ⟨r, b1, fun K => (a1 _).trans (b2 K)⟩
    ·exact ih (i + 1) r0 h0
   ·split
    ·next f _ =>
     obtain ⟨r1', a1', a2'⟩ := va_L (α := Prop) ha ops (f :: _) r0 h0
     obtain ⟨r1, a1, a2''⟩ := sea_K (α := Prop) ha (anyB (isFnT tb) _) ops _ r1' a1'
     obtain ⟨r2, c1, c2⟩ := absK_lt (α := Prop) own (fun k r hk => by obtain ⟨y, hy⟩ := look_of_mem hk; exact hH.num k y hy) r1 a1
     cases anyB (isMpT tb) _ with
     | true =>
      obtain ⟨r3, d1, d2⟩ := mapK_lt (α := Prop) own (fun k r hk => by obtain ⟨y, hy⟩ := look_of_mem hk; exact hH.num k y hy) r2 c1
      obtain ⟨r, b1, b2⟩ := ih (i + 1) r3 d1
      exact ⟨r, b1, fun K => (a2' _).trans ((a2'' _).trans ((c2 _).trans ((d2 _).trans (b2 K))))⟩
     | false =>
      obtain ⟨r, b1, b2⟩ := ih (i + 1) r2 c1
      exact ⟨r, b1, fun K => (a2' _).trans ((a2'' _).trans ((c2 _).trans (b2 K)))⟩
    ·exact ih (i + 1) r0 h0
   ·exact ih (i + 1) r0 h0
 exact key l i r0 h0
def OkM (P : Program) (tb : List (Nat × TI)) (N : Nat) (own0 : Os) (I0 : Imm) (V0 : Va) (w0 : World) (c : Code) (m : MC) : Prop :=
 ∀ {t : Ts} {own : Os} {I : Imm} {V : Va} {a : Act} {w : World} {K : KC} {Q : Exit → Act → World → Prop}, m t own V.n K → Since own0 I0 V0 w0 own I V w → ARep N I V a t → codeB tb N c = true → (∀ ch d v a w, Q (.panic ch) (a.put d v) w → Q (.panic ch) a w) → NxtC N own0 I0 V0 w0 K Q → c.wp P Q a w
def LabM (P : Program) (tb : List (Nat × TI)) (N : Nat) (own0 : Os) (I0 : Imm) (V0 : Va) (w0 : World) (c : Code) (m : MC) : Prop :=
 (labT c = none → ∀ l, findLabel c l = none) ∧ ∀ l, labT c = some l → ∃ rest, findLabel c l = some rest ∧ OkM P tb N own0 I0 V0 w0 rest m ∧ (codeB tb N c = true → codeB tb N rest = true)
theorem LabM.no {c : Code} {m : MC} (e : labT c = none) (h : ∀ l, findLabel c l = none) : LabM P tb N own0 I0 V0 w0 c m := ⟨fun _ => h, fun _ h => by rw [e] at h; cases h⟩
theorem OkM.seq {x y : Code} {p q : MC} (hx : OkM P tb N own0 I0 V0 w0 x p) (hy : OkM P tb N own0 I0 V0 w0 y q) (x' y' : Code) : OkM P tb N own0 I0 V0 w0 (.seq x y) (sxSeq x' y' p q) := by
 intro t own I V a w K Q h hL ha hc hQ hK
 simp only [codeB, Bool.and_eq_true] at hc
 unfold sxSeq at h
 refine wp_seq (hx h hL ha hc.1 (fun ch d v a w => hQ ch d v a w) fun e t own I V a w hk hL ha => ?_)
 cases e with
 | normal => exact hy hk hL ha hc.2 hQ hK
 | exit id => exact hK (.exit id) _ _ _ _ _ _ hk hL ha
 | ret => exact hK .ret _ _ _ _ _ _ hk hL ha
 | goto l => exact hK (.goto l) _ _ _ _ _ _ hk hL ha
theorem OkM.stay {x : Code} {p : MC} (hx : OkM P tb N own0 I0 V0 w0 x p) {t : Ts} {own : Os} {I : Imm} {V : Va} {a : Act} {w : World} {K : KC} {Q : Exit → Act → World → Prop} (l : Nat) (J : Act → World → Prop) (h : sxStay p t own V.n K) (hL : Since own0 I0 V0 w0 own I V w) (ha : ARep N I V a t) (hc : codeB tb N x = true) (hQ : ∀ ch d v a w, Q (.panic ch) (a.put d v) w → Q (.panic ch) a w) (hK : NxtC N own0 I0 V0 w0 K Q) : x.wp P (Exit.jump l J Q) a w := by
 unfold sxStay at h
 refine hx h hL ha hc (fun ch d v a w => hQ ch d v a w) fun e t own I V a w hk hL ha => ?_
 cases e with
 | normal => exact hK .normal _ _ _ _ _ _ hk hL ha
 | exit id => exact hK (.exit id) _ _ _ _ _ _ hk hL ha
 | ret => exact hK .ret _ _ _ _ _ _ hk hL ha
 | goto l => exact hk.elim
theorem OkM.scope {x : Code} {m : MP} (hx : OkM P tb N own0 I0 V0 w0 x (m true)) (ho : LabM P tb N own0 I0 V0 w0 x (m false)) : OkM P tb N own0 I0 V0 w0 (.scope x) (sxScope x m) := by
 intro t own I V a w K Q h hL ha hc hQ hK
 have hc : codeB tb N x = true := hc
 unfold sxScope at h
 cases hl : labT x with
 | none =>
  rw [hl] at h
  refine wp_scope_straight (Code.wp_mono ?_ (hx.stay 0 (fun _ _ => False) h hL ha hc hQ hK))
  intro e a w q
  cases e with
  | goto l => exact q.2.elim
  | _ => exact q
 | some l =>
  rw [hl] at h
  obtain ⟨rest, h1, h2, h3⟩ := ho.2 l hl
  refine wp_scope_jumps l (fun a w => ∃ t own I V, sxStay (m false) t own V.n K ∧ Since own0 I0 V0 w0 own I V w ∧ ARep N I V a t) (fun _ _ => 0) h1 ?_ ?_
  ·refine hx h hL ha hc (fun ch d v a w => hQ ch d v a w) fun e t own I V a w hk hL ha => ?_
   cases e with
   | normal => exact hK .normal _ _ _ _ _ _ hk hL ha
   | exit id => exact hK (.exit id) _ _ _ _ _ _ hk hL ha
   | ret => exact hK .ret _ _ _ _ _ _ hk hL ha
   | goto l' =>
    have hk : (bif Nat.beq l' l then sxStay (m false) t own V.n K else False) := hk
    cases hb : Nat.beq l' l with
    | true => rw [hb] at hk; exact ⟨Nat.eq_of_beq_eq_true hb, t, own, I, V, hk, hL, ha⟩
    | false => rw [hb] at hk; exact hk.elim
  ·rintro a1 w1 ⟨t, own, I, V, hk, hL, ha⟩
   exact h2.stay l _ hk hL ha (h3 hc) hQ hK
theorem sxM_ok (hT : ∀ t i, look t tb = some i → TIok P t i) (hm : P.follows .mixedOrders = true) : ∀ c : Code, OkM P tb N own0 I0 V0 w0 c (sxM P tb c true) ∧ LabM P tb N own0 I0 V0 w0 c (sxM P tb c false) := by
 intro c
 induction c with
 | skip => exact ⟨by intro t own I V a w K Q h hL ha _ _ hK; exact wp_skip (hK .normal _ _ _ _ _ _ h hL ha), .no rfl fun _ => rfl⟩
 | label l =>
  refine ⟨by intro t own I V a w K Q h hL ha _ _ hK; exact wp_label (hK .normal _ _ _ _ _ _ h hL ha), ⟨fun e => (by cases e), fun l' e => ?_⟩⟩
  have e : some l = some l' := e
  cases e
  exact ⟨.skip, by simp [findLabel], by intro t own I V a w K Q h hL ha _ _ hK; exact wp_skip (hK .normal _ _ _ _ _ _ h hL ha), fun _ => rfl⟩
 | ret => exact ⟨by intro t own I V a w K Q h hL ha _ _ hK; exact wp_ret (hK .ret _ _ _ _ _ _ h hL ha), .no rfl fun _ => rfl⟩
 | exit id => exact ⟨by intro t own I V a w K Q h hL ha _ _ hK; exact wp_exit (hK (.exit id) _ _ _ _ _ _ h hL ha), .no rfl fun _ => rfl⟩
 | goto l => exact ⟨by intro t own I V a w K Q h hL ha _ _ hK; exact wp_goto (hK (.goto l) _ _ _ _ _ _ h hL ha), .no rfl fun _ => rfl⟩
 | scope x ih => exact ⟨OkM.scope ih.1 ih.2, .no rfl fun _ => rfl⟩
 | seq x y ihx ihy =>
  refine ⟨OkM.seq ihx.1 ihy.1 x y, fun e l => ?_, fun l e => ?_⟩
  ·have e : (match labT x with | some l => some l | none => labT y) = none := e
   cases hx : labT x with
   | some o => rw [hx] at e; cases e
   | none => rw [hx] at e; simp only [findLabel, ihx.2.1 hx l]; exact ihy.2.1 e l
  ·have e : (match labT x with | some l => some l | none => labT y) = some l := e
   show ∃ rest, findLabel (.seq x y) l = some rest ∧ OkM P tb N own0 I0 V0 w0 rest (match labT x with | some _ => sxSeq x y (sxM P tb x false) (sxM P tb y true) | none => sxM P tb y false) ∧ _
   cases hx : labT x with
   | some o =>
    rw [hx] at e
    cases e
    obtain ⟨rest, h1, h2, h3⟩ := ihx.2.2 _ hx
    refine ⟨.seq rest y, by simp only [findLabel, h1], OkM.seq h2 ihy.1 x y, fun hc => ?_⟩
    simp only [codeB, Bool.and_eq_true] at hc ⊢
    exact ⟨h3 hc.1, hc.2⟩
   | none =>
    rw [hx] at e
    obtain ⟨rest, h1, h2, h3⟩ := ihy.2.2 _ e
    refine ⟨rest, by simp only [findLabel, ihx.2.1 hx l]; exact h1, h2, fun hc => ?_⟩
    simp only [codeB, Bool.and_eq_true] at hc
    exact h3 hc.2
 | cond c x y ihx ihy =>
  refine ⟨?_, .no rfl fun _ => rfl⟩
  intro t own I V a w K Q h hL ha hc hQ hK
  simp only [codeB, Bool.and_eq_true] at hc
  have h : sxCond c x y (sxM P tb x true) (sxM P tb y true) t own V.n K := h
  unfold sxCond at h
  obtain ⟨g, h, hg⟩ := ev_ok h ha hL.has
  cases g with
  | tt => exact wp_cond_true (by generalize a.eval c = z at hg; cases (show VRep I .tt z from hg); rfl) (ihx.1 h hL ha hc.1 hQ hK)
  | ff => exact wp_cond_false (by generalize a.eval c = z at hg; cases (show VRep I .ff z from hg); rfl) (ihy.1 h hL ha hc.2 hQ hK)
  | v z =>
   have e := trep_v hg
   cases z with
   | bool b => exact wp_cond_split e (fun hb => ihx.1 (h.1 hb) hL ha hc.1 hQ hK) (fun hb => ihy.1 (h.2 hb) hL ha hc.2 hQ hK)
   | _ => exact h.elim
  | _ => exact h.elim
 | block id x ih =>
  refine ⟨?_, .no rfl fun _ => rfl⟩
  intro t own I V a w K Q h hL ha hc hQ hK
  have h : sxBlock id x (sxM P tb x true) t own V.n K := h
  unfold sxBlock at h
  refine wp_block (ih.1 h hL ha hc (fun ch d v a w => hQ ch d v a w) fun e t own I V a w hk hL ha => ?_)
  cases e with
  | normal => exact hK .normal _ _ _ _ _ _ hk hL ha
  | exit id' =>
   show if id' = id then Q .normal a w else Q (.exit id') a w
   dsimp only at hk
   by_cases hi : id' = id
   ·subst hi
    rw [if_pos rfl]
    rw [Nat.beq_refl] at hk
    exact hK .normal _ _ _ _ _ _ hk hL ha
   ·rw [if_neg hi]
    have h2 : Nat.beq id' id = false := by
     cases hb : Nat.beq id' id with
     | false => rfl
     | true => exact absurd (Nat.eq_of_beq_eq_true hb) hi
    rw [h2] at hk
    exact hK (.exit id') _ _ _ _ _ _ hk hL ha
  | goto l => exact hK (.goto l) _ _ _ _ _ _ hk hL ha
  | ret => exact hK .ret _ _ _ _ _ _ hk hL ha
 | loop x ih =>
  refine ⟨?_, .no rfl fun _ => rfl⟩
  intro t own I V a w K Q h hL ha hc hQ hK
  have h : sxLoop x (sxM P tb x true) t own V.n K := h
  unfold sxLoop at h
  obtain ⟨w1o, n1, bb, hgh, X, st, dd, In, μ, ⟨x0, h0, hle⟩, hround⟩ := h
  obtain ⟨Vg, eg, lg⟩ := gh_ok hgh rfl hL.has
  subst eg
  replace hL := hL.trans lg
  replace ha := ha.mono (.refl _) lg.va
  have hn0 := hL.n
  let At : X → Act → World → Prop := fun x a w => In x ∧ ∃ I V', V'.n = Vg.n ∧ Since own0 I0 V0 w0 (st x).2 I V' w ∧ ARep N I V' a (st x).1
  have h1 := le_ok hL.n hL ha hle
  refine wp_loop_ghost (fun k a w => ∃ x, At x a w ∧ μ x = k) (μ x0) ⟨x0, ⟨h0, I, _, rfl, h1.1, h1.2⟩, rfl⟩ fun k a1 w1 hI => ?_
  obtain ⟨x1, ⟨hi, I1, V1, hn, hS, hA⟩, rfl⟩ := hI
  have hb := hround x1 hi
  rw [← hn] at hb
  refine ih.1 hb hS hA hc (fun ch d v a w => hQ ch d v a w) fun e t own I V a w hk hL ha => ?_
  have fin : ∀ {own : Os} {V : Va}, sxRoundM st In μ V1.n x1 K e t own V.n → Since own0 I0 V0 w0 own I V w → ARep N I V a t → (match e.to with | .normal => ∃ m, m < μ x1 ∧ ∃ x, At x a w ∧ μ x = m | e => Q e a w) := fun {own V} hk hL ha => by
   cases e with
   | normal =>
    obtain ⟨y, m, hy, hlt, hle⟩ := hk
    have h2 := le_ok (n := V1.n) (by omega) hL ha hle
    exact ⟨μ y, hlt, y, ⟨hy, I, _, by simp [Va.renS, hn], h2.1, h2.2⟩, rfl⟩
   | exit id => exact hK (.exit id) _ _ _ _ _ _ hk hL ha
   | goto l => exact hK (.goto l) _ _ _ _ _ _ hk hL ha
   | ret => exact hK .ret _ _ _ _ _ _ hk hL ha
  have hk2 : ∃ (own' : Os) (V' : Va), sxRoundM st In μ V1.n x1 K e t own' V'.n ∧ Since own0 I0 V0 w0 own' I V' w ∧ ARep N I V' a t := by
   cases bb with
   | false =>
    refine ⟨own, V, ?_, hL, ha⟩
    cases e with
    | normal => obtain ⟨y, hy, hlt, hle⟩ := hk; exact ⟨y, _, hy, hlt, hle⟩
    | _ => exact hk
   | true =>
    obtain ⟨w2, n2, hg2, hk⟩ := (show sxRoundG st dd In μ V1.n x1 K e t own V.n from hk)
    obtain ⟨V2, e2, l2⟩ := gh_ok hg2 rfl hL.has
    subst e2
    exact ⟨w2, V2, hk, hL.trans l2, ha.mono (.refl _) l2.va⟩
  obtain ⟨own', V', q1, q2, q3⟩ := hk2
  have := fin q1 q2 q3
  cases e <;> exact this
 | region id ops dr =>
  refine ⟨?_, .no rfl fun _ => rfl⟩
  intro t own I V a w K Q h hL ha hc hQ hK
  simp only [codeB, Bool.and_eq_true] at hc
  have hd : ∀ o ∈ ops.toList, ∀ i, o.dst = some i → i < N := fun o ho i hi => by
   have := List.all_eq_true.1 hc.1 o ho
   rw [hi] at this
   exact Nat.le_of_ble_eq_true this
  have h : sxReg P tb id ops dr t own V.n K := h
  unfold sxReg at h
  cases dr with
  | false => exact wp_region_list (sxO_ok hT (fun t own I V a w hk hL ha => hK .normal _ _ _ _ _ _ hk hL ha) h hL ha hd)
  | true =>
   have hc2 := hc.2
   simp only [Bool.and_eq_true] at hc2
   have hH : Has I V own w.drew := hL.has.heap rfl rfl
   have hL2 : Since own0 I0 V0 w0 own I V w.drew := ⟨hH, ⟨hL.fro.os, hL.fro.tape, hL.fro.output, hL.fro.size, hL.fro.blk, hL.fro.mono, hL.fro.foot⟩, hL.n, hL.bb⟩
   have hn := noB_eq ops.toList
   obtain ⟨late, hlate⟩ := lateK_ex (tb := tb) ops.toList ops.toList 0
   obtain ⟨XL, hXL, hvol⟩ := volK_ex (tb := tb) hL.has ha late ops.toList ops.toList 0 [] (fun k hk => by simp at hk)
   have h : lateK tb ops.toList ops.toList 0 fun late => volK tb late t own ops.toList ops.toList 0 [] fun XL => trK own 3 XL fun XL => sxD P tb XL late ops.toList ops.toList (noB ops.toList) t own V.n (K .normal) := h
   rw [hlate] at hc2
   obtain ⟨XL2, hXL2, htr⟩ := trK_lt hL.has 3 XL hXL
   have htr : ∀ K : List Nat → Prop, trK own 3 XL K = K XL2 := htr
   rw [hlate, hvol, htr] at h
   refine wanted_draw hm (late := late) (S := Agree V XL2 w.drew) ?_
   have := sxD_ok (fu := ops.toList) (l := noB ops.toList) hT hQ hc2.1 hd (fun t own I V a w hk hL ha => hK .normal _ _ _ _ _ _ hk hL ha) (by rw [hn.2]; simp) (by rw [hn.1]; exact closed_start _ (by simp)) hc2.2 h hL2 ha hXL2
   rw [hn.1] at this
   simpa using this
 | rangeFunc f ps x y _ _ => exact ⟨fun h => False.elim h, .no rfl fun _ => rfl⟩
 | refuse s => exact ⟨fun h => False.elim h, .no rfl fun _ => rfl⟩
theorem sxC_ok (hT : ∀ t i, look t tb = some i → TIok P t i) (hm : P.follows .mixedOrders = true) {c : Code} {t : Ts} {own : Os} {I : Imm} {V : Va} {a : Act} {w : World} {K : KC} {Q : Exit → Act → World → Prop} (h : sxC P tb c t own V.n K) (hL : Since own0 I0 V0 w0 own I V w) (ha : ARep N I V a t) (hc : codeB tb N c = true) (hQ : ∀ ch d v a w, Q (.panic ch) (a.put d v) w → Q (.panic ch) a w) (hK : NxtC N own0 I0 V0 w0 K Q) : c.wp P Q a w :=
 (sxM_ok hT hm c).1 h hL ha hc hQ hK
end
end Go.Proofs.YtalfffamppmooaaGreatDoor
namespace Go.Proofs.YtalfffamppmooaaGreatDoor
open Go.RowKit
section
variable {P : Program} {tb : List (Nat × TI)} {N n : Nat} {I I' I0 : Imm} {V V' V0 : Va} {a : Act} {t t' : Ts} {own own' own0 : Os} {w w' w0 : World} {g : G} {x y : Value}
def resSem (tmps : Array Value) : ResultVar → Sem Value
 | .tmp t => pure (tmps.getD t undef)
 | .cell x t => do loadVar t (← asAddr (tmps.getD x undef))
def resRun (P : Program) (a : Act) (w : World) (r : ResultVar) (v : Value) : Prop := (resSem a.tmps r).run P w = .ok v w
theorem resK_okn (hT : ∀ t i, look t tb = some i → TIok P t i) {r : ResultVar} {K1 : G → Os → Prop} (h : resK tb t own K1 r) (hH : Has I V own w) (ha : ARep N I V a t) : ∃ g own' I' V' v, K1 g own' ∧ V'.n = V.n ∧ Later own I V w own' I' V' w ∧ VRep I' g v ∧ resRun P a w r v := by
 cases r with
 | tmp i =>
  unfold resK at h
  dsimp only at h
  cases hl : look i t with
  | none => rw [hl] at h; exact h.elim
  | some g =>
   rw [hl] at h
   obtain ⟨x, hx, hr⟩ := ha.get i g hl
   obtain ⟨g', o1, I1, V1, h1, hn, h3, h4⟩ := pur_ok h hr hH
   exact ⟨g', o1, I1, V1, x, h1, hn.1, h3, h4, by unfold resRun resSem; simp [hx]⟩
 | cell i ty =>
  unfold resK at h
  dsimp only at h
  split at h
  ·next k off ti hl hty =>
   obtain ⟨x, hx, hr⟩ := ha.get i _ hl
   obtain ⟨hk, rfl⟩ := trep_ptr hr
   split at h
   ·next cs ty' hb =>
    obtain ⟨us, h1, h2, h3⟩ := blk_at hH hb
    have hti := hT _ _ hty
    cases hag : ti.agg with
    | true =>
     rw [hag] at h
     obtain ⟨l, k1, k2, -⟩ := seg_ok h h2
     obtain ⟨l', o1, I1, V1, q1, qn, q3, q4⟩ := purL_ok k1 k2 hH
     have hlen : ((us.drop off).take ti.zero.length).length = ti.zero.length := by
      rcases Nat.eq_zero_or_pos ti.zero.length with h0 | h0
      ·rw [h0]; simp
      ·have := seg_len h h2 h0; simp; omega
     refine ⟨_, o1, I1, V1, _, q1, qn.1, q3, pw_v q4, ?_⟩
     have := run_loadVar_part (P := P) (w := w) (g := V.b k) (k := off) (ty := ty) (cs := (us.drop off).take ti.zero.length) (by rw [hti.agg, hag]) (by rw [hti.size, hlen]) (fun j v hv => by rw [h3]; exact drop_get hv)
     unfold resRun resSem
     simp [hx, asAddr, this]
    | false =>
     rw [hag, nth_eq] at h
     dsimp only at h
     cases hc : cs[off]? with
     | none => rw [hc] at h; exact h.elim
     | some g =>
      rw [hc] at h
      obtain ⟨v, hv, hg⟩ := h2.get hc
      obtain ⟨g', o1, I1, V1, q1, qn, q3, q4⟩ := pur1_ok h hg hH
      refine ⟨g', o1, I1, V1, v, q1, qn.1, q3, q4, ?_⟩
      have hcell := (h3 off).trans hv
      unfold resRun resSem
      simp [hx, asAddr, loadVar, run_isAgg (P := P) (show aggB P ty = some false by rw [hti.agg, hag]), hcell]
   ·exact h.elim
  ·exact h.elim
theorem resK_ok (hT : ∀ t i, look t tb = some i → TIok P t i) {r : ResultVar} {K1 : G → Os → Prop} (h : resK tb t own K1 r) (hH : Has I V own w) (ha : ARep N I V a t) : ∃ g own' I' V' v, K1 g own' ∧ Later own I V w own' I' V' w ∧ VRep I' g v ∧ resRun P a w r v := by
 obtain ⟨g, o, I', V', v, h1, -, h2⟩ := resK_okn hT h hH ha
 exact ⟨g, o, I', V', v, h1, h2⟩
theorem resL_ok (hT : ∀ t i, look t tb = some i → TIok P t i) : ∀ {rs : List ResultVar} {own : Os} {I : Imm} {V : Va} {K1 : List G → Prop}, resL tb t own rs K1 → Has I V own w → ARep N I V a t → ∃ gs own' I' V', ∃ vs : List Value, K1 gs ∧ Later own I V w own' I' V' w ∧ PW (VRep I') gs vs ∧ vs.length = rs.length ∧ ∀ (i : Nat) r v, rs[i]? = some r → vs[i]? = some v → resRun P a w r v
 | [], own, I, V, K1, h, hH, _ => ⟨[], own, I, V, [], h, .refl hH, .nil, rfl, fun i r v h => by simp at h⟩
 | r :: rs, own, I, V, K1, h, hH, ha => by
  obtain ⟨g, o1, I1, V1, v, h1, h2, h3, h4⟩ := resK_ok (K1 := fun g w' => resL tb t w' rs fun gs => K1 (g :: gs)) hT h hH ha
  obtain ⟨gs, o2, I2, V2, vs, k1, k2, k3, k4, k5⟩ := resL_ok hT h1 h2.has (ha.mono h2.fro.mono h2.va)
  refine ⟨g :: gs, o2, I2, V2, v :: vs, k1, h2.trans k2, .cons (h3.mono k2.fro.mono) k3, by simp [k4], fun i r' v' hr hv => ?_⟩
  cases i with
  | zero => simp at hr hv; subst hr hv; exact h4
  | succ i => exact k5 i r' v' (by simpa using hr) (by simpa using hv)
theorem res_list : ∀ {rs : List ResultVar} {vs : List Value}, vs.length = rs.length → (∀ (i : Nat) r v, rs[i]? = some r → vs[i]? = some v → resRun P a w r v) → (rs.mapM (resSem a.tmps)).run P w = .ok vs w
 | [], vs, h, _ => by rw [List.eq_nil_of_length_eq_zero h]; simp
 | r :: rs, [], h, _ => by simp at h
 | r :: rs, v :: vs, h, hr => by
  have h1 := hr 0 r v rfl rfl
  have h2 := res_list (rs := rs) (vs := vs) (by simpa using h) fun i r v h h' => hr (i + 1) r v (by simpa using h) (by simpa using h')
  unfold resRun at h1
  rw [List.mapM_cons, Sem.run_bind, h1, Result.andThen_ok, Sem.run_bind, h2, Result.andThen_ok, Sem.run_pure]
def packV : List Value → Value
 | [v] => v
 | vs => .tuple vs.toArray
theorem run_results {fn : Func} {vs : List Value} (hl : vs.length = fn.results.toList.length) (hr : ∀ (i : Nat) r v, fn.results.toList[i]? = some r → vs[i]? = some v → resRun P a w r v) : (results fn a.tmps).run P w = .ok (packV vs) w := by
 have h := res_list hl hr
 have e : results fn a.tmps = (do let vs ← fn.results.mapM (resSem a.tmps); pure (if h : vs.size = 1 then vs[0] else .tuple vs)) := by
  unfold results
  congr 2
 rw [e, Sem.run_bind, Array.mapM_eq_mapM_toList]
 simp only [Sem.run_map, h, Result.andThen_ok, Sem.run_pure]
 cases vs with
 | nil => simp [packV]
 | cons v vs =>
  cases vs with
  | nil => simp [packV]
  | cons u vs => simp [packV]
theorem args0_look : ∀ {l : List G} {k i : Nat} {g : G}, look i (args0 k l) = some g → ∃ j, i = k + j ∧ l[j]? = some g
 | [], k, i, g, h => by cases h
 | g' :: l, k, i, g, h => by
  unfold args0 at h
  rw [look_cons] at h
  split at h
  ·next e => cases h; exact ⟨0, by omega, rfl⟩
  ·obtain ⟨j, h1, h2⟩ := args0_look h
   exact ⟨j + 1, by omega, by simpa using h2⟩
theorem fn_of_sx (hT : ∀ t i, look t tb = some i → TIok P t i) (hm : P.follows .mixedOrders = true) {f : FuncId} {fn : Func} {c : Code} {gs : List G} {Q : G → Prop} (hf : P.funcs[f]? = some fn) (hname : (fn.name == "runtime.NumGoroutine") = false) (hb : fn.body = some c) (hn : gs.length ≤ fn.ntmps) (hc : codeB tb fn.ntmps c = true)
  (h : sxC P tb c (args0 0 gs) [] 0 (sxRes tb fn Q)) : FnV P f gs Q := by
 refine ⟨⟨fn, hf, hname, by rw [hb]; rfl⟩, fun I w vs hM hp => ?_⟩
 let V : Va := ⟨0, fun _ => 0, fun _ => undef, fun _ _ => False⟩
 have hH : Has I V [] w := ⟨hM, fun k r h => (by cases h), fun k r h => (by cases h), fun k r b h => (by cases h), fun k k' r r' b h => (by cases h)⟩
 refine calls_of_wp hf hb ?_
 have hlen : vs.length = gs.length := hp.1.symm
 have ha : ARep fn.ntmps I V { tmps := vs.toArray ++ Array.replicate (fn.ntmps - vs.toArray.size) undef, defers := [] } (args0 0 gs) := by
  refine ⟨rfl, by simp; omega, fun i g hg => ?_⟩
  obtain ⟨j, e, hj⟩ := args0_look hg
  obtain rfl : i = j := by omega
  obtain ⟨u, hu, hr⟩ := hp.get hj
  refine ⟨u, ?_, .of_v hr⟩
  have hi := (List.getElem?_eq_some_iff.1 hu).1
  show (vs.toArray ++ _)[i]? = _
  rw [Array.getElem?_append_left (by simpa using hi)]
  simpa using hu
 refine sxC_ok (own0 := []) (I0 := I) (V0 := V) (w0 := w) hT hm (V := V) h ⟨hH, .refl _ _ _ _, Nat.le_refl _, fun _ _ => rfl⟩ ha hc (fun ch d v a w hq => ?_) fun e t own I1 V1 a w1 hk hS hA => ?_
 ·cases d <;> exact hq
 ·have key : (∀ id, e ≠ .exit id) → bodyPost P fn (fun e w' => ∃ x g I', e = .returned x ∧ Q g ∧ Mem I' w' ∧ VR I' g x ∧ (∀ b o x, I b o = some x → I' b o = some x) ∧ (∀ b o, b < w.heap.size → I' b o = I b o) ∧ Below w.heap.size w w') .ret a w1 := fun he => by
   refine ⟨hA.defers, ?_⟩
   have hk : match fn.results.toList with
     | [r] => resL tb t own [r] fun gs => match gs with
      | [g] => Q g
      | _ => False
     | rs => resL tb t own rs fun gs => Q (.tup gs) := by
    cases e with
    | exit id => exact absurd rfl (he id)
    | goto l => exact hk.elim
    | normal => exact hk
    | ret => exact hk
   have fin : ∀ {gs own' I' V' vs}, Later own I1 V1 w1 own' I' V' w1 → PW (VRep I') gs vs → ∀ {g x}, Q g → VR I' g x → ∃ x' g I', Ending.returned x = .returned x' ∧ Q g ∧ Mem I' w1 ∧ VR I' g x' ∧ (∀ b o x, I b o = some x → I' b o = some x) ∧ (∀ b o, b < w.heap.size → I' b o = I b o) ∧ Below w.heap.size w w1 := fun {gs own' I' V' vs} hl _ {g x} hq hv => by
    have hfro := hS.fro.trans hl.fro
    exact ⟨x, g, I', rfl, hq, hl.has.mem, hv, hfro.mono, fun b o hb => (hfro.blk b hb fun k r hk => (by cases hk)).2 o, ⟨hfro.os, hfro.tape, hfro.output, hfro.size, fun b hb => (hfro.blk b hb fun k r hk => (by cases hk)).1⟩⟩
   split at hk
   ·next r hr =>
    obtain ⟨gs, o2, I2, V2, vs, k1, k2, k3, k4, k5⟩ := resL_ok hT hk hS.has hA
    rw [← hr] at k4 k5
    refine ⟨_, run_results k4 k5, ?_⟩
    cases gs with
    | nil => exact k1.elim
    | cons g gs =>
     cases gs with
     | cons g' gs => exact k1.elim
     | nil =>
      obtain ⟨v, vs', rfl, hv, hn⟩ := k3.uncons
      obtain rfl := hn.of_nil
      refine fin k2 k3 k1 ?_
      cases g with
      | tup l => cases hv
      | _ => exact hv
   ·next rs hr =>
    obtain ⟨gs, o2, I2, V2, vs, k1, k2, k3, k4, k5⟩ := resL_ok hT hk hS.has hA
    refine ⟨_, run_results k4 k5, ?_⟩
    have hv1 : ∀ v, vs ≠ [v] := fun v e => by
     rw [e] at k4
     cases hq : fn.results.toList with
     | nil => rw [hq] at k4; simp at k4
     | cons r l =>
      cases l with
      | nil => exact hr r hq
      | cons r' l => rw [hq] at k4; simp at k4
    have e : packV vs = .tuple vs.toArray := by
     unfold packV
     split
     ·next v => exact absurd rfl (hv1 v)
     ·rfl
    rw [e]
    exact fin k2 k3 k1 ⟨vs, rfl, k3⟩
  cases e with
  | normal => exact key fun id h => by cases h
  | exit id => exact hk.elim
  | goto l => exact hk.elim
  | ret => exact key fun id h => by cases h
theorem FnV.mono {f : FuncId} {gs : List G} {Q Q' : G → Prop} (h : FnV P f gs Q) (hq : ∀ g, Q g → Q' g) : FnV P f gs Q' :=
 ⟨h.1, fun I w vs hM hp => (h.2 I w vs hM hp).mono fun _ _ ⟨x, g, I', h1, h2, h3⟩ => ⟨x, g, I', h1, hq g h2, h3⟩⟩
/-! ### A function that is lent something -/
theorem resKO_ok (hT : ∀ t i, look t tb = some i → TIok P t i) {r : ResultVar} {K1 : G → Os → Prop} (h : resKO tb t own K1 r) (hH : Has I V own w) (ha : ARep N I V a t) : ∃ g own' I' V' v, K1 g own' ∧ V'.n = V.n ∧ Later own I V w own' I' V' w ∧ PRep I' V' g v ∧ resRun P a w r v := by
 cases r with
 | tmp i =>
  unfold resKO at h
  dsimp only at h
  cases hl : look i t with
  | none => rw [hl] at h; exact h.elim
  | some g =>
   rw [hl] at h
   obtain ⟨x, hx, hr⟩ := ha.get i g hl
   obtain ⟨g', o1, I1, V1, h1, h2, h3, h4⟩ := purA_ok h hr hH
   exact ⟨g', o1, I1, V1, x, h1, h2.1, h3, h4, by unfold resRun resSem; simp [hx]⟩
 | cell i ty =>
  obtain ⟨g', o1, I1, V1, v, h1, h2, h3, h4, h5⟩ := resK_okn (K1 := K1) hT (show resK tb t own K1 (.cell i ty) from h) hH ha
  exact ⟨g', o1, I1, V1, v, h1, h2, h3, .of_v h4, h5⟩
theorem resLO_ok (hT : ∀ t i, look t tb = some i → TIok P t i) : ∀ {rs : List ResultVar} {own : Os} {I : Imm} {V : Va} {K1 : List G → Os → Prop}, resLO tb t own rs K1 → Has I V own w → ARep N I V a t → ∃ gs own' I' V', ∃ vs : List Value, K1 gs own' ∧ V'.n = V.n ∧ Later own I V w own' I' V' w ∧ PW (PRep I' V') gs vs ∧ vs.length = rs.length ∧ ∀ (i : Nat) r v, rs[i]? = some r → vs[i]? = some v → resRun P a w r v
 | [], own, I, V, K1, h, hH, _ => ⟨[], own, I, V, [], h, rfl, .refl hH, .nil, rfl, fun i r v h => by simp at h⟩
 | r :: rs, own, I, V, K1, h, hH, ha => by
  obtain ⟨g, o1, I1, V1, v, h1, hn, h2, h3, h4⟩ := resKO_ok (K1 := fun g w' => resLO tb t w' rs fun gs w'' => K1 (g :: gs) w'') hT h hH ha
  obtain ⟨gs, o2, I2, V2, vs, k1, kn, k2, k3, k4, k5⟩ := resLO_ok hT h1 h2.has (ha.mono h2.fro.mono h2.va)
  refine ⟨g :: gs, o2, I2, V2, v :: vs, k1, kn.trans hn, h2.trans k2, .cons (h3.mono k2.fro.mono k2.va) k3, by simp [k4], fun i r' v' hr hv => ?_⟩
  cases i with
  | zero => simp at hr hv; subst hr hv; exact h4
  | succ i => exact k5 i r' v' (by simpa using hr) (by simpa using hv)
end
end Go.Proofs.YtalfffamppmooaaGreatDoor
namespace Go.Proofs.YtalfffamppmooaaGreatDoor
open Go.RowKit
def cap1 : G → Bool
 | .osl _ | .osv _ _ _ _ | .oel _ _ _ _ => false
 | _ => true
def argB : G → Bool
 | .osl _ | .osv _ _ _ _ | .oel _ _ _ _ => false
 | .clo _ a c => match allB cap1 a with
  | true => allB cap1 c
  | false => false
 | _ => true
structure Lent (rs : List R) (gs : List G) (own0 : Os) (n0 : Nat) (gs0 : List G) (roots : List Nat) : Prop where
 run : ∀ I V w vs, Has I V (objs rs 0) w → V.n = rs.length → PW (PRep I V) gs vs → ∃ V2 : Va, V2.n = n0 ∧ Has I V2 own0 w ∧ PW (TRep I V2) gs0 vs ∧ Fro (objs rs 0) I V w own0 I V2 w ∧ ∀ (i r : Nat), roots[i]? = some r → V2.b r = V.b i ∧ r < n0
 len : roots.length = rs.length
section
variable {P : Program} {tb : List (Nat × TI)} {N n n0 : Nat} {I I' I0 : Imm} {V V' V0 V2 : Va} {a : Act} {t t' : Ts} {own own' own0 : Os} {w w' w0 : World} {g : G} {x y : Value} {r : R} {k : Nat}
theorem lent_id (rs : List R) (gs : List G) : Lent rs gs (objs rs 0) rs.length gs (List.range rs.length) :=
 ⟨fun I V w vs hH hn hp => ⟨V, hn, hH, hp.mono fun _ _ h => h.to_t, .refl _ _ _ _, fun i r h => by
  have hi := (List.getElem?_eq_some_iff.1 h).1
  rw [List.getElem?_range (by simpa using hi)] at h
  cases h
  exact ⟨rfl, by simpa using hi⟩⟩, by simp⟩
theorem look_app {α : Type} (k : Nat) : ∀ (l m : List (Nat × α)), look k (l ++ m) = (look k l).or (look k m)
 | [], m => by simp [look]
 | (j, g) :: l, m => by
  rw [List.cons_append, look_cons, look_cons, look_app k l m]
  split <;> simp
theorem lent_cl {O : Os} {n0 : Nat} {rest : List R} {gs gs0 : List G} {own0 : Os} {roots : List Nat} (hk : (keysB n0 O && allB noKeyR rest && allB argB gs && (look 0 O).isSome) = true) (ho : O ++ objs rest n0 = own0) (hg : gs.map (renG (opM 1 n0 rest)) = gs0) (hr : 0 :: (List.range rest.length).map (n0 + ·) = roots) : Lent (.abs (cl O) :: rest) gs own0 (n0 + rest.length) gs0 roots := by
 subst ho hg hr
 simp only [Bool.and_eq_true] at hk
 obtain ⟨⟨⟨hk, hno⟩, harg⟩, hO0⟩ := hk
 obtain ⟨r0, hr0⟩ := Option.isSome_iff_exists.1 hO0
 have h0 : 0 < n0 := (keysB_get hk hr0).1
 refine ⟨fun I V w vs hH hn hp => ?_, by simp⟩
 have hn : V.n = rest.length + 1 := hn
 obtain ⟨-, VO, hb0, hO, hS⟩ := hH.each 0 (.abs (cl O)) rfl
 let V2 : Va := ⟨n0 + rest.length, fun k => if k < n0 then VO.b k else V.b (k - n0 + 1), fun k => if k < n0 then VO.s k else V.s (k - n0 + 1), fun k => if k < n0 then VO.f k else V.f (k - n0 + 1)⟩
 have lk : ∀ k r, look k (O ++ objs rest n0) = some r → (k < n0 ∧ look k O = some r) ∨ (n0 ≤ k ∧ rest[k - n0]? = some r) := fun k r h => by
  rw [look_app] at h
  cases hkO : look k O with
  | some r' => rw [hkO] at h; cases h; exact .inl ⟨(keysB_get hk hkO).1, rfl⟩
  | none =>
   rw [hkO] at h
   have h : look k (objs rest n0) = some r := h
   rw [look_objs] at h
   split at h
   ·next hle => exact .inr ⟨hle, h⟩
   ·cases h
 have lo : ∀ i r, rest[i]? = some r → look (i + 1) (objs (.abs (cl O) :: rest) 0) = some r := fun i r h => by rw [look_objs0]; simpa using h
 have hf1 : ∀ k, k < n0 → V2.f k = VO.f k := fun k hk => if_pos hk
 have hf2 : ∀ k, n0 ≤ k → V2.f k = V.f (k - n0 + 1) := fun k hk => if_neg (by omega)
 have inS : ∀ k r b, look k O = some r → VO.f k b → V.f 0 b := fun k r b hk hb => (hS b).2 ⟨k, r, hk, hb⟩
 refine ⟨V2, rfl, ⟨hH.mem, fun k r h => ?_, fun k r h => ?_, fun k r b h hb => ?_, fun k k' r r' b h h' hb hb' => ?_⟩, ?_, ⟨rfl, rfl, rfl, Nat.le_refl _, fun _ _ _ => ⟨rfl, fun _ => rfl⟩, fun _ _ _ h => h, fun k r b h hb _ => ?_⟩, fun i r h => ?_⟩
 ·show k < n0 + rest.length
  rcases lk k r h with ⟨h1, -⟩ | ⟨h1, h2⟩
  ·omega
  ·have := (List.getElem?_eq_some_iff.1 h2).1; omega
 ·rcases lk k r h with ⟨h1, h2⟩ | ⟨h1, h2⟩
  ·exact (hO.each k r h2).val (keysB_get hk h2).2 (Nat.le_add_right _ _) (fun j hj => ⟨if_pos hj, if_pos hj⟩) h1 (hf1 k h1)
  ·exact (hH.each _ r (lo _ r h2)).lend (allB_mem hno r (List.mem_of_getElem? h2)) (if_neg (by omega)) (if_neg (by omega)) (hf2 k h1)
 ·rcases lk k r h with ⟨h1, h2⟩ | ⟨h1, h2⟩
  ·rw [hf1 k h1] at hb; exact hH.foot 0 _ b rfl (inS k r b h2 hb)
  ·rw [hf2 k h1] at hb; exact hH.foot _ r b (lo _ r h2) hb
 ·rcases lk k r h with ⟨h1, h2⟩ | ⟨h1, h2⟩
  ·rw [hf1 k h1] at hb
   rcases lk k' r' h' with ⟨h1', h2'⟩ | ⟨h1', h2'⟩
   ·rw [hf1 k' h1'] at hb'; exact hO.disj k k' r r' b h2 h2' hb hb'
   ·rw [hf2 k' h1'] at hb'
    have := hH.disj _ _ _ _ b rfl (lo _ r' h2') (inS k r b h2 hb) hb'
    omega
  ·rw [hf2 k h1] at hb
   rcases lk k' r' h' with ⟨h1', h2'⟩ | ⟨h1', h2'⟩
   ·rw [hf1 k' h1'] at hb'
    have := hH.disj _ _ _ _ b rfl (lo _ r h2) (inS k' r' b h2' hb') hb
    omega
   ·rw [hf2 k' h1'] at hb'
    have := hH.disj _ _ _ _ b (lo _ r h2) (lo _ r' h2') hb hb'
    omega
 ·have kb : ∀ k, k < V.n → (look k (opM 1 n0 rest)).getD k < V2.n ∧ V2.b ((look k (opM 1 n0 rest)).getD k) = V.b k := fun k hk => by
   rw [opM_look]
   cases k with
   | zero => rw [if_neg (by omega)]; exact ⟨by show 0 < n0 + _; omega, by show (if 0 < n0 then _ else _) = _; rw [if_pos h0]; exact hb0⟩
   | succ k =>
    rw [if_pos ⟨by omega, by omega⟩, Option.getD_some]
    have e : n0 + (k + 1 - 1) - n0 + 1 = k + 1 := by omega
    exact ⟨by show n0 + (k + 1 - 1) < n0 + _; omega, by show (if _ < n0 then _ else _) = _; rw [if_neg (by omega), e]⟩
  have cr : ∀ g x, cap1 g = true → CRep I V g x → CRep I V2 (renC (opM 1 n0 rest) g) x := fun g x hc h => by
   cases g with
   | ptr k o => exact ⟨(kb k h.1).1, by rw [(kb k h.1).2]; exact h.2⟩
   | mp k => exact ⟨(kb k h.1).1, by rw [(kb k h.1).2]; exact h.2⟩
   | osl k => cases hc
   | osv k a b c => cases hc
   | _ => exact h
  have crl : ∀ l us, allB cap1 l = true → PW (CRep I V) l us → PW (CRep I V2) (l.map (renC (opM 1 n0 rest))) us := fun l us hc h => ⟨by simpa using h.1, fun j g u hg hu => by
   rw [List.getElem?_map] at hg
   obtain ⟨g0, h1, rfl⟩ := Option.map_eq_some_iff.1 hg
   exact cr g0 u (allB_mem hc g0 (List.mem_of_getElem? h1)) (h.2 j g0 u h1 hu)⟩
  refine ⟨by simpa using hp.1, fun j g u hg hu => ?_⟩
  rw [List.getElem?_map] at hg
  obtain ⟨g0, h1, rfl⟩ := Option.map_eq_some_iff.1 hg
  have hc := allB_mem harg g0 (List.mem_of_getElem? h1)
  have hq := hp.2 j g0 u h1 hu
  cases g0 with
  | ptr k o => exact .of_c (cr (.ptr k o) u rfl hq)
  | mp k => exact .of_c (cr (.mp k) u rfl hq)
  | osl k => cases hc
  | osv k a b c => cases hc
  | oel k a b c => cases hc
  | clo f a c =>
   obtain ⟨⟨g, hg, hk⟩, us, cs, e, k1, k2⟩ := hq
   have hc : (match allB cap1 a with | true => allB cap1 c | false => false) = true := hc
   split at hc
   ·next hc1 =>
    have hk2 : noKey (renC (opM 1 n0 rest) g) = false := by cases g <;> first | rfl | cases hk
    exact .of_1 (g := .clo f _ _) ⟨⟨_, hg.imp (fun h => List.mem_map.2 ⟨g, h, rfl⟩) (fun h => List.mem_map.2 ⟨g, h, rfl⟩), hk2⟩, us, cs, e, crl _ _ hc1 k1, crl _ _ hc k2⟩
   ·cases hc
  | v z => exact .of_v (g := .v z) hq
  | tt => exact .of_v (g := .tt) hq
  | ff => exact .of_v (g := .ff) hq
  | un => exact .of_v (g := .un) hq
  | nl => exact .of_v (g := .nl) hq
  | agg l => exact .of_v (g := .agg l) hq
  | sl l => exact .of_v (g := .sl l) hq
  | oag l => cases (show VRep I (.oag l) u from hq)
  | tup l => cases (show VRep I (.tup l) u from hq)
  | elp l o => cases (show VRep I (.elp l o) u from hq)
 ·rcases lk k r h with ⟨h1, h2⟩ | ⟨h1, h2⟩
  ·rw [hf1 k h1] at hb; exact ⟨0, _, rfl, inS k r b h2 hb⟩
  ·rw [hf2 k h1] at hb; exact ⟨_, r, lo _ r h2, hb⟩
 ·cases i with
  | zero =>
   simp at h
   subst h
   exact ⟨(if_pos h0 : (if 0 < n0 then VO.b 0 else _) = VO.b 0).trans hb0, by omega⟩
  | succ i =>
   simp only [List.getElem?_cons_succ, List.getElem?_map] at h
   obtain ⟨j, h1, rfl⟩ := Option.map_eq_some_iff.1 h
   have hi : i < rest.length := by simpa using (List.getElem?_eq_some_iff.1 h1).1
   rw [List.getElem?_range hi] at h1
   cases h1
   exact ⟨(if_neg (by omega) : (if n0 + i < n0 then VO.b (n0 + i) else V.b (n0 + i - n0 + 1)) = _).trans (by congr 1; omega), by omega⟩
theorem keysL_mem : ∀ {its : List It} {i : Nat} {it : It} {k : Nat}, its[i]? = some it → k ∈ it.keys → k ∈ keysL its
 | [], _, _, _, h, _ => by simp at h
 | it0 :: its, 0, it, k, h, hk => by simp at h; subst h; exact List.mem_append_left _ hk
 | it0 :: its, i + 1, it, k, h, hk => List.mem_append_right _ (keysL_mem (by simpa using h) hk)
theorem nodB_app : ∀ {l m : List Nat}, nodB (l ++ m) = true → nodB l = true ∧ nodB m = true ∧ ∀ k, k ∈ l → k ∉ m
 | [], m, h => ⟨rfl, h, fun k hk => by simp at hk⟩
 | k :: l, m, h => by
  rw [List.cons_append] at h
  unfold nodB at h
  cases hm : memB k (l ++ m) with
  | true => rw [hm] at h; cases h
  | false =>
   rw [hm] at h
   obtain ⟨h1, h2, h3⟩ := nodB_app h
   have hn : k ∉ l ++ m := fun hk => by rw [memB_mem.2 hk] at hm; cases hm
   refine ⟨?_, h2, fun j hj => ?_⟩
   ·unfold nodB
    have : memB k l = false := by
     cases hb : memB k l with
     | false => rfl
     | true => exact absurd (List.mem_append_left _ (memB_mem.1 hb)) hn
    rw [this]; exact h1
   ·rcases List.mem_cons.1 hj with rfl | hj
    ·exact fun h => hn (List.mem_append_right _ h)
    ·exact h3 j hj
theorem keysL_uniq : ∀ {its : List It}, nodB (keysL its) = true → ∀ {i j : Nat} {a b : It} {k : Nat}, its[i]? = some a → its[j]? = some b → k ∈ a.keys → k ∈ b.keys → i = j
 | [], _, i, _, _, _, _, h, _, _, _ => by simp at h
 | it0 :: its, hn, i, j, a, b, k, hi, hj, hk, hk' => by
  obtain ⟨-, h2, h3⟩ := nodB_app (show nodB (it0.keys ++ keysL its) = true from hn)
  cases i with
  | zero =>
   cases j with
   | zero => rfl
   | succ j => simp at hi; subst hi; exact absurd (keysL_mem (by simpa using hj) hk') (h3 k hk)
  | succ i =>
   cases j with
   | zero => simp at hj; subst hj; exact absurd (keysL_mem (by simpa using hi) hk) (h3 k hk')
   | succ j =>
    have := keysL_uniq h2 (i := i) (j := j) (by simpa using hi) (by simpa using hj) hk hk'
    omega
theorem keysL_nod : ∀ {its : List It}, nodB (keysL its) = true → ∀ {i : Nat} {a : It}, its[i]? = some a → nodB a.keys = true
 | [], _, i, _, h => by simp at h
 | it0 :: its, hn, i, a, hi => by
  obtain ⟨h1, h2, -⟩ := nodB_app (show nodB (it0.keys ++ keysL its) = true from hn)
  cases i with
  | zero => simp at hi; subst hi; exact h1
  | succ i => exact keysL_nod h2 (by simpa using hi)
theorem itsOK_get {n0 N : Nat} {M : List (Nat × Nat)} : ∀ {its : List It} {j : Nat}, itsOK own n n0 N M j its → ∀ {i : Nat} {a : It}, its[i]? = some a → a.ok own n n0 N M (j + i)
 | [], _, _, i, _, h => by simp at h
 | it0 :: its, j, hn, i, a, hi => by
  cases i with
  | zero => simp at hi; subst hi; exact hn.1
  | succ i =>
   have := itsOK_get (j := j + 1) hn.2 (i := i) (by simpa using hi)
   rw [show j + 1 + i = j + (i + 1) by omega] at this
   exact this
theorem rootM_look : ∀ (its : List It) (j i : Nat), look i (rootM its j) = if j ≤ i then (its[i - j]?).map It.root else none
 | [], j, i => by simp [rootM, look]
 | it :: its, j, i => by
  rw [rootM, look_cons, rootM_look its (j + 1) i]
  by_cases h : i = j
  ·subst h; simp
  ·by_cases h2 : j ≤ i
   ·obtain ⟨d, rfl⟩ := Nat.exists_eq_add_of_le h2
    cases d with
    | zero => simp at h
    | succ d => rw [if_neg h, if_pos (by omega), if_pos h2, show j + (d + 1) - (j + 1) = d by omega, show j + (d + 1) - j = d + 1 by omega]; simp
   ·rw [if_neg h, if_neg h2, if_neg (by omega)]
theorem mem_keys {it : It} {k : Nat} {r : R} (h : look k it.O = some r) : ren it.m k ∈ it.keys := List.mem_map.2 ⟨(k, r), look_mem h, rfl⟩
theorem close_ok {roots : List Nat} {Q : G → List R → Prop} {its : List It} {g' : G} (hE : EndK roots own V.n g Q its g') (hH : Has I V own w) (hx : PRes I V g x) (s0 : Nat → Value) : ∃ V' : Va, V'.n = its.length ∧ Has I V' (objs (its.map It.res) 0) w ∧ PRes I V' g' x ∧ (∀ i b, V'.f i b → ∃ k r, look k own = some r ∧ V.f k b) ∧ (∀ (i k : Nat), roots[i]? = some k → V'.b i = V.b k ∧ i < its.length) ∧ ∀ i, i < roots.length → V'.s i = s0 i := by
 let V' : Va := ⟨its.length, fun i => V.b ((its[i]?).elim 0 It.root), fun i => if i < roots.length then s0 i else V.s ((its[i]?).elim 0 It.root), fun i b => ∃ it k r, its[i]? = some it ∧ look k it.O = some r ∧ V.f (ren it.m k) b⟩
 have own_of : ∀ {i : Nat} {it : It} {k : Nat} {r : R}, its[i]? = some it → look k it.O = some r → ∃ r', look (ren it.m k) own = some r' := fun {i it k r} hi hk => by
  have hok := itsOK_get hE.ok hi
  obtain ⟨O, m, c⟩ := it
  cases c with
  | true =>
   obtain ⟨-, -, h4⟩ := leI_get (show leI m own V.n O from hok.1) hk
   exact ⟨_, h4⟩
  | false =>
   obtain ⟨r0, e, h1, -⟩ := hok
   have e : O = [(0, r0)] := e
   subst e
   have hk : look k [(0, r0)] = some r := hk
   rw [look_cons] at hk
   split at hk
   ·next e => subst e; exact ⟨_, h1⟩
   ·cases hk
 have lk : ∀ {i : Nat} {r : R}, look i (objs (its.map It.res) 0) = some r → ∃ it, its[i]? = some it ∧ r = it.res := fun {i r} h => by
  rw [look_objs0, List.getElem?_map] at h
  obtain ⟨it, h1, h2⟩ := Option.map_eq_some_iff.1 h
  exact ⟨it, h1, h2.symm⟩
 have hb : ∀ {i : Nat} {it : It}, its[i]? = some it → V'.b i = V.b (ren it.m 0) := fun {i it} h => by
  show V.b ((its[i]?).elim 0 It.root) = _
  rw [h]; rfl
 have hs : ∀ {i : Nat} {it : It}, its[i]? = some it → roots.length ≤ i → V'.s i = V.s (ren it.m 0) := fun {i it} h hi => by
  show (if i < roots.length then s0 i else V.s ((its[i]?).elim 0 It.root)) = _
  rw [if_neg (by omega), h]; rfl
 have key : ∀ k, k < its.length → ∃ it, its[k]? = some it ∧ (look k (rootM its 0)).getD k = ren it.m 0 := fun k hk => by
  refine ⟨its[k], List.getElem?_eq_getElem hk, ?_⟩
  rw [rootM_look, if_pos (Nat.zero_le _), Nat.sub_zero, List.getElem?_eq_getElem hk]
  rfl
 refine ⟨V', rfl, ⟨hH.mem, fun i r h => ?_, fun i r h => ?_, fun i r b h hf => ?_, fun i j r r' b h h' hf hf' => ?_⟩, ?_, fun i b ⟨it, k, r, h1, h2, h3⟩ => (by obtain ⟨r', h4⟩ := own_of h1 h2; exact ⟨_, r', h4, h3⟩), fun i k hk => ?_, fun i hi => if_pos hi⟩
 ·obtain ⟨it, h1, -⟩ := lk h
  exact (List.getElem?_eq_some_iff.1 h1).1
 ·obtain ⟨it, h1, rfl⟩ := lk h
  have hok := itsOK_get hE.ok h1
  obtain ⟨O, m, c⟩ := it
  cases c with
  | true =>
   obtain ⟨h2, r0, h3⟩ := hok
   have h2 : leI m own V.n O := h2
   refine ⟨cl_loc O, V.ren m V.n, ?_, ⟨fun k r hk => (leI_get h2 hk).1, fun k r hk => rrep_ren (leI_get h2 hk).2.1 (hH.each _ _ (leI_get h2 hk).2.2), fun k r b hk hf => (hH.foot _ _ b (leI_get h2 hk).2.2 hf).1, fun k k' r r' b hk hk' hf hf' => ?_⟩, fun c => ?_⟩
   ·exact (hb h1).symm
   ·exact nod_inj (m := m) (l := O) (keysL_nod hE.nod h1) hk hk' (hH.disj _ _ _ _ b (leI_get h2 hk).2.2 (leI_get h2 hk').2.2 hf hf')
   ·constructor
    ·rintro ⟨it', k, r, e, hk, hf⟩
     rw [h1] at e
     cases e
     exact ⟨k, r, hk, hf⟩
    ·rintro ⟨k, r, hk, hf⟩
     exact ⟨_, k, r, h1, hk, hf⟩
  | false =>
   obtain ⟨r, e, hlk, hr⟩ := hok
   have e : O = [(0, r)] := e
   subst e
   simp only [Bool.and_eq_true] at hr
   obtain ⟨hr1, hr2, hr3⟩ := hr
   have hrr := hH.each _ _ hlk
   have hfe : V'.f i = V.f (ren m 0) := by
    funext b
    apply propext
    constructor
    ·rintro ⟨it', k, r', e, hk, hf⟩
     rw [h1] at e
     cases e
     have hk : look k [(0, r)] = some r' := hk
     rw [look_cons] at hk
     split at hk
     ·next e => subst e; exact hf
     ·cases hk
    ·exact fun hf => ⟨_, 0, r, h1, rfl, hf⟩
   have hbe := hb h1
   have hse := hs h1
   show RRep I V' i w r
   have hrr : RRep I V (ren m 0) w (renR (rootM its 0) r) := hrr
   cases r with
   | blk cs t =>
    obtain ⟨q1, us, q2, q3⟩ := hrr
    refine ⟨fun b => by rw [hfe, hbe]; exact q1 b, us, by rw [hbe]; exact q2, by simpa using q3.1, fun j g u hg hu => ?_⟩
    have hk := allB_mem (show allB (keyC its.length) cs = true from hr1) g (List.mem_of_getElem? hg)
    have hn := allB_mem (show allB (newS roots.length) cs = true from hr2) g (List.mem_of_getElem? hg)
    have h := q3.2 j _ u (by rw [List.getElem?_map, hg]; rfl) hu
    cases g with
    | ptr k o =>
     have hk := Nat.le_of_ble_eq_true hk
     obtain ⟨it, h3, h4⟩ := key k hk
     have h : CRep I V (.ptr ((look k (rootM its 0)).getD k) o) u := h
     rw [h4] at h
     exact ⟨hk, by rw [hb h3]; exact h.2⟩
    | mp k =>
     have hk := Nat.le_of_ble_eq_true hk
     obtain ⟨it, h3, h4⟩ := key k hk
     have h : CRep I V (.mp ((look k (rootM its 0)).getD k)) u := h
     rw [h4] at h
     exact ⟨hk, by rw [hb h3]; exact h.2⟩
    | osl k =>
     have hk := Nat.le_of_ble_eq_true hk
     obtain ⟨it, h3, h4⟩ := key k hk
     have h : CRep I V (.osl ((look k (rootM its 0)).getD k)) u := h
     rw [h4] at h
     exact ⟨hk, by rw [hs h3 (Nat.le_of_ble_eq_true hn)]; exact h.2⟩
    | osv k a b c =>
     have hk := Nat.le_of_ble_eq_true hk
     obtain ⟨it, h3, h4⟩ := key k hk
     have h : CRep I V (.osv ((look k (rootM its 0)).getD k) a b c) u := h
     rw [h4] at h
     exact ⟨hk, by rw [hs h3 (Nat.le_of_ble_eq_true hn)]; exact h.2⟩
    | _ => exact h
   | slc rows e sz =>
    have hge : roots.length ≤ 0 + i := Nat.le_of_ble_eq_true (by simpa using hr3)
    have hse := hse (by omega)
    exact ⟨fun b => by rw [hfe, hse]; exact hrr.1 b, by rw [hse]; exact hrr.2⟩
   | froz rows sz =>
    have hge : roots.length ≤ 0 + i := Nat.le_of_ble_eq_true (by simpa using hr3)
    have hse := hse (by omega)
    exact ⟨fun b => by rw [hfe]; exact hrr.1 b, by rw [hse]; exact hrr.2.1, hrr.2.2⟩
   | gone => exact fun b => by rw [hfe]; exact hrr b
   | mpI l => exact ⟨fun b => by rw [hfe, hbe]; exact hrr.1 b, by rw [hbe]; exact hrr.2⟩
   | mpS l => exact ⟨fun b => by rw [hfe, hbe]; exact hrr.1 b, by rw [hbe]; exact hrr.2⟩
   | sit s pos => exact ⟨fun b => by rw [hfe, hbe]; exact hrr.1 b, by rw [hbe]; exact hrr.2⟩
   | mpX l m ob => exact ⟨fun b => by rw [hfe, hbe]; exact hrr.1 b, by rw [hbe]; exact hrr.2⟩
   | mit j l D last m ob => exact ⟨fun b => by rw [hfe, hbe]; exact hrr.1 b, by rw [hbe]; exact hrr.2⟩
   | abs p => exact ⟨hrr.1, by rw [hfe, hbe]; exact hrr.2⟩
 ·obtain ⟨it, k, r', h1, h2, h3⟩ := hf
  obtain ⟨r2, h4⟩ := own_of h1 h2
  exact hH.foot _ _ b h4 h3
 ·obtain ⟨it, k, r1, h1, h2, h3⟩ := hf
  obtain ⟨it', k', r1', h1', h2', h3'⟩ := hf'
  obtain ⟨r2, h4⟩ := own_of h1 h2
  obtain ⟨r2', h4'⟩ := own_of h1' h2'
  have := hH.disj _ _ _ _ b h4 h4' h3 h3'
  exact keysL_uniq hE.nod h1 h1' (mem_keys h2) (this ▸ mem_keys h2')
 ·have hres := hE.res
  have hkey := hE.key
  simp only [Bool.and_eq_true] at hkey
  obtain ⟨⟨hkey, hrb⟩, hrn⟩ := hkey
  have one : ∀ g' x, key1 its.length g' = true → res1 g' = true → resN1 roots.length g' = true → PRe1 I V (ren1 (rootM its 0) g') x → PRe1 I V' g' x := fun g' x h1 h2 h5 h => by
   cases g' with
   | ptr k o =>
    have hk := Nat.le_of_ble_eq_true h1
    obtain ⟨it, h3, h4⟩ := key k hk
    have h : PRep I V (.ptr ((look k (rootM its 0)).getD k) o) x := h
    rw [h4] at h
    exact (show PRep I V' (.ptr k o) x from ⟨hk, by rw [hb h3]; exact h.2⟩)
   | mp k =>
    have hk := Nat.le_of_ble_eq_true h1
    obtain ⟨it, h3, h4⟩ := key k hk
    have h : PRep I V (.mp ((look k (rootM its 0)).getD k)) x := h
    rw [h4] at h
    exact (show PRep I V' (.mp k) x from ⟨hk, by rw [hb h3]; exact h.2⟩)
   | osl k =>
    have hk := Nat.le_of_ble_eq_true h1
    obtain ⟨it, h3, h4⟩ := key k hk
    have h : PRep I V (.osl ((look k (rootM its 0)).getD k)) x := h
    rw [h4] at h
    exact (show PRep I V' (.osl k) x from ⟨hk, by rw [hs h3 (Nat.le_of_ble_eq_true h5)]; exact h.2⟩)
   | osv k a b c => cases h2
   | oel k a b c => cases h2
   | clo f a c => cases h2
   | v z => exact h
   | tt => exact h
   | ff => exact h
   | un => exact h
   | nl => exact h
   | agg l => exact h
   | sl l => exact h
   | oag l =>
    obtain ⟨cs, e, hp⟩ := (show TRep1 I V (.oag (l.map (renC (rootM its 0)))) x from h)
    refine (show TRep1 I V' (.oag l) x from ⟨cs, e, by simpa using hp.1, fun j g u hg hu => ?_⟩)
    have hk := allB_mem (show allB (keyC its.length) l = true from h1) g (List.mem_of_getElem? hg)
    have hn := allB_mem (show allB (newS roots.length) l = true from h5) g (List.mem_of_getElem? hg)
    have h := hp.2 j _ u (by rw [List.getElem?_map, hg]; rfl) hu
    cases g with
    | ptr k o =>
     have hk := Nat.le_of_ble_eq_true hk
     obtain ⟨it, h3, h4⟩ := key k hk
     have h : CRep I V (.ptr ((look k (rootM its 0)).getD k) o) u := h
     rw [h4] at h
     exact ⟨hk, by rw [hb h3]; exact h.2⟩
    | mp k =>
     have hk := Nat.le_of_ble_eq_true hk
     obtain ⟨it, h3, h4⟩ := key k hk
     have h : CRep I V (.mp ((look k (rootM its 0)).getD k)) u := h
     rw [h4] at h
     exact ⟨hk, by rw [hb h3]; exact h.2⟩
    | osl k =>
     have hk := Nat.le_of_ble_eq_true hk
     obtain ⟨it, h3, h4⟩ := key k hk
     have h : CRep I V (.osl ((look k (rootM its 0)).getD k)) u := h
     rw [h4] at h
     exact ⟨hk, by rw [hs h3 (Nat.le_of_ble_eq_true hn)]; exact h.2⟩
    | osv k a b c =>
     have hk := Nat.le_of_ble_eq_true hk
     obtain ⟨it, h3, h4⟩ := key k hk
     have h : CRep I V (.osv ((look k (rootM its 0)).getD k) a b c) u := h
     rw [h4] at h
     exact ⟨hk, by rw [hs h3 (Nat.le_of_ble_eq_true hn)]; exact h.2⟩
    | _ => exact h
   | tup l => cases h1
   | elp l o => cases (show VRep I (.elp l o) x from h)
  rw [← hres] at hx
  cases g' with
  | tup l =>
   obtain ⟨cs, e, hp⟩ := hx
   exact ⟨cs, e, by simpa using hp.1, fun j g u hg hu => one g u (allB_mem (show allB (key1 its.length) l = true from hkey) g (List.mem_of_getElem? hg)) (allB_mem (show allB res1 l = true from hrb) g (List.mem_of_getElem? hg)) (allB_mem (show allB (resN1 roots.length) l = true from hrn) g (List.mem_of_getElem? hg)) (hp.2 j _ u (by rw [List.getElem?_map, hg]; rfl) hu)⟩
  | ptr k o => exact one (.ptr k o) x hkey hrb hrn hx
  | mp k => exact one (.mp k) x hkey hrb hrn hx
  | osl k => exact one (.osl k) x hkey hrb hrn hx
  | osv k a b c => cases hrb
  | oel k a b c => cases hrb
  | clo f a c => cases hrb
  | v z => exact hx
  | tt => exact hx
  | ff => exact hx
  | un => exact hx
  | nl => exact hx
  | agg l => exact hx
  | sl l => exact hx
  | oag l => exact one (.oag l) x hkey hrb hrn hx
  | elp l o => cases (show VRep I (.elp l o) x from hx)
 ·obtain ⟨l, hl⟩ := hE.rts
  have h1 : (its.map It.root)[i]? = some k := by rw [hl, List.getElem?_append_left (List.getElem?_eq_some_iff.1 hk).1]; exact hk
  rw [List.getElem?_map] at h1
  obtain ⟨it, h2, h3⟩ := Option.map_eq_some_iff.1 h1
  exact ⟨by rw [hb h2, ← h3]; rfl, (List.getElem?_eq_some_iff.1 h2).1⟩
theorem fno_of_sx (hT : ∀ t i, look t tb = some i → TIok P t i) (hm : P.follows .mixedOrders = true) {f : FuncId} {fn : Func} {c : Code} {gs gs0 : List G} {rs : List R} {roots : List Nat} {Q : G → List R → Prop} (hf : P.funcs[f]? = some fn) (hname : (fn.name == "runtime.NumGoroutine") = false) (hb : fn.body = some c) (hn : gs0.length ≤ fn.ntmps) (hc : codeB tb fn.ntmps c = true)
  (ho : Lent rs gs own0 n0 gs0 roots) (h : sxC P tb c (args0 0 gs0) own0 n0 (sxResO tb fn roots Q)) : FnO P f gs rs Q := by
 refine ⟨⟨fn, hf, hname, by rw [hb]; rfl⟩, fun I V w vs hH hVn hp => ?_⟩
 obtain ⟨V2, h2n, hH2, hp2, hF2, hroot⟩ := ho.run I V w vs hH hVn hp
 refine calls_of_wp hf hb ?_
 have hlen : vs.length = gs0.length := hp2.1.symm
 have ha : ARep fn.ntmps I V2 { tmps := vs.toArray ++ Array.replicate (fn.ntmps - vs.toArray.size) undef, defers := [] } (args0 0 gs0) := by
  refine ⟨rfl, by simp; omega, fun i g hg => ?_⟩
  obtain ⟨j, e, hj⟩ := args0_look hg
  obtain rfl : i = j := by omega
  obtain ⟨u, hu, hr⟩ := hp2.get hj
  refine ⟨u, ?_, hr⟩
  have hi := (List.getElem?_eq_some_iff.1 hu).1
  show (vs.toArray ++ _)[i]? = _
  rw [Array.getElem?_append_left (by simpa using hi)]
  simpa using hu
 rw [← h2n] at h
 refine sxC_ok (own0 := own0) (I0 := I) (V0 := V2) (w0 := w) hT hm (V := V2) h ⟨hH2, .refl _ _ _ _, Nat.le_refl _, fun _ _ => rfl⟩ ha hc (fun ch d v a w hq => ?_) fun e t own I1 V1 a w1 hk hS hA => ?_
 ·cases d <;> exact hq
 ·have key : (∀ id, e ≠ .exit id) → bodyPost P fn (fun e w' => ∃ x g rs' I' V', e = .returned x ∧ Q g rs' ∧ V'.n = rs'.length ∧ Has I' V' (objs rs' 0) w' ∧ PRes I' V' g x ∧ Fro (objs rs 0) I V w (objs rs' 0) I' V' w' ∧ V.le V') .ret a w1 := fun he => by
   refine ⟨hA.defers, ?_⟩
   have hk : match fn.results.toList with
     | [r] => resLO tb t own [r] fun gs own => match gs with
      | [g] => ∃ its g', EndK roots own V1.n g Q its g'
      | _ => False
     | rs => resLO tb t own rs fun gs own => ∃ its g', EndK roots own V1.n (.tup gs) Q its g' := by
    cases e with
    | exit id => exact absurd rfl (he id)
    | goto l => exact hk.elim
    | normal => exact hk
    | ret => exact hk
   have fin : ∀ {own' I' V' g x}, V'.n = V1.n → Later own I1 V1 w1 own' I' V' w1 → PRes I' V' g x → (∃ its g', EndK roots own' V1.n g Q its g') → ∃ x' g rs' I' V', Ending.returned x = .returned x' ∧ Q g rs' ∧ V'.n = rs'.length ∧ Has I' V' (objs rs' 0) w1 ∧ PRes I' V' g x' ∧ Fro (objs rs 0) I V w (objs rs' 0) I' V' w1 ∧ V.le V' := fun {own' I' V' g x} hn hl hx ⟨its, g', hE⟩ => by
    rw [← hn] at hE
    obtain ⟨V4, k1, k2, k3, k4, k5, k6⟩ := close_ok hE hl.has hx V.s
    have hfro := (hF2.trans hS.fro).trans hl.fro
    refine ⟨x, g', its.map It.res, I', V4, rfl, hE.post, by simpa using k1, k2, k3, ⟨hfro.os, hfro.tape, hfro.output, hfro.size, hfro.blk, hfro.mono, fun i r b hi hb hlt => ?_⟩, ?_, fun i hi => ⟨?_, k6 i (by rw [ho.len]; omega)⟩⟩
    ·obtain ⟨k, r', h1, h2⟩ := k4 i b hb
     exact hfro.foot k r' b h1 h2 hlt
    ·rw [k1, hVn, ← ho.len]
     obtain ⟨l, hl⟩ := hE.rts
     have := congrArg List.length hl
     simp at this
     omega
    ·have hi' : i < roots.length := by rw [ho.len]; omega
     have hr := List.getElem?_eq_getElem hi'
     obtain ⟨h1, h2⟩ := hroot i _ hr
     rw [(k5 i _ hr).1, (hl.va.2 _ (Nat.lt_of_lt_of_le (by omega) hS.n)).1, hS.bb _ (by omega), h1]
   split at hk
   ·next r hr =>
    obtain ⟨gs, o2, I2, V2', vs, k1, kn, k2, k3, k4, k5⟩ := resLO_ok hT hk hS.has hA
    rw [← hr] at k4 k5
    refine ⟨_, run_results k4 k5, ?_⟩
    cases gs with
    | nil => exact k1.elim
    | cons g gs =>
     cases gs with
     | cons g' gs => exact k1.elim
     | nil =>
      obtain ⟨v, vs', rfl, hv, hn⟩ := k3.uncons
      obtain rfl := hn.of_nil
      refine fin kn k2 ?_ k1
      cases g with
      | tup l => cases (show VRep I2 (.tup l) v from hv)
      | oag l => cases (show VRep I2 (.oag l) v from hv)
      | _ => exact hv
   ·next rs' hr =>
    obtain ⟨gs, o2, I2, V2', vs, k1, kn, k2, k3, k4, k5⟩ := resLO_ok hT hk hS.has hA
    refine ⟨_, run_results k4 k5, ?_⟩
    have hv1 : ∀ v, vs ≠ [v] := fun v e => by
     rw [e] at k4
     cases hq : fn.results.toList with
     | nil => rw [hq] at k4; simp at k4
     | cons r l =>
      cases l with
      | nil => exact hr r hq
      | cons r' l => rw [hq] at k4; simp at k4
    have e : packV vs = .tuple vs.toArray := by
     unfold packV
     split
     ·next v => exact absurd rfl (hv1 v)
     ·rfl
    rw [e]
    exact fin (g := .tup gs) kn k2 ⟨vs, rfl, k3.mono fun _ _ h => .of_p h⟩ k1
  cases e with
  | normal => exact key fun id h => by cases h
  | exit id => exact hk.elim
  | goto l => exact hk.elim
  | ret => exact key fun id h => by cases h
theorem allB_imp {α : Type} {p q : α → Bool} (hpq : ∀ x, p x = true → q x = true) : ∀ {l : List α}, allB p l = true → allB q l = true
 | [], _ => rfl
 | x :: l, h => by
  unfold allB at h ⊢
  cases hp : p x with
  | false => rw [hp] at h; cases h
  | true =>
   rw [hp] at h
   rw [hpq x hp]
   exact allB_imp hpq h
theorem noKey_key {n : Nat} (g : G) (h : noKey g = true) : keyC n g = true := by cases g <;> first | rfl | cases h
theorem noKey1_key {n : Nat} (g : G) (h : noKey1 g = true) : key1 n g = true := by
 cases g with
 | oag l => exact allB_imp noKey_key (show allB noKey l = true from h)
 | clo f a c => cases h
 | tup l => cases h
 | ptr k o => cases h
 | osl k => cases h
 | osv k a b c => cases h
 | oel k a b c => cases h
 | mp k => cases h
 | _ => rfl
theorem noKeyB_key {n : Nat} (g : G) (h : noKeyB g = true) : keyB n g = true := by
 cases g with
 | tup l => exact allB_imp noKey1_key (show allB noKey1 l = true from h)
 | oag l => exact noKey1_key (.oag l) h
 | clo f a c => cases h
 | ptr k o => cases h
 | osl k => cases h
 | osv k a b c => cases h
 | oel k a b c => cases h
 | mp k => cases h
 | _ => rfl
theorem noKey1_N {n : Nat} {g : G} (h : noKey1 g = true) : resN1 n g = true := by
 cases g with
 | oag l => exact allB_imp (fun g h => by cases g <;> first | rfl | cases h) (show allB noKey l = true from h)
 | osl k => cases h
 | _ => rfl
theorem noKeyB_N {n : Nat} {g : G} (h : noKeyB g = true) : resN n g = true := by
 cases g with
 | tup l => exact allB_imp (fun g h => noKey1_N h) (show allB noKey1 l = true from h)
 | oag l => exact noKey1_N (g := .oag l) h
 | osl k => cases h
 | _ => rfl
theorem lent1 (r : R) (gs : List G) : Lent [r] gs [(0, r)] 1 gs [0] := lent_id [r] gs
theorem lent0 (gs : List G) : Lent [] gs [] 0 gs [] := lent_id [] gs
theorem lent_cl0 {O : Os} {n0 : Nat} {gs : List G} (hk : (keysB n0 O && allB noKeyR [] && allB argB gs && (look 0 O).isSome) = true) : Lent [.abs (cl O)] gs O n0 gs [0] :=
 lent_cl hk (by simp [objs]) (by show gs.map (renG []) = gs; rw [funext renG_nil]; simp) rfl
def itL : List (Nat × R) → List It
 | [] => []
 | (k, r) :: l => ⟨[(0, r)], [(0, k)], false⟩ :: itL l
theorem end_abs {Q : G → List R → Prop} {p : Ob} (h0 : look 0 own = some (.abs p)) (hg : (noKeyB g && resB g) = true) (hq : Q g [.abs p]) : ∃ its g', EndK [0] own n g Q its g' := by
 simp only [Bool.and_eq_true] at hg
 exact ⟨[⟨[(0, .abs p)], [], false⟩], g, ⟨⟨⟨_, rfl, h0, rfl⟩, trivial⟩, rfl, ⟨[], rfl⟩, noKeyB_ren hg.1, by rw [noKeyB_key g hg.1, hg.2, noKeyB_N hg.1]; rfl, hq⟩⟩
theorem end_none {Q : G → List R → Prop} (hg : (noKeyB g && resB g) = true) (hq : Q g []) : ∃ its g', EndK [] own n g Q its g' := by
 simp only [Bool.and_eq_true] at hg
 exact ⟨[], g, ⟨trivial, rfl, ⟨[], rfl⟩, noKeyB_ren hg.1, by rw [noKeyB_key g hg.1, hg.2, noKeyB_N hg.1]; rfl, hq⟩⟩
theorem end_cl {Q : G → List R → Prop} (O : Os) (m : List (Nat × Nat)) (hl : leI m own n O) (h0 : (look 0 m).getD 0 = 0) (hO : ∃ r, look 0 O = some r) (hd : nodB (O.map fun p => (look p.1 m).getD p.1) = true) (hg : (noKeyB g && resB g) = true) (hq : Q g [.abs (cl O)]) : ∃ its g', EndK [0] own n g Q its g' := by
 simp only [Bool.and_eq_true] at hg
 refine ⟨[⟨O, m, true⟩], g, ⟨⟨⟨hl, hO⟩, trivial⟩, ?_, ⟨[], ?_⟩, noKeyB_ren hg.1, by rw [noKeyB_key g hg.1, hg.2, noKeyB_N hg.1]; rfl, hq⟩⟩
 ·show nodB (O.map (fun p => (look p.1 m).getD p.1) ++ []) = true
  rw [List.append_nil]; exact hd
 ·show [(look 0 m).getD 0] = [0] ++ []
  rw [h0]; rfl
end
end Go.Proofs.YtalfffamppmooaaGreatDoor


import Derived.Test.YtihfaocdpmmooaaGreatSxMa
import Derived.OrdersHeld
import Derived.Deep.RegionHeld
import Derived.Test.YtihfaocdpmmooaaGreatSxMb
import Derived.Deep.LoopGhost
import Derived.ScopeJumps
namespace Go.Proofs.YtihfaocdpmmooaaGreat
open Go.RowKit
section
variable {P:Program} {md:Region.Mode} {ops:Array Oper} {Q:Exit→Act→World→Prop} {S:World→Prop} {late:List Nat}
def Q9 (md:Region.Mode)(ops:Array Oper):Nat→Nat→Nat→Bool
 | 0,_,_=>false
 | n+1,j,i=>match ops[j]? with
  | some o=>o.after.toList.any fun e=>Region.binds md e&&(e.on==i||Q9 md ops n e.on i)
  | none=>false
def F4 (md:Region.Mode)(ops:Array Oper)(listed:Array Bool):Prop:=∀j o,ops[j]?=some o→listed.getD j false=true→∀e∈o.after,Region.binds md e=true→listed.getD e.on false=true
theorem Ka {listed:Array Bool}(hc:F4 md ops listed){i:Nat}:∀(n j:Nat),(∀o,ops[j]?=some o→∀e∈o.after,Region.binds md e=true→listed.getD e.on false=true)→Q9 md ops n j i=true→listed.getD i false=true
 | 0,_,_,h=>by cases h
 | n+1,j,hj,h=>by
  unfold Q9 at h
  cases ho:ops[j]? with
  | none=>rw[ho] at h;cases h
  | some o =>
   rw[ho] at h
   obtain⟨e,he,hb⟩:=List.any_eq_true.1 h
   rw[aq,Bool.or_eq_true] at hb
   have he':e∈o.after:=by simpa using he
   have hl:=hj o ho e he' hb.1
   rcases hb.2 with h1 | h1
   ·have:e.on=i:=by simpa using h1
    rw[←this];exact hl
   ·exact Ka hc n e.on (fun o' ho'=>hc e.on o' ho' hl) h1
theorem D9 {listed:Array Bool}(hc:F4 md ops listed){i:Nat}(hr:i∈Region.ready md ops listed):F4 md ops (listed.setIfInBounds i true):=fun j o ho hj e he hb=>by
 by_cases hji:i=j
 ·subst hji
  obtain⟨_,o',ho',hall⟩:=mem_ready.1 hr
  rw[ho] at ho'
  injection ho' with ho'
  subst ho'
  exact getD_set_true (hall e he hb)
 ·rw[getD_set_ne false hji] at hj
  exact getD_set_true (hc j o ho hj e he hb)
theorem Kj (n:Nat)(hn:n=ops.size):F4 md ops (Array.replicate n false):=fun j o ho hj=>by
 have hlt:j < ops.size:=(bo.1 ho).1
 subst hn
 simp[hlt] at hj
def Z18 (P:Program)(md:Region.Mode)(ops:Array Oper)(Q:Exit→Act→World→Prop)(S:World→Prop)(late:List Nat):Nat→Array Bool→Act→World→Prop
 | 0,listed,a,w=>Region.ready md ops listed=[]∧Q .normal a w
 | fuel+1,listed,a,w =>
  (Region.ready md ops listed=[]→Q .normal a w) ∧
  ∀i∈Region.ready md ops listed,wpOp P ops Q i (fun a' w'=>(i ∉ late→S w')∧(F4 md ops (listed.setIfInBounds i true)→Z18 P md ops Q S late fuel (listed.setIfInBounds i true) a' w')) a w
def Zcv (md:Region.Mode)(ops:Array Oper)(late:List Nat)(i:Nat):Bool:=late.all fun j=>Q9 md ops ops.size j i
def AllL (P:Program)(md:Region.Mode)(ops:Array Oper)(Q:Exit→Act→World→Prop)(S:World→Prop)(late:List Nat)(fuel:Nat)(listed:Array Bool)(a:Act)(w:World)(rs:List Nat):Prop :=
 ∀i∈rs,wpOp P ops Q i (fun a' w'=>(i ∉ late→S w')∧(F4 md ops (listed.setIfInBounds i true)→Z18 P md ops Q S late fuel (listed.setIfInBounds i true) a' w')) a w
theorem AllL.nil {fuel:Nat}{listed:Array Bool}{a:Act}{w:World}:AllL P md ops Q S late fuel listed a w []:=fun _ h=>by cases h
theorem AllL.cons {fuel:Nat}{listed:Array Bool}{a:Act}{w:World}{i:Nat}{oi:Oper}{rs:List Nat}(hi:ops[i]?=some oi)
  (h:∀K:Act→World→Prop,Shut (∀a w,(i ∉ late→S w)→((i ∉ late→S w)→F4 md ops (listed.setIfInBounds i true)→Z18 P md ops Q S late fuel (listed.setIfInBounds i true) a w)→K a w)→if Region.wanted oi (yielded ops a.tmps)=true then oi.wp P a w K Q else K (a.put oi.dst undef) w)
  (hs:AllL P md ops Q S late fuel listed a w rs):AllL P md ops Q S late fuel listed a w (i::rs):=fun j hj=>by
 rcases bh.1 hj with rfl | hj
 ·exact wpOp_step hi (fun K hK=>h K (fun a w hS hW=>hK a w ⟨hS,hW hS⟩))
 ·exact hs j hj
end
section
variable {P:Program} {ops:Array Oper} {Q:Exit→Act→World→Prop} {w0 w:World} {L:List (Nat × List Value × TypeId)} {U:List (World × List Nat)} {a:Act} {o:Oper} {ty t:TypeId} {i g k:Nat} {row:List Value} {v:Value}
theorem Env.sub {U':List (World × List Nat)}(h:Env w0 w L U)(hU:∀q∈U',q∈U):Env w0 w L U':=⟨h.blw,h.own,h.sep,fun q hq=>h.sn q (hU q hq)⟩
theorem Ie (hg:o.guard=none):Region.wanted o (yielded ops a.tmps)=true:=by unfold Region.wanted;rw[hg]
theorem Zb3 {S:World→Prop}(hw:Region.wanted o (yielded ops a.tmps)=false):YieldsIf P ops S o undef a:=.inr ⟨hw,rfl⟩
theorem Z8q {S:World→Prop}(hw:Region.wanted o (yielded ops a.tmps)=true)(hr:∀w,S w→(execOp a.eval o).run P w=.ok (.value v) w):YieldsIf P ops S o v a:=.inl ⟨hw,hr⟩
end
section
variable {P:Program} {ops:Array Oper} {w0 w:World} {L:List (Nat × List Value × TypeId)} {U:List (World × List Nat)} {a:Act} {o:Oper} {α:Type} {sz:Nat} {f:α→List Value} {l:List α}
end
section
variable {P:Program} {md:Region.Mode} {ops:Array Oper} {Q:Exit→Act→World→Prop} {S:World→Prop} {late:List Nat}
def Zco (S:World→Prop):Prop:=∀w u,S w→Below w.heap.size w u→S u
def wpAnyG (P:Program)(md:Region.Mode)(ops:Array Oper)(Q:Exit→Act→World→Prop)(late:List Nat):Nat→(World→Prop)→Array Bool→Act→World→Prop
 | 0,_,listed,a,w=>∀u,Below w.heap.size w u→Region.ready md ops listed=[]∧Q .normal a u
 | fuel+1,S,listed,a,w=>∀u,Below w.heap.size w u →
  (Region.ready md ops listed=[]→Q .normal a u) ∧
  ∀i∈Region.ready md ops listed,wpOp P ops Q i (fun a' w'=>∃S':World→Prop,(i ∉ late→∀u,S' u→S u)∧S' w'∧Zco S'∧(F4 md ops (listed.setIfInBounds i true)→wpAnyG P md ops Q late fuel S' (listed.setIfInBounds i true) a' w')) a u
theorem Nb:∀(fuel:Nat) (S:World→Prop) (listed:Array Bool) (a:Act) (w:World),F4 md ops listed→wpAnyG P md ops Q late fuel S listed a w→wpAny P md ops Q fuel listed a w
 | 0,_,_,_,_,_,h=>h _ (.refl _ _)
 | fuel+1,_,_,_,_,hc,h=>have h:=h _ (.refl _ _);⟨h.1,fun i hi=>wpOp_mono (fun a' w' ⟨S',_,_,_,h'⟩=>Nb fuel S' _ a' w' (D9 hc hi) (h' (D9 hc hi))) (h.2 i hi)⟩
theorem wpAnyG.grow {fuel:Nat}{S:World→Prop}{listed:Array Bool}{a:Act}{w u:World}(h:wpAnyG P md ops Q late fuel S listed a w)(hb:Below w.heap.size w u):wpAnyG P md ops Q late fuel S listed a u:=by
 cases fuel with
 | zero=>exact fun v hv=>h v (hb.trans (hv.mono hb.size))
 | succ n=>exact fun v hv=>h v (hb.trans (hv.mono hb.size))
theorem YieldsIf.sub {o:Oper}{v:Value}{a:Act}{S':World→Prop}(h:YieldsIf P ops S o v a)(hs:∀u,S' u→S u):YieldsIf P ops S' o v a :=
 h.imp (fun h=>⟨h.1,fun u hu=>h.2 u (hs u hu)⟩) id
theorem Pz {i N:Nat}{oi:Oper}{v:Value}(hi:ops[i]?=some oi)(hsel:∀(j:Nat) (o:Oper) cs b,ops[j]?=some o→o.op≠.select cs b)
  (hQ:∀c a w,Q (.panic c) (a.put oi.dst v) w→Q (.panic c) a w) (hlate:∀j∈late,Q9 md ops N j i=true) :
  ∀(fuel:Nat) (S:World→Prop) (listed:Array Bool) (a:Act) (w:World),F4 md ops listed →
   (∀j oj,ops[j]?=some oj→j≠i→listed.getD j true=false→(∀e∈oj.after,Region.binds md e=true→e.on≠i)→oi.apart ops oj=true) →
   i∈Region.ready md ops listed→YieldsIf P ops S oi v a→S w→Zco S →
   wpAnyG P md ops Q late fuel S (listed.setIfInBounds i true) (a.put oi.dst v) w→wpAnyG P md ops Q late (fuel+1) S listed a w:=by
 intro fuel
 induction fuel with
 | zero =>
  intro S listed a w hc _ hr hy hS hG H u hu
  refine⟨fun h=>(by rw[h] at hr;cases hr),fun j hj=>?_⟩
  by_cases hji:j=i
  ·subst hji;exact hy.wpOp hi (hG _ _ hS hu) ⟨S,fun _ _ h=>h,hG _ _ hS hu,hG,fun _=>H.grow hu⟩
  ·have:=ready_mono hj hji
   rw[(H u hu).1] at this
   cases this
 | succ fuel ih =>
  intro S listed a w hc hfree hr hy hS hG H u hu
  refine⟨fun h=>(by rw[h] at hr;cases hr),fun j hj=>?_⟩
  by_cases hji:j=i
  ·subst hji;exact hy.wpOp hi (hG _ _ hS hu) ⟨S,fun _ _ h=>h,hG _ _ hS hu,hG,fun _=>H.grow hu⟩
  ·have h1:=(H u hu).2 j (ready_mono hj hji)
   obtain⟨hjun,oj,hoj,hall⟩:=mem_ready.1 hj
   have hiun:=(mem_ready.1 hr).1
   have hcon:∀{b:Bool},listed.getD i b=true→b=false→False:=fun hb hb0=>by
    subst hb0
    rcases Nat.lt_or_ge i listed.size with h' | h'
    ·simp[h'] at hiun hb;rw[hiun] at hb;cases hb
    ·simp[Array.getElem?_eq_none h'] at hb
   have hjl:j ∉ late:=fun hm=>hcon (Ka hc N j (fun o ho=>by
    rw[hoj] at ho
    injection ho with ho
    subst ho
    exact hall) (hlate j hm)) rfl
   have hnot:∀e∈oj.after,Region.binds md e=true→e.on≠i:=fun e he hb heq=>by
    have h1:=hall e he hb
    rw[heq] at h1
    exact hcon h1 rfl
   have h2:=wpOp_putIf hoj (hfree j oj hoj hji hjun hnot) (fun cs b=>hsel i oi cs b hi) (fun cs b=>hsel j oj cs b hoj) hQ hy h1
   have hfree':∀k ok,ops[k]?=some ok→k≠i→(listed.setIfInBounds j true).getD k true=false →
     (∀e∈ok.after,Region.binds md e=true→e.on≠i)→oi.apart ops ok=true:=fun k ok hk hki hun hno=>by
    refine hfree k ok hk hki ?_ hno
    by_cases hjk:j=k
    ·subst hjk;exact hjun
    ·rw[getD_set_ne true hjk] at hun;exact hun
   refine wpOp_mono (fun a' w' h3=>?_) h2
   obtain⟨hy3,S',hs1,hs2,hs3,h3⟩:=h3
   refine⟨S',hs1,hs2,hs3,fun hcj=>ih S' (listed.setIfInBounds j true) a' w' hcj hfree' (ready_mono hr (Ne.symm hji)) (YieldsIf.sub (S:=S) hy3 (hs1 hjl)) hs2 hs3 ?_⟩
   rw[Array.setIfInBounds_comm _ _ hji]
   exact h3 (by rw[Array.setIfInBounds_comm _ _ (Ne.symm hji)];exact D9 hcj (ready_mono hr (Ne.symm hji)))
theorem Od {i:Nat}{oi:Oper}{v:Value}(hi:ops[i]?=some oi)(hsel:∀(j:Nat) (o:Oper) cs b,ops[j]?=some o→o.op≠.select cs b)
  (hQ:∀c a w,Q (.panic c) (a.put oi.dst v) w→Q (.panic c) a w) :
  ∀(fuel:Nat) (S:World→Prop) (listed:Array Bool) (a:Act) (w:World),F4 md ops listed →
   (∀j oj,ops[j]?=some oj→j≠i→listed.getD j true=false→(∀e∈oj.after,Region.binds md e=true→e.on≠i)→oi.apart ops oj=true) →
   i∈Region.ready md ops listed→YieldsIf P ops (fun _=>True) oi v a→S w→Zco S →
   wpAnyG P md ops Q late fuel S (listed.setIfInBounds i true) (a.put oi.dst v) w→wpAnyG P md ops Q late (fuel+1) S listed a w:=by
 intro fuel
 induction fuel with
 | zero =>
  intro S listed a w hc _ hr hy hS hG H u hu
  refine⟨fun h=>(by rw[h] at hr;cases hr),fun j hj=>?_⟩
  by_cases hji:j=i
  ·subst hji;exact hy.wpOp hi trivial ⟨S,fun _ _ h=>h,hG _ _ hS hu,hG,fun _=>H.grow hu⟩
  ·have:=ready_mono hj hji
   rw[(H u hu).1] at this
   cases this
 | succ fuel ih =>
  intro S listed a w hc hfree hr hy hS hG H u hu
  refine⟨fun h=>(by rw[h] at hr;cases hr),fun j hj=>?_⟩
  by_cases hji:j=i
  ·subst hji;exact hy.wpOp hi trivial ⟨S,fun _ _ h=>h,hG _ _ hS hu,hG,fun _=>H.grow hu⟩
  ·have h1:=(H u hu).2 j (ready_mono hj hji)
   obtain⟨hjun,oj,hoj,hall⟩:=mem_ready.1 hj
   have hiun:=(mem_ready.1 hr).1
   have hnot:∀e∈oj.after,Region.binds md e=true→e.on≠i:=fun e he hb heq=>by
    have h1:=hall e he hb
    rw[heq] at h1
    rcases Nat.lt_or_ge i listed.size with h' | h'
    ·simp[h'] at hiun h1;rw[hiun] at h1;cases h1
    ·simp[Array.getElem?_eq_none h'] at h1
   have h2:=wpOp_putIf hoj (hfree j oj hoj hji hjun hnot) (fun cs b=>hsel i oi cs b hi) (fun cs b=>hsel j oj cs b hoj) hQ hy h1
   have hfree':∀k ok,ops[k]?=some ok→k≠i→(listed.setIfInBounds j true).getD k true=false →
     (∀e∈ok.after,Region.binds md e=true→e.on≠i)→oi.apart ops ok=true:=fun k ok hk hki hun hno=>by
    refine hfree k ok hk hki ?_ hno
    by_cases hjk:j=k
    ·subst hjk;exact hjun
    ·rw[getD_set_ne true hjk] at hun;exact hun
   refine wpOp_mono (fun a' w' h3=>?_) h2
   obtain⟨hy3,S',hs1,hs2,hs3,h3⟩:=h3
   refine⟨S',hs1,hs2,hs3,fun hcj=>ih S' (listed.setIfInBounds j true) a' w' hcj hfree' (ready_mono hr (Ne.symm hji)) hy3 hs2 hs3 ?_⟩
   rw[Array.setIfInBounds_comm _ _ hji]
   exact h3 (by rw[Array.setIfInBounds_comm _ _ (Ne.symm hji)];exact D9 hcj (ready_mono hr (Ne.symm hji)))
def CallsTo (P:Program)(ops:Array Oper)(o:Oper)(v:Value)(a:Act):Prop :=
 Region.wanted o (yielded ops a.tmps)=true∧∃f vs,(∀w,(execOp a.eval o).run P w=.ok (.enter f vs) w)∧∀w,Calls P f vs w fun e w'=>e=.returned v∧Below w.heap.size w w'
theorem CallsTo.wpOp {i:Nat}{o:Oper}{v:Value}{a:Act}(hi:ops[i]?=some o)(hy:CallsTo P ops o v a){K:Act→World→Prop}{w:World}(h:∀w',Below w.heap.size w w'→K (a.put o.dst v) w'):wpOp P ops Q i K a w:=by
 obtain⟨hw,f,vs,h1,h2⟩:=hy
 unfold Go.wpOp
 simp only[hi,hw,if_true]
 refine .inl ?_
 unfold Oper.wp
 rw[h1 w,Oper.upon_enter]
 refine(h2 w).mono fun e w' ⟨he,hb⟩=>?_
 subst he
 exact h w' hb
theorem CallsTo.of_same {o:Oper}{v:Value}{a a':Act}(hy:CallsTo P ops o v a)(he:execOp a'.eval o=execOp a.eval o)(hw:Region.wanted o (yielded ops a'.tmps)=Region.wanted o (yielded ops a.tmps)):CallsTo P ops o v a':=by
 unfold CallsTo at *
 rw[he,hw]
 exact hy
theorem Zo {j:Nat}{oi oj:Oper}{v:Value}(hj:ops[j]?=some oj)(hap:oi.apart ops oj=true)(hsi:∀cs b,oi.op≠.select cs b)(hsj:∀cs b,oj.op≠.select cs b)
  (hQ:∀c a w,Q (.panic c) (a.put oi.dst v) w→Q (.panic c) a w) {K:Act→World→Prop} {a:Act} {w:World} (hy:CallsTo P ops oi v a) (h:wpOp P ops Q j K (a.put oi.dst v) w):wpOp P ops Q j (fun a' w'=>CallsTo P ops oi v a'∧K (a'.put oi.dst v) w') a w:=by
 obtain⟨p1,p2,p3⟩:=Oper.apart_spec hap
 have stay:∀{b:Act},CallsTo P ops oi v b→∀u,CallsTo P ops oi v (b.put oj.dst u):=fun {b} hb u=>hb.of_same (execOp_put oi hsi b oj.dst u p3) (wanted_put oi b oj.dst u p3)
 have comm:∀(b:Act) (u:Value),(b.put oi.dst v).put oj.dst u=(b.put oj.dst u).put oi.dst v:=fun b u=>Act.put_comm b v u p2
 unfold Go.wpOp at h⊢
 simp only[hj] at h⊢
 rw[wanted_put oj a oi.dst v p1] at h
 cases hw:Region.wanted oj (yielded ops a.tmps) with
 | false =>
  rw[hw] at h
  have h:K ((a.put oi.dst v).put oj.dst undef) w:=h
  rw[comm] at h
  exact⟨stay hy _,h⟩
 | true =>
  rw[hw] at h
  have h:(oj.wp P (a.put oi.dst v) w K Q∨(oj.asks P (a.put oi.dst v) w∧LetsOut Q)):=h
  show(oj.wp P a w _ Q∨(oj.asks P a w∧LetsOut Q))
  rcases h with h | ⟨h,hl⟩
  ·refine .inl ?_
   unfold Oper.wp at h⊢
   rw[execOp_put oj hsj a oi.dst v p1] at h
   generalize (execOp a.eval oj).run P w=res at h⊢
   cases res with
   | ok nx w' =>
    cases nx<;>simp only[Oper.upon] at h⊢
    case value u=>rw[comm] at h;exact⟨stay hy u,h⟩
    case skip=>rw[comm] at h;exact⟨stay hy _,h⟩
    case defer d =>
     have e:=comm {a with defers:=d::a.defers} undef
     refine⟨stay (b:={a with defers:=d::a.defers}) (hy.of_same rfl rfl) _,?_⟩
     rw[←e,←Act.put_defers]
     exact h
    case enter f vs =>
     refine Calls.mono h fun e w'' he=>?_
     cases e with
     | returned u=>have he:K ((a.put oi.dst v).put oj.dst u) w'':=he;rw[comm] at he;exact⟨stay hy u,he⟩
     | panicked c=>exact hQ _ _ _ he
     | outgrown=>exact he
    case row row vs=>exact Rows.mono h fun u w'' he=>by rw[comm] at he;exact⟨stay hy u,he⟩
   | halt x w' =>
    cases x<;>simp only[Oper.upon] at h⊢
    case panic u=>exact hQ _ _ _ h
  ·refine .inr ⟨?_,hl⟩
   unfold Oper.asks at h⊢
   rw[execOp_put oj hsj a oi.dst v p1] at h
   exact h
theorem Ow {i:Nat}{oi:Oper}{v:Value}(hi:ops[i]?=some oi)(hsel:∀(j:Nat) (o:Oper) cs b,ops[j]?=some o→o.op≠.select cs b)
  (hQ:∀c a w,Q (.panic c) (a.put oi.dst v) w→Q (.panic c) a w) :
  ∀(fuel:Nat) (S:World→Prop) (listed:Array Bool) (a:Act) (w:World),F4 md ops listed →
   (∀j oj,ops[j]?=some oj→j≠i→listed.getD j true=false→(∀e∈oj.after,Region.binds md e=true→e.on≠i)→oi.apart ops oj=true) →
   i∈Region.ready md ops listed→CallsTo P ops oi v a→S w→Zco S →
   wpAnyG P md ops Q late fuel S (listed.setIfInBounds i true) (a.put oi.dst v) w→wpAnyG P md ops Q late (fuel+1) S listed a w:=by
 intro fuel
 induction fuel with
 | zero =>
  intro S listed a w hc _ hr hy hS hG H u hu
  refine⟨fun h=>(by rw[h] at hr;cases hr),fun j hj=>?_⟩
  by_cases hji:j=i
  ·subst hji;exact hy.wpOp hi fun w' hb=>⟨S,fun _ _ h=>h,hG _ _ (hG _ _ hS hu) hb,hG,fun _=>(H.grow hu).grow hb⟩
  ·have:=ready_mono hj hji
   rw[(H u hu).1] at this
   cases this
 | succ fuel ih =>
  intro S listed a w hc hfree hr hy hS hG H u hu
  refine⟨fun h=>(by rw[h] at hr;cases hr),fun j hj=>?_⟩
  by_cases hji:j=i
  ·subst hji;exact hy.wpOp hi fun w' hb=>⟨S,fun _ _ h=>h,hG _ _ (hG _ _ hS hu) hb,hG,fun _=>(H.grow hu).grow hb⟩
  ·have h1:=(H u hu).2 j (ready_mono hj hji)
   obtain⟨hjun,oj,hoj,hall⟩:=mem_ready.1 hj
   have hiun:=(mem_ready.1 hr).1
   have hnot:∀e∈oj.after,Region.binds md e=true→e.on≠i:=fun e he hb heq=>by
    have h1:=hall e he hb
    rw[heq] at h1
    rcases Nat.lt_or_ge i listed.size with h' | h'
    ·simp[h'] at hiun h1;rw[hiun] at h1;cases h1
    ·simp[Array.getElem?_eq_none h'] at h1
   have h2:=Zo hoj (hfree j oj hoj hji hjun hnot) (fun cs b=>hsel i oi cs b hi) (fun cs b=>hsel j oj cs b hoj) hQ hy h1
   have hfree':∀k ok,ops[k]?=some ok→k≠i→(listed.setIfInBounds j true).getD k true=false →
     (∀e∈ok.after,Region.binds md e=true→e.on≠i)→oi.apart ops ok=true:=fun k ok hk hki hun hno=>by
    refine hfree k ok hk hki ?_ hno
    by_cases hjk:j=k
    ·subst hjk;exact hjun
    ·rw[getD_set_ne true hjk] at hun;exact hun
   refine wpOp_mono (fun a' w' h3=>?_) h2
   obtain⟨hy3,S',hs1,hs2,hs3,h3⟩:=h3
   refine⟨S',hs1,hs2,hs3,fun hcj=>ih S' (listed.setIfInBounds j true) a' w' hcj hfree' (ready_mono hr (Ne.symm hji)) hy3 hs2 hs3 ?_⟩
   rw[Array.setIfInBounds_comm _ _ hji]
   exact h3 (by rw[Array.setIfInBounds_comm _ _ (Ne.symm hji)];exact D9 hcj (ready_mono hr (Ne.symm hji)))
end
section
variable {P:Program} {tb:List (Nat × TI)} {N n:Nat} {I I' I0:Imm} {V V' V0:Va} {a:Act} {t:Ts} {own own' own0:Os} {w w' w0:World} {g:G} {y:Value} {d:Option Tmp}
variable {XL:List Nat} {mo:Mo} {S:World→Prop} {K:Ts→Os→Nat→Prop} {next:Act→World→Prop} {Q:Exit→Act→World→Prop} {o:Oper}
theorem Vm (hT:∀t i,look t tb=some i→TIok P t i)(hXL:∀k∈mo.xl,∃r,look k own=some r)(hS:isR tb o=true→∀u,S u→Agree V mo.xl w u)(hq:isQ tb o=true)(h:K0 P tb mo o t own V.n K)(hH:Has I V own w)(ha:ARep N I V a t):QOk S P I V own w a t o K:=by
 obtain⟨dst,op,type,pos,after,guard⟩:=o
 cases op with
 | move x=>exact Z78 hH ha (.inl rfl) h
 | assign x =>
  unfold K0 at h
  unfold isQ at hq
  dsimp only at h hq
  split at h
  ·cases hq
  ·exact Z78 hH ha (.inr rfl) h
 | pick c x y=>exact Zcd hH ha rfl h
 | load ty x=>exact Zeq hT hH ha hXL (hS rfl) rfl h
 | fieldAddr ty x f=>exact Rx hT hH ha rfl h
 | field ty x f=>exact Zbf hT hH ha rfl h
 | indexAddr ty x i=>exact Sx hT hH ha rfl h
 | index ty x i=>exact Z96 hT hH ha rfl h
 | binOp op ty x y ty'=>exact Zci hT hH ha rfl h
 | unOp op ty x =>
  cases op with
  | not=>exact Zgh hH ha rfl h
  | _=>exact False.elim h
 | extract x i=>exact Z1e hH ha rfl h
 | nilCheck x=>exact Xg hH ha rfl h
 | sliceToArrayPointer ty x=>exact Zh8 hT hH ha rfl h
 | makeFunc fn p q =>
  cases fn with
  | func f=>exact Xk hH ha rfl h
  | _=>exact False.elim h
 | lookup ty x i ok=>exact False.elim h
 | build ty parts=>exact Z9m hT hH ha rfl h
 | slice ty x lo hi mx =>
  cases mx with
  | some mx =>
   unfold K0 at h
   dsimp only at h
   cases lo with
   | some lo=>exact False.elim h
   | none =>
    cases hi with
    | none=>exact False.elim h
    | some hx=>exact Z68 hT hH ha rfl h
  | none=>exact Z9z hT hH ha rfl hq h
 | convert src dst x =>
  unfold K0 at h
  unfold isQ at hq
  dsimp only at h hq
  split at h
  ·next p q hp hq2 =>
   rw[hp,hq2] at hq
   dsimp only at hq
   split at h
   ·next e sz h1 h2=>rw[h1,h2] at hq;cases hq
   ·exact Zdw hT (hS rfl) hH ha rfl hp hq2 h
  ·exact h.elim
 | call c =>
  obtain⟨callee,args,argTypes⟩:=c
  cases callee with
  | builtin b =>
   cases b with
   | len =>
    obtain⟨args⟩:=args
    obtain⟨argTypes⟩:=argTypes
    unfold K0 at h
    dsimp only at h
    split at h
    ·next x ty =>
     split at h
     ·next hl=>exact Zcf hH ha ((hT _ _ hl).str rfl) rfl h
     ·next e hl=>exact Zf9 hH ha ((hT _ _ hl).elem _ _ rfl).1 rfl h
     ·next str e hl =>
      refine Zcr hT hXL (hS ?_) hH ha hl rfl rfl h
      show Ri (Zg1 tb) [ty]=true
      unfold Ri Zg1 Z51
      rw[hl]
      rfl
     ·exact h.elim
    ·exact h.elim
   | max =>
    obtain⟨args⟩:=args
    unfold K0 at h
    dsimp only at h
    split at h
    ·exact Zh9 hH ha rfl h
    ·exact h.elim
   | min =>
    obtain⟨args⟩:=args
    unfold K0 at h
    dsimp only at h
    split at h
    ·exact Zgs hH ha rfl h
    ·exact h.elim
   | _=>cases hq
  | _=>cases hq
 | _=>cases hq
def Z0h (o:Oper):Bool:=match o.op with
 | .call c=>match c.callee with
  | .value _=>true
  | _=>false
 | _=>false
theorem Z7s (hT:∀t i,look t tb=some i→TIok P t i)(hmo:Z0h o=true→mo=.new)(hq:isQ tb o=false)(hl:isL tb o=false)(h:K0 P tb mo o t own V.n K)(hH:Has I V own w)(ha:ARep N I V a t)(hd:∀i,o.dst=some i→i < N)(hK:NxtB N own I V w K next):o.wp P a w next Q:=by
 obtain⟨dst,op,type,pos,after,guard⟩:=o
 cases op with
 | assign x =>
  unfold K0 at h
  unfold isQ at hq
  dsimp only at h hq
  split at h
  ·split at h
   ·next e sz _ _ hl=>exact Zdj hK hH ha hd ((hT _ _ hl).elem _ _ rfl).2.choose_spec.choose_spec.2.2.2.2.1 rfl h
   ·exact Tm (g:=.nl) hK ha hd (by rfl) (.refl hH) (Below.refl _ _) (.refl _) (.of_v .nl) h
  ·next hx =>
   split at hq
   ·exact dc rfl (hx · )
   ·cases hq
 | convert src dst x =>
  unfold K0 at h
  unfold isQ at hq
  dsimp only at h hq
  split at h
  ·next p q hp hq2 =>
   rw[hp,hq2] at hq
   dsimp only at hq
   split at h
   ·next e sz h1 h2 =>
    split at h
    ·next hu=>exact Z56 hH ha hd hK rfl ((hT _ _ hp).str h1) ((hT _ _ hq2).elem _ _ h2).1 (TIok.u8 hT hu) h
    ·exact h.elim
   ·next hne =>
    split at hq
    ·next e h1 h2=>exact dc h2 (fun h2=>(by obtain⟨e,sz⟩:=e;exact hne e sz h1 h2))
    ·cases hq
  ·exact h.elim
 | alloc ty=>exact Z4k hT hK hH ha hd rfl h
 | box ty x=>exact Zep hK hH ha hd rfl h
 | slice ty z lo hi mx =>
  cases mx with
  | some mx =>
   unfold isQ at hq
   unfold K0 at h
   dsimp only at hq h
   cases lo with
   | some lo=>exact False.elim h
   | none =>
    cases hi with
    | none=>exact False.elim h
    | some hx =>
     split at hq
     ·next hl=>rw[hl] at h;exact False.elim h
     ·cases hq
  | none =>
   unfold isQ at hq
   unfold K0 at h
   dsimp only at hq h
   split at hq
   ·next e1 sz e2 e3 e4 hl =>
    rw[hl] at h
    split at h
    ·next h1=>cases h1
    ·next h1=>cases h1
    ·next h1=>cases h1;exact Z5n hT hH ha hd hK hl rfl h
    ·next h1=>cases h1;exact Z69 hT hH ha hd hK hl rfl h
    ·exact h.elim
   ·cases hq
 | buildSlice ty len parts=>exact Ok hT hK hH ha hd rfl h
 | makeSlice ty len cap=>exact Pk hT hK hH ha hd rfl h
 | call c =>
  obtain⟨callee,args,argTypes⟩:=c
  cases callee with
  | builtin b=>cases b<;>first | (cases hq;done) | (cases hl;done) | exact False.elim h
  | value f =>
   have hmo:=hmo rfl
   subst hmo
   refine P2 (fo:=f) rfl rfl hH ha hd h fun t own' I' V' a' w' hk hl2 hm har=>?_
   obtain⟨ks,m1,m2,m3,m4⟩:=hm rfl
   cases ks with
   | cons k ks=>cases m1
   | nil=>exact hK _ _ _ _ _ _ hk hl2 ⟨hl2.fro.os,hl2.fro.tape,hl2.fro.output,hl2.fro.size,fun b hb=>m3 b hb fun k hk=>by simp at hk⟩ (fun k hk b hb=>(m4 k hk b hb).elim id fun h=>(h.1 rfl).elim) har
  | invoke r m=>exact False.elim h
 | makeMap ty r =>
  cases r with
  | some r=>exact False.elim h
  | none=>exact False.elim h
 | range ty x=>exact False.elim h
 | _=>first | (cases hq;done) | (cases hl;done) | exact False.elim h
theorem Z7z (hT:∀t i,look t tb=some i→TIok P t i)(hl:isL tb o=true)(h:K0 P tb mo o t own V.n K)(hL:Since own0 I0 V0 w0 own I V w)(ha:ARep N I V a t)(hd:∀i,o.dst=some i→i < N)(hK:Nxt N own0 I0 V0 w0 K next):o.wp P a w next Q:=by
 obtain⟨dst,op,type,pos,after,guard⟩:=o
 cases op with
 | store ty x y=>exact Z59 hT hK hL ha hd rfl h
 | mapUpdate ty m k x=>exact False.elim h
 | insert ty m k x=>exact False.elim h
 | next x b =>
  cases b with
  | true=>exact False.elim h
  | false=>exact False.elim h
 | entry x=>exact False.elim h
 | call c =>
  obtain⟨callee,args,argTypes⟩:=c
  cases callee with
  | builtin b =>
   cases b with
   | append =>
    obtain⟨args⟩:=args
    obtain⟨argTypes⟩:=argTypes
    unfold K0 at h
    dsimp only at h
    split at h
    ·next x y ty ty' =>
     split at h
     ·next e sz _ _ hb hlk =>
      have hb:=ai hb
      subst hb
      exact Zz hT hK hL ha hd hlk rfl h
     ·next hlk =>
      split at h
      ·next hs1 hl2 =>
       have hs1:=ai hs1
       subst hs1
       exact O3 hT hK hL ha hd hlk rfl hl2 rfl rfl h
      ·exact h.elim
     ·exact h.elim
    ·exact h.elim
   | copy =>
    obtain⟨args⟩:=args
    obtain⟨argTypes⟩:=argTypes
    unfold K0 at h
    dsimp only at h
    split at h
    ·next x y ty ty' =>
     split at h
     ·next hlk=>exact Zbr hT hK hL ha hd hlk rfl h
     ·exact h.elim
    ·exact h.elim
   | delete =>
    exact False.elim h
   | _=>cases hl
  | value f=>exact P2 (fo:=f) rfl rfl hL.has ha hd h fun t own' I' V' a' w' hk hl2 _ har=>hK _ _ _ _ _ _ hk (hL.trans hl2) har
  | _=>cases hl
 | _=>cases hl
theorem Z2g (hT:∀t i,look t tb=some i→TIok P t i)(hv:vsB XL t o=true)(h:K0 P tb (.vs XL) o t own V.n K)(hH:Has I V own w)(hkX:∀k∈XL,k < V.n)(ha:ARep N I V a t)(hd:∀i,o.dst=some i→i < N)(hK:∀t own' I' V' a' w',K t own' V'.n→Later own I V w own' I' V' w'→Agree V XL w w'→(∀k∈XL,∀b,V'.f k b→b < w.heap.size→∃k'∈XL,V.f k' b)→ARep N I' V' a' t→next a' w'):o.wp P a w next Q:=by
 obtain⟨dst,op,type,pos,after,guard⟩:=o
 have hv0:=hv
 unfold vsB at hv
 cases guard with
 | some g=>cases hv
 | none =>
 cases op with
 | store ty x z =>
  cases x with
  | tmp d =>
   dsimp only at hv
   cases hl:look d t with
   | none=>rw[hl] at hv;cases hv
   | some g =>
    rw[hl] at hv
    cases g with
    | ptr k off =>
     dsimp only at hv
     have hm:=Ca.1 hv
     obtain⟨y,hy,hg⟩:=ha.get d _ hl
     obtain⟨hkn,rfl⟩:=C4 hg
     have he:a.eval (.tmp d)=.pointer (some ⟨V.b k,off,none⟩):=by simp[Act.eval,hy]
     unfold K0 at h
     dsimp only at h
     unfold ev at h
     dsimp only at h
     rw[hl] at h
     dsimp only at h
     obtain⟨u,hk,hu⟩:=B0 (K:=fun u=>G5 own u fun cs=>match look ty tb with
      | some i=>Zdb i.zero.length own cs (match look k own with
       | some (.blk cells ty')=>ovr i.zero.length cells off cs fun cells'=>K (put dst .un t) ((k,.blk cells' ty')::own) V.n
       | some (.lnk j)=>match true,look j own,cs with
        | false,some (.slc rows e 1),[c]=>Et (off < rows.length∧Gb c=true) (K (put dst .un t) ((j,.slc (rows.set off [c]) e 1)::own) V.n)
        | _,_,_=>False
       | _=>False)
      | none=>False) h ha hH
     obtain⟨cs,hk,hp,-⟩:=Hg hk hu hH
     obtain⟨ds,hds⟩:∃ds,(a.eval z).cells.toList=ds:=⟨_,rfl⟩
     rw[hds] at hp
     cases hty:look ty tb with
     | none=>rw[hty] at hk;exact hk.elim
     | some i =>
      rw[hty] at hk
      obtain⟨h1,hcl0,hcn,hk2,-⟩:=Z0b hk
      clear hk
      cases hr:look k own with
      | none=>rw[hr] at hk2;exact hk2.elim
      | some r0 =>
       rw[hr] at hk2
       cases r0 with
       | blk cells ty' =>
        obtain⟨us,k1,k2,-⟩:=Lv hH hr
        obtain⟨cells',k3,k4,k5⟩:=R4 hk2 k2 hp
        have hone:=Z8v hH h1 hp
        have hlen:ds.length=i.zero.length:=hp.1.symm.trans hcl0
        have hdn:ds≠[]:=fun e=>by
         have:=hp.1
         rw[e] at this
         exact hcn (al (by simpa using this))
        have hrun:=Ht (P:=P) (w:=w) (hT ty i hty).size hds hlen k1 (k5 hdn:off+ds.length≤us.length) hone
        have hl2:=Cs (w':=w.setRow (V.b k) _) (r:=.blk cells' ty') hH hr rfl rfl rfl (by simp[World.setRow]) (fun b hb=>setRow_other w _ b _ (fun e=>hb (((hH.each k _ hr).1 b).2 e))) ⟨(hH.each k _ hr).1,_,setRow_heap w _ us.toArray _ ty' _ k1,k4⟩
        unfold Oper.wp
        have hex:(execOp a.eval (⟨dst,.store ty (.tmp d) z,type,pos,after,none⟩:Oper)).run P w=.ok .skip (w.setRow (V.b k) (List.take off us++ds++List.drop (off+ds.length) us).toArray):=by
         simp only[execOp,Sem.run_bind,he,hrun,Result.andThen_ok,Sem.run_pure]
        rw[hex]
        exact hK _ _ _ _ _ _ k3 hl2 (fun b hlt hX=>setRow_other w _ b _ (fun e=>hX k hm (((hH.each k _ hr).1 b).2 e))) (fun k hk b hb _=>⟨k,hk,hb⟩) ((ha.mono hl2.fro.mono hl2.va).put hd (.of_v .un))
       | _=>exact hk2.elim
    | _=>cases hv
  | _=>cases hv
 | call cl =>
  cases hce:cl.callee with
  | value f =>
   refine P2 (mo:=.vs XL) (K:=K) (fo:=f) rfl hce hH ha hd ?_ fun t own' I' V' a' w' hk hl2 hm har=>?_
   ·have h:=h
    unfold K0 at h
    dsimp only at h
    rw[hce] at h
    exact h
   ·obtain⟨ks,m1,m2,m3,m4⟩:=hm rfl
    have hsub:∀k∈ks,k∈XL:=fun k hk=>Ca.1 (Ac (show Av (fun k=>Fz k XL) ks=true from m1) k hk)
    refine hK _ _ _ _ _ _ hk hl2 (fun b hb hX=>m3 b hb fun k hk=>hX k (hsub k hk)) (fun k hk b hb hlt=>?_) har
    rcases m4 k (hkX k hk) b hb with h1 | ⟨-,⟨k',h1,h2⟩ | h1⟩
    ·exact⟨k,hk,h1⟩
    ·exact⟨k',hsub k' h1,h2⟩
    ·omega
  | builtin bt =>
   obtain⟨callee,⟨args⟩,⟨argTypes⟩⟩:=cl
   have hce:callee=.builtin bt:=hce
   subst hce
   cases bt with
   | append =>
    dsimp only at hv
    unfold K0 at h
    dsimp only at h
    split at h
    ·next x y ty ty' =>
     cases x with
     | tmp d =>
      dsimp only at hv
      cases hl:look d t with
      | none=>rw[hl] at hv;cases hv
      | some g =>
       rw[hl] at hv
       obtain⟨z,hz,hg⟩:=ha.get d _ hl
       have hg:TRep I V g (a.eval (.tmp d)):=by
        have:a.eval (.tmp d)=z:=by simp[Act.eval,hz]
        rw[this];exact hg
       have hKV:∀t own' I' V' a' w',K t own' V'.n→Later own I V w own' I' V' w'→Z9x V w w' g→V.kp V'→ARep N I' V' a' t→next a' w':=fun t own' I' V' a' w' hk hl2 hf hkp har=>by
        refine hK _ _ _ _ _ _ hk hl2 (fun b hb hX=>?_) (fun k hk b hb _=>⟨k,hk,hkp k (hkX k hk) b hb⟩) har
        cases g with
        | osl k=>exact hf b hb (hX k (Ca.1 hv))
        | nl=>exact hf b hb
        | _=>cases hv
       have evd:∀{K':G→Prop},ev t own (.tmp d) K'→K' g∨∃rows,K' (.sl rows):=fun {K'} h=>by
        unfold ev at h
        dsimp only at h
        rw[hl] at h
        cases g with
        | osl k =>
         dsimp only at h
         split at h
         ·exact .inr ⟨_,h⟩
         ·exact .inl h
        | nl=>exact .inl h
        | _=>cases hv
       split at h
       ·next e sz _ _ hb hlk =>
        have hb:=ai hb
        subst hb
        rcases evd h with h | ⟨rows,h⟩
        ·exact Nm (g:=g) hT hH ha hd hKV hlk rfl hg h
        ·obtain⟨q,hk2,hq⟩:=B0 h ha hH
         obtain⟨new,A,c,rs,hk,-⟩:=U7 hk2 hq hH
         exact hk.elim
       ·next hlk =>
        split at h
        ·next hs1 hl2 =>
         have hs1:=ai hs1
         subst hs1
         rcases evd h with h | ⟨rows,h⟩
         ·exact Hl (g:=g) hT hH ha hd hKV hlk rfl hl2 rfl rfl hg h
         ·obtain⟨q,hk2,hq⟩:=B0 h ha hH
          unfold Zev at hk2
          split at hk2
          ·exact hk2.elim
          ·exact hk2.elim
        ·exact h.elim
       ·exact h.elim
     | _=>cases hv
    ·exact h.elim
   | _=>cases hv
  | _=>rw[show vsB XL t ⟨dst,.call cl,type,pos,after,none⟩=false from ?_] at hv0<;>first | cases hv0 | (unfold vsB;dsimp only;rw[hce])
 | _=>cases hv
theorem Zaw (hT:∀t i,look t tb=some i→TIok P t i)(h:K0 P tb .row o t own V.n K)(hL:Since own0 I0 V0 w0 own I V w)(ha:ARep N I V a t)(hd:∀i,o.dst=some i→i < N)(hK:Nxt N own0 I0 V0 w0 K next):o.wp P a w next Q:=by
 cases hq:isQ tb o with
 | true=>exact(Vm (S:=fun u=>u=w) (mo:=.row) hT (fun k hk=>by simp[Mo.xl] at hk) (fun _ u hu=>by subst hu;exact fun _ _ _=>rfl) hq h hL.has ha).wp rfl hK hL ha hd
 | false =>
  cases hl:isL tb o with
  | true=>exact Z7z hT hl h hL ha hd hK
  | false =>
   cases hc:Z0h o with
   | false=>exact Z7s hT (fun h=>by rw[hc] at h;cases h) hq hl h hL.has ha hd (NxtB.of hK hL)
   | true =>
    obtain⟨dst,op,type,pos,after,guard⟩:=o
    cases op with
    | call cl =>
     obtain⟨callee,args,ats⟩:=cl
     cases callee with
     | value f=>exact P2 (fo:=f) rfl rfl hL.has ha hd h fun t own' I' V' a' w' hk hl2 _ har=>hK _ _ _ _ _ _ hk (hL.trans hl2) har
     | _=>cases hc
    | _=>cases hc
end
section
variable {P:Program} {tb:List (Nat × TI)} {N n:Nat} {I I' I0:Imm} {V V' V0:Va} {a:Act} {t:Ts} {own own' own0:Os} {w w' w0:World} {g:G} {y:Value} {d:Option Tmp}
variable {K:Ts→Os→Nat→Prop} {next:Act→World→Prop} {Q:Exit→Act→World→Prop} {o:Oper} {ops:Array Oper} {rest:List Oper}
theorem ARep.redo (h:ARep N I V a t){i:Nat}{g':G}{x:Value}(hx:a.tmps[i]?=some x)(hg:TRep I V g' x):ARep N I V a ((i,g')::t) :=
 ⟨h.defers,h.size,fun j g hj=>by
  rw[A3] at hj
  split at hj
  ·next e=>subst e;cases hj;exact⟨x,hx,hg⟩
  ·exact h.get j g hj⟩
theorem H0 {mo:Mo}(h:sxG P tb mo ops.toList o t own n K)(ha:ARep N I V a t) :
  ∃t',ARep N I V a t'∧((Region.wanted o (yielded ops a.tmps)=true∧K0 P tb mo o t' own n K)∨(Region.wanted o (yielded ops a.tmps)=false∧K (put o.dst .un t') own n)):=by
 unfold sxG at h
 split at h
 ·next hg=>exact⟨t,ha,.inl ⟨Ie hg,h⟩⟩
 ·next j want hg =>
  rw[E7,Array.getElem?_toList] at h
  have hw:Region.wanted o (yielded ops a.tmps)=(yielded ops a.tmps j==some want):=by unfold Region.wanted;rw[hg]
  cases hd:(ops[j]?).bind (·.dst) with
  | none =>
   rw[hd] at h
   exact⟨t,ha,.inr ⟨by rw[hw];simp[yielded,hd],h⟩⟩
  | some d =>
   rw[hd] at h
   dsimp only at h
   have hy:∀{x},a.tmps[d]?=some x→yielded ops a.tmps j=match x with | .bool b=>some b | _=>none:=fun hx=>by
    simp only[yielded,hd,Option.bind_some,hx]
    rename_i x
    cases x<;>rfl
   cases hl:look d t with
   | none=>rw[hl] at h;exact h.elim
   | some g =>
    obtain⟨x,hx,hr⟩:=ha.get d g hl
    rw[hl] at h
    cases g with
    | tt =>
     cases(show VRep I .tt x from hr)
     dsimp only at h
     cases want with
     | true=>exact⟨t,ha,.inl ⟨by rw[hw,hy hx];rfl,h⟩⟩
     | false=>exact⟨t,ha,.inr ⟨by rw[hw,hy hx];rfl,h⟩⟩
    | ff =>
     cases(show VRep I .ff x from hr)
     dsimp only at h
     cases want with
     | true=>exact⟨t,ha,.inr ⟨by rw[hw,hy hx];rfl,h⟩⟩
     | false=>exact⟨t,ha,.inl ⟨by rw[hw,hy hx];rfl,h⟩⟩
    | un =>
     cases(show VRep I .un x from hr)
     exact⟨t,ha,.inr ⟨by rw[hw,hy hx];cases want<;>rfl,h⟩⟩
    | v z =>
     have e:=As hr
     subst e
     cases x with
     | bool b =>
      dsimp only at h
      cases want with
      | true =>
       obtain⟨h1,h2⟩:=h
       cases b with
       | true=>exact⟨_,ha.redo hx (.of_v .tt),.inl ⟨by rw[hw,hy hx];rfl,h1 rfl⟩⟩
       | false=>exact⟨_,ha.redo hx (.of_v .ff),.inr ⟨by rw[hw,hy hx];rfl,h2 rfl⟩⟩
      | false =>
       obtain⟨h1,h2⟩:=h
       cases b with
       | true=>exact⟨_,ha.redo hx (.of_v .tt),.inr ⟨by rw[hw,hy hx];rfl,h1 rfl⟩⟩
       | false=>exact⟨_,ha.redo hx (.of_v .ff),.inl ⟨by rw[hw,hy hx];rfl,h2 rfl⟩⟩
     | _=>exact h.elim
    | _=>exact h.elim
theorem Zn (hT:∀t i,look t tb=some i→TIok P t i)(hK:Nxt N own0 I0 V0 w0 K (fun a w=>Q .normal a w)):∀{rest:List Oper} {t:Ts} {own:Os} {I:Imm} {V:Va} {a:Act} {w:World},sxO P tb ops.toList rest t own V.n K→Since own0 I0 V0 w0 own I V w→ARep N I V a t→(∀o∈rest,∀i,o.dst=some i→i < N)→wpList P ops Q rest a w
 | [],t,own,I,V,a,w,h,hL,ha,_=>hK _ _ _ _ _ _ h hL ha
 | o::rest,t,own,I,V,a,w,h,hL,ha,hd=>by
  have hd0:=hd o (by simp)
  have hdr:∀o∈rest,∀i,o.dst=some i→i < N:=fun o ho=>hd o (by simp[ho])
  obtain⟨t',ha',h⟩:=H0 h ha
  rcases h with⟨hw,h⟩ | ⟨hw,h⟩
  ·unfold wpList
   rw[db hw]
   exact .inl (Zaw hT h hL ha' hd0 fun t own I V a w hk hl har=>Zn hT hK hk hl har hdr)
  ·unfold wpList
   rw[da (by rw[hw];exact Bool.false_ne_true)]
   exact Zn hT hK h hL (ha'.put hd0 (.of_v .un)) hdr
theorem Za1 (l:List Bool)(i:Nat):Zbv l i=l.toArray.getD i false:=by
 unfold Zbv
 rw[E7]
 cases h:l[i]?<;>simp[h]
theorem Hx (l:List Bool)(i:Nat):(Ya l i).toArray=l.toArray.setIfInBounds i true:=by
 have:Ya l i=l.set i true:=by
  induction l generalizing i with
  | nil=>simp[Ya]
  | cons b l ih=>cases i<;>simp[Ya,ih]
 rw[this];simp
theorem Vs (l:List Bool)(es:List Edge):Gx l es=true↔∀e∈es,Region.binds .any e=true→l.toArray.getD e.on false=true:=by
 induction es with
 | nil=>simp[Gx]
 | cons e es ih =>
  unfold Gx
  rw[Za1]
  constructor
  ·intro h e' he' hb'
   cases hx:(!Region.binds .any e||l.toArray.getD e.on false) with
   | false=>rw[hx] at h;cases h
   | true =>
    rw[hx] at h
    rcases bh.1 he' with rfl | he'
    ·rw[hb',Bool.not_true,Bool.false_or] at hx;exact hx
    ·exact ih.1 h e' he' hb'
  ·intro h
   have hx:(!Region.binds .any e||l.toArray.getD e.on false)=true:=by
    cases hb:Region.binds .any e with
    | false=>rfl
    | true=>rw[h e (by simp) hb];rfl
   rw[hx]
   exact ih.2 fun e' he'=>h e' (by simp[he'])
theorem Z2c (l:List Bool):∀(os:List Oper) (bs:List Bool) (k i:Nat),i∈rdy l os bs k↔∃j o,i=k+j∧os[j]?=some o∧bs[j]?=some false∧Gx l o.after.toList=true
 | [],bs,k,i=>by simp[rdy]
 | o::os,[],k,i=>by simp[rdy]
 | o::os,b::bs,k,i=>by
  have ih:=Z2c l os bs (k+1) i
  have key:(∃j o',i=k+j∧(o::os)[j]?=some o'∧(b::bs)[j]?=some false∧Gx l o'.after.toList=true)↔((i=k∧b=false∧Gx l o.after.toList=true)∨∃j o',i=k+1+j∧os[j]?=some o'∧bs[j]?=some false∧Gx l o'.after.toList=true):=by
   constructor
   ·rintro⟨j,o',e,h1,h2,h3⟩
    cases j with
    | zero=>simp at h1 h2;subst h1 h2;exact .inl ⟨by omega,rfl,h3⟩
    | succ j=>exact .inr ⟨j,o',by omega,by simpa using h1,by simpa using h2,h3⟩
   ·rintro(⟨e,h1,h2⟩ | ⟨j,o',e,h1,h2,h3⟩)
    ·exact⟨0,o,by omega,by simp,by simp[h1],h2⟩
    ·exact⟨j+1,o',by omega,by simpa using h1,by simpa using h2,h3⟩
  rw[key,←ih]
  show i∈(bif (!b&&Gx l o.after.toList) then k::rdy l os bs (k+1) else rdy l os bs (k+1))↔_
  cases hb:b<;>cases he:Gx l o.after.toList<;>simp
theorem Gl {l:List Bool}(hl:l.length=ops.size)(i:Nat):i∈Region.ready .any ops l.toArray↔i∈rdy l ops.toList l 0:=by
 rw[mem_ready,Z2c]
 constructor
 ·rintro⟨h1,o,h2,h3⟩
  have hi:=(bo.1 h2).1
  refine⟨i,o,by omega,by simpa using h2,?_,(Vs l _).2 fun e he=>h3 e (by simpa using he)⟩
  have:i < l.length:=by omega
  simp[this] at h1
  simp[this,h1]
 ·rintro⟨j,o,e,h1,h2,h3⟩
  obtain rfl:i=j:=by omega
  exact⟨by simp[h2],o,by simpa using h1,fun e he=>(Vs l _).1 h3 e (by simpa using he)⟩
theorem K4 {od:List Nat}{ops:List Oper}:∀{rs:List Nat} {i:Nat},Lj tb od ops rs=some i→i∈rs∧∃o,ops[i]?=some o∧isQ tb o=true
 | [],i,h=>by cases h
 | j::rs,i,h=>by
  unfold Lj at h
  rw[E7] at h
  cases ho:ops[j]? with
  | none =>
   rw[ho] at h
   obtain⟨h1,h2⟩:=K4 h
   exact⟨by simp[h1],h2⟩
  | some o =>
   rw[ho] at h
   dsimp only at h
   cases hq:(isQ tb o&&!Fz j od) with
   | true =>
    rw[hq] at h
    cases h
    rw[aq] at hq
    exact⟨by simp,o,ho,hq.1⟩
   | false =>
    rw[hq] at h
    obtain⟨h1,h2⟩:=K4 h
    exact⟨by simp[h1],h2⟩
theorem Jz {ops:List Oper}:∀{rs:List Nat} {i:Nat},Qi tb ops rs=some i→i∈rs∧∃o,ops[i]?=some o∧Z8z tb o=true
 | [],i,h=>by cases h
 | j::rs,i,h=>by
  unfold Qi at h
  rw[E7] at h
  cases ho:ops[j]? with
  | none =>
   rw[ho] at h
   obtain⟨h1,h2⟩:=Jz h
   exact⟨by simp[h1],h2⟩
  | some o =>
   rw[ho] at h
   cases hq:Z8z tb o with
   | true=>dsimp only at h;rw[hq] at h;cases h;exact⟨by simp,o,ho,hq⟩
   | false =>
    dsimp only at h
    rw[hq] at h
    obtain⟨h1,h2⟩:=Jz h
    exact⟨by simp[h1],h2⟩
theorem Z5r {ops:List Oper}{rs:List Nat}{i:Nat}(h:Zf8 tb ops rs=some i):i∈rs∧∃o,ops[i]?=some o∧Z8z tb o=true:=by
 unfold Zf8 at h
 split at h
 ·exact Jz h
 ·cases h
def Ln (tb:List (Nat × TI))(od:List Nat)(ops:Array Oper)(late:List Nat):Nat→List Bool→Bool
 | 0,l=>(rdy l ops.toList l 0).isEmpty
 | fuel+1,l=>match Lj tb od ops.toList (rdy l ops.toList l 0) with
  | some i=>Region.free .any ops l.toArray i&&(match nth ops.toList i with | some o=>!isR tb o||Zcv .any ops late i | none=>false)&&Ln tb od ops late fuel (Ya l i)
  | none=>match Zf8 tb ops.toList (rdy l ops.toList l 0) with
   | some i=>Region.free .any ops l.toArray i&&Ln tb od ops late fuel (Ya l i)
   | none=>(rdy l ops.toList l 0).all fun i=>Ln tb od ops late fuel (Ya l i)
theorem Qs {f:Nat→Prop}:∀{l:List Nat},Zen f l→∀i∈l,f i
 | [],_,i,hi=>by cases hi
 | [j],h,i,hi=>by rw[bm.1 hi];exact h
 | j::k::l,h,i,hi=>by
  rcases bh.1 hi with rfl | hi
  ·exact h.1
  ·exact Qs (l:=k::l) h.2 i hi
theorem C6 (V:Va)(XL:List Nat)(w:World):Agree V XL w w:=fun _ _ _=>rfl
theorem Ck (V:Va)(XL:List Nat)(w:World):Zco (Agree V XL w):=fun u _ hu hb b hlt hX=>by
 have h1:=hu b hlt hX
 have h2:b < u.heap.size:=by
  rcases Nat.lt_or_ge b u.heap.size with h | h
  ·exact h
  ·rw[Array.getElem?_eq_none h,Array.getElem?_eq_getElem hlt] at h1
   cases h1
 rw[hb.block b h2]
 exact h1
theorem Z3i {I:Imm}:∀{l:List G} {cs us:List Value},Yd l=some cs→l.length=us.length→(∀(j:Nat) g u,l[j]?=some g→us[j]?=some u→VRep I g u)→us=cs
 | [],cs,us,h,hl,_=>by
  cases h
  exact al hl.symm
 | g::l,cs,us,h,hl,hu=>by
  cases us with
  | nil=>simp at hl
  | cons u us =>
   cases g with
   | v x =>
    unfold Yd at h
    cases hc:Yd l with
    | none=>rw[hc] at h;cases h
    | some cs' =>
     rw[hc] at h
     cases h
     have h1:=hu 0 _ _ rfl rfl
     have ih:=Z3i hc (by simpa using hl) fun j g u hg hu'=>hu (j+1) g u (by simpa using hg) (by simpa using hu')
     cases h1
     rw[ih]
   | _=>cases h
theorem Ur:∀{l:List G} {cs:List Value},Yd l=some cs→l.length=cs.length∧∀(I:Imm) (j:Nat) g u,l[j]?=some g→cs[j]?=some u→VRep I g u
 | [],cs,h=>by cases h;exact⟨rfl,fun I j g u hg=>by simp at hg⟩
 | g::l,cs,h=>by
  cases g with
  | v x =>
   unfold Yd at h
   cases hc:Yd l with
   | none=>rw[hc] at h;cases h
   | some cs' =>
    rw[hc] at h
    cases h
    obtain⟨h1,h2⟩:=Ur hc
    refine⟨by simp[h1],fun I j g u hg hu=>?_⟩
    cases j with
    | zero=>simp at hg hu;subst hg hu;exact .v _
    | succ j=>exact h2 I j g u (by simpa using hg) (by simpa using hu)
  | _=>cases h
theorem So {I:Imm}{g:G}{x y:Value}(h:Z8g g=some x)(hy:VRep I g y):y=x:=by
 cases hy with
 | v z=>cases h;rfl
 | agg l cs hl hh =>
  have h:(match Yd l with | some cs=>some (Value.agg cs.toArray) | none=>none)=some x:=h
  cases hc:Yd l with
  | none=>rw[hc] at h;cases h
  | some cs'=>rw[hc] at h;cases h;rw[Z3i hc hl hh]
 | _=>cases h
theorem U1 {g:G}{x:Value}(h:Z8g g=some x)(I:Imm):VRep I g x:=by
 cases g with
 | v z=>cases h;exact .v _
 | agg l =>
  have h:(match Yd l with | some cs=>some (Value.agg cs.toArray) | none=>none)=some x:=h
  cases hc:Yd l with
  | none=>rw[hc] at h;cases h
  | some cs=>rw[hc] at h;cases h;obtain⟨h1,h2⟩:=Ur hc;exact .agg _ _ h1 (h2 I)
 | _=>cases h
theorem Z6v {g:G}{x y:Value}(h:Z8g (Z8n g)=some x)(hg:TRep I V g y):y=x:=by
 cases g with
 | tt=>cases(show VRep I .tt y from hg);cases h;rfl
 | ff=>cases(show VRep I .ff y from hg);cases h;rfl
 | nl=>cases h
 | v z=>exact So h (show VRep I (.v z) y from hg)
 | agg l=>exact So h (show VRep I (.agg l) y from hg)
 | _=>cases h
theorem Zp (ha:ARep N I V a t)(hH:Has I V own w):∀{l:List Operand} {K:List G→Prop},Zhc t own l K→∃gs,K gs∧gs.length=(l.map a.eval).length∧∀(I':Imm) (j:Nat) g u,gs[j]?=some g→(l.map a.eval)[j]?=some u→VRep I' g u
 | [],K,h=>⟨[],h,rfl,fun I' j g u hg=>by simp at hg⟩
 | x::l,K,h=>by
  obtain⟨g,h,hg⟩:=B0 h ha hH
  cases hc:Z8g (Z8n g) with
  | none=>rw[hc] at h;exact h.elim
  | some z =>
   rw[hc] at h
   obtain⟨gs,hk,h1,h2⟩:=Zp (K:=fun gs=>K (Z8n g::gs)) ha hH (l:=l) h
   have e:=Z6v hc hg
   refine⟨Z8n g::gs,hk,by simpa using h1,fun I' j g' u hg' hu=>?_⟩
   cases j with
   | zero=>simp at hg' hu;subst hg' hu;rw[e];exact U1 hc I'
   | succ j=>exact h2 I' j g' u (by simpa using hg') (by simpa using hu)
theorem Z6n {ops:Array Oper}{K:Ts→Prop}(hb:Z8z tb o=true)(ha:ARep N I V a t)(hH:Has I V own w)(h:Zb9 P o t own K):∃g x,CallsTo P ops o x a∧Z8g g=some x∧K (put o.dst g t):=by
 unfold Zb9 at h
 split at h
 case h_2=>exact h.elim
 next c ho =>
 split at h
 case h_2=>exact h.elim
 next f hf =>
 obtain⟨gs,⟨g,x,hc,hV,hk⟩,h1,h2⟩:=Zp (K:=fun gs=>Z97 P f gs fun g=>K (put o.dst g t)) ha hH h
 have hg:o.guard=none:=by
  unfold Z8z at hb
  split at hb
  ·next hg _=>exact hg
  ·cases hb
 refine⟨g,x,⟨Ie hg,f,(c.args.toList.map a.eval).toArray,fun u=>?_,fun u=>?_⟩,hc,hk⟩
 ·have hev:a.eval (.func f)=.func (.func f) #[] #[]:=rfl
  have e:∀l:Array Operand,(l.toList.map a.eval).toArray=l.map a.eval:=fun l=>by cases l;simp
  obtain⟨callee,args,tys⟩:=c
  have hf:callee=.value (.func f):=hf
  subst hf
  have h3:∀ty,(do let d ←resolve a.eval ⟨.value (.func f),args,tys⟩ ty;invoke d.target d.args:Sem Next).run P u=(callFunc f (args.toList.map a.eval).toArray).run P u:=fun ty=>by
   simp[resolve,Deferred.ofValue,hev,invoke,e]
  have h4:=(h3 o.type).trans (Pr hV.1 u _)
  simpa only[execOp,ho] using h4
 ·refine(hV.2 (fun _ _=>none) u _ (fun b o x h=>by cases h) ⟨h1,fun j g' u' a1 a2=>h2 _ j g' u' a1 a2⟩).mono fun e w' ⟨y,q,I',e1,e2,e3,e4,_,_,e7⟩=>?_
  have e2:q=g:=e2
  rw[e2] at e4
  have:y=x:=by
   cases g with
   | tup l=>cases hc
   | _=>exact So hc e4
  rw[e1,this]
  exact⟨rfl,e7⟩
theorem Jt {α:Type}(l:List Bool)(i:Nat)(K:List Bool→α):Nk l i K=K (Ya l i):=by
 induction l generalizing i K with
 | nil=>rfl
 | cons b l ih=>cases i<;>simp[Nk,Ya,ih]
theorem Z0r (k:Nat):∀(r:List Nat) (K:List Nat→Prop),Hk k r K→∃r',K r'
 | [],_,h=>⟨_,h⟩
 | j::l,K,h=>by
  unfold Hk at h
  split at h
  ·exact⟨_,h⟩
  ·obtain⟨r',h⟩:=Z0r k l _ h;exact⟨_,h⟩
theorem Z1g:∀(l:List Oper) (r:List Nat) (K:List Nat→Prop),Zfg l r K→∃r',K r'
 | [],_,_,h=>⟨_,h⟩
 | o::l,r,K,h=>by
  unfold Zfg at h
  split at h
  ·obtain⟨r',h⟩:=Z0r _ _ _ h;exact Z1g l r' K h
  ·exact Z1g l r K h
theorem Z21:∀(l:Ts) (r:List Nat) (K:List Nat→Prop),Z8x l r K→∃r',K r'
 | [],_,_,h=>⟨_,h⟩
 | (i,g)::l,r,K,h=>by
  obtain⟨r',h⟩:=Z0r _ _ _ h;exact Z21 l r' K h
theorem Nl {α:Type}{i j:Nat}{g x:α}{r:List (Nat × α)}(h:look i ((j,g)::r)=some x):i=j∧g=x∨look i r=some x:=by
 unfold look at h
 cases hb:Nat.beq i j with
 | true=>rw[hb] at h;exact .inl ⟨ai hb,cg h⟩
 | false=>rw[hb] at h;exact .inr h
theorem Sk (t:Ts):∀(l:List Nat) (acc:Ts) (K:Ts→Prop),(∀i g,look i acc=some g→look i t=some g)→Z2u t l acc K→∃t',(∀i g,look i t'=some g→look i t=some g)∧K t'
 | [],_,_,ha,h=>⟨_,ha,h⟩
 | i::l,acc,K,ha,h=>by
  unfold Z2u at h
  split at h
  ·next g hg =>
   refine Sk t l _ K (fun j x hj=>?_) h
   rcases Nl hj with⟨rfl,rfl⟩ | hj
   ·exact hg
   ·exact ha _ _ hj
  ·exact Sk t l acc K ha h
theorem S0 (w:Os):∀(n:Nat) (acc:Os) (K:Os→Prop),(∀i g,look i acc=some g→look i w=some g)→Z4h w n acc K→∃w',(∀i g,look i w'=some g→look i w=some g)∧K w'
 | 0,_,_,ha,h=>⟨_,ha,h⟩
 | n+1,acc,K,ha,h=>by
  have h:(match look n w with
   | some r=>Z4h w n ((n,r)::acc) K
   | none=>Z4h w n acc K):=h
  split at h
  ·next g hg =>
   refine S0 w n _ K (fun j x hj=>?_) h
   rcases Nl hj with⟨rfl,rfl⟩ | hj
   ·exact hg
   ·exact ha _ _ hj
  ·exact S0 w n acc K ha h
theorem Since.sub (h:Since own0 I0 V0 w0 own I V w)(hs:∀k r,look k own'=some r→look k own=some r):Since own0 I0 V0 w0 own' I V w :=
 ⟨⟨h.has.mem,fun k r e=>h.has.num k r (hs k r e),fun k r e=>h.has.each k r (hs k r e),fun k r b e=>h.has.foot k r b (hs k r e),fun k k' r r' b e e'=>h.has.disj k k' r r' b (hs k r e) (hs k' r' e')⟩,
  ⟨h.fro.os,h.fro.tape,h.fro.output,h.fro.size,h.fro.blk,h.fro.mono,fun k r b e=>h.fro.foot k r b (hs k r e)⟩,h.n,h.bb,h.ss⟩
theorem Zh6 {next:Act→World→Prop}{ol:List Oper}{K:Ts→Os→Nat→Prop}{c:(Ts→Os→Nat→Prop)→Prop}(hK:Nxt N own0 I0 V0 w0 K next):∀{rs:List Nat},brK ol t K c rs→∃K',Nxt N own0 I0 V0 w0 K' next∧c K'
 | [],h=>⟨K,hK,h⟩
 | [_],h=>⟨K,hK,h⟩
 | _::_::_,h=>by
  obtain⟨L,h⟩:=Z1g _ _ _ h
  obtain⟨L,h⟩:=Z21 _ _ _ h
  refine⟨_,fun t own I V a w hk hS ha=>?_,h⟩
  obtain⟨t',ht,hk⟩:=Sk t L [] _ (fun i g h=>by cases h) hk
  obtain⟨w',hw,hk⟩:=S0 own V.n [] _ (fun i g h=>by cases h) hk
  exact hK _ _ _ _ _ _ hk (hS.sub hw) (ha.sub ht)
theorem N5 {u:World}(h:Has I V own w)(hb:Below w.heap.size w u):Later own I V w own I V u :=
 ⟨h.below hb,⟨hb.os,hb.tape,hb.output,hb.size,fun b hlt _=>⟨hb.block b hlt,fun _=>rfl⟩,fun _ _ _ h=>h,fun k r _ hk hf _=>⟨k,r,hk,hf⟩⟩,.refl _⟩
theorem V6 {XL od late:List Nat}(hT:∀t i,look t tb=some i→TIok P t i)(hQ:∀c d v a w,Q (.panic c) (a.put d v) w→Q (.panic c) a w)(hsel:Region.noSelect ops=true)(hd:∀o∈ops.toList,∀i,o.dst=some i→i < N) :
  ∀{K:Ts→Os→Nat→Prop} (_:Nxt N own0 I0 V0 w0 K (fun a w=>Q .normal a w)) {fu:List Oper} {l:List Bool} {t:Ts} {own:Os} {I:Imm} {V:Va} {a:Act} {w:World},l.length=ops.size→F4 .any ops l.toArray→Ln tb od ops late fu.length l=true→sxD P tb XL od late ops.toList fu l t own V.n K→Since own0 I0 V0 w0 own I V w→ARep N I V a t→(∀k∈XL,k < V.n)→wpAnyG P .any ops Q late fu.length (Agree V XL w) l.toArray a w
 | K,hK,[],l,t,own,I,V,a,w,hl,hc,hok,h,hL,ha,hkX=>by
  intro u hu
  refine⟨?_,hK _ _ _ _ _ _ h (hL.trans (N5 hL.has hu)) ha⟩
  rw[List.length_nil] at hok
  unfold Ln at hok
  refine List.eq_nil_iff_forall_not_mem.2 fun i hi=>?_
  rw[Gl hl,List.isEmpty_iff.1 hok] at hi
  cases hi
 | K,hK,o0::fu,l,t,own,I,V,a,w,hl,hc,hok,h,hL,ha,hkX=>by
  rw[bc] at hok
  show wpAnyG P .any ops Q late (fu.length+1) (Agree V XL w) l.toArray a w
  have hl':∀i,(Ya l i).length=ops.size:=fun i=>by
   have:=congrArg Array.size (Hx l i)
   simp at this
   omega
  unfold Ln at hok
  have h:Zg5 P tb XL od late ops.toList o0 fu (sxD P tb XL od late ops.toList fu) l t own V.n K:=h
  unfold Zg5 at h
  cases hf:Lj tb od ops.toList (rdy l ops.toList l 0) with
  | some i =>
   rw[hf] at h hok
   dsimp only at h hok
   simp only[Bool.and_eq_true] at hok
   obtain⟨⟨k1,k2⟩,k3⟩:=hok
   obtain⟨hi,o,ho,hq⟩:=K4 hf
   rw[E7,ho] at h k2
   dsimp only at h k2
   cases hvb:Zca own XL with
   | false=>rw[hvb] at h;exact h.elim
   | true =>
   rw[hvb] at h
   dsimp only at h
   have hXL:∀k∈(Mo.quiet XL).xl,∃r,look k own=some r:=fun k hk=>by
    have:=Ac hvb k hk
    split at this
    ·next r hr=>exact⟨r,hr⟩
    ·cases this
   have ho':ops[i]?=some o:=by simpa using ho
   have hr:=(Gl hl i).2 hi
   have hd0:=hd o (ae ho)
   have hcn:=D9 hc hr
   obtain⟨t',ha',h⟩:=H0 h ha
   have rest:∀{v g},TRep I V g v→(Nk l i fun l=>sxD P tb XL od late ops.toList fu l (put o.dst g t') own V.n K)→wpAnyG P .any ops Q late fu.length (Agree V XL w) (l.toArray.setIfInBounds i true) (a.put o.dst v) w:=fun hg hk=>by
    rw[←Hx]
    rw[Jt] at hk
    exact V6 hT hQ hsel hd hK (hl' i) (by rw[Hx];exact hcn) k3 hk hL (ha'.put hd0 hg) hkX
   have finP:∀(v:Value) (g:G),YieldsIf P ops (fun _=>True) o v a→TRep I V g v→(Nk l i fun l=>sxD P tb XL od late ops.toList fu l (put o.dst g t') own V.n K)→wpAnyG P .any ops Q late (fu.length+1) (Agree V XL w) l.toArray a w:=fun v g hy hg hk =>
    Od ho' (Region.noSelect_spec hsel) (fun c a w=>hQ c _ _ a w) fu.length _ l.toArray a w hc (Region.free_spec ho' k1) hr hy (C6 _ _ _) (Ck _ _ _) (rest hg hk)
   rcases h with⟨hw,h⟩ | ⟨hw,h⟩
   ·cases hR:isR tb o with
    | false =>
     obtain⟨g,y,hk,hy,hrun⟩:=Vm (S:=fun _=>True) (mo:=.quiet XL) hT hXL (fun h=>by rw[hR] at h;cases h) hq h hL.has ha'
     exact finP y g (Z8q hw fun u _=>hrun u trivial) hy hk
    | true =>
     obtain⟨g,y,hk,hy,hrun⟩:=Vm (S:=Agree V XL w) (mo:=.quiet XL) hT hXL (fun _ u hu=>hu) hq h hL.has ha'
     rw[hR] at k2
     exact Pz ho' (Region.noSelect_spec hsel) (fun c a w=>hQ c _ _ a w) (fun j hj=>List.all_eq_true.1 k2 j hj) fu.length _ l.toArray a w hc (Region.free_spec ho' k1) hr (Z8q hw fun u hu=>hrun u hu) (C6 _ _ _) (Ck _ _ _) (rest hy hk)
   ·exact finP undef .un (Zb3 hw) (.of_v .un) h
  | none =>
   rw[hf] at h hok
   dsimp only at h hok
   cases hcs:Zf8 tb ops.toList (rdy l ops.toList l 0) with
   | some i =>
    rw[hcs] at h hok
    dsimp only at h hok
    simp only[Bool.and_eq_true] at hok
    obtain⟨k1,k3⟩:=hok
    obtain⟨hi,o,ho,hq⟩:=Z5r hcs
    rw[E7,ho] at h
    dsimp only at h
    have ho':ops[i]?=some o:=by simpa using ho
    have hr:=(Gl hl i).2 hi
    have hd0:=hd o (ae ho)
    have hcn:=D9 hc hr
    obtain⟨g,x,hcl,hcv,hk⟩:=Z6n (ops:=ops) hq ha hL.has h
    refine Ow ho' (Region.noSelect_spec hsel) (fun c a w=>hQ c _ _ a w) fu.length _ l.toArray a w hc (Region.free_spec ho' k1) hr hcl (C6 _ _ _) (Ck _ _ _) ?_
    rw[←Hx]
    rw[Jt] at hk
    exact V6 hT hQ hsel hd hK (hl' i) (by rw[Hx];exact hcn) k3 hk hL (ha.put hd0 (.of_v (U1 hcv I))) hkX
   | none =>
   rw[hcs] at h hok
   dsimp only at h hok
   intro wu hu
   have hS0:∀v,Agree V XL wu v→Agree V XL w v:=fun v hv b hb hX=>(hv b (ap hb hu.size) hX).trans (hu.block b hb)
   replace hL:=hL.trans (N5 hL.has hu)
   refine⟨fun h0=>?_,fun i hi=>?_⟩
   ·have:rdy l ops.toList l 0=[]:=List.eq_nil_iff_forall_not_mem.2 fun i hi=>by
     rw[←Gl hl,h0] at hi
     cases hi
    rw[this] at h
    exact hK _ _ _ _ _ _ h hL ha
   ·have hi':=(Gl hl i).1 hi
    have hk3:=List.all_eq_true.1 hok i hi'
    have hcn:=D9 hc hi
    obtain⟨-,o,ho',-⟩:=mem_ready.1 hi
    have ho:ops.toList[i]?=some o:=by simpa using ho'
    have hd0:=hd o (ae ho)
    obtain⟨K,hK,h⟩:=(by
     cases hr:rdy l ops.toList l 0 with
     | nil=>rw[hr] at hi';cases hi'
     | cons j rs=>rw[hr] at h hi';obtain⟨K',hK',h⟩:=Zh6 hK h;exact⟨K',hK',Qs h i hi'⟩:∃K,Nxt N own0 I0 V0 w0 K (fun a wu=>Q .normal a wu)∧match nth ops.toList i with
      | some o=>match isL tb o with
       | false=>sxG P tb .new ops.toList o t own V.n fun t wu n=>Nk l i fun l=>sxD P tb XL od late ops.toList fu l t wu n K
       | true=>match Fz i late with
        | true=>sxG P tb .late ops.toList o t own V.n fun t wu n=>Nk l i fun l=>sxD P tb XL od late ops.toList fu l t wu n K
        | false=>match vsG XL t o,Zca own XL with
         | true,true=>sxG P tb (.vs XL) ops.toList o t own V.n fun t wu n=>Nk l i fun l=>sxD P tb XL od late ops.toList fu l t wu n K
         | _,_=>False
      | none=>False)
    rw[E7,ho] at h
    dsimp only at h
    have again:∀{t own' I' V' a' wu'},(Nk l i fun l=>sxD P tb XL od late ops.toList fu l t own' V'.n K)→Since own I V wu own' I' V' wu'→ARep N I' V' a' t→F4 .any ops (l.toArray.setIfInBounds i true)→wpAnyG P .any ops Q late fu.length (Agree V' XL wu') (l.toArray.setIfInBounds i true) a' wu':=fun hk hl2 har hcc=>by
     rw[←Hx]
     rw[Jt] at hk
     exact V6 hT hQ hsel hd hK (hl' i) (by rw[Hx];exact hcn) hk3 hk (hL.tail hl2) har (fun k hk=>ap (hkX k hk) hl2.n)
    have sub:∀{own' I' V' wu'},Later own I V wu own' I' V' wu'→Agree V XL wu wu'→(∀k∈XL,∀b,V'.f k b→b < wu.heap.size→∃k'∈XL,V.f k' b)→∀u,Agree V' XL wu' u→Agree V XL w u:=fun hl2 hA hf u hu=>hS0 u fun b hb hX=>by
     rw[←hA b hb hX]
     exact hu b (ap hb hl2.fro.size) fun k hk hfb=>by
      obtain⟨k',h1,h2⟩:=hf k hk b hfb hb
      exact hX k' h1 h2
    refine wpOp_step ho' fun K1 hK1=>?_
    have skip:∀{t'},ARep N I V a t'→(Nk l i fun l=>sxD P tb XL od late ops.toList fu l (put o.dst .un t') own V.n K)→K1 (a.put o.dst undef) wu:=fun ha' h=>hK1 _ _ ⟨_,fun _=>hS0,C6 _ _ _,Ck _ _ _,fun hcc=>again h (Later.refl hL.has).since (ha'.put hd0 (.of_v .un)) hcc⟩
    cases hli:isL tb o with
    | false =>
     rw[hli] at h
     dsimp only at h
     obtain⟨t',ha',h⟩:=H0 h ha
     rcases h with⟨hw,h⟩ | ⟨hw,h⟩
     ·rw[db hw]
      cases hq:isQ tb o with
      | true =>
       obtain⟨g,y,hk,hy,hrun⟩:=Vm (S:=fun u=>u=wu) (mo:=.new) hT (fun k hk=>by cases hk) (fun _ u hu=>by rw[hu];exact C6 _ _ _) hq h hL.has ha'
       have hop:∀{Q2:Act→World→Prop},Q2 (a.put o.dst y) wu→o.wp P a wu Q2 Q:=fun {Q2} h2=>by
        unfold Oper.wp
        rw[hrun wu rfl]
        exact h2
       exact hop (hK1 _ _ ⟨_,fun _=>hS0,C6 _ _ _,Ck _ _ _,fun hcc=>again hk (Later.refl hL.has).since (ha'.put hd0 hy) hcc⟩)
      | false =>
      exact Z7s (mo:=.new) hT (fun _=>rfl) hq hli h hL.has ha' hd0 fun t own I V a w1 hk hl2 hb hkp har=>hK1 _ _ ⟨_,fun _=>sub hl2 (fun b hb' _=>hb.block b hb') (fun k hk b hf _=>⟨k,hk,hkp k (hkX k hk) b hf⟩),C6 _ _ _,Ck _ _ _,fun hcc=>again hk hl2.since har hcc⟩
     ·rw[da (by rw[hw];exact Bool.false_ne_true)]
      exact skip ha' h
    | true =>
     rw[hli] at h
     dsimp only at h
     cases hm:Fz i late with
     | true =>
      rw[hm] at h
      dsimp only at h
      obtain⟨t',ha',h⟩:=H0 h ha
      rcases h with⟨hw,h⟩ | ⟨hw,h⟩
      ·rw[db hw]
       exact Z7z (mo:=.late) (own0:=own) (I0:=I) (V0:=V) (w0:=wu) hT hli h (Later.refl hL.has).since ha' hd0 fun t own I V a w1 hk hl2 har=>hK1 _ _ ⟨_,fun hn=>dc (Ca.1 hm) hn,C6 _ _ _,Ck _ _ _,fun hcc=>again hk hl2 har hcc⟩
      ·rw[da (by rw[hw];exact Bool.false_ne_true)]
       exact skip ha' h
     | false =>
      rw[hm] at h
      dsimp only at h
      cases hvs:vsG XL t o with
      | false=>rw[hvs] at h;exact h.elim
      | true =>
       cases hvb:Zca own XL with
       | false=>rw[hvs,hvb] at h;exact h.elim
       | true =>
       rw[hvs,hvb] at h
       cases hgn:o.guard with
       | none =>
        have hvs:vsB XL t o=true:=by
         unfold vsG at hvs
         rw[hgn] at hvs
         exact hvs
        dsimp only at h
        unfold sxG at h
        rw[hgn] at h
        rw[db (Ie hgn)]
        exact Z2g hT hvs h hL.has hkX ha hd0 fun t own I V a w1 hk hl2 hA hf har=>hK1 _ _ ⟨_,fun _=>sub hl2 hA hf,C6 _ _ _,Ck _ _ _,fun hcc=>again hk hl2.since har hcc⟩
       | some gd =>
        dsimp only at h
        obtain⟨t',ha',h⟩:=H0 h ha
        rcases h with⟨hw,h⟩ | ⟨hw,h⟩
        ·rw[db hw]
         have hvs2:vsB XL t' {o with guard:=none}=true:=by
          unfold vsG at hvs
          rw[hgn] at hvs
          obtain⟨dst,op,type,pos,after,guard⟩:=o
          cases op with
          | call cl =>
           dsimp only at hvs
           cases hce:cl.callee with
           | value f=>unfold vsB;dsimp only;rw[hce]
           | _=>rw[hce] at hvs;cases hvs
          | _=>cases hvs
         have h2:K0 P tb (.vs XL) {o with guard:=none} t' own V.n fun t wu n=>Nk l i fun l=>sxD P tb XL od late ops.toList fu l t wu n K:=by
          obtain⟨dst,op,type,pos,after,guard⟩:=o
          exact h
         have key:=Z2g (o:={o with guard:=none}) (Q:=Q) (K:=fun t wu n=>Nk l i fun l=>sxD P tb XL od late ops.toList fu l t wu n K) hT hvs2 h2 hL.has hkX ha' hd0 fun t own I V a w1 hk hl2 hA hf har=>hK1 _ _ ⟨_,fun _=>sub hl2 hA hf,C6 _ _ _,Ck _ _ _,fun hcc=>again hk hl2.since har hcc⟩
         exact key
        ·rw[da (by rw[hw];exact Bool.false_ne_true)]
         exact skip ha' h
end
def Zie (N:Nat)(l:List Oper):Bool:=l.all fun o=>match o.dst with | some i=>Nat.blt i N | none=>true
def G7 (tb:List (Nat × TI))(N:Nat):Code→Bool
 | .region _ ops d=>Zie N ops.toList&&(match d with | true=>Region.noSelect ops&&Z7n tb ops.toList ops.toList 0 fun od=>Mm tb od ops.toList ops.toList 0 fun late=>Ln tb od ops late ops.toList.length (noB ops.toList) | false=>true)
 | .seq a b | .cond _ a b=>G7 tb N a&&G7 tb N b
 | .block _ a | .loop a | .scope a=>G7 tb N a
 | _=>true
def Ex.to:Ex→Exit
 | .normal=>.normal
 | .exit id=>.exit id
 | .ret=>.ret
 | .goto l=>.goto l
def Va.renS (V:Va)(m:List (Nat × Nat))(n:Nat):Va:=⟨n,V.b,fun k=>V.s (Go.Proofs.YtihfaocdpmmooaaGreat.ren m k),fun k=>V.f (Go.Proofs.YtihfaocdpmmooaaGreat.ren m k)⟩
section
variable {P:Program} {tb:List (Nat × TI)} {N n:Nat} {I I' I0:Imm} {V V' V0:Va} {a:Act} {t t':Ts} {own own' own0:Os} {w w' w0:World} {g:G} {x y:Value} {d:Option Tmp} {m:List (Nat × Nat)} {r:R}
theorem C5 (hk:Rf n g=true)(h:CRep I V (Kq m g) x):CRep I (V.renS m n) g x:=by
 cases g with
 | orv k i s o l c=>cases s<;>exact h.elim
 | ptr k o=>exact⟨ap (c9 hk) (af _),h.2⟩
 | osl k=>exact⟨ap (c9 hk) (af _),h.2⟩
 | osv k sz lo hi=>exact⟨ap (c9 hk) (af _),h.2⟩
 | mp k=>exact⟨ap (c9 hk) (af _),h.2⟩
 | oel k i s o=>exact h
 | _=>exact h
theorem Pi {cs:List G}{us:List Value}(hk:Av (Rf n) cs=true)(h:PW (CRep I V) (cs.map (Kq m)) us):PW (CRep I (V.renS m n)) cs us :=
 ⟨by have:=h.1;simpa using this,fun j g u hg hu=>C5 (Ac hk g (ae hg)) (h.2 j _ u (by rw[aj,hg];rfl) hu)⟩
theorem Az (hk:Zbq n g=true)(h:TRep1 I V (Tg m g) x):TRep1 I (V.renS m n) g x:=by
 cases g with
 | oag l =>
  obtain⟨cs,e,hp⟩:=(show ∃cs:List Value,x=.agg cs.toArray∧PW (CRep I V) (l.map (Kq m)) cs from h)
  exact⟨cs,e,Pi hk hp⟩
 | clo f a c =>
  obtain⟨⟨g,hg,hn⟩,us,cs,e,h1,h2⟩:=(show(∃g,(g∈a.map (Kq m)∨g∈c.map (Kq m))∧Bm g=false)∧_ from h)
  have hk:(match Av (Rf n) a with | true=>Av (Rf n) c | false=>false)=true:=hk
  split at hk
  ·next ha =>
   have hne:∀{g:G},Bm (Kq m g)=false→Bm g=false:=fun {g} h=>by cases g<;>first | rfl | exact h | (next sz _ _ _=>cases sz<;>rfl)
   refine⟨?_,us,cs,e,Pi ha h1,Pi hk h2⟩
   rcases hg with hg | hg
   ·obtain⟨g0,h3,rfl⟩:=az.1 hg
    exact⟨g0,.inl h3,hne hn⟩
   ·obtain⟨g0,h3,rfl⟩:=az.1 hg
    exact⟨g0,.inr h3,hne hn⟩
  ·cases hk
 | oel k i s o =>
  obtain⟨h1,h2⟩:=(show _∧_ from h)
  exact⟨ap (c9 hk) (af _),h2⟩
 | orv k i s o l c =>
  cases s with
  | zero =>
   obtain⟨h1,b,q,h2,h3⟩:=(show _∧∃b q,_∧_ from h)
   exact⟨ap (c9 hk) (af _),b,q,h2,h3⟩
  | succ s =>
   obtain⟨h1,b,q,h2,h3⟩:=(show _∧∃b q,_∧_ from h)
   exact⟨ap (c9 hk) (af _),b,q,h2,h3⟩
 | elp row o=>exact h
 | tup l=>cases hk
 | ptr k o=>exact .of_c (C5 (g:=.ptr k o) hk h)
 | osl k=>exact .of_c (C5 (g:=.osl k) hk h)
 | osv k sz lo hi=>exact .of_c (C5 (g:=.osv k sz lo hi) hk h)
 | mp k=>exact .of_c (C5 (g:=.mp k) hk h)
 | v z=>exact .of_c (C5 (m:=m) (V:=V) (g:=.v z) rfl h)
 | tt=>exact .of_c (C5 (m:=m) (V:=V) (g:=.tt) rfl h)
 | ff=>exact .of_c (C5 (m:=m) (V:=V) (g:=.ff) rfl h)
 | un=>exact .of_c (C5 (m:=m) (V:=V) (g:=.un) rfl h)
 | nl=>exact .of_c (C5 (m:=m) (V:=V) (g:=.nl) rfl h)
 | agg l=>exact .of_c (C5 (m:=m) (V:=V) (g:=.agg l) rfl h)
 | sl l=>exact .of_c (C5 (m:=m) (V:=V) (g:=.sl l) rfl h)
theorem Z30 (hk:Z58 n g=true)(h:TRep I V (renS m g) x):TRep I (V.renS m n) g x:=by
 cases g with
 | tup l =>
  obtain⟨cs,e,hp⟩:=(show ∃cs:List Value,x=.tuple cs.toArray∧PW (TRep1 I V) (l.map (Tg m)) cs from h)
  exact⟨cs,e,by simpa using hp.1,fun j g u hg hu=>Az (Ac (show Av (Zbq n) l=true from hk) g (ae hg)) (hp.2 j _ u (by rw[aj,hg];rfl) hu)⟩
 | oag l=>exact .of_1 (Az (g:=.oag l) hk h)
 | clo f a c=>exact .of_1 (Az (g:=.clo f a c) hk h)
 | oel k i s o=>exact .of_1 (Az (g:=.oel k i s o) hk h)
 | orv k i s o l c=>cases s<;>exact .of_1 (Az hk h)
 | elp row o=>exact .of_1 (g:=.elp row o) h
 | ptr k o=>exact .of_1 (Az (g:=.ptr k o) hk h)
 | osl k=>exact .of_1 (Az (g:=.osl k) hk h)
 | osv k a b c=>exact .of_1 (Az (g:=.osv k a b c) hk h)
 | mp k=>exact .of_1 (Az (g:=.mp k) hk h)
 | v z=>exact .of_1 (Az (m:=m) (V:=V) (g:=.v z) rfl h)
 | tt=>exact .of_1 (Az (m:=m) (V:=V) (g:=.tt) rfl h)
 | ff=>exact .of_1 (Az (m:=m) (V:=V) (g:=.ff) rfl h)
 | un=>exact .of_1 (Az (m:=m) (V:=V) (g:=.un) rfl h)
 | nl=>exact .of_1 (Az (m:=m) (V:=V) (g:=.nl) rfl h)
 | agg l=>exact .of_1 (Az (m:=m) (V:=V) (g:=.agg l) rfl h)
 | sl l=>exact .of_1 (Az (m:=m) (V:=V) (g:=.sl l) rfl h)
theorem Zy:∀{T:Ts},leT m t n T→∀{i g},look i T=some g→Z58 n g=true∧look i t=some (renS m g)
 | [],_,i,g,h=>by cases h
 | (j,g')::T,hT,i,g,h=>by
  rw[A3] at h
  split at h
  ·next e=>subst e;cases h;exact hT.1
  ·exact Zy hT.2 h
theorem I7:∀{T:Os},leO m own n T→∀{i r},look i T=some r→i < n∧(isS r=true∨ren m i=i)∧X2 n r=true∧look (ren m i) own=some (Z44 m r)
 | [],_,i,g,h=>by cases h
 | (j,g')::T,hT,i,g,h=>by
  rw[A3] at h
  split at h
  ·next e =>
   subst e;cases h
   have h1:=hT.1.1
   simp only[Bool.and_eq_true,Bool.or_eq_true] at h1
   exact⟨c9 h1.1,h1.2.imp id ai,hT.1.2⟩
  ·exact I7 hT.2 h
theorem Ze1 (hn:V0.n≤n)(hS:SinceC own0 I0 V0 w0 own I V w)(ha:ARep N I V a t)(h:le m t own n t' own'):SinceC own0 I0 V0 w0 own' I (V.renS m n) w∧ARep N I (V.renS m n) a t':=by
 obtain⟨h1,h2,h3⟩:=h
 have hH:=hS.has
 refine⟨⟨⟨hH.mem,fun k r hk=>(I7 h2 hk).1,fun k r hk=>?_,fun k r b hk hb=>?_,fun k k' r r' b hk hk' hb hb'=>?_⟩,⟨hS.fro.os,hS.fro.tape,hS.fro.output,hS.fro.size,hS.fro.blk,hS.fro.mono,fun k r b hk hb hlt=>?_⟩,hn,hS.bb⟩,⟨ha.defers,ha.size,fun i g hg=>?_⟩⟩
 ·obtain⟨-,k1,k2,k3⟩:=I7 h2 hk
  have hr:=hH.each _ _ k3
  have hb:isS r=true∨V.b k=V.b (ren m k):=k1.imp id fun e=>by rw[e]
  cases r with
  | blk cs ty =>
   have hb:=hb.resolve_left (fun h=>by cases h)
   obtain⟨q1,us,q2,q3⟩:=hr
   exact⟨fun b=>by show V.f (ren m k) b↔b=V.b k;rw[hb];exact q1 b,us,by show w.heap[V.b k]?=_;rw[hb];exact q2,Pi k2 q3⟩
  | slc rows e sz=>exact hr
  | vw rows e sz=>exact hr
  | froz rows sz=>exact hr
  | gone=>exact hr
  | mpI l =>
   have hb:=hb.resolve_left (fun h=>by cases h)
   exact⟨fun b=>by show V.f (ren m k) b↔b=V.b k;rw[hb];exact hr.1 b,by show MapR I w (V.b k) _ _;rw[hb];exact hr.2⟩
  | mpS l =>
   have hb:=hb.resolve_left (fun h=>by cases h)
   exact⟨fun b=>by show V.f (ren m k) b↔b=V.b k;rw[hb];exact hr.1 b,by show MapR I w (V.b k) _ _;rw[hb];exact hr.2⟩
  | sit s pos =>
   have hb:=hb.resolve_left (fun h=>by cases h)
   exact⟨fun b=>by show V.f (ren m k) b↔b=V.b k;rw[hb];exact hr.1 b,by show w.heap[V.b k]?=_;rw[hb];exact hr.2⟩
  | mpX l m2 ob =>
   have hb:=hb.resolve_left (fun h=>by cases h)
   exact⟨fun b=>by show V.f (ren m k) b↔b=V.b k;rw[hb];exact hr.1 b,(show V.b k=m2 from hb.trans hr.2.1),hr.2.2⟩
  | mit j l D last m2 ob =>
   have hb:=hb.resolve_left (fun h=>by cases h)
   obtain⟨a1,it,L,a2,a3,a4⟩:=hr
   exact⟨fun b=>by show V.f (ren m k) b↔b=V.b k;rw[hb];exact a1 b,it,L,by show w.heap[V.b k]?=_;rw[hb];exact a2,a3,fun w2 e1 e2=>by
    change w2.heap[V.b k]?=_ at e2
    show RanB w2 (V.b k) m2 Zfi id L D∧∀kg,last=some kg→∃v,VRep I kg.2 v∧∀P:Program,(Instr.entry (.pointer (some ⟨V.b k,0,none⟩))).run P w2=_
    rw[hb] at e2⊢
    exact a4 w2 e1 e2⟩
  | abs p =>
   have hb:=hb.resolve_left (fun h=>by cases h)
   exact⟨hr.1,by show p I (V.b k) (V.f (ren m k)) w;rw[hb];exact hr.2⟩
  | lnk j=>cases k2
  | adr j b=>exact⟨fun c=>hr.1 c,c9 k2,hr.2.2⟩
  | fam ps=>exact⟨hr.1,hr.2⟩
 ·obtain⟨-,-,k2,k3⟩:=I7 h2 hk
  exact hH.foot _ _ b k3 hb
 ·obtain⟨-,-,-,k3⟩:=I7 h2 hk
  obtain⟨-,-,-,k3'⟩:=I7 h2 hk'
  exact Nx h3 hk hk' (hH.disj _ _ _ _ b k3 k3' hb hb')
 ·obtain⟨-,-,-,k3⟩:=I7 h2 hk
  exact hS.fro.foot _ _ b k3 hb hlt
 ·obtain⟨k1,k2⟩:=Zy h1 hg
  obtain⟨x,hx,hr⟩:=ha.get i _ k2
  exact⟨x,hx,Z30 k1 hr⟩
def Zgr (N:Nat)(own0:Os)(I0:Imm)(V0:Va)(w0:World)(K:KC)(Q:Exit→Act→World→Prop):Prop :=
 ∀e t own I V a w,K e t own V.n→SinceC own0 I0 V0 w0 own I V w→ARep N I V a t→Q e.to a w
theorem Ta (hm:P.follows .mixedOrders=true){id:Nat}{ops:Array Oper}{Q:Exit→Act→World→Prop}{S:World→Prop}{late:List Nat}(hc:wpAnyG P .any ops Q late ops.size S (Array.replicate ops.size false) a w.drew):(Code.region id ops true).wp P Q a w :=
 wp_region_any hm (Nb _ _ _ _ _ (Kj _ rfl) hc)
theorem Zds (l:List Oper):(noB l).toArray=Array.replicate l.length false∧(noB l).length=l.length:=by
 have:noB l=List.replicate l.length false:=by
  induction l with
  | nil=>rfl
  | cons o l ih=>rw[noB,ih];rfl
 rw[this];simp
theorem Z6w (es:List Edge)(m:List Bool):∃m',∀{α:Type} (K:List Bool→α),Xl es m K=K m':=by
 induction es generalizing m with
 | nil=>exact⟨m,fun _=>rfl⟩
 | cons e es ih =>
  cases hb:Region.binds .any e with
  | true =>
   obtain⟨m',h⟩:=ih (Ya m e.on)
   exact⟨m',fun K=>by unfold Xl;rw[hb];dsimp only;rw[Jt];exact h K⟩
  | false =>
   obtain⟨m',h⟩:=ih m
   exact⟨m',fun K=>by unfold Xl;rw[hb];exact h K⟩
theorem Zv (ops:List Oper)(n:Nat)(m:List Bool):∃m',∀{α:Type} (K:List Bool→α),Ir ops n m K=K m':=by
 induction n generalizing m with
 | zero=>exact⟨m,fun _=>rfl⟩
 | succ n ih =>
  cases hb:Zbv m n with
  | true =>
   cases ho:nth ops n with
   | none =>
    obtain⟨m',h⟩:=ih m
    exact⟨m',fun K=>by unfold Ir;rw[hb,ho];exact h K⟩
   | some o =>
    obtain⟨m1,h1⟩:=Z6w o.after.toList m
    obtain⟨m',h⟩:=ih m1
    exact⟨m',fun K=>by unfold Ir;rw[hb,ho];dsimp only;rw[h1];exact h K⟩
  | false =>
   obtain⟨m',h⟩:=ih m
   exact⟨m',fun K=>by unfold Ir;rw[hb];exact h K⟩
theorem Za3 (ops:List Oper)(l:List Oper)(i:Nat):∃r,∀{α:Type} (K:List Nat→α),Z7n tb ops l i K=K r:=by
 induction l generalizing i with
 | nil=>exact⟨[],fun K=>rfl⟩
 | cons o l ih =>
  obtain⟨r,h⟩:=ih (i+1)
  cases hl:Zi0 tb ops i o with
  | false=>exact⟨r,fun K=>by unfold Z7n;rw[hl];exact h K⟩
  | true=>exact⟨i::r,fun K=>by unfold Z7n;rw[hl];exact h _⟩
theorem Z4r (od:List Nat)(ops:List Oper)(l:List Oper)(i:Nat):∃r,∀{α:Type} (K:List Nat→α),Mm tb od ops l i K=K r:=by
 induction l generalizing i with
 | nil=>exact⟨[],fun _=>rfl⟩
 | cons o l ih =>
  obtain⟨r,h⟩:=ih (i+1)
  cases hl:isL tb o with
  | false=>exact⟨r,fun K=>by unfold Mm;rw[hl];exact h K⟩
  | true =>
   obtain⟨m,hm⟩:=Zv ops (i+1) (Ya (noB ops) i)
   cases ha:Zge tb od ops m 0 with
   | true=>exact⟨i::r,fun K=>by unfold Mm;rw[hl];dsimp only;rw[Jt,hm,ha];exact h _⟩
   | false=>exact⟨r,fun K=>by unfold Mm;rw[hl];dsimp only;rw[Jt,hm,ha];exact h _⟩
theorem Sz (k:Nat):∀r:List Nat,∃r':List Nat,(∀{α:Type} (K:List Nat→α),Hk k r K=K r')∧∀j∈r',j∈r∨j=k
 | []=>⟨[k],fun _=>rfl,fun j h=>.inr (by simpa using h)⟩
 | i::r=>by
  obtain⟨r',h1,h2⟩:=Sz k r
  cases hb:Nat.beq k i with
  | true=>exact⟨i::r,fun K=>by unfold Hk;rw[hb],fun j h=>.inl h⟩
  | false =>
   refine⟨i::r',fun K=>by unfold Hk;rw[hb];exact h1 _,fun j h=>?_⟩
   rcases bh.1 h with rfl | h
   ·exact .inl (by simp)
   ·exact(h2 j h).imp (fun h=>by simp[h]) id
def GathLt {α:Type}(n:Nat)(F:List Nat→(List Nat→α)→α):Prop:=∀r,(∀k∈r,k < n)→∃r':List Nat,(∀k∈r',k < n)∧∀K:List Nat→α,F r K=K r'
theorem GathLt.seq {α:Type}{n:Nat}{F F':List Nat→(List Nat→α)→α}(h:GathLt n F)(h':GathLt n F'):GathLt n (fun r K=>F r fun r=>F' r K):=fun r hr=>by
 obtain⟨r1,a1,a2⟩:=h r hr
 obtain⟨r2,b1,b2⟩:=h' r1 a1
 exact⟨r2,b1,fun K=>(a2 _).trans (b2 K)⟩
theorem GathLt.none {α:Type}{n:Nat}:GathLt n (fun r (K:List Nat→α)=>K r):=fun r hr=>⟨r,hr,fun _=>rfl⟩
theorem Bi {α:Type}{n k:Nat}(hk:k < n):GathLt (α:=α) n (fun r K=>Hk k r K):=fun r hr=>by
 obtain⟨r',h1,h2⟩:=Sz k r
 exact⟨r',fun j hj=>(h2 j hj).elim (hr j) (fun e=>by omega),fun K=>h1 K⟩
theorem Zj2 {α:Type}(h:CRep I V g x):GathLt (α:=α) V.n (fun r K=>vaC g r K):=by
 cases g with
 | ptr k o=>exact Bi h.1
 | _=>exact GathLt.none
theorem Zai {α:Type}:∀{l:List G} {us:List Value},PW (CRep I V) l us→GathLt (α:=α) V.n (fun r K=>Zfr l r K)
 | [],_,_=>GathLt.none
 | g::l,us,h=>by
  obtain⟨x,us',rfl,h1,h2⟩:=h.uncons
  exact(Zj2 h1).seq (Zai h2)
theorem Zin {α:Type}(h:TRep I V g x):GathLt (α:=α) V.n (fun r K=>va1 g r K):=by
 cases g with
 | clo f a c =>
  obtain⟨-,us,cs,-,h1,h2⟩:=(show TRep1 I V (.clo f a c) x from h)
  exact(Zai h1).seq (Zai h2)
 | ptr k o=>exact Bi (C4 h).1
 | _=>exact GathLt.none
theorem I5 {ops:List Oper}{k:Nat}:∀{n d:Nat},Lf t ops n d=some k→∃d' o,look d' t=some (.ptr k o)
 | 0,_,h=>by cases h
 | n+1,d,h=>by
  unfold Lf at h
  split at h
  ·next hl=>cases h;exact⟨d,_,hl⟩
  ·cases h
  ·split at h
   ·exact I5 h
   ·cases h
theorem N1 {ops:List Oper}{k:Nat}:∀{n d:Nat},Z1x t ops n d=some k→∃d',look d' t=some (.osl k)
 | 0,_,h=>by cases h
 | n+1,d,h=>by
  unfold Z1x at h
  split at h
  ·next hl=>cases h;exact⟨d,hl⟩
  ·cases h
  ·split at h
   ·exact N1 h
   ·cases h
theorem Zhw {α:Type}(ha:ARep N I V a t)(ops:List Oper):∀l:List Operand,GathLt (α:=α) V.n (fun r K=>vsS t ops l r K)
 | []=>GathLt.none
 | y::l=>fun r hr=>by
  have ih:=Zhw (α:=α) ha ops l
  cases y with
  | tmp d =>
   cases hro:Z1x t ops 8 d with
   | none =>
    obtain⟨r',h1,h2⟩:=ih r hr
    exact⟨r',h1,fun K=>by show vsS t ops (.tmp d::l) r K=_;unfold vsS;rw[hro];exact h2 K⟩
   | some k =>
    obtain⟨_,hl2⟩:=N1 hro
    obtain⟨y,hy,hg⟩:=ha.get _ _ hl2
    obtain⟨r1,a1,a2⟩:=Bi (α:=α) (show k < V.n from(show CRep I V (.osl k) y from hg).1) r hr
    obtain⟨r2,b1,b2⟩:=ih r1 a1
    exact⟨r2,b1,fun K=>by show vsS t ops (.tmp d::l) r K=_;unfold vsS;rw[hro];exact(a2 _).trans (b2 K)⟩
  | _=>exact ih r hr
theorem Zdc {α:Type}(ha:ARep N I V a t)(b:Bool)(ops:List Oper)(l:List Operand):GathLt (α:=α) V.n (fun r K=>Zhp b t ops l r K):=by
 cases b with
 | true=>exact Zhw ha ops l
 | false=>exact GathLt.none
theorem Zi2 {α:Type}(ha:ARep N I V a t)(ops:List Oper):∀l:List Operand,GathLt (α:=α) V.n (fun r K=>vaL t ops l r K)
 | []=>GathLt.none
 | y::l=>fun r hr=>by
  have ih:=Zi2 (α:=α) ha ops l
  cases y with
  | tmp d =>
   cases hl:look d t with
   | none =>
    cases hro:Lf t ops 8 d with
    | none =>
     obtain⟨r',h1,h2⟩:=ih r hr
     exact⟨r',h1,fun K=>by show vaL t ops (.tmp d::l) r K=_;unfold vaL;dsimp only;rw[hl];dsimp only;rw[hro];exact h2 K⟩
    | some k =>
     obtain⟨_,_,hl2⟩:=I5 hro
     obtain⟨y,hy,hg⟩:=ha.get _ _ hl2
     obtain⟨r1,a1,a2⟩:=Bi (α:=α) (C4 hg).1 r hr
     obtain⟨r2,b1,b2⟩:=ih r1 a1
     exact⟨r2,b1,fun K=>by show vaL t ops (.tmp d::l) r K=_;unfold vaL;dsimp only;rw[hl];dsimp only;rw[hro];exact(a2 _).trans (b2 K)⟩
   | some g =>
    obtain⟨z,hz,hg⟩:=ha.get d g hl
    obtain⟨r1,a1,a2⟩:=Zin (α:=α) hg r hr
    obtain⟨r2,b1,b2⟩:=ih r1 a1
    exact⟨r2,b1,fun K=>by show vaL t ops (.tmp d::l) r K=_;unfold vaL;dsimp only;rw[hl];exact(a2 _).trans (b2 K)⟩
  | _=>exact ih r hr
theorem Zed (h:CRep I V g x):GathLt (α:=Prop) V.n (fun r K=>gkC g r K):=by
 cases g with
 | ptr k o=>exact Bi h.1
 | osl k=>exact Bi h.1
 | osv k a b c=>exact Bi h.1
 | oel k i s o=>exact h.elim
 | mp k=>exact Bi h.1
 | _=>exact GathLt.none
theorem Z13:∀{l:List G} {us:List Value},PW (CRep I V) l us→GathLt (α:=Prop) V.n (fun r K=>Z9p l r K)
 | [],_,_=>GathLt.none
 | g::l,us,h=>by
  obtain⟨x,us',rfl,h1,h2⟩:=h.uncons
  exact(Zed h1).seq (Z13 h2)
theorem Ub (hH:Has I V own w):∀l:List Nat,GathLt (α:=Prop) V.n (fun r K=>Oi own l r K)
 | []=>GathLt.none
 | k::l=>fun r hr=>by
  have ih:=Ub hH l
  show ∃r':List Nat,_∧∀K:List Nat→Prop,Oi own (k::l) r K=K r'
  unfold Oi
  split
  ·next cs t hl =>
   obtain⟨-,us,-,hp⟩:=hH.each k _ hl
   obtain⟨r1,a1,a2⟩:=Z13 hp r hr
   obtain⟨r2,b1,b2⟩:=ih r1 a1
   exact⟨r2,b1,fun K=>(a2 _).trans (b2 K)⟩
  ·exact ih r hr
theorem Z8i (hH:Has I V own w):∀n:Nat,GathLt (α:=Prop) V.n (fun r K=>trK own n r K)
 | 0=>GathLt.none
 | n+1=>fun r hr=>by
  obtain⟨r1,a1,a2⟩:=Ub hH r r hr
  obtain⟨r2,b1,b2⟩:=Z8i hH n r1 a1
  exact⟨r2,b1,fun K=>(a2 _).trans (b2 K)⟩
theorem Z23 {α:Type}{n:Nat}:∀w:Os,(∀k r,(k,r)∈w→k < n)→GathLt (α:=α) n (fun r K=>Zef w r K)
 | [],_=>GathLt.none
 | (k,q)::l,h=>fun r hr=>by
  have ih:=Z23 (α:=α) l fun k r hk=>h k r (by simp[hk])
  cases q with
  | abs p =>
   obtain⟨r1,a1,a2⟩:=Bi (α:=α) (h k _ (by simp:(k,R.abs p)∈_)) r hr
   obtain⟨r2,b1,b2⟩:=ih r1 a1
   exact⟨r2,b1,fun K=>(a2 _).trans (b2 K)⟩
  | fam p =>
   obtain⟨r1,a1,a2⟩:=Bi (α:=α) (h k _ (by simp:(k,R.fam p)∈_)) r hr
   obtain⟨r2,b1,b2⟩:=ih r1 a1
   exact⟨r2,b1,fun K=>(a2 _).trans (b2 K)⟩
  | _=>exact ih r hr
theorem Z05 {α:Type}{n:Nat}:∀w:Os,(∀k r,(k,r)∈w→k < n)→GathLt (α:=α) n (fun r K=>Ze6 w r K)
 | [],_=>GathLt.none
 | (k,q)::l,h=>fun r hr=>by
  have ih:=Z05 (α:=α) l fun k r hk=>h k r (by simp[hk])
  cases q with
  | mpI p =>
   obtain⟨r1,a1,a2⟩:=Bi (α:=α) (h k _ (by simp:(k,R.mpI p)∈_)) r hr
   obtain⟨r2,b1,b2⟩:=ih r1 a1
   exact⟨r2,b1,fun K=>(a2 _).trans (b2 K)⟩
  | mpS p =>
   obtain⟨r1,a1,a2⟩:=Bi (α:=α) (h k _ (by simp:(k,R.mpS p)∈_)) r hr
   obtain⟨r2,b1,b2⟩:=ih r1 a1
   exact⟨r2,b1,fun K=>(a2 _).trans (b2 K)⟩
  | _=>exact ih r hr
theorem Hw {α:Type}{k:Nat}{x:α}:∀{l:List (Nat × α)},(k,x)∈l→∃y,look k l=some y
 | [],h=>by simp at h
 | (j,y)::l,h=>by
  rw[A3]
  by_cases e:k=j
  ·rw[db e];exact⟨y,rfl⟩
  ·rw[da e]
   rcases bh.1 h with h | h
   ·exact dc (congrArg Prod.fst h) e
   ·exact Hw h
theorem Zdg {α:Type}{o:Os}{n:Nat}(h:∀k r,look k o=some r→k < n):∀l:List G,GathLt (α:=α) n (fun r K=>Z5e o l r K)
 | []=>GathLt.none
 | g::l=>fun r hr=>by
  have ih:=Zdg (α:=α) h l
  cases g with
  | osl k =>
   cases hk:look k o with
   | none =>
    obtain⟨r',h1,h2⟩:=ih r hr
    exact⟨r',h1,fun K=>by show Z5e o (.osl k::l) r K=_;unfold Z5e;dsimp only;rw[hk];exact h2 K⟩
   | some q =>
    obtain⟨r1,a1,a2⟩:=Bi (α:=α) (h k q hk) r hr
    obtain⟨r2,b1,b2⟩:=ih r1 a1
    exact⟨r2,b1,fun K=>by show Z5e o (.osl k::l) r K=_;unfold Z5e;dsimp only;rw[hk];exact(a2 _).trans (b2 K)⟩
  | _=>exact ih r hr
theorem Zic {α:Type}{o:Os}{n:Nat}(h:∀k r,look k o=some r→k < n)(t:Ts)(ops:List Oper)(x:Operand):GathLt (α:=α) n (fun r K=>ldS t o ops x r K):=by
 unfold ldS
 split
 ·split
  ·exact GathLt.none
  ·split
   ·split
    ·split
     ·exact Zdg h _
     ·exact GathLt.none
    ·exact GathLt.none
   ·exact GathLt.none
 ·exact GathLt.none
theorem Zay (hH:Has I V own w)(ha:ARep N I V a t)(late:List Nat)(ops l:List Oper)(i:Nat)(r0:List Nat)(h0:∀k∈r0,k < V.n):∃r:List Nat,(∀k∈r,k < V.n)∧∀K:List Nat→Prop,Y1 tb late t own ops l i r0 K=K r:=by
 have key:∀(l:List Oper) (i:Nat) (r0:List Nat),(∀k∈r0,k < V.n)→∃r:List Nat,(∀k∈r,k < V.n)∧∀K:List Nat→Prop,Y1 tb late t own ops l i r0 K=K r:=fun l=>by
  induction l with
  | nil=>exact fun i r0 h0=>⟨r0,h0,fun _=>rfl⟩
  | cons o l ih =>
   intro i r0 h0
   unfold Y1
   split
   ·split
    ·next hro =>
     obtain⟨_,_,hl⟩:=I5 hro
     obtain⟨y,hy,hg⟩:=ha.get _ _ hl
     obtain⟨r1,a1,a2⟩:=Sz _ r0
     obtain⟨r,b1,b2⟩:=ih (i+1) r1 (fun j hj=>(a2 j hj).elim (h0 j) fun e=>by rw[e];exact(C4 hg).1)
     exact⟨r,b1,fun K=>(a1 _).trans (b2 K)⟩
    ·exact ih (i+1) r0 h0
   ·split
    ·next f _ =>
     obtain⟨r1',a1',a2'⟩:=Zi2 (α:=Prop) ha ops (f::_) r0 h0
     obtain⟨r1,a1,a2''⟩:=Zdc (α:=Prop) ha (Ri (Zdn tb) _) ops _ r1' a1'
     obtain⟨r2,c1,c2⟩:=Z23 (α:=Prop) own (fun k r hk=>by obtain⟨y,hy⟩:=Hw hk;exact hH.num k y hy) r1 a1
     cases Ri (Ze0 tb) _ with
     | true =>
      obtain⟨r3,d1,d2⟩:=Z05 (α:=Prop) own (fun k r hk=>by obtain⟨y,hy⟩:=Hw hk;exact hH.num k y hy) r2 c1
      obtain⟨r,b1,b2⟩:=ih (i+1) r3 d1
      exact⟨r,b1,fun K=>(a2' _).trans ((a2'' _).trans ((c2 _).trans ((d2 _).trans (b2 K))))⟩
     | false =>
      obtain⟨r,b1,b2⟩:=ih (i+1) r2 c1
      exact⟨r,b1,fun K=>(a2' _).trans ((a2'' _).trans ((c2 _).trans (b2 K)))⟩
    ·split
     ·next x _ _ =>
      obtain⟨r1,a1,a2⟩:=Zdc (α:=Prop) ha true ops [x] r0 h0
      obtain⟨r2,c1,c2⟩:=Zic (α:=Prop) (fun k r hk=>hH.num k r hk) t ops x r1 a1
      obtain⟨r,b1,b2⟩:=ih (i+1) r2 c1
      exact⟨r,b1,fun K=>(a2 _).trans ((c2 _).trans (b2 K))⟩
     ·exact ih (i+1) r0 h0
    ·exact ih (i+1) r0 h0
   ·exact ih (i+1) r0 h0
 exact key l i r0 h0
def OkM (P:Program)(tb:List (Nat × TI))(N:Nat)(own0:Os)(I0:Imm)(V0:Va)(w0:World)(c:Code)(m:MC):Prop :=
 ∀{t:Ts} {own:Os} {I:Imm} {V:Va} {a:Act} {w:World} {K:KC} {Q:Exit→Act→World→Prop},m t own V.n K→SinceC own0 I0 V0 w0 own I V w→ARep N I V a t→G7 tb N c=true→(∀ch d v a w,Q (.panic ch) (a.put d v) w→Q (.panic ch) a w)→Zgr N own0 I0 V0 w0 K Q→c.wp P Q a w
def LabM (P:Program)(tb:List (Nat × TI))(N:Nat)(own0:Os)(I0:Imm)(V0:Va)(w0:World)(c:Code)(m:MC):Prop :=
 (Td c=none→∀l,findLabel c l=none)∧∀l,Td c=some l→∃rest,findLabel c l=some rest∧OkM P tb N own0 I0 V0 w0 rest m∧(G7 tb N c=true→G7 tb N rest=true)
theorem LabM.no {c:Code}{m:MC}(e:Td c=none)(h:∀l,findLabel c l=none):LabM P tb N own0 I0 V0 w0 c m:=⟨fun _=>h,fun _ h=>by rw[e] at h;cases h⟩
theorem OkM.seq {x y:Code}{p q:MC}(hx:OkM P tb N own0 I0 V0 w0 x p)(hy:OkM P tb N own0 I0 V0 w0 y q)(x' y':Code):OkM P tb N own0 I0 V0 w0 (.seq x y) (Zt x' y' p q):=by
 intro t own I V a w K Q h hL ha hc hQ hK
 simp only[G7,Bool.and_eq_true] at hc
 unfold Zt at h
 refine wp_seq (hx h hL ha hc.1 (fun ch d v a w=>hQ ch d v a w) fun e t own I V a w hk hL ha=>?_)
 cases e with
 | normal=>exact hy hk hL ha hc.2 hQ hK
 | exit id=>exact hK (.exit id) _ _ _ _ _ _ hk hL ha
 | ret=>exact hK .ret _ _ _ _ _ _ hk hL ha
 | goto l=>exact hK (.goto l) _ _ _ _ _ _ hk hL ha
theorem OkM.stay {x:Code}{p:MC}(hx:OkM P tb N own0 I0 V0 w0 x p){t:Ts}{own:Os}{I:Imm}{V:Va}{a:Act}{w:World}{K:KC}{Q:Exit→Act→World→Prop}(l:Nat)(J:Act→World→Prop)(h:Mv p t own V.n K)(hL:SinceC own0 I0 V0 w0 own I V w)(ha:ARep N I V a t)(hc:G7 tb N x=true)(hQ:∀ch d v a w,Q (.panic ch) (a.put d v) w→Q (.panic ch) a w)(hK:Zgr N own0 I0 V0 w0 K Q):x.wp P (Exit.jump l J Q) a w:=by
 unfold Mv at h
 refine hx h hL ha hc (fun ch d v a w=>hQ ch d v a w) fun e t own I V a w hk hL ha=>?_
 cases e with
 | normal=>exact hK .normal _ _ _ _ _ _ hk hL ha
 | exit id=>exact hK (.exit id) _ _ _ _ _ _ hk hL ha
 | ret=>exact hK .ret _ _ _ _ _ _ hk hL ha
 | goto l=>exact hk.elim
theorem OkM.scope {x:Code}{m:MP}(hx:OkM P tb N own0 I0 V0 w0 x (m true))(ho:LabM P tb N own0 I0 V0 w0 x (m false)):OkM P tb N own0 I0 V0 w0 (.scope x) (Ro x m):=by
 intro t own I V a w K Q h hL ha hc hQ hK
 have hc:G7 tb N x=true:=hc
 unfold Ro at h
 cases hl:Td x with
 | none =>
  rw[hl] at h
  refine wp_scope_straight (Code.wp_mono ?_ (hx.stay 0 (fun _ _=>False) h hL ha hc hQ hK))
  intro e a w q
  cases e with
  | goto l=>exact q.2.elim
  | _=>exact q
 | some l =>
  rw[hl] at h
  obtain⟨rest,h1,h2,h3⟩:=ho.2 l hl
  refine wp_scope_jumps l (fun a w=>∃t own I V,Mv (m false) t own V.n K∧SinceC own0 I0 V0 w0 own I V w∧ARep N I V a t) (fun _ _=>0) h1 ?_ ?_
  ·refine hx h hL ha hc (fun ch d v a w=>hQ ch d v a w) fun e t own I V a w hk hL ha=>?_
   cases e with
   | normal=>exact hK .normal _ _ _ _ _ _ hk hL ha
   | exit id=>exact hK (.exit id) _ _ _ _ _ _ hk hL ha
   | ret=>exact hK .ret _ _ _ _ _ _ hk hL ha
   | goto l' =>
    have hk:(bif Nat.beq l' l then Mv (m false) t own V.n K else False):=hk
    cases hb:Nat.beq l' l with
    | true=>rw[hb] at hk;exact⟨ai hb,t,own,I,V,hk,hL,ha⟩
    | false=>rw[hb] at hk;exact hk.elim
  ·rintro a1 w1 ⟨t,own,I,V,hk,hL,ha⟩
   exact h2.stay l _ hk hL ha (h3 hc) hQ hK
theorem Zey (hT:∀t i,look t tb=some i→TIok P t i)(hm:P.follows .mixedOrders=true):∀c:Code,OkM P tb N own0 I0 V0 w0 c (sxM P tb c true)∧LabM P tb N own0 I0 V0 w0 c (sxM P tb c false):=by
 intro c
 induction c with
 | skip=>exact⟨by intro t own I V a w K Q h hL ha _ _ hK;exact wp_skip (hK .normal _ _ _ _ _ _ h hL ha),.no rfl fun _=>rfl⟩
 | label l =>
  refine⟨by intro t own I V a w K Q h hL ha _ _ hK;exact wp_label (hK .normal _ _ _ _ _ _ h hL ha),⟨fun e=>(by cases e),fun l' e=>?_⟩⟩
  have e:some l=some l':=e
  cases e
  exact⟨.skip,by simp[findLabel],by intro t own I V a w K Q h hL ha _ _ hK;exact wp_skip (hK .normal _ _ _ _ _ _ h hL ha),fun _=>rfl⟩
 | ret=>exact⟨by intro t own I V a w K Q h hL ha _ _ hK;exact wp_ret (hK .ret _ _ _ _ _ _ h hL ha),.no rfl fun _=>rfl⟩
 | exit id=>exact⟨by intro t own I V a w K Q h hL ha _ _ hK;exact wp_exit (hK (.exit id) _ _ _ _ _ _ h hL ha),.no rfl fun _=>rfl⟩
 | goto l=>exact⟨by intro t own I V a w K Q h hL ha _ _ hK;exact wp_goto (hK (.goto l) _ _ _ _ _ _ h hL ha),.no rfl fun _=>rfl⟩
 | scope x ih=>exact⟨OkM.scope ih.1 ih.2,.no rfl fun _=>rfl⟩
 | seq x y ihx ihy =>
  refine⟨OkM.seq ihx.1 ihy.1 x y,fun e l=>?_,fun l e=>?_⟩
  ·have e:(match Td x with | some l=>some l | none=>Td y)=none:=e
   cases hx:Td x with
   | some o=>rw[hx] at e;cases e
   | none=>rw[hx] at e;simp only[findLabel,ihx.2.1 hx l];exact ihy.2.1 e l
  ·have e:(match Td x with | some l=>some l | none=>Td y)=some l:=e
   show ∃rest,findLabel (.seq x y) l=some rest∧OkM P tb N own0 I0 V0 w0 rest (match Td x with | some _=>Zt x y (sxM P tb x false) (sxM P tb y true) | none=>sxM P tb y false)∧_
   cases hx:Td x with
   | some o =>
    rw[hx] at e
    cases e
    obtain⟨rest,h1,h2,h3⟩:=ihx.2.2 _ hx
    refine⟨.seq rest y,by simp only[findLabel,h1],OkM.seq h2 ihy.1 x y,fun hc=>?_⟩
    simp only[G7,Bool.and_eq_true] at hc⊢
    exact⟨h3 hc.1,hc.2⟩
   | none =>
    rw[hx] at e
    obtain⟨rest,h1,h2,h3⟩:=ihy.2.2 _ e
    refine⟨rest,by simp only[findLabel,ihx.2.1 hx l];exact h1,h2,fun hc=>?_⟩
    simp only[G7,Bool.and_eq_true] at hc
    exact h3 hc.2
 | cond c x y ihx ihy =>
  refine⟨?_,.no rfl fun _=>rfl⟩
  intro t own I V a w K Q h hL ha hc hQ hK
  simp only[G7,Bool.and_eq_true] at hc
  have h:Z25 c x y (sxM P tb x true) (sxM P tb y true) t own V.n K:=h
  unfold Z25 at h
  obtain⟨g,h,hg⟩:=B0 h ha hL.has
  cases g with
  | tt=>exact wp_cond_true (by generalize a.eval c=z at hg;cases(show VRep I .tt z from hg);rfl) (ihx.1 h hL ha hc.1 hQ hK)
  | ff=>exact wp_cond_false (by generalize a.eval c=z at hg;cases(show VRep I .ff z from hg);rfl) (ihy.1 h hL ha hc.2 hQ hK)
  | v z =>
   have e:=As hg
   cases z with
   | bool b=>exact wp_cond_split e (fun hb=>ihx.1 (h.1 hb) hL ha hc.1 hQ hK) (fun hb=>ihy.1 (h.2 hb) hL ha hc.2 hQ hK)
   | _=>exact h.elim
  | _=>exact h.elim
 | block id x ih =>
  refine⟨?_,.no rfl fun _=>rfl⟩
  intro t own I V a w K Q h hL ha hc hQ hK
  have h:Th id x (sxM P tb x true) t own V.n K:=h
  unfold Th at h
  refine wp_block (ih.1 h hL ha hc (fun ch d v a w=>hQ ch d v a w) fun e t own I V a w hk hL ha=>?_)
  cases e with
  | normal=>exact hK .normal _ _ _ _ _ _ hk hL ha
  | exit id' =>
   show if id'=id then Q .normal a w else Q (.exit id') a w
   dsimp only at hk
   by_cases hi:id'=id
   ·subst hi
    rw[db rfl]
    rw[Nat.beq_refl] at hk
    exact hK .normal _ _ _ _ _ _ hk hL ha
   ·rw[da hi]
    have h2:Nat.beq id' id=false:=by
     cases hb:Nat.beq id' id with
     | false=>rfl
     | true=>exact dc (ai hb) hi
    rw[h2] at hk
    exact hK (.exit id') _ _ _ _ _ _ hk hL ha
  | goto l=>exact hK (.goto l) _ _ _ _ _ _ hk hL ha
  | ret=>exact hK .ret _ _ _ _ _ _ hk hL ha
 | loop x ih =>
  refine⟨?_,.no rfl fun _=>rfl⟩
  intro t own I V a w K Q h hL ha hc hQ hK
  have h:Kb x (sxM P tb x true) t own V.n K:=h
  unfold Kb at h
  obtain⟨w1o,Ig,Vg,⟨bb,X,st,dd,In,μ,⟨x0,h0,hle⟩,hround⟩,lg⟩:=Sv h rfl hL.has
  replace hL:=hL.trans lg
  replace ha:=ha.mono lg.fro.mono lg.va
  have hn0:=hL.n
  let At:X→Act→World→Prop:=fun x a w=>In x∧∃I V',V'.n=Vg.n∧SinceC own0 I0 V0 w0 (st x).2 I V' w∧ARep N I V' a (st x).1
  have h1:=Ze1 hL.n hL ha hle
  refine wp_loop_ghost (fun k a w=>∃x,At x a w∧μ x=k) (μ x0) ⟨x0,⟨h0,Ig,_,rfl,h1.1,h1.2⟩,rfl⟩ fun k a1 w1 hI=>?_
  obtain⟨x1,⟨hi,I1,V1,hn,hS,hA⟩,rfl⟩:=hI
  have hb:=hround x1 hi
  rw[←hn] at hb
  refine ih.1 hb hS hA hc (fun ch d v a w=>hQ ch d v a w) fun e t own I V a w hk hL ha=>?_
  have fin:∀{own:Os} {I:Imm} {V:Va},Pg st In μ V1.n x1 K e t own V.n→SinceC own0 I0 V0 w0 own I V w→ARep N I V a t→(match e.to with | .normal=>∃m,m < μ x1∧∃x,At x a w∧μ x=m | e=>Q e a w):=fun {own I V} hk hL ha=>by
   cases e with
   | normal =>
    obtain⟨y,m,hy,hlt,hle⟩:=hk
    have h2:=Ze1 (n:=V1.n) (by omega) hL ha hle
    exact⟨μ y,hlt,y,⟨hy,I,_,by simp[Va.renS,hn],h2.1,h2.2⟩,rfl⟩
   | exit id=>exact hK (.exit id) _ _ _ _ _ _ hk hL ha
   | goto l=>exact hK (.goto l) _ _ _ _ _ _ hk hL ha
   | ret=>exact hK .ret _ _ _ _ _ _ hk hL ha
  have hk2:∃(own':Os) (I':Imm) (V':Va),Pg st In μ V1.n x1 K e t own' V'.n∧SinceC own0 I0 V0 w0 own' I' V' w∧ARep N I' V' a t:=by
   cases bb with
   | false =>
    refine⟨own,I,V,?_,hL,ha⟩
    cases e with
    | normal=>obtain⟨y,hy,hlt,hle⟩:=hk;exact⟨y,_,hy,hlt,hle⟩
    | _=>exact hk
   | true =>
    obtain⟨w2,I2,V2,hk,l2⟩:=Sv (show P9 st dd In μ V1.n x1 K e t own V.n from hk) rfl hL.has
    exact⟨w2,I2,V2,hk,hL.trans l2,ha.mono l2.fro.mono l2.va⟩
  obtain⟨own',I',V',q1,q2,q3⟩:=hk2
  have:=fin q1 q2 q3
  cases e<;>exact this
 | region id ops dr =>
  refine⟨?_,.no rfl fun _=>rfl⟩
  intro t own I V a w K Q h hL ha hc hQ hK
  simp only[G7,Bool.and_eq_true] at hc
  have hd:∀o∈ops.toList,∀i,o.dst=some i→i < N:=fun o ho i hi=>by
   have:=List.all_eq_true.1 hc.1 o ho
   rw[hi] at this
   exact c9 this
  have h:Zaf P tb id ops dr t own V.n K:=h
  unfold Zaf at h
  cases dr with
  | false=>exact wp_region_list (Zn (own0:=own) (I0:=I) (V0:=V) (w0:=w) hT (fun t own I V a w hk hl ha=>hK .normal _ _ _ _ _ _ hk (hL.tail hl) ha) h (Later.refl hL.has).since ha hd)
  | true =>
   have hc2:=hc.2
   simp only[Bool.and_eq_true] at hc2
   have hH:Has I V own w.drew:=hL.has.heap rfl rfl
   have hL2:Since own I V w own I V w.drew:=⟨hH,⟨rfl,rfl,rfl,af _,fun _ _ _=>⟨rfl,fun _=>rfl⟩,fun _ _ _ h=>h,fun k r b e hb _=>⟨k,r,e,hb⟩⟩,af _,fun _ _=>rfl,fun _ _=>rfl⟩
   have hn:=Zds ops.toList
   obtain⟨od,hord⟩:=Za3 (tb:=tb) ops.toList ops.toList 0
   obtain⟨late,hlate⟩:=Z4r (tb:=tb) od ops.toList ops.toList 0
   obtain⟨XL,hXL,hvol⟩:=Zay (tb:=tb) hL.has ha late ops.toList ops.toList 0 [] (fun k hk=>by simp at hk)
   have h:Z7n tb ops.toList ops.toList 0 fun od=>Mm tb od ops.toList ops.toList 0 fun late=>Y1 tb late t own ops.toList ops.toList 0 [] fun XL=>trK own 3 XL fun XL=>sxD P tb XL od late ops.toList ops.toList (noB ops.toList) t own V.n (K .normal):=h
   rw[hord,hlate] at hc2
   obtain⟨XL2,hXL2,htr⟩:=Z8i hL.has 3 XL hXL
   have htr:∀K:List Nat→Prop,trK own 3 XL K=K XL2:=htr
   rw[hord,hlate,hvol,htr] at h
   refine Ta hm (late:=late) (S:=Agree V XL2 w.drew) ?_
   have:=V6 (fu:=ops.toList) (l:=noB ops.toList) hT hQ hc2.1 hd (fun t own I V a w hk hl ha=>hK .normal _ _ _ _ _ _ hk (hL.tail hl) ha) (by rw[hn.2];simp) (by rw[hn.1];exact Kj _ (by simp)) hc2.2 h hL2 ha hXL2
   rw[hn.1] at this
   simpa using this
 | rangeFunc f ps x y _ _=>exact⟨fun h=>False.elim h,.no rfl fun _=>rfl⟩
 | refuse s=>exact⟨fun h=>False.elim h,.no rfl fun _=>rfl⟩
theorem Z7p (hT:∀t i,look t tb=some i→TIok P t i)(hm:P.follows .mixedOrders=true){c:Code}{t:Ts}{own:Os}{I:Imm}{V:Va}{a:Act}{w:World}{K:KC}{Q:Exit→Act→World→Prop}(h:sxC P tb c t own V.n K)(hL:SinceC own0 I0 V0 w0 own I V w)(ha:ARep N I V a t)(hc:G7 tb N c=true)(hQ:∀ch d v a w,Q (.panic ch) (a.put d v) w→Q (.panic ch) a w)(hK:Zgr N own0 I0 V0 w0 K Q):c.wp P Q a w :=
 (Zey hT hm c).1 h hL ha hc hQ hK
end
section
variable {P:Program} {tb:List (Nat × TI)} {N n:Nat} {I I' I0:Imm} {V V' V0:Va} {a:Act} {t t':Ts} {own own' own0:Os} {w w' w0:World} {g:G} {x y:Value}
def Ip (tmps:Array Value):ResultVar→Sem Value
 | .tmp t=>pure (tmps.getD t undef)
 | .cell x t=>do loadVar t (←asAddr (tmps.getD x undef))
def E4 (P:Program)(a:Act)(w:World)(r:ResultVar)(v:Value):Prop:=(Ip a.tmps r).run P w=.ok v w
theorem Up (hT:∀t i,look t tb=some i→TIok P t i){r:ResultVar}{K1:G→Os→Prop}(h:Zad tb t own K1 r)(hH:Has I V own w)(ha:ARep N I V a t):∃g own' I' V' v,K1 g own'∧V'.n=V.n∧Later own I V w own' I' V' w∧VRep I' g v∧E4 P a w r v:=by
 cases r with
 | tmp i =>
  unfold Zad at h
  dsimp only at h
  cases hl:look i t with
  | none=>rw[hl] at h;exact h.elim
  | some g =>
   rw[hl] at h
   obtain⟨x,hx,hr⟩:=ha.get i g hl
   obtain⟨g',o1,I1,V1,h1,hn,h3,h4⟩:=Z84 h hr hH
   exact⟨g',o1,I1,V1,x,h1,hn.1,h3,h4,by unfold E4 Ip;simp[hx]⟩
 | cell i ty =>
  unfold Zad at h
  dsimp only at h
  split at h
  ·next k off ti hl hty =>
   obtain⟨x,hx,hr⟩:=ha.get i _ hl
   obtain⟨hk,rfl⟩:=C4 hr
   split at h
   ·next cs ty' hb =>
    obtain⟨us,h1,h2,h3⟩:=Lv hH hb
    have hti:=hT _ _ hty
    cases hag:ti.agg with
    | true =>
     rw[hag] at h
     obtain⟨l,k1,k2,-⟩:=Lr h h2
     obtain⟨l',o1,I1,V1,q1,qn,q3,q4⟩:=P4 k1 k2 hH
     have hlen:((us.drop off).take ti.zero.length).length=ti.zero.length:=by
      rcases Nat.eq_zero_or_pos ti.zero.length with h0 | h0
      ·rw[h0];simp
      ·have:=Oc h h2 h0;simp;omega
     refine⟨_,o1,I1,V1,_,q1,qn.1,q3,Zgd q4,?_⟩
     have:=D3 (P:=P) (w:=w) (g:=V.b k) (k:=off) (ty:=ty) (cs:=(us.drop off).take ti.zero.length) (by rw[hti.agg,hag]) (by rw[hti.size,hlen]) (fun j v hv=>by rw[h3];exact Im hv)
     unfold E4 Ip
     simp[hx,asAddr,this]
    | false =>
     rw[hag,E7] at h
     dsimp only at h
     cases hc:cs[off]? with
     | none=>rw[hc] at h;exact h.elim
     | some g =>
      rw[hc] at h
      obtain⟨v,hv,hg⟩:=h2.get hc
      obtain⟨g',o1,I1,V1,q1,qn,q3,q4⟩:=Dn h hg hH
      refine⟨g',o1,I1,V1,v,q1,qn.1,q3,q4,?_⟩
      have hcell:=(h3 off).trans hv
      unfold E4 Ip
      simp[hx,asAddr,loadVar,Gg (P:=P) (show Qu P ty=some false by rw[hti.agg,hag]),hcell]
   ·exact h.elim
  ·exact h.elim
theorem Za5 (hT:∀t i,look t tb=some i→TIok P t i){r:ResultVar}{K1:G→Os→Prop}(h:Zad tb t own K1 r)(hH:Has I V own w)(ha:ARep N I V a t):∃g own' I' V' v,K1 g own'∧Later own I V w own' I' V' w∧VRep I' g v∧E4 P a w r v:=by
 obtain⟨g,o,I',V',v,h1,-,h2⟩:=Up hT h hH ha
 exact⟨g,o,I',V',v,h1,h2⟩
theorem T2 (hT:∀t i,look t tb=some i→TIok P t i):∀{rs:List ResultVar} {own:Os} {I:Imm} {V:Va} {K1:List G→Prop},Z9b tb t own rs K1→Has I V own w→ARep N I V a t→∃gs own' I' V',∃vs:List Value,K1 gs∧Later own I V w own' I' V' w∧PW (VRep I') gs vs∧vs.length=rs.length∧∀(i:Nat) r v,rs[i]?=some r→vs[i]?=some v→E4 P a w r v
 | [],own,I,V,K1,h,hH,_=>⟨[],own,I,V,[],h,.refl hH,.nil,rfl,fun i r v h=>by simp at h⟩
 | r::rs,own,I,V,K1,h,hH,ha=>by
  obtain⟨g,o1,I1,V1,v,h1,h2,h3,h4⟩:=Za5 (K1:=fun g w'=>Z9b tb t w' rs fun gs=>K1 (g::gs)) hT h hH ha
  obtain⟨gs,o2,I2,V2,vs,k1,k2,k3,k4,k5⟩:=T2 hT h1 h2.has (ha.mono h2.fro.mono h2.va)
  refine⟨g::gs,o2,I2,V2,v::vs,k1,h2.trans k2,.cons (h3.mono k2.fro.mono) k3,by simp[k4],fun i r' v' hr hv=>?_⟩
  cases i with
  | zero=>simp at hr hv;subst hr hv;exact h4
  | succ i=>exact k5 i r' v' (by simpa using hr) (by simpa using hv)
theorem Uy:∀{rs:List ResultVar} {vs:List Value},vs.length=rs.length→(∀(i:Nat) r v,rs[i]?=some r→vs[i]?=some v→E4 P a w r v)→(rs.mapM (Ip a.tmps)).run P w=.ok vs w
 | [],vs,h,_=>by rw[al h];simp
 | r::rs,[],h,_=>by simp at h
 | r::rs,v::vs,h,hr=>by
  have h1:=hr 0 r v rfl rfl
  have h2:=Uy (rs:=rs) (vs:=vs) (by simpa using h) fun i r v h h'=>hr (i+1) r v (by simpa using h) (by simpa using h')
  unfold E4 at h1
  rw[List.mapM_cons,Sem.run_bind,h1,Result.andThen_ok,Sem.run_bind,h2,Result.andThen_ok,Sem.run_pure]
def Qh:List Value→Value
 | [v]=>v
 | vs=>.tuple vs.toArray
theorem Ft {fn:Func}{vs:List Value}(hl:vs.length=fn.results.toList.length)(hr:∀(i:Nat) r v,fn.results.toList[i]?=some r→vs[i]?=some v→E4 P a w r v):(results fn a.tmps).run P w=.ok (Qh vs) w:=by
 have h:=Uy hl hr
 have e:results fn a.tmps=(do let vs ←fn.results.mapM (Ip a.tmps);pure (if h:vs.size=1 then vs[0] else .tuple vs)):=by
  unfold results
  congr 2
 rw[e,Sem.run_bind,Array.mapM_eq_mapM_toList]
 simp only[Sem.run_map,h,Result.andThen_ok,Sem.run_pure]
 cases vs with
 | nil=>simp[Qh]
 | cons v vs =>
  cases vs with
  | nil=>simp[Qh]
  | cons u vs=>simp[Qh]
theorem Js:∀{l:List G} {k i:Nat} {g:G},look i (Mh k l)=some g→∃j,i=k+j∧l[j]?=some g
 | [],k,i,g,h=>by cases h
 | g'::l,k,i,g,h=>by
  unfold Mh at h
  rw[A3] at h
  split at h
  ·next e=>cases h;exact⟨0,by omega,rfl⟩
  ·obtain⟨j,h1,h2⟩:=Js h
   exact⟨j+1,by omega,by simpa using h2⟩
theorem Z65 (hT:∀t i,look t tb=some i→TIok P t i)(hm:P.follows .mixedOrders=true){f:FuncId}{fn:Func}{c:Code}{gs:List G}{Q:G→Prop}(hf:P.funcs[f]?=some fn)(hname:(fn.name=="runtime.NumGoroutine")=false) (hb:fn.body=some c) (hn:gs.length≤fn.ntmps) (hc:G7 tb fn.ntmps c=true)
  (h:sxC P tb c (Mh 0 gs) [] 0 (Zck tb fn Q)):FnV P f gs Q:=by
 refine⟨⟨fn,hf,hname,by rw[hb];rfl⟩,fun I w vs hM hp=>?_⟩
 let V:Va:=⟨0,fun _=>0,fun _=>undef,fun _ _=>False⟩
 have hH:Has I V [] w:=⟨hM,fun k r h=>(by cases h),fun k r h=>(by cases h),fun k r b h=>(by cases h),fun k k' r r' b h=>(by cases h)⟩
 refine calls_of_wp hf hb ?_
 have hlen:vs.length=gs.length:=hp.1.symm
 have ha:ARep fn.ntmps I V {tmps:=vs.toArray++Array.replicate (fn.ntmps - vs.toArray.size) undef,defers:=[]} (Mh 0 gs):=by
  refine⟨rfl,by simp;omega,fun i g hg=>?_⟩
  obtain⟨j,e,hj⟩:=Js hg
  obtain rfl:i=j:=by omega
  obtain⟨u,hu,hr⟩:=hp.get hj
  refine⟨u,?_,.of_v hr⟩
  have hi:=(ac.1 hu).1
  show(vs.toArray++_)[i]?=_
  rw[Array.getElem?_append_left (by simpa using hi)]
  simpa using hu
 refine Z7p (own0:=[]) (I0:=I) (V0:=V) (w0:=w) hT hm (V:=V) h ⟨hH,.refl _ _ _ _,af _,fun _ _=>rfl⟩ ha hc (fun ch d v a w hq=>?_) fun e t own I1 V1 a w1 hk hS hA=>?_
 ·cases d<;>exact hq
 ·have key:(∀id,e≠.exit id)→bodyPost P fn (fun e w'=>∃x g I',e=.returned x∧Q g∧Mem I' w'∧VR I' g x∧(∀b o x,I b o=some x→I' b o=some x)∧(∀b o,b < w.heap.size→I' b o=I b o)∧Below w.heap.size w w') .ret a w1:=fun he=>by
   refine⟨hA.defers,?_⟩
   have hk:match fn.results.toList with
     | [r]=>Z9b tb t own [r] fun gs=>match gs with
      | [g]=>Q g
      | _=>False
     | rs=>Z9b tb t own rs fun gs=>Q (.tup gs):=by
    cases e with
    | exit id=>exact dc rfl (he id)
    | goto l=>exact hk.elim
    | normal=>exact hk
    | ret=>exact hk
   have fin:∀{gs own' I' V' vs},Later own I1 V1 w1 own' I' V' w1→PW (VRep I') gs vs→∀{g x},Q g→VR I' g x→∃x' g I',Ending.returned x=.returned x'∧Q g∧Mem I' w1∧VR I' g x'∧(∀b o x,I b o=some x→I' b o=some x)∧(∀b o,b < w.heap.size→I' b o=I b o)∧Below w.heap.size w w1:=fun {gs own' I' V' vs} hl _ {g x} hq hv=>by
    have hfro:=hS.fro.trans hl.fro
    exact⟨x,g,I',rfl,hq,hl.has.mem,hv,hfro.mono,fun b o hb=>(hfro.blk b hb fun k r hk=>(by cases hk)).2 o,⟨hfro.os,hfro.tape,hfro.output,hfro.size,fun b hb=>(hfro.blk b hb fun k r hk=>(by cases hk)).1⟩⟩
   split at hk
   ·next r hr =>
    obtain⟨gs,o2,I2,V2,vs,k1,k2,k3,k4,k5⟩:=T2 hT hk hS.has hA
    rw[←hr] at k4 k5
    refine⟨_,Ft k4 k5,?_⟩
    cases gs with
    | nil=>exact k1.elim
    | cons g gs =>
     cases gs with
     | cons g' gs=>exact k1.elim
     | nil =>
      obtain⟨v,vs',rfl,hv,hn⟩:=k3.uncons
      obtain rfl:=hn.of_nil
      refine fin k2 k3 k1 ?_
      cases g with
      | tup l=>cases hv
      | _=>exact hv
   ·next rs hr =>
    obtain⟨gs,o2,I2,V2,vs,k1,k2,k3,k4,k5⟩:=T2 hT hk hS.has hA
    refine⟨_,Ft k4 k5,?_⟩
    have hv1:∀v,vs≠[v]:=fun v e=>by
     rw[e] at k4
     cases hq:fn.results.toList with
     | nil=>rw[hq] at k4;simp at k4
     | cons r l =>
      cases l with
      | nil=>exact hr r hq
      | cons r' l=>rw[hq] at k4;simp at k4
    have e:Qh vs=.tuple vs.toArray:=by
     unfold Qh
     split
     ·next v=>exact dc rfl (hv1 v)
     ·rfl
    rw[e]
    exact fin k2 k3 k1 ⟨vs,rfl,k3⟩
  cases e with
  | normal=>exact key fun id h=>by cases h
  | exit id=>exact hk.elim
  | goto l=>exact hk.elim
  | ret=>exact key fun id h=>by cases h
theorem FnV.mono {f:FuncId}{gs:List G}{Q Q':G→Prop}(h:FnV P f gs Q)(hq:∀g,Q g→Q' g):FnV P f gs Q' :=
 ⟨h.1,fun I w vs hM hp=>(h.2 I w vs hM hp).mono fun _ _ ⟨x,g,I',h1,h2,h3⟩=>⟨x,g,I',h1,hq g h2,h3⟩⟩
theorem Z3u (hT:∀t i,look t tb=some i→TIok P t i){r:ResultVar}{K1:G→Os→Prop}(h:Z1c tb t own K1 r)(hH:Has I V own w)(ha:ARep N I V a t):∃g own' I' V' v,K1 g own'∧V'.n=V.n∧Later own I V w own' I' V' w∧PRep I' V' g v∧E4 P a w r v:=by
 cases r with
 | tmp i =>
  unfold Z1c at h
  dsimp only at h
  cases hl:look i t with
  | none=>rw[hl] at h;exact h.elim
  | some g =>
   rw[hl] at h
   obtain⟨x,hx,hr⟩:=ha.get i g hl
   obtain⟨g',o1,I1,V1,h1,h2,h3,h4⟩:=Z3d h hr hH
   exact⟨g',o1,I1,V1,x,h1,h2.1,h3,h4,by unfold E4 Ip;simp[hx]⟩
 | cell i ty =>
  obtain⟨g',o1,I1,V1,v,h1,h2,h3,h4,h5⟩:=Up (K1:=K1) hT (show Zad tb t own K1 (.cell i ty) from h) hH ha
  exact⟨g',o1,I1,V1,v,h1,h2,h3,.of_v h4,h5⟩
end
def Z9a:G→Bool
 | .osl _ | .osv _ _ _ _ | .oel _ _ _ _=>false
 | _=>true
def Zhx:G→Bool
 | .osl _ | .osv _ _ _ _ | .oel _ _ _ _ | .orv _ _ _ _ _ _=>false
 | .clo _ a c=>match Av Z9a a with
  | true=>Av Z9a c
  | false=>false
 | .oag l=>Av Z9a l
 | _=>true
structure Zau (rs:List R)(gs:List G)(own0:Os)(n0:Nat)(gs0:List G)(roots:List Nat):Prop where
 run:∀I V w vs,Has I V (B7 rs 0) w→V.n=rs.length→PW (PRep I V) gs vs→∃V2:Va,V2.n=n0∧Has I V2 own0 w∧PW (TRep I V2) gs0 vs∧Fro (B7 rs 0) I V w own0 I V2 w∧∀(i r:Nat),roots[i]?=some r→V2.b r=V.b i∧r < n0
 len:roots.length=rs.length
section
variable {P:Program} {tb:List (Nat × TI)} {N n n0:Nat} {I I' I0:Imm} {V V' V0 V2:Va} {a:Act} {t t':Ts} {own own' own0:Os} {w w' w0:World} {g:G} {x y:Value} {r:R} {k:Nat}
theorem C3 (rs:List R)(gs:List G):Zau rs gs (B7 rs 0) rs.length gs (List.range rs.length) :=
 ⟨fun I V w vs hH hn hp=>⟨V,hn,hH,hp.mono fun _ _ h=>h.to_t,.refl _ _ _ _,fun i r h=>by
  have hi:=(ac.1 h).1
  rw[cp (by simpa using hi)] at h
  cases h
  exact⟨rfl,by simpa using hi⟩⟩,by simp⟩
theorem Vk {α:Type}(k:Nat):∀(l m:List (Nat × α)),look k (l++m)=(look k l).or (look k m)
 | [],m=>by simp[look]
 | (j,g)::l,m=>by
  rw[c8,A3,A3,Vk k l m]
  split<;>simp
theorem Z9i {O:Os}{n0:Nat}{rest:List R}{gs gs0:List G}{own0:Os}{roots:List Nat}(hk:(S5 n0 O&&Av J3 rest&&Av Zhx gs&&(look 0 O).isSome)=true)(ho:O++B7 rest n0=own0)(hg:gs.map (Pj (opM 1 n0 rest))=gs0)(hr:0::(List.range rest.length).map (n0+·)=roots):Zau (.abs (cl O)::rest) gs own0 (n0+rest.length) gs0 roots:=by
 subst ho hg hr
 simp only[Bool.and_eq_true] at hk
 obtain⟨⟨⟨hk,hno⟩,harg⟩,hO0⟩:=hk
 obtain⟨r0,hr0⟩:=Option.isSome_iff_exists.1 hO0
 have h0:0 < n0:=(Fn hk hr0).1
 refine⟨fun I V w vs hH hn hp=>?_,by simp⟩
 have hn:V.n=rest.length+1:=hn
 obtain⟨-,VO,hb0,hO,hS⟩:=hH.each 0 (.abs (cl O)) rfl
 let V2:Va:=⟨n0+rest.length,fun k=>if k < n0 then VO.b k else V.b (k - n0+1),fun k=>if k < n0 then VO.s k else V.s (k - n0+1),fun k=>if k < n0 then VO.f k else V.f (k - n0+1)⟩
 have lk:∀k r,look k (O++B7 rest n0)=some r→(k < n0∧look k O=some r)∨(n0≤k∧rest[k - n0]?=some r):=fun k r h=>by
  rw[Vk] at h
  cases hkO:look k O with
  | some r'=>rw[hkO] at h;cases h;exact .inl ⟨(Fn hk hkO).1,rfl⟩
  | none =>
   rw[hkO] at h
   have h:look k (B7 rest n0)=some r:=h
   rw[La] at h
   split at h
   ·next hle=>exact .inr ⟨hle,h⟩
   ·cases h
 have lo:∀i r,rest[i]?=some r→look (i+1) (B7 (.abs (cl O)::rest) 0)=some r:=fun i r h=>by rw[Af];simpa using h
 have hf1:∀k,k < n0→V2.f k=VO.f k:=fun k hk=>db hk
 have hf2:∀k,n0≤k→V2.f k=V.f (k - n0+1):=fun k hk=>da (by omega)
 have inS:∀k r b,look k O=some r→VO.f k b→V.f 0 b:=fun k r b hk hb=>(hS b).2 ⟨k,r,hk,hb⟩
 refine⟨V2,rfl,⟨hH.mem,fun k r h=>?_,fun k r h=>?_,fun k r b h hb=>?_,fun k k' r r' b h h' hb hb'=>?_⟩,?_,⟨rfl,rfl,rfl,af _,fun _ _ _=>⟨rfl,fun _=>rfl⟩,fun _ _ _ h=>h,fun k r b h hb _=>?_⟩,fun i r h=>?_⟩
 ·show k < n0+rest.length
  rcases lk k r h with⟨h1,-⟩ | ⟨h1,h2⟩
  ·omega
  ·have:=(ac.1 h2).1;omega
 ·rcases lk k r h with⟨h1,h2⟩ | ⟨h1,h2⟩
  ·exact(hO.each k r h2).val (Fn hk h2).2 (Nat.le_add_right _ _) (fun j hj=>⟨db hj,db hj⟩) h1 (hf1 k h1)
  ·exact(hH.each _ r (lo _ r h2)).lend (Ac hno r (ae h2)) (da (by omega)) (da (by omega)) (hf2 k h1)
 ·rcases lk k r h with⟨h1,h2⟩ | ⟨h1,h2⟩
  ·rw[hf1 k h1] at hb;exact hH.foot 0 _ b rfl (inS k r b h2 hb)
  ·rw[hf2 k h1] at hb;exact hH.foot _ r b (lo _ r h2) hb
 ·rcases lk k r h with⟨h1,h2⟩ | ⟨h1,h2⟩
  ·rw[hf1 k h1] at hb
   rcases lk k' r' h' with⟨h1',h2'⟩ | ⟨h1',h2'⟩
   ·rw[hf1 k' h1'] at hb';exact hO.disj k k' r r' b h2 h2' hb hb'
   ·rw[hf2 k' h1'] at hb'
    have:=hH.disj _ _ _ _ b rfl (lo _ r' h2') (inS k r b h2 hb) hb'
    omega
  ·rw[hf2 k h1] at hb
   rcases lk k' r' h' with⟨h1',h2'⟩ | ⟨h1',h2'⟩
   ·rw[hf1 k' h1'] at hb'
    have:=hH.disj _ _ _ _ b rfl (lo _ r h2) (inS k' r' b h2' hb') hb
    omega
   ·rw[hf2 k' h1'] at hb'
    have:=hH.disj _ _ _ _ b (lo _ r h2) (lo _ r' h2') hb hb'
    omega
 ·have kb:∀k,k < V.n→(look k (opM 1 n0 rest)).getD k < V2.n∧V2.b ((look k (opM 1 n0 rest)).getD k)=V.b k:=fun k hk=>by
   rw[P7]
   cases k with
   | zero=>rw[da (by omega)];exact⟨by show 0 < n0+_;omega,by show(if 0 < n0 then _ else _)=_;rw[db h0];exact hb0⟩
   | succ k =>
    rw[db ⟨by omega,by omega⟩,Option.getD_some]
    have e:n0+(k+1 - 1) - n0+1=k+1:=by omega
    exact⟨by show n0+(k+1 - 1) < n0+_;omega,by show(if _ < n0 then _ else _)=_;rw[da (by omega),e]⟩
  have cr:∀g x,Z9a g=true→CRep I V g x→CRep I V2 (K7 (opM 1 n0 rest) g) x:=fun g x hc h=>by
   cases g with
   | ptr k o=>exact⟨(kb k h.1).1,by rw[(kb k h.1).2];exact h.2⟩
   | mp k=>exact⟨(kb k h.1).1,by rw[(kb k h.1).2];exact h.2⟩
   | osl k=>cases hc
   | osv k a b c=>cases hc
   | _=>exact h
  have crl:∀l us,Av Z9a l=true→PW (CRep I V) l us→PW (CRep I V2) (l.map (K7 (opM 1 n0 rest))) us:=fun l us hc h=>⟨by simpa using h.1,fun j g u hg hu=>by
   rw[aj] at hg
   obtain⟨g0,h1,rfl⟩:=ax.1 hg
   exact cr g0 u (Ac hc g0 (ae h1)) (h.2 j g0 u h1 hu)⟩
  refine⟨by simpa using hp.1,fun j g u hg hu=>?_⟩
  rw[aj] at hg
  obtain⟨g0,h1,rfl⟩:=ax.1 hg
  have hc:=Ac harg g0 (ae h1)
  have hq:=hp.2 j g0 u h1 hu
  cases g0 with
  | ptr k o=>exact .of_c (cr (.ptr k o) u rfl hq)
  | mp k=>exact .of_c (cr (.mp k) u rfl hq)
  | osl k=>cases hc
  | osv k a b c=>cases hc
  | oel k a b c=>cases hc
  | orv k a b c d e=>cases hc
  | clo f a c =>
   obtain⟨⟨g,hg,hk⟩,us,cs,e,k1,k2⟩:=hq
   have hc:(match Av Z9a a with | true=>Av Z9a c | false=>false)=true:=hc
   split at hc
   ·next hc1 =>
    have hk2:Bm (K7 (opM 1 n0 rest) g)=false:=by cases g<;>first | rfl | cases hk
    exact .of_1 (g:=.clo f _ _) ⟨⟨_,hg.imp (fun h=>az.2 ⟨g,h,rfl⟩) (fun h=>az.2 ⟨g,h,rfl⟩),hk2⟩,us,cs,e,crl _ _ hc1 k1,crl _ _ hc k2⟩
   ·cases hc
  | v z=>exact .of_v (g:=.v z) hq
  | tt=>exact .of_v (g:=.tt) hq
  | ff=>exact .of_v (g:=.ff) hq
  | un=>exact .of_v (g:=.un) hq
  | nl=>exact .of_v (g:=.nl) hq
  | agg l=>exact .of_v (g:=.agg l) hq
  | sl l=>exact .of_v (g:=.sl l) hq
  | oag l =>
   obtain⟨-,cs,e,hp⟩:=(show(∃g∈l,Bm g=false)∧TRep1 I V (.oag l) u from hq)
   exact .of_1 (g:=.oag _) ⟨cs,e,crl _ _ hc hp⟩
  | tup l=>cases(show VRep I (.tup l) u from hq)
  | elp l o=>cases(show VRep I (.elp l o) u from hq)
 ·rcases lk k r h with⟨h1,h2⟩ | ⟨h1,h2⟩
  ·rw[hf1 k h1] at hb;exact⟨0,_,rfl,inS k r b h2 hb⟩
  ·rw[hf2 k h1] at hb;exact⟨_,r,lo _ r h2,hb⟩
 ·cases i with
  | zero =>
   simp at h
   subst h
   exact⟨(db h0:(if 0 < n0 then VO.b 0 else _)=VO.b 0).trans hb0,by omega⟩
  | succ i =>
   simp only[List.getElem?_cons_succ,List.getElem?_map] at h
   obtain⟨j,h1,rfl⟩:=ax.1 h
   have hi:i < rest.length:=by simpa using (ac.1 h1).1
   rw[cp hi] at h1
   cases h1
   exact⟨(da (by omega):(if n0+i < n0 then VO.b (n0+i) else V.b (n0+i - n0+1))=_).trans (by congr 1;omega),by omega⟩
theorem Lq:∀{its:List It} {i:Nat} {it:It} {k:Nat},its[i]?=some it→k∈it.keys→k∈Tc its
 | [],_,_,_,h,_=>by simp at h
 | it0::its,0,it,k,h,hk=>by simp at h;subst h;exact List.mem_append_left _ hk
 | it0::its,i+1,it,k,h,hk=>List.mem_append_right _ (Lq (by simpa using h) hk)
theorem Nz:∀{l m:List Nat},Mn (l++m)=true→Mn l=true∧Mn m=true∧∀k,k∈l→k ∉ m
 | [],m,h=>⟨rfl,h,fun k hk=>by simp at hk⟩
 | k::l,m,h=>by
  rw[c8] at h
  unfold Mn at h
  cases hm:Fz k (l++m) with
  | true=>rw[hm] at h;cases h
  | false =>
   rw[hm] at h
   obtain⟨h1,h2,h3⟩:=Nz h
   have hn:k ∉ l++m:=fun hk=>by rw[Ca.2 hk] at hm;cases hm
   refine⟨?_,h2,fun j hj=>?_⟩
   ·unfold Mn
    have:Fz k l=false:=by
     cases hb:Fz k l with
     | false=>rfl
     | true=>exact dc (List.mem_append_left _ (Ca.1 hb)) hn
    rw[this];exact h1
   ·rcases bh.1 hj with rfl | hj
    ·exact fun h=>hn (List.mem_append_right _ h)
    ·exact h3 j hj
theorem N3:∀{its:List It},Mn (Tc its)=true→∀{i j:Nat} {a b:It} {k:Nat},its[i]?=some a→its[j]?=some b→k∈a.keys→k∈b.keys→i=j
 | [],_,i,_,_,_,_,h,_,_,_=>by simp at h
 | it0::its,hn,i,j,a,b,k,hi,hj,hk,hk'=>by
  obtain⟨-,h2,h3⟩:=Nz (show Mn (it0.keys++Tc its)=true from hn)
  cases i with
  | zero =>
   cases j with
   | zero=>rfl
   | succ j=>simp at hi;subst hi;exact dc (Lq (by simpa using hj) hk') (h3 k hk)
  | succ i =>
   cases j with
   | zero=>simp at hj;subst hj;exact dc (Lq (by simpa using hi) hk) (h3 k hk')
   | succ j =>
    have:=N3 h2 (i:=i) (j:=j) (by simpa using hi) (by simpa using hj) hk hk'
    omega
theorem Qb:∀{its:List It},Mn (Tc its)=true→∀{i:Nat} {a:It},its[i]?=some a→Mn a.keys=true
 | [],_,i,_,h=>by simp at h
 | it0::its,hn,i,a,hi=>by
  obtain⟨h1,h2,-⟩:=Nz (show Mn (it0.keys++Tc its)=true from hn)
  cases i with
  | zero=>simp at hi;subst hi;exact h1
  | succ i=>exact Qb h2 (by simpa using hi)
theorem Lh {n0 N:Nat}{M:List (Nat × Nat)}:∀{its:List It} {j:Nat},Za4 own n n0 N M j its→∀{i:Nat} {a:It},its[i]?=some a→a.ok own n n0 N M (j+i)
 | [],_,_,i,_,h=>by simp at h
 | it0::its,j,hn,i,a,hi=>by
  cases i with
  | zero=>simp at hi;subst hi;exact hn.1
  | succ i =>
   have:=Lh (j:=j+1) hn.2 (i:=i) (by simpa using hi)
   rw[show j+1+i=j+(i+1) by omega] at this
   exact this
theorem Nh:∀(its:List It) (j i:Nat),look i (Er its j)=if j≤i then(its[i - j]?).map It.root else none
 | [],j,i=>by simp[Er,look]
 | it::its,j,i=>by
  rw[Er,A3,Nh its (j+1) i]
  by_cases h:i=j
  ·subst h;simp
  ·by_cases h2:j≤i
   ·obtain⟨d,rfl⟩:=Nat.exists_eq_add_of_le h2
    cases d with
    | zero=>simp at h
    | succ d=>rw[da h,db (by omega),db h2,show j+(d+1) - (j+1)=d by omega,show j+(d+1) - j=d+1 by omega];simp
   ·rw[da h,da h2,da (by omega)]
theorem Vz {it:It}{k:Nat}{r:R}(h:look k it.O=some r):ren it.m k∈it.keys:=az.2 ⟨(k,r),Nw h,rfl⟩
theorem Z74 {roots:List Nat}{Q:G→List R→Prop}{its:List It}{g':G}(hE:Z7e roots own V.n g Q its g')(hH:Has I V own w)(hx:PRes I V g x)(s0:Nat→Value):∃V':Va,V'.n=its.length∧Has I V' (B7 (its.map It.res) 0) w∧PRes I V' g' x∧(∀i b,V'.f i b→∃k r,look k own=some r∧V.f k b)∧(∀(i k:Nat),roots[i]?=some k→V'.b i=V.b k∧i < its.length)∧∀i,i < roots.length→V'.s i=s0 i:=by
 let V':Va:=⟨its.length,fun i=>V.b ((its[i]?).elim 0 It.root),fun i=>if i < roots.length then s0 i else V.s ((its[i]?).elim 0 It.root),fun i b=>∃it k r,its[i]?=some it∧look k it.O=some r∧V.f (ren it.m k) b⟩
 have own_of:∀{i:Nat} {it:It} {k:Nat} {r:R},its[i]?=some it→look k it.O=some r→∃r',look (ren it.m k) own=some r':=fun {i it k r} hi hk=>by
  have hok:=Lh hE.ok hi
  obtain⟨O,m,c⟩:=it
  cases c with
  | true =>
   obtain⟨-,-,h4⟩:=Cd (show leI m own V.n O from hok.1) hk
   exact⟨_,h4⟩
  | false =>
   obtain⟨r0,e,h1,-⟩:=hok
   have e:O=[(0,r0)]:=e
   subst e
   have hk:look k [(0,r0)]=some r:=hk
   rw[A3] at hk
   split at hk
   ·next e=>subst e;exact⟨_,h1⟩
   ·cases hk
 have lk:∀{i:Nat} {r:R},look i (B7 (its.map It.res) 0)=some r→∃it,its[i]?=some it∧r=it.res:=fun {i r} h=>by
  rw[Af,aj] at h
  obtain⟨it,h1,h2⟩:=ax.1 h
  exact⟨it,h1,h2.symm⟩
 have hb:∀{i:Nat} {it:It},its[i]?=some it→V'.b i=V.b (ren it.m 0):=fun {i it} h=>by
  show V.b ((its[i]?).elim 0 It.root)=_
  rw[h];rfl
 have hs:∀{i:Nat} {it:It},its[i]?=some it→roots.length≤i→V'.s i=V.s (ren it.m 0):=fun {i it} h hi=>by
  show(if i < roots.length then s0 i else V.s ((its[i]?).elim 0 It.root))=_
  rw[da (by omega),h];rfl
 have key:∀k,k < its.length→∃it,its[k]?=some it∧(look k (Er its 0)).getD k=ren it.m 0:=fun k hk=>by
  refine⟨its[k],ab hk,?_⟩
  rw[Nh,db (ah _),Nat.sub_zero,ab hk]
  rfl
 refine⟨V',rfl,⟨hH.mem,fun i r h=>?_,fun i r h=>?_,fun i r b h hf=>?_,fun i j r r' b h h' hf hf'=>?_⟩,?_,fun i b ⟨it,k,r,h1,h2,h3⟩=>(by obtain⟨r',h4⟩:=own_of h1 h2;exact⟨_,r',h4,h3⟩),fun i k hk=>?_,fun i hi=>db hi⟩
 ·obtain⟨it,h1,-⟩:=lk h
  exact(ac.1 h1).1
 ·obtain⟨it,h1,rfl⟩:=lk h
  have hok:=Lh hE.ok h1
  obtain⟨O,m,c⟩:=it
  cases c with
  | true =>
   obtain⟨h2,r0,h3⟩:=hok
   have h2:leI m own V.n O:=h2
   refine⟨Zw O,V.ren m V.n,?_,⟨fun k r hk=>(Cd h2 hk).1,fun k r hk=>Vn (Cd h2 hk).2.1 (hH.each _ _ (Cd h2 hk).2.2),fun k r b hk hf=>(hH.foot _ _ b (Cd h2 hk).2.2 hf).1,fun k k' r r' b hk hk' hf hf'=>?_⟩,fun c=>?_⟩
   ·exact(hb h1).symm
   ·exact Nx (m:=m) (l:=O) (Qb hE.nod h1) hk hk' (hH.disj _ _ _ _ b (Cd h2 hk).2.2 (Cd h2 hk').2.2 hf hf')
   ·constructor
    ·rintro⟨it',k,r,e,hk,hf⟩
     rw[h1] at e
     cases e
     exact⟨k,r,hk,hf⟩
    ·rintro⟨k,r,hk,hf⟩
     exact⟨_,k,r,h1,hk,hf⟩
  | false =>
   obtain⟨r,e,hlk,hr⟩:=hok
   have e:O=[(0,r)]:=e
   subst e
   simp only[Bool.and_eq_true] at hr
   obtain⟨hr1,hr2,hr3⟩:=hr
   have hrr:=hH.each _ _ hlk
   have hfe:V'.f i=V.f (ren m 0):=by
    funext b
    apply propext
    constructor
    ·rintro⟨it',k,r',e,hk,hf⟩
     rw[h1] at e
     cases e
     have hk:look k [(0,r)]=some r':=hk
     rw[A3] at hk
     split at hk
     ·next e=>subst e;exact hf
     ·cases hk
    ·exact fun hf=>⟨_,0,r,h1,rfl,hf⟩
   have hbe:=hb h1
   have hse:=hs h1
   show RRep I V' i w r
   have hrr:RRep I V (ren m 0) w (Hs (Er its 0) r):=hrr
   cases r with
   | blk cs t =>
    obtain⟨q1,us,q2,q3⟩:=hrr
    refine⟨fun b=>by rw[hfe,hbe];exact q1 b,us,by rw[hbe];exact q2,by simpa using q3.1,fun j g u hg hu=>?_⟩
    have hk:=Ac (show Av (Rf its.length) cs=true from hr1) g (ae hg)
    have hn:=Ac (show Av (Zc0 roots.length) cs=true from hr2) g (ae hg)
    have h:=q3.2 j _ u (by rw[aj,hg];rfl) hu
    cases g with
    | ptr k o =>
     have hk:=c9 hk
     obtain⟨it,h3,h4⟩:=key k hk
     have h:CRep I V (.ptr ((look k (Er its 0)).getD k) o) u:=h
     rw[h4] at h
     exact⟨hk,by rw[hb h3];exact h.2⟩
    | mp k =>
     have hk:=c9 hk
     obtain⟨it,h3,h4⟩:=key k hk
     have h:CRep I V (.mp ((look k (Er its 0)).getD k)) u:=h
     rw[h4] at h
     exact⟨hk,by rw[hb h3];exact h.2⟩
    | osl k =>
     have hk:=c9 hk
     obtain⟨it,h3,h4⟩:=key k hk
     have h:CRep I V (.osl ((look k (Er its 0)).getD k)) u:=h
     rw[h4] at h
     exact⟨hk,by rw[hs h3 (c9 hn)];exact h.2⟩
    | osv k a b c =>
     have hk:=c9 hk
     obtain⟨it,h3,h4⟩:=key k hk
     have h:CRep I V (.osv ((look k (Er its 0)).getD k) a b c) u:=h
     rw[h4] at h
     exact⟨hk,by rw[hs h3 (c9 hn)];exact h.2⟩
    | _=>exact h
   | slc rows e sz =>
    have hge:roots.length≤0+i:=c9 (by simpa using hr3)
    have hse:=hse (by omega)
    exact⟨fun b=>by rw[hfe,hse];exact hrr.1 b,by rw[hse];exact hrr.2⟩
   | vw rows e sz =>
    have hge:roots.length≤0+i:=c9 (by simpa using hr3)
    have hse:=hse (by omega)
    exact⟨fun b=>by rw[hfe,hse];exact hrr.1 b,by rw[hse];exact hrr.2⟩
   | froz rows sz =>
    have hge:roots.length≤0+i:=c9 (by simpa using hr3)
    have hse:=hse (by omega)
    exact⟨fun b=>by rw[hfe];exact hrr.1 b,by rw[hse];exact hrr.2.1,hrr.2.2⟩
   | gone=>exact fun b=>by rw[hfe];exact hrr b
   | mpI l=>exact⟨fun b=>by rw[hfe,hbe];exact hrr.1 b,by rw[hbe];exact hrr.2⟩
   | mpS l=>exact⟨fun b=>by rw[hfe,hbe];exact hrr.1 b,by rw[hbe];exact hrr.2⟩
   | sit s pos=>exact⟨fun b=>by rw[hfe,hbe];exact hrr.1 b,by rw[hbe];exact hrr.2⟩
   | mpX l m ob=>exact⟨fun b=>by rw[hfe,hbe];exact hrr.1 b,by rw[hbe];exact hrr.2⟩
   | mit j l D last m ob=>exact⟨fun b=>by rw[hfe,hbe];exact hrr.1 b,by rw[hbe];exact hrr.2⟩
   | abs p=>exact⟨hrr.1,by rw[hfe,hbe];exact hrr.2⟩
   | lnk j=>cases hr1
   | adr j b =>
    have hk:=c9 (show Nat.blt j its.length=true from hr1)
    obtain⟨it,h3,h4⟩:=key j hk
    have hrr:(∀c,¬V.f (ren m 0) c)∧(look j (Er its 0)).getD j < V.n∧V.b ((look j (Er its 0)).getD j)=b:=hrr
    rw[h4] at hrr
    exact⟨fun c=>by rw[hfe];exact hrr.1 c,hk,by rw[hb h3];exact hrr.2.2⟩
   | fam ps=>exact⟨hrr.1,by rw[hfe];exact hrr.2⟩
 ·obtain⟨it,k,r',h1,h2,h3⟩:=hf
  obtain⟨r2,h4⟩:=own_of h1 h2
  exact hH.foot _ _ b h4 h3
 ·obtain⟨it,k,r1,h1,h2,h3⟩:=hf
  obtain⟨it',k',r1',h1',h2',h3'⟩:=hf'
  obtain⟨r2,h4⟩:=own_of h1 h2
  obtain⟨r2',h4'⟩:=own_of h1' h2'
  have:=hH.disj _ _ _ _ b h4 h4' h3 h3'
  exact N3 hE.nod h1 h1' (Vz h2) (this ▸ Vz h2')
 ·have hres:=hE.res
  have hkey:=hE.key
  simp only[Bool.and_eq_true] at hkey
  obtain⟨⟨hkey,hrb⟩,hrn⟩:=hkey
  have one:∀g' x,Zbq its.length g'=true→Zfv g'=true→Yy roots.length g'=true→PRe1 I V (Z3t (Er its 0) g') x→PRe1 I V' g' x:=fun g' x h1 h2 h5 h=>by
   cases g' with
   | ptr k o =>
    have hk:=c9 h1
    obtain⟨it,h3,h4⟩:=key k hk
    have h:PRep I V (.ptr ((look k (Er its 0)).getD k) o) x:=h
    rw[h4] at h
    exact(show PRep I V' (.ptr k o) x from⟨hk,by rw[hb h3];exact h.2⟩)
   | mp k =>
    have hk:=c9 h1
    obtain⟨it,h3,h4⟩:=key k hk
    have h:PRep I V (.mp ((look k (Er its 0)).getD k)) x:=h
    rw[h4] at h
    exact(show PRep I V' (.mp k) x from⟨hk,by rw[hb h3];exact h.2⟩)
   | osl k =>
    have hk:=c9 h1
    obtain⟨it,h3,h4⟩:=key k hk
    have h:PRep I V (.osl ((look k (Er its 0)).getD k)) x:=h
    rw[h4] at h
    exact(show PRep I V' (.osl k) x from⟨hk,by rw[hs h3 (c9 h5)];exact h.2⟩)
   | osv k a b c=>cases h2
   | oel k a b c=>cases h2
   | orv k a b c d e=>cases h2
   | clo f a c=>cases h2
   | v z=>exact h
   | tt=>exact h
   | ff=>exact h
   | un=>exact h
   | nl=>exact h
   | agg l=>exact h
   | sl l=>exact h
   | oag l =>
    obtain⟨cs,e,hp⟩:=(show TRep1 I V (.oag (l.map (K7 (Er its 0)))) x from h)
    refine(show TRep1 I V' (.oag l) x from⟨cs,e,by simpa using hp.1,fun j g u hg hu=>?_⟩)
    have hk:=Ac (show Av (Rf its.length) l=true from h1) g (ae hg)
    have hn:=Ac (show Av (Zc0 roots.length) l=true from h5) g (ae hg)
    have h:=hp.2 j _ u (by rw[aj,hg];rfl) hu
    cases g with
    | ptr k o =>
     have hk:=c9 hk
     obtain⟨it,h3,h4⟩:=key k hk
     have h:CRep I V (.ptr ((look k (Er its 0)).getD k) o) u:=h
     rw[h4] at h
     exact⟨hk,by rw[hb h3];exact h.2⟩
    | mp k =>
     have hk:=c9 hk
     obtain⟨it,h3,h4⟩:=key k hk
     have h:CRep I V (.mp ((look k (Er its 0)).getD k)) u:=h
     rw[h4] at h
     exact⟨hk,by rw[hb h3];exact h.2⟩
    | osl k =>
     have hk:=c9 hk
     obtain⟨it,h3,h4⟩:=key k hk
     have h:CRep I V (.osl ((look k (Er its 0)).getD k)) u:=h
     rw[h4] at h
     exact⟨hk,by rw[hs h3 (c9 hn)];exact h.2⟩
    | osv k a b c =>
     have hk:=c9 hk
     obtain⟨it,h3,h4⟩:=key k hk
     have h:CRep I V (.osv ((look k (Er its 0)).getD k) a b c) u:=h
     rw[h4] at h
     exact⟨hk,by rw[hs h3 (c9 hn)];exact h.2⟩
    | _=>exact h
   | tup l=>cases h1
   | elp l o=>cases(show VRep I (.elp l o) x from h)
  rw[←hres] at hx
  cases g' with
  | tup l =>
   obtain⟨cs,e,hp⟩:=hx
   exact⟨cs,e,by simpa using hp.1,fun j g u hg hu=>one g u (Ac (show Av (Zbq its.length) l=true from hkey) g (ae hg)) (Ac (show Av Zfv l=true from hrb) g (ae hg)) (Ac (show Av (Yy roots.length) l=true from hrn) g (ae hg)) (hp.2 j _ u (by rw[aj,hg];rfl) hu)⟩
  | ptr k o=>exact one (.ptr k o) x hkey hrb hrn hx
  | mp k=>exact one (.mp k) x hkey hrb hrn hx
  | osl k=>exact one (.osl k) x hkey hrb hrn hx
  | osv k a b c=>cases hrb
  | oel k a b c=>cases hrb
  | orv k a b c d e=>cases hrb
  | clo f a c=>cases hrb
  | v z=>exact hx
  | tt=>exact hx
  | ff=>exact hx
  | un=>exact hx
  | nl=>exact hx
  | agg l=>exact hx
  | sl l=>exact hx
  | oag l=>exact one (.oag l) x hkey hrb hrn hx
  | elp l o=>cases(show VRep I (.elp l o) x from hx)
 ·obtain⟨l,hl⟩:=hE.rts
  have h1:(its.map It.root)[i]?=some k:=by rw[hl,bk (ac.1 hk).1];exact hk
  rw[aj] at h1
  obtain⟨it,h2,h3⟩:=ax.1 h1
  exact⟨by rw[hb h2,←h3];rfl,(ac.1 h2).1⟩
theorem Io {α:Type}{p q:α→Bool}(hpq:∀x,p x=true→q x=true):∀{l:List α},Av p l=true→Av q l=true
 | [],_=>rfl
 | x::l,h=>by
  unfold Av at h⊢
  cases hp:p x with
  | false=>rw[hp] at h;cases h
  | true =>
   rw[hp] at h
   rw[hpq x hp]
   exact Io hpq h
theorem Z2l {n:Nat}(g:G)(h:Bm g=true):Rf n g=true:=by cases g<;>first | rfl | cases h
theorem N6 {n:Nat}(g:G)(h:Gy g=true):Zbq n g=true:=by
 cases g with
 | oag l=>exact Io Z2l (show Av Bm l=true from h)
 | clo f a c=>cases h
 | tup l=>cases h
 | ptr k o=>cases h
 | osl k=>cases h
 | osv k a b c=>cases h
 | oel k a b c=>cases h
 | orv k a b c d e=>cases h
 | mp k=>cases h
 | _=>rfl
theorem Ni {n:Nat}(g:G)(h:Ki g=true):Z58 n g=true:=by
 cases g with
 | tup l=>exact Io N6 (show Av Gy l=true from h)
 | oag l=>exact N6 (.oag l) h
 | clo f a c=>cases h
 | ptr k o=>cases h
 | osl k=>cases h
 | osv k a b c=>cases h
 | oel k a b c=>cases h
 | orv k a b c d e=>cases h
 | mp k=>cases h
 | _=>rfl
theorem Wc {n:Nat}{g:G}(h:Gy g=true):Yy n g=true:=by
 cases g with
 | oag l=>exact Io (fun g h=>by cases g<;>first | rfl | cases h) (show Av Bm l=true from h)
 | osl k=>cases h
 | _=>rfl
theorem U2 {n:Nat}{g:G}(h:Ki g=true):Zi4 n g=true:=by
 cases g with
 | tup l=>exact Io (fun g h=>Wc h) (show Av Gy l=true from h)
 | oag l=>exact Wc (g:=.oag l) h
 | osl k=>cases h
 | _=>rfl
theorem Tj (r:R)(gs:List G):Zau [r] gs [(0,r)] 1 gs [0]:=C3 [r] gs
theorem Q3 (gs:List G):Zau [] gs [] 0 gs []:=C3 [] gs
theorem A5 {O:Os}{n0:Nat}{gs:List G}(hk:(S5 n0 O&&Av J3 []&&Av Zhx gs&&(look 0 O).isSome)=true):Zau [.abs (cl O)] gs O n0 gs [0] :=
 Z9i hk (by simp[B7]) (by show gs.map (Pj [])=gs;rw[funext Vj];simp) rfl
def itL:List (Nat × R)→List It
 | []=>[]
 | (k,r)::l=>⟨[(0,r)],[(0,k)],false⟩::itL l
theorem A7 {Q:G→List R→Prop}{p:Ob}(h0:look 0 own=some (.abs p))(hg:(Ki g&&Zhe g)=true)(hq:Q g [.abs p]):∃its g',Z7e [0] own n g Q its g':=by
 simp only[Bool.and_eq_true] at hg
 exact⟨[⟨[(0,.abs p)],[],false⟩],g,⟨⟨⟨_,rfl,h0,rfl⟩,trivial⟩,rfl,⟨[],rfl⟩,Ju hg.1,by rw[Ni g hg.1,hg.2,U2 hg.1];rfl,hq⟩⟩
theorem A1 {Q:G→List R→Prop}(O:Os)(m:List (Nat × Nat))(hl:leI m own n O)(h0:(look 0 m).getD 0=0)(hO:∃r,look 0 O=some r)(hd:Mn (O.map fun p=>(look p.1 m).getD p.1)=true)(hg:(Ki g&&Zhe g)=true)(hq:Q g [.abs (cl O)]):∃its g',Z7e [0] own n g Q its g':=by
 simp only[Bool.and_eq_true] at hg
 refine⟨[⟨O,m,true⟩],g,⟨⟨⟨hl,hO⟩,trivial⟩,?_,⟨[],?_⟩,Ju hg.1,by rw[Ni g hg.1,hg.2,U2 hg.1];rfl,hq⟩⟩
 ·show Mn (O.map (fun p=>(look p.1 m).getD p.1)++[])=true
  rw[cy];exact hd
 ·show [(look 0 m).getD 0]=[0]++[]
  rw[h0];rfl
end
end Go.Proofs.YtihfaocdpmmooaaGreat

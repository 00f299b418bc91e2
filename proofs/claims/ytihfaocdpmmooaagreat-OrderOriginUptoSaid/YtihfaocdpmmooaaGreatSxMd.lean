
import Derived.Test.YtihfaocdpmmooaaGreatSxMa
import Derived.OrdersHeld
import Derived.Deep.RegionHeld
import Derived.Test.YtihfaocdpmmooaaGreatSxMb
import Derived.Deep.LoopGhost
import Derived.ScopeJumps
namespace Go.Proofs.YtihfaocdpmmooaaGreat
open Go.RowKit
section
variable {P:Program} {md:Region.Mode} {ops:Array Oper} {Q:Exit→Act→World→Prop} {S:World→Prop} {late:List Nat}
def Qj (md:Region.Mode)(ops:Array Oper):Nat→Nat→Nat→Bool
 | 0,_,_=>false
 | n+1,j,i=>match ops[j]? with
  | some o=>o.after.toList.any fun e=>Region.binds md e&&(e.on==i||Qj md ops n e.on i)
  | none=>false
def F0 (md:Region.Mode)(ops:Array Oper)(listed:Array Bool):Prop:=∀j o,ops[j]?=some o→listed.getD j false=true→∀e∈o.after,Region.binds md e=true→listed.getD e.on false=true
theorem K4 {listed:Array Bool}(hc:F0 md ops listed){i:Nat}:∀(n j:Nat),(∀o,ops[j]?=some o→∀e∈o.after,Region.binds md e=true→listed.getD e.on false=true)→Qj md ops n j i=true→listed.getD i false=true
 | 0,_,_,h=>by cases h
 | n+1,j,hj,h=>by
  unfold Qj at h
  cases ho:ops[j]? with
  | none=>rw[ho] at h;cases h
  | some o =>
   rw[ho] at h
   obtain⟨e,he,hb⟩:=List.any_eq_true.1 h
   rw[Bool.and_eq_true,Bool.or_eq_true] at hb
   have he':e∈o.after:=by simpa using he
   have hl:=hj o ho e he' hb.1
   rcases hb.2 with h1 | h1
   ·have:e.on=i:=by simpa using h1
    rw[←this];exact hl
   ·exact K4 hc n e.on (fun o' ho'=>hc e.on o' ho' hl) h1
theorem Cq {listed:Array Bool}(hc:F0 md ops listed){i:Nat}(hr:i∈Region.ready md ops listed):F0 md ops (listed.setIfInBounds i true):=fun j o ho hj e he hb=>by
 by_cases hji:i=j
 ·subst hji
  obtain⟨_,o',ho',hall⟩:=mem_ready.1 hr
  rw[ho] at ho'
  injection ho' with ho'
  subst ho'
  exact getD_set_true (hall e he hb)
 ·rw[getD_set_ne false hji] at hj
  exact getD_set_true (hc j o ho hj e he hb)
theorem Gb (n:Nat)(hn:n=ops.size):F0 md ops (Array.replicate n false):=fun j o ho hj=>by
 have hlt:j < ops.size:=(Array.getElem?_eq_some_iff.1 ho).1
 subst hn
 simp[hlt] at hj
def Z15 (P:Program)(md:Region.Mode)(ops:Array Oper)(Q:Exit→Act→World→Prop)(S:World→Prop)(late:List Nat):Nat→Array Bool→Act→World→Prop
 | 0,listed,a,w=>Region.ready md ops listed=[]∧Q .normal a w
 | fuel+1,listed,a,w =>
  (Region.ready md ops listed=[]→Q .normal a w) ∧
  ∀i∈Region.ready md ops listed,wpOp P ops Q i (fun a' w'=>(i ∉ late→S w')∧(F0 md ops (listed.setIfInBounds i true)→Z15 P md ops Q S late fuel (listed.setIfInBounds i true) a' w')) a w
def Zbx (md:Region.Mode)(ops:Array Oper)(late:List Nat)(i:Nat):Bool:=late.all fun j=>Qj md ops ops.size j i
def AllL (P:Program)(md:Region.Mode)(ops:Array Oper)(Q:Exit→Act→World→Prop)(S:World→Prop)(late:List Nat)(fuel:Nat)(listed:Array Bool)(a:Act)(w:World)(rs:List Nat):Prop :=
 ∀i∈rs,wpOp P ops Q i (fun a' w'=>(i ∉ late→S w')∧(F0 md ops (listed.setIfInBounds i true)→Z15 P md ops Q S late fuel (listed.setIfInBounds i true) a' w')) a w
theorem AllL.nil {fuel:Nat}{listed:Array Bool}{a:Act}{w:World}:AllL P md ops Q S late fuel listed a w []:=fun _ h=>by cases h
theorem AllL.cons {fuel:Nat}{listed:Array Bool}{a:Act}{w:World}{i:Nat}{oi:Oper}{rs:List Nat}(hi:ops[i]?=some oi)
  (h:∀K:Act→World→Prop,Shut (∀a w,(i ∉ late→S w)→((i ∉ late→S w)→F0 md ops (listed.setIfInBounds i true)→Z15 P md ops Q S late fuel (listed.setIfInBounds i true) a w)→K a w)→if Region.wanted oi (yielded ops a.tmps)=true then oi.wp P a w K Q else K (a.put oi.dst undef) w)
  (hs:AllL P md ops Q S late fuel listed a w rs):AllL P md ops Q S late fuel listed a w (i::rs):=fun j hj=>by
 rcases List.mem_cons.1 hj with rfl | hj
 ·exact wpOp_step hi (fun K hK=>h K (fun a w hS hW=>hK a w ⟨hS,hW hS⟩))
 ·exact hs j hj
end
section
variable {P:Program} {ops:Array Oper} {Q:Exit→Act→World→Prop} {w0 w:World} {L:List (Nat × List Value × TypeId)} {U:List (World × List Nat)} {a:Act} {o:Oper} {ty t:TypeId} {i g k:Nat} {row:List Value} {v:Value}
theorem Env.sub {U':List (World × List Nat)}(h:Env w0 w L U)(hU:∀q∈U',q∈U):Env w0 w L U':=⟨h.blw,h.own,h.sep,fun q hq=>h.sn q (hU q hq)⟩
theorem Hn (hg:o.guard=none):Region.wanted o (yielded ops a.tmps)=true:=by unfold Region.wanted;rw[hg]
theorem Za5 {S:World→Prop}(hw:Region.wanted o (yielded ops a.tmps)=false):YieldsIf P ops S o undef a:=.inr ⟨hw,rfl⟩
theorem Z6i {S:World→Prop}(hw:Region.wanted o (yielded ops a.tmps)=true)(hr:∀w,S w→(execOp a.eval o).run P w=.ok (.value v) w):YieldsIf P ops S o v a:=.inl ⟨hw,hr⟩
end
section
variable {P:Program} {ops:Array Oper} {w0 w:World} {L:List (Nat × List Value × TypeId)} {U:List (World × List Nat)} {a:Act} {o:Oper} {α:Type} {sz:Nat} {f:α→List Value} {l:List α}
end
end Go.Proofs.YtihfaocdpmmooaaGreat
namespace Go.Proofs.YtihfaocdpmmooaaGreat
open Go.RowKit
section
variable {P:Program} {md:Region.Mode} {ops:Array Oper} {Q:Exit→Act→World→Prop} {S:World→Prop} {late:List Nat}
def Zcp (S:World→Prop):Prop:=∀w u,S w→Below w.heap.size w u→S u
def wpAnyG (P:Program)(md:Region.Mode)(ops:Array Oper)(Q:Exit→Act→World→Prop)(late:List Nat):Nat→(World→Prop)→Array Bool→Act→World→Prop
 | 0,_,listed,a,w=>∀u,Below w.heap.size w u→Region.ready md ops listed=[]∧Q .normal a u
 | fuel+1,S,listed,a,w=>∀u,Below w.heap.size w u →
  (Region.ready md ops listed=[]→Q .normal a u) ∧
  ∀i∈Region.ready md ops listed,wpOp P ops Q i (fun a' w'=>∃S':World→Prop,(i ∉ late→∀u,S' u→S u)∧S' w'∧Zcp S'∧(F0 md ops (listed.setIfInBounds i true)→wpAnyG P md ops Q late fuel S' (listed.setIfInBounds i true) a' w')) a u
theorem Md:∀(fuel:Nat) (S:World→Prop) (listed:Array Bool) (a:Act) (w:World),F0 md ops listed→wpAnyG P md ops Q late fuel S listed a w→wpAny P md ops Q fuel listed a w
 | 0,_,_,_,_,_,h=>h _ (.refl _ _)
 | fuel+1,_,_,_,_,hc,h=>have h:=h _ (.refl _ _);⟨h.1,fun i hi=>wpOp_mono (fun a' w' ⟨S',_,_,_,h'⟩=>Md fuel S' _ a' w' (Cq hc hi) (h' (Cq hc hi))) (h.2 i hi)⟩
theorem wpAnyG.grow {fuel:Nat}{S:World→Prop}{listed:Array Bool}{a:Act}{w u:World}(h:wpAnyG P md ops Q late fuel S listed a w)(hb:Below w.heap.size w u):wpAnyG P md ops Q late fuel S listed a u:=by
 cases fuel with
 | zero=>exact fun v hv=>h v (hb.trans (hv.mono hb.size))
 | succ n=>exact fun v hv=>h v (hb.trans (hv.mono hb.size))
theorem YieldsIf.sub {o:Oper}{v:Value}{a:Act}{S':World→Prop}(h:YieldsIf P ops S o v a)(hs:∀u,S' u→S u):YieldsIf P ops S' o v a :=
 h.imp (fun h=>⟨h.1,fun u hu=>h.2 u (hs u hu)⟩) id
theorem Q8 {i N:Nat}{oi:Oper}{v:Value}(hi:ops[i]?=some oi)(hsel:∀(j:Nat) (o:Oper) cs b,ops[j]?=some o→o.op≠.select cs b)
  (hQ:∀c a w,Q (.panic c) (a.put oi.dst v) w→Q (.panic c) a w) (hlate:∀j∈late,Qj md ops N j i=true) :
  ∀(fuel:Nat) (S:World→Prop) (listed:Array Bool) (a:Act) (w:World),F0 md ops listed →
   (∀j oj,ops[j]?=some oj→j≠i→listed.getD j true=false→(∀e∈oj.after,Region.binds md e=true→e.on≠i)→oi.apart ops oj=true) →
   i∈Region.ready md ops listed→YieldsIf P ops S oi v a→S w→Zcp S →
   wpAnyG P md ops Q late fuel S (listed.setIfInBounds i true) (a.put oi.dst v) w→wpAnyG P md ops Q late (fuel+1) S listed a w:=by
 intro fuel
 induction fuel with
 | zero =>
  intro S listed a w hc _ hr hy hS hG H u hu
  refine⟨fun h=>(by rw[h] at hr;cases hr),fun j hj=>?_⟩
  by_cases hji:j=i
  ·subst hji;exact hy.wpOp hi (hG _ _ hS hu) ⟨S,fun _ _ h=>h,hG _ _ hS hu,hG,fun _=>H.grow hu⟩
  ·have:=ready_mono hj hji
   rw[(H u hu).1] at this
   cases this
 | succ fuel ih =>
  intro S listed a w hc hfree hr hy hS hG H u hu
  refine⟨fun h=>(by rw[h] at hr;cases hr),fun j hj=>?_⟩
  by_cases hji:j=i
  ·subst hji;exact hy.wpOp hi (hG _ _ hS hu) ⟨S,fun _ _ h=>h,hG _ _ hS hu,hG,fun _=>H.grow hu⟩
  ·have h1:=(H u hu).2 j (ready_mono hj hji)
   obtain⟨hjun,oj,hoj,hall⟩:=mem_ready.1 hj
   have hiun:=(mem_ready.1 hr).1
   have hcon:∀{b:Bool},listed.getD i b=true→b=false→False:=fun hb hb0=>by
    subst hb0
    rcases Nat.lt_or_ge i listed.size with h' | h'
    ·simp[h'] at hiun hb;rw[hiun] at hb;cases hb
    ·simp[Array.getElem?_eq_none h'] at hb
   have hjl:j ∉ late:=fun hm=>hcon (K4 hc N j (fun o ho=>by
    rw[hoj] at ho
    injection ho with ho
    subst ho
    exact hall) (hlate j hm)) rfl
   have hnot:∀e∈oj.after,Region.binds md e=true→e.on≠i:=fun e he hb heq=>by
    have h1:=hall e he hb
    rw[heq] at h1
    exact hcon h1 rfl
   have h2:=wpOp_putIf hoj (hfree j oj hoj hji hjun hnot) (fun cs b=>hsel i oi cs b hi) (fun cs b=>hsel j oj cs b hoj) hQ hy h1
   have hfree':∀k ok,ops[k]?=some ok→k≠i→(listed.setIfInBounds j true).getD k true=false →
     (∀e∈ok.after,Region.binds md e=true→e.on≠i)→oi.apart ops ok=true:=fun k ok hk hki hun hno=>by
    refine hfree k ok hk hki ?_ hno
    by_cases hjk:j=k
    ·subst hjk;exact hjun
    ·rw[getD_set_ne true hjk] at hun;exact hun
   refine wpOp_mono (fun a' w' h3=>?_) h2
   obtain⟨hy3,S',hs1,hs2,hs3,h3⟩:=h3
   refine⟨S',hs1,hs2,hs3,fun hcj=>ih S' (listed.setIfInBounds j true) a' w' hcj hfree' (ready_mono hr (Ne.symm hji)) (YieldsIf.sub (S:=S) hy3 (hs1 hjl)) hs2 hs3 ?_⟩
   rw[Array.setIfInBounds_comm _ _ hji]
   exact h3 (by rw[Array.setIfInBounds_comm _ _ (Ne.symm hji)];exact Cq hcj (ready_mono hr (Ne.symm hji)))
theorem Ou {i:Nat}{oi:Oper}{v:Value}(hi:ops[i]?=some oi)(hsel:∀(j:Nat) (o:Oper) cs b,ops[j]?=some o→o.op≠.select cs b)
  (hQ:∀c a w,Q (.panic c) (a.put oi.dst v) w→Q (.panic c) a w) :
  ∀(fuel:Nat) (S:World→Prop) (listed:Array Bool) (a:Act) (w:World),F0 md ops listed →
   (∀j oj,ops[j]?=some oj→j≠i→listed.getD j true=false→(∀e∈oj.after,Region.binds md e=true→e.on≠i)→oi.apart ops oj=true) →
   i∈Region.ready md ops listed→YieldsIf P ops (fun _=>True) oi v a→S w→Zcp S →
   wpAnyG P md ops Q late fuel S (listed.setIfInBounds i true) (a.put oi.dst v) w→wpAnyG P md ops Q late (fuel+1) S listed a w:=by
 intro fuel
 induction fuel with
 | zero =>
  intro S listed a w hc _ hr hy hS hG H u hu
  refine⟨fun h=>(by rw[h] at hr;cases hr),fun j hj=>?_⟩
  by_cases hji:j=i
  ·subst hji;exact hy.wpOp hi trivial ⟨S,fun _ _ h=>h,hG _ _ hS hu,hG,fun _=>H.grow hu⟩
  ·have:=ready_mono hj hji
   rw[(H u hu).1] at this
   cases this
 | succ fuel ih =>
  intro S listed a w hc hfree hr hy hS hG H u hu
  refine⟨fun h=>(by rw[h] at hr;cases hr),fun j hj=>?_⟩
  by_cases hji:j=i
  ·subst hji;exact hy.wpOp hi trivial ⟨S,fun _ _ h=>h,hG _ _ hS hu,hG,fun _=>H.grow hu⟩
  ·have h1:=(H u hu).2 j (ready_mono hj hji)
   obtain⟨hjun,oj,hoj,hall⟩:=mem_ready.1 hj
   have hiun:=(mem_ready.1 hr).1
   have hnot:∀e∈oj.after,Region.binds md e=true→e.on≠i:=fun e he hb heq=>by
    have h1:=hall e he hb
    rw[heq] at h1
    rcases Nat.lt_or_ge i listed.size with h' | h'
    ·simp[h'] at hiun h1;rw[hiun] at h1;cases h1
    ·simp[Array.getElem?_eq_none h'] at h1
   have h2:=wpOp_putIf hoj (hfree j oj hoj hji hjun hnot) (fun cs b=>hsel i oi cs b hi) (fun cs b=>hsel j oj cs b hoj) hQ hy h1
   have hfree':∀k ok,ops[k]?=some ok→k≠i→(listed.setIfInBounds j true).getD k true=false →
     (∀e∈ok.after,Region.binds md e=true→e.on≠i)→oi.apart ops ok=true:=fun k ok hk hki hun hno=>by
    refine hfree k ok hk hki ?_ hno
    by_cases hjk:j=k
    ·subst hjk;exact hjun
    ·rw[getD_set_ne true hjk] at hun;exact hun
   refine wpOp_mono (fun a' w' h3=>?_) h2
   obtain⟨hy3,S',hs1,hs2,hs3,h3⟩:=h3
   refine⟨S',hs1,hs2,hs3,fun hcj=>ih S' (listed.setIfInBounds j true) a' w' hcj hfree' (ready_mono hr (Ne.symm hji)) hy3 hs2 hs3 ?_⟩
   rw[Array.setIfInBounds_comm _ _ hji]
   exact h3 (by rw[Array.setIfInBounds_comm _ _ (Ne.symm hji)];exact Cq hcj (ready_mono hr (Ne.symm hji)))
def CallsTo (P:Program)(ops:Array Oper)(o:Oper)(v:Value)(a:Act):Prop :=
 Region.wanted o (yielded ops a.tmps)=true∧∃f vs,(∀w,(execOp a.eval o).run P w=.ok (.enter f vs) w)∧∀w,Calls P f vs w fun e w'=>e=.returned v∧Below w.heap.size w w'
theorem CallsTo.wpOp {i:Nat}{o:Oper}{v:Value}{a:Act}(hi:ops[i]?=some o)(hy:CallsTo P ops o v a){K:Act→World→Prop}{w:World}(h:∀w',Below w.heap.size w w'→K (a.put o.dst v) w'):wpOp P ops Q i K a w:=by
 obtain⟨hw,f,vs,h1,h2⟩:=hy
 unfold Go.wpOp
 simp only[hi,hw,if_true]
 refine .inl ?_
 unfold Oper.wp
 rw[h1 w,Oper.upon_enter]
 refine(h2 w).mono fun e w' ⟨he,hb⟩=>?_
 subst he
 exact h w' hb
theorem CallsTo.of_same {o:Oper}{v:Value}{a a':Act}(hy:CallsTo P ops o v a)(he:execOp a'.eval o=execOp a.eval o)(hw:Region.wanted o (yielded ops a'.tmps)=Region.wanted o (yielded ops a.tmps)):CallsTo P ops o v a':=by
 unfold CallsTo at *
 rw[he,hw]
 exact hy
theorem Z25 {j:Nat}{oi oj:Oper}{v:Value}(hj:ops[j]?=some oj)(hap:oi.apart ops oj=true)(hsi:∀cs b,oi.op≠.select cs b)(hsj:∀cs b,oj.op≠.select cs b)
  (hQ:∀c a w,Q (.panic c) (a.put oi.dst v) w→Q (.panic c) a w) {K:Act→World→Prop} {a:Act} {w:World} (hy:CallsTo P ops oi v a) (h:wpOp P ops Q j K (a.put oi.dst v) w):wpOp P ops Q j (fun a' w'=>CallsTo P ops oi v a'∧K (a'.put oi.dst v) w') a w:=by
 obtain⟨p1,p2,p3⟩:=Oper.apart_spec hap
 have stay:∀{b:Act},CallsTo P ops oi v b→∀u,CallsTo P ops oi v (b.put oj.dst u):=fun {b} hb u=>hb.of_same (execOp_put oi hsi b oj.dst u p3) (wanted_put oi b oj.dst u p3)
 have comm:∀(b:Act) (u:Value),(b.put oi.dst v).put oj.dst u=(b.put oj.dst u).put oi.dst v:=fun b u=>Act.put_comm b v u p2
 unfold Go.wpOp at h⊢
 simp only[hj] at h⊢
 rw[wanted_put oj a oi.dst v p1] at h
 cases hw:Region.wanted oj (yielded ops a.tmps) with
 | false =>
  rw[hw] at h
  have h:K ((a.put oi.dst v).put oj.dst undef) w:=h
  rw[comm] at h
  exact⟨stay hy _,h⟩
 | true =>
  rw[hw] at h
  have h:(oj.wp P (a.put oi.dst v) w K Q∨(oj.asks P (a.put oi.dst v) w∧LetsOut Q)):=h
  show(oj.wp P a w _ Q∨(oj.asks P a w∧LetsOut Q))
  rcases h with h | ⟨h,hl⟩
  ·refine .inl ?_
   unfold Oper.wp at h⊢
   rw[execOp_put oj hsj a oi.dst v p1] at h
   generalize (execOp a.eval oj).run P w=res at h⊢
   cases res with
   | ok nx w' =>
    cases nx<;>simp only[Oper.upon] at h⊢
    case value u=>rw[comm] at h;exact⟨stay hy u,h⟩
    case skip=>rw[comm] at h;exact⟨stay hy _,h⟩
    case defer d =>
     have e:=comm {a with defers:=d::a.defers} undef
     refine⟨stay (b:={a with defers:=d::a.defers}) (hy.of_same rfl rfl) _,?_⟩
     rw[←e,←Act.put_defers]
     exact h
    case enter f vs =>
     refine Calls.mono h fun e w'' he=>?_
     cases e with
     | returned u=>have he:K ((a.put oi.dst v).put oj.dst u) w'':=he;rw[comm] at he;exact⟨stay hy u,he⟩
     | panicked c=>exact hQ _ _ _ he
     | outgrown=>exact he
    case row row vs=>exact Rows.mono h fun u w'' he=>by rw[comm] at he;exact⟨stay hy u,he⟩
   | halt x w' =>
    cases x<;>simp only[Oper.upon] at h⊢
    case panic u=>exact hQ _ _ _ h
  ·refine .inr ⟨?_,hl⟩
   unfold Oper.asks at h⊢
   rw[execOp_put oj hsj a oi.dst v p1] at h
   exact h
theorem Nh {i:Nat}{oi:Oper}{v:Value}(hi:ops[i]?=some oi)(hsel:∀(j:Nat) (o:Oper) cs b,ops[j]?=some o→o.op≠.select cs b)
  (hQ:∀c a w,Q (.panic c) (a.put oi.dst v) w→Q (.panic c) a w) :
  ∀(fuel:Nat) (S:World→Prop) (listed:Array Bool) (a:Act) (w:World),F0 md ops listed →
   (∀j oj,ops[j]?=some oj→j≠i→listed.getD j true=false→(∀e∈oj.after,Region.binds md e=true→e.on≠i)→oi.apart ops oj=true) →
   i∈Region.ready md ops listed→CallsTo P ops oi v a→S w→Zcp S →
   wpAnyG P md ops Q late fuel S (listed.setIfInBounds i true) (a.put oi.dst v) w→wpAnyG P md ops Q late (fuel+1) S listed a w:=by
 intro fuel
 induction fuel with
 | zero =>
  intro S listed a w hc _ hr hy hS hG H u hu
  refine⟨fun h=>(by rw[h] at hr;cases hr),fun j hj=>?_⟩
  by_cases hji:j=i
  ·subst hji;exact hy.wpOp hi fun w' hb=>⟨S,fun _ _ h=>h,hG _ _ (hG _ _ hS hu) hb,hG,fun _=>(H.grow hu).grow hb⟩
  ·have:=ready_mono hj hji
   rw[(H u hu).1] at this
   cases this
 | succ fuel ih =>
  intro S listed a w hc hfree hr hy hS hG H u hu
  refine⟨fun h=>(by rw[h] at hr;cases hr),fun j hj=>?_⟩
  by_cases hji:j=i
  ·subst hji;exact hy.wpOp hi fun w' hb=>⟨S,fun _ _ h=>h,hG _ _ (hG _ _ hS hu) hb,hG,fun _=>(H.grow hu).grow hb⟩
  ·have h1:=(H u hu).2 j (ready_mono hj hji)
   obtain⟨hjun,oj,hoj,hall⟩:=mem_ready.1 hj
   have hiun:=(mem_ready.1 hr).1
   have hnot:∀e∈oj.after,Region.binds md e=true→e.on≠i:=fun e he hb heq=>by
    have h1:=hall e he hb
    rw[heq] at h1
    rcases Nat.lt_or_ge i listed.size with h' | h'
    ·simp[h'] at hiun h1;rw[hiun] at h1;cases h1
    ·simp[Array.getElem?_eq_none h'] at h1
   have h2:=Z25 hoj (hfree j oj hoj hji hjun hnot) (fun cs b=>hsel i oi cs b hi) (fun cs b=>hsel j oj cs b hoj) hQ hy h1
   have hfree':∀k ok,ops[k]?=some ok→k≠i→(listed.setIfInBounds j true).getD k true=false →
     (∀e∈ok.after,Region.binds md e=true→e.on≠i)→oi.apart ops ok=true:=fun k ok hk hki hun hno=>by
    refine hfree k ok hk hki ?_ hno
    by_cases hjk:j=k
    ·subst hjk;exact hjun
    ·rw[getD_set_ne true hjk] at hun;exact hun
   refine wpOp_mono (fun a' w' h3=>?_) h2
   obtain⟨hy3,S',hs1,hs2,hs3,h3⟩:=h3
   refine⟨S',hs1,hs2,hs3,fun hcj=>ih S' (listed.setIfInBounds j true) a' w' hcj hfree' (ready_mono hr (Ne.symm hji)) hy3 hs2 hs3 ?_⟩
   rw[Array.setIfInBounds_comm _ _ hji]
   exact h3 (by rw[Array.setIfInBounds_comm _ _ (Ne.symm hji)];exact Cq hcj (ready_mono hr (Ne.symm hji)))
end
section
variable {P:Program} {tb:List (Nat × TI)} {N n:Nat} {I I' I0:Imm} {V V' V0:Va} {a:Act} {t:Ts} {own own' own0:Os} {w w' w0:World} {g:G} {y:Value} {d:Option Tmp}
variable {XL:List Nat} {mo:Mo} {S:World→Prop} {K:Ts→Os→Nat→Prop} {next:Act→World→Prop} {Q:Exit→Act→World→Prop} {o:Oper}
theorem Uv (hT:∀t i,look t tb=some i→TIok P t i)(hXL:∀k∈mo.xl,∃r,look k own=some r)(hS:isR tb o=true→∀u,S u→Agree V mo.xl w u)(hq:isQ tb o=true)(h:Jc P tb mo o t own V.n K)(hH:Has I V own w)(ha:ARep N I V a t):QOk S P I V own w a t o K:=by
 obtain⟨dst,op,type,pos,after,guard⟩:=o
 cases op with
 | move x=>exact Z5y hH ha (.inl rfl) h
 | assign x =>
  unfold Jc at h
  unfold isQ at hq
  dsimp only at h hq
  split at h
  ·cases hq
  ·exact Z5y hH ha (.inr rfl) h
 | pick c x y=>exact Zcz hH ha rfl h
 | load ty x=>exact Zd3 hT hH ha hXL (hS rfl) rfl h
 | fieldAddr ty x f=>exact Rj hT hH ha rfl h
 | field ty x f=>exact Z8u hT hH ha rfl h
 | indexAddr ty x i=>exact Rk hT hH ha rfl h
 | index ty x i=>exact Z9d hT hH ha rfl h
 | binOp op ty x y ty'=>exact Zbl hT hH ha rfl h
 | unOp op ty x =>
  cases op with
  | not=>exact Zfb hH ha rfl h
  | _=>exact False.elim h
 | extract x i=>exact Z22 hH ha rfl h
 | nilCheck x=>exact Wd hH ha rfl h
 | sliceToArrayPointer ty x=>exact Zf5 hT hH ha rfl h
 | makeFunc fn p q =>
  cases fn with
  | func f=>exact X2 hH ha rfl h
  | _=>exact False.elim h
 | lookup ty x i ok=>exact False.elim h
 | build ty parts=>exact Z8z hT hH ha rfl h
 | slice ty x lo hi mx =>
  cases mx with
  | some mx =>
   unfold Jc at h
   dsimp only at h
   cases lo with
   | some lo=>exact False.elim h
   | none =>
    cases hi with
    | none=>exact False.elim h
    | some hx=>exact Z37 hT hH ha rfl h
  | none=>exact Z7k hT hH ha rfl hq h
 | convert src dst x =>
  unfold Jc at h
  unfold isQ at hq
  dsimp only at h hq
  split at h
  ·next p q hp hq2 =>
   rw[hp,hq2] at hq
   dsimp only at hq
   split at h
   ·next e sz h1 h2=>rw[h1,h2] at hq;cases hq
   ·exact Zck hT (hS rfl) hH ha rfl hp hq2 h
  ·exact h.elim
 | call c =>
  obtain⟨callee,args,argTypes⟩:=c
  cases callee with
  | builtin b =>
   cases b with
   | len =>
    obtain⟨args⟩:=args
    obtain⟨argTypes⟩:=argTypes
    unfold Jc at h
    dsimp only at h
    split at h
    ·next x ty =>
     split at h
     ·next hl=>exact Zdm hH ha ((hT _ _ hl).str rfl) rfl h
     ·next e hl=>exact Zc4 hH ha ((hT _ _ hl).elem _ _ rfl).1 rfl h
     ·next str e hl =>
      refine Zd4 hT hXL (hS ?_) hH ha hl rfl rfl h
      show Rc (Zdv tb) [ty]=true
      unfold Rc Zdv Z3k
      rw[hl]
      rfl
     ·exact h.elim
    ·exact h.elim
   | max =>
    obtain⟨args⟩:=args
    unfold Jc at h
    dsimp only at h
    split at h
    ·exact Zfd hH ha rfl h
    ·exact h.elim
   | min =>
    obtain⟨args⟩:=args
    unfold Jc at h
    dsimp only at h
    split at h
    ·exact Zfj hH ha rfl h
    ·exact h.elim
   | _=>cases hq
  | _=>cases hq
 | _=>cases hq
def Zt (o:Oper):Bool:=match o.op with
 | .call c=>match c.callee with
  | .value _=>true
  | _=>false
 | _=>false
theorem Z6r (hT:∀t i,look t tb=some i→TIok P t i)(hmo:Zt o=true→mo=.new)(hq:isQ tb o=false)(hl:isL tb o=false)(h:Jc P tb mo o t own V.n K)(hH:Has I V own w)(ha:ARep N I V a t)(hd:∀i,o.dst=some i→i < N)(hK:NxtB N own I V w K next):o.wp P a w next Q:=by
 obtain⟨dst,op,type,pos,after,guard⟩:=o
 cases op with
 | assign x =>
  unfold Jc at h
  unfold isQ at hq
  dsimp only at h hq
  split at h
  ·split at h
   ·next e sz _ _ hl=>exact Zc5 hK hH ha hd ((hT _ _ hl).elem _ _ rfl).2.choose_spec.choose_spec.2.2.2.2.1 rfl h
   ·exact So (g:=.nl) hK ha hd (by rfl) (.refl hH) (Below.refl _ _) (.refl _) (.of_v .nl) h
  ·next hx =>
   split at hq
   ·exact absurd rfl (hx · )
   ·cases hq
 | convert src dst x =>
  unfold Jc at h
  unfold isQ at hq
  dsimp only at h hq
  split at h
  ·next p q hp hq2 =>
   rw[hp,hq2] at hq
   dsimp only at hq
   split at h
   ·next e sz h1 h2 =>
    split at h
    ·next hu=>exact Z4e hH ha hd hK rfl ((hT _ _ hp).str h1) ((hT _ _ hq2).elem _ _ h2).1 (TIok.u8 hT hu) h
    ·exact h.elim
   ·next hne =>
    split at hq
    ·next e h1 h2=>exact absurd h2 (fun h2=>(by obtain⟨e,sz⟩:=e;exact hne e sz h1 h2))
    ·cases hq
  ·exact h.elim
 | alloc ty=>exact Z3t hT hK hH ha hd rfl h
 | box ty x=>exact Zcq hK hH ha hd rfl h
 | slice ty z lo hi mx =>
  cases mx with
  | some mx =>
   unfold isQ at hq
   unfold Jc at h
   dsimp only at hq h
   cases lo with
   | some lo=>exact False.elim h
   | none =>
    cases hi with
    | none=>exact False.elim h
    | some hx =>
     split at hq
     ·next hl=>rw[hl] at h;exact False.elim h
     ·cases hq
  | none =>
   unfold isQ at hq
   unfold Jc at h
   dsimp only at hq h
   split at hq
   ·next e1 sz e2 e3 e4 hl =>
    rw[hl] at h
    split at h
    ·next h1=>cases h1
    ·next h1=>cases h1
    ·next h1=>cases h1;exact Z4g hT hH ha hd hK hl rfl h
    ·next h1=>cases h1;exact Z5j hT hH ha hd hK hl rfl h
    ·exact h.elim
   ·cases hq
 | buildSlice ty len parts=>exact Oo hT hK hH ha hd rfl h
 | makeSlice ty len cap=>exact Pu hT hK hH ha hd rfl h
 | call c =>
  obtain⟨callee,args,argTypes⟩:=c
  cases callee with
  | builtin b=>cases b<;>first | (cases hq;done) | (cases hl;done) | exact False.elim h
  | value f =>
   have hmo:=hmo rfl
   subst hmo
   refine Oi (fo:=f) rfl rfl hH ha hd h fun t own' I' V' a' w' hk hl2 hm har=>?_
   obtain⟨ks,m1,m2,m3,m4⟩:=hm rfl
   cases ks with
   | cons k ks=>cases m1
   | nil=>exact hK _ _ _ _ _ _ hk hl2 ⟨hl2.fro.os,hl2.fro.tape,hl2.fro.output,hl2.fro.size,fun b hb=>m3 b hb fun k hk=>by simp at hk⟩ (fun k hk b hb=>(m4 k hk b hb).elim id fun h=>(h.1 rfl).elim) har
  | invoke r m=>exact False.elim h
 | makeMap ty r =>
  cases r with
  | some r=>exact False.elim h
  | none=>exact False.elim h
 | range ty x=>exact False.elim h
 | _=>first | (cases hq;done) | (cases hl;done) | exact False.elim h
theorem Z72 (hT:∀t i,look t tb=some i→TIok P t i)(hl:isL tb o=true)(h:Jc P tb mo o t own V.n K)(hL:Since own0 I0 V0 w0 own I V w)(ha:ARep N I V a t)(hd:∀i,o.dst=some i→i < N)(hK:Nxt N own0 I0 V0 w0 K next):o.wp P a w next Q:=by
 obtain⟨dst,op,type,pos,after,guard⟩:=o
 cases op with
 | store ty x y=>exact Z4c hT hK hL ha hd rfl h
 | mapUpdate ty m k x=>exact False.elim h
 | insert ty m k x=>exact False.elim h
 | next x b =>
  cases b with
  | true=>exact False.elim h
  | false=>exact False.elim h
 | entry x=>exact False.elim h
 | call c =>
  obtain⟨callee,args,argTypes⟩:=c
  cases callee with
  | builtin b =>
   cases b with
   | append =>
    obtain⟨args⟩:=args
    obtain⟨argTypes⟩:=argTypes
    unfold Jc at h
    dsimp only at h
    split at h
    ·next x y ty ty' =>
     split at h
     ·next e sz _ _ hb hlk =>
      have hb:=Nat.eq_of_beq_eq_true hb
      subst hb
      exact Zp hT hK hL ha hd hlk rfl h
     ·next hlk =>
      split at h
      ·next hs1 hl2 =>
       have hs1:=Nat.eq_of_beq_eq_true hs1
       subst hs1
       exact Nv hT hK hL ha hd hlk rfl hl2 rfl rfl h
      ·exact h.elim
     ·exact h.elim
    ·exact h.elim
   | copy =>
    obtain⟨args⟩:=args
    obtain⟨argTypes⟩:=argTypes
    unfold Jc at h
    dsimp only at h
    split at h
    ·next x y ty ty' =>
     split at h
     ·next hlk=>exact Z8i hT hK hL ha hd hlk rfl h
     ·exact h.elim
    ·exact h.elim
   | delete =>
    exact False.elim h
   | _=>cases hl
  | value f=>exact Oi (fo:=f) rfl rfl hL.has ha hd h fun t own' I' V' a' w' hk hl2 _ har=>hK _ _ _ _ _ _ hk (hL.trans hl2) har
  | _=>cases hl
 | _=>cases hl
theorem Yc (hT:∀t i,look t tb=some i→TIok P t i)(hv:vsB XL t o=true)(h:Jc P tb (.vs XL) o t own V.n K)(hH:Has I V own w)(hkX:∀k∈XL,k < V.n)(ha:ARep N I V a t)(hd:∀i,o.dst=some i→i < N)(hK:∀t own' I' V' a' w',K t own' V'.n→Later own I V w own' I' V' w'→Agree V XL w w'→(∀k∈XL,∀b,V'.f k b→b < w.heap.size→∃k'∈XL,V.f k' b)→ARep N I' V' a' t→next a' w'):o.wp P a w next Q:=by
 obtain⟨dst,op,type,pos,after,guard⟩:=o
 have hv0:=hv
 unfold vsB at hv
 cases guard with
 | some g=>cases hv
 | none =>
 cases op with
 | store ty x z =>
  cases x with
  | tmp d =>
   dsimp only at hv
   cases hl:look d t with
   | none=>rw[hl] at hv;cases hv
   | some g =>
    rw[hl] at hv
    cases g with
    | ptr k off =>
     dsimp only at hv
     have hm:=C6.1 hv
     obtain⟨y,hy,hg⟩:=ha.get d _ hl
     obtain⟨hkn,rfl⟩:=Bt hg
     have he:a.eval (.tmp d)=.pointer (some ⟨V.b k,off,none⟩):=by simp[Act.eval,hy]
     unfold Jc at h
     dsimp only at h
     unfold ev at h
     dsimp only at h
     rw[hl] at h
     dsimp only at h
     obtain⟨u,hk,hu⟩:=Av (K:=fun u=>Fu own u fun cs=>match look ty tb with
      | some i=>Zc3 i.zero.length own cs (match look k own with
       | some (.blk cells ty')=>ovr i.zero.length cells off cs fun cells'=>K (put dst .un t) ((k,.blk cells' ty')::own) V.n
       | some (.lnk j)=>match true,look j own,cs with
        | false,some (.slc rows e 1),[c]=>Ed (off < rows.length∧Fy c=true) (K (put dst .un t) ((j,.slc (rows.set off [c]) e 1)::own) V.n)
        | _,_,_=>False
       | _=>False)
      | none=>False) h ha hH
     obtain⟨cs,hk,hp,-⟩:=Gp hk hu hH
     obtain⟨ds,hds⟩:∃ds,(a.eval z).cells.toList=ds:=⟨_,rfl⟩
     rw[hds] at hp
     cases hty:look ty tb with
     | none=>rw[hty] at hk;exact hk.elim
     | some i =>
      rw[hty] at hk
      obtain⟨h1,hcl0,hcn,hk2,-⟩:=Z2c hk
      clear hk
      cases hr:look k own with
      | none=>rw[hr] at hk2;exact hk2.elim
      | some r0 =>
       rw[hr] at hk2
       cases r0 with
       | blk cells ty' =>
        obtain⟨us,k1,k2,-⟩:=Lm hH hr
        obtain⟨cells',k3,k4,k5⟩:=Qk hk2 k2 hp
        have hone:=Z7a hH h1 hp
        have hlen:ds.length=i.zero.length:=hp.1.symm.trans hcl0
        have hdn:ds≠[]:=fun e=>by
         have:=hp.1
         rw[e] at this
         exact hcn (List.eq_nil_of_length_eq_zero (by simpa using this))
        have hrun:=Hs (P:=P) (w:=w) (hT ty i hty).size hds hlen k1 (k5 hdn:off+ds.length≤us.length) hone
        have hl2:=Cj (w':=w.setRow (V.b k) _) (r:=.blk cells' ty') hH hr rfl rfl rfl (by simp[World.setRow]) (fun b hb=>setRow_other w _ b _ (fun e=>hb (((hH.each k _ hr).1 b).2 e))) ⟨(hH.each k _ hr).1,_,setRow_heap w _ us.toArray _ ty' _ k1,k4⟩
        unfold Oper.wp
        have hex:(execOp a.eval (⟨dst,.store ty (.tmp d) z,type,pos,after,none⟩:Oper)).run P w=.ok .skip (w.setRow (V.b k) (List.take off us++ds++List.drop (off+ds.length) us).toArray):=by
         simp only[execOp,Sem.run_bind,he,hrun,Result.andThen_ok,Sem.run_pure]
        rw[hex]
        exact hK _ _ _ _ _ _ k3 hl2 (fun b hlt hX=>setRow_other w _ b _ (fun e=>hX k hm (((hH.each k _ hr).1 b).2 e))) (fun k hk b hb _=>⟨k,hk,hb⟩) ((ha.mono hl2.fro.mono hl2.va).put hd (.of_v .un))
       | _=>exact hk2.elim
    | _=>cases hv
  | _=>cases hv
 | call cl =>
  cases hce:cl.callee with
  | value f =>
   refine Oi (mo:=.vs XL) (K:=K) (fo:=f) rfl hce hH ha hd ?_ fun t own' I' V' a' w' hk hl2 hm har=>?_
   ·have h:=h
    unfold Jc at h
    dsimp only at h
    rw[hce] at h
    exact h
   ·obtain⟨ks,m1,m2,m3,m4⟩:=hm rfl
    have hsub:∀k∈ks,k∈XL:=fun k hk=>C6.1 (Ac (show Ar (fun k=>Fr k XL) ks=true from m1) k hk)
    refine hK _ _ _ _ _ _ hk hl2 (fun b hb hX=>m3 b hb fun k hk=>hX k (hsub k hk)) (fun k hk b hb hlt=>?_) har
    rcases m4 k (hkX k hk) b hb with h1 | ⟨-,⟨k',h1,h2⟩ | h1⟩
    ·exact⟨k,hk,h1⟩
    ·exact⟨k',hsub k' h1,h2⟩
    ·omega
  | builtin bt =>
   obtain⟨callee,⟨args⟩,⟨argTypes⟩⟩:=cl
   have hce:callee=.builtin bt:=hce
   subst hce
   cases bt with
   | append =>
    dsimp only at hv
    unfold Jc at h
    dsimp only at h
    split at h
    ·next x y ty ty' =>
     cases x with
     | tmp d =>
      dsimp only at hv
      cases hl:look d t with
      | none=>rw[hl] at hv;cases hv
      | some g =>
       rw[hl] at hv
       obtain⟨z,hz,hg⟩:=ha.get d _ hl
       have hg:TRep I V g (a.eval (.tmp d)):=by
        have:a.eval (.tmp d)=z:=by simp[Act.eval,hz]
        rw[this];exact hg
       have hKV:∀t own' I' V' a' w',K t own' V'.n→Later own I V w own' I' V' w'→Z97 V w w' g→V.kp V'→ARep N I' V' a' t→next a' w':=fun t own' I' V' a' w' hk hl2 hf hkp har=>by
        refine hK _ _ _ _ _ _ hk hl2 (fun b hb hX=>?_) (fun k hk b hb _=>⟨k,hk,hkp k (hkX k hk) b hb⟩) har
        cases g with
        | osl k=>exact hf b hb (hX k (C6.1 hv))
        | nl=>exact hf b hb
        | _=>cases hv
       have evd:∀{K':G→Prop},ev t own (.tmp d) K'→K' g∨∃rows,K' (.sl rows):=fun {K'} h=>by
        unfold ev at h
        dsimp only at h
        rw[hl] at h
        cases g with
        | osl k =>
         dsimp only at h
         split at h
         ·exact .inr ⟨_,h⟩
         ·exact .inl h
        | nl=>exact .inl h
        | _=>cases hv
       split at h
       ·next e sz _ _ hb hlk =>
        have hb:=Nat.eq_of_beq_eq_true hb
        subst hb
        rcases evd h with h | ⟨rows,h⟩
        ·exact N4 (g:=g) hT hH ha hd hKV hlk rfl hg h
        ·obtain⟨q,hk2,hq⟩:=Av h ha hH
         obtain⟨new,A,c,rs,hk,-⟩:=U9 hk2 hq hH
         exact hk.elim
       ·next hlk =>
        split at h
        ·next hs1 hl2 =>
         have hs1:=Nat.eq_of_beq_eq_true hs1
         subst hs1
         rcases evd h with h | ⟨rows,h⟩
         ·exact H9 (g:=g) hT hH ha hd hKV hlk rfl hl2 rfl rfl hg h
         ·obtain⟨q,hk2,hq⟩:=Av h ha hH
          unfold Zbf at hk2
          split at hk2
          ·exact hk2.elim
          ·exact hk2.elim
        ·exact h.elim
       ·exact h.elim
     | _=>cases hv
    ·exact h.elim
   | _=>cases hv
  | _=>rw[show vsB XL t ⟨dst,.call cl,type,pos,after,none⟩=false from ?_] at hv0<;>first | cases hv0 | (unfold vsB;dsimp only;rw[hce])
 | _=>cases hv
theorem Z8o (hT:∀t i,look t tb=some i→TIok P t i)(h:Jc P tb .row o t own V.n K)(hL:Since own0 I0 V0 w0 own I V w)(ha:ARep N I V a t)(hd:∀i,o.dst=some i→i < N)(hK:Nxt N own0 I0 V0 w0 K next):o.wp P a w next Q:=by
 cases hq:isQ tb o with
 | true=>exact(Uv (S:=fun u=>u=w) (mo:=.row) hT (fun k hk=>by simp[Mo.xl] at hk) (fun _ u hu=>by subst hu;exact fun _ _ _=>rfl) hq h hL.has ha).wp rfl hK hL ha hd
 | false =>
  cases hl:isL tb o with
  | true=>exact Z72 hT hl h hL ha hd hK
  | false =>
   cases hc:Zt o with
   | false=>exact Z6r hT (fun h=>by rw[hc] at h;cases h) hq hl h hL.has ha hd (NxtB.of hK hL)
   | true =>
    obtain⟨dst,op,type,pos,after,guard⟩:=o
    cases op with
    | call cl =>
     obtain⟨callee,args,ats⟩:=cl
     cases callee with
     | value f=>exact Oi (fo:=f) rfl rfl hL.has ha hd h fun t own' I' V' a' w' hk hl2 _ har=>hK _ _ _ _ _ _ hk (hL.trans hl2) har
     | _=>cases hc
    | _=>cases hc
end
end Go.Proofs.YtihfaocdpmmooaaGreat
namespace Go.Proofs.YtihfaocdpmmooaaGreat
open Go.RowKit
section
variable {P:Program} {tb:List (Nat × TI)} {N n:Nat} {I I' I0:Imm} {V V' V0:Va} {a:Act} {t:Ts} {own own' own0:Os} {w w' w0:World} {g:G} {y:Value} {d:Option Tmp}
variable {K:Ts→Os→Nat→Prop} {next:Act→World→Prop} {Q:Exit→Act→World→Prop} {o:Oper} {ops:Array Oper} {rest:List Oper}
theorem ARep.redo (h:ARep N I V a t){i:Nat}{g':G}{x:Value}(hx:a.tmps[i]?=some x)(hg:TRep I V g' x):ARep N I V a ((i,g')::t) :=
 ⟨h.defers,h.size,fun j g hj=>by
  rw[A3] at hj
  split at hj
  ·next e=>subst e;cases hj;exact⟨x,hx,hg⟩
  ·exact h.get j g hj⟩
theorem G3 {mo:Mo}(h:sxG P tb mo ops.toList o t own n K)(ha:ARep N I V a t) :
  ∃t',ARep N I V a t'∧((Region.wanted o (yielded ops a.tmps)=true∧Jc P tb mo o t' own n K)∨(Region.wanted o (yielded ops a.tmps)=false∧K (put o.dst .un t') own n)):=by
 unfold sxG at h
 split at h
 ·next hg=>exact⟨t,ha,.inl ⟨Hn hg,h⟩⟩
 ·next j want hg =>
  rw[Dt,Array.getElem?_toList] at h
  have hw:Region.wanted o (yielded ops a.tmps)=(yielded ops a.tmps j==some want):=by unfold Region.wanted;rw[hg]
  cases hd:(ops[j]?).bind (·.dst) with
  | none =>
   rw[hd] at h
   exact⟨t,ha,.inr ⟨by rw[hw];simp[yielded,hd],h⟩⟩
  | some d =>
   rw[hd] at h
   dsimp only at h
   have hy:∀{x},a.tmps[d]?=some x→yielded ops a.tmps j=match x with | .bool b=>some b | _=>none:=fun hx=>by
    simp only[yielded,hd,Option.bind_some,hx]
    rename_i x
    cases x<;>rfl
   cases hl:look d t with
   | none=>rw[hl] at h;exact h.elim
   | some g =>
    obtain⟨x,hx,hr⟩:=ha.get d g hl
    rw[hl] at h
    cases g with
    | tt =>
     cases(show VRep I .tt x from hr)
     dsimp only at h
     cases want with
     | true=>exact⟨t,ha,.inl ⟨by rw[hw,hy hx];rfl,h⟩⟩
     | false=>exact⟨t,ha,.inr ⟨by rw[hw,hy hx];rfl,h⟩⟩
    | ff =>
     cases(show VRep I .ff x from hr)
     dsimp only at h
     cases want with
     | true=>exact⟨t,ha,.inr ⟨by rw[hw,hy hx];rfl,h⟩⟩
     | false=>exact⟨t,ha,.inl ⟨by rw[hw,hy hx];rfl,h⟩⟩
    | un =>
     cases(show VRep I .un x from hr)
     exact⟨t,ha,.inr ⟨by rw[hw,hy hx];cases want<;>rfl,h⟩⟩
    | v z =>
     have e:=Ap hr
     subst e
     cases x with
     | bool b =>
      dsimp only at h
      cases want with
      | true =>
       obtain⟨h1,h2⟩:=h
       cases b with
       | true=>exact⟨_,ha.redo hx (.of_v .tt),.inl ⟨by rw[hw,hy hx];rfl,h1 rfl⟩⟩
       | false=>exact⟨_,ha.redo hx (.of_v .ff),.inr ⟨by rw[hw,hy hx];rfl,h2 rfl⟩⟩
      | false =>
       obtain⟨h1,h2⟩:=h
       cases b with
       | true=>exact⟨_,ha.redo hx (.of_v .tt),.inr ⟨by rw[hw,hy hx];rfl,h1 rfl⟩⟩
       | false=>exact⟨_,ha.redo hx (.of_v .ff),.inl ⟨by rw[hw,hy hx];rfl,h2 rfl⟩⟩
     | _=>exact h.elim
    | _=>exact h.elim
theorem Ud (hT:∀t i,look t tb=some i→TIok P t i)(hK:Nxt N own0 I0 V0 w0 K (fun a w=>Q .normal a w)):∀{rest:List Oper} {t:Ts} {own:Os} {I:Imm} {V:Va} {a:Act} {w:World},sxO P tb ops.toList rest t own V.n K→Since own0 I0 V0 w0 own I V w→ARep N I V a t→(∀o∈rest,∀i,o.dst=some i→i < N)→wpList P ops Q rest a w
 | [],t,own,I,V,a,w,h,hL,ha,_=>hK _ _ _ _ _ _ h hL ha
 | o::rest,t,own,I,V,a,w,h,hL,ha,hd=>by
  have hd0:=hd o (by simp)
  have hdr:∀o∈rest,∀i,o.dst=some i→i < N:=fun o ho=>hd o (by simp[ho])
  obtain⟨t',ha',h⟩:=G3 h ha
  rcases h with⟨hw,h⟩ | ⟨hw,h⟩
  ·unfold wpList
   rw[if_pos hw]
   exact .inl (Z8o hT h hL ha' hd0 fun t own I V a w hk hl har=>Ud hT hK hk hl har hdr)
  ·unfold wpList
   rw[if_neg (by rw[hw];exact Bool.false_ne_true)]
   exact Ud hT hK h hL (ha'.put hd0 (.of_v .un)) hdr
theorem Z7r (l:List Bool)(i:Nat):Zab l i=l.toArray.getD i false:=by
 unfold Zab
 rw[Dt]
 cases h:l[i]?<;>simp[h]
theorem Hm (l:List Bool)(i:Nat):(X4 l i).toArray=l.toArray.setIfInBounds i true:=by
 have:X4 l i=l.set i true:=by
  induction l generalizing i with
  | nil=>simp[X4]
  | cons b l ih=>cases i<;>simp[X4,ih]
 rw[this];simp
theorem Th (l:List Bool)(es:List Edge):Ga l es=true↔∀e∈es,Region.binds .any e=true→l.toArray.getD e.on false=true:=by
 induction es with
 | nil=>simp[Ga]
 | cons e es ih =>
  unfold Ga
  rw[Z7r]
  constructor
  ·intro h e' he' hb'
   cases hx:(!Region.binds .any e||l.toArray.getD e.on false) with
   | false=>rw[hx] at h;cases h
   | true =>
    rw[hx] at h
    rcases List.mem_cons.1 he' with rfl | he'
    ·rw[hb',Bool.not_true,Bool.false_or] at hx;exact hx
    ·exact ih.1 h e' he' hb'
  ·intro h
   have hx:(!Region.binds .any e||l.toArray.getD e.on false)=true:=by
    cases hb:Region.binds .any e with
    | false=>rfl
    | true=>rw[h e (by simp) hb];rfl
   rw[hx]
   exact ih.2 fun e' he'=>h e' (by simp[he'])
theorem Z2b (l:List Bool):∀(os:List Oper) (bs:List Bool) (k i:Nat),i∈rdy l os bs k↔∃j o,i=k+j∧os[j]?=some o∧bs[j]?=some false∧Ga l o.after.toList=true
 | [],bs,k,i=>by simp[rdy]
 | o::os,[],k,i=>by simp[rdy]
 | o::os,b::bs,k,i=>by
  have ih:=Z2b l os bs (k+1) i
  have key:(∃j o',i=k+j∧(o::os)[j]?=some o'∧(b::bs)[j]?=some false∧Ga l o'.after.toList=true)↔((i=k∧b=false∧Ga l o.after.toList=true)∨∃j o',i=k+1+j∧os[j]?=some o'∧bs[j]?=some false∧Ga l o'.after.toList=true):=by
   constructor
   ·rintro⟨j,o',e,h1,h2,h3⟩
    cases j with
    | zero=>simp at h1 h2;subst h1 h2;exact .inl ⟨by omega,rfl,h3⟩
    | succ j=>exact .inr ⟨j,o',by omega,by simpa using h1,by simpa using h2,h3⟩
   ·rintro(⟨e,h1,h2⟩ | ⟨j,o',e,h1,h2,h3⟩)
    ·exact⟨0,o,by omega,by simp,by simp[h1],h2⟩
    ·exact⟨j+1,o',by omega,by simpa using h1,by simpa using h2,h3⟩
  rw[key,←ih]
  show i∈(bif (!b&&Ga l o.after.toList) then k::rdy l os bs (k+1) else rdy l os bs (k+1))↔_
  cases hb:b<;>cases he:Ga l o.after.toList<;>simp
theorem Gc {l:List Bool}(hl:l.length=ops.size)(i:Nat):i∈Region.ready .any ops l.toArray↔i∈rdy l ops.toList l 0:=by
 rw[mem_ready,Z2b]
 constructor
 ·rintro⟨h1,o,h2,h3⟩
  have hi:=(Array.getElem?_eq_some_iff.1 h2).1
  refine⟨i,o,by omega,by simpa using h2,?_,(Th l _).2 fun e he=>h3 e (by simpa using he)⟩
  have:i < l.length:=by omega
  simp[this] at h1
  simp[this,h1]
 ·rintro⟨j,o,e,h1,h2,h3⟩
  obtain rfl:i=j:=by omega
  exact⟨by simp[h2],o,by simpa using h1,fun e he=>(Th l _).1 h3 e (by simpa using he)⟩
theorem Jg {od:List Nat}{ops:List Oper}:∀{rs:List Nat} {i:Nat},Kt tb od ops rs=some i→i∈rs∧∃o,ops[i]?=some o∧isQ tb o=true
 | [],i,h=>by cases h
 | j::rs,i,h=>by
  unfold Kt at h
  rw[Dt] at h
  cases ho:ops[j]? with
  | none =>
   rw[ho] at h
   obtain⟨h1,h2⟩:=Jg h
   exact⟨by simp[h1],h2⟩
  | some o =>
   rw[ho] at h
   dsimp only at h
   cases hq:(isQ tb o&&!Fr j od) with
   | true =>
    rw[hq] at h
    cases h
    rw[Bool.and_eq_true] at hq
    exact⟨by simp,o,ho,hq.1⟩
   | false =>
    rw[hq] at h
    obtain⟨h1,h2⟩:=Jg h
    exact⟨by simp[h1],h2⟩
theorem Jw {ops:List Oper}:∀{rs:List Nat} {i:Nat},Qc tb ops rs=some i→i∈rs∧∃o,ops[i]?=some o∧Za4 tb o=true
 | [],i,h=>by cases h
 | j::rs,i,h=>by
  unfold Qc at h
  rw[Dt] at h
  cases ho:ops[j]? with
  | none =>
   rw[ho] at h
   obtain⟨h1,h2⟩:=Jw h
   exact⟨by simp[h1],h2⟩
  | some o =>
   rw[ho] at h
   cases hq:Za4 tb o with
   | true=>dsimp only at h;rw[hq] at h;cases h;exact⟨by simp,o,ho,hq⟩
   | false =>
    dsimp only at h
    rw[hq] at h
    obtain⟨h1,h2⟩:=Jw h
    exact⟨by simp[h1],h2⟩
theorem Z5x {ops:List Oper}{rs:List Nat}{i:Nat}(h:Zc1 tb ops rs=some i):i∈rs∧∃o,ops[i]?=some o∧Za4 tb o=true:=by
 unfold Zc1 at h
 split at h
 ·exact Jw h
 ·cases h
def Kv (tb:List (Nat × TI))(od:List Nat)(ops:Array Oper)(late:List Nat):Nat→List Bool→Bool
 | 0,l=>(rdy l ops.toList l 0).isEmpty
 | fuel+1,l=>match Kt tb od ops.toList (rdy l ops.toList l 0) with
  | some i=>Region.free .any ops l.toArray i&&(match nth ops.toList i with | some o=>!isR tb o||Zbx .any ops late i | none=>false)&&Kv tb od ops late fuel (X4 l i)
  | none=>match Zc1 tb ops.toList (rdy l ops.toList l 0) with
   | some i=>Region.free .any ops l.toArray i&&Kv tb od ops late fuel (X4 l i)
   | none=>(rdy l ops.toList l 0).all fun i=>Kv tb od ops late fuel (X4 l i)
theorem Q4 {f:Nat→Prop}:∀{l:List Nat},Zcm f l→∀i∈l,f i
 | [],_,i,hi=>by cases hi
 | [j],h,i,hi=>by rw[List.mem_singleton.1 hi];exact h
 | j::k::l,h,i,hi=>by
  rcases List.mem_cons.1 hi with rfl | hi
  ·exact h.1
  ·exact Q4 (l:=k::l) h.2 i hi
theorem Bx (V:Va)(XL:List Nat)(w:World):Agree V XL w w:=fun _ _ _=>rfl
theorem Cd (V:Va)(XL:List Nat)(w:World):Zcp (Agree V XL w):=fun u _ hu hb b hlt hX=>by
 have h1:=hu b hlt hX
 have h2:b < u.heap.size:=by
  rcases Nat.lt_or_ge b u.heap.size with h | h
  ·exact h
  ·rw[Array.getElem?_eq_none h,Array.getElem?_eq_getElem hlt] at h1
   cases h1
 rw[hb.block b h2]
 exact h1
theorem Z0q {I:Imm}:∀{l:List G} {cs us:List Value},Xu l=some cs→l.length=us.length→(∀(j:Nat) g u,l[j]?=some g→us[j]?=some u→VRep I g u)→us=cs
 | [],cs,us,h,hl,_=>by
  cases h
  exact List.eq_nil_of_length_eq_zero hl.symm
 | g::l,cs,us,h,hl,hu=>by
  cases us with
  | nil=>simp at hl
  | cons u us =>
   cases g with
   | v x =>
    unfold Xu at h
    cases hc:Xu l with
    | none=>rw[hc] at h;cases h
    | some cs' =>
     rw[hc] at h
     cases h
     have h1:=hu 0 _ _ rfl rfl
     have ih:=Z0q hc (by simpa using hl) fun j g u hg hu'=>hu (j+1) g u (by simpa using hg) (by simpa using hu')
     cases h1
     rw[ih]
   | _=>cases h
theorem W0:∀{l:List G} {cs:List Value},Xu l=some cs→l.length=cs.length∧∀(I:Imm) (j:Nat) g u,l[j]?=some g→cs[j]?=some u→VRep I g u
 | [],cs,h=>by cases h;exact⟨rfl,fun I j g u hg=>by simp at hg⟩
 | g::l,cs,h=>by
  cases g with
  | v x =>
   unfold Xu at h
   cases hc:Xu l with
   | none=>rw[hc] at h;cases h
   | some cs' =>
    rw[hc] at h
    cases h
    obtain⟨h1,h2⟩:=W0 hc
    refine⟨by simp[h1],fun I j g u hg hu=>?_⟩
    cases j with
    | zero=>simp at hg hu;subst hg hu;exact .v _
    | succ j=>exact h2 I j g u (by simpa using hg) (by simpa using hu)
  | _=>cases h
theorem Sf {I:Imm}{g:G}{x y:Value}(h:Z60 g=some x)(hy:VRep I g y):y=x:=by
 cases hy with
 | v z=>cases h;rfl
 | agg l cs hl hh =>
  have h:(match Xu l with | some cs=>some (Value.agg cs.toArray) | none=>none)=some x:=h
  cases hc:Xu l with
  | none=>rw[hc] at h;cases h
  | some cs'=>rw[hc] at h;cases h;rw[Z0q hc hl hh]
 | _=>cases h
theorem U8 {g:G}{x:Value}(h:Z60 g=some x)(I:Imm):VRep I g x:=by
 cases g with
 | v z=>cases h;exact .v _
 | agg l =>
  have h:(match Xu l with | some cs=>some (Value.agg cs.toArray) | none=>none)=some x:=h
  cases hc:Xu l with
  | none=>rw[hc] at h;cases h
  | some cs=>rw[hc] at h;cases h;obtain⟨h1,h2⟩:=W0 hc;exact .agg _ _ h1 (h2 I)
 | _=>cases h
theorem Z4u {g:G}{x y:Value}(h:Z60 (Z7d g)=some x)(hg:TRep I V g y):y=x:=by
 cases g with
 | tt=>cases(show VRep I .tt y from hg);cases h;rfl
 | ff=>cases(show VRep I .ff y from hg);cases h;rfl
 | nl=>cases h
 | v z=>exact Sf h (show VRep I (.v z) y from hg)
 | agg l=>exact Sf h (show VRep I (.agg l) y from hg)
 | _=>cases h
theorem Z05 (ha:ARep N I V a t)(hH:Has I V own w):∀{l:List Operand} {K:List G→Prop},Zex t own l K→∃gs,K gs∧gs.length=(l.map a.eval).length∧∀(I':Imm) (j:Nat) g u,gs[j]?=some g→(l.map a.eval)[j]?=some u→VRep I' g u
 | [],K,h=>⟨[],h,rfl,fun I' j g u hg=>by simp at hg⟩
 | x::l,K,h=>by
  obtain⟨g,h,hg⟩:=Av h ha hH
  cases hc:Z60 (Z7d g) with
  | none=>rw[hc] at h;exact h.elim
  | some z =>
   rw[hc] at h
   obtain⟨gs,hk,h1,h2⟩:=Z05 (K:=fun gs=>K (Z7d g::gs)) ha hH (l:=l) h
   have e:=Z4u hc hg
   refine⟨Z7d g::gs,hk,by simpa using h1,fun I' j g' u hg' hu=>?_⟩
   cases j with
   | zero=>simp at hg' hu;subst hg' hu;rw[e];exact U8 hc I'
   | succ j=>exact h2 I' j g' u (by simpa using hg') (by simpa using hu)
theorem Z4z {ops:Array Oper}{K:Ts→Prop}(hb:Za4 tb o=true)(ha:ARep N I V a t)(hH:Has I V own w)(h:Z94 P o t own K):∃g x,CallsTo P ops o x a∧Z60 g=some x∧K (put o.dst g t):=by
 unfold Z94 at h
 split at h
 case h_2=>exact h.elim
 next c ho =>
 split at h
 case h_2=>exact h.elim
 next f hf =>
 obtain⟨gs,⟨g,x,hc,hV,hk⟩,h1,h2⟩:=Z05 (K:=fun gs=>Z8t P f gs fun g=>K (put o.dst g t)) ha hH h
 have hg:o.guard=none:=by
  unfold Za4 at hb
  split at hb
  ·next hg _=>exact hg
  ·cases hb
 refine⟨g,x,⟨Hn hg,f,(c.args.toList.map a.eval).toArray,fun u=>?_,fun u=>?_⟩,hc,hk⟩
 ·have hev:a.eval (.func f)=.func (.func f) #[] #[]:=rfl
  have e:∀l:Array Operand,(l.toList.map a.eval).toArray=l.map a.eval:=fun l=>by cases l;simp
  obtain⟨callee,args,tys⟩:=c
  have hf:callee=.value (.func f):=hf
  subst hf
  have h3:∀ty,(do let d ←resolve a.eval ⟨.value (.func f),args,tys⟩ ty;invoke d.target d.args:Sem Next).run P u=(callFunc f (args.toList.map a.eval).toArray).run P u:=fun ty=>by
   simp[resolve,Deferred.ofValue,hev,invoke,e]
  have h4:=(h3 o.type).trans (Pr hV.1 u _)
  simpa only[execOp,ho] using h4
 ·refine(hV.2 (fun _ _=>none) u _ (fun b o x h=>by cases h) ⟨h1,fun j g' u' a1 a2=>h2 _ j g' u' a1 a2⟩).mono fun e w' ⟨y,q,I',e1,e2,e3,e4,_,_,e7⟩=>?_
  have e2:q=g:=e2
  rw[e2] at e4
  have:y=x:=by
   cases g with
   | tup l=>cases hc
   | _=>exact Sf hc e4
  rw[e1,this]
  exact⟨rfl,e7⟩
theorem Je {α:Type}(l:List Bool)(i:Nat)(K:List Bool→α):Mp l i K=K (X4 l i):=by
 induction l generalizing i K with
 | nil=>rfl
 | cons b l ih=>cases i<;>simp[Mp,X4,ih]
theorem Zb (k:Nat):∀(r:List Nat) (K:List Nat→Prop),H7 k r K→∃r',K r'
 | [],_,h=>⟨_,h⟩
 | j::l,K,h=>by
  unfold H7 at h
  split at h
  ·exact⟨_,h⟩
  ·obtain⟨r',h⟩:=Zb k l _ h;exact⟨_,h⟩
theorem Z1:∀(l:List Oper) (r:List Nat) (K:List Nat→Prop),Zam l r K→∃r',K r'
 | [],_,_,h=>⟨_,h⟩
 | o::l,r,K,h=>by
  unfold Zam at h
  split at h
  ·obtain⟨r',h⟩:=Zb _ _ _ h;exact Z1 l r' K h
  ·exact Z1 l r K h
theorem Z26:∀(l:Ts) (r:List Nat) (K:List Nat→Prop),Z9z l r K→∃r',K r'
 | [],_,_,h=>⟨_,h⟩
 | (i,g)::l,r,K,h=>by
  obtain⟨r',h⟩:=Zb _ _ _ h;exact Z26 l r' K h
theorem Mq {α:Type}{i j:Nat}{g x:α}{r:List (Nat × α)}(h:look i ((j,g)::r)=some x):i=j∧g=x∨look i r=some x:=by
 unfold look at h
 cases hb:Nat.beq i j with
 | true=>rw[hb] at h;exact .inl ⟨Nat.eq_of_beq_eq_true hb,Option.some.inj h⟩
 | false=>rw[hb] at h;exact .inr h
theorem Rq (t:Ts):∀(l:List Nat) (acc:Ts) (K:Ts→Prop),(∀i g,look i acc=some g→look i t=some g)→Z1f t l acc K→∃t',(∀i g,look i t'=some g→look i t=some g)∧K t'
 | [],_,_,ha,h=>⟨_,ha,h⟩
 | i::l,acc,K,ha,h=>by
  unfold Z1f at h
  split at h
  ·next g hg =>
   refine Rq t l _ K (fun j x hj=>?_) h
   rcases Mq hj with⟨rfl,rfl⟩ | hj
   ·exact hg
   ·exact ha _ _ hj
  ·exact Rq t l acc K ha h
theorem Se (w:Os):∀(n:Nat) (acc:Os) (K:Os→Prop),(∀i g,look i acc=some g→look i w=some g)→Z3y w n acc K→∃w',(∀i g,look i w'=some g→look i w=some g)∧K w'
 | 0,_,_,ha,h=>⟨_,ha,h⟩
 | n+1,acc,K,ha,h=>by
  have h:(match look n w with
   | some r=>Z3y w n ((n,r)::acc) K
   | none=>Z3y w n acc K):=h
  split at h
  ·next g hg =>
   refine Se w n _ K (fun j x hj=>?_) h
   rcases Mq hj with⟨rfl,rfl⟩ | hj
   ·exact hg
   ·exact ha _ _ hj
  ·exact Se w n acc K ha h
theorem Since.sub (h:Since own0 I0 V0 w0 own I V w)(hs:∀k r,look k own'=some r→look k own=some r):Since own0 I0 V0 w0 own' I V w :=
 ⟨⟨h.has.mem,fun k r e=>h.has.num k r (hs k r e),fun k r e=>h.has.each k r (hs k r e),fun k r b e=>h.has.foot k r b (hs k r e),fun k k' r r' b e e'=>h.has.disj k k' r r' b (hs k r e) (hs k' r' e')⟩,
  ⟨h.fro.os,h.fro.tape,h.fro.output,h.fro.size,h.fro.blk,h.fro.mono,fun k r b e=>h.fro.foot k r b (hs k r e)⟩,h.n,h.bb,h.ss⟩
theorem Zel {next:Act→World→Prop}{ol:List Oper}{K:Ts→Os→Nat→Prop}{c:(Ts→Os→Nat→Prop)→Prop}(hK:Nxt N own0 I0 V0 w0 K next):∀{rs:List Nat},brK ol t K c rs→∃K',Nxt N own0 I0 V0 w0 K' next∧c K'
 | [],h=>⟨K,hK,h⟩
 | [_],h=>⟨K,hK,h⟩
 | _::_::_,h=>by
  obtain⟨L,h⟩:=Z1 _ _ _ h
  obtain⟨L,h⟩:=Z26 _ _ _ h
  refine⟨_,fun t own I V a w hk hS ha=>?_,h⟩
  obtain⟨t',ht,hk⟩:=Rq t L [] _ (fun i g h=>by cases h) hk
  obtain⟨w',hw,hk⟩:=Se own V.n [] _ (fun i g h=>by cases h) hk
  exact hK _ _ _ _ _ _ hk (hS.sub hw) (ha.sub ht)
theorem Mz {u:World}(h:Has I V own w)(hb:Below w.heap.size w u):Later own I V w own I V u :=
 ⟨h.below hb,⟨hb.os,hb.tape,hb.output,hb.size,fun b hlt _=>⟨hb.block b hlt,fun _=>rfl⟩,fun _ _ _ h=>h,fun k r _ hk hf _=>⟨k,r,hk,hf⟩⟩,.refl _⟩
theorem Qq {XL od late:List Nat}(hT:∀t i,look t tb=some i→TIok P t i)(hQ:∀c d v a w,Q (.panic c) (a.put d v) w→Q (.panic c) a w)(hsel:Region.noSelect ops=true)(hd:∀o∈ops.toList,∀i,o.dst=some i→i < N) :
  ∀{K:Ts→Os→Nat→Prop} (_:Nxt N own0 I0 V0 w0 K (fun a w=>Q .normal a w)) {fu:List Oper} {l:List Bool} {t:Ts} {own:Os} {I:Imm} {V:Va} {a:Act} {w:World},l.length=ops.size→F0 .any ops l.toArray→Kv tb od ops late fu.length l=true→sxD P tb XL od late ops.toList fu l t own V.n K→Since own0 I0 V0 w0 own I V w→ARep N I V a t→(∀k∈XL,k < V.n)→wpAnyG P .any ops Q late fu.length (Agree V XL w) l.toArray a w
 | K,hK,[],l,t,own,I,V,a,w,hl,hc,hok,h,hL,ha,hkX=>by
  intro u hu
  refine⟨?_,hK _ _ _ _ _ _ h (hL.trans (Mz hL.has hu)) ha⟩
  rw[List.length_nil] at hok
  unfold Kv at hok
  refine List.eq_nil_iff_forall_not_mem.2 fun i hi=>?_
  rw[Gc hl,List.isEmpty_iff.1 hok] at hi
  cases hi
 | K,hK,o0::fu,l,t,own,I,V,a,w,hl,hc,hok,h,hL,ha,hkX=>by
  rw[List.length_cons] at hok
  show wpAnyG P .any ops Q late (fu.length+1) (Agree V XL w) l.toArray a w
  have hl':∀i,(X4 l i).length=ops.size:=fun i=>by
   have:=congrArg Array.size (Hm l i)
   simp at this
   omega
  unfold Kv at hok
  have h:Zfs P tb XL od late ops.toList o0 fu (sxD P tb XL od late ops.toList fu) l t own V.n K:=h
  unfold Zfs at h
  cases hf:Kt tb od ops.toList (rdy l ops.toList l 0) with
  | some i =>
   rw[hf] at h hok
   dsimp only at h hok
   simp only[Bool.and_eq_true] at hok
   obtain⟨⟨k1,k2⟩,k3⟩:=hok
   obtain⟨hi,o,ho,hq⟩:=Jg hf
   rw[Dt,ho] at h k2
   dsimp only at h k2
   cases hvb:Zbd own XL with
   | false=>rw[hvb] at h;exact h.elim
   | true =>
   rw[hvb] at h
   dsimp only at h
   have hXL:∀k∈(Mo.quiet XL).xl,∃r,look k own=some r:=fun k hk=>by
    have:=Ac hvb k hk
    split at this
    ·next r hr=>exact⟨r,hr⟩
    ·cases this
   have ho':ops[i]?=some o:=by simpa using ho
   have hr:=(Gc hl i).2 hi
   have hd0:=hd o (List.mem_of_getElem? ho)
   have hcn:=Cq hc hr
   obtain⟨t',ha',h⟩:=G3 h ha
   have rest:∀{v g},TRep I V g v→(Mp l i fun l=>sxD P tb XL od late ops.toList fu l (put o.dst g t') own V.n K)→wpAnyG P .any ops Q late fu.length (Agree V XL w) (l.toArray.setIfInBounds i true) (a.put o.dst v) w:=fun hg hk=>by
    rw[←Hm]
    rw[Je] at hk
    exact Qq hT hQ hsel hd hK (hl' i) (by rw[Hm];exact hcn) k3 hk hL (ha'.put hd0 hg) hkX
   have finP:∀(v:Value) (g:G),YieldsIf P ops (fun _=>True) o v a→TRep I V g v→(Mp l i fun l=>sxD P tb XL od late ops.toList fu l (put o.dst g t') own V.n K)→wpAnyG P .any ops Q late (fu.length+1) (Agree V XL w) l.toArray a w:=fun v g hy hg hk =>
    Ou ho' (Region.noSelect_spec hsel) (fun c a w=>hQ c _ _ a w) fu.length _ l.toArray a w hc (Region.free_spec ho' k1) hr hy (Bx _ _ _) (Cd _ _ _) (rest hg hk)
   rcases h with⟨hw,h⟩ | ⟨hw,h⟩
   ·cases hR:isR tb o with
    | false =>
     obtain⟨g,y,hk,hy,hrun⟩:=Uv (S:=fun _=>True) (mo:=.quiet XL) hT hXL (fun h=>by rw[hR] at h;cases h) hq h hL.has ha'
     exact finP y g (Z6i hw fun u _=>hrun u trivial) hy hk
    | true =>
     obtain⟨g,y,hk,hy,hrun⟩:=Uv (S:=Agree V XL w) (mo:=.quiet XL) hT hXL (fun _ u hu=>hu) hq h hL.has ha'
     rw[hR] at k2
     exact Q8 ho' (Region.noSelect_spec hsel) (fun c a w=>hQ c _ _ a w) (fun j hj=>List.all_eq_true.1 k2 j hj) fu.length _ l.toArray a w hc (Region.free_spec ho' k1) hr (Z6i hw fun u hu=>hrun u hu) (Bx _ _ _) (Cd _ _ _) (rest hy hk)
   ·exact finP undef .un (Za5 hw) (.of_v .un) h
  | none =>
   rw[hf] at h hok
   dsimp only at h hok
   cases hcs:Zc1 tb ops.toList (rdy l ops.toList l 0) with
   | some i =>
    rw[hcs] at h hok
    dsimp only at h hok
    simp only[Bool.and_eq_true] at hok
    obtain⟨k1,k3⟩:=hok
    obtain⟨hi,o,ho,hq⟩:=Z5x hcs
    rw[Dt,ho] at h
    dsimp only at h
    have ho':ops[i]?=some o:=by simpa using ho
    have hr:=(Gc hl i).2 hi
    have hd0:=hd o (List.mem_of_getElem? ho)
    have hcn:=Cq hc hr
    obtain⟨g,x,hcl,hcv,hk⟩:=Z4z (ops:=ops) hq ha hL.has h
    refine Nh ho' (Region.noSelect_spec hsel) (fun c a w=>hQ c _ _ a w) fu.length _ l.toArray a w hc (Region.free_spec ho' k1) hr hcl (Bx _ _ _) (Cd _ _ _) ?_
    rw[←Hm]
    rw[Je] at hk
    exact Qq hT hQ hsel hd hK (hl' i) (by rw[Hm];exact hcn) k3 hk hL (ha.put hd0 (.of_v (U8 hcv I))) hkX
   | none =>
   rw[hcs] at h hok
   dsimp only at h hok
   intro wu hu
   have hS0:∀v,Agree V XL wu v→Agree V XL w v:=fun v hv b hb hX=>(hv b (Nat.lt_of_lt_of_le hb hu.size) hX).trans (hu.block b hb)
   replace hL:=hL.trans (Mz hL.has hu)
   refine⟨fun h0=>?_,fun i hi=>?_⟩
   ·have:rdy l ops.toList l 0=[]:=List.eq_nil_iff_forall_not_mem.2 fun i hi=>by
     rw[←Gc hl,h0] at hi
     cases hi
    rw[this] at h
    exact hK _ _ _ _ _ _ h hL ha
   ·have hi':=(Gc hl i).1 hi
    have hk3:=List.all_eq_true.1 hok i hi'
    have hcn:=Cq hc hi
    obtain⟨-,o,ho',-⟩:=mem_ready.1 hi
    have ho:ops.toList[i]?=some o:=by simpa using ho'
    have hd0:=hd o (List.mem_of_getElem? ho)
    obtain⟨K,hK,h⟩:=(by
     cases hr:rdy l ops.toList l 0 with
     | nil=>rw[hr] at hi';cases hi'
     | cons j rs=>rw[hr] at h hi';obtain⟨K',hK',h⟩:=Zel hK h;exact⟨K',hK',Q4 h i hi'⟩:∃K,Nxt N own0 I0 V0 w0 K (fun a wu=>Q .normal a wu)∧match nth ops.toList i with
      | some o=>match isL tb o with
       | false=>sxG P tb .new ops.toList o t own V.n fun t wu n=>Mp l i fun l=>sxD P tb XL od late ops.toList fu l t wu n K
       | true=>match Fr i late with
        | true=>sxG P tb .late ops.toList o t own V.n fun t wu n=>Mp l i fun l=>sxD P tb XL od late ops.toList fu l t wu n K
        | false=>match vsG XL t o,Zbd own XL with
         | true,true=>sxG P tb (.vs XL) ops.toList o t own V.n fun t wu n=>Mp l i fun l=>sxD P tb XL od late ops.toList fu l t wu n K
         | _,_=>False
      | none=>False)
    rw[Dt,ho] at h
    dsimp only at h
    have again:∀{t own' I' V' a' wu'},(Mp l i fun l=>sxD P tb XL od late ops.toList fu l t own' V'.n K)→Since own I V wu own' I' V' wu'→ARep N I' V' a' t→F0 .any ops (l.toArray.setIfInBounds i true)→wpAnyG P .any ops Q late fu.length (Agree V' XL wu') (l.toArray.setIfInBounds i true) a' wu':=fun hk hl2 har hcc=>by
     rw[←Hm]
     rw[Je] at hk
     exact Qq hT hQ hsel hd hK (hl' i) (by rw[Hm];exact hcn) hk3 hk (hL.tail hl2) har (fun k hk=>Nat.lt_of_lt_of_le (hkX k hk) hl2.n)
    have sub:∀{own' I' V' wu'},Later own I V wu own' I' V' wu'→Agree V XL wu wu'→(∀k∈XL,∀b,V'.f k b→b < wu.heap.size→∃k'∈XL,V.f k' b)→∀u,Agree V' XL wu' u→Agree V XL w u:=fun hl2 hA hf u hu=>hS0 u fun b hb hX=>by
     rw[←hA b hb hX]
     exact hu b (Nat.lt_of_lt_of_le hb hl2.fro.size) fun k hk hfb=>by
      obtain⟨k',h1,h2⟩:=hf k hk b hfb hb
      exact hX k' h1 h2
    refine wpOp_step ho' fun K1 hK1=>?_
    have skip:∀{t'},ARep N I V a t'→(Mp l i fun l=>sxD P tb XL od late ops.toList fu l (put o.dst .un t') own V.n K)→K1 (a.put o.dst undef) wu:=fun ha' h=>hK1 _ _ ⟨_,fun _=>hS0,Bx _ _ _,Cd _ _ _,fun hcc=>again h (Later.refl hL.has).since (ha'.put hd0 (.of_v .un)) hcc⟩
    cases hli:isL tb o with
    | false =>
     rw[hli] at h
     dsimp only at h
     obtain⟨t',ha',h⟩:=G3 h ha
     rcases h with⟨hw,h⟩ | ⟨hw,h⟩
     ·rw[if_pos hw]
      cases hq:isQ tb o with
      | true =>
       obtain⟨g,y,hk,hy,hrun⟩:=Uv (S:=fun u=>u=wu) (mo:=.new) hT (fun k hk=>by cases hk) (fun _ u hu=>by rw[hu];exact Bx _ _ _) hq h hL.has ha'
       have hop:∀{Q2:Act→World→Prop},Q2 (a.put o.dst y) wu→o.wp P a wu Q2 Q:=fun {Q2} h2=>by
        unfold Oper.wp
        rw[hrun wu rfl]
        exact h2
       exact hop (hK1 _ _ ⟨_,fun _=>hS0,Bx _ _ _,Cd _ _ _,fun hcc=>again hk (Later.refl hL.has).since (ha'.put hd0 hy) hcc⟩)
      | false =>
      exact Z6r (mo:=.new) hT (fun _=>rfl) hq hli h hL.has ha' hd0 fun t own I V a w1 hk hl2 hb hkp har=>hK1 _ _ ⟨_,fun _=>sub hl2 (fun b hb' _=>hb.block b hb') (fun k hk b hf _=>⟨k,hk,hkp k (hkX k hk) b hf⟩),Bx _ _ _,Cd _ _ _,fun hcc=>again hk hl2.since har hcc⟩
     ·rw[if_neg (by rw[hw];exact Bool.false_ne_true)]
      exact skip ha' h
    | true =>
     rw[hli] at h
     dsimp only at h
     cases hm:Fr i late with
     | true =>
      rw[hm] at h
      dsimp only at h
      obtain⟨t',ha',h⟩:=G3 h ha
      rcases h with⟨hw,h⟩ | ⟨hw,h⟩
      ·rw[if_pos hw]
       exact Z72 (mo:=.late) (own0:=own) (I0:=I) (V0:=V) (w0:=wu) hT hli h (Later.refl hL.has).since ha' hd0 fun t own I V a w1 hk hl2 har=>hK1 _ _ ⟨_,fun hn=>absurd (C6.1 hm) hn,Bx _ _ _,Cd _ _ _,fun hcc=>again hk hl2 har hcc⟩
      ·rw[if_neg (by rw[hw];exact Bool.false_ne_true)]
       exact skip ha' h
     | false =>
      rw[hm] at h
      dsimp only at h
      cases hvs:vsG XL t o with
      | false=>rw[hvs] at h;exact h.elim
      | true =>
       cases hvb:Zbd own XL with
       | false=>rw[hvs,hvb] at h;exact h.elim
       | true =>
       rw[hvs,hvb] at h
       cases hgn:o.guard with
       | none =>
        have hvs:vsB XL t o=true:=by
         unfold vsG at hvs
         rw[hgn] at hvs
         exact hvs
        dsimp only at h
        unfold sxG at h
        rw[hgn] at h
        rw[if_pos (Hn hgn)]
        exact Yc hT hvs h hL.has hkX ha hd0 fun t own I V a w1 hk hl2 hA hf har=>hK1 _ _ ⟨_,fun _=>sub hl2 hA hf,Bx _ _ _,Cd _ _ _,fun hcc=>again hk hl2.since har hcc⟩
       | some gd =>
        dsimp only at h
        obtain⟨t',ha',h⟩:=G3 h ha
        rcases h with⟨hw,h⟩ | ⟨hw,h⟩
        ·rw[if_pos hw]
         have hvs2:vsB XL t' {o with guard:=none}=true:=by
          unfold vsG at hvs
          rw[hgn] at hvs
          obtain⟨dst,op,type,pos,after,guard⟩:=o
          cases op with
          | call cl =>
           dsimp only at hvs
           cases hce:cl.callee with
           | value f=>unfold vsB;dsimp only;rw[hce]
           | _=>rw[hce] at hvs;cases hvs
          | _=>cases hvs
         have h2:Jc P tb (.vs XL) {o with guard:=none} t' own V.n fun t wu n=>Mp l i fun l=>sxD P tb XL od late ops.toList fu l t wu n K:=by
          obtain⟨dst,op,type,pos,after,guard⟩:=o
          exact h
         have key:=Yc (o:={o with guard:=none}) (Q:=Q) (K:=fun t wu n=>Mp l i fun l=>sxD P tb XL od late ops.toList fu l t wu n K) hT hvs2 h2 hL.has hkX ha' hd0 fun t own I V a w1 hk hl2 hA hf har=>hK1 _ _ ⟨_,fun _=>sub hl2 hA hf,Bx _ _ _,Cd _ _ _,fun hcc=>again hk hl2.since har hcc⟩
         exact key
        ·rw[if_neg (by rw[hw];exact Bool.false_ne_true)]
         exact skip ha' h
end
end Go.Proofs.YtihfaocdpmmooaaGreat
namespace Go.Proofs.YtihfaocdpmmooaaGreat
open Go.RowKit
def Zh7 (N:Nat)(l:List Oper):Bool:=l.all fun o=>match o.dst with | some i=>Nat.blt i N | none=>true
def E5 (tb:List (Nat × TI))(N:Nat):Code→Bool
 | .region _ ops d=>Zh7 N ops.toList&&(match d with | true=>Region.noSelect ops&&Z4p tb ops.toList ops.toList 0 fun od=>Ld tb od ops.toList ops.toList 0 fun late=>Kv tb od ops late ops.toList.length (noB ops.toList) | false=>true)
 | .seq a b | .cond _ a b=>E5 tb N a&&E5 tb N b
 | .block _ a | .loop a | .scope a=>E5 tb N a
 | _=>true
def Ex.to:Ex→Exit
 | .normal=>.normal
 | .exit id=>.exit id
 | .ret=>.ret
 | .goto l=>.goto l
def Va.renS (V:Va)(m:List (Nat × Nat))(n:Nat):Va:=⟨n,V.b,fun k=>V.s (Go.Proofs.YtihfaocdpmmooaaGreat.ren m k),fun k=>V.f (Go.Proofs.YtihfaocdpmmooaaGreat.ren m k)⟩
section
variable {P:Program} {tb:List (Nat × TI)} {N n:Nat} {I I' I0:Imm} {V V' V0:Va} {a:Act} {t t':Ts} {own own' own0:Os} {w w' w0:World} {g:G} {x y:Value} {d:Option Tmp} {m:List (Nat × Nat)} {r:R}
theorem Bv (hk:Re n g=true)(h:CRep I V (K8 m g) x):CRep I (V.renS m n) g x:=by
 cases g with
 | orv k i s o l c=>cases s<;>exact h.elim
 | ptr k o=>exact⟨Nat.lt_of_lt_of_le (Nat.le_of_ble_eq_true hk) (Nat.le_refl _),h.2⟩
 | osl k=>exact⟨Nat.lt_of_lt_of_le (Nat.le_of_ble_eq_true hk) (Nat.le_refl _),h.2⟩
 | osv k sz lo hi=>exact⟨Nat.lt_of_lt_of_le (Nat.le_of_ble_eq_true hk) (Nat.le_refl _),h.2⟩
 | mp k=>exact⟨Nat.lt_of_lt_of_le (Nat.le_of_ble_eq_true hk) (Nat.le_refl _),h.2⟩
 | oel k i s o=>exact h
 | _=>exact h
theorem Ot {cs:List G}{us:List Value}(hk:Ar (Re n) cs=true)(h:PW (CRep I V) (cs.map (K8 m)) us):PW (CRep I (V.renS m n)) cs us :=
 ⟨by have:=h.1;simpa using this,fun j g u hg hu=>Bv (Ac hk g (List.mem_of_getElem? hg)) (h.2 j _ u (by rw[List.getElem?_map,hg];rfl) hu)⟩
theorem Au (hk:Z9r n g=true)(h:TRep1 I V (S0 m g) x):TRep1 I (V.renS m n) g x:=by
 cases g with
 | oag l =>
  obtain⟨cs,e,hp⟩:=(show ∃cs:List Value,x=.agg cs.toArray∧PW (CRep I V) (l.map (K8 m)) cs from h)
  exact⟨cs,e,Ot hk hp⟩
 | clo f a c =>
  obtain⟨⟨g,hg,hn⟩,us,cs,e,h1,h2⟩:=(show(∃g,(g∈a.map (K8 m)∨g∈c.map (K8 m))∧Be g=false)∧_ from h)
  have hk:(match Ar (Re n) a with | true=>Ar (Re n) c | false=>false)=true:=hk
  split at hk
  ·next ha =>
   have hne:∀{g:G},Be (K8 m g)=false→Be g=false:=fun {g} h=>by cases g<;>first | rfl | exact h | (next sz _ _ _=>cases sz<;>rfl)
   refine⟨?_,us,cs,e,Ot ha h1,Ot hk h2⟩
   rcases hg with hg | hg
   ·obtain⟨g0,h3,rfl⟩:=List.mem_map.1 hg
    exact⟨g0,.inl h3,hne hn⟩
   ·obtain⟨g0,h3,rfl⟩:=List.mem_map.1 hg
    exact⟨g0,.inr h3,hne hn⟩
  ·cases hk
 | oel k i s o =>
  obtain⟨h1,h2⟩:=(show _∧_ from h)
  exact⟨Nat.lt_of_lt_of_le (Nat.le_of_ble_eq_true hk) (Nat.le_refl _),h2⟩
 | orv k i s o l c =>
  cases s with
  | zero =>
   obtain⟨h1,b,q,h2,h3⟩:=(show _∧∃b q,_∧_ from h)
   exact⟨Nat.lt_of_lt_of_le (Nat.le_of_ble_eq_true hk) (Nat.le_refl _),b,q,h2,h3⟩
  | succ s =>
   obtain⟨h1,b,q,h2,h3⟩:=(show _∧∃b q,_∧_ from h)
   exact⟨Nat.lt_of_lt_of_le (Nat.le_of_ble_eq_true hk) (Nat.le_refl _),b,q,h2,h3⟩
 | elp row o=>exact h
 | tup l=>cases hk
 | ptr k o=>exact .of_c (Bv (g:=.ptr k o) hk h)
 | osl k=>exact .of_c (Bv (g:=.osl k) hk h)
 | osv k sz lo hi=>exact .of_c (Bv (g:=.osv k sz lo hi) hk h)
 | mp k=>exact .of_c (Bv (g:=.mp k) hk h)
 | v z=>exact .of_c (Bv (m:=m) (V:=V) (g:=.v z) rfl h)
 | tt=>exact .of_c (Bv (m:=m) (V:=V) (g:=.tt) rfl h)
 | ff=>exact .of_c (Bv (m:=m) (V:=V) (g:=.ff) rfl h)
 | un=>exact .of_c (Bv (m:=m) (V:=V) (g:=.un) rfl h)
 | nl=>exact .of_c (Bv (m:=m) (V:=V) (g:=.nl) rfl h)
 | agg l=>exact .of_c (Bv (m:=m) (V:=V) (g:=.agg l) rfl h)
 | sl l=>exact .of_c (Bv (m:=m) (V:=V) (g:=.sl l) rfl h)
theorem Z1t (hk:Z30 n g=true)(h:TRep I V (renS m g) x):TRep I (V.renS m n) g x:=by
 cases g with
 | tup l =>
  obtain⟨cs,e,hp⟩:=(show ∃cs:List Value,x=.tuple cs.toArray∧PW (TRep1 I V) (l.map (S0 m)) cs from h)
  exact⟨cs,e,by simpa using hp.1,fun j g u hg hu=>Au (Ac (show Ar (Z9r n) l=true from hk) g (List.mem_of_getElem? hg)) (hp.2 j _ u (by rw[List.getElem?_map,hg];rfl) hu)⟩
 | oag l=>exact .of_1 (Au (g:=.oag l) hk h)
 | clo f a c=>exact .of_1 (Au (g:=.clo f a c) hk h)
 | oel k i s o=>exact .of_1 (Au (g:=.oel k i s o) hk h)
 | orv k i s o l c=>cases s<;>exact .of_1 (Au hk h)
 | elp row o=>exact .of_1 (g:=.elp row o) h
 | ptr k o=>exact .of_1 (Au (g:=.ptr k o) hk h)
 | osl k=>exact .of_1 (Au (g:=.osl k) hk h)
 | osv k a b c=>exact .of_1 (Au (g:=.osv k a b c) hk h)
 | mp k=>exact .of_1 (Au (g:=.mp k) hk h)
 | v z=>exact .of_1 (Au (m:=m) (V:=V) (g:=.v z) rfl h)
 | tt=>exact .of_1 (Au (m:=m) (V:=V) (g:=.tt) rfl h)
 | ff=>exact .of_1 (Au (m:=m) (V:=V) (g:=.ff) rfl h)
 | un=>exact .of_1 (Au (m:=m) (V:=V) (g:=.un) rfl h)
 | nl=>exact .of_1 (Au (m:=m) (V:=V) (g:=.nl) rfl h)
 | agg l=>exact .of_1 (Au (m:=m) (V:=V) (g:=.agg l) rfl h)
 | sl l=>exact .of_1 (Au (m:=m) (V:=V) (g:=.sl l) rfl h)
theorem Yi:∀{T:Ts},leT m t n T→∀{i g},look i T=some g→Z30 n g=true∧look i t=some (renS m g)
 | [],_,i,g,h=>by cases h
 | (j,g')::T,hT,i,g,h=>by
  rw[A3] at h
  split at h
  ·next e=>subst e;cases h;exact hT.1
  ·exact Yi hT.2 h
theorem Hv:∀{T:Os},leO m own n T→∀{i r},look i T=some r→i < n∧(isS r=true∨ren m i=i)∧Tv n r=true∧look (ren m i) own=some (Z3f m r)
 | [],_,i,g,h=>by cases h
 | (j,g')::T,hT,i,g,h=>by
  rw[A3] at h
  split at h
  ·next e =>
   subst e;cases h
   have h1:=hT.1.1
   simp only[Bool.and_eq_true,Bool.or_eq_true] at h1
   exact⟨Nat.le_of_ble_eq_true h1.1,h1.2.imp id Nat.eq_of_beq_eq_true,hT.1.2⟩
  ·exact Hv hT.2 h
theorem Zcs (hn:V0.n≤n)(hS:SinceC own0 I0 V0 w0 own I V w)(ha:ARep N I V a t)(h:le m t own n t' own'):SinceC own0 I0 V0 w0 own' I (V.renS m n) w∧ARep N I (V.renS m n) a t':=by
 obtain⟨h1,h2,h3⟩:=h
 have hH:=hS.has
 refine⟨⟨⟨hH.mem,fun k r hk=>(Hv h2 hk).1,fun k r hk=>?_,fun k r b hk hb=>?_,fun k k' r r' b hk hk' hb hb'=>?_⟩,⟨hS.fro.os,hS.fro.tape,hS.fro.output,hS.fro.size,hS.fro.blk,hS.fro.mono,fun k r b hk hb hlt=>?_⟩,hn,hS.bb⟩,⟨ha.defers,ha.size,fun i g hg=>?_⟩⟩
 ·obtain⟨-,k1,k2,k3⟩:=Hv h2 hk
  have hr:=hH.each _ _ k3
  have hb:isS r=true∨V.b k=V.b (ren m k):=k1.imp id fun e=>by rw[e]
  cases r with
  | blk cs ty =>
   have hb:=hb.resolve_left (fun h=>by cases h)
   obtain⟨q1,us,q2,q3⟩:=hr
   exact⟨fun b=>by show V.f (ren m k) b↔b=V.b k;rw[hb];exact q1 b,us,by show w.heap[V.b k]?=_;rw[hb];exact q2,Ot k2 q3⟩
  | slc rows e sz=>exact hr
  | vw rows e sz=>exact hr
  | froz rows sz=>exact hr
  | gone=>exact hr
  | mpI l =>
   have hb:=hb.resolve_left (fun h=>by cases h)
   exact⟨fun b=>by show V.f (ren m k) b↔b=V.b k;rw[hb];exact hr.1 b,by show MapR I w (V.b k) _ _;rw[hb];exact hr.2⟩
  | mpS l =>
   have hb:=hb.resolve_left (fun h=>by cases h)
   exact⟨fun b=>by show V.f (ren m k) b↔b=V.b k;rw[hb];exact hr.1 b,by show MapR I w (V.b k) _ _;rw[hb];exact hr.2⟩
  | sit s pos =>
   have hb:=hb.resolve_left (fun h=>by cases h)
   exact⟨fun b=>by show V.f (ren m k) b↔b=V.b k;rw[hb];exact hr.1 b,by show w.heap[V.b k]?=_;rw[hb];exact hr.2⟩
  | mpX l m2 ob =>
   have hb:=hb.resolve_left (fun h=>by cases h)
   exact⟨fun b=>by show V.f (ren m k) b↔b=V.b k;rw[hb];exact hr.1 b,(show V.b k=m2 from hb.trans hr.2.1),hr.2.2⟩
  | mit j l D last m2 ob =>
   have hb:=hb.resolve_left (fun h=>by cases h)
   obtain⟨a1,it,L,a2,a3,a4⟩:=hr
   exact⟨fun b=>by show V.f (ren m k) b↔b=V.b k;rw[hb];exact a1 b,it,L,by show w.heap[V.b k]?=_;rw[hb];exact a2,a3,fun w2 e1 e2=>by
    change w2.heap[V.b k]?=_ at e2
    show RanB w2 (V.b k) m2 Ze9 id L D∧∀kg,last=some kg→∃v,VRep I kg.2 v∧∀P:Program,(Instr.entry (.pointer (some ⟨V.b k,0,none⟩))).run P w2=_
    rw[hb] at e2⊢
    exact a4 w2 e1 e2⟩
  | abs p =>
   have hb:=hb.resolve_left (fun h=>by cases h)
   exact⟨hr.1,by show p I (V.b k) (V.f (ren m k)) w;rw[hb];exact hr.2⟩
  | lnk j=>cases k2
  | adr j b=>exact⟨fun c=>hr.1 c,Nat.le_of_ble_eq_true k2,hr.2.2⟩
  | fam ps=>exact⟨hr.1,hr.2⟩
 ·obtain⟨-,-,k2,k3⟩:=Hv h2 hk
  exact hH.foot _ _ b k3 hb
 ·obtain⟨-,-,-,k3⟩:=Hv h2 hk
  obtain⟨-,-,-,k3'⟩:=Hv h2 hk'
  exact Ni h3 hk hk' (hH.disj _ _ _ _ b k3 k3' hb hb')
 ·obtain⟨-,-,-,k3⟩:=Hv h2 hk
  exact hS.fro.foot _ _ b k3 hb hlt
 ·obtain⟨k1,k2⟩:=Yi h1 hg
  obtain⟨x,hx,hr⟩:=ha.get i _ k2
  exact⟨x,hx,Z1t k1 hr⟩
def Zew (N:Nat)(own0:Os)(I0:Imm)(V0:Va)(w0:World)(K:KC)(Q:Exit→Act→World→Prop):Prop :=
 ∀e t own I V a w,K e t own V.n→SinceC own0 I0 V0 w0 own I V w→ARep N I V a t→Q e.to a w
theorem Lu (hm:P.follows .mixedOrders=true){id:Nat}{ops:Array Oper}{Q:Exit→Act→World→Prop}{S:World→Prop}{late:List Nat}(hc:wpAnyG P .any ops Q late ops.size S (Array.replicate ops.size false) a w.drew):(Code.region id ops true).wp P Q a w :=
 wp_region_any hm (Md _ _ _ _ _ (Gb _ rfl) hc)
theorem Z63 (l:List Oper):(noB l).toArray=Array.replicate l.length false∧(noB l).length=l.length:=by
 have:noB l=List.replicate l.length false:=by
  induction l with
  | nil=>rfl
  | cons o l ih=>rw[noB,ih];rfl
 rw[this];simp
theorem Z39 (es:List Edge)(m:List Bool):∃m',∀{α:Type} (K:List Bool→α),X8 es m K=K m':=by
 induction es generalizing m with
 | nil=>exact⟨m,fun _=>rfl⟩
 | cons e es ih =>
  cases hb:Region.binds .any e with
  | true =>
   obtain⟨m',h⟩:=ih (X4 m e.on)
   exact⟨m',fun K=>by unfold X8;rw[hb];dsimp only;rw[Je];exact h K⟩
  | false =>
   obtain⟨m',h⟩:=ih m
   exact⟨m',fun K=>by unfold X8;rw[hb];exact h K⟩
theorem Zl (ops:List Oper)(n:Nat)(m:List Bool):∃m',∀{α:Type} (K:List Bool→α),Iu ops n m K=K m':=by
 induction n generalizing m with
 | zero=>exact⟨m,fun _=>rfl⟩
 | succ n ih =>
  cases hb:Zab m n with
  | true =>
   cases ho:nth ops n with
   | none =>
    obtain⟨m',h⟩:=ih m
    exact⟨m',fun K=>by unfold Iu;rw[hb,ho];exact h K⟩
   | some o =>
    obtain⟨m1,h1⟩:=Z39 o.after.toList m
    obtain⟨m',h⟩:=ih m1
    exact⟨m',fun K=>by unfold Iu;rw[hb,ho];dsimp only;rw[h1];exact h K⟩
  | false =>
   obtain⟨m',h⟩:=ih m
   exact⟨m',fun K=>by unfold Iu;rw[hb];exact h K⟩
theorem Z12 (ops:List Oper)(l:List Oper)(i:Nat):∃r,∀{α:Type} (K:List Nat→α),Z4p tb ops l i K=K r:=by
 induction l generalizing i with
 | nil=>exact⟨[],fun K=>rfl⟩
 | cons o l ih =>
  obtain⟨r,h⟩:=ih (i+1)
  cases hl:Zgc tb ops i o with
  | false=>exact⟨r,fun K=>by unfold Z4p;rw[hl];exact h K⟩
  | true=>exact⟨i::r,fun K=>by unfold Z4p;rw[hl];exact h _⟩
theorem W5 (od:List Nat)(ops:List Oper)(l:List Oper)(i:Nat):∃r,∀{α:Type} (K:List Nat→α),Ld tb od ops l i K=K r:=by
 induction l generalizing i with
 | nil=>exact⟨[],fun _=>rfl⟩
 | cons o l ih =>
  obtain⟨r,h⟩:=ih (i+1)
  cases hl:isL tb o with
  | false=>exact⟨r,fun K=>by unfold Ld;rw[hl];exact h K⟩
  | true =>
   obtain⟨m,hm⟩:=Zl ops (i+1) (X4 (noB ops) i)
   cases ha:Zeg tb od ops m 0 with
   | true=>exact⟨i::r,fun K=>by unfold Ld;rw[hl];dsimp only;rw[Je,hm,ha];exact h _⟩
   | false=>exact⟨r,fun K=>by unfold Ld;rw[hl];dsimp only;rw[Je,hm,ha];exact h _⟩
theorem S9 (k:Nat):∀r:List Nat,∃r':List Nat,(∀{α:Type} (K:List Nat→α),H7 k r K=K r')∧∀j∈r',j∈r∨j=k
 | []=>⟨[k],fun _=>rfl,fun j h=>.inr (by simpa using h)⟩
 | i::r=>by
  obtain⟨r',h1,h2⟩:=S9 k r
  cases hb:Nat.beq k i with
  | true=>exact⟨i::r,fun K=>by unfold H7;rw[hb],fun j h=>.inl h⟩
  | false =>
   refine⟨i::r',fun K=>by unfold H7;rw[hb];exact h1 _,fun j h=>?_⟩
   rcases List.mem_cons.1 h with rfl | h
   ·exact .inl (by simp)
   ·exact(h2 j h).imp (fun h=>by simp[h]) id
def GathLt {α:Type}(n:Nat)(F:List Nat→(List Nat→α)→α):Prop:=∀r,(∀k∈r,k < n)→∃r':List Nat,(∀k∈r',k < n)∧∀K:List Nat→α,F r K=K r'
theorem GathLt.seq {α:Type}{n:Nat}{F F':List Nat→(List Nat→α)→α}(h:GathLt n F)(h':GathLt n F'):GathLt n (fun r K=>F r fun r=>F' r K):=fun r hr=>by
 obtain⟨r1,a1,a2⟩:=h r hr
 obtain⟨r2,b1,b2⟩:=h' r1 a1
 exact⟨r2,b1,fun K=>(a2 _).trans (b2 K)⟩
theorem GathLt.none {α:Type}{n:Nat}:GathLt n (fun r (K:List Nat→α)=>K r):=fun r hr=>⟨r,hr,fun _=>rfl⟩
theorem B8 {α:Type}{n k:Nat}(hk:k < n):GathLt (α:=α) n (fun r K=>H7 k r K):=fun r hr=>by
 obtain⟨r',h1,h2⟩:=S9 k r
 exact⟨r',fun j hj=>(h2 j hj).elim (hr j) (fun e=>by omega),fun K=>h1 K⟩
theorem Zgs {α:Type}(h:CRep I V g x):GathLt (α:=α) V.n (fun r K=>vaC g r K):=by
 cases g with
 | ptr k o=>exact B8 h.1
 | _=>exact GathLt.none
theorem Z89 {α:Type}:∀{l:List G} {us:List Value},PW (CRep I V) l us→GathLt (α:=α) V.n (fun r K=>Zdy l r K)
 | [],_,_=>GathLt.none
 | g::l,us,h=>by
  obtain⟨x,us',rfl,h1,h2⟩:=h.uncons
  exact(Zgs h1).seq (Z89 h2)
theorem Zh6 {α:Type}(h:TRep I V g x):GathLt (α:=α) V.n (fun r K=>va1 g r K):=by
 cases g with
 | clo f a c =>
  obtain⟨-,us,cs,-,h1,h2⟩:=(show TRep1 I V (.clo f a c) x from h)
  exact(Z89 h1).seq (Z89 h2)
 | ptr k o=>exact B8 (Bt h).1
 | _=>exact GathLt.none
theorem Hz {ops:List Oper}{k:Nat}:∀{n d:Nat},L6 t ops n d=some k→∃d' o,look d' t=some (.ptr k o)
 | 0,_,h=>by cases h
 | n+1,d,h=>by
  unfold L6 at h
  split at h
  ·next hl=>cases h;exact⟨d,_,hl⟩
  ·cases h
  ·split at h
   ·exact Hz h
   ·cases h
theorem Mj {ops:List Oper}{k:Nat}:∀{n d:Nat},Z0c t ops n d=some k→∃d',look d' t=some (.osl k)
 | 0,_,h=>by cases h
 | n+1,d,h=>by
  unfold Z0c at h
  split at h
  ·next hl=>cases h;exact⟨d,hl⟩
  ·cases h
  ·split at h
   ·exact Mj h
   ·cases h
theorem Zg5 {α:Type}(ha:ARep N I V a t)(ops:List Oper):∀l:List Operand,GathLt (α:=α) V.n (fun r K=>vsS t ops l r K)
 | []=>GathLt.none
 | y::l=>fun r hr=>by
  have ih:=Zg5 (α:=α) ha ops l
  cases y with
  | tmp d =>
   cases hro:Z0c t ops 8 d with
   | none =>
    obtain⟨r',h1,h2⟩:=ih r hr
    exact⟨r',h1,fun K=>by show vsS t ops (.tmp d::l) r K=_;unfold vsS;rw[hro];exact h2 K⟩
   | some k =>
    obtain⟨_,hl2⟩:=Mj hro
    obtain⟨y,hy,hg⟩:=ha.get _ _ hl2
    obtain⟨r1,a1,a2⟩:=B8 (α:=α) (show k < V.n from(show CRep I V (.osl k) y from hg).1) r hr
    obtain⟨r2,b1,b2⟩:=ih r1 a1
    exact⟨r2,b1,fun K=>by show vsS t ops (.tmp d::l) r K=_;unfold vsS;rw[hro];exact(a2 _).trans (b2 K)⟩
  | _=>exact ih r hr
theorem Zcl {α:Type}(ha:ARep N I V a t)(b:Bool)(ops:List Oper)(l:List Operand):GathLt (α:=α) V.n (fun r K=>Zgf b t ops l r K):=by
 cases b with
 | true=>exact Zg5 ha ops l
 | false=>exact GathLt.none
theorem Zg8 {α:Type}(ha:ARep N I V a t)(ops:List Oper):∀l:List Operand,GathLt (α:=α) V.n (fun r K=>vaL t ops l r K)
 | []=>GathLt.none
 | y::l=>fun r hr=>by
  have ih:=Zg8 (α:=α) ha ops l
  cases y with
  | tmp d =>
   cases hl:look d t with
   | none =>
    cases hro:L6 t ops 8 d with
    | none =>
     obtain⟨r',h1,h2⟩:=ih r hr
     exact⟨r',h1,fun K=>by show vaL t ops (.tmp d::l) r K=_;unfold vaL;dsimp only;rw[hl];dsimp only;rw[hro];exact h2 K⟩
    | some k =>
     obtain⟨_,_,hl2⟩:=Hz hro
     obtain⟨y,hy,hg⟩:=ha.get _ _ hl2
     obtain⟨r1,a1,a2⟩:=B8 (α:=α) (Bt hg).1 r hr
     obtain⟨r2,b1,b2⟩:=ih r1 a1
     exact⟨r2,b1,fun K=>by show vaL t ops (.tmp d::l) r K=_;unfold vaL;dsimp only;rw[hl];dsimp only;rw[hro];exact(a2 _).trans (b2 K)⟩
   | some g =>
    obtain⟨z,hz,hg⟩:=ha.get d g hl
    obtain⟨r1,a1,a2⟩:=Zh6 (α:=α) hg r hr
    obtain⟨r2,b1,b2⟩:=ih r1 a1
    exact⟨r2,b1,fun K=>by show vaL t ops (.tmp d::l) r K=_;unfold vaL;dsimp only;rw[hl];exact(a2 _).trans (b2 K)⟩
  | _=>exact ih r hr
theorem Zdi (h:CRep I V g x):GathLt (α:=Prop) V.n (fun r K=>gkC g r K):=by
 cases g with
 | ptr k o=>exact B8 h.1
 | osl k=>exact B8 h.1
 | osv k a b c=>exact B8 h.1
 | oel k i s o=>exact h.elim
 | mp k=>exact B8 h.1
 | _=>exact GathLt.none
theorem Z1q:∀{l:List G} {us:List Value},PW (CRep I V) l us→GathLt (α:=Prop) V.n (fun r K=>Z7u l r K)
 | [],_,_=>GathLt.none
 | g::l,us,h=>by
  obtain⟨x,us',rfl,h1,h2⟩:=h.uncons
  exact(Zdi h1).seq (Z1q h2)
theorem Vz (hH:Has I V own w):∀l:List Nat,GathLt (α:=Prop) V.n (fun r K=>O6 own l r K)
 | []=>GathLt.none
 | k::l=>fun r hr=>by
  have ih:=Vz hH l
  show ∃r':List Nat,_∧∀K:List Nat→Prop,O6 own (k::l) r K=K r'
  unfold O6
  split
  ·next cs t hl =>
   obtain⟨-,us,-,hp⟩:=hH.each k _ hl
   obtain⟨r1,a1,a2⟩:=Z1q hp r hr
   obtain⟨r2,b1,b2⟩:=ih r1 a1
   exact⟨r2,b1,fun K=>(a2 _).trans (b2 K)⟩
  ·exact ih r hr
theorem Z18 (hH:Has I V own w):∀n:Nat,GathLt (α:=Prop) V.n (fun r K=>trK own n r K)
 | 0=>GathLt.none
 | n+1=>fun r hr=>by
  obtain⟨r1,a1,a2⟩:=Vz hH r r hr
  obtain⟨r2,b1,b2⟩:=Z18 hH n r1 a1
  exact⟨r2,b1,fun K=>(a2 _).trans (b2 K)⟩
theorem Zx {α:Type}{n:Nat}:∀w:Os,(∀k r,(k,r)∈w→k < n)→GathLt (α:=α) n (fun r K=>Zbu w r K)
 | [],_=>GathLt.none
 | (k,q)::l,h=>fun r hr=>by
  have ih:=Zx (α:=α) l fun k r hk=>h k r (by simp[hk])
  cases q with
  | abs p =>
   obtain⟨r1,a1,a2⟩:=B8 (α:=α) (h k _ (by simp:(k,R.abs p)∈_)) r hr
   obtain⟨r2,b1,b2⟩:=ih r1 a1
   exact⟨r2,b1,fun K=>(a2 _).trans (b2 K)⟩
  | fam p =>
   obtain⟨r1,a1,a2⟩:=B8 (α:=α) (h k _ (by simp:(k,R.fam p)∈_)) r hr
   obtain⟨r2,b1,b2⟩:=ih r1 a1
   exact⟨r2,b1,fun K=>(a2 _).trans (b2 K)⟩
  | _=>exact ih r hr
theorem Y6 {α:Type}{n:Nat}:∀w:Os,(∀k r,(k,r)∈w→k < n)→GathLt (α:=α) n (fun r K=>Zaw w r K)
 | [],_=>GathLt.none
 | (k,q)::l,h=>fun r hr=>by
  have ih:=Y6 (α:=α) l fun k r hk=>h k r (by simp[hk])
  cases q with
  | mpI p =>
   obtain⟨r1,a1,a2⟩:=B8 (α:=α) (h k _ (by simp:(k,R.mpI p)∈_)) r hr
   obtain⟨r2,b1,b2⟩:=ih r1 a1
   exact⟨r2,b1,fun K=>(a2 _).trans (b2 K)⟩
  | mpS p =>
   obtain⟨r1,a1,a2⟩:=B8 (α:=α) (h k _ (by simp:(k,R.mpS p)∈_)) r hr
   obtain⟨r2,b1,b2⟩:=ih r1 a1
   exact⟨r2,b1,fun K=>(a2 _).trans (b2 K)⟩
  | _=>exact ih r hr
theorem Ho {α:Type}{k:Nat}{x:α}:∀{l:List (Nat × α)},(k,x)∈l→∃y,look k l=some y
 | [],h=>by simp at h
 | (j,y)::l,h=>by
  rw[A3]
  by_cases e:k=j
  ·rw[if_pos e];exact⟨y,rfl⟩
  ·rw[if_neg e]
   rcases List.mem_cons.1 h with h | h
   ·exact absurd (congrArg Prod.fst h) e
   ·exact Ho h
theorem Zbb {α:Type}{o:Os}{n:Nat}(h:∀k r,look k o=some r→k < n):∀l:List G,GathLt (α:=α) n (fun r K=>Z3u o l r K)
 | []=>GathLt.none
 | g::l=>fun r hr=>by
  have ih:=Zbb (α:=α) h l
  cases g with
  | osl k =>
   cases hk:look k o with
   | none =>
    obtain⟨r',h1,h2⟩:=ih r hr
    exact⟨r',h1,fun K=>by show Z3u o (.osl k::l) r K=_;unfold Z3u;dsimp only;rw[hk];exact h2 K⟩
   | some q =>
    obtain⟨r1,a1,a2⟩:=B8 (α:=α) (h k q hk) r hr
    obtain⟨r2,b1,b2⟩:=ih r1 a1
    exact⟨r2,b1,fun K=>by show Z3u o (.osl k::l) r K=_;unfold Z3u;dsimp only;rw[hk];exact(a2 _).trans (b2 K)⟩
  | _=>exact ih r hr
theorem Zgu {α:Type}{o:Os}{n:Nat}(h:∀k r,look k o=some r→k < n)(t:Ts)(ops:List Oper)(x:Operand):GathLt (α:=α) n (fun r K=>ldS t o ops x r K):=by
 unfold ldS
 split
 ·split
  ·exact GathLt.none
  ·split
   ·split
    ·split
     ·exact Zbb h _
     ·exact GathLt.none
    ·exact GathLt.none
   ·exact GathLt.none
 ·exact GathLt.none
theorem Yo (hH:Has I V own w)(ha:ARep N I V a t)(late:List Nat)(ops l:List Oper)(i:Nat)(r0:List Nat)(h0:∀k∈r0,k < V.n):∃r:List Nat,(∀k∈r,k < V.n)∧∀K:List Nat→Prop,Vv tb late t own ops l i r0 K=K r:=by
 have key:∀(l:List Oper) (i:Nat) (r0:List Nat),(∀k∈r0,k < V.n)→∃r:List Nat,(∀k∈r,k < V.n)∧∀K:List Nat→Prop,Vv tb late t own ops l i r0 K=K r:=fun l=>by
  induction l with
  | nil=>exact fun i r0 h0=>⟨r0,h0,fun _=>rfl⟩
  | cons o l ih =>
   intro i r0 h0
   unfold Vv
   split
   ·split
    ·next hro =>
     obtain⟨_,_,hl⟩:=Hz hro
     obtain⟨y,hy,hg⟩:=ha.get _ _ hl
     obtain⟨r1,a1,a2⟩:=S9 _ r0
     obtain⟨r,b1,b2⟩:=ih (i+1) r1 (fun j hj=>(a2 j hj).elim (h0 j) fun e=>by rw[e];exact(Bt hg).1)
     exact⟨r,b1,fun K=>(a1 _).trans (b2 K)⟩
    ·exact ih (i+1) r0 h0
   ·split
    ·next f _ =>
     obtain⟨r1',a1',a2'⟩:=Zg8 (α:=Prop) ha ops (f::_) r0 h0
     obtain⟨r1,a1,a2''⟩:=Zcl (α:=Prop) ha (Rc (Zd2 tb) _) ops _ r1' a1'
     obtain⟨r2,c1,c2⟩:=Zx (α:=Prop) own (fun k r hk=>by obtain⟨y,hy⟩:=Ho hk;exact hH.num k y hy) r1 a1
     cases Rc (Zbr tb) _ with
     | true =>
      obtain⟨r3,d1,d2⟩:=Y6 (α:=Prop) own (fun k r hk=>by obtain⟨y,hy⟩:=Ho hk;exact hH.num k y hy) r2 c1
      obtain⟨r,b1,b2⟩:=ih (i+1) r3 d1
      exact⟨r,b1,fun K=>(a2' _).trans ((a2'' _).trans ((c2 _).trans ((d2 _).trans (b2 K))))⟩
     | false =>
      obtain⟨r,b1,b2⟩:=ih (i+1) r2 c1
      exact⟨r,b1,fun K=>(a2' _).trans ((a2'' _).trans ((c2 _).trans (b2 K)))⟩
    ·split
     ·next x _ _ =>
      obtain⟨r1,a1,a2⟩:=Zcl (α:=Prop) ha true ops [x] r0 h0
      obtain⟨r2,c1,c2⟩:=Zgu (α:=Prop) (fun k r hk=>hH.num k r hk) t ops x r1 a1
      obtain⟨r,b1,b2⟩:=ih (i+1) r2 c1
      exact⟨r,b1,fun K=>(a2 _).trans ((c2 _).trans (b2 K))⟩
     ·exact ih (i+1) r0 h0
    ·exact ih (i+1) r0 h0
   ·exact ih (i+1) r0 h0
 exact key l i r0 h0
def OkM (P:Program)(tb:List (Nat × TI))(N:Nat)(own0:Os)(I0:Imm)(V0:Va)(w0:World)(c:Code)(m:MC):Prop :=
 ∀{t:Ts} {own:Os} {I:Imm} {V:Va} {a:Act} {w:World} {K:KC} {Q:Exit→Act→World→Prop},m t own V.n K→SinceC own0 I0 V0 w0 own I V w→ARep N I V a t→E5 tb N c=true→(∀ch d v a w,Q (.panic ch) (a.put d v) w→Q (.panic ch) a w)→Zew N own0 I0 V0 w0 K Q→c.wp P Q a w
def LabM (P:Program)(tb:List (Nat × TI))(N:Nat)(own0:Os)(I0:Imm)(V0:Va)(w0:World)(c:Code)(m:MC):Prop :=
 (Rr c=none→∀l,findLabel c l=none)∧∀l,Rr c=some l→∃rest,findLabel c l=some rest∧OkM P tb N own0 I0 V0 w0 rest m∧(E5 tb N c=true→E5 tb N rest=true)
theorem LabM.no {c:Code}{m:MC}(e:Rr c=none)(h:∀l,findLabel c l=none):LabM P tb N own0 I0 V0 w0 c m:=⟨fun _=>h,fun _ h=>by rw[e] at h;cases h⟩
theorem OkM.seq {x y:Code}{p q:MC}(hx:OkM P tb N own0 I0 V0 w0 x p)(hy:OkM P tb N own0 I0 V0 w0 y q)(x' y':Code):OkM P tb N own0 I0 V0 w0 (.seq x y) (T8 x' y' p q):=by
 intro t own I V a w K Q h hL ha hc hQ hK
 simp only[E5,Bool.and_eq_true] at hc
 unfold T8 at h
 refine wp_seq (hx h hL ha hc.1 (fun ch d v a w=>hQ ch d v a w) fun e t own I V a w hk hL ha=>?_)
 cases e with
 | normal=>exact hy hk hL ha hc.2 hQ hK
 | exit id=>exact hK (.exit id) _ _ _ _ _ _ hk hL ha
 | ret=>exact hK .ret _ _ _ _ _ _ hk hL ha
 | goto l=>exact hK (.goto l) _ _ _ _ _ _ hk hL ha
theorem OkM.stay {x:Code}{p:MC}(hx:OkM P tb N own0 I0 V0 w0 x p){t:Ts}{own:Os}{I:Imm}{V:Va}{a:Act}{w:World}{K:KC}{Q:Exit→Act→World→Prop}(l:Nat)(J:Act→World→Prop)(h:Mt p t own V.n K)(hL:SinceC own0 I0 V0 w0 own I V w)(ha:ARep N I V a t)(hc:E5 tb N x=true)(hQ:∀ch d v a w,Q (.panic ch) (a.put d v) w→Q (.panic ch) a w)(hK:Zew N own0 I0 V0 w0 K Q):x.wp P (Exit.jump l J Q) a w:=by
 unfold Mt at h
 refine hx h hL ha hc (fun ch d v a w=>hQ ch d v a w) fun e t own I V a w hk hL ha=>?_
 cases e with
 | normal=>exact hK .normal _ _ _ _ _ _ hk hL ha
 | exit id=>exact hK (.exit id) _ _ _ _ _ _ hk hL ha
 | ret=>exact hK .ret _ _ _ _ _ _ hk hL ha
 | goto l=>exact hk.elim
theorem OkM.scope {x:Code}{m:MP}(hx:OkM P tb N own0 I0 V0 w0 x (m true))(ho:LabM P tb N own0 I0 V0 w0 x (m false)):OkM P tb N own0 I0 V0 w0 (.scope x) (Sk x m):=by
 intro t own I V a w K Q h hL ha hc hQ hK
 have hc:E5 tb N x=true:=hc
 unfold Sk at h
 cases hl:Rr x with
 | none =>
  rw[hl] at h
  refine wp_scope_straight (Code.wp_mono ?_ (hx.stay 0 (fun _ _=>False) h hL ha hc hQ hK))
  intro e a w q
  cases e with
  | goto l=>exact q.2.elim
  | _=>exact q
 | some l =>
  rw[hl] at h
  obtain⟨rest,h1,h2,h3⟩:=ho.2 l hl
  refine wp_scope_jumps l (fun a w=>∃t own I V,Mt (m false) t own V.n K∧SinceC own0 I0 V0 w0 own I V w∧ARep N I V a t) (fun _ _=>0) h1 ?_ ?_
  ·refine hx h hL ha hc (fun ch d v a w=>hQ ch d v a w) fun e t own I V a w hk hL ha=>?_
   cases e with
   | normal=>exact hK .normal _ _ _ _ _ _ hk hL ha
   | exit id=>exact hK (.exit id) _ _ _ _ _ _ hk hL ha
   | ret=>exact hK .ret _ _ _ _ _ _ hk hL ha
   | goto l' =>
    have hk:(bif Nat.beq l' l then Mt (m false) t own V.n K else False):=hk
    cases hb:Nat.beq l' l with
    | true=>rw[hb] at hk;exact⟨Nat.eq_of_beq_eq_true hb,t,own,I,V,hk,hL,ha⟩
    | false=>rw[hb] at hk;exact hk.elim
  ·rintro a1 w1 ⟨t,own,I,V,hk,hL,ha⟩
   exact h2.stay l _ hk hL ha (h3 hc) hQ hK
theorem Zc2 (hT:∀t i,look t tb=some i→TIok P t i)(hm:P.follows .mixedOrders=true):∀c:Code,OkM P tb N own0 I0 V0 w0 c (sxM P tb c true)∧LabM P tb N own0 I0 V0 w0 c (sxM P tb c false):=by
 intro c
 induction c with
 | skip=>exact⟨by intro t own I V a w K Q h hL ha _ _ hK;exact wp_skip (hK .normal _ _ _ _ _ _ h hL ha),.no rfl fun _=>rfl⟩
 | label l =>
  refine⟨by intro t own I V a w K Q h hL ha _ _ hK;exact wp_label (hK .normal _ _ _ _ _ _ h hL ha),⟨fun e=>(by cases e),fun l' e=>?_⟩⟩
  have e:some l=some l':=e
  cases e
  exact⟨.skip,by simp[findLabel],by intro t own I V a w K Q h hL ha _ _ hK;exact wp_skip (hK .normal _ _ _ _ _ _ h hL ha),fun _=>rfl⟩
 | ret=>exact⟨by intro t own I V a w K Q h hL ha _ _ hK;exact wp_ret (hK .ret _ _ _ _ _ _ h hL ha),.no rfl fun _=>rfl⟩
 | exit id=>exact⟨by intro t own I V a w K Q h hL ha _ _ hK;exact wp_exit (hK (.exit id) _ _ _ _ _ _ h hL ha),.no rfl fun _=>rfl⟩
 | goto l=>exact⟨by intro t own I V a w K Q h hL ha _ _ hK;exact wp_goto (hK (.goto l) _ _ _ _ _ _ h hL ha),.no rfl fun _=>rfl⟩
 | scope x ih=>exact⟨OkM.scope ih.1 ih.2,.no rfl fun _=>rfl⟩
 | seq x y ihx ihy =>
  refine⟨OkM.seq ihx.1 ihy.1 x y,fun e l=>?_,fun l e=>?_⟩
  ·have e:(match Rr x with | some l=>some l | none=>Rr y)=none:=e
   cases hx:Rr x with
   | some o=>rw[hx] at e;cases e
   | none=>rw[hx] at e;simp only[findLabel,ihx.2.1 hx l];exact ihy.2.1 e l
  ·have e:(match Rr x with | some l=>some l | none=>Rr y)=some l:=e
   show ∃rest,findLabel (.seq x y) l=some rest∧OkM P tb N own0 I0 V0 w0 rest (match Rr x with | some _=>T8 x y (sxM P tb x false) (sxM P tb y true) | none=>sxM P tb y false)∧_
   cases hx:Rr x with
   | some o =>
    rw[hx] at e
    cases e
    obtain⟨rest,h1,h2,h3⟩:=ihx.2.2 _ hx
    refine⟨.seq rest y,by simp only[findLabel,h1],OkM.seq h2 ihy.1 x y,fun hc=>?_⟩
    simp only[E5,Bool.and_eq_true] at hc⊢
    exact⟨h3 hc.1,hc.2⟩
   | none =>
    rw[hx] at e
    obtain⟨rest,h1,h2,h3⟩:=ihy.2.2 _ e
    refine⟨rest,by simp only[findLabel,ihx.2.1 hx l];exact h1,h2,fun hc=>?_⟩
    simp only[E5,Bool.and_eq_true] at hc
    exact h3 hc.2
 | cond c x y ihx ihy =>
  refine⟨?_,.no rfl fun _=>rfl⟩
  intro t own I V a w K Q h hL ha hc hQ hK
  simp only[E5,Bool.and_eq_true] at hc
  have h:Qf c x y (sxM P tb x true) (sxM P tb y true) t own V.n K:=h
  unfold Qf at h
  obtain⟨g,h,hg⟩:=Av h ha hL.has
  cases g with
  | tt=>exact wp_cond_true (by generalize a.eval c=z at hg;cases(show VRep I .tt z from hg);rfl) (ihx.1 h hL ha hc.1 hQ hK)
  | ff=>exact wp_cond_false (by generalize a.eval c=z at hg;cases(show VRep I .ff z from hg);rfl) (ihy.1 h hL ha hc.2 hQ hK)
  | v z =>
   have e:=Ap hg
   cases z with
   | bool b=>exact wp_cond_split e (fun hb=>ihx.1 (h.1 hb) hL ha hc.1 hQ hK) (fun hb=>ihy.1 (h.2 hb) hL ha hc.2 hQ hK)
   | _=>exact h.elim
  | _=>exact h.elim
 | block id x ih =>
  refine⟨?_,.no rfl fun _=>rfl⟩
  intro t own I V a w K Q h hL ha hc hQ hK
  have h:S2 id x (sxM P tb x true) t own V.n K:=h
  unfold S2 at h
  refine wp_block (ih.1 h hL ha hc (fun ch d v a w=>hQ ch d v a w) fun e t own I V a w hk hL ha=>?_)
  cases e with
  | normal=>exact hK .normal _ _ _ _ _ _ hk hL ha
  | exit id' =>
   show if id'=id then Q .normal a w else Q (.exit id') a w
   dsimp only at hk
   by_cases hi:id'=id
   ·subst hi
    rw[if_pos rfl]
    rw[Nat.beq_refl] at hk
    exact hK .normal _ _ _ _ _ _ hk hL ha
   ·rw[if_neg hi]
    have h2:Nat.beq id' id=false:=by
     cases hb:Nat.beq id' id with
     | false=>rfl
     | true=>exact absurd (Nat.eq_of_beq_eq_true hb) hi
    rw[h2] at hk
    exact hK (.exit id') _ _ _ _ _ _ hk hL ha
  | goto l=>exact hK (.goto l) _ _ _ _ _ _ hk hL ha
  | ret=>exact hK .ret _ _ _ _ _ _ hk hL ha
 | loop x ih =>
  refine⟨?_,.no rfl fun _=>rfl⟩
  intro t own I V a w K Q h hL ha hc hQ hK
  have h:K2 x (sxM P tb x true) t own V.n K:=h
  unfold K2 at h
  obtain⟨w1o,Ig,Vg,⟨bb,X,st,dd,In,μ,⟨x0,h0,hle⟩,hround⟩,lg⟩:=Q6 h rfl hL.has
  replace hL:=hL.trans lg
  replace ha:=ha.mono lg.fro.mono lg.va
  have hn0:=hL.n
  let At:X→Act→World→Prop:=fun x a w=>In x∧∃I V',V'.n=Vg.n∧SinceC own0 I0 V0 w0 (st x).2 I V' w∧ARep N I V' a (st x).1
  have h1:=Zcs hL.n hL ha hle
  refine wp_loop_ghost (fun k a w=>∃x,At x a w∧μ x=k) (μ x0) ⟨x0,⟨h0,Ig,_,rfl,h1.1,h1.2⟩,rfl⟩ fun k a1 w1 hI=>?_
  obtain⟨x1,⟨hi,I1,V1,hn,hS,hA⟩,rfl⟩:=hI
  have hb:=hround x1 hi
  rw[←hn] at hb
  refine ih.1 hb hS hA hc (fun ch d v a w=>hQ ch d v a w) fun e t own I V a w hk hL ha=>?_
  have fin:∀{own:Os} {I:Imm} {V:Va},N9 st In μ V1.n x1 K e t own V.n→SinceC own0 I0 V0 w0 own I V w→ARep N I V a t→(match e.to with | .normal=>∃m,m < μ x1∧∃x,At x a w∧μ x=m | e=>Q e a w):=fun {own I V} hk hL ha=>by
   cases e with
   | normal =>
    obtain⟨y,m,hy,hlt,hle⟩:=hk
    have h2:=Zcs (n:=V1.n) (by omega) hL ha hle
    exact⟨μ y,hlt,y,⟨hy,I,_,by simp[Va.renS,hn],h2.1,h2.2⟩,rfl⟩
   | exit id=>exact hK (.exit id) _ _ _ _ _ _ hk hL ha
   | goto l=>exact hK (.goto l) _ _ _ _ _ _ hk hL ha
   | ret=>exact hK .ret _ _ _ _ _ _ hk hL ha
  have hk2:∃(own':Os) (I':Imm) (V':Va),N9 st In μ V1.n x1 K e t own' V'.n∧SinceC own0 I0 V0 w0 own' I' V' w∧ARep N I' V' a t:=by
   cases bb with
   | false =>
    refine⟨own,I,V,?_,hL,ha⟩
    cases e with
    | normal=>obtain⟨y,hy,hlt,hle⟩:=hk;exact⟨y,_,hy,hlt,hle⟩
    | _=>exact hk
   | true =>
    obtain⟨w2,I2,V2,hk,l2⟩:=Q6 (show P0 st dd In μ V1.n x1 K e t own V.n from hk) rfl hL.has
    exact⟨w2,I2,V2,hk,hL.trans l2,ha.mono l2.fro.mono l2.va⟩
  obtain⟨own',I',V',q1,q2,q3⟩:=hk2
  have:=fin q1 q2 q3
  cases e<;>exact this
 | region id ops dr =>
  refine⟨?_,.no rfl fun _=>rfl⟩
  intro t own I V a w K Q h hL ha hc hQ hK
  simp only[E5,Bool.and_eq_true] at hc
  have hd:∀o∈ops.toList,∀i,o.dst=some i→i < N:=fun o ho i hi=>by
   have:=List.all_eq_true.1 hc.1 o ho
   rw[hi] at this
   exact Nat.le_of_ble_eq_true this
  have h:Z2e P tb id ops dr t own V.n K:=h
  unfold Z2e at h
  cases dr with
  | false=>exact wp_region_list (Ud (own0:=own) (I0:=I) (V0:=V) (w0:=w) hT (fun t own I V a w hk hl ha=>hK .normal _ _ _ _ _ _ hk (hL.tail hl) ha) h (Later.refl hL.has).since ha hd)
  | true =>
   have hc2:=hc.2
   simp only[Bool.and_eq_true] at hc2
   have hH:Has I V own w.drew:=hL.has.heap rfl rfl
   have hL2:Since own I V w own I V w.drew:=⟨hH,⟨rfl,rfl,rfl,Nat.le_refl _,fun _ _ _=>⟨rfl,fun _=>rfl⟩,fun _ _ _ h=>h,fun k r b e hb _=>⟨k,r,e,hb⟩⟩,Nat.le_refl _,fun _ _=>rfl,fun _ _=>rfl⟩
   have hn:=Z63 ops.toList
   obtain⟨od,hord⟩:=Z12 (tb:=tb) ops.toList ops.toList 0
   obtain⟨late,hlate⟩:=W5 (tb:=tb) od ops.toList ops.toList 0
   obtain⟨XL,hXL,hvol⟩:=Yo (tb:=tb) hL.has ha late ops.toList ops.toList 0 [] (fun k hk=>by simp at hk)
   have h:Z4p tb ops.toList ops.toList 0 fun od=>Ld tb od ops.toList ops.toList 0 fun late=>Vv tb late t own ops.toList ops.toList 0 [] fun XL=>trK own 3 XL fun XL=>sxD P tb XL od late ops.toList ops.toList (noB ops.toList) t own V.n (K .normal):=h
   rw[hord,hlate] at hc2
   obtain⟨XL2,hXL2,htr⟩:=Z18 hL.has 3 XL hXL
   have htr:∀K:List Nat→Prop,trK own 3 XL K=K XL2:=htr
   rw[hord,hlate,hvol,htr] at h
   refine Lu hm (late:=late) (S:=Agree V XL2 w.drew) ?_
   have:=Qq (fu:=ops.toList) (l:=noB ops.toList) hT hQ hc2.1 hd (fun t own I V a w hk hl ha=>hK .normal _ _ _ _ _ _ hk (hL.tail hl) ha) (by rw[hn.2];simp) (by rw[hn.1];exact Gb _ (by simp)) hc2.2 h hL2 ha hXL2
   rw[hn.1] at this
   simpa using this
 | rangeFunc f ps x y _ _=>exact⟨fun h=>False.elim h,.no rfl fun _=>rfl⟩
 | refuse s=>exact⟨fun h=>False.elim h,.no rfl fun _=>rfl⟩
theorem Z7e (hT:∀t i,look t tb=some i→TIok P t i)(hm:P.follows .mixedOrders=true){c:Code}{t:Ts}{own:Os}{I:Imm}{V:Va}{a:Act}{w:World}{K:KC}{Q:Exit→Act→World→Prop}(h:sxC P tb c t own V.n K)(hL:SinceC own0 I0 V0 w0 own I V w)(ha:ARep N I V a t)(hc:E5 tb N c=true)(hQ:∀ch d v a w,Q (.panic ch) (a.put d v) w→Q (.panic ch) a w)(hK:Zew N own0 I0 V0 w0 K Q):c.wp P Q a w :=
 (Zc2 hT hm c).1 h hL ha hc hQ hK
end
end Go.Proofs.YtihfaocdpmmooaaGreat
namespace Go.Proofs.YtihfaocdpmmooaaGreat
open Go.RowKit
section
variable {P:Program} {tb:List (Nat × TI)} {N n:Nat} {I I' I0:Imm} {V V' V0:Va} {a:Act} {t t':Ts} {own own' own0:Os} {w w' w0:World} {g:G} {x y:Value}
def Im (tmps:Array Value):ResultVar→Sem Value
 | .tmp t=>pure (tmps.getD t undef)
 | .cell x t=>do loadVar t (←asAddr (tmps.getD x undef))
def Du (P:Program)(a:Act)(w:World)(r:ResultVar)(v:Value):Prop:=(Im a.tmps r).run P w=.ok v w
theorem Vx (hT:∀t i,look t tb=some i→TIok P t i){r:ResultVar}{K1:G→Os→Prop}(h:Z8f tb t own K1 r)(hH:Has I V own w)(ha:ARep N I V a t):∃g own' I' V' v,K1 g own'∧V'.n=V.n∧Later own I V w own' I' V' w∧VRep I' g v∧Du P a w r v:=by
 cases r with
 | tmp i =>
  unfold Z8f at h
  dsimp only at h
  cases hl:look i t with
  | none=>rw[hl] at h;exact h.elim
  | some g =>
   rw[hl] at h
   obtain⟨x,hx,hr⟩:=ha.get i g hl
   obtain⟨g',o1,I1,V1,h1,hn,h3,h4⟩:=Z6k h hr hH
   exact⟨g',o1,I1,V1,x,h1,hn.1,h3,h4,by unfold Du Im;simp[hx]⟩
 | cell i ty =>
  unfold Z8f at h
  dsimp only at h
  split at h
  ·next k off ti hl hty =>
   obtain⟨x,hx,hr⟩:=ha.get i _ hl
   obtain⟨hk,rfl⟩:=Bt hr
   split at h
   ·next cs ty' hb =>
    obtain⟨us,h1,h2,h3⟩:=Lm hH hb
    have hti:=hT _ _ hty
    cases hag:ti.agg with
    | true =>
     rw[hag] at h
     obtain⟨l,k1,k2,-⟩:=Lp h h2
     obtain⟨l',o1,I1,V1,q1,qn,q3,q4⟩:=Nr k1 k2 hH
     have hlen:((us.drop off).take ti.zero.length).length=ti.zero.length:=by
      rcases Nat.eq_zero_or_pos ti.zero.length with h0 | h0
      ·rw[h0];simp
      ·have:=O8 h h2 h0;simp;omega
     refine⟨_,o1,I1,V1,_,q1,qn.1,q3,Zed q4,?_⟩
     have:=Cn (P:=P) (w:=w) (g:=V.b k) (k:=off) (ty:=ty) (cs:=(us.drop off).take ti.zero.length) (by rw[hti.agg,hag]) (by rw[hti.size,hlen]) (fun j v hv=>by rw[h3];exact Iw hv)
     unfold Du Im
     simp[hx,asAddr,this]
    | false =>
     rw[hag,Dt] at h
     dsimp only at h
     cases hc:cs[off]? with
     | none=>rw[hc] at h;exact h.elim
     | some g =>
      rw[hc] at h
      obtain⟨v,hv,hg⟩:=h2.get hc
      obtain⟨g',o1,I1,V1,q1,qn,q3,q4⟩:=Dj h hg hH
      refine⟨g',o1,I1,V1,v,q1,qn.1,q3,q4,?_⟩
      have hcell:=(h3 off).trans hv
      unfold Du Im
      simp[hx,asAddr,loadVar,Gk (P:=P) (show Q0 P ty=some false by rw[hti.agg,hag]),hcell]
   ·exact h.elim
  ·exact h.elim
theorem Z8r (hT:∀t i,look t tb=some i→TIok P t i){r:ResultVar}{K1:G→Os→Prop}(h:Z8f tb t own K1 r)(hH:Has I V own w)(ha:ARep N I V a t):∃g own' I' V' v,K1 g own'∧Later own I V w own' I' V' w∧VRep I' g v∧Du P a w r v:=by
 obtain⟨g,o,I',V',v,h1,-,h2⟩:=Vx hT h hH ha
 exact⟨g,o,I',V',v,h1,h2⟩
theorem Sl (hT:∀t i,look t tb=some i→TIok P t i):∀{rs:List ResultVar} {own:Os} {I:Imm} {V:Va} {K1:List G→Prop},Z93 tb t own rs K1→Has I V own w→ARep N I V a t→∃gs own' I' V',∃vs:List Value,K1 gs∧Later own I V w own' I' V' w∧PW (VRep I') gs vs∧vs.length=rs.length∧∀(i:Nat) r v,rs[i]?=some r→vs[i]?=some v→Du P a w r v
 | [],own,I,V,K1,h,hH,_=>⟨[],own,I,V,[],h,.refl hH,.nil,rfl,fun i r v h=>by simp at h⟩
 | r::rs,own,I,V,K1,h,hH,ha=>by
  obtain⟨g,o1,I1,V1,v,h1,h2,h3,h4⟩:=Z8r (K1:=fun g w'=>Z93 tb t w' rs fun gs=>K1 (g::gs)) hT h hH ha
  obtain⟨gs,o2,I2,V2,vs,k1,k2,k3,k4,k5⟩:=Sl hT h1 h2.has (ha.mono h2.fro.mono h2.va)
  refine⟨g::gs,o2,I2,V2,v::vs,k1,h2.trans k2,.cons (h3.mono k2.fro.mono) k3,by simp[k4],fun i r' v' hr hv=>?_⟩
  cases i with
  | zero=>simp at hr hv;subst hr hv;exact h4
  | succ i=>exact k5 i r' v' (by simpa using hr) (by simpa using hv)
theorem V8:∀{rs:List ResultVar} {vs:List Value},vs.length=rs.length→(∀(i:Nat) r v,rs[i]?=some r→vs[i]?=some v→Du P a w r v)→(rs.mapM (Im a.tmps)).run P w=.ok vs w
 | [],vs,h,_=>by rw[List.eq_nil_of_length_eq_zero h];simp
 | r::rs,[],h,_=>by simp at h
 | r::rs,v::vs,h,hr=>by
  have h1:=hr 0 r v rfl rfl
  have h2:=V8 (rs:=rs) (vs:=vs) (by simpa using h) fun i r v h h'=>hr (i+1) r v (by simpa using h) (by simpa using h')
  unfold Du at h1
  rw[List.mapM_cons,Sem.run_bind,h1,Result.andThen_ok,Sem.run_bind,h2,Result.andThen_ok,Sem.run_pure]
def M7:List Value→Value
 | [v]=>v
 | vs=>.tuple vs.toArray
theorem De {fn:Func}{vs:List Value}(hl:vs.length=fn.results.toList.length)(hr:∀(i:Nat) r v,fn.results.toList[i]?=some r→vs[i]?=some v→Du P a w r v):(results fn a.tmps).run P w=.ok (M7 vs) w:=by
 have h:=V8 hl hr
 have e:results fn a.tmps=(do let vs ←fn.results.mapM (Im a.tmps);pure (if h:vs.size=1 then vs[0] else .tuple vs)):=by
  unfold results
  congr 2
 rw[e,Sem.run_bind,Array.mapM_eq_mapM_toList]
 simp only[Sem.run_map,h,Result.andThen_ok,Sem.run_pure]
 cases vs with
 | nil=>simp[M7]
 | cons v vs =>
  cases vs with
  | nil=>simp[M7]
  | cons u vs=>simp[M7]
theorem Gt:∀{l:List G} {k i:Nat} {g:G},look i (Jj k l)=some g→∃j,i=k+j∧l[j]?=some g
 | [],k,i,g,h=>by cases h
 | g'::l,k,i,g,h=>by
  unfold Jj at h
  rw[A3] at h
  split at h
  ·next e=>cases h;exact⟨0,by omega,rfl⟩
  ·obtain⟨j,h1,h2⟩:=Gt h
   exact⟨j+1,by omega,by simpa using h2⟩
theorem Z3o (hT:∀t i,look t tb=some i→TIok P t i)(hm:P.follows .mixedOrders=true){f:FuncId}{fn:Func}{c:Code}{gs:List G}{Q:G→Prop}(hf:P.funcs[f]?=some fn)(hname:(fn.name=="runtime.NumGoroutine")=false) (hb:fn.body=some c) (hn:gs.length≤fn.ntmps) (hc:E5 tb fn.ntmps c=true)
  (h:sxC P tb c (Jj 0 gs) [] 0 (Zch tb fn Q)):FnV P f gs Q:=by
 refine⟨⟨fn,hf,hname,by rw[hb];rfl⟩,fun I w vs hM hp=>?_⟩
 let V:Va:=⟨0,fun _=>0,fun _=>undef,fun _ _=>False⟩
 have hH:Has I V [] w:=⟨hM,fun k r h=>(by cases h),fun k r h=>(by cases h),fun k r b h=>(by cases h),fun k k' r r' b h=>(by cases h)⟩
 refine calls_of_wp hf hb ?_
 have hlen:vs.length=gs.length:=hp.1.symm
 have ha:ARep fn.ntmps I V {tmps:=vs.toArray++Array.replicate (fn.ntmps - vs.toArray.size) undef,defers:=[]} (Jj 0 gs):=by
  refine⟨rfl,by simp;omega,fun i g hg=>?_⟩
  obtain⟨j,e,hj⟩:=Gt hg
  obtain rfl:i=j:=by omega
  obtain⟨u,hu,hr⟩:=hp.get hj
  refine⟨u,?_,.of_v hr⟩
  have hi:=(List.getElem?_eq_some_iff.1 hu).1
  show(vs.toArray++_)[i]?=_
  rw[Array.getElem?_append_left (by simpa using hi)]
  simpa using hu
 refine Z7e (own0:=[]) (I0:=I) (V0:=V) (w0:=w) hT hm (V:=V) h ⟨hH,.refl _ _ _ _,Nat.le_refl _,fun _ _=>rfl⟩ ha hc (fun ch d v a w hq=>?_) fun e t own I1 V1 a w1 hk hS hA=>?_
 ·cases d<;>exact hq
 ·have key:(∀id,e≠.exit id)→bodyPost P fn (fun e w'=>∃x g I',e=.returned x∧Q g∧Mem I' w'∧VR I' g x∧(∀b o x,I b o=some x→I' b o=some x)∧(∀b o,b < w.heap.size→I' b o=I b o)∧Below w.heap.size w w') .ret a w1:=fun he=>by
   refine⟨hA.defers,?_⟩
   have hk:match fn.results.toList with
     | [r]=>Z93 tb t own [r] fun gs=>match gs with
      | [g]=>Q g
      | _=>False
     | rs=>Z93 tb t own rs fun gs=>Q (.tup gs):=by
    cases e with
    | exit id=>exact absurd rfl (he id)
    | goto l=>exact hk.elim
    | normal=>exact hk
    | ret=>exact hk
   have fin:∀{gs own' I' V' vs},Later own I1 V1 w1 own' I' V' w1→PW (VRep I') gs vs→∀{g x},Q g→VR I' g x→∃x' g I',Ending.returned x=.returned x'∧Q g∧Mem I' w1∧VR I' g x'∧(∀b o x,I b o=some x→I' b o=some x)∧(∀b o,b < w.heap.size→I' b o=I b o)∧Below w.heap.size w w1:=fun {gs own' I' V' vs} hl _ {g x} hq hv=>by
    have hfro:=hS.fro.trans hl.fro
    exact⟨x,g,I',rfl,hq,hl.has.mem,hv,hfro.mono,fun b o hb=>(hfro.blk b hb fun k r hk=>(by cases hk)).2 o,⟨hfro.os,hfro.tape,hfro.output,hfro.size,fun b hb=>(hfro.blk b hb fun k r hk=>(by cases hk)).1⟩⟩
   split at hk
   ·next r hr =>
    obtain⟨gs,o2,I2,V2,vs,k1,k2,k3,k4,k5⟩:=Sl hT hk hS.has hA
    rw[←hr] at k4 k5
    refine⟨_,De k4 k5,?_⟩
    cases gs with
    | nil=>exact k1.elim
    | cons g gs =>
     cases gs with
     | cons g' gs=>exact k1.elim
     | nil =>
      obtain⟨v,vs',rfl,hv,hn⟩:=k3.uncons
      obtain rfl:=hn.of_nil
      refine fin k2 k3 k1 ?_
      cases g with
      | tup l=>cases hv
      | _=>exact hv
   ·next rs hr =>
    obtain⟨gs,o2,I2,V2,vs,k1,k2,k3,k4,k5⟩:=Sl hT hk hS.has hA
    refine⟨_,De k4 k5,?_⟩
    have hv1:∀v,vs≠[v]:=fun v e=>by
     rw[e] at k4
     cases hq:fn.results.toList with
     | nil=>rw[hq] at k4;simp at k4
     | cons r l =>
      cases l with
      | nil=>exact hr r hq
      | cons r' l=>rw[hq] at k4;simp at k4
    have e:M7 vs=.tuple vs.toArray:=by
     unfold M7
     split
     ·next v=>exact absurd rfl (hv1 v)
     ·rfl
    rw[e]
    exact fin k2 k3 k1 ⟨vs,rfl,k3⟩
  cases e with
  | normal=>exact key fun id h=>by cases h
  | exit id=>exact hk.elim
  | goto l=>exact hk.elim
  | ret=>exact key fun id h=>by cases h
theorem FnV.mono {f:FuncId}{gs:List G}{Q Q':G→Prop}(h:FnV P f gs Q)(hq:∀g,Q g→Q' g):FnV P f gs Q' :=
 ⟨h.1,fun I w vs hM hp=>(h.2 I w vs hM hp).mono fun _ _ ⟨x,g,I',h1,h2,h3⟩=>⟨x,g,I',h1,hq g h2,h3⟩⟩
theorem Z48 (hT:∀t i,look t tb=some i→TIok P t i){r:ResultVar}{K1:G→Os→Prop}(h:Yz tb t own K1 r)(hH:Has I V own w)(ha:ARep N I V a t):∃g own' I' V' v,K1 g own'∧V'.n=V.n∧Later own I V w own' I' V' w∧PRep I' V' g v∧Du P a w r v:=by
 cases r with
 | tmp i =>
  unfold Yz at h
  dsimp only at h
  cases hl:look i t with
  | none=>rw[hl] at h;exact h.elim
  | some g =>
   rw[hl] at h
   obtain⟨x,hx,hr⟩:=ha.get i g hl
   obtain⟨g',o1,I1,V1,h1,h2,h3,h4⟩:=Z0g h hr hH
   exact⟨g',o1,I1,V1,x,h1,h2.1,h3,h4,by unfold Du Im;simp[hx]⟩
 | cell i ty =>
  obtain⟨g',o1,I1,V1,v,h1,h2,h3,h4,h5⟩:=Vx (K1:=K1) hT (show Z8f tb t own K1 (.cell i ty) from h) hH ha
  exact⟨g',o1,I1,V1,v,h1,h2,h3,.of_v h4,h5⟩
end
end Go.Proofs.YtihfaocdpmmooaaGreat
namespace Go.Proofs.YtihfaocdpmmooaaGreat
open Go.RowKit
def Z9w:G→Bool
 | .osl _ | .osv _ _ _ _ | .oel _ _ _ _=>false
 | _=>true
def Zg6:G→Bool
 | .osl _ | .osv _ _ _ _ | .oel _ _ _ _ | .orv _ _ _ _ _ _=>false
 | .clo _ a c=>match Ar Z9w a with
  | true=>Ar Z9w c
  | false=>false
 | .oag l=>Ar Z9w l
 | _=>true
structure Z7v (rs:List R)(gs:List G)(own0:Os)(n0:Nat)(gs0:List G)(roots:List Nat):Prop where
 run:∀I V w vs,Has I V (Aw rs 0) w→V.n=rs.length→PW (PRep I V) gs vs→∃V2:Va,V2.n=n0∧Has I V2 own0 w∧PW (TRep I V2) gs0 vs∧Fro (Aw rs 0) I V w own0 I V2 w∧∀(i r:Nat),roots[i]?=some r→V2.b r=V.b i∧r < n0
 len:roots.length=rs.length
section
variable {P:Program} {tb:List (Nat × TI)} {N n n0:Nat} {I I' I0:Imm} {V V' V0 V2:Va} {a:Act} {t t':Ts} {own own' own0:Os} {w w' w0:World} {g:G} {x y:Value} {r:R} {k:Nat}
theorem C1 (rs:List R)(gs:List G):Z7v rs gs (Aw rs 0) rs.length gs (List.range rs.length) :=
 ⟨fun I V w vs hH hn hp=>⟨V,hn,hH,hp.mono fun _ _ h=>h.to_t,.refl _ _ _ _,fun i r h=>by
  have hi:=(List.getElem?_eq_some_iff.1 h).1
  rw[List.getElem?_range (by simpa using hi)] at h
  cases h
  exact⟨rfl,by simpa using hi⟩⟩,by simp⟩
theorem Uk {α:Type}(k:Nat):∀(l m:List (Nat × α)),look k (l++m)=(look k l).or (look k m)
 | [],m=>by simp[look]
 | (j,g)::l,m=>by
  rw[List.cons_append,A3,A3,Uk k l m]
  split<;>simp
theorem Z83 {O:Os}{n0:Nat}{rest:List R}{gs gs0:List G}{own0:Os}{roots:List Nat}(hk:(Sn n0 O&&Ar J0 rest&&Ar Zg6 gs&&(look 0 O).isSome)=true)(ho:O++Aw rest n0=own0)(hg:gs.map (Pc (opM 1 n0 rest))=gs0)(hr:0::(List.range rest.length).map (n0+·)=roots):Z7v (.abs (cl O)::rest) gs own0 (n0+rest.length) gs0 roots:=by
 subst ho hg hr
 simp only[Bool.and_eq_true] at hk
 obtain⟨⟨⟨hk,hno⟩,harg⟩,hO0⟩:=hk
 obtain⟨r0,hr0⟩:=Option.isSome_iff_exists.1 hO0
 have h0:0 < n0:=(F5 hk hr0).1
 refine⟨fun I V w vs hH hn hp=>?_,by simp⟩
 have hn:V.n=rest.length+1:=hn
 obtain⟨-,VO,hb0,hO,hS⟩:=hH.each 0 (.abs (cl O)) rfl
 let V2:Va:=⟨n0+rest.length,fun k=>if k < n0 then VO.b k else V.b (k - n0+1),fun k=>if k < n0 then VO.s k else V.s (k - n0+1),fun k=>if k < n0 then VO.f k else V.f (k - n0+1)⟩
 have lk:∀k r,look k (O++Aw rest n0)=some r→(k < n0∧look k O=some r)∨(n0≤k∧rest[k - n0]?=some r):=fun k r h=>by
  rw[Uk] at h
  cases hkO:look k O with
  | some r'=>rw[hkO] at h;cases h;exact .inl ⟨(F5 hk hkO).1,rfl⟩
  | none =>
   rw[hkO] at h
   have h:look k (Aw rest n0)=some r:=h
   rw[Kx] at h
   split at h
   ·next hle=>exact .inr ⟨hle,h⟩
   ·cases h
 have lo:∀i r,rest[i]?=some r→look (i+1) (Aw (.abs (cl O)::rest) 0)=some r:=fun i r h=>by rw[Af];simpa using h
 have hf1:∀k,k < n0→V2.f k=VO.f k:=fun k hk=>if_pos hk
 have hf2:∀k,n0≤k→V2.f k=V.f (k - n0+1):=fun k hk=>if_neg (by omega)
 have inS:∀k r b,look k O=some r→VO.f k b→V.f 0 b:=fun k r b hk hb=>(hS b).2 ⟨k,r,hk,hb⟩
 refine⟨V2,rfl,⟨hH.mem,fun k r h=>?_,fun k r h=>?_,fun k r b h hb=>?_,fun k k' r r' b h h' hb hb'=>?_⟩,?_,⟨rfl,rfl,rfl,Nat.le_refl _,fun _ _ _=>⟨rfl,fun _=>rfl⟩,fun _ _ _ h=>h,fun k r b h hb _=>?_⟩,fun i r h=>?_⟩
 ·show k < n0+rest.length
  rcases lk k r h with⟨h1,-⟩ | ⟨h1,h2⟩
  ·omega
  ·have:=(List.getElem?_eq_some_iff.1 h2).1;omega
 ·rcases lk k r h with⟨h1,h2⟩ | ⟨h1,h2⟩
  ·exact(hO.each k r h2).val (F5 hk h2).2 (Nat.le_add_right _ _) (fun j hj=>⟨if_pos hj,if_pos hj⟩) h1 (hf1 k h1)
  ·exact(hH.each _ r (lo _ r h2)).lend (Ac hno r (List.mem_of_getElem? h2)) (if_neg (by omega)) (if_neg (by omega)) (hf2 k h1)
 ·rcases lk k r h with⟨h1,h2⟩ | ⟨h1,h2⟩
  ·rw[hf1 k h1] at hb;exact hH.foot 0 _ b rfl (inS k r b h2 hb)
  ·rw[hf2 k h1] at hb;exact hH.foot _ r b (lo _ r h2) hb
 ·rcases lk k r h with⟨h1,h2⟩ | ⟨h1,h2⟩
  ·rw[hf1 k h1] at hb
   rcases lk k' r' h' with⟨h1',h2'⟩ | ⟨h1',h2'⟩
   ·rw[hf1 k' h1'] at hb';exact hO.disj k k' r r' b h2 h2' hb hb'
   ·rw[hf2 k' h1'] at hb'
    have:=hH.disj _ _ _ _ b rfl (lo _ r' h2') (inS k r b h2 hb) hb'
    omega
  ·rw[hf2 k h1] at hb
   rcases lk k' r' h' with⟨h1',h2'⟩ | ⟨h1',h2'⟩
   ·rw[hf1 k' h1'] at hb'
    have:=hH.disj _ _ _ _ b rfl (lo _ r h2) (inS k' r' b h2' hb') hb
    omega
   ·rw[hf2 k' h1'] at hb'
    have:=hH.disj _ _ _ _ b (lo _ r h2) (lo _ r' h2') hb hb'
    omega
 ·have kb:∀k,k < V.n→(look k (opM 1 n0 rest)).getD k < V2.n∧V2.b ((look k (opM 1 n0 rest)).getD k)=V.b k:=fun k hk=>by
   rw[O2]
   cases k with
   | zero=>rw[if_neg (by omega)];exact⟨by show 0 < n0+_;omega,by show(if 0 < n0 then _ else _)=_;rw[if_pos h0];exact hb0⟩
   | succ k =>
    rw[if_pos ⟨by omega,by omega⟩,Option.getD_some]
    have e:n0+(k+1 - 1) - n0+1=k+1:=by omega
    exact⟨by show n0+(k+1 - 1) < n0+_;omega,by show(if _ < n0 then _ else _)=_;rw[if_neg (by omega),e]⟩
  have cr:∀g x,Z9w g=true→CRep I V g x→CRep I V2 (Jp (opM 1 n0 rest) g) x:=fun g x hc h=>by
   cases g with
   | ptr k o=>exact⟨(kb k h.1).1,by rw[(kb k h.1).2];exact h.2⟩
   | mp k=>exact⟨(kb k h.1).1,by rw[(kb k h.1).2];exact h.2⟩
   | osl k=>cases hc
   | osv k a b c=>cases hc
   | _=>exact h
  have crl:∀l us,Ar Z9w l=true→PW (CRep I V) l us→PW (CRep I V2) (l.map (Jp (opM 1 n0 rest))) us:=fun l us hc h=>⟨by simpa using h.1,fun j g u hg hu=>by
   rw[List.getElem?_map] at hg
   obtain⟨g0,h1,rfl⟩:=Option.map_eq_some_iff.1 hg
   exact cr g0 u (Ac hc g0 (List.mem_of_getElem? h1)) (h.2 j g0 u h1 hu)⟩
  refine⟨by simpa using hp.1,fun j g u hg hu=>?_⟩
  rw[List.getElem?_map] at hg
  obtain⟨g0,h1,rfl⟩:=Option.map_eq_some_iff.1 hg
  have hc:=Ac harg g0 (List.mem_of_getElem? h1)
  have hq:=hp.2 j g0 u h1 hu
  cases g0 with
  | ptr k o=>exact .of_c (cr (.ptr k o) u rfl hq)
  | mp k=>exact .of_c (cr (.mp k) u rfl hq)
  | osl k=>cases hc
  | osv k a b c=>cases hc
  | oel k a b c=>cases hc
  | orv k a b c d e=>cases hc
  | clo f a c =>
   obtain⟨⟨g,hg,hk⟩,us,cs,e,k1,k2⟩:=hq
   have hc:(match Ar Z9w a with | true=>Ar Z9w c | false=>false)=true:=hc
   split at hc
   ·next hc1 =>
    have hk2:Be (Jp (opM 1 n0 rest) g)=false:=by cases g<;>first | rfl | cases hk
    exact .of_1 (g:=.clo f _ _) ⟨⟨_,hg.imp (fun h=>List.mem_map.2 ⟨g,h,rfl⟩) (fun h=>List.mem_map.2 ⟨g,h,rfl⟩),hk2⟩,us,cs,e,crl _ _ hc1 k1,crl _ _ hc k2⟩
   ·cases hc
  | v z=>exact .of_v (g:=.v z) hq
  | tt=>exact .of_v (g:=.tt) hq
  | ff=>exact .of_v (g:=.ff) hq
  | un=>exact .of_v (g:=.un) hq
  | nl=>exact .of_v (g:=.nl) hq
  | agg l=>exact .of_v (g:=.agg l) hq
  | sl l=>exact .of_v (g:=.sl l) hq
  | oag l =>
   obtain⟨-,cs,e,hp⟩:=(show(∃g∈l,Be g=false)∧TRep1 I V (.oag l) u from hq)
   exact .of_1 (g:=.oag _) ⟨cs,e,crl _ _ hc hp⟩
  | tup l=>cases(show VRep I (.tup l) u from hq)
  | elp l o=>cases(show VRep I (.elp l o) u from hq)
 ·rcases lk k r h with⟨h1,h2⟩ | ⟨h1,h2⟩
  ·rw[hf1 k h1] at hb;exact⟨0,_,rfl,inS k r b h2 hb⟩
  ·rw[hf2 k h1] at hb;exact⟨_,r,lo _ r h2,hb⟩
 ·cases i with
  | zero =>
   simp at h
   subst h
   exact⟨(if_pos h0:(if 0 < n0 then VO.b 0 else _)=VO.b 0).trans hb0,by omega⟩
  | succ i =>
   simp only[List.getElem?_cons_succ,List.getElem?_map] at h
   obtain⟨j,h1,rfl⟩:=Option.map_eq_some_iff.1 h
   have hi:i < rest.length:=by simpa using (List.getElem?_eq_some_iff.1 h1).1
   rw[List.getElem?_range hi] at h1
   cases h1
   exact⟨(if_neg (by omega):(if n0+i < n0 then VO.b (n0+i) else V.b (n0+i - n0+1))=_).trans (by congr 1;omega),by omega⟩
theorem Ky:∀{its:List It} {i:Nat} {it:It} {k:Nat},its[i]?=some it→k∈it.keys→k∈Si its
 | [],_,_,_,h,_=>by simp at h
 | it0::its,0,it,k,h,hk=>by simp at h;subst h;exact List.mem_append_left _ hk
 | it0::its,i+1,it,k,h,hk=>List.mem_append_right _ (Ky (by simpa using h) hk)
theorem Nq:∀{l m:List Nat},Mb (l++m)=true→Mb l=true∧Mb m=true∧∀k,k∈l→k ∉ m
 | [],m,h=>⟨rfl,h,fun k hk=>by simp at hk⟩
 | k::l,m,h=>by
  rw[List.cons_append] at h
  unfold Mb at h
  cases hm:Fr k (l++m) with
  | true=>rw[hm] at h;cases h
  | false =>
   rw[hm] at h
   obtain⟨h1,h2,h3⟩:=Nq h
   have hn:k ∉ l++m:=fun hk=>by rw[C6.2 hk] at hm;cases hm
   refine⟨?_,h2,fun j hj=>?_⟩
   ·unfold Mb
    have:Fr k l=false:=by
     cases hb:Fr k l with
     | false=>rfl
     | true=>exact absurd (List.mem_append_left _ (C6.1 hb)) hn
    rw[this];exact h1
   ·rcases List.mem_cons.1 hj with rfl | hj
    ·exact fun h=>hn (List.mem_append_right _ h)
    ·exact h3 j hj
theorem Mh:∀{its:List It},Mb (Si its)=true→∀{i j:Nat} {a b:It} {k:Nat},its[i]?=some a→its[j]?=some b→k∈a.keys→k∈b.keys→i=j
 | [],_,i,_,_,_,_,h,_,_,_=>by simp at h
 | it0::its,hn,i,j,a,b,k,hi,hj,hk,hk'=>by
  obtain⟨-,h2,h3⟩:=Nq (show Mb (it0.keys++Si its)=true from hn)
  cases i with
  | zero =>
   cases j with
   | zero=>rfl
   | succ j=>simp at hi;subst hi;exact absurd (Ky (by simpa using hj) hk') (h3 k hk)
  | succ i =>
   cases j with
   | zero=>simp at hj;subst hj;exact absurd (Ky (by simpa using hi) hk) (h3 k hk')
   | succ j =>
    have:=Mh h2 (i:=i) (j:=j) (by simpa using hi) (by simpa using hj) hk hk'
    omega
theorem Qz:∀{its:List It},Mb (Si its)=true→∀{i:Nat} {a:It},its[i]?=some a→Mb a.keys=true
 | [],_,i,_,h=>by simp at h
 | it0::its,hn,i,a,hi=>by
  obtain⟨h1,h2,-⟩:=Nq (show Mb (it0.keys++Si its)=true from hn)
  cases i with
  | zero=>simp at hi;subst hi;exact h1
  | succ i=>exact Qz h2 (by simpa using hi)
theorem Kz {n0 N:Nat}{M:List (Nat × Nat)}:∀{its:List It} {j:Nat},Z9e own n n0 N M j its→∀{i:Nat} {a:It},its[i]?=some a→a.ok own n n0 N M (j+i)
 | [],_,_,i,_,h=>by simp at h
 | it0::its,j,hn,i,a,hi=>by
  cases i with
  | zero=>simp at hi;subst hi;exact hn.1
  | succ i =>
   have:=Kz (j:=j+1) hn.2 (i:=i) (by simpa using hi)
   rw[show j+1+i=j+(i+1) by omega] at this
   exact this
theorem N2:∀(its:List It) (j i:Nat),look i (Eg its j)=if j≤i then(its[i - j]?).map It.root else none
 | [],j,i=>by simp[Eg,look]
 | it::its,j,i=>by
  rw[Eg,A3,N2 its (j+1) i]
  by_cases h:i=j
  ·subst h;simp
  ·by_cases h2:j≤i
   ·obtain⟨d,rfl⟩:=Nat.exists_eq_add_of_le h2
    cases d with
    | zero=>simp at h
    | succ d=>rw[if_neg h,if_pos (by omega),if_pos h2,show j+(d+1) - (j+1)=d by omega,show j+(d+1) - j=d+1 by omega];simp
   ·rw[if_neg h,if_neg h2,if_neg (by omega)]
theorem Uu {it:It}{k:Nat}{r:R}(h:look k it.O=some r):ren it.m k∈it.keys:=List.mem_map.2 ⟨(k,r),Oq h,rfl⟩
theorem Us {roots:List Nat}{Q:G→List R→Prop}{its:List It}{g':G}(hE:Z5l roots own V.n g Q its g')(hH:Has I V own w)(hx:PRes I V g x)(s0:Nat→Value):∃V':Va,V'.n=its.length∧Has I V' (Aw (its.map It.res) 0) w∧PRes I V' g' x∧(∀i b,V'.f i b→∃k r,look k own=some r∧V.f k b)∧(∀(i k:Nat),roots[i]?=some k→V'.b i=V.b k∧i < its.length)∧∀i,i < roots.length→V'.s i=s0 i:=by
 let V':Va:=⟨its.length,fun i=>V.b ((its[i]?).elim 0 It.root),fun i=>if i < roots.length then s0 i else V.s ((its[i]?).elim 0 It.root),fun i b=>∃it k r,its[i]?=some it∧look k it.O=some r∧V.f (ren it.m k) b⟩
 have own_of:∀{i:Nat} {it:It} {k:Nat} {r:R},its[i]?=some it→look k it.O=some r→∃r',look (ren it.m k) own=some r':=fun {i it k r} hi hk=>by
  have hok:=Kz hE.ok hi
  obtain⟨O,m,c⟩:=it
  cases c with
  | true =>
   obtain⟨-,-,h4⟩:=C2 (show leI m own V.n O from hok.1) hk
   exact⟨_,h4⟩
  | false =>
   obtain⟨r0,e,h1,-⟩:=hok
   have e:O=[(0,r0)]:=e
   subst e
   have hk:look k [(0,r0)]=some r:=hk
   rw[A3] at hk
   split at hk
   ·next e=>subst e;exact⟨_,h1⟩
   ·cases hk
 have lk:∀{i:Nat} {r:R},look i (Aw (its.map It.res) 0)=some r→∃it,its[i]?=some it∧r=it.res:=fun {i r} h=>by
  rw[Af,List.getElem?_map] at h
  obtain⟨it,h1,h2⟩:=Option.map_eq_some_iff.1 h
  exact⟨it,h1,h2.symm⟩
 have hb:∀{i:Nat} {it:It},its[i]?=some it→V'.b i=V.b (ren it.m 0):=fun {i it} h=>by
  show V.b ((its[i]?).elim 0 It.root)=_
  rw[h];rfl
 have hs:∀{i:Nat} {it:It},its[i]?=some it→roots.length≤i→V'.s i=V.s (ren it.m 0):=fun {i it} h hi=>by
  show(if i < roots.length then s0 i else V.s ((its[i]?).elim 0 It.root))=_
  rw[if_neg (by omega),h];rfl
 have key:∀k,k < its.length→∃it,its[k]?=some it∧(look k (Eg its 0)).getD k=ren it.m 0:=fun k hk=>by
  refine⟨its[k],List.getElem?_eq_getElem hk,?_⟩
  rw[N2,if_pos (Nat.zero_le _),Nat.sub_zero,List.getElem?_eq_getElem hk]
  rfl
 refine⟨V',rfl,⟨hH.mem,fun i r h=>?_,fun i r h=>?_,fun i r b h hf=>?_,fun i j r r' b h h' hf hf'=>?_⟩,?_,fun i b ⟨it,k,r,h1,h2,h3⟩=>(by obtain⟨r',h4⟩:=own_of h1 h2;exact⟨_,r',h4,h3⟩),fun i k hk=>?_,fun i hi=>if_pos hi⟩
 ·obtain⟨it,h1,-⟩:=lk h
  exact(List.getElem?_eq_some_iff.1 h1).1
 ·obtain⟨it,h1,rfl⟩:=lk h
  have hok:=Kz hE.ok h1
  obtain⟨O,m,c⟩:=it
  cases c with
  | true =>
   obtain⟨h2,r0,h3⟩:=hok
   have h2:leI m own V.n O:=h2
   refine⟨Z0x O,V.ren m V.n,?_,⟨fun k r hk=>(C2 h2 hk).1,fun k r hk=>Ol (C2 h2 hk).2.1 (hH.each _ _ (C2 h2 hk).2.2),fun k r b hk hf=>(hH.foot _ _ b (C2 h2 hk).2.2 hf).1,fun k k' r r' b hk hk' hf hf'=>?_⟩,fun c=>?_⟩
   ·exact(hb h1).symm
   ·exact Ni (m:=m) (l:=O) (Qz hE.nod h1) hk hk' (hH.disj _ _ _ _ b (C2 h2 hk).2.2 (C2 h2 hk').2.2 hf hf')
   ·constructor
    ·rintro⟨it',k,r,e,hk,hf⟩
     rw[h1] at e
     cases e
     exact⟨k,r,hk,hf⟩
    ·rintro⟨k,r,hk,hf⟩
     exact⟨_,k,r,h1,hk,hf⟩
  | false =>
   obtain⟨r,e,hlk,hr⟩:=hok
   have e:O=[(0,r)]:=e
   subst e
   simp only[Bool.and_eq_true] at hr
   obtain⟨hr1,hr2,hr3⟩:=hr
   have hrr:=hH.each _ _ hlk
   have hfe:V'.f i=V.f (ren m 0):=by
    funext b
    apply propext
    constructor
    ·rintro⟨it',k,r',e,hk,hf⟩
     rw[h1] at e
     cases e
     have hk:look k [(0,r)]=some r':=hk
     rw[A3] at hk
     split at hk
     ·next e=>subst e;exact hf
     ·cases hk
    ·exact fun hf=>⟨_,0,r,h1,rfl,hf⟩
   have hbe:=hb h1
   have hse:=hs h1
   show RRep I V' i w r
   have hrr:RRep I V (ren m 0) w (H3 (Eg its 0) r):=hrr
   cases r with
   | blk cs t =>
    obtain⟨q1,us,q2,q3⟩:=hrr
    refine⟨fun b=>by rw[hfe,hbe];exact q1 b,us,by rw[hbe];exact q2,by simpa using q3.1,fun j g u hg hu=>?_⟩
    have hk:=Ac (show Ar (Re its.length) cs=true from hr1) g (List.mem_of_getElem? hg)
    have hn:=Ac (show Ar (Zaa roots.length) cs=true from hr2) g (List.mem_of_getElem? hg)
    have h:=q3.2 j _ u (by rw[List.getElem?_map,hg];rfl) hu
    cases g with
    | ptr k o =>
     have hk:=Nat.le_of_ble_eq_true hk
     obtain⟨it,h3,h4⟩:=key k hk
     have h:CRep I V (.ptr ((look k (Eg its 0)).getD k) o) u:=h
     rw[h4] at h
     exact⟨hk,by rw[hb h3];exact h.2⟩
    | mp k =>
     have hk:=Nat.le_of_ble_eq_true hk
     obtain⟨it,h3,h4⟩:=key k hk
     have h:CRep I V (.mp ((look k (Eg its 0)).getD k)) u:=h
     rw[h4] at h
     exact⟨hk,by rw[hb h3];exact h.2⟩
    | osl k =>
     have hk:=Nat.le_of_ble_eq_true hk
     obtain⟨it,h3,h4⟩:=key k hk
     have h:CRep I V (.osl ((look k (Eg its 0)).getD k)) u:=h
     rw[h4] at h
     exact⟨hk,by rw[hs h3 (Nat.le_of_ble_eq_true hn)];exact h.2⟩
    | osv k a b c =>
     have hk:=Nat.le_of_ble_eq_true hk
     obtain⟨it,h3,h4⟩:=key k hk
     have h:CRep I V (.osv ((look k (Eg its 0)).getD k) a b c) u:=h
     rw[h4] at h
     exact⟨hk,by rw[hs h3 (Nat.le_of_ble_eq_true hn)];exact h.2⟩
    | _=>exact h
   | slc rows e sz =>
    have hge:roots.length≤0+i:=Nat.le_of_ble_eq_true (by simpa using hr3)
    have hse:=hse (by omega)
    exact⟨fun b=>by rw[hfe,hse];exact hrr.1 b,by rw[hse];exact hrr.2⟩
   | vw rows e sz =>
    have hge:roots.length≤0+i:=Nat.le_of_ble_eq_true (by simpa using hr3)
    have hse:=hse (by omega)
    exact⟨fun b=>by rw[hfe,hse];exact hrr.1 b,by rw[hse];exact hrr.2⟩
   | froz rows sz =>
    have hge:roots.length≤0+i:=Nat.le_of_ble_eq_true (by simpa using hr3)
    have hse:=hse (by omega)
    exact⟨fun b=>by rw[hfe];exact hrr.1 b,by rw[hse];exact hrr.2.1,hrr.2.2⟩
   | gone=>exact fun b=>by rw[hfe];exact hrr b
   | mpI l=>exact⟨fun b=>by rw[hfe,hbe];exact hrr.1 b,by rw[hbe];exact hrr.2⟩
   | mpS l=>exact⟨fun b=>by rw[hfe,hbe];exact hrr.1 b,by rw[hbe];exact hrr.2⟩
   | sit s pos=>exact⟨fun b=>by rw[hfe,hbe];exact hrr.1 b,by rw[hbe];exact hrr.2⟩
   | mpX l m ob=>exact⟨fun b=>by rw[hfe,hbe];exact hrr.1 b,by rw[hbe];exact hrr.2⟩
   | mit j l D last m ob=>exact⟨fun b=>by rw[hfe,hbe];exact hrr.1 b,by rw[hbe];exact hrr.2⟩
   | abs p=>exact⟨hrr.1,by rw[hfe,hbe];exact hrr.2⟩
   | lnk j=>cases hr1
   | adr j b =>
    have hk:=Nat.le_of_ble_eq_true (show Nat.blt j its.length=true from hr1)
    obtain⟨it,h3,h4⟩:=key j hk
    have hrr:(∀c,¬V.f (ren m 0) c)∧(look j (Eg its 0)).getD j < V.n∧V.b ((look j (Eg its 0)).getD j)=b:=hrr
    rw[h4] at hrr
    exact⟨fun c=>by rw[hfe];exact hrr.1 c,hk,by rw[hb h3];exact hrr.2.2⟩
   | fam ps=>exact⟨hrr.1,by rw[hfe];exact hrr.2⟩
 ·obtain⟨it,k,r',h1,h2,h3⟩:=hf
  obtain⟨r2,h4⟩:=own_of h1 h2
  exact hH.foot _ _ b h4 h3
 ·obtain⟨it,k,r1,h1,h2,h3⟩:=hf
  obtain⟨it',k',r1',h1',h2',h3'⟩:=hf'
  obtain⟨r2,h4⟩:=own_of h1 h2
  obtain⟨r2',h4'⟩:=own_of h1' h2'
  have:=hH.disj _ _ _ _ b h4 h4' h3 h3'
  exact Mh hE.nod h1 h1' (Uu h2) (this ▸ Uu h2')
 ·have hres:=hE.res
  have hkey:=hE.key
  simp only[Bool.and_eq_true] at hkey
  obtain⟨⟨hkey,hrb⟩,hrn⟩:=hkey
  have one:∀g' x,Z9r its.length g'=true→Ze7 g'=true→Z1a roots.length g'=true→PRe1 I V (Z2t (Eg its 0) g') x→PRe1 I V' g' x:=fun g' x h1 h2 h5 h=>by
   cases g' with
   | ptr k o =>
    have hk:=Nat.le_of_ble_eq_true h1
    obtain⟨it,h3,h4⟩:=key k hk
    have h:PRep I V (.ptr ((look k (Eg its 0)).getD k) o) x:=h
    rw[h4] at h
    exact(show PRep I V' (.ptr k o) x from⟨hk,by rw[hb h3];exact h.2⟩)
   | mp k =>
    have hk:=Nat.le_of_ble_eq_true h1
    obtain⟨it,h3,h4⟩:=key k hk
    have h:PRep I V (.mp ((look k (Eg its 0)).getD k)) x:=h
    rw[h4] at h
    exact(show PRep I V' (.mp k) x from⟨hk,by rw[hb h3];exact h.2⟩)
   | osl k =>
    have hk:=Nat.le_of_ble_eq_true h1
    obtain⟨it,h3,h4⟩:=key k hk
    have h:PRep I V (.osl ((look k (Eg its 0)).getD k)) x:=h
    rw[h4] at h
    exact(show PRep I V' (.osl k) x from⟨hk,by rw[hs h3 (Nat.le_of_ble_eq_true h5)];exact h.2⟩)
   | osv k a b c=>cases h2
   | oel k a b c=>cases h2
   | orv k a b c d e=>cases h2
   | clo f a c=>cases h2
   | v z=>exact h
   | tt=>exact h
   | ff=>exact h
   | un=>exact h
   | nl=>exact h
   | agg l=>exact h
   | sl l=>exact h
   | oag l =>
    obtain⟨cs,e,hp⟩:=(show TRep1 I V (.oag (l.map (Jp (Eg its 0)))) x from h)
    refine(show TRep1 I V' (.oag l) x from⟨cs,e,by simpa using hp.1,fun j g u hg hu=>?_⟩)
    have hk:=Ac (show Ar (Re its.length) l=true from h1) g (List.mem_of_getElem? hg)
    have hn:=Ac (show Ar (Zaa roots.length) l=true from h5) g (List.mem_of_getElem? hg)
    have h:=hp.2 j _ u (by rw[List.getElem?_map,hg];rfl) hu
    cases g with
    | ptr k o =>
     have hk:=Nat.le_of_ble_eq_true hk
     obtain⟨it,h3,h4⟩:=key k hk
     have h:CRep I V (.ptr ((look k (Eg its 0)).getD k) o) u:=h
     rw[h4] at h
     exact⟨hk,by rw[hb h3];exact h.2⟩
    | mp k =>
     have hk:=Nat.le_of_ble_eq_true hk
     obtain⟨it,h3,h4⟩:=key k hk
     have h:CRep I V (.mp ((look k (Eg its 0)).getD k)) u:=h
     rw[h4] at h
     exact⟨hk,by rw[hb h3];exact h.2⟩
    | osl k =>
     have hk:=Nat.le_of_ble_eq_true hk
     obtain⟨it,h3,h4⟩:=key k hk
     have h:CRep I V (.osl ((look k (Eg its 0)).getD k)) u:=h
     rw[h4] at h
     exact⟨hk,by rw[hs h3 (Nat.le_of_ble_eq_true hn)];exact h.2⟩
    | osv k a b c =>
     have hk:=Nat.le_of_ble_eq_true hk
     obtain⟨it,h3,h4⟩:=key k hk
     have h:CRep I V (.osv ((look k (Eg its 0)).getD k) a b c) u:=h
     rw[h4] at h
     exact⟨hk,by rw[hs h3 (Nat.le_of_ble_eq_true hn)];exact h.2⟩
    | _=>exact h
   | tup l=>cases h1
   | elp l o=>cases(show VRep I (.elp l o) x from h)
  rw[←hres] at hx
  cases g' with
  | tup l =>
   obtain⟨cs,e,hp⟩:=hx
   exact⟨cs,e,by simpa using hp.1,fun j g u hg hu=>one g u (Ac (show Ar (Z9r its.length) l=true from hkey) g (List.mem_of_getElem? hg)) (Ac (show Ar Ze7 l=true from hrb) g (List.mem_of_getElem? hg)) (Ac (show Ar (Z1a roots.length) l=true from hrn) g (List.mem_of_getElem? hg)) (hp.2 j _ u (by rw[List.getElem?_map,hg];rfl) hu)⟩
  | ptr k o=>exact one (.ptr k o) x hkey hrb hrn hx
  | mp k=>exact one (.mp k) x hkey hrb hrn hx
  | osl k=>exact one (.osl k) x hkey hrb hrn hx
  | osv k a b c=>cases hrb
  | oel k a b c=>cases hrb
  | orv k a b c d e=>cases hrb
  | clo f a c=>cases hrb
  | v z=>exact hx
  | tt=>exact hx
  | ff=>exact hx
  | un=>exact hx
  | nl=>exact hx
  | agg l=>exact hx
  | sl l=>exact hx
  | oag l=>exact one (.oag l) x hkey hrb hrn hx
  | elp l o=>cases(show VRep I (.elp l o) x from hx)
 ·obtain⟨l,hl⟩:=hE.rts
  have h1:(its.map It.root)[i]?=some k:=by rw[hl,List.getElem?_append_left (List.getElem?_eq_some_iff.1 hk).1];exact hk
  rw[List.getElem?_map] at h1
  obtain⟨it,h2,h3⟩:=Option.map_eq_some_iff.1 h1
  exact⟨by rw[hb h2,←h3];rfl,(List.getElem?_eq_some_iff.1 h2).1⟩
theorem Iz {α:Type}{p q:α→Bool}(hpq:∀x,p x=true→q x=true):∀{l:List α},Ar p l=true→Ar q l=true
 | [],_=>rfl
 | x::l,h=>by
  unfold Ar at h⊢
  cases hp:p x with
  | false=>rw[hp] at h;cases h
  | true =>
   rw[hp] at h
   rw[hpq x hp]
   exact Iz hpq h
theorem Yd {n:Nat}(g:G)(h:Be g=true):Re n g=true:=by cases g<;>first | rfl | cases h
theorem Mf {n:Nat}(g:G)(h:G9 g=true):Z9r n g=true:=by
 cases g with
 | oag l=>exact Iz Yd (show Ar Be l=true from h)
 | clo f a c=>cases h
 | tup l=>cases h
 | ptr k o=>cases h
 | osl k=>cases h
 | osv k a b c=>cases h
 | oel k a b c=>cases h
 | orv k a b c d e=>cases h
 | mp k=>cases h
 | _=>rfl
theorem N0 {n:Nat}(g:G)(h:Ii g=true):Z30 n g=true:=by
 cases g with
 | tup l=>exact Iz Mf (show Ar G9 l=true from h)
 | oag l=>exact Mf (.oag l) h
 | clo f a c=>cases h
 | ptr k o=>cases h
 | osl k=>cases h
 | osv k a b c=>cases h
 | oel k a b c=>cases h
 | orv k a b c d e=>cases h
 | mp k=>cases h
 | _=>rfl
theorem Uq {n:Nat}{g:G}(h:G9 g=true):Z1a n g=true:=by
 cases g with
 | oag l=>exact Iz (fun g h=>by cases g<;>first | rfl | cases h) (show Ar Be l=true from h)
 | osl k=>cases h
 | _=>rfl
theorem U6 {n:Nat}{g:G}(h:Ii g=true):Zg0 n g=true:=by
 cases g with
 | tup l=>exact Iz (fun g h=>Uq h) (show Ar G9 l=true from h)
 | oag l=>exact Uq (g:=.oag l) h
 | osl k=>cases h
 | _=>rfl
theorem Sy (r:R)(gs:List G):Z7v [r] gs [(0,r)] 1 gs [0]:=C1 [r] gs
theorem Qy (gs:List G):Z7v [] gs [] 0 gs []:=C1 [] gs
theorem A6 {O:Os}{n0:Nat}{gs:List G}(hk:(Sn n0 O&&Ar J0 []&&Ar Zg6 gs&&(look 0 O).isSome)=true):Z7v [.abs (cl O)] gs O n0 gs [0] :=
 Z83 hk (by simp[Aw]) (by show gs.map (Pc [])=gs;rw[funext Tz];simp) rfl
def itL:List (Nat × R)→List It
 | []=>[]
 | (k,r)::l=>⟨[(0,r)],[(0,k)],false⟩::itL l
theorem A7 {Q:G→List R→Prop}{p:Ob}(h0:look 0 own=some (.abs p))(hg:(Ii g&&Zf1 g)=true)(hq:Q g [.abs p]):∃its g',Z5l [0] own n g Q its g':=by
 simp only[Bool.and_eq_true] at hg
 exact⟨[⟨[(0,.abs p)],[],false⟩],g,⟨⟨⟨_,rfl,h0,rfl⟩,trivial⟩,rfl,⟨[],rfl⟩,Jl hg.1,by rw[N0 g hg.1,hg.2,U6 hg.1];rfl,hq⟩⟩
theorem A1 {Q:G→List R→Prop}(O:Os)(m:List (Nat × Nat))(hl:leI m own n O)(h0:(look 0 m).getD 0=0)(hO:∃r,look 0 O=some r)(hd:Mb (O.map fun p=>(look p.1 m).getD p.1)=true)(hg:(Ii g&&Zf1 g)=true)(hq:Q g [.abs (cl O)]):∃its g',Z5l [0] own n g Q its g':=by
 simp only[Bool.and_eq_true] at hg
 refine⟨[⟨O,m,true⟩],g,⟨⟨⟨hl,hO⟩,trivial⟩,?_,⟨[],?_⟩,Jl hg.1,by rw[N0 g hg.1,hg.2,U6 hg.1];rfl,hq⟩⟩
 ·show Mb (O.map (fun p=>(look p.1 m).getD p.1)++[])=true
  rw[List.append_nil];exact hd
 ·show [(look 0 m).getD 0]=[0]++[]
  rw[h0];rfl
end
end Go.Proofs.YtihfaocdpmmooaaGreat

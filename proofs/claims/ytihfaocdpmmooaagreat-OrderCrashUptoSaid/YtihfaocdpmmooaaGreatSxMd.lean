
import Derived.Test.YtihfaocdpmmooaaGreatSxMa
import Derived.OrdersHeld
import Derived.Deep.RegionHeld
import Derived.Test.YtihfaocdpmmooaaGreatSxMb
import Derived.Deep.LoopGhost
import Derived.ScopeJumps
namespace Go.Proofs.YtihfaocdpmmooaaGreat
open Go.RowKit
section
variable {P:Program} {md:Region.Mode} {ops:Array Oper} {Q:Exit→Act→World→Prop} {S:World→Prop} {late:List Nat}
def R7 (md:Region.Mode)(ops:Array Oper):Nat→Nat→Nat→Bool
 | 0,_,_=>false
 | n+1,j,i=>match ops[j]? with
  | some o=>o.after.toList.any fun e=>Region.binds md e&&(e.on==i||R7 md ops n e.on i)
  | none=>false
def Fn (md:Region.Mode)(ops:Array Oper)(b:Array Bool):Prop:=∀j o,ops[j]?=some o→b.getD j false=true→∀e∈o.after,Region.binds md e=true→b.getD e.on false=true
theorem L0 {b:Array Bool}(z:Fn md ops b){i:Nat}:∀(n j:Nat),(∀o,ops[j]?=some o→∀e∈o.after,Region.binds md e=true→b.getD e.on false=true)→R7 md ops n j i=true→b.getD i false=true
 | 0,_,_,h=>by cases h
 | n+1,j,hj,h=>by
  unfold R7 at h;cases ho:ops[j]? with
  | none=>rw[ho] at h;cases h
  | some o =>
   rw[ho] at h;obtain⟨e,B,c⟩:=List.any_eq_true.1 h;rw[au,Bool.or_eq_true] at c;have p:e∈o.after:=by simpa using B
   have u:=hj o ho e p c.1;rcases c.2 with s | s
   ·have:e.on=i:=by simpa using s
    rw[←this];exact u
   ·exact L0 z n e.on (fun A q=>z e.on A q u) s
theorem Dn {b:Array Bool}(A:Fn md ops b){i:Nat}(hr:i∈Region.ready md ops b):Fn md ops (b.setIfInBounds i true):=fun j o s u e z q=>by
 by_cases p:i=j
 ·subst p;obtain⟨_,B,c,h⟩:=mem_ready.1 hr;rw[s] at c;injection c with c;subst c;exact getD_set_true (h e z q)
 ·rw[getD_set_ne false p] at u;exact getD_set_true (A j o s u e z q)
theorem L2 (n:Nat)(c:n=ops.size):Fn md ops (Array.replicate n false):=fun j o e h=>by have b:j < ops.size:=(bp.1 e).1;subst c;simp[b] at h
def Z58 (P:Program)(md:Region.Mode)(ops:Array Oper)(Q:Exit→Act→World→Prop)(S:World→Prop)(late:List Nat):Nat→Array Bool→Act→World→Prop
 | 0,b,a,w=>Region.ready md ops b=[]∧Q .normal a w
 | fuel+1,b,a,w =>
  (Region.ready md ops b=[]→Q .normal a w) ∧
  ∀i∈Region.ready md ops b,wpOp P ops Q i (fun c w'=>(i ∉ late→S w')∧(Fn md ops (b.setIfInBounds i true)→Z58 P md ops Q S late fuel (b.setIfInBounds i true) c w')) a w
def Zgy (md:Region.Mode)(ops:Array Oper)(late:List Nat)(i:Nat):Bool:=late.all fun j=>R7 md ops ops.size j i
def AllL (P:Program)(md:Region.Mode)(ops:Array Oper)(Q:Exit→Act→World→Prop)(S:World→Prop)(late:List Nat)(c:Nat)(b:Array Bool)(a:Act)(w:World)(rs:List Nat):Prop :=
 ∀i∈rs,wpOp P ops Q i (fun e w'=>(i ∉ late→S w')∧(Fn md ops (b.setIfInBounds i true)→Z58 P md ops Q S late c (b.setIfInBounds i true) e w')) a w
theorem AllL.nil {c:Nat}{b:Array Bool}{a:Act}{w:World}:AllL P md ops Q S late c b a w []:=fun _ h=>by cases h
theorem AllL.cons {c:Nat}{b:Array Bool}{a:Act}{w:World}{i:Nat}{e:Oper}{rs:List Nat}(hi:ops[i]?=some e)
  (h:∀K:Act→World→Prop,Shut (∀a w,(i ∉ late→S w)→((i ∉ late→S w)→Fn md ops (b.setIfInBounds i true)→Z58 P md ops Q S late c (b.setIfInBounds i true) a w)→K a w)→if Region.wanted e (yielded ops a.tmps)=true then e.wp P a w K Q else K (a.put e.dst undef) w)
  (u:AllL P md ops Q S late c b a w rs):AllL P md ops Q S late c b a w (i::rs):=fun j p=>by
 rcases bi.1 p with rfl | p
 ·exact wpOp_step hi (fun K s=>h K (fun a w q z=>s a w ⟨q,z q⟩))
 ·exact u j p
end
section
variable {P:Program} {ops:Array Oper} {Q:Exit→Act→World→Prop} {w0 w:World} {L:List (Nat × List Value × TypeId)} {U:List (World × List Nat)} {a:Act} {o:Oper} {ty t:TypeId} {i g k:Nat} {row:List Value} {v:Value}
theorem Env.sub {b:List (World × List Nat)}(h:Env w0 w L U)(e:∀q∈b,q∈U):Env w0 w L b:=⟨h.blw,h.own,h.sep,fun q c=>h.sn q (e q c)⟩
theorem J7 (b:o.guard=none):Region.wanted o (yielded ops a.tmps)=true:=by unfold Region.wanted;rw[b]
theorem Zbx {S:World→Prop}(b:Region.wanted o (yielded ops a.tmps)=false):YieldsIf P ops S o undef a:=.inr ⟨b,rfl⟩
theorem Zab {S:World→Prop}(b:Region.wanted o (yielded ops a.tmps)=true)(hr:∀w,S w→(execOp a.eval o).run P w=.ok (.value v) w):YieldsIf P ops S o v a:=.inl ⟨b,hr⟩
end
section
variable {P:Program} {ops:Array Oper} {w0 w:World} {L:List (Nat × List Value × TypeId)} {U:List (World × List Nat)} {a:Act} {o:Oper} {α:Type} {sz:Nat} {f:α→List Value} {l:List α}
end
section
variable {P:Program} {md:Region.Mode} {ops:Array Oper} {Q:Exit→Act→World→Prop} {S:World→Prop} {late:List Nat}
def Zfj (S:World→Prop):Prop:=∀w u,S w→Below w.heap.size w u→S u
def wpAnyG (P:Program)(md:Region.Mode)(ops:Array Oper)(Q:Exit→Act→World→Prop)(late:List Nat):Nat→(World→Prop)→Array Bool→Act→World→Prop
 | 0,_,b,a,w=>∀u,Below w.heap.size w u→Region.ready md ops b=[]∧Q .normal a u
 | fuel+1,S,b,a,w=>∀u,Below w.heap.size w u →
  (Region.ready md ops b=[]→Q .normal a u) ∧
  ∀i∈Region.ready md ops b,wpOp P ops Q i (fun e w'=>∃c:World→Prop,(i ∉ late→∀u,c u→S u)∧c w'∧Zfj c∧(Fn md ops (b.setIfInBounds i true)→wpAnyG P md ops Q late fuel c (b.setIfInBounds i true) e w')) a u
theorem Of:∀(c:Nat) (S:World→Prop) (b:Array Bool) (a:Act) (w:World),Fn md ops b→wpAnyG P md ops Q late c S b a w→wpAny P md ops Q c b a w
 | 0,_,_,_,_,_,h=>h _ (.refl _ _)
 | c+1,_,_,_,_,hc,h=>have h:=h _ (.refl _ _);⟨h.1,fun i hi=>wpOp_mono (fun j w' ⟨e,_,_,_,h'⟩=>Of c e _ j w' (Dn hc hi) (h' (Dn hc hi))) (h.2 i hi)⟩
theorem wpAnyG.grow {c:Nat}{S:World→Prop}{b:Array Bool}{a:Act}{w u:World}(h:wpAnyG P md ops Q late c S b a w)(e:Below w.heap.size w u):wpAnyG P md ops Q late c S b a u:=by
 cases c with
 | zero=>exact fun v j=>h v (e.trans (j.mono e.size))
 | succ n=>exact fun v j=>h v (e.trans (j.mono e.size))
theorem YieldsIf.sub {o:Oper}{v:Value}{a:Act}{b:World→Prop}(h:YieldsIf P ops S o v a)(e:∀u,b u→S u):YieldsIf P ops b o v a :=
 h.imp (fun h=>⟨h.1,fun u c=>h.2 u (e u c)⟩) id
theorem Sw {i N:Nat}{T:Oper}{v:Value}(hi:ops[i]?=some T)(J:∀(j:Nat) (o:Oper) cs b,ops[j]?=some o→o.op≠.select cs b)
  (hQ:∀c a w,Q (.panic c) (a.put T.dst v) w→Q (.panic c) a w) (W:∀j∈late,R7 md ops N j i=true) :
  ∀(s:Nat) (S:World→Prop) (p:Array Bool) (a:Act) (w:World),Fn md ops p →
   (∀j O,ops[j]?=some O→j≠i→p.getD j true=false→(∀e∈O.after,Region.binds md e=true→e.on≠i)→T.apart ops O=true) →
   i∈Region.ready md ops p→YieldsIf P ops S T v a→S w→Zfj S →
   wpAnyG P md ops Q late s S (p.setIfInBounds i true) (a.put T.dst v) w→wpAnyG P md ops Q late (s+1) S p a w:=by
 intro s
 induction s with
 | zero =>
  intro S p a w hc _ hr hy hS X H u A;refine⟨fun h=>(by rw[h] at hr;cases hr),fun j hj=>?_⟩;by_cases q:j=i
  ·subst q;exact hy.wpOp hi (X _ _ hS A) ⟨S,fun _ _ h=>h,X _ _ hS A,X,fun _=>H.grow A⟩
  ·have:=ready_mono hj q;rw[(H u A).1] at this;cases this
 | succ s ih =>
  intro S p a w hc z hr hy hS X H u A;refine⟨fun h=>(by rw[h] at hr;cases hr),fun j hj=>?_⟩;by_cases q:j=i
  ·subst q;exact hy.wpOp hi (X _ _ hS A) ⟨S,fun _ _ h=>h,X _ _ hS A,X,fun _=>H.grow A⟩
  ·have h1:=(H u A).2 j (ready_mono hj q);obtain⟨F,O,C,E⟩:=mem_ready.1 hj;have D:=(mem_ready.1 hr).1;have M:∀{b:Bool},p.getD i b=true→b=false→False:=fun Y hb0=>by
    subst hb0;rcases Nat.lt_or_ge i p.size with h' | h'
    ·simp[h'] at D Y;rw[D] at Y;cases Y
    ·simp[Array.getElem?_eq_none h'] at Y
   have hjl:j ∉ late:=fun hm=>M (L0 hc N j (fun o ho=>by rw[C] at ho;injection ho with ho;subst ho;exact E) (W j hm)) rfl
   have hnot:∀e∈O.after,Region.binds md e=true→e.on≠i:=fun e he Y heq=>by have h1:=E e he Y;rw[heq] at h1;exact M h1 rfl
   have h2:=wpOp_putIf C (z j O C q F hnot) (fun cs b=>J i T cs b hi) (fun cs b=>J j O cs b C) hQ hy h1;have B:∀k ok,ops[k]?=some ok→k≠i→(p.setIfInBounds j true).getD k true=false →
     (∀e∈ok.after,Region.binds md e=true→e.on≠i)→T.apart ops ok=true:=fun k ok hk hki hun hno=>by
    refine z k ok hk hki ?_ hno;by_cases hjk:j=k
    ·subst hjk;exact F
    ·rw[getD_set_ne true hjk] at hun;exact hun
   refine wpOp_mono (fun a' w' h3=>?_) h2;obtain⟨hy3,S',hs1,Z,hs3,h3⟩:=h3;refine⟨S',hs1,Z,hs3,fun hcj=>ih S' (p.setIfInBounds j true) a' w' hcj B (ready_mono hr (Ne.symm q)) (YieldsIf.sub (S:=S) hy3 (hs1 hjl)) Z hs3 ?_⟩;rw[Array.setIfInBounds_comm _ _ q];exact h3 (by rw[Array.setIfInBounds_comm _ _ (Ne.symm q)];exact Dn hcj (ready_mono hr (Ne.symm q)))
theorem Qj {i:Nat}{J:Oper}{v:Value}(hi:ops[i]?=some J)(D:∀(j:Nat) (o:Oper) cs b,ops[j]?=some o→o.op≠.select cs b)
  (hQ:∀c a w,Q (.panic c) (a.put J.dst v) w→Q (.panic c) a w) :
  ∀(s:Nat) (S:World→Prop) (p:Array Bool) (a:Act) (w:World),Fn md ops p →
   (∀j F,ops[j]?=some F→j≠i→p.getD j true=false→(∀e∈F.after,Region.binds md e=true→e.on≠i)→J.apart ops F=true) →
   i∈Region.ready md ops p→YieldsIf P ops (fun _=>True) J v a→S w→Zfj S →
   wpAnyG P md ops Q late s S (p.setIfInBounds i true) (a.put J.dst v) w→wpAnyG P md ops Q late (s+1) S p a w:=by
 intro s
 induction s with
 | zero =>
  intro S p a w hc _ hr hy hS hG H u M;refine⟨fun h=>(by rw[h] at hr;cases hr),fun j hj=>?_⟩;by_cases q:j=i
  ·subst q;exact hy.wpOp hi trivial ⟨S,fun _ _ h=>h,hG _ _ hS M,hG,fun _=>H.grow M⟩
  ·have:=ready_mono hj q;rw[(H u M).1] at this;cases this
 | succ s ih =>
  intro S p a w hc z hr hy hS hG H u M;refine⟨fun h=>(by rw[h] at hr;cases hr),fun j hj=>?_⟩;by_cases q:j=i
  ·subst q;exact hy.wpOp hi trivial ⟨S,fun _ _ h=>h,hG _ _ hS M,hG,fun _=>H.grow M⟩
  ·have E:=(H u M).2 j (ready_mono hj q);obtain⟨C,F,O,X⟩:=mem_ready.1 hj;have B:=(mem_ready.1 hr).1;have Y:∀e∈F.after,Region.binds md e=true→e.on≠i:=fun e he hb heq=>by
    have E:=X e he hb;rw[heq] at E;rcases Nat.lt_or_ge i p.size with h' | h'
    ·simp[h'] at B E;rw[B] at E;cases E
    ·simp[Array.getElem?_eq_none h'] at E
   have h2:=wpOp_putIf O (z j F O q C Y) (fun cs b=>D i J cs b hi) (fun cs b=>D j F cs b O) hQ hy E;have A:∀k ok,ops[k]?=some ok→k≠i→(p.setIfInBounds j true).getD k true=false →
     (∀e∈ok.after,Region.binds md e=true→e.on≠i)→J.apart ops ok=true:=fun k ok hk hki hun hno=>by
    refine z k ok hk hki ?_ hno;by_cases hjk:j=k
    ·subst hjk;exact C
    ·rw[getD_set_ne true hjk] at hun;exact hun
   refine wpOp_mono (fun a' w' h3=>?_) h2;obtain⟨hy3,S',hs1,T,Z,h3⟩:=h3;refine⟨S',hs1,T,Z,fun W=>ih S' (p.setIfInBounds j true) a' w' W A (ready_mono hr (Ne.symm q)) hy3 T Z ?_⟩;rw[Array.setIfInBounds_comm _ _ q];exact h3 (by rw[Array.setIfInBounds_comm _ _ (Ne.symm q)];exact Dn W (ready_mono hr (Ne.symm q)))
def CallsTo (P:Program)(ops:Array Oper)(o:Oper)(v:Value)(a:Act):Prop :=
 Region.wanted o (yielded ops a.tmps)=true∧∃f vs,(∀w,(execOp a.eval o).run P w=.ok (.enter f vs) w)∧∀w,Calls P f vs w fun e w'=>e=.returned v∧Below w.heap.size w w'
theorem CallsTo.wpOp {i:Nat}{o:Oper}{v:Value}{a:Act}(hi:ops[i]?=some o)(hy:CallsTo P ops o v a){K:Act→World→Prop}{w:World}(h:∀w',Below w.heap.size w w'→K (a.put o.dst v) w'):wpOp P ops Q i K a w:=by obtain⟨b,f,vs,c,j⟩:=hy;unfold Go.wpOp;simp only[hi,b,if_true];refine .inl ?_;unfold Oper.wp;rw[c w,Oper.upon_enter];refine(j w).mono fun e w' ⟨p,hb⟩=>?_;subst p;exact h w' hb
theorem CallsTo.of_same {o:Oper}{v:Value}{a b:Act}(hy:CallsTo P ops o v a)(e:execOp b.eval o=execOp a.eval o)(c:Region.wanted o (yielded ops b.tmps)=Region.wanted o (yielded ops a.tmps)):CallsTo P ops o v b:=by unfold CallsTo at *;rw[e,c];exact hy
theorem Z2e {j:Nat}{q s:Oper}{v:Value}(J:ops[j]?=some s)(C:q.apart ops s=true)(D:∀cs b,q.op≠.select cs b)(A:∀cs b,s.op≠.select cs b)
  (E:∀c a w,Q (.panic c) (a.put q.dst v) w→Q (.panic c) a w) {K:Act→World→Prop} {a:Act} {w:World} (hy:CallsTo P ops q v a) (h:wpOp P ops Q j K (a.put q.dst v) w):wpOp P ops Q j (fun F w'=>CallsTo P ops q v F∧K (F.put q.dst v) w') a w:=by
 obtain⟨p1,p2,p3⟩:=Oper.apart_spec C;have stay:∀{b:Act},CallsTo P ops q v b→∀u,CallsTo P ops q v (b.put s.dst u):=fun {b} H u=>H.of_same (execOp_put q D b s.dst u p3) (wanted_put q b s.dst u p3);have p:∀(b:Act) (u:Value),(b.put q.dst v).put s.dst u=(b.put s.dst u).put q.dst v:=fun b u=>Act.put_comm b v u p2;unfold Go.wpOp at h⊢;simp only[J] at h⊢;rw[wanted_put s a q.dst v p1] at h;cases hw:Region.wanted s (yielded ops a.tmps) with
 | false =>
  rw[hw] at h;have h:K ((a.put q.dst v).put s.dst undef) w:=h;rw[p] at h;exact⟨stay hy _,h⟩
 | true =>
  rw[hw] at h;have h:(s.wp P (a.put q.dst v) w K Q∨(s.asks P (a.put q.dst v) w∧LetsOut Q)):=h;show(s.wp P a w _ Q∨(s.asks P a w∧LetsOut Q));rcases h with h | ⟨h,hl⟩
  ·refine .inl ?_;unfold Oper.wp at h⊢;rw[execOp_put s A a q.dst v p1] at h;generalize (execOp a.eval s).run P w=res at h⊢;cases res with
   | ok nx w' =>
    cases nx<;>simp only[Oper.upon] at h⊢
    case value u=>rw[p] at h;exact⟨stay hy u,h⟩
    case skip=>rw[p] at h;exact⟨stay hy _,h⟩
    case defer d =>
     have e:=p {a with defers:=d::a.defers} undef;refine⟨stay (b:={a with defers:=d::a.defers}) (hy.of_same rfl rfl) _,?_⟩;rw[←e,←Act.put_defers];exact h
    case enter f vs =>
     refine Calls.mono h fun e B z=>?_;cases e with
     | returned u=>have z:K ((a.put q.dst v).put s.dst u) B:=z;rw[p] at z;exact⟨stay hy u,z⟩
     | panicked c=>exact E _ _ _ z
     | outgrown=>exact z
    case row row vs=>exact Rows.mono h fun u B z=>by rw[p] at z;exact⟨stay hy u,z⟩
   | halt x w' =>
    cases x<;>simp only[Oper.upon] at h⊢
    case panic u=>exact E _ _ _ h
  ·refine .inr ⟨?_,hl⟩;unfold Oper.asks at h⊢;rw[execOp_put s A a q.dst v p1] at h;exact h
theorem P8 {i:Nat}{M:Oper}{v:Value}(hi:ops[i]?=some M)(D:∀(j:Nat) (o:Oper) cs b,ops[j]?=some o→o.op≠.select cs b)
  (hQ:∀c a w,Q (.panic c) (a.put M.dst v) w→Q (.panic c) a w) :
  ∀(s:Nat) (S:World→Prop) (p:Array Bool) (a:Act) (w:World),Fn md ops p →
   (∀j J,ops[j]?=some J→j≠i→p.getD j true=false→(∀e∈J.after,Region.binds md e=true→e.on≠i)→M.apart ops J=true) →
   i∈Region.ready md ops p→CallsTo P ops M v a→S w→Zfj S →
   wpAnyG P md ops Q late s S (p.setIfInBounds i true) (a.put M.dst v) w→wpAnyG P md ops Q late (s+1) S p a w:=by
 intro s
 induction s with
 | zero =>
  intro S p a w hc _ hr hy hS W H u O;refine⟨fun h=>(by rw[h] at hr;cases hr),fun j hj=>?_⟩;by_cases q:j=i
  ·subst q;exact hy.wpOp hi fun w' E=>⟨S,fun _ _ h=>h,W _ _ (W _ _ hS O) E,W,fun _=>(H.grow O).grow E⟩
  ·have:=ready_mono hj q;rw[(H u O).1] at this;cases this
 | succ s ih =>
  intro S p a w hc z hr hy hS W H u O;refine⟨fun h=>(by rw[h] at hr;cases hr),fun j hj=>?_⟩;by_cases q:j=i
  ·subst q;exact hy.wpOp hi fun w' E=>⟨S,fun _ _ h=>h,W _ _ (W _ _ hS O) E,W,fun _=>(H.grow O).grow E⟩
  ·have F:=(H u O).2 j (ready_mono hj q);obtain⟨C,J,T,Z⟩:=mem_ready.1 hj;have B:=(mem_ready.1 hr).1;have hnot:∀e∈J.after,Region.binds md e=true→e.on≠i:=fun e he E heq=>by
    have F:=Z e he E;rw[heq] at F;rcases Nat.lt_or_ge i p.size with h' | h'
    ·simp[h'] at B F;rw[B] at F;cases F
    ·simp[Array.getElem?_eq_none h'] at F
   have h2:=Z2e T (z j J T q C hnot) (fun cs b=>D i M cs b hi) (fun cs b=>D j J cs b T) hQ hy F;have A:∀k ok,ops[k]?=some ok→k≠i→(p.setIfInBounds j true).getD k true=false →
     (∀e∈ok.after,Region.binds md e=true→e.on≠i)→M.apart ops ok=true:=fun k ok hk hki hun hno=>by
    refine z k ok hk hki ?_ hno;by_cases hjk:j=k
    ·subst hjk;exact C
    ·rw[getD_set_ne true hjk] at hun;exact hun
   refine wpOp_mono (fun a' w' h3=>?_) h2;obtain⟨hy3,S',hs1,X,hs3,h3⟩:=h3;refine⟨S',hs1,X,hs3,fun Y=>ih S' (p.setIfInBounds j true) a' w' Y A (ready_mono hr (Ne.symm q)) hy3 X hs3 ?_⟩;rw[Array.setIfInBounds_comm _ _ q];exact h3 (by rw[Array.setIfInBounds_comm _ _ (Ne.symm q)];exact Dn Y (ready_mono hr (Ne.symm q)))
end
section
variable {P:Program} {tb:List (Nat × TI)} {N n:Nat} {I I' I0:Imm} {V V' V0:Va} {a:Act} {t:Ts} {own own' own0:Os} {w w' w0:World} {g:G} {y:Value} {d:Option Tmp}
variable {XL:List Nat} {mo:Mo} {S:World→Prop} {K:Ts→Os→Nat→Prop} {next:Act→World→Prop} {Q:Exit→Act→World→Prop} {o:Oper}
theorem Xu (hT:∀t i,look t tb=some i→TIok P t i)(A:∀k∈mo.xl,∃r,look k own=some r)(B:isR tb o=true→∀u,S u→Agree V mo.xl w u)(j:isQ tb o=true)(h:Kp P tb mo o t own V.n K)(hH:Has I V own w)(ha:ARep N I V a t):QOk S P I V own w a t o K:=by
 obtain⟨dst,op,type,E,after,guard⟩:=o;cases op with
 | move x=>exact Zat hH ha (.inl rfl) h
 | assign x =>
  unfold Kp at h;unfold isQ at j;dsimp only at h j;split at h
  ·cases j
  ·exact Zat hH ha (.inr rfl) h
 | pick c x y=>exact Zfd hH ha rfl h
 | load ty x=>exact Zhy hT hH ha A (B rfl) rfl h
 | fieldAddr ty x f=>exact Tm hT hH ha rfl h
 | field ty x f=>exact Ze5 hT hH ha rfl h
 | indexAddr ty x i=>exact To hT hH ha rfl h
 | index ty x i=>exact Ze2 hT hH ha rfl h
 | binOp op ty x y ty'=>exact Zgh hT hH ha rfl h
 | unOp op ty x =>
  cases op with
  | not=>exact Zk4 hH ha rfl h
  | _=>exact False.elim h
 | extract x i=>exact Z55 hH ha rfl h
 | nilCheck x=>exact Zw hH ha rfl h
 | sliceToArrayPointer ty x=>exact Zje hT hH ha rfl h
 | makeFunc fn p q =>
  cases fn with
  | func f=>exact Zd hH ha rfl h
  | _=>exact False.elim h
 | lookup ty x i ok=>exact False.elim h
 | build ty parts=>exact Zd6 hT hH ha rfl h
 | slice ty x lo hi mx =>
  cases mx with
  | some mx =>
   unfold Kp at h;dsimp only at h;cases lo with
   | some lo=>exact False.elim h
   | none =>
    cases hi with
    | none=>exact False.elim h
    | some hx=>exact Z92 hT hH ha rfl h
  | none=>exact Zd3 hT hH ha rfl j h
 | convert src dst x =>
  unfold Kp at h;unfold isQ at j;dsimp only at h j;split at h
  ·next p q C z =>
   rw[C,z] at j;dsimp only at j;split at h
   ·next e sz D F=>rw[D,F] at j;cases j
   ·exact Zfg hT (B rfl) hH ha rfl C z h
  ·exact h.elim
 | call c =>
  obtain⟨callee,args,argTypes⟩:=c;cases callee with
  | builtin b =>
   cases b with
   | len =>
    obtain⟨args⟩:=args;obtain⟨argTypes⟩:=argTypes;unfold Kp at h;dsimp only at h;split at h
    ·next x ty =>
     split at h
     ·next s=>exact Zg7 hH ha ((hT _ _ s).str rfl) rfl h
     ·next e s=>exact Zgg hH ha ((hT _ _ s).elem _ _ rfl).1 rfl h
     ·next str e s =>
      refine Zhn hT A (B ?_) hH ha s rfl rfl h;show Sy (Zip tb) [ty]=true;unfold Sy Zip Z6y;rw[s];rfl
     ·exact h.elim
    ·exact h.elim
   | max =>
    obtain⟨args⟩:=args;unfold Kp at h;dsimp only at h;split at h
    ·exact Zjv hH ha rfl h
    ·exact h.elim
   | min =>
    obtain⟨args⟩:=args;unfold Kp at h;dsimp only at h;split at h
    ·exact Zjh hH ha rfl h
    ·exact h.elim
   | _=>cases j
  | _=>cases j
 | _=>cases j
def Z46 (o:Oper):Bool:=match o.op with
 | .call c=>match c.callee with
  | .value _=>true
  | _=>false
 | _=>false
theorem Zam (hT:∀t i,look t tb=some i→TIok P t i)(C:Z46 o=true→mo=.new)(j:isQ tb o=false)(A:isL tb o=false)(h:Kp P tb mo o t own V.n K)(hH:Has I V own w)(ha:ARep N I V a t)(hd:∀i,o.dst=some i→i < N)(B:NxtB N own I V w K next):o.wp P a w next Q:=by
 obtain⟨dst,op,type,Z,after,guard⟩:=o;cases op with
 | assign x =>
  unfold Kp at h;unfold isQ at j;dsimp only at h j;split at h
  ·split at h
   ·next e sz _ _ A=>exact Zh8 B hH ha hd ((hT _ _ A).elem _ _ rfl).2.choose_spec.choose_spec.2.2.2.2.1 rfl h
   ·exact Td (g:=.nl) B ha hd (by rfl) (.refl hH) (Below.refl _ _) (.refl _) (.of_v .nl) h
  ·next T =>
   split at j
   ·exact de rfl (T · )
   ·cases j
 | convert src dst x =>
  unfold Kp at h;unfold isQ at j;dsimp only at h j;split at h
  ·next p q O E =>
   rw[O,E] at j;dsimp only at j;split at h
   ·next e sz s F =>
    split at h
    ·next W=>exact Z7b hH ha hd B rfl ((hT _ _ O).str s) ((hT _ _ E).elem _ _ F).1 (TIok.u8 hT W) h
    ·exact h.elim
   ·next M =>
    split at j
    ·next e s F=>exact de F (fun F=>(by obtain⟨e,sz⟩:=e;exact M e sz s F))
    ·cases j
  ·exact h.elim
 | alloc ty=>exact Z8f hT B hH ha hd rfl h
 | box ty x=>exact Zgu B hH ha hd rfl h
 | slice ty z lo hi mx =>
  cases mx with
  | some mx =>
   unfold isQ at j;unfold Kp at h;dsimp only at j h;cases lo with
   | some lo=>exact False.elim h
   | none =>
    cases hi with
    | none=>exact False.elim h
    | some T =>
     split at j
     ·next A=>rw[A] at h;exact False.elim h
     ·cases j
  | none =>
   unfold isQ at j;unfold Kp at h;dsimp only at j h;split at j
   ·next e1 sz e2 e3 e4 A =>
    rw[A] at h;split at h
    ·next s=>cases s
    ·next s=>cases s
    ·next s=>cases s;exact Z8y hT hH ha hd B A rfl h
    ·next s=>cases s;exact Z8w hT hH ha hd B A rfl h
    ·exact h.elim
   ·cases j
 | buildSlice ty len parts=>exact Q8 hT B hH ha hd rfl h
 | makeSlice ty len cap=>exact Sr hT B hH ha hd rfl h
 | call c =>
  obtain⟨callee,args,argTypes⟩:=c;cases callee with
  | builtin b=>cases b<;>first | (cases j;done) | (cases A;done) | exact False.elim h
  | value f =>
   have C:=C rfl;subst C;refine Oz (fo:=f) rfl rfl hH ha hd h fun t own' I' V' a' w' D u hm J=>?_;obtain⟨ks,m1,m2,Y,X⟩:=hm rfl;cases ks with
   | cons k ks=>cases m1
   | nil=>exact B _ _ _ _ _ _ D u ⟨u.fro.os,u.fro.tape,u.fro.output,u.fro.size,fun b H=>Y b H fun k D=>by simp at D⟩ (fun k D b H=>(X k D b H).elim id fun h=>(h.1 rfl).elim) J
  | invoke r m=>exact False.elim h
 | makeMap ty r =>
  cases r with
  | some r=>exact False.elim h
  | none=>exact False.elim h
 | range ty x=>exact False.elim h
 | _=>first | (cases j;done) | (cases A;done) | exact False.elim h
theorem Zb3 (hT:∀t i,look t tb=some i→TIok P t i)(B:isL tb o=true)(h:Kp P tb mo o t own V.n K)(s:Since own0 I0 V0 w0 own I V w)(ha:ARep N I V a t)(hd:∀i,o.dst=some i→i < N)(u:Nxt N own0 I0 V0 w0 K next):o.wp P a w next Q:=by
 obtain⟨dst,op,type,E,after,guard⟩:=o;cases op with
 | store ty x y=>exact Z6f hT u s ha hd rfl h
 | mapUpdate ty m k x=>exact False.elim h
 | insert ty m k x=>exact False.elim h
 | next x b =>
  cases b with
  | true=>exact False.elim h
  | false=>exact False.elim h
 | entry x=>exact False.elim h
 | call c =>
  obtain⟨callee,args,argTypes⟩:=c;cases callee with
  | builtin b =>
   cases b with
   | append =>
    obtain⟨args⟩:=args;obtain⟨argTypes⟩:=argTypes;unfold Kp at h;dsimp only at h;split at h
    ·next x y ty C =>
     split at h
     ·next e sz _ _ z j =>
      have z:=ai z;subst z;exact Z4q hT u s ha hd j rfl h
     ·next j =>
      split at h
      ·next p q =>
       have p:=ai p;subst p;exact Ph hT u s ha hd j rfl q rfl rfl h
      ·exact h.elim
     ·exact h.elim
    ·exact h.elim
   | copy =>
    obtain⟨args⟩:=args;obtain⟨argTypes⟩:=argTypes;unfold Kp at h;dsimp only at h;split at h
    ·next x y ty C =>
     split at h
     ·next j=>exact Zbt hT u s ha hd j rfl h
     ·exact h.elim
    ·exact h.elim
   | delete =>
    exact False.elim h
   | _=>cases B
  | value f=>exact Oz (fo:=f) rfl rfl s.has ha hd h fun t own' I' V' F w' D q _ A=>u _ _ _ _ _ _ D (s.trans q) A
  | _=>cases B
 | _=>cases B
theorem Z0k (hT:∀t i,look t tb=some i→TIok P t i)(s:vsB XL t o=true)(h:Kp P tb (.vs XL) o t own V.n K)(hH:Has I V own w)(hkX:∀k∈XL,k < V.n)(ha:ARep N I V a t)(hd:∀i,o.dst=some i→i < N)(hK:∀t own' I' V' O w',K t own' V'.n→Later own I V w own' I' V' w'→Agree V XL w w'→(∀k∈XL,∀b,V'.f k b→b < w.heap.size→∃k'∈XL,V.f k' b)→ARep N I' V' O t→next O w'):o.wp P a w next Q:=by
 obtain⟨dst,op,type,pos,after,guard⟩:=o;have Y:=s;unfold vsB at s;cases guard with
 | some g=>cases s
 | none =>
 cases op with
 | store ty x z =>
  cases x with
  | tmp d =>
   dsimp only at s;cases hl:look d t with
   | none=>rw[hl] at s;cases s
   | some g =>
    rw[hl] at s;cases g with
    | ptr k off =>
     dsimp only at s;have hm:=Cr.1 s;obtain⟨y,hy,X⟩:=ha.get d _ hl;obtain⟨hkn,rfl⟩:=Ch X;have he:a.eval (.tmp d)=.pointer (some ⟨V.b k,off,none⟩):=by simp[Act.eval,hy]
     unfold Kp at h;dsimp only at h;unfold ev at h;dsimp only at h;rw[hl] at h;dsimp only at h;obtain⟨u,p,hu⟩:=B8 (K:=fun u=>Gp own u fun cs=>match look ty tb with
      | some i=>Zha i.zero.length own cs (match look k own with
       | some (.blk cells F)=>ovr i.zero.length cells off cs fun C=>K (put dst .un t) ((k,.blk C F)::own) V.n
       | some (.lnk j)=>match true,look j own,cs with
        | false,some (.slc rows e 1),[c]=>Fc (off < rows.length∧Gx c=true) (K (put dst .un t) ((j,.slc (rows.set off [c]) e 1)::own) V.n)
        | _,_,_=>False
       | _=>False)
      | none=>False) h ha hH
     obtain⟨cs,p,hp,-⟩:=Hv p hu hH;obtain⟨ds,hds⟩:∃ds,(a.eval z).cells.toList=ds:=⟨_,rfl⟩;rw[hds] at hp;cases hty:look ty tb with
     | none=>rw[hty] at p;exact p.elim
     | some i =>
      rw[hty] at p;obtain⟨W,hcl0,hcn,hk2,-⟩:=Z4k p;clear p;cases hr:look k own with
      | none=>rw[hr] at hk2;exact hk2.elim
      | some r0 =>
       rw[hr] at hk2;cases r0 with
       | blk cells F =>
        obtain⟨us,k1,k2,-⟩:=N1 hH hr;obtain⟨C,k3,k4,k5⟩:=R5 hk2 k2 hp;have Z:=Z9k hH W hp;have hlen:ds.length=i.zero.length:=hp.1.symm.trans hcl0;have hdn:ds≠[]:=fun e=>by have:=hp.1;rw[e] at this;exact hcn (am (by simpa using this))
        have hrun:=Is (P:=P) (w:=w) (hT ty i hty).size hds hlen k1 (k5 hdn:off+ds.length≤us.length) Z;have B:=Db (w':=w.setRow (V.b k) _) (r:=.blk C F) hH hr rfl rfl rfl (by simp[World.setRow]) (fun b D=>setRow_other w _ b _ (fun e=>D (((hH.each k _ hr).1 b).2 e))) ⟨(hH.each k _ hr).1,_,setRow_heap w _ us.toArray _ F _ k1,k4⟩;unfold Oper.wp;have hex:(execOp a.eval (⟨dst,.store ty (.tmp d) z,type,pos,after,none⟩:Oper)).run P w=.ok .skip (w.setRow (V.b k) (List.take off us++ds++List.drop (off+ds.length) us).toArray):=by simp only[execOp,Sem.run_bind,he,hrun,Result.andThen_ok,Sem.run_pure]
        rw[hex];exact hK _ _ _ _ _ _ k3 B (fun b hlt hX=>setRow_other w _ b _ (fun e=>hX k hm (((hH.each k _ hr).1 b).2 e))) (fun k p b D _=>⟨k,p,D⟩) ((ha.mono B.fro.mono B.va).put hd (.of_v .un))
       | _=>exact hk2.elim
    | _=>cases s
  | _=>cases s
 | call cl =>
  cases E:cl.callee with
  | value f =>
   refine Oz (mo:=.vs XL) (K:=K) (fo:=f) rfl E hH ha hd ?_ fun t own' I' V' O w' p B hm J=>?_
   ·have h:=h;unfold Kp at h;dsimp only at h;rw[E] at h;exact h
   ·obtain⟨ks,m1,m2,m3,m4⟩:=hm rfl;have H:∀k∈ks,k∈XL:=fun k p=>Cr.1 (Ae (show B4 (fun k=>Gc k XL) ks=true from m1) k p);refine hK _ _ _ _ _ _ p B (fun b D hX=>m3 b D fun k p=>hX k (H k p)) (fun k p b D hlt=>?_) J;rcases m4 k (hkX k p) b D with W | ⟨-,⟨k',W,h2⟩ | W⟩
    ·exact⟨k,p,W⟩
    ·exact⟨k',H k' W,h2⟩
    ·omega
  | builtin bt =>
   obtain⟨callee,⟨args⟩,⟨argTypes⟩⟩:=cl;have E:callee=.builtin bt:=E;subst E;cases bt with
   | append =>
    dsimp only at s;unfold Kp at h;dsimp only at h;split at h
    ·next x y ty F =>
     cases x with
     | tmp d =>
      dsimp only at s;cases hl:look d t with
      | none=>rw[hl] at s;cases s
      | some g =>
       rw[hl] at s;obtain⟨z,hz,X⟩:=ha.get d _ hl;have X:TRep I V g (a.eval (.tmp d)):=by
        have:a.eval (.tmp d)=z:=by simp[Act.eval,hz]
        rw[this];exact X
       have hKV:∀t own' I' V' O w',K t own' V'.n→Later own I V w own' I' V' w'→Zdj V w w' g→V.kp V'→ARep N I' V' O t→next O w':=fun t own' I' V' O w' p B hf hkp J=>by
        refine hK _ _ _ _ _ _ p B (fun b D hX=>?_) (fun k p b D _=>⟨k,p,hkp k (hkX k p) b D⟩) J;cases g with
        | osl k=>exact hf b D (hX k (Cr.1 s))
        | nl=>exact hf b D
        | _=>cases s
       have evd:∀{K':G→Prop},ev t own (.tmp d) K'→K' g∨∃rows,K' (.sl rows):=fun {K'} h=>by
        unfold ev at h;dsimp only at h;rw[hl] at h;cases g with
        | osl k =>
         dsimp only at h;split at h
         ·exact .inr ⟨_,h⟩
         ·exact .inl h
        | nl=>exact .inl h
        | _=>cases s
       split at h
       ·next e sz _ _ D M =>
        have D:=ai D;subst D;rcases evd h with h | ⟨rows,h⟩
        ·exact Nt (g:=g) hT hH ha hd hKV M rfl X h
        ·obtain⟨q,hk2,hq⟩:=B8 h ha hH;obtain⟨new,A,c,rs,p,-⟩:=Wq hk2 hq hH;exact p.elim
       ·next M =>
        split at h
        ·next T B =>
         have T:=ai T;subst T;rcases evd h with h | ⟨rows,h⟩
         ·exact If (g:=g) hT hH ha hd hKV M rfl B rfl rfl X h
         ·obtain⟨q,hk2,hq⟩:=B8 h ha hH;unfold Zgw at hk2;split at hk2
          ·exact hk2.elim
          ·exact hk2.elim
        ·exact h.elim
       ·exact h.elim
     | _=>cases s
    ·exact h.elim
   | _=>cases s
  | _=>rw[show vsB XL t ⟨dst,.call cl,type,pos,after,none⟩=false from ?_] at Y<;>first | cases Y | (unfold vsB;dsimp only;rw[E])
 | _=>cases s
theorem Zdz (hT:∀t i,look t tb=some i→TIok P t i)(h:Kp P tb .row o t own V.n K)(b:Since own0 I0 V0 w0 own I V w)(ha:ARep N I V a t)(hd:∀i,o.dst=some i→i < N)(c:Nxt N own0 I0 V0 w0 K next):o.wp P a w next Q:=by
 cases hq:isQ tb o with
 | true=>exact(Xu (S:=fun u=>u=w) (mo:=.row) hT (fun k j=>by simp[Mo.xl] at j) (fun _ u s=>by subst s;exact fun _ _ _=>rfl) hq h b.has ha).wp rfl c b ha hd
 | false =>
  cases hl:isL tb o with
  | true=>exact Zb3 hT hl h b ha hd c
  | false =>
   cases hc:Z46 o with
   | false=>exact Zam hT (fun h=>by rw[hc] at h;cases h) hq hl h b.has ha hd (NxtB.of c b)
   | true =>
    obtain⟨dst,op,type,q,after,guard⟩:=o;cases op with
    | call cl =>
     obtain⟨callee,args,z⟩:=cl;cases callee with
     | value f=>exact Oz (fo:=f) rfl rfl b.has ha hd h fun t own' I' V' A w' j e _ p=>c _ _ _ _ _ _ j (b.trans e) p
     | _=>cases hc
    | _=>cases hc
end
section
variable {P:Program} {tb:List (Nat × TI)} {N n:Nat} {I I' I0:Imm} {V V' V0:Va} {a:Act} {t:Ts} {own own' own0:Os} {w w' w0:World} {g:G} {y:Value} {d:Option Tmp}
variable {K:Ts→Os→Nat→Prop} {next:Act→World→Prop} {Q:Exit→Act→World→Prop} {o:Oper} {ops:Array Oper} {rest:List Oper}
theorem ARep.redo (h:ARep N I V a t){i:Nat}{c:G}{x:Value}(q:a.tmps[i]?=some x)(p:TRep I V c x):ARep N I V a ((i,c)::t) :=
 ⟨h.defers,h.size,fun j g b=>by
  rw[A5] at b;split at b
  ·next e=>subst e;cases b;exact⟨x,q,p⟩
  ·exact h.get j g b⟩
theorem Gz {mo:Mo}(h:sxG P tb mo ops.toList o t own n K)(ha:ARep N I V a t) :
  ∃t',ARep N I V a t'∧((Region.wanted o (yielded ops a.tmps)=true∧Kp P tb mo o t' own n K)∨(Region.wanted o (yielded ops a.tmps)=false∧K (put o.dst .un t') own n)):=by
 unfold sxG at h;split at h
 ·next u=>exact⟨t,ha,.inl ⟨J7 u,h⟩⟩
 ·next j c u =>
  rw[Er,Array.getElem?_toList] at h;have q:Region.wanted o (yielded ops a.tmps)=(yielded ops a.tmps j==some c):=by unfold Region.wanted;rw[u]
  cases hd:(ops[j]?).bind (·.dst) with
  | none =>
   rw[hd] at h;exact⟨t,ha,.inr ⟨by rw[q];simp[yielded,hd],h⟩⟩
  | some d =>
   rw[hd] at h;dsimp only at h;have hy:∀{x},a.tmps[d]?=some x→yielded ops a.tmps j=match x with | .bool b=>some b | _=>none:=fun p=>by
    simp only[yielded,hd,Option.bind_some,p]
    rename_i x
    cases x<;>rfl
   cases hl:look d t with
   | none=>rw[hl] at h;exact h.elim
   | some g =>
    obtain⟨x,p,hr⟩:=ha.get d g hl;rw[hl] at h;cases g with
    | tt =>
     cases(show VRep I .tt x from hr);dsimp only at h;cases c with
     | true=>exact⟨t,ha,.inl ⟨by rw[q,hy p];rfl,h⟩⟩
     | false=>exact⟨t,ha,.inr ⟨by rw[q,hy p];rfl,h⟩⟩
    | ff =>
     cases(show VRep I .ff x from hr);dsimp only at h;cases c with
     | true=>exact⟨t,ha,.inr ⟨by rw[q,hy p];rfl,h⟩⟩
     | false=>exact⟨t,ha,.inl ⟨by rw[q,hy p];rfl,h⟩⟩
    | un =>
     cases(show VRep I .un x from hr);exact⟨t,ha,.inr ⟨by rw[q,hy p];cases c<;>rfl,h⟩⟩
    | v z =>
     have e:=B0 hr;subst e;cases x with
     | bool b =>
      dsimp only at h;cases c with
      | true =>
       obtain⟨A,s⟩:=h;cases b with
       | true=>exact⟨_,ha.redo p (.of_v .tt),.inl ⟨by rw[q,hy p];rfl,A rfl⟩⟩
       | false=>exact⟨_,ha.redo p (.of_v .ff),.inr ⟨by rw[q,hy p];rfl,s rfl⟩⟩
      | false =>
       obtain⟨A,s⟩:=h;cases b with
       | true=>exact⟨_,ha.redo p (.of_v .tt),.inr ⟨by rw[q,hy p];rfl,A rfl⟩⟩
       | false=>exact⟨_,ha.redo p (.of_v .ff),.inl ⟨by rw[q,hy p];rfl,s rfl⟩⟩
     | _=>exact h.elim
    | _=>exact h.elim
theorem Z4e (hT:∀t i,look t tb=some i→TIok P t i)(p:Nxt N own0 I0 V0 w0 K (fun a w=>Q .normal a w)):∀{rest:List Oper} {t:Ts} {own:Os} {I:Imm} {V:Va} {a:Act} {w:World},sxO P tb ops.toList rest t own V.n K→Since own0 I0 V0 w0 own I V w→ARep N I V a t→(∀o∈rest,∀i,o.dst=some i→i < N)→wpList P ops Q rest a w
 | [],t,own,I,V,a,w,h,hL,ha,_=>p _ _ _ _ _ _ h hL ha
 | o::rest,t,own,I,V,a,w,h,hL,ha,hd=>by
  have e:=hd o (by simp);have b:∀o∈rest,∀i,o.dst=some i→i < N:=fun o s=>hd o (by simp[s]);obtain⟨t',c,h⟩:=Gz h ha;rcases h with⟨j,h⟩ | ⟨j,h⟩
  ·unfold wpList;rw[dc j];exact .inl (Zdz hT h hL c e fun t own I V a w u z q=>Z4e hT p u z q b)
  ·unfold wpList;rw[db (by rw[j];exact Bool.false_ne_true)];exact Z4e hT p h hL (c.put e (.of_v .un)) b
theorem Ze0 (l:List Bool)(i:Nat):Zeg l i=l.toArray.getD i false:=by unfold Zeg;rw[Er];cases h:l[i]?<;>simp[h]
theorem J2 (l:List Bool)(i:Nat):(Yi l i).toArray=l.toArray.setIfInBounds i true:=by
 have:Yi l i=l.set i true:=by
  induction l generalizing i with
  | nil=>simp[Yi]
  | cons b l ih=>cases i<;>simp[Yi,ih]
 rw[this];simp
theorem Wi (l:List Bool)(p:List Edge):Hc l p=true↔∀e∈p,Region.binds .any e=true→l.toArray.getD e.on false=true:=by
 induction p with
 | nil=>simp[Hc]
 | cons e p ih =>
  unfold Hc;rw[Ze0];constructor
  ·intro h q b j;cases c:(!Region.binds .any e||l.toArray.getD e.on false) with
   | false=>rw[c] at h;cases h
   | true =>
    rw[c] at h;rcases bi.1 b with rfl | b
    ·rw[j,Bool.not_true,Bool.false_or] at c;exact c
    ·exact ih.1 h q b j
  ·intro h;have c:(!Region.binds .any e||l.toArray.getD e.on false)=true:=by
    cases hb:Region.binds .any e with
    | false=>rfl
    | true=>rw[h e (by simp) hb];rfl
   rw[c];exact ih.2 fun q b=>h q (by simp[b])
theorem Z0u (l:List Bool):∀(os:List Oper) (c:List Bool) (k i:Nat),i∈rdy l os c k↔∃j o,i=k+j∧os[j]?=some o∧c[j]?=some false∧Hc l o.after.toList=true
 | [],c,k,i=>by simp[rdy]
 | o::os,[],k,i=>by simp[rdy]
 | o::os,b::c,k,i=>by
  have p:=Z0u l os c (k+1) i;have key:(∃j h,i=k+j∧(o::os)[j]?=some h∧(b::c)[j]?=some false∧Hc l h.after.toList=true)↔((i=k∧b=false∧Hc l o.after.toList=true)∨∃j h,i=k+1+j∧os[j]?=some h∧c[j]?=some false∧Hc l h.after.toList=true):=by
   constructor
   ·rintro⟨j,h,e,h1,h2,h3⟩;cases j with
    | zero=>simp at h1 h2;subst h1 h2;exact .inl ⟨by omega,rfl,h3⟩
    | succ j=>exact .inr ⟨j,h,by omega,by simpa using h1,by simpa using h2,h3⟩
   ·rintro(⟨e,h1,h2⟩ | ⟨j,h,e,h1,h2,h3⟩)
    ·exact⟨0,o,by omega,by simp,by simp[h1],h2⟩
    ·exact⟨j+1,h,by omega,by simpa using h1,by simpa using h2,h3⟩
  rw[key,←p];show i∈(bif (!b&&Hc l o.after.toList) then k::rdy l os c (k+1) else rdy l os c (k+1))↔_;cases hb:b<;>cases he:Hc l o.after.toList<;>simp
theorem H0 {l:List Bool}(h:l.length=ops.size)(i:Nat):i∈Region.ready .any ops l.toArray↔i∈rdy l ops.toList l 0:=by
 rw[mem_ready,Z0u];constructor
 ·rintro⟨b,o,h2,h3⟩;have hi:=(bp.1 h2).1;refine⟨i,o,by omega,by simpa using h2,?_,(Wi l _).2 fun e c=>h3 e (by simpa using c)⟩;have:i < l.length:=by omega
  simp[this] at b;simp[this,b]
 ·rintro⟨j,o,e,b,h2,h3⟩;obtain rfl:i=j:=by omega
  exact⟨by simp[h2],o,by simpa using b,fun e c=>(Wi l _).1 h3 e (by simpa using c)⟩
theorem Ky {e:List Nat}{ops:List Oper}:∀{rs:List Nat} {i:Nat},Mi tb e ops rs=some i→i∈rs∧∃o,ops[i]?=some o∧isQ tb o=true
 | [],i,h=>by cases h
 | j::rs,i,h=>by
  unfold Mi at h;rw[Er] at h;cases ho:ops[j]? with
  | none =>
   rw[ho] at h;obtain⟨b,c⟩:=Ky h;exact⟨by simp[b],c⟩
  | some o =>
   rw[ho] at h;dsimp only at h;cases hq:(isQ tb o&&!Gc j e) with
   | true =>
    rw[hq] at h;cases h;rw[au] at hq;exact⟨by simp,o,ho,hq.1⟩
   | false =>
    rw[hq] at h;obtain⟨b,c⟩:=Ky h;exact⟨by simp[b],c⟩
theorem Kc {ops:List Oper}:∀{rs:List Nat} {i:Nat},Qy tb ops rs=some i→i∈rs∧∃o,ops[i]?=some o∧Zcv tb o=true
 | [],i,h=>by cases h
 | j::rs,i,h=>by
  unfold Qy at h;rw[Er] at h;cases ho:ops[j]? with
  | none =>
   rw[ho] at h;obtain⟨b,c⟩:=Kc h;exact⟨by simp[b],c⟩
  | some o =>
   rw[ho] at h;cases hq:Zcv tb o with
   | true=>dsimp only at h;rw[hq] at h;cases h;exact⟨by simp,o,ho,hq⟩
   | false =>
    dsimp only at h;rw[hq] at h;obtain⟨b,c⟩:=Kc h;exact⟨by simp[b],c⟩
theorem Z71 {ops:List Oper}{rs:List Nat}{i:Nat}(h:Zf8 tb ops rs=some i):i∈rs∧∃o,ops[i]?=some o∧Zcv tb o=true:=by
 unfold Zf8 at h;split at h
 ·exact Kc h
 ·cases h
def Mb (tb:List (Nat × TI))(b:List Nat)(ops:Array Oper)(late:List Nat):Nat→List Bool→Bool
 | 0,l=>(rdy l ops.toList l 0).isEmpty
 | fuel+1,l=>match Mi tb b ops.toList (rdy l ops.toList l 0) with
  | some i=>Region.free .any ops l.toArray i&&(match nth ops.toList i with | some o=>!isR tb o||Zgy .any ops late i | none=>false)&&Mb tb b ops late fuel (Yi l i)
  | none=>match Zf8 tb ops.toList (rdy l ops.toList l 0) with
   | some i=>Region.free .any ops l.toArray i&&Mb tb b ops late fuel (Yi l i)
   | none=>(rdy l ops.toList l 0).all fun i=>Mb tb b ops late fuel (Yi l i)
theorem Rk {f:Nat→Prop}:∀{l:List Nat},Zhb f l→∀i∈l,f i
 | [],_,i,hi=>by cases hi
 | [j],h,i,hi=>by rw[bo.1 hi];exact h
 | j::k::l,h,i,hi=>by
  rcases bi.1 hi with rfl | hi
  ·exact h.1
  ·exact Rk (l:=k::l) h.2 i hi
theorem Co (V:Va)(XL:List Nat)(w:World):Agree V XL w w:=fun _ _ _=>rfl
theorem D3 (V:Va)(XL:List Nat)(w:World):Zfj (Agree V XL w):=fun u _ s j b c p=>by
 have e:=s b c p;have q:b < u.heap.size:=by
  rcases Nat.lt_or_ge b u.heap.size with h | h
  ·exact h
  ·rw[Array.getElem?_eq_none h,Array.getElem?_eq_getElem c] at e;cases e
 rw[j.block b q];exact e
theorem Z44 {I:Imm}:∀{l:List G} {cs b:List Value},Z04 l=some cs→l.length=b.length→(∀(j:Nat) g u,l[j]?=some g→b[j]?=some u→VRep I g u)→b=cs
 | [],cs,b,h,hl,_=>by cases h;exact am hl.symm
 | g::l,cs,b,h,hl,hu=>by
  cases b with
  | nil=>simp at hl
  | cons u b =>
   cases g with
   | v x =>
    unfold Z04 at h;cases hc:Z04 l with
    | none=>rw[hc] at h;cases h
    | some cs' =>
     rw[hc] at h;cases h;have p:=hu 0 _ _ rfl rfl;have q:=Z44 hc (by simpa using hl) fun j g u e c=>hu (j+1) g u (by simpa using e) (by simpa using c);cases p;rw[q]
   | _=>cases h
theorem Wh:∀{l:List G} {cs:List Value},Z04 l=some cs→l.length=cs.length∧∀(I:Imm) (j:Nat) g u,l[j]?=some g→cs[j]?=some u→VRep I g u
 | [],cs,h=>by cases h;exact⟨rfl,fun I j g u b=>by simp at b⟩
 | g::l,cs,h=>by
  cases g with
  | v x =>
   unfold Z04 at h;cases hc:Z04 l with
   | none=>rw[hc] at h;cases h
   | some cs' =>
    rw[hc] at h;cases h;obtain⟨p,e⟩:=Wh hc;refine⟨by simp[p],fun I j g u b c=>?_⟩;cases j with
    | zero=>simp at b c;subst b c;exact .v _
    | succ j=>exact e I j g u (by simpa using b) (by simpa using c)
  | _=>cases h
theorem Uh {I:Imm}{g:G}{x y:Value}(h:Z9z g=some x)(hy:VRep I g y):y=x:=by
 cases hy with
 | v z=>cases h;rfl
 | agg l cs hl hh =>
  have h:(match Z04 l with | some cs=>some (Value.agg cs.toArray) | none=>none)=some x:=h;cases hc:Z04 l with
  | none=>rw[hc] at h;cases h
  | some cs'=>rw[hc] at h;cases h;rw[Z44 hc hl hh]
 | _=>cases h
theorem X9 {g:G}{x:Value}(h:Z9z g=some x)(I:Imm):VRep I g x:=by
 cases g with
 | v z=>cases h;exact .v _
 | agg l =>
  have h:(match Z04 l with | some cs=>some (Value.agg cs.toArray) | none=>none)=some x:=h;cases hc:Z04 l with
  | none=>rw[hc] at h;cases h
  | some cs=>rw[hc] at h;cases h;obtain⟨b,c⟩:=Wh hc;exact .agg _ _ b (c I)
 | _=>cases h
theorem Z85 {g:G}{x y:Value}(h:Z9z (Z61 g)=some x)(b:TRep I V g y):y=x:=by
 cases g with
 | tt=>cases(show VRep I .tt y from b);cases h;rfl
 | ff=>cases(show VRep I .ff y from b);cases h;rfl
 | nl=>cases h
 | v z=>exact Uh h (show VRep I (.v z) y from b)
 | agg l=>exact Uh h (show VRep I (.agg l) y from b)
 | _=>cases h
theorem Z5c (ha:ARep N I V a t)(hH:Has I V own w):∀{l:List Operand} {K:List G→Prop},Zka t own l K→∃c,K c∧c.length=(l.map a.eval).length∧∀(I':Imm) (j:Nat) g u,c[j]?=some g→(l.map a.eval)[j]?=some u→VRep I' g u
 | [],K,h=>⟨[],h,rfl,fun I' j g u p=>by simp at p⟩
 | x::l,K,h=>by
  obtain⟨g,h,p⟩:=B8 h ha hH;cases hc:Z9z (Z61 g) with
  | none=>rw[hc] at h;exact h.elim
  | some z =>
   rw[hc] at h;obtain⟨c,B,s,A⟩:=Z5c (K:=fun c=>K (Z61 g::c)) ha hH (l:=l) h;have e:=Z85 hc p;refine⟨Z61 g::c,B,by simpa using s,fun I' j C u b q=>?_⟩;cases j with
   | zero=>simp at b q;subst b q;rw[e];exact X9 hc I'
   | succ j=>exact A I' j C u (by simpa using b) (by simpa using q)
theorem Z64 {ops:Array Oper}{K:Ts→Prop}(p:Zcv tb o=true)(ha:ARep N I V a t)(hH:Has I V own w)(h:Zdl P o t own K):∃g x,CallsTo P ops o x a∧Z9z g=some x∧K (put o.dst g t):=by
 unfold Zdl at h;split at h
 case h_2=>exact h.elim
 next c X =>
 split at h
 case h_2=>exact h.elim
 next f hf =>
 obtain⟨D,⟨g,x,B,E,M⟩,F,T⟩:=Z5c (K:=fun D=>Ze4 P f D fun g=>K (put o.dst g t)) ha hH h;have A:o.guard=none:=by
  unfold Zcv at p;split at p
  ·next A _=>exact A
  ·cases p
 refine⟨g,x,⟨J7 A,f,(c.args.toList.map a.eval).toArray,fun u=>?_,fun u=>?_⟩,B,M⟩
 ·have z:a.eval (.func f)=.func (.func f) #[] #[]:=rfl;have e:∀l:Array Operand,(l.toList.map a.eval).toArray=l.map a.eval:=fun l=>by cases l;simp
  obtain⟨callee,args,C⟩:=c;have hf:callee=.value (.func f):=hf;subst hf;have H:∀ty,(do let d ←resolve a.eval ⟨.value (.func f),args,C⟩ ty;invoke d.target d.args:Sem Next).run P u=(callFunc f (args.toList.map a.eval).toArray).run P u:=fun ty=>by simp[resolve,Deferred.ofValue,z,invoke,e]
  have W:=(H o.type).trans (Ry E.1 u _);simpa only[execOp,X] using W
 ·refine(E.2 (fun _ _=>none) u _ (fun b o x h=>by cases h) ⟨F,fun j O J a1 a2=>T _ j O J a1 a2⟩).mono fun e w' ⟨y,q,I',e1,s,e3,e4,_,_,e7⟩=>?_;have s:q=g:=s;rw[s] at e4;have:y=x:=by
   cases g with
   | tup l=>cases B
   | _=>exact Uh B e4
  rw[e1,this];exact⟨rfl,e7⟩
theorem Ki {α:Type}(l:List Bool)(i:Nat)(K:List Bool→α):O7 l i K=K (Yi l i):=by
 induction l generalizing i K with
 | nil=>rfl
 | cons b l ih=>cases i<;>simp[O7,Yi,ih]
theorem Z18 (k:Nat):∀(r:List Nat) (K:List Nat→Prop),I9 k r K→∃r',K r'
 | [],_,h=>⟨_,h⟩
 | j::l,K,h=>by
  unfold I9 at h;split at h
  ·exact⟨_,h⟩
  ·obtain⟨r',h⟩:=Z18 k l _ h;exact⟨_,h⟩
theorem Z1h:∀(l:List Oper) (r:List Nat) (K:List Nat→Prop),Zfa l r K→∃r',K r'
 | [],_,_,h=>⟨_,h⟩
 | o::l,r,K,h=>by
  unfold Zfa at h;split at h
  ·obtain⟨r',h⟩:=Z18 _ _ _ h;exact Z1h l r' K h
  ·exact Z1h l r K h
theorem Z32:∀(l:Ts) (r:List Nat) (K:List Nat→Prop),Zbb l r K→∃r',K r'
 | [],_,_,h=>⟨_,h⟩
 | (i,g)::l,r,K,h=>by obtain⟨r',h⟩:=Z18 _ _ _ h;exact Z32 l r' K h
theorem O5 {α:Type}{i j:Nat}{g x:α}{r:List (Nat × α)}(h:look i ((j,g)::r)=some x):i=j∧g=x∨look i r=some x:=by
 unfold look at h;cases hb:Nat.beq i j with
 | true=>rw[hb] at h;exact .inl ⟨ai hb,cj h⟩
 | false=>rw[hb] at h;exact .inr h
theorem Ud (t:Ts):∀(l:List Nat) (b:Ts) (K:Ts→Prop),(∀i g,look i b=some g→look i t=some g)→Z5f t l b K→∃t',(∀i g,look i t'=some g→look i t=some g)∧K t'
 | [],_,_,ha,h=>⟨_,ha,h⟩
 | i::l,b,K,ha,h=>by
  unfold Z5f at h;split at h
  ·next g e =>
   refine Ud t l _ K (fun j x c=>?_) h;rcases O5 c with⟨rfl,rfl⟩ | c
   ·exact e
   ·exact ha _ _ c
  ·exact Ud t l b K ha h
theorem Tr (w:Os):∀(n:Nat) (b:Os) (K:Os→Prop),(∀i g,look i b=some g→look i w=some g)→Z99 w n b K→∃w',(∀i g,look i w'=some g→look i w=some g)∧K w'
 | 0,_,_,ha,h=>⟨_,ha,h⟩
 | n+1,b,K,ha,h=>by
  have h:(match look n w with
   | some r=>Z99 w n ((n,r)::b) K
   | none=>Z99 w n b K):=h
  split at h
  ·next g e =>
   refine Tr w n _ K (fun j x c=>?_) h;rcases O5 c with⟨rfl,rfl⟩ | c
   ·exact e
   ·exact ha _ _ c
  ·exact Tr w n b K ha h
theorem Since.sub (h:Since own0 I0 V0 w0 own I V w)(c:∀k r,look k own'=some r→look k own=some r):Since own0 I0 V0 w0 own' I V w :=
 ⟨⟨h.has.mem,fun k r e=>h.has.num k r (c k r e),fun k r e=>h.has.each k r (c k r e),fun k r b e=>h.has.foot k r b (c k r e),fun k k' r r' b e j=>h.has.disj k k' r r' b (c k r e) (c k' r' j)⟩,
  ⟨h.fro.os,h.fro.tape,h.fro.output,h.fro.size,h.fro.blk,h.fro.mono,fun k r b e=>h.fro.foot k r b (c k r e)⟩,h.n,h.bb,h.ss⟩
theorem Zkh {next:Act→World→Prop}{s:List Oper}{K:Ts→Os→Nat→Prop}{c:(Ts→Os→Nat→Prop)→Prop}(e:Nxt N own0 I0 V0 w0 K next):∀{rs:List Nat},brK s t K c rs→∃j,Nxt N own0 I0 V0 w0 j next∧c j
 | [],h=>⟨K,e,h⟩
 | [_],h=>⟨K,e,h⟩
 | _::_::_,h=>by obtain⟨L,h⟩:=Z1h _ _ _ h;obtain⟨L,h⟩:=Z32 _ _ _ h;refine⟨_,fun t own I V a w b u ha=>?_,h⟩;obtain⟨t',q,b⟩:=Ud t L [] _ (fun i g h=>by cases h) b;obtain⟨w',p,b⟩:=Tr own V.n [] _ (fun i g h=>by cases h) b;exact e _ _ _ _ _ _ b (u.sub p) (ha.sub q)
theorem Oe {u:World}(h:Has I V own w)(c:Below w.heap.size w u):Later own I V w own I V u :=
 ⟨h.below c,⟨c.os,c.tape,c.output,c.size,fun b e _=>⟨c.block b e,fun _=>rfl⟩,fun _ _ _ h=>h,fun k r _ j hf _=>⟨k,r,j,hf⟩⟩,.refl _⟩
theorem Xc {XL O late:List Nat}(hT:∀t i,look t tb=some i→TIok P t i)(hQ:∀c d v a w,Q (.panic c) (a.put d v) w→Q (.panic c) a w)(E:Region.noSelect ops=true)(hd:∀o∈ops.toList,∀i,o.dst=some i→i < N) :
  ∀{K:Ts→Os→Nat→Prop} (_:Nxt N own0 I0 V0 w0 K (fun a w=>Q .normal a w)) {fu:List Oper} {l:List Bool} {t:Ts} {own:Os} {I:Imm} {V:Va} {a:Act} {w:World},l.length=ops.size→Fn .any ops l.toArray→Mb tb O ops late fu.length l=true→sxD P tb XL O late ops.toList fu l t own V.n K→Since own0 I0 V0 w0 own I V w→ARep N I V a t→(∀k∈XL,k < V.n)→wpAnyG P .any ops Q late fu.length (Agree V XL w) l.toArray a w
 | K,hK,[],l,t,own,I,V,a,w,hl,hc,hok,h,hL,ha,hkX=>by intro u W;refine⟨?_,hK _ _ _ _ _ _ h (hL.trans (Oe hL.has W)) ha⟩;rw[List.length_nil] at hok;unfold Mb at hok;refine List.eq_nil_iff_forall_not_mem.2 fun i hi=>?_;rw[H0 hl,List.isEmpty_iff.1 hok] at hi;cases hi
 | K,hK,o0::fu,l,t,own,I,V,a,w,hl,hc,hok,h,hL,ha,hkX=>by
  rw[bd] at hok;show wpAnyG P .any ops Q late (fu.length+1) (Agree V XL w) l.toArray a w;have hl':∀i,(Yi l i).length=ops.size:=fun i=>by have:=congrArg Array.size (J2 l i);simp at this;omega
  unfold Mb at hok;have h:Zjb P tb XL O late ops.toList o0 fu (sxD P tb XL O late ops.toList fu) l t own V.n K:=h;unfold Zjb at h;cases hf:Mi tb O ops.toList (rdy l ops.toList l 0) with
  | some i =>
   rw[hf] at h hok;dsimp only at h hok;simp only[Bool.and_eq_true] at hok;obtain⟨⟨k1,k2⟩,k3⟩:=hok;obtain⟨hi,o,Z,hq⟩:=Ky hf;rw[Er,Z] at h k2;dsimp only at h k2;cases hvb:Zgb own XL with
   | false=>rw[hvb] at h;exact h.elim
   | true =>
   rw[hvb] at h;dsimp only at h;have hXL:∀k∈(Mo.quiet XL).xl,∃r,look k own=some r:=fun k e=>by
    have:=Ae hvb k e;split at this
    ·next r hr=>exact⟨r,hr⟩
    ·cases this
   have D:ops[i]?=some o:=by simpa using Z
   have hr:=(H0 hl i).2 hi;have C:=hd o (ae Z);have X:=Dn hc hr;obtain⟨t',p,h⟩:=Gz h ha;have rest:∀{v g},TRep I V g v→(O7 l i fun l=>sxD P tb XL O late ops.toList fu l (put o.dst g t') own V.n K)→wpAnyG P .any ops Q late fu.length (Agree V XL w) (l.toArray.setIfInBounds i true) (a.put o.dst v) w:=fun hg e=>by rw[←J2];rw[Ki] at e;exact Xc hT hQ E hd hK (hl' i) (by rw[J2];exact X) k3 e hL (p.put C hg) hkX
   have finP:∀(v:Value) (g:G),YieldsIf P ops (fun _=>True) o v a→TRep I V g v→(O7 l i fun l=>sxD P tb XL O late ops.toList fu l (put o.dst g t') own V.n K)→wpAnyG P .any ops Q late (fu.length+1) (Agree V XL w) l.toArray a w:=fun v g hy hg e =>
    Qj D (Region.noSelect_spec E) (fun c a w=>hQ c _ _ a w) fu.length _ l.toArray a w hc (Region.free_spec D k1) hr hy (Co _ _ _) (D3 _ _ _) (rest hg e)
   rcases h with⟨J,h⟩ | ⟨J,h⟩
   ·cases hR:isR tb o with
    | false =>
     obtain⟨g,y,e,hy,H⟩:=Xu (S:=fun _=>True) (mo:=.quiet XL) hT hXL (fun h=>by rw[hR] at h;cases h) hq h hL.has p;exact finP y g (Zab J fun u _=>H u trivial) hy e
    | true =>
     obtain⟨g,y,e,hy,H⟩:=Xu (S:=Agree V XL w) (mo:=.quiet XL) hT hXL (fun _ u W=>W) hq h hL.has p;rw[hR] at k2;exact Sw D (Region.noSelect_spec E) (fun c a w=>hQ c _ _ a w) (fun j hj=>List.all_eq_true.1 k2 j hj) fu.length _ l.toArray a w hc (Region.free_spec D k1) hr (Zab J fun u W=>H u W) (Co _ _ _) (D3 _ _ _) (rest hy e)
   ·exact finP undef .un (Zbx J) (.of_v .un) h
  | none =>
   rw[hf] at h hok;dsimp only at h hok;cases hcs:Zf8 tb ops.toList (rdy l ops.toList l 0) with
   | some i =>
    rw[hcs] at h hok;dsimp only at h hok;simp only[Bool.and_eq_true] at hok;obtain⟨k1,k3⟩:=hok;obtain⟨hi,o,Z,hq⟩:=Z71 hcs;rw[Er,Z] at h;dsimp only at h;have D:ops[i]?=some o:=by simpa using Z
    have hr:=(H0 hl i).2 hi;have C:=hd o (ae Z);have X:=Dn hc hr;obtain⟨g,x,hcl,hcv,e⟩:=Z64 (ops:=ops) hq ha hL.has h;refine P8 D (Region.noSelect_spec E) (fun c a w=>hQ c _ _ a w) fu.length _ l.toArray a w hc (Region.free_spec D k1) hr hcl (Co _ _ _) (D3 _ _ _) ?_;rw[←J2];rw[Ki] at e;exact Xc hT hQ E hd hK (hl' i) (by rw[J2];exact X) k3 e hL (ha.put C (.of_v (X9 hcv I))) hkX
   | none =>
   rw[hcs] at h hok;dsimp only at h hok;intro B W;have hS0:∀v,Agree V XL B v→Agree V XL w v:=fun v hv b hb hX=>(hv b (aq hb W.size) hX).trans (W.block b hb);replace hL:=hL.trans (Oe hL.has W);refine⟨fun h0=>?_,fun i hi=>?_⟩
   ·have:rdy l ops.toList l 0=[]:=List.eq_nil_iff_forall_not_mem.2 fun i hi=>by
     rw[←H0 hl,h0] at hi;cases hi
    rw[this] at h;exact hK _ _ _ _ _ _ h hL ha
   ·have Y:=(H0 hl i).1 hi;have hk3:=List.all_eq_true.1 hok i Y;have X:=Dn hc hi;obtain⟨-,o,D,-⟩:=mem_ready.1 hi;have Z:ops.toList[i]?=some o:=by simpa using D
    have C:=hd o (ae Z);obtain⟨K,hK,h⟩:=(by
     cases hr:rdy l ops.toList l 0 with
     | nil=>rw[hr] at Y;cases Y
     | cons j rs=>rw[hr] at h Y;obtain⟨K',hK',h⟩:=Zkh hK h;exact⟨K',hK',Rk h i Y⟩:∃K,Nxt N own0 I0 V0 w0 K (fun a B=>Q .normal a B)∧match nth ops.toList i with
      | some o=>match isL tb o with
       | false=>sxG P tb .new ops.toList o t own V.n fun t B n=>O7 l i fun l=>sxD P tb XL O late ops.toList fu l t B n K
       | true=>match Gc i late with
        | true=>sxG P tb .late ops.toList o t own V.n fun t B n=>O7 l i fun l=>sxD P tb XL O late ops.toList fu l t B n K
        | false=>match vsG XL t o,Zgb own XL with
         | true,true=>sxG P tb (.vs XL) ops.toList o t own V.n fun t B n=>O7 l i fun l=>sxD P tb XL O late ops.toList fu l t B n K
         | _,_=>False
      | none=>False)
    rw[Er,Z] at h;dsimp only at h;have z:∀{t own' I' V' a' M},(O7 l i fun l=>sxD P tb XL O late ops.toList fu l t own' V'.n K)→Since own I V B own' I' V' M→ARep N I' V' a' t→Fn .any ops (l.toArray.setIfInBounds i true)→wpAnyG P .any ops Q late fu.length (Agree V' XL M) (l.toArray.setIfInBounds i true) a' M:=fun e q F A=>by rw[←J2];rw[Ki] at e;exact Xc hT hQ E hd hK (hl' i) (by rw[J2];exact X) hk3 e (hL.tail q) F (fun k e=>aq (hkX k e) q.n)
    have sub:∀{own' I' V' M},Later own I V B own' I' V' M→Agree V XL B M→(∀k∈XL,∀b,V'.f k b→b < B.heap.size→∃k'∈XL,V.f k' b)→∀u,Agree V' XL M u→Agree V XL w u:=fun q hA hf u W=>hS0 u fun b hb hX=>by
     rw[←hA b hb hX];exact W b (aq hb q.fro.size) fun k e hfb=>by obtain⟨k',h1,h2⟩:=hf k e b hfb hb;exact hX k' h1 h2
    refine wpOp_step D fun K1 T=>?_;have skip:∀{t'},ARep N I V a t'→(O7 l i fun l=>sxD P tb XL O late ops.toList fu l (put o.dst .un t') own V.n K)→K1 (a.put o.dst undef) B:=fun p h=>T _ _ ⟨_,fun _=>hS0,Co _ _ _,D3 _ _ _,fun A=>z h (Later.refl hL.has).since (p.put C (.of_v .un)) A⟩;cases hli:isL tb o with
    | false =>
     rw[hli] at h;dsimp only at h;obtain⟨t',p,h⟩:=Gz h ha;rcases h with⟨J,h⟩ | ⟨J,h⟩
     ·rw[dc J];cases hq:isQ tb o with
      | true =>
       obtain⟨g,y,e,hy,H⟩:=Xu (S:=fun u=>u=B) (mo:=.new) hT (fun k e=>by cases e) (fun _ u W=>by rw[W];exact Co _ _ _) hq h hL.has p;have hop:∀{Q2:Act→World→Prop},Q2 (a.put o.dst y) B→o.wp P a B Q2 Q:=fun {Q2} h2=>by unfold Oper.wp;rw[H B rfl];exact h2
       exact hop (T _ _ ⟨_,fun _=>hS0,Co _ _ _,D3 _ _ _,fun A=>z e (Later.refl hL.has).since (p.put C hy) A⟩)
      | false =>
      exact Zam (mo:=.new) hT (fun _=>rfl) hq hli h hL.has p C fun t own I V a w1 e q hb hkp F=>T _ _ ⟨_,fun _=>sub q (fun b hb' _=>hb.block b hb') (fun k e b hf _=>⟨k,e,hkp k (hkX k e) b hf⟩),Co _ _ _,D3 _ _ _,fun A=>z e q.since F A⟩
     ·rw[db (by rw[J];exact Bool.false_ne_true)];exact skip p h
    | true =>
     rw[hli] at h;dsimp only at h;cases hm:Gc i late with
     | true =>
      rw[hm] at h;dsimp only at h;obtain⟨t',p,h⟩:=Gz h ha;rcases h with⟨J,h⟩ | ⟨J,h⟩
      ·rw[dc J];exact Zb3 (mo:=.late) (own0:=own) (I0:=I) (V0:=V) (w0:=B) hT hli h (Later.refl hL.has).since p C fun t own I V a w1 e q F=>T _ _ ⟨_,fun hn=>de (Cr.1 hm) hn,Co _ _ _,D3 _ _ _,fun A=>z e q F A⟩
      ·rw[db (by rw[J];exact Bool.false_ne_true)];exact skip p h
     | false =>
      rw[hm] at h;dsimp only at h;cases s:vsG XL t o with
      | false=>rw[s] at h;exact h.elim
      | true =>
       cases hvb:Zgb own XL with
       | false=>rw[s,hvb] at h;exact h.elim
       | true =>
       rw[s,hvb] at h;cases hgn:o.guard with
       | none =>
        have s:vsB XL t o=true:=by unfold vsG at s;rw[hgn] at s;exact s
        dsimp only at h;unfold sxG at h;rw[hgn] at h;rw[dc (J7 hgn)];exact Z0k hT s h hL.has hkX ha C fun t own I V a w1 e q hA hf F=>T _ _ ⟨_,fun _=>sub q hA hf,Co _ _ _,D3 _ _ _,fun A=>z e q.since F A⟩
       | some gd =>
        dsimp only at h;obtain⟨t',p,h⟩:=Gz h ha;rcases h with⟨J,h⟩ | ⟨J,h⟩
        ·rw[dc J];have hvs2:vsB XL t' {o with guard:=none}=true:=by
          unfold vsG at s;rw[hgn] at s;obtain⟨dst,op,type,pos,after,guard⟩:=o;cases op with
          | call cl =>
           dsimp only at s;cases hce:cl.callee with
           | value f=>unfold vsB;dsimp only;rw[hce]
           | _=>rw[hce] at s;cases s
          | _=>cases s
         have h2:Kp P tb (.vs XL) {o with guard:=none} t' own V.n fun t B n=>O7 l i fun l=>sxD P tb XL O late ops.toList fu l t B n K:=by obtain⟨dst,op,type,pos,after,guard⟩:=o;exact h
         have key:=Z0k (o:={o with guard:=none}) (Q:=Q) (K:=fun t B n=>O7 l i fun l=>sxD P tb XL O late ops.toList fu l t B n K) hT hvs2 h2 hL.has hkX p C fun t own I V a w1 e q hA hf F=>T _ _ ⟨_,fun _=>sub q hA hf,Co _ _ _,D3 _ _ _,fun A=>z e q.since F A⟩;exact key
        ·rw[db (by rw[J];exact Bool.false_ne_true)];exact skip p h
end
def Zlw (N:Nat)(l:List Oper):Bool:=l.all fun o=>match o.dst with | some i=>Nat.blt i N | none=>true
def Gs (tb:List (Nat × TI))(N:Nat):Code→Bool
 | .region _ ops d=>Zlw N ops.toList&&(match d with | true=>Region.noSelect ops&&Zan tb ops.toList ops.toList 0 fun c=>Nk tb c ops.toList ops.toList 0 fun late=>Mb tb c ops late ops.toList.length (noB ops.toList) | false=>true)
 | .seq a b | .cond _ a b=>Gs tb N a&&Gs tb N b
 | .block _ a | .loop a | .scope a=>Gs tb N a
 | _=>true
def Ex.to:Ex→Exit
 | .normal=>.normal
 | .exit id=>.exit id
 | .ret=>.ret
 | .goto l=>.goto l
def Va.renS (V:Va)(m:List (Nat × Nat))(n:Nat):Va:=⟨n,V.b,fun k=>V.s (Go.Proofs.YtihfaocdpmmooaaGreat.ren m k),fun k=>V.f (Go.Proofs.YtihfaocdpmmooaaGreat.ren m k)⟩
section
variable {P:Program} {tb:List (Nat × TI)} {N n:Nat} {I I' I0:Imm} {V V' V0:Va} {a:Act} {t t':Ts} {own own' own0:Os} {w w' w0:World} {g:G} {x y:Value} {d:Option Tmp} {m:List (Nat × Nat)} {r:R}
theorem Cn (b:Sz n g=true)(h:CRep I V (Lb m g) x):CRep I (V.renS m n) g x:=by
 cases g with
 | orv k i s o l c=>cases s<;>exact h.elim
 | ptr k o=>exact⟨aq (da b) (af _),h.2⟩
 | osl k=>exact⟨aq (da b) (af _),h.2⟩
 | osv k sz lo hi=>exact⟨aq (da b) (af _),h.2⟩
 | mp k=>exact⟨aq (da b) (af _),h.2⟩
 | oel k i s o=>exact h
 | _=>exact h
theorem Ov {cs:List G}{c:List Value}(p:B4 (Sz n) cs=true)(h:PW (CRep I V) (cs.map (Lb m)) c):PW (CRep I (V.renS m n)) cs c :=
 ⟨by have:=h.1;simpa using this,fun j g u b e=>Cn (Ae p g (ae b)) (h.2 j _ u (by rw[aj,b];rfl) e)⟩
theorem B5 (j:Zbh n g=true)(h:TRep1 I V (Tc m g) x):TRep1 I (V.renS m n) g x:=by
 cases g with
 | oag l =>
  obtain⟨cs,e,E⟩:=(show ∃cs:List Value,x=.agg cs.toArray∧PW (CRep I V) (l.map (Lb m)) cs from h);exact⟨cs,e,Ov j E⟩
 | clo f a c =>
  obtain⟨⟨g,A,D⟩,F,cs,e,C,u⟩:=(show(∃g,(g∈a.map (Lb m)∨g∈c.map (Lb m))∧C2 g=false)∧_ from h);have j:(match B4 (Sz n) a with | true=>B4 (Sz n) c | false=>false)=true:=j;split at j
  ·next ha =>
   have B:∀{g:G},C2 (Lb m g)=false→C2 g=false:=fun {g} h=>by cases g<;>first | rfl | exact h | (next sz _ _ _=>cases sz<;>rfl)
   refine⟨?_,F,cs,e,Ov ha C,Ov j u⟩;rcases A with A | A
   ·obtain⟨g0,p,rfl⟩:=ba.1 A;exact⟨g0,.inl p,B D⟩
   ·obtain⟨g0,p,rfl⟩:=ba.1 A;exact⟨g0,.inr p,B D⟩
  ·cases j
 | oel k i s o =>
  obtain⟨C,u⟩:=(show _∧_ from h);exact⟨aq (da j) (af _),u⟩
 | orv k i s o l c =>
  cases s with
  | zero =>
   obtain⟨C,b,q,u,p⟩:=(show _∧∃b q,_∧_ from h);exact⟨aq (da j) (af _),b,q,u,p⟩
  | succ s =>
   obtain⟨C,b,q,u,p⟩:=(show _∧∃b q,_∧_ from h);exact⟨aq (da j) (af _),b,q,u,p⟩
 | elp row o=>exact h
 | tup l=>cases j
 | ptr k o=>exact .of_c (Cn (g:=.ptr k o) j h)
 | osl k=>exact .of_c (Cn (g:=.osl k) j h)
 | osv k sz lo hi=>exact .of_c (Cn (g:=.osv k sz lo hi) j h)
 | mp k=>exact .of_c (Cn (g:=.mp k) j h)
 | v z=>exact .of_c (Cn (m:=m) (V:=V) (g:=.v z) rfl h)
 | tt=>exact .of_c (Cn (m:=m) (V:=V) (g:=.tt) rfl h)
 | ff=>exact .of_c (Cn (m:=m) (V:=V) (g:=.ff) rfl h)
 | un=>exact .of_c (Cn (m:=m) (V:=V) (g:=.un) rfl h)
 | nl=>exact .of_c (Cn (m:=m) (V:=V) (g:=.nl) rfl h)
 | agg l=>exact .of_c (Cn (m:=m) (V:=V) (g:=.agg l) rfl h)
 | sl l=>exact .of_c (Cn (m:=m) (V:=V) (g:=.sl l) rfl h)
theorem Z4f (p:Z7y n g=true)(h:TRep I V (renS m g) x):TRep I (V.renS m n) g x:=by
 cases g with
 | tup l =>
  obtain⟨cs,e,A⟩:=(show ∃cs:List Value,x=.tuple cs.toArray∧PW (TRep1 I V) (l.map (Tc m)) cs from h);exact⟨cs,e,by simpa using A.1,fun j g u q B=>B5 (Ae (show B4 (Zbh n) l=true from p) g (ae q)) (A.2 j _ u (by rw[aj,q];rfl) B)⟩
 | oag l=>exact .of_1 (B5 (g:=.oag l) p h)
 | clo f a c=>exact .of_1 (B5 (g:=.clo f a c) p h)
 | oel k i s o=>exact .of_1 (B5 (g:=.oel k i s o) p h)
 | orv k i s o l c=>cases s<;>exact .of_1 (B5 p h)
 | elp row o=>exact .of_1 (g:=.elp row o) h
 | ptr k o=>exact .of_1 (B5 (g:=.ptr k o) p h)
 | osl k=>exact .of_1 (B5 (g:=.osl k) p h)
 | osv k a b c=>exact .of_1 (B5 (g:=.osv k a b c) p h)
 | mp k=>exact .of_1 (B5 (g:=.mp k) p h)
 | v z=>exact .of_1 (B5 (m:=m) (V:=V) (g:=.v z) rfl h)
 | tt=>exact .of_1 (B5 (m:=m) (V:=V) (g:=.tt) rfl h)
 | ff=>exact .of_1 (B5 (m:=m) (V:=V) (g:=.ff) rfl h)
 | un=>exact .of_1 (B5 (m:=m) (V:=V) (g:=.un) rfl h)
 | nl=>exact .of_1 (B5 (m:=m) (V:=V) (g:=.nl) rfl h)
 | agg l=>exact .of_1 (B5 (m:=m) (V:=V) (g:=.agg l) rfl h)
 | sl l=>exact .of_1 (B5 (m:=m) (V:=V) (g:=.sl l) rfl h)
theorem Z3w:∀{T:Ts},leT m t n T→∀{i g},look i T=some g→Z7y n g=true∧look i t=some (renS m g)
 | [],_,i,g,h=>by cases h
 | (j,g')::T,hT,i,g,h=>by
  rw[A5] at h;split at h
  ·next e=>subst e;cases h;exact hT.1
  ·exact Z3w hT.2 h
theorem J8:∀{T:Os},leO m own n T→∀{i r},look i T=some r→i < n∧(isS r=true∨ren m i=i)∧Zp n r=true∧look (ren m i) own=some (Z9f m r)
 | [],_,i,g,h=>by cases h
 | (j,g')::T,hT,i,g,h=>by
  rw[A5] at h;split at h
  ·next e =>
   subst e;cases h;have b:=hT.1.1;simp only[Bool.and_eq_true,Bool.or_eq_true] at b;exact⟨da b.1,b.2.imp id ai,hT.1.2⟩
  ·exact J8 hT.2 h
theorem Zeu (hn:V0.n≤n)(z:SinceC own0 I0 V0 w0 own I V w)(ha:ARep N I V a t)(h:le m t own n t' own'):SinceC own0 I0 V0 w0 own' I (V.renS m n) w∧ARep N I (V.renS m n) a t':=by
 obtain⟨X,B,Z⟩:=h;have hH:=z.has;refine⟨⟨⟨hH.mem,fun k r u=>(J8 B u).1,fun k r u=>?_,fun k r b u q=>?_,fun k k' r r' b u E q O=>?_⟩,⟨z.fro.os,z.fro.tape,z.fro.output,z.fro.size,z.fro.blk,z.fro.mono,fun k r b u q M=>?_⟩,hn,z.bb⟩,⟨ha.defers,ha.size,fun i g hg=>?_⟩⟩
 ·obtain⟨-,J,C,A⟩:=J8 B u;have hr:=hH.each _ _ A;have q:isS r=true∨V.b k=V.b (ren m k):=J.imp id fun e=>by rw[e]
  cases r with
  | blk cs ty =>
   have q:=q.resolve_left (fun h=>by cases h);obtain⟨q1,us,q2,q3⟩:=hr;exact⟨fun b=>by show V.f (ren m k) b↔b=V.b k;rw[q];exact q1 b,us,by show w.heap[V.b k]?=_;rw[q];exact q2,Ov C q3⟩
  | slc rows e sz=>exact hr
  | vw rows e sz=>exact hr
  | froz rows sz=>exact hr
  | gone=>exact hr
  | mpI l =>
   have q:=q.resolve_left (fun h=>by cases h);exact⟨fun b=>by show V.f (ren m k) b↔b=V.b k;rw[q];exact hr.1 b,by show MapR I w (V.b k) _ _;rw[q];exact hr.2⟩
  | mpS l =>
   have q:=q.resolve_left (fun h=>by cases h);exact⟨fun b=>by show V.f (ren m k) b↔b=V.b k;rw[q];exact hr.1 b,by show MapR I w (V.b k) _ _;rw[q];exact hr.2⟩
  | sit s pos =>
   have q:=q.resolve_left (fun h=>by cases h);exact⟨fun b=>by show V.f (ren m k) b↔b=V.b k;rw[q];exact hr.1 b,by show w.heap[V.b k]?=_;rw[q];exact hr.2⟩
  | mpX l m2 ob =>
   have q:=q.resolve_left (fun h=>by cases h);exact⟨fun b=>by show V.f (ren m k) b↔b=V.b k;rw[q];exact hr.1 b,(show V.b k=m2 from q.trans hr.2.1),hr.2.2⟩
  | mit j l D last m2 ob =>
   have q:=q.resolve_left (fun h=>by cases h);obtain⟨a1,it,L,a2,a3,a4⟩:=hr;exact⟨fun b=>by show V.f (ren m k) b↔b=V.b k;rw[q];exact a1 b,it,L,by show w.heap[V.b k]?=_;rw[q];exact a2,a3,fun F Y H=>by
    change F.heap[V.b k]?=_ at H
    show RanB F (V.b k) m2 Ziu id L D∧∀W,last=some W→∃v,VRep I W.2 v∧∀P:Program,(Instr.entry (.pointer (some ⟨V.b k,0,none⟩))).run P F=_;rw[q] at H⊢;exact a4 F Y H⟩
  | abs p =>
   have q:=q.resolve_left (fun h=>by cases h);exact⟨hr.1,by show p I (V.b k) (V.f (ren m k)) w;rw[q];exact hr.2⟩
  | lnk j=>cases C
  | adr j b=>exact⟨fun c=>hr.1 c,da C,hr.2.2⟩
  | fam ps=>exact⟨hr.1,hr.2⟩
 ·obtain⟨-,-,C,A⟩:=J8 B u;exact hH.foot _ _ b A q
 ·obtain⟨-,-,-,A⟩:=J8 B u;obtain⟨-,-,-,T⟩:=J8 B E;exact Pj Z u E (hH.disj _ _ _ _ b A T q O)
 ·obtain⟨-,-,-,A⟩:=J8 B u;exact z.fro.foot _ _ b A q M
 ·obtain⟨J,C⟩:=Z3w X hg;obtain⟨x,hx,hr⟩:=ha.get i _ C;exact⟨x,hx,Z4f J hr⟩
def Zk2 (N:Nat)(own0:Os)(I0:Imm)(V0:Va)(w0:World)(K:KC)(Q:Exit→Act→World→Prop):Prop :=
 ∀e t own I V a w,K e t own V.n→SinceC own0 I0 V0 w0 own I V w→ARep N I V a t→Q e.to a w
theorem Ty (b:P.follows .mixedOrders=true){c:Nat}{ops:Array Oper}{Q:Exit→Act→World→Prop}{S:World→Prop}{late:List Nat}(e:wpAnyG P .any ops Q late ops.size S (Array.replicate ops.size false) a w.drew):(Code.region c ops true).wp P Q a w :=
 wp_region_any b (Of _ _ _ _ _ (L2 _ rfl) e)
theorem Zf5 (l:List Oper):(noB l).toArray=Array.replicate l.length false∧(noB l).length=l.length:=by
 have:noB l=List.replicate l.length false:=by
  induction l with
  | nil=>rfl
  | cons o l ih=>rw[noB,ih];rfl
 rw[this];simp
theorem Z7d (c:List Edge)(m:List Bool):∃b,∀{α:Type} (K:List Bool→α),Zt c m K=K b:=by
 induction c generalizing m with
 | nil=>exact⟨m,fun _=>rfl⟩
 | cons e c ih =>
  cases hb:Region.binds .any e with
  | true =>
   obtain⟨b,h⟩:=ih (Yi m e.on);exact⟨b,fun K=>by unfold Zt;rw[hb];dsimp only;rw[Ki];exact h K⟩
  | false =>
   obtain⟨b,h⟩:=ih m;exact⟨b,fun K=>by unfold Zt;rw[hb];exact h K⟩
theorem Z4b (ops:List Oper)(n:Nat)(m:List Bool):∃b,∀{α:Type} (K:List Bool→α),Jc ops n m K=K b:=by
 induction n generalizing m with
 | zero=>exact⟨m,fun _=>rfl⟩
 | succ n ih =>
  cases hb:Zeg m n with
  | true =>
   cases ho:nth ops n with
   | none =>
    obtain⟨b,h⟩:=ih m;exact⟨b,fun K=>by unfold Jc;rw[hb,ho];exact h K⟩
   | some o =>
    obtain⟨c,e⟩:=Z7d o.after.toList m;obtain⟨b,h⟩:=ih c;exact⟨b,fun K=>by unfold Jc;rw[hb,ho];dsimp only;rw[e];exact h K⟩
  | false =>
   obtain⟨b,h⟩:=ih m;exact⟨b,fun K=>by unfold Jc;rw[hb];exact h K⟩
theorem Zc0 (ops:List Oper)(l:List Oper)(i:Nat):∃r,∀{α:Type} (K:List Nat→α),Zan tb ops l i K=K r:=by
 induction l generalizing i with
 | nil=>exact⟨[],fun K=>rfl⟩
 | cons o l ih =>
  obtain⟨r,h⟩:=ih (i+1);cases hl:Zl0 tb ops i o with
  | false=>exact⟨r,fun K=>by unfold Zan;rw[hl];exact h K⟩
  | true=>exact⟨i::r,fun K=>by unfold Zan;rw[hl];exact h _⟩
theorem Z78 (b:List Nat)(ops:List Oper)(l:List Oper)(i:Nat):∃r,∀{α:Type} (K:List Nat→α),Nk tb b ops l i K=K r:=by
 induction l generalizing i with
 | nil=>exact⟨[],fun _=>rfl⟩
 | cons o l ih =>
  obtain⟨r,h⟩:=ih (i+1);cases hl:isL tb o with
  | false=>exact⟨r,fun K=>by unfold Nk;rw[hl];exact h K⟩
  | true =>
   obtain⟨m,c⟩:=Z4b ops (i+1) (Yi (noB ops) i);cases ha:Zjd tb b ops m 0 with
   | true=>exact⟨i::r,fun K=>by unfold Nk;rw[hl];dsimp only;rw[Ki,c,ha];exact h _⟩
   | false=>exact⟨r,fun K=>by unfold Nk;rw[hl];dsimp only;rw[Ki,c,ha];exact h _⟩
theorem Tk (k:Nat):∀r:List Nat,∃r':List Nat,(∀{α:Type} (K:List Nat→α),I9 k r K=K r')∧∀j∈r',j∈r∨j=k
 | []=>⟨[k],fun _=>rfl,fun j h=>.inr (by simpa using h)⟩
 | i::r=>by
  obtain⟨r',c,b⟩:=Tk k r;cases hb:Nat.beq k i with
  | true=>exact⟨i::r,fun K=>by unfold I9;rw[hb],fun j h=>.inl h⟩
  | false =>
   refine⟨i::r',fun K=>by unfold I9;rw[hb];exact c _,fun j h=>?_⟩;rcases bi.1 h with rfl | h
   ·exact .inl (by simp)
   ·exact(b j h).imp (fun h=>by simp[h]) id
def GathLt {α:Type}(n:Nat)(F:List Nat→(List Nat→α)→α):Prop:=∀r,(∀k∈r,k < n)→∃r':List Nat,(∀k∈r',k < n)∧∀K:List Nat→α,F r K=K r'
theorem GathLt.seq {α:Type}{n:Nat}{F b:List Nat→(List Nat→α)→α}(h:GathLt n F)(h':GathLt n b):GathLt n (fun r K=>F r fun r=>b r K):=fun r hr=>by obtain⟨c,a1,a2⟩:=h r hr;obtain⟨e,b1,b2⟩:=h' c a1;exact⟨e,b1,fun K=>(a2 _).trans (b2 K)⟩
theorem GathLt.none {α:Type}{n:Nat}:GathLt n (fun r (K:List Nat→α)=>K r):=fun r hr=>⟨r,hr,fun _=>rfl⟩
theorem Bz {α:Type}{n k:Nat}(p:k < n):GathLt (α:=α) n (fun r K=>I9 k r K):=fun r hr=>by obtain⟨r',c,b⟩:=Tk k r;exact⟨r',fun j h=>(b j h).elim (hr j) (fun e=>by omega),fun K=>c K⟩
theorem Zm1 {α:Type}(h:CRep I V g x):GathLt (α:=α) V.n (fun r K=>vaC g r K):=by
 cases g with
 | ptr k o=>exact Bz h.1
 | _=>exact GathLt.none
theorem Zbj {α:Type}:∀{l:List G} {b:List Value},PW (CRep I V) l b→GathLt (α:=α) V.n (fun r K=>Zid l r K)
 | [],_,_=>GathLt.none
 | g::l,b,h=>by obtain⟨x,e,rfl,c,j⟩:=h.uncons;exact(Zm1 c).seq (Zbj j)
theorem Zlu {α:Type}(h:TRep I V g x):GathLt (α:=α) V.n (fun r K=>va1 g r K):=by
 cases g with
 | clo f a c =>
  obtain⟨-,j,cs,-,b,e⟩:=(show TRep1 I V (.clo f a c) x from h);exact(Zbj b).seq (Zbj e)
 | ptr k o=>exact Bz (Ch h).1
 | _=>exact GathLt.none
theorem J0 {ops:List Oper}{k:Nat}:∀{n d:Nat},N0 t ops n d=some k→∃b o,look b t=some (.ptr k o)
 | 0,_,h=>by cases h
 | n+1,d,h=>by
  unfold N0 at h;split at h
  ·next c=>cases h;exact⟨d,_,c⟩
  ·cases h
  ·split at h
   ·exact J0 h
   ·cases h
theorem Ns {ops:List Oper}{k:Nat}:∀{n d:Nat},Z56 t ops n d=some k→∃c,look c t=some (.osl k)
 | 0,_,h=>by cases h
 | n+1,d,h=>by
  unfold Z56 at h;split at h
  ·next b=>cases h;exact⟨d,b⟩
  ·cases h
  ·split at h
   ·exact Ns h
   ·cases h
theorem Zkw {α:Type}(ha:ARep N I V a t)(ops:List Oper):∀l:List Operand,GathLt (α:=α) V.n (fun r K=>vsS t ops l r K)
 | []=>GathLt.none
 | y::l=>fun r hr=>by
  have c:=Zkw (α:=α) ha ops l;cases y with
  | tmp d =>
   cases hro:Z56 t ops 8 d with
   | none =>
    obtain⟨r',e,h⟩:=c r hr;exact⟨r',e,fun K=>by show vsS t ops (.tmp d::l) r K=_;unfold vsS;rw[hro];exact h K⟩
   | some k =>
    obtain⟨_,b⟩:=Ns hro;obtain⟨y,hy,j⟩:=ha.get _ _ b;obtain⟨p,a1,a2⟩:=Bz (α:=α) (show k < V.n from(show CRep I V (.osl k) y from j).1) r hr;obtain⟨q,b1,b2⟩:=c p a1;exact⟨q,b1,fun K=>by show vsS t ops (.tmp d::l) r K=_;unfold vsS;rw[hro];exact(a2 _).trans (b2 K)⟩
  | _=>exact c r hr
theorem Zgx {α:Type}(ha:ARep N I V a t)(b:Bool)(ops:List Oper)(l:List Operand):GathLt (α:=α) V.n (fun r K=>Zks b t ops l r K):=by
 cases b with
 | true=>exact Zkw ha ops l
 | false=>exact GathLt.none
theorem Zky {α:Type}(ha:ARep N I V a t)(ops:List Oper):∀l:List Operand,GathLt (α:=α) V.n (fun r K=>vaL t ops l r K)
 | []=>GathLt.none
 | y::l=>fun r hr=>by
  have b:=Zky (α:=α) ha ops l;cases y with
  | tmp d =>
   cases hl:look d t with
   | none =>
    cases hro:N0 t ops 8 d with
    | none =>
     obtain⟨r',p,q⟩:=b r hr;exact⟨r',p,fun K=>by show vaL t ops (.tmp d::l) r K=_;unfold vaL;dsimp only;rw[hl];dsimp only;rw[hro];exact q K⟩
    | some k =>
     obtain⟨_,_,c⟩:=J0 hro;obtain⟨y,hy,e⟩:=ha.get _ _ c;obtain⟨h,a1,a2⟩:=Bz (α:=α) (Ch e).1 r hr;obtain⟨j,b1,b2⟩:=b h a1;exact⟨j,b1,fun K=>by show vaL t ops (.tmp d::l) r K=_;unfold vaL;dsimp only;rw[hl];dsimp only;rw[hro];exact(a2 _).trans (b2 K)⟩
   | some g =>
    obtain⟨z,s,e⟩:=ha.get d g hl;obtain⟨h,a1,a2⟩:=Zlu (α:=α) e r hr;obtain⟨j,b1,b2⟩:=b h a1;exact⟨j,b1,fun K=>by show vaL t ops (.tmp d::l) r K=_;unfold vaL;dsimp only;rw[hl];exact(a2 _).trans (b2 K)⟩
  | _=>exact b r hr
theorem Zgm (h:CRep I V g x):GathLt (α:=Prop) V.n (fun r K=>gkC g r K):=by
 cases g with
 | ptr k o=>exact Bz h.1
 | osl k=>exact Bz h.1
 | osv k a b c=>exact Bz h.1
 | oel k i s o=>exact h.elim
 | mp k=>exact Bz h.1
 | _=>exact GathLt.none
theorem Z0n:∀{l:List G} {b:List Value},PW (CRep I V) l b→GathLt (α:=Prop) V.n (fun r K=>Zbc l r K)
 | [],_,_=>GathLt.none
 | g::l,b,h=>by obtain⟨x,e,rfl,c,j⟩:=h.uncons;exact(Zgm c).seq (Z0n j)
theorem Wc (hH:Has I V own w):∀l:List Nat,GathLt (α:=Prop) V.n (fun r K=>Pb own l r K)
 | []=>GathLt.none
 | k::l=>fun r hr=>by
  have b:=Wc hH l;show ∃r':List Nat,_∧∀K:List Nat→Prop,Pb own (k::l) r K=K r';unfold Pb;split
  ·next cs t j =>
   obtain⟨-,p,-,c⟩:=hH.each k _ j;obtain⟨e,a1,a2⟩:=Z0n c r hr;obtain⟨h,b1,b2⟩:=b e a1;exact⟨h,b1,fun K=>(a2 _).trans (b2 K)⟩
  ·exact b r hr
theorem Zar (hH:Has I V own w):∀n:Nat,GathLt (α:=Prop) V.n (fun r K=>trK own n r K)
 | 0=>GathLt.none
 | n+1=>fun r hr=>by obtain⟨b,a1,a2⟩:=Wc hH r r hr;obtain⟨c,b1,b2⟩:=Zar hH n b a1;exact⟨c,b1,fun K=>(a2 _).trans (b2 K)⟩
theorem Z1z {α:Type}{n:Nat}:∀w:Os,(∀k r,(k,r)∈w→k < n)→GathLt (α:=α) n (fun r K=>Zgf w r K)
 | [],_=>GathLt.none
 | (k,q)::l,h=>fun r hr=>by
  have e:=Z1z (α:=α) l fun k r j=>h k r (by simp[j]);cases q with
  | abs p =>
   obtain⟨b,a1,a2⟩:=Bz (α:=α) (h k _ (by simp:(k,R.abs p)∈_)) r hr;obtain⟨c,b1,b2⟩:=e b a1;exact⟨c,b1,fun K=>(a2 _).trans (b2 K)⟩
  | fam p =>
   obtain⟨b,a1,a2⟩:=Bz (α:=α) (h k _ (by simp:(k,R.fam p)∈_)) r hr;obtain⟨c,b1,b2⟩:=e b a1;exact⟨c,b1,fun K=>(a2 _).trans (b2 K)⟩
  | _=>exact e r hr
theorem Z3i {α:Type}{n:Nat}:∀w:Os,(∀k r,(k,r)∈w→k < n)→GathLt (α:=α) n (fun r K=>Zhv w r K)
 | [],_=>GathLt.none
 | (k,q)::l,h=>fun r hr=>by
  have e:=Z3i (α:=α) l fun k r j=>h k r (by simp[j]);cases q with
  | mpI p =>
   obtain⟨b,a1,a2⟩:=Bz (α:=α) (h k _ (by simp:(k,R.mpI p)∈_)) r hr;obtain⟨c,b1,b2⟩:=e b a1;exact⟨c,b1,fun K=>(a2 _).trans (b2 K)⟩
  | mpS p =>
   obtain⟨b,a1,a2⟩:=Bz (α:=α) (h k _ (by simp:(k,R.mpS p)∈_)) r hr;obtain⟨c,b1,b2⟩:=e b a1;exact⟨c,b1,fun K=>(a2 _).trans (b2 K)⟩
  | _=>exact e r hr
theorem Iz {α:Type}{k:Nat}{x:α}:∀{l:List (Nat × α)},(k,x)∈l→∃y,look k l=some y
 | [],h=>by simp at h
 | (j,y)::l,h=>by
  rw[A5];by_cases e:k=j
  ·rw[dc e];exact⟨y,rfl⟩
  ·rw[db e];rcases bi.1 h with h | h
   ·exact de (congrArg Prod.fst h) e
   ·exact Iz h
theorem Zfm {α:Type}{o:Os}{n:Nat}(h:∀k r,look k o=some r→k < n):∀l:List G,GathLt (α:=α) n (fun r K=>Z6c o l r K)
 | []=>GathLt.none
 | g::l=>fun r hr=>by
  have b:=Zfm (α:=α) h l;cases g with
  | osl k =>
   cases hk:look k o with
   | none =>
    obtain⟨r',j,p⟩:=b r hr;exact⟨r',j,fun K=>by show Z6c o (.osl k::l) r K=_;unfold Z6c;dsimp only;rw[hk];exact p K⟩
   | some q =>
    obtain⟨c,a1,a2⟩:=Bz (α:=α) (h k q hk) r hr;obtain⟨e,b1,b2⟩:=b c a1;exact⟨e,b1,fun K=>by show Z6c o (.osl k::l) r K=_;unfold Z6c;dsimp only;rw[hk];exact(a2 _).trans (b2 K)⟩
  | _=>exact b r hr
theorem Zls {α:Type}{o:Os}{n:Nat}(h:∀k r,look k o=some r→k < n)(t:Ts)(ops:List Oper)(x:Operand):GathLt (α:=α) n (fun r K=>ldS t o ops x r K):=by
 unfold ldS;split
 ·split
  ·exact GathLt.none
  ·split
   ·split
    ·split
     ·exact Zfm h _
     ·exact GathLt.none
    ·exact GathLt.none
   ·exact GathLt.none
 ·exact GathLt.none
theorem Zdy (hH:Has I V own w)(ha:ARep N I V a t)(late:List Nat)(ops l:List Oper)(i:Nat)(b:List Nat)(c:∀k∈b,k < V.n):∃r:List Nat,(∀k∈r,k < V.n)∧∀K:List Nat→Prop,Yt tb late t own ops l i b K=K r:=by
 have key:∀(l:List Oper) (i:Nat) (b:List Nat),(∀k∈b,k < V.n)→∃r:List Nat,(∀k∈r,k < V.n)∧∀K:List Nat→Prop,Yt tb late t own ops l i b K=K r:=fun l=>by
  induction l with
  | nil=>exact fun i b c=>⟨b,c,fun _=>rfl⟩
  | cons o l ih =>
   intro i b c;unfold Yt;split
   ·split
    ·next C =>
     obtain⟨_,_,J⟩:=J0 C;obtain⟨y,hy,H⟩:=ha.get _ _ J;obtain⟨q,a1,a2⟩:=Tk _ b;obtain⟨r,b1,b2⟩:=ih (i+1) q (fun j F=>(a2 j F).elim (c j) fun e=>by rw[e];exact(Ch H).1);exact⟨r,b1,fun K=>(a1 _).trans (b2 K)⟩
    ·exact ih (i+1) b c
   ·split
    ·next f _ =>
     obtain⟨D,B,s⟩:=Zky (α:=Prop) ha ops (f::_) b c;obtain⟨q,a1,h⟩:=Zgx (α:=Prop) ha (Sy (Zg8 tb) _) ops _ D B;obtain⟨A,z,u⟩:=Z1z (α:=Prop) own (fun k r p=>by obtain⟨y,hy⟩:=Iz p;exact hH.num k y hy) q a1;cases Sy (Zh6 tb) _ with
     | true =>
      obtain⟨M,O,E⟩:=Z3i (α:=Prop) own (fun k r p=>by obtain⟨y,hy⟩:=Iz p;exact hH.num k y hy) A z;obtain⟨r,b1,b2⟩:=ih (i+1) M O;exact⟨r,b1,fun K=>(s _).trans ((h _).trans ((u _).trans ((E _).trans (b2 K))))⟩
     | false =>
      obtain⟨r,b1,b2⟩:=ih (i+1) A z;exact⟨r,b1,fun K=>(s _).trans ((h _).trans ((u _).trans (b2 K)))⟩
    ·split
     ·next x _ _ =>
      obtain⟨q,a1,a2⟩:=Zgx (α:=Prop) ha true ops [x] b c;obtain⟨A,z,u⟩:=Zls (α:=Prop) (fun k r p=>hH.num k r p) t ops x q a1;obtain⟨r,b1,b2⟩:=ih (i+1) A z;exact⟨r,b1,fun K=>(a2 _).trans ((u _).trans (b2 K))⟩
     ·exact ih (i+1) b c
    ·exact ih (i+1) b c
   ·exact ih (i+1) b c
 exact key l i b c
def OkM (P:Program)(tb:List (Nat × TI))(N:Nat)(own0:Os)(I0:Imm)(V0:Va)(w0:World)(c:Code)(m:MC):Prop :=
 ∀{t:Ts} {own:Os} {I:Imm} {V:Va} {a:Act} {w:World} {K:KC} {Q:Exit→Act→World→Prop},m t own V.n K→SinceC own0 I0 V0 w0 own I V w→ARep N I V a t→Gs tb N c=true→(∀ch d v a w,Q (.panic ch) (a.put d v) w→Q (.panic ch) a w)→Zk2 N own0 I0 V0 w0 K Q→c.wp P Q a w
def LabM (P:Program)(tb:List (Nat × TI))(N:Nat)(own0:Os)(I0:Imm)(V0:Va)(w0:World)(c:Code)(m:MC):Prop :=
 (Tj c=none→∀l,findLabel c l=none)∧∀l,Tj c=some l→∃rest,findLabel c l=some rest∧OkM P tb N own0 I0 V0 w0 rest m∧(Gs tb N c=true→Gs tb N rest=true)
theorem LabM.no {c:Code}{m:MC}(e:Tj c=none)(h:∀l,findLabel c l=none):LabM P tb N own0 I0 V0 w0 c m:=⟨fun _=>h,fun _ h=>by rw[e] at h;cases h⟩
theorem OkM.seq {x y:Code}{p q:MC}(B:OkM P tb N own0 I0 V0 w0 x p)(hy:OkM P tb N own0 I0 V0 w0 y q)(A z:Code):OkM P tb N own0 I0 V0 w0 (.seq x y) (Z2y A z p q):=by
 intro t own I V a w K Q h b ha s u c;simp only[Gs,Bool.and_eq_true] at s;unfold Z2y at h;refine wp_seq (B h b ha s.1 (fun ch d v a w=>u ch d v a w) fun e t own I V a w j b ha=>?_);cases e with
 | normal=>exact hy j b ha s.2 u c
 | exit id=>exact c (.exit id) _ _ _ _ _ _ j b ha
 | ret=>exact c .ret _ _ _ _ _ _ j b ha
 | goto l=>exact c (.goto l) _ _ _ _ _ _ j b ha
theorem OkM.stay {x:Code}{p:MC}(u:OkM P tb N own0 I0 V0 w0 x p){t:Ts}{own:Os}{I:Imm}{V:Va}{a:Act}{w:World}{K:KC}{Q:Exit→Act→World→Prop}(l:Nat)(J:Act→World→Prop)(h:O8 p t own V.n K)(b:SinceC own0 I0 V0 w0 own I V w)(ha:ARep N I V a t)(s:Gs tb N x=true)(q:∀ch d v a w,Q (.panic ch) (a.put d v) w→Q (.panic ch) a w)(j:Zk2 N own0 I0 V0 w0 K Q):x.wp P (Exit.jump l J Q) a w:=by
 unfold O8 at h;refine u h b ha s (fun ch d v a w=>q ch d v a w) fun e t own I V a w c b ha=>?_;cases e with
 | normal=>exact j .normal _ _ _ _ _ _ c b ha
 | exit id=>exact j (.exit id) _ _ _ _ _ _ c b ha
 | ret=>exact j .ret _ _ _ _ _ _ c b ha
 | goto l=>exact c.elim
theorem OkM.scope {x:Code}{m:MP}(u:OkM P tb N own0 I0 V0 w0 x (m true))(C:LabM P tb N own0 I0 V0 w0 x (m false)):OkM P tb N own0 I0 V0 w0 (.scope x) (T7 x m):=by
 intro t own I V a w K Q h c ha j s p;have j:Gs tb N x=true:=j;unfold T7 at h;cases hl:Tj x with
 | none =>
  rw[hl] at h;refine wp_scope_straight (Code.wp_mono ?_ (u.stay 0 (fun _ _=>False) h c ha j s p));intro e a w q;cases e with
  | goto l=>exact q.2.elim
  | _=>exact q
 | some l =>
  rw[hl] at h;obtain⟨rest,z,B,A⟩:=C.2 l hl;refine wp_scope_jumps l (fun a w=>∃t own I V,O8 (m false) t own V.n K∧SinceC own0 I0 V0 w0 own I V w∧ARep N I V a t) (fun _ _=>0) z ?_ ?_
  ·refine u h c ha j (fun ch d v a w=>s ch d v a w) fun e t own I V a w b c ha=>?_;cases e with
   | normal=>exact p .normal _ _ _ _ _ _ b c ha
   | exit id=>exact p (.exit id) _ _ _ _ _ _ b c ha
   | ret=>exact p .ret _ _ _ _ _ _ b c ha
   | goto l' =>
    have b:(bif Nat.beq l' l then O8 (m false) t own V.n K else False):=b;cases hb:Nat.beq l' l with
    | true=>rw[hb] at b;exact⟨ai hb,t,own,I,V,b,c,ha⟩
    | false=>rw[hb] at b;exact b.elim
  ·rintro a1 D ⟨t,own,I,V,b,c,ha⟩;exact B.stay l _ b c ha (A j) s p
theorem Zeo (hT:∀t i,look t tb=some i→TIok P t i)(hm:P.follows .mixedOrders=true):∀c:Code,OkM P tb N own0 I0 V0 w0 c (sxM P tb c true)∧LabM P tb N own0 I0 V0 w0 c (sxM P tb c false):=by
 intro c
 induction c with
 | skip=>exact⟨by intro t own I V a w K Q h j ha _ _ p;exact wp_skip (p .normal _ _ _ _ _ _ h j ha),.no rfl fun _=>rfl⟩
 | label l =>
  refine⟨by intro t own I V a w K Q h j ha _ _ p;exact wp_label (p .normal _ _ _ _ _ _ h j ha),⟨fun e=>(by cases e),fun l' e=>?_⟩⟩;have e:some l=some l':=e;cases e;exact⟨.skip,by simp[findLabel],by intro t own I V a w K Q h j ha _ _ p;exact wp_skip (p .normal _ _ _ _ _ _ h j ha),fun _=>rfl⟩
 | ret=>exact⟨by intro t own I V a w K Q h j ha _ _ p;exact wp_ret (p .ret _ _ _ _ _ _ h j ha),.no rfl fun _=>rfl⟩
 | exit id=>exact⟨by intro t own I V a w K Q h j ha _ _ p;exact wp_exit (p (.exit id) _ _ _ _ _ _ h j ha),.no rfl fun _=>rfl⟩
 | goto l=>exact⟨by intro t own I V a w K Q h j ha _ _ p;exact wp_goto (p (.goto l) _ _ _ _ _ _ h j ha),.no rfl fun _=>rfl⟩
 | scope x ih=>exact⟨OkM.scope ih.1 ih.2,.no rfl fun _=>rfl⟩
 | seq x y ihx ihy =>
  refine⟨OkM.seq ihx.1 ihy.1 x y,fun e l=>?_,fun l e=>?_⟩
  ·have e:(match Tj x with | some l=>some l | none=>Tj y)=none:=e;cases hx:Tj x with
   | some o=>rw[hx] at e;cases e
   | none=>rw[hx] at e;simp only[findLabel,ihx.2.1 hx l];exact ihy.2.1 e l
  ·have e:(match Tj x with | some l=>some l | none=>Tj y)=some l:=e;show ∃rest,findLabel (.seq x y) l=some rest∧OkM P tb N own0 I0 V0 w0 rest (match Tj x with | some _=>Z2y x y (sxM P tb x false) (sxM P tb y true) | none=>sxM P tb y false)∧_;cases hx:Tj x with
   | some o =>
    rw[hx] at e;cases e;obtain⟨rest,O,H,h3⟩:=ihx.2.2 _ hx;refine⟨.seq rest y,by simp only[findLabel,O],OkM.seq H ihy.1 x y,fun u=>?_⟩;simp only[Gs,Bool.and_eq_true] at u⊢;exact⟨h3 u.1,u.2⟩
   | none =>
    rw[hx] at e;obtain⟨rest,O,H,h3⟩:=ihy.2.2 _ e;refine⟨rest,by simp only[findLabel,ihx.2.1 hx l];exact O,H,fun u=>?_⟩;simp only[Gs,Bool.and_eq_true] at u;exact h3 u.2
 | cond c x y ihx ihy =>
  refine⟨?_,.no rfl fun _=>rfl⟩;intro t own I V a w K Q h j ha u D p;simp only[Gs,Bool.and_eq_true] at u;have h:Z5h c x y (sxM P tb x true) (sxM P tb y true) t own V.n K:=h;unfold Z5h at h;obtain⟨g,h,Y⟩:=B8 h ha j.has;cases g with
  | tt=>exact wp_cond_true (by generalize a.eval c=z at Y;cases(show VRep I .tt z from Y);rfl) (ihx.1 h j ha u.1 D p)
  | ff=>exact wp_cond_false (by generalize a.eval c=z at Y;cases(show VRep I .ff z from Y);rfl) (ihy.1 h j ha u.2 D p)
  | v z =>
   have e:=B0 Y;cases z with
   | bool b=>exact wp_cond_split e (fun C=>ihx.1 (h.1 C) j ha u.1 D p) (fun C=>ihy.1 (h.2 C) j ha u.2 D p)
   | _=>exact h.elim
  | _=>exact h.elim
 | block id x ih =>
  refine⟨?_,.no rfl fun _=>rfl⟩;intro t own I V a w K Q h j ha u D p;have h:Tl id x (sxM P tb x true) t own V.n K:=h;unfold Tl at h;refine wp_block (ih.1 h j ha u (fun ch d v a w=>D ch d v a w) fun e t own I V a w q j ha=>?_);cases e with
  | normal=>exact p .normal _ _ _ _ _ _ q j ha
  | exit id' =>
   show if id'=id then Q .normal a w else Q (.exit id') a w;dsimp only at q;by_cases hi:id'=id
   ·subst hi;rw[dc rfl];rw[Nat.beq_refl] at q;exact p .normal _ _ _ _ _ _ q j ha
   ·rw[db hi];have H:Nat.beq id' id=false:=by
     cases C:Nat.beq id' id with
     | false=>rfl
     | true=>exact de (ai C) hi
    rw[H] at q;exact p (.exit id') _ _ _ _ _ _ q j ha
  | goto l=>exact p (.goto l) _ _ _ _ _ _ q j ha
  | ret=>exact p .ret _ _ _ _ _ _ q j ha
 | loop x ih =>
  refine⟨?_,.no rfl fun _=>rfl⟩;intro t own I V a w K Q h j ha u D p;have h:L6 x (sxM P tb x true) t own V.n K:=h;unfold L6 at h;obtain⟨w1o,Ig,Vg,⟨bb,X,st,dd,In,μ,⟨x0,h0,A⟩,E⟩,lg⟩:=Po h rfl j.has;replace j:=j.trans lg;replace ha:=ha.mono lg.fro.mono lg.va;have hn0:=j.n;let At:X→Act→World→Prop:=fun x a w=>In x∧∃I V',V'.n=Vg.n∧SinceC own0 I0 V0 w0 (st x).2 I V' w∧ARep N I V' a (st x).1;have O:=Zeu j.n j ha A;refine wp_loop_ghost (fun k a w=>∃x,At x a w∧μ x=k) (μ x0) ⟨x0,⟨h0,Ig,_,rfl,O.1,O.2⟩,rfl⟩ fun k a1 w1 hI=>?_;obtain⟨x1,⟨hi,I1,V1,T,hS,hA⟩,rfl⟩:=hI;have C:=E x1 hi;rw[←T] at C;refine ih.1 C hS hA u (fun ch d v a w=>D ch d v a w) fun e t own I V a w q j ha=>?_;have fin:∀{own:Os} {I:Imm} {V:Va},Pv st In μ V1.n x1 K e t own V.n→SinceC own0 I0 V0 w0 own I V w→ARep N I V a t→(match e.to with | .normal=>∃m,m < μ x1∧∃x,At x a w∧μ x=m | e=>Q e a w):=fun {own I V} q j ha=>by
   cases e with
   | normal =>
    obtain⟨y,m,hy,M,A⟩:=q;have H:=Zeu (n:=V1.n) (by omega) j ha A;exact⟨μ y,M,y,⟨hy,I,_,by simp[Va.renS,T],H.1,H.2⟩,rfl⟩
   | exit id=>exact p (.exit id) _ _ _ _ _ _ q j ha
   | goto l=>exact p (.goto l) _ _ _ _ _ _ q j ha
   | ret=>exact p .ret _ _ _ _ _ _ q j ha
  have hk2:∃(own':Os) (I':Imm) (V':Va),Pv st In μ V1.n x1 K e t own' V'.n∧SinceC own0 I0 V0 w0 own' I' V' w∧ARep N I' V' a t:=by
   cases bb with
   | false =>
    refine⟨own,I,V,?_,j,ha⟩;cases e with
    | normal=>obtain⟨y,hy,M,A⟩:=q;exact⟨y,_,hy,M,A⟩
    | _=>exact q
   | true =>
    obtain⟨w2,I2,V2,q,l2⟩:=Po (show Pf st dd In μ V1.n x1 K e t own V.n from q) rfl j.has;exact⟨w2,I2,V2,q,j.trans l2,ha.mono l2.fro.mono l2.va⟩
  obtain⟨own',I',V',q1,q2,q3⟩:=hk2;have:=fin q1 q2 q3;cases e<;>exact this
 | region id ops dr =>
  refine⟨?_,.no rfl fun _=>rfl⟩;intro t own I V a w K Q h j ha u D p;simp only[Gs,Bool.and_eq_true] at u;have hd:∀o∈ops.toList,∀i,o.dst=some i→i < N:=fun o ho i hi=>by have:=List.all_eq_true.1 u.1 o ho;rw[hi] at this;exact da this
  have h:Zcx P tb id ops dr t own V.n K:=h;unfold Zcx at h;cases dr with
  | false=>exact wp_region_list (Z4e (own0:=own) (I0:=I) (V0:=V) (w0:=w) hT (fun t own I V a w q hl ha=>p .normal _ _ _ _ _ _ q (j.tail hl) ha) h (Later.refl j.has).since ha hd)
  | true =>
   have hc2:=u.2;simp only[Bool.and_eq_true] at hc2;have hH:Has I V own w.drew:=j.has.heap rfl rfl;have hL2:Since own I V w own I V w.drew:=⟨hH,⟨rfl,rfl,rfl,af _,fun _ _ _=>⟨rfl,fun _=>rfl⟩,fun _ _ _ h=>h,fun k r b e C _=>⟨k,r,e,C⟩⟩,af _,fun _ _=>rfl,fun _ _=>rfl⟩;have T:=Zf5 ops.toList;obtain⟨od,F⟩:=Zc0 (tb:=tb) ops.toList ops.toList 0;obtain⟨late,B⟩:=Z78 (tb:=tb) od ops.toList ops.toList 0;obtain⟨XL,hXL,hvol⟩:=Zdy (tb:=tb) j.has ha late ops.toList ops.toList 0 [] (fun k q=>by simp at q);have h:Zan tb ops.toList ops.toList 0 fun od=>Nk tb od ops.toList ops.toList 0 fun late=>Yt tb late t own ops.toList ops.toList 0 [] fun XL=>trK own 3 XL fun XL=>sxD P tb XL od late ops.toList ops.toList (noB ops.toList) t own V.n (K .normal):=h;rw[F,B] at hc2;obtain⟨W,Z,J⟩:=Zar j.has 3 XL hXL;have J:∀K:List Nat→Prop,trK own 3 XL K=K W:=J;rw[F,B,hvol,J] at h;refine Ty hm (late:=late) (S:=Agree V W w.drew) ?_;have:=Xc (fu:=ops.toList) (l:=noB ops.toList) hT D hc2.1 hd (fun t own I V a w q hl ha=>p .normal _ _ _ _ _ _ q (j.tail hl) ha) (by rw[T.2];simp) (by rw[T.1];exact L2 _ (by simp)) hc2.2 h hL2 ha Z;rw[T.1] at this;simpa using this
 | rangeFunc f ps x y _ _=>exact⟨fun h=>False.elim h,.no rfl fun _=>rfl⟩
 | refuse s=>exact⟨fun h=>False.elim h,.no rfl fun _=>rfl⟩
theorem Za9 (hT:∀t i,look t tb=some i→TIok P t i)(q:P.follows .mixedOrders=true){c:Code}{t:Ts}{own:Os}{I:Imm}{V:Va}{a:Act}{w:World}{K:KC}{Q:Exit→Act→World→Prop}(h:sxC P tb c t own V.n K)(p:SinceC own0 I0 V0 w0 own I V w)(ha:ARep N I V a t)(e:Gs tb N c=true)(b:∀ch d v a w,Q (.panic ch) (a.put d v) w→Q (.panic ch) a w)(j:Zk2 N own0 I0 V0 w0 K Q):c.wp P Q a w :=
 (Zeo hT q c).1 h p ha e b j
end
section
variable {P:Program} {tb:List (Nat × TI)} {N n:Nat} {I I' I0:Imm} {V V' V0:Va} {a:Act} {t t':Ts} {own own' own0:Os} {w w' w0:World} {g:G} {x y:Value}
def Js (tmps:Array Value):ResultVar→Sem Value
 | .tmp t=>pure (tmps.getD t undef)
 | .cell x t=>do loadVar t (←asAddr (tmps.getD x undef))
def Ep (P:Program)(a:Act)(w:World)(r:ResultVar)(v:Value):Prop:=(Js a.tmps r).run P w=.ok v w
theorem X7 (hT:∀t i,look t tb=some i→TIok P t i){r:ResultVar}{K1:G→Os→Prop}(h:Zcj tb t own K1 r)(hH:Has I V own w)(ha:ARep N I V a t):∃g own' I' V' v,K1 g own'∧V'.n=V.n∧Later own I V w own' I' V' w∧VRep I' g v∧Ep P a w r v:=by
 cases r with
 | tmp i =>
  unfold Zcj at h;dsimp only at h;cases u:look i t with
  | none=>rw[u] at h;exact h.elim
  | some g =>
   rw[u] at h;obtain⟨x,C,hr⟩:=ha.get i g u;obtain⟨F,p,s,A,X,hn,B,h4⟩:=Z9m h hr hH;exact⟨F,p,s,A,x,X,hn.1,B,h4,by unfold Ep Js;simp[C]⟩
 | cell i ty =>
  unfold Zcj at h;dsimp only at h;split at h
  ·next k off z u D =>
   obtain⟨x,C,hr⟩:=ha.get i _ u;obtain⟨hk,rfl⟩:=Ch hr;split at h
   ·next cs ty' Z =>
    obtain⟨Y,X,M,B⟩:=N1 hH Z;have e:=hT _ _ D;cases hag:z.agg with
    | true =>
     rw[hag] at h;obtain⟨l,k1,k2,-⟩:=Mg h M;obtain⟨l',p,s,A,E,W,J,O⟩:=Oo k1 k2 hH;have q:((Y.drop off).take z.zero.length).length=z.zero.length:=by
      rcases Nat.eq_zero_or_pos z.zero.length with H | H
      ·rw[H];simp
      ·have:=Q7 h M H;simp;omega
     refine⟨_,p,s,A,_,E,W.1,J,Zkd O,?_⟩;have:=Dl (P:=P) (w:=w) (g:=V.b k) (k:=off) (ty:=ty) (cs:=(Y.drop off).take z.zero.length) (by rw[e.agg,hag]) (by rw[e.size,q]) (fun j v T=>by rw[B];exact Jg T);unfold Ep Js;simp[C,asAddr,this]
    | false =>
     rw[hag,Er] at h;dsimp only at h;cases hc:cs[off]? with
     | none=>rw[hc] at h;exact h.elim
     | some g =>
      rw[hc] at h;obtain⟨v,T,hg⟩:=M.get hc;obtain⟨F,p,s,A,E,W,J,O⟩:=E7 h hg hH;refine⟨F,p,s,A,v,E,W.1,J,O,?_⟩;have c:=(B off).trans T;unfold Ep Js;simp[C,asAddr,loadVar,H9 (P:=P) (show Rr P ty=some false by rw[e.agg,hag]),c]
   ·exact h.elim
  ·exact h.elim
theorem Zdk (hT:∀t i,look t tb=some i→TIok P t i){r:ResultVar}{K1:G→Os→Prop}(h:Zcj tb t own K1 r)(hH:Has I V own w)(ha:ARep N I V a t):∃g own' I' V' v,K1 g own'∧Later own I V w own' I' V' w∧VRep I' g v∧Ep P a w r v:=by obtain⟨g,o,I',V',v,c,-,b⟩:=X7 hT h hH ha;exact⟨g,o,I',V',v,c,b⟩
theorem T9 (hT:∀t i,look t tb=some i→TIok P t i):∀{rs:List ResultVar} {own:Os} {I:Imm} {V:Va} {K1:List G→Prop},Zcc tb t own rs K1→Has I V own w→ARep N I V a t→∃b own' I' V',∃vs:List Value,K1 b∧Later own I V w own' I' V' w∧PW (VRep I') b vs∧vs.length=rs.length∧∀(i:Nat) r v,rs[i]?=some r→vs[i]?=some v→Ep P a w r v
 | [],own,I,V,K1,h,hH,_=>⟨[],own,I,V,[],h,.refl hH,.nil,rfl,fun i r v h=>by simp at h⟩
 | r::rs,own,I,V,K1,h,hH,ha=>by
  obtain⟨g,F,H,J,v,p,c,q,C⟩:=Zdk (K1:=fun g w'=>Zcc tb t w' rs fun b=>K1 (g::b)) hT h hH ha;obtain⟨b,B,A,V2,vs,s,j,E,D,z⟩:=T9 hT p c.has (ha.mono c.fro.mono c.va);refine⟨g::b,B,A,V2,v::vs,s,c.trans j,.cons (q.mono j.fro.mono) E,by simp[D],fun i r' u hr e=>?_⟩;cases i with
  | zero=>simp at hr e;subst hr e;exact C
  | succ i=>exact z i r' u (by simpa using hr) (by simpa using e)
theorem Y1:∀{rs:List ResultVar} {vs:List Value},vs.length=rs.length→(∀(i:Nat) r v,rs[i]?=some r→vs[i]?=some v→Ep P a w r v)→(rs.mapM (Js a.tmps)).run P w=.ok vs w
 | [],vs,h,_=>by rw[am h];simp
 | r::rs,[],h,_=>by simp at h
 | r::rs,v::vs,h,hr=>by have b:=hr 0 r v rfl rfl;have c:=Y1 (rs:=rs) (vs:=vs) (by simpa using h) fun i r v h h'=>hr (i+1) r v (by simpa using h) (by simpa using h');unfold Ep at b;rw[List.mapM_cons,Sem.run_bind,b,Result.andThen_ok,Sem.run_bind,c,Result.andThen_ok,Sem.run_pure]
def Qx:List Value→Value
 | [v]=>v
 | vs=>.tuple vs.toArray
theorem Gj {fn:Func}{vs:List Value}(b:vs.length=fn.results.toList.length)(hr:∀(i:Nat) r v,fn.results.toList[i]?=some r→vs[i]?=some v→Ep P a w r v):(results fn a.tmps).run P w=.ok (Qx vs) w:=by
 have h:=Y1 b hr;have e:results fn a.tmps=(do let vs ←fn.results.mapM (Js a.tmps);pure (if h:vs.size=1 then vs[0] else .tuple vs)):=by
  unfold results
  congr 2
 rw[e,Sem.run_bind,Array.mapM_eq_mapM_toList];simp only[Sem.run_map,h,Result.andThen_ok,Sem.run_pure];cases vs with
 | nil=>simp[Qx]
 | cons v vs =>
  cases vs with
  | nil=>simp[Qx]
  | cons u vs=>simp[Qx]
theorem Ko:∀{l:List G} {k i:Nat} {g:G},look i (Np k l)=some g→∃j,i=k+j∧l[j]?=some g
 | [],k,i,g,h=>by cases h
 | g'::l,k,i,g,h=>by
  unfold Np at h;rw[A5] at h;split at h
  ·next e=>cases h;exact⟨0,by omega,rfl⟩
  ·obtain⟨j,c,b⟩:=Ko h;exact⟨j+1,by omega,by simpa using b⟩
theorem Z74 (hT:∀t i,look t tb=some i→TIok P t i)(hm:P.follows .mixedOrders=true){f:FuncId}{fn:Func}{c:Code}{q:List G}{Q:G→Prop}(hf:P.funcs[f]?=some fn)(A:(fn.name=="runtime.NumGoroutine")=false) (C:fn.body=some c) (Z:q.length≤fn.ntmps) (hc:Gs tb fn.ntmps c=true)
  (h:sxC P tb c (Np 0 q) [] 0 (Zes tb fn Q)):FnV P f q Q:=by
 refine⟨⟨fn,hf,A,by rw[C];rfl⟩,fun I w vs hM hp=>?_⟩;let V:Va:=⟨0,fun _=>0,fun _=>undef,fun _ _=>False⟩;have hH:Has I V [] w:=⟨hM,fun k r h=>(by cases h),fun k r h=>(by cases h),fun k r b h=>(by cases h),fun k k' r r' b h=>(by cases h)⟩;refine calls_of_wp hf C ?_;have hlen:vs.length=q.length:=hp.1.symm;have ha:ARep fn.ntmps I V {tmps:=vs.toArray++Array.replicate (fn.ntmps - vs.toArray.size) undef,defers:=[]} (Np 0 q):=by
  refine⟨rfl,by simp;omega,fun i g hg=>?_⟩;obtain⟨j,e,hj⟩:=Ko hg;obtain rfl:i=j:=by omega
  obtain⟨u,hu,hr⟩:=hp.get hj;refine⟨u,?_,.of_v hr⟩;have hi:=(ac.1 hu).1;show(vs.toArray++_)[i]?=_;rw[Array.getElem?_append_left (by simpa using hi)];simpa using hu
 refine Za9 (own0:=[]) (I0:=I) (V0:=V) (w0:=w) hT hm (V:=V) h ⟨hH,.refl _ _ _ _,af _,fun _ _=>rfl⟩ ha hc (fun ch d v a w B=>?_) fun e t own I1 V1 a E s O T=>?_
 ·cases d<;>exact B
 ·have key:(∀D,e≠.exit D)→bodyPost P fn (fun e w'=>∃x g I',e=.returned x∧Q g∧Mem I' w'∧VR I' g x∧(∀b o x,I b o=some x→I' b o=some x)∧(∀b o,b < w.heap.size→I' b o=I b o)∧Below w.heap.size w w') .ret a E:=fun he=>by
   refine⟨T.defers,?_⟩;have s:match fn.results.toList with
     | [r]=>Zcc tb t own [r] fun q=>match q with
      | [g]=>Q g
      | _=>False
     | rs=>Zcc tb t own rs fun q=>Q (.tup q):=by
    cases e with
    | exit D=>exact de rfl (he D)
    | goto l=>exact s.elim
    | normal=>exact s
    | ret=>exact s
   have fin:∀{q own' I' V' vs},Later own I1 V1 E own' I' V' E→PW (VRep I') q vs→∀{g x},Q g→VR I' g x→∃x' g I',Ending.returned x=.returned x'∧Q g∧Mem I' E∧VR I' g x'∧(∀b o x,I b o=some x→I' b o=some x)∧(∀b o,b < w.heap.size→I' b o=I b o)∧Below w.heap.size w E:=fun {q own' I' V' vs} Y _ {g x} B M=>by have p:=O.fro.trans Y.fro;exact⟨x,g,I',rfl,B,Y.has.mem,M,p.mono,fun b o C=>(p.blk b C fun k r s=>(by cases s)).2 o,⟨p.os,p.tape,p.output,p.size,fun b C=>(p.blk b C fun k r s=>(by cases s)).1⟩⟩
   split at s
   ·next r hr =>
    obtain⟨q,o2,I2,V2,vs,F,X,H,z,J⟩:=T9 hT s O.has T;rw[←hr] at z J;refine⟨_,Gj z J,?_⟩;cases q with
    | nil=>exact F.elim
    | cons g q =>
     cases q with
     | cons g' q=>exact F.elim
     | nil =>
      obtain⟨v,vs',rfl,M,Z⟩:=H.uncons;obtain rfl:=Z.of_nil;refine fin X H F ?_;cases g with
      | tup l=>cases M
      | _=>exact M
   ·next rs hr =>
    obtain⟨q,o2,I2,V2,vs,F,X,H,z,J⟩:=T9 hT s O.has T;refine⟨_,Gj z J,?_⟩;have W:∀v,vs≠[v]:=fun v e=>by
     rw[e] at z;cases B:fn.results.toList with
     | nil=>rw[B] at z;simp at z
     | cons r l =>
      cases l with
      | nil=>exact hr r B
      | cons r' l=>rw[B] at z;simp at z
    have e:Qx vs=.tuple vs.toArray:=by
     unfold Qx;split
     ·next v=>exact de rfl (W v)
     ·rfl
    rw[e];exact fin X H F ⟨vs,rfl,H⟩
  cases e with
  | normal=>exact key fun D h=>by cases h
  | exit D=>exact s.elim
  | goto l=>exact s.elim
  | ret=>exact key fun D h=>by cases h
theorem FnV.mono {f:FuncId}{c:List G}{Q b:G→Prop}(h:FnV P f c Q)(e:∀g,Q g→b g):FnV P f c b :=
 ⟨h.1,fun I w vs p j=>(h.2 I w vs p j).mono fun _ _ ⟨x,g,I',h1,h2,h3⟩=>⟨x,g,I',h1,e g h2,h3⟩⟩
theorem Z73 (hT:∀t i,look t tb=some i→TIok P t i){r:ResultVar}{K1:G→Os→Prop}(h:Z3a tb t own K1 r)(hH:Has I V own w)(ha:ARep N I V a t):∃g own' I' V' v,K1 g own'∧V'.n=V.n∧Later own I V w own' I' V' w∧PRep I' V' g v∧Ep P a w r v:=by
 cases r with
 | tmp i =>
  unfold Z3a at h;dsimp only at h;cases hl:look i t with
  | none=>rw[hl] at h;exact h.elim
  | some g =>
   rw[hl] at h;obtain⟨x,z,hr⟩:=ha.get i g hl;obtain⟨u,b,q,s,c,j,e,p⟩:=Z4w h hr hH;exact⟨u,b,q,s,x,c,j.1,e,p,by unfold Ep Js;simp[z]⟩
 | cell i ty =>
  obtain⟨u,b,q,s,v,c,j,e,p,A⟩:=X7 (K1:=K1) hT (show Zcj tb t own K1 (.cell i ty) from h) hH ha;exact⟨u,b,q,s,v,c,j,e,.of_v p,A⟩
end
def Zcn:G→Bool
 | .osl _ | .osv _ _ _ _ | .oel _ _ _ _=>false
 | _=>true
def Zkq:G→Bool
 | .osl _ | .osv _ _ _ _ | .oel _ _ _ _ | .orv _ _ _ _ _ _=>false
 | .clo _ a c=>match B4 Zcn a with
  | true=>B4 Zcn c
  | false=>false
 | .oag l=>B4 Zcn l
 | _=>true
structure Zci (rs:List R)(gs:List G)(own0:Os)(n0:Nat)(gs0:List G)(roots:List Nat):Prop where
 run:∀I V w vs,Has I V (Bk rs 0) w→V.n=rs.length→PW (PRep I V) gs vs→∃V2:Va,V2.n=n0∧Has I V2 own0 w∧PW (TRep I V2) gs0 vs∧Fro (Bk rs 0) I V w own0 I V2 w∧∀(i r:Nat),roots[i]?=some r→V2.b r=V.b i∧r < n0
 len:roots.length=rs.length
section
variable {P:Program} {tb:List (Nat × TI)} {N n n0:Nat} {I I' I0:Imm} {V V' V0 V2:Va} {a:Act} {t t':Ts} {own own' own0:Os} {w w' w0:World} {g:G} {x y:Value} {r:R} {k:Nat}
theorem Ci (rs:List R)(b:List G):Zci rs b (Bk rs 0) rs.length b (List.range rs.length) :=
 ⟨fun I V w vs hH c e=>⟨V,c,hH,e.mono fun _ _ h=>h.to_t,.refl _ _ _ _,fun i r h=>by have hi:=(ac.1 h).1;rw[cq (by simpa using hi)] at h;cases h;exact⟨rfl,by simpa using hi⟩⟩,by simp⟩
theorem Y5 {α:Type}(k:Nat):∀(l m:List (Nat × α)),look k (l++m)=(look k l).or (look k m)
 | [],m=>by simp[look]
 | (j,g)::l,m=>by rw[c9,A5,A5,Y5 k l m];split<;>simp
theorem Zdv {O:Os}{n0:Nat}{rest:List R}{gs gs0:List G}{own0:Os}{J:List Nat}(D:(Th n0 O&&B4 Jh rest&&B4 Zkq gs&&(look 0 O).isSome)=true)(ho:O++Bk rest n0=own0)(M:gs.map (Qs (opM 1 n0 rest))=gs0)(hr:0::(List.range rest.length).map (n0+·)=J):Zci (.abs (cl O)::rest) gs own0 (n0+rest.length) gs0 J:=by
 subst ho M hr;simp only[Bool.and_eq_true] at D;obtain⟨⟨⟨D,hno⟩,Z⟩,hO0⟩:=D;obtain⟨r0,hr0⟩:=Option.isSome_iff_exists.1 hO0;have h0:0 < n0:=(Fy D hr0).1;refine⟨fun I V w vs hH hn hp=>?_,by simp⟩;have hn:V.n=rest.length+1:=hn;obtain⟨-,W,hb0,hO,hS⟩:=hH.each 0 (.abs (cl O)) rfl;let V2:Va:=⟨n0+rest.length,fun k=>if k < n0 then W.b k else V.b (k - n0+1),fun k=>if k < n0 then W.s k else V.s (k - n0+1),fun k=>if k < n0 then W.f k else V.f (k - n0+1)⟩;have X:∀k r,look k (O++Bk rest n0)=some r→(k < n0∧look k O=some r)∨(n0≤k∧rest[k - n0]?=some r):=fun k r h=>by
  rw[Y5] at h;cases hkO:look k O with
  | some r'=>rw[hkO] at h;cases h;exact .inl ⟨(Fy D hkO).1,rfl⟩
  | none =>
   rw[hkO] at h;have h:look k (Bk rest n0)=some r:=h;rw[Mf] at h;split at h
   ·next hle=>exact .inr ⟨hle,h⟩
   ·cases h
 have lo:∀i r,rest[i]?=some r→look (i+1) (Bk (.abs (cl O)::rest) 0)=some r:=fun i r h=>by rw[Ai];simpa using h
 have F:∀k,k < n0→V2.f k=W.f k:=fun k D=>dc D;have E:∀k,n0≤k→V2.f k=V.f (k - n0+1):=fun k D=>db (by omega);have T:∀k r b,look k O=some r→W.f k b→V.f 0 b:=fun k r b D q=>(hS b).2 ⟨k,r,D,q⟩;refine⟨V2,rfl,⟨hH.mem,fun k r h=>?_,fun k r h=>?_,fun k r b h q=>?_,fun k k' r r' b h h' q A=>?_⟩,?_,⟨rfl,rfl,rfl,af _,fun _ _ _=>⟨rfl,fun _=>rfl⟩,fun _ _ _ h=>h,fun k r b h q _=>?_⟩,fun i r h=>?_⟩
 ·show k < n0+rest.length;rcases X k r h with⟨p,-⟩ | ⟨p,h2⟩
  ·omega
  ·have:=(ac.1 h2).1;omega
 ·rcases X k r h with⟨p,h2⟩ | ⟨p,h2⟩
  ·exact(hO.each k r h2).val (Fy D h2).2 (Nat.le_add_right _ _) (fun j hj=>⟨dc hj,dc hj⟩) p (F k p)
  ·exact(hH.each _ r (lo _ r h2)).lend (Ae hno r (ae h2)) (db (by omega)) (db (by omega)) (E k p)
 ·rcases X k r h with⟨p,h2⟩ | ⟨p,h2⟩
  ·rw[F k p] at q;exact hH.foot 0 _ b rfl (T k r b h2 q)
  ·rw[E k p] at q;exact hH.foot _ r b (lo _ r h2) q
 ·rcases X k r h with⟨p,h2⟩ | ⟨p,h2⟩
  ·rw[F k p] at q;rcases X k' r' h' with⟨C,h2'⟩ | ⟨C,h2'⟩
   ·rw[F k' C] at A;exact hO.disj k k' r r' b h2 h2' q A
   ·rw[E k' C] at A;have:=hH.disj _ _ _ _ b rfl (lo _ r' h2') (T k r b h2 q) A;omega
  ·rw[E k p] at q;rcases X k' r' h' with⟨C,h2'⟩ | ⟨C,h2'⟩
   ·rw[F k' C] at A;have:=hH.disj _ _ _ _ b rfl (lo _ r h2) (T k' r' b h2' A) q;omega
   ·rw[E k' C] at A;have:=hH.disj _ _ _ _ b (lo _ r h2) (lo _ r' h2') q A;omega
 ·have kb:∀k,k < V.n→(look k (opM 1 n0 rest)).getD k < V2.n∧V2.b ((look k (opM 1 n0 rest)).getD k)=V.b k:=fun k D=>by
   rw[Q0];cases k with
   | zero=>rw[db (by omega)];exact⟨by show 0 < n0+_;omega,by show(if 0 < n0 then _ else _)=_;rw[dc h0];exact hb0⟩
   | succ k =>
    rw[dc ⟨by omega,by omega⟩,Option.getD_some];have e:n0+(k+1 - 1) - n0+1=k+1:=by omega
    exact⟨by show n0+(k+1 - 1) < n0+_;omega,by show(if _ < n0 then _ else _)=_;rw[db (by omega),e]⟩
  have cr:∀g x,Zcn g=true→CRep I V g x→CRep I V2 (Kg (opM 1 n0 rest) g) x:=fun g x B h=>by
   cases g with
   | ptr k o=>exact⟨(kb k h.1).1,by rw[(kb k h.1).2];exact h.2⟩
   | mp k=>exact⟨(kb k h.1).1,by rw[(kb k h.1).2];exact h.2⟩
   | osl k=>cases B
   | osv k a b c=>cases B
   | _=>exact h
  have Y:∀l us,B4 Zcn l=true→PW (CRep I V) l us→PW (CRep I V2) (l.map (Kg (opM 1 n0 rest))) us:=fun l us B h=>⟨by simpa using h.1,fun j g u M hu=>by rw[aj] at M;obtain⟨g0,p,rfl⟩:=ay.1 M;exact cr g0 u (Ae B g0 (ae p)) (h.2 j g0 u p hu)⟩
  refine⟨by simpa using hp.1,fun j g u M hu=>?_⟩;rw[aj] at M;obtain⟨g0,p,rfl⟩:=ay.1 M;have B:=Ae Z g0 (ae p);have H:=hp.2 j g0 u p hu;cases g0 with
  | ptr k o=>exact .of_c (cr (.ptr k o) u rfl H)
  | mp k=>exact .of_c (cr (.mp k) u rfl H)
  | osl k=>cases B
  | osv k a b c=>cases B
  | oel k a b c=>cases B
  | orv k a b c d e=>cases B
  | clo f a c =>
   obtain⟨⟨g,M,D⟩,us,cs,e,k1,k2⟩:=H;have B:(match B4 Zcn a with | true=>B4 Zcn c | false=>false)=true:=B;split at B
   ·next hc1 =>
    have hk2:C2 (Kg (opM 1 n0 rest) g)=false:=by cases g<;>first | rfl | cases D
    exact .of_1 (g:=.clo f _ _) ⟨⟨_,M.imp (fun h=>ba.2 ⟨g,h,rfl⟩) (fun h=>ba.2 ⟨g,h,rfl⟩),hk2⟩,us,cs,e,Y _ _ hc1 k1,Y _ _ B k2⟩
   ·cases B
  | v z=>exact .of_v (g:=.v z) H
  | tt=>exact .of_v (g:=.tt) H
  | ff=>exact .of_v (g:=.ff) H
  | un=>exact .of_v (g:=.un) H
  | nl=>exact .of_v (g:=.nl) H
  | agg l=>exact .of_v (g:=.agg l) H
  | sl l=>exact .of_v (g:=.sl l) H
  | oag l =>
   obtain⟨-,cs,e,hp⟩:=(show(∃g∈l,C2 g=false)∧TRep1 I V (.oag l) u from H);exact .of_1 (g:=.oag _) ⟨cs,e,Y _ _ B hp⟩
  | tup l=>cases(show VRep I (.tup l) u from H)
  | elp l o=>cases(show VRep I (.elp l o) u from H)
 ·rcases X k r h with⟨p,h2⟩ | ⟨p,h2⟩
  ·rw[F k p] at q;exact⟨0,_,rfl,T k r b h2 q⟩
  ·rw[E k p] at q;exact⟨_,r,lo _ r h2,q⟩
 ·cases i with
  | zero =>
   simp at h;subst h;exact⟨(dc h0:(if 0 < n0 then W.b 0 else _)=W.b 0).trans hb0,by omega⟩
  | succ i =>
   simp only[List.getElem?_cons_succ,List.getElem?_map] at h;obtain⟨j,p,rfl⟩:=ay.1 h;have hi:i < rest.length:=by simpa using (ac.1 p).1
   rw[cq hi] at p;cases p;exact⟨(db (by omega):(if n0+i < n0 then W.b (n0+i) else V.b (n0+i - n0+1))=_).trans (by congr 1;omega),by omega⟩
theorem Mv:∀{b:List It} {i:Nat} {it:It} {k:Nat},b[i]?=some it→k∈it.keys→k∈Vc b
 | [],_,_,_,h,_=>by simp at h
 | it0::b,0,it,k,h,hk=>by simp at h;subst h;exact List.mem_append_left _ hk
 | it0::b,i+1,it,k,h,hk=>List.mem_append_right _ (Mv (by simpa using h) hk)
theorem Ql:∀{l m:List Nat},Nj (l++m)=true→Nj l=true∧Nj m=true∧∀k,k∈l→k ∉ m
 | [],m,h=>⟨rfl,h,fun k b=>by simp at b⟩
 | k::l,m,h=>by
  rw[c9] at h;unfold Nj at h;cases hm:Gc k (l++m) with
  | true=>rw[hm] at h;cases h
  | false =>
   rw[hm] at h;obtain⟨q,p,s⟩:=Ql h;have e:k ∉ l++m:=fun b=>by rw[Cr.2 b] at hm;cases hm
   refine⟨?_,p,fun j c=>?_⟩
   ·unfold Nj;have:Gc k l=false:=by
     cases hb:Gc k l with
     | false=>rfl
     | true=>exact de (List.mem_append_left _ (Cr.1 hb)) e
    rw[this];exact q
   ·rcases bi.1 c with rfl | c
    ·exact fun h=>e (List.mem_append_right _ h)
    ·exact s j c
theorem O1:∀{c:List It},Nj (Vc c)=true→∀{i j:Nat} {a b:It} {k:Nat},c[i]?=some a→c[j]?=some b→k∈a.keys→k∈b.keys→i=j
 | [],_,i,_,_,_,_,h,_,_,_=>by simp at h
 | it0::c,hn,i,j,a,b,k,hi,hj,hk,hk'=>by
  obtain⟨-,p,e⟩:=Ql (show Nj (it0.keys++Vc c)=true from hn);cases i with
  | zero =>
   cases j with
   | zero=>rfl
   | succ j=>simp at hi;subst hi;exact de (Mv (by simpa using hj) hk') (e k hk)
  | succ i =>
   cases j with
   | zero=>simp at hj;subst hj;exact de (Mv (by simpa using hi) hk) (e k hk')
   | succ j =>
    have:=O1 p (i:=i) (j:=j) (by simpa using hi) (by simpa using hj) hk hk';omega
theorem Qu:∀{b:List It},Nj (Vc b)=true→∀{i:Nat} {a:It},b[i]?=some a→Nj a.keys=true
 | [],_,i,_,h=>by simp at h
 | it0::b,hn,i,a,hi=>by
  obtain⟨c,e,-⟩:=Ql (show Nj (it0.keys++Vc b)=true from hn);cases i with
  | zero=>simp at hi;subst hi;exact c
  | succ i=>exact Qu e (by simpa using hi)
theorem M9 {n0 N:Nat}{M:List (Nat × Nat)}:∀{b:List It} {j:Nat},Zb7 own n n0 N M j b→∀{i:Nat} {a:It},b[i]?=some a→a.ok own n n0 N M (j+i)
 | [],_,_,i,_,h=>by simp at h
 | it0::b,j,hn,i,a,hi=>by
  cases i with
  | zero=>simp at hi;subst hi;exact hn.1
  | succ i =>
   have:=M9 (j:=j+1) hn.2 (i:=i) (by simpa using hi);rw[show j+1+i=j+(i+1) by omega] at this;exact this
theorem O6:∀(b:List It) (j i:Nat),look i (F6 b j)=if j≤i then(b[i - j]?).map It.root else none
 | [],j,i=>by simp[F6,look]
 | it::b,j,i=>by
  rw[F6,A5,O6 b (j+1) i];by_cases h:i=j
  ·subst h;simp
  ·by_cases c:j≤i
   ·obtain⟨d,rfl⟩:=Nat.exists_eq_add_of_le c;cases d with
    | zero=>simp at h
    | succ d=>rw[db h,dc (by omega),dc c,show j+(d+1) - (j+1)=d by omega,show j+(d+1) - j=d+1 by omega];simp
   ·rw[db h,db c,db (by omega)]
theorem Wl {it:It}{k:Nat}{r:R}(h:look k it.O=some r):ren it.m k∈it.keys:=ba.2 ⟨(k,r),Qp h,rfl⟩
theorem Pc {C:List Nat}{Q:G→List R→Prop}{q:List It}{g':G}(hE:Z5v C own V.n g Q q g')(hH:Has I V own w)(hx:PRes I V g x)(s0:Nat→Value):∃V':Va,V'.n=q.length∧Has I V' (Bk (q.map It.res) 0) w∧PRes I V' g' x∧(∀i b,V'.f i b→∃k r,look k own=some r∧V.f k b)∧(∀(i k:Nat),C[i]?=some k→V'.b i=V.b k∧i < q.length)∧∀i,i < C.length→V'.s i=s0 i:=by
 let V':Va:=⟨q.length,fun i=>V.b ((q[i]?).elim 0 It.root),fun i=>if i < C.length then s0 i else V.s ((q[i]?).elim 0 It.root),fun i b=>∃it k r,q[i]?=some it∧look k it.O=some r∧V.f (ren it.m k) b⟩;have X:∀{i:Nat} {it:It} {k:Nat} {r:R},q[i]?=some it→look k it.O=some r→∃r',look (ren it.m k) own=some r':=fun {i it k r} hi A=>by
  have hok:=M9 hE.ok hi;obtain⟨O,m,c⟩:=it;cases c with
  | true =>
   obtain⟨-,-,H⟩:=Cv (show leI m own V.n O from hok.1) A;exact⟨_,H⟩
  | false =>
   obtain⟨r0,e,F,-⟩:=hok;have e:O=[(0,r0)]:=e;subst e;have A:look k [(0,r0)]=some r:=A;rw[A5] at A;split at A
   ·next e=>subst e;exact⟨_,F⟩
   ·cases A
 have lk:∀{i:Nat} {r:R},look i (Bk (q.map It.res) 0)=some r→∃it,q[i]?=some it∧r=it.res:=fun {i r} h=>by rw[Ai,aj] at h;obtain⟨it,F,W⟩:=ay.1 h;exact⟨it,F,W.symm⟩
 have hb:∀{i:Nat} {it:It},q[i]?=some it→V'.b i=V.b (ren it.m 0):=fun {i it} h=>by show V.b ((q[i]?).elim 0 It.root)=_;rw[h];rfl
 have hs:∀{i:Nat} {it:It},q[i]?=some it→C.length≤i→V'.s i=V.s (ren it.m 0):=fun {i it} h hi=>by show(if i < C.length then s0 i else V.s ((q[i]?).elim 0 It.root))=_;rw[db (by omega),h];rfl
 have key:∀k,k < q.length→∃it,q[k]?=some it∧(look k (F6 q 0)).getD k=ren it.m 0:=fun k A=>by refine⟨q[k],ab A,?_⟩;rw[O6,dc (ah _),Nat.sub_zero,ab A];rfl
 refine⟨V',rfl,⟨hH.mem,fun i r h=>?_,fun i r h=>?_,fun i r b h hf=>?_,fun i j r r' b h h' hf hf'=>?_⟩,?_,fun i b ⟨it,k,r,F,W,E⟩=>(by obtain⟨r',H⟩:=X F W;exact⟨_,r',H,E⟩),fun i k A=>?_,fun i hi=>dc hi⟩
 ·obtain⟨it,F,-⟩:=lk h;exact(ac.1 F).1
 ·obtain⟨it,F,rfl⟩:=lk h;have hok:=M9 hE.ok F;obtain⟨O,m,c⟩:=it;cases c with
  | true =>
   obtain⟨W,r0,E⟩:=hok;have W:leI m own V.n O:=W;refine⟨Z23 O,V.ren m V.n,?_,⟨fun k r A=>(Cv W A).1,fun k r A=>Yc (Cv W A).2.1 (hH.each _ _ (Cv W A).2.2),fun k r b A hf=>(hH.foot _ _ b (Cv W A).2.2 hf).1,fun k k' r r' b A hk' hf hf'=>?_⟩,fun c=>?_⟩
   ·exact(hb F).symm
   ·exact Pj (m:=m) (l:=O) (Qu hE.nod F) A hk' (hH.disj _ _ _ _ b (Cv W A).2.2 (Cv W hk').2.2 hf hf')
   ·constructor
    ·rintro⟨it',k,r,e,A,hf⟩;rw[F] at e;cases e;exact⟨k,r,A,hf⟩
    ·rintro⟨k,r,A,hf⟩;exact⟨_,k,r,F,A,hf⟩
  | false =>
   obtain⟨r,e,hlk,hr⟩:=hok;have e:O=[(0,r)]:=e;subst e;simp only[Bool.and_eq_true] at hr;obtain⟨hr1,hr2,hr3⟩:=hr;have B:=hH.each _ _ hlk;have J:V'.f i=V.f (ren m 0):=by
    funext b;apply propext;constructor
    ·rintro⟨it',k,r',e,A,hf⟩;rw[F] at e;cases e;have A:look k [(0,r)]=some r':=A;rw[A5] at A;split at A
     ·next e=>subst e;exact hf
     ·cases A
    ·exact fun hf=>⟨_,0,r,F,rfl,hf⟩
   have M:=hb F;have Y:=hs F;show RRep I V' i w r;have B:RRep I V (ren m 0) w (Ii (F6 q 0) r):=B;cases r with
   | blk cs t =>
    obtain⟨q1,us,q2,q3⟩:=B;refine⟨fun b=>by rw[J,M];exact q1 b,us,by rw[M];exact q2,by simpa using q3.1,fun j g u hg hu=>?_⟩;have A:=Ae (show B4 (Sz q.length) cs=true from hr1) g (ae hg);have hn:=Ae (show B4 (Zea C.length) cs=true from hr2) g (ae hg);have h:=q3.2 j _ u (by rw[aj,hg];rfl) hu;cases g with
    | ptr k o =>
     have A:=da A;obtain⟨it,E,H⟩:=key k A;have h:CRep I V (.ptr ((look k (F6 q 0)).getD k) o) u:=h;rw[H] at h;exact⟨A,by rw[hb E];exact h.2⟩
    | mp k =>
     have A:=da A;obtain⟨it,E,H⟩:=key k A;have h:CRep I V (.mp ((look k (F6 q 0)).getD k)) u:=h;rw[H] at h;exact⟨A,by rw[hb E];exact h.2⟩
    | osl k =>
     have A:=da A;obtain⟨it,E,H⟩:=key k A;have h:CRep I V (.osl ((look k (F6 q 0)).getD k)) u:=h;rw[H] at h;exact⟨A,by rw[hs E (da hn)];exact h.2⟩
    | osv k a b c =>
     have A:=da A;obtain⟨it,E,H⟩:=key k A;have h:CRep I V (.osv ((look k (F6 q 0)).getD k) a b c) u:=h;rw[H] at h;exact⟨A,by rw[hs E (da hn)];exact h.2⟩
    | _=>exact h
   | slc rows e sz =>
    have hge:C.length≤0+i:=da (by simpa using hr3);have Y:=Y (by omega);exact⟨fun b=>by rw[J,Y];exact B.1 b,by rw[Y];exact B.2⟩
   | vw rows e sz =>
    have hge:C.length≤0+i:=da (by simpa using hr3);have Y:=Y (by omega);exact⟨fun b=>by rw[J,Y];exact B.1 b,by rw[Y];exact B.2⟩
   | froz rows sz =>
    have hge:C.length≤0+i:=da (by simpa using hr3);have Y:=Y (by omega);exact⟨fun b=>by rw[J];exact B.1 b,by rw[Y];exact B.2.1,B.2.2⟩
   | gone=>exact fun b=>by rw[J];exact B b
   | mpI l=>exact⟨fun b=>by rw[J,M];exact B.1 b,by rw[M];exact B.2⟩
   | mpS l=>exact⟨fun b=>by rw[J,M];exact B.1 b,by rw[M];exact B.2⟩
   | sit s pos=>exact⟨fun b=>by rw[J,M];exact B.1 b,by rw[M];exact B.2⟩
   | mpX l m ob=>exact⟨fun b=>by rw[J,M];exact B.1 b,by rw[M];exact B.2⟩
   | mit j l D last m ob=>exact⟨fun b=>by rw[J,M];exact B.1 b,by rw[M];exact B.2⟩
   | abs p=>exact⟨B.1,by rw[J,M];exact B.2⟩
   | lnk j=>cases hr1
   | adr j b =>
    have A:=da (show Nat.blt j q.length=true from hr1);obtain⟨it,E,H⟩:=key j A;have B:(∀c,¬V.f (ren m 0) c)∧(look j (F6 q 0)).getD j < V.n∧V.b ((look j (F6 q 0)).getD j)=b:=B;rw[H] at B;exact⟨fun c=>by rw[J];exact B.1 c,A,by rw[hb E];exact B.2.2⟩
   | fam ps=>exact⟨B.1,by rw[J];exact B.2⟩
 ·obtain⟨it,k,r',F,W,E⟩:=hf;obtain⟨r2,H⟩:=X F W;exact hH.foot _ _ b H E
 ·obtain⟨it,k,r1,F,W,E⟩:=hf;obtain⟨it',k',r1',h1',h2',h3'⟩:=hf';obtain⟨r2,H⟩:=X F W;obtain⟨r2',h4'⟩:=X h1' h2';have:=hH.disj _ _ _ _ b H h4' E h3';exact O1 hE.nod F h1' (Wl W) (this ▸ Wl h2')
 ·have hres:=hE.res;have T:=hE.key;simp only[Bool.and_eq_true] at T;obtain⟨⟨T,Z⟩,hrn⟩:=T;have one:∀g' x,Zbh q.length g'=true→Zik g'=true→Z3e C.length g'=true→PRe1 I V (Z5r (F6 q 0) g') x→PRe1 I V' g' x:=fun g' x F W h5 h=>by
   cases g' with
   | ptr k o =>
    have A:=da F;obtain⟨it,E,H⟩:=key k A;have h:PRep I V (.ptr ((look k (F6 q 0)).getD k) o) x:=h;rw[H] at h;exact(show PRep I V' (.ptr k o) x from⟨A,by rw[hb E];exact h.2⟩)
   | mp k =>
    have A:=da F;obtain⟨it,E,H⟩:=key k A;have h:PRep I V (.mp ((look k (F6 q 0)).getD k)) x:=h;rw[H] at h;exact(show PRep I V' (.mp k) x from⟨A,by rw[hb E];exact h.2⟩)
   | osl k =>
    have A:=da F;obtain⟨it,E,H⟩:=key k A;have h:PRep I V (.osl ((look k (F6 q 0)).getD k)) x:=h;rw[H] at h;exact(show PRep I V' (.osl k) x from⟨A,by rw[hs E (da h5)];exact h.2⟩)
   | osv k a b c=>cases W
   | oel k a b c=>cases W
   | orv k a b c d e=>cases W
   | clo f a c=>cases W
   | v z=>exact h
   | tt=>exact h
   | ff=>exact h
   | un=>exact h
   | nl=>exact h
   | agg l=>exact h
   | sl l=>exact h
   | oag l =>
    obtain⟨cs,e,hp⟩:=(show TRep1 I V (.oag (l.map (Kg (F6 q 0)))) x from h);refine(show TRep1 I V' (.oag l) x from⟨cs,e,by simpa using hp.1,fun j g u hg hu=>?_⟩);have A:=Ae (show B4 (Sz q.length) l=true from F) g (ae hg);have hn:=Ae (show B4 (Zea C.length) l=true from h5) g (ae hg);have h:=hp.2 j _ u (by rw[aj,hg];rfl) hu;cases g with
    | ptr k o =>
     have A:=da A;obtain⟨it,E,H⟩:=key k A;have h:CRep I V (.ptr ((look k (F6 q 0)).getD k) o) u:=h;rw[H] at h;exact⟨A,by rw[hb E];exact h.2⟩
    | mp k =>
     have A:=da A;obtain⟨it,E,H⟩:=key k A;have h:CRep I V (.mp ((look k (F6 q 0)).getD k)) u:=h;rw[H] at h;exact⟨A,by rw[hb E];exact h.2⟩
    | osl k =>
     have A:=da A;obtain⟨it,E,H⟩:=key k A;have h:CRep I V (.osl ((look k (F6 q 0)).getD k)) u:=h;rw[H] at h;exact⟨A,by rw[hs E (da hn)];exact h.2⟩
    | osv k a b c =>
     have A:=da A;obtain⟨it,E,H⟩:=key k A;have h:CRep I V (.osv ((look k (F6 q 0)).getD k) a b c) u:=h;rw[H] at h;exact⟨A,by rw[hs E (da hn)];exact h.2⟩
    | _=>exact h
   | tup l=>cases F
   | elp l o=>cases(show VRep I (.elp l o) x from h)
  rw[←hres] at hx;cases g' with
  | tup l =>
   obtain⟨cs,e,hp⟩:=hx;exact⟨cs,e,by simpa using hp.1,fun j g u hg hu=>one g u (Ae (show B4 (Zbh q.length) l=true from T) g (ae hg)) (Ae (show B4 Zik l=true from Z) g (ae hg)) (Ae (show B4 (Z3e C.length) l=true from hrn) g (ae hg)) (hp.2 j _ u (by rw[aj,hg];rfl) hu)⟩
  | ptr k o=>exact one (.ptr k o) x T Z hrn hx
  | mp k=>exact one (.mp k) x T Z hrn hx
  | osl k=>exact one (.osl k) x T Z hrn hx
  | osv k a b c=>cases Z
  | oel k a b c=>cases Z
  | orv k a b c d e=>cases Z
  | clo f a c=>cases Z
  | v z=>exact hx
  | tt=>exact hx
  | ff=>exact hx
  | un=>exact hx
  | nl=>exact hx
  | agg l=>exact hx
  | sl l=>exact hx
  | oag l=>exact one (.oag l) x T Z hrn hx
  | elp l o=>cases(show VRep I (.elp l o) x from hx)
 ·obtain⟨l,hl⟩:=hE.rts;have F:(q.map It.root)[i]?=some k:=by rw[hl,bl (ac.1 A).1];exact A
  rw[aj] at F;obtain⟨it,W,E⟩:=ay.1 F;exact⟨by rw[hb W,←E];rfl,(ac.1 W).1⟩
theorem K5 {α:Type}{p q:α→Bool}(b:∀x,p x=true→q x=true):∀{l:List α},B4 p l=true→B4 q l=true
 | [],_=>rfl
 | x::l,h=>by
  unfold B4 at h⊢;cases hp:p x with
  | false=>rw[hp] at h;cases h
  | true =>
   rw[hp] at h;rw[b x hp];exact K5 b h
theorem Z5e {n:Nat}(g:G)(h:C2 g=true):Sz n g=true:=by cases g<;>first | rfl | cases h
theorem Nx {n:Nat}(g:G)(h:Ho g=true):Zbh n g=true:=by
 cases g with
 | oag l=>exact K5 Z5e (show B4 C2 l=true from h)
 | clo f a c=>cases h
 | tup l=>cases h
 | ptr k o=>cases h
 | osl k=>cases h
 | osv k a b c=>cases h
 | oel k a b c=>cases h
 | orv k a b c d e=>cases h
 | mp k=>cases h
 | _=>rfl
theorem Nv {n:Nat}(g:G)(h:L1 g=true):Z7y n g=true:=by
 cases g with
 | tup l=>exact K5 Nx (show B4 Ho l=true from h)
 | oag l=>exact Nx (.oag l) h
 | clo f a c=>cases h
 | ptr k o=>cases h
 | osl k=>cases h
 | osv k a b c=>cases h
 | oel k a b c=>cases h
 | orv k a b c d e=>cases h
 | mp k=>cases h
 | _=>rfl
theorem Xo {n:Nat}{g:G}(h:Ho g=true):Z3e n g=true:=by
 cases g with
 | oag l=>exact K5 (fun g h=>by cases g<;>first | rfl | cases h) (show B4 C2 l=true from h)
 | osl k=>cases h
 | _=>rfl
theorem X5 {n:Nat}{g:G}(h:L1 g=true):Zku n g=true:=by
 cases g with
 | tup l=>exact K5 (fun g h=>Xo h) (show B4 Ho l=true from h)
 | oag l=>exact Xo (g:=.oag l) h
 | osl k=>cases h
 | _=>rfl
theorem V7 (r:R)(b:List G):Zci [r] b [(0,r)] 1 b [0]:=Ci [r] b
theorem S4 (b:List G):Zci [] b [] 0 b []:=Ci [] b
theorem A6 {O:Os}{n0:Nat}{b:List G}(c:(Th n0 O&&B4 Jh []&&B4 Zkq b&&(look 0 O).isSome)=true):Zci [.abs (cl O)] b O n0 b [0] :=
 Zdv c (by simp[Bk]) (by show b.map (Qs [])=b;rw[funext Vs];simp) rfl
def itL:List (Nat × R)→List It
 | []=>[]
 | (k,r)::l=>⟨[(0,r)],[(0,k)],false⟩::itL l
theorem A7 {Q:G→List R→Prop}{p:Ob}(h:look 0 own=some (.abs p))(b:(L1 g&&Zj3 g)=true)(e:Q g [.abs p]):∃c j,Z5v [0] own n g Q c j:=by simp only[Bool.and_eq_true] at b;exact⟨[⟨[(0,.abs p)],[],false⟩],g,⟨⟨⟨_,rfl,h,rfl⟩,trivial⟩,rfl,⟨[],rfl⟩,Kf b.1,by rw[Nv g b.1,b.2,X5 b.1];rfl,e⟩⟩
theorem A1 {Q:G→List R→Prop}(O:Os)(m:List (Nat × Nat))(q:leI m own n O)(h:(look 0 m).getD 0=0)(j:∃r,look 0 O=some r)(hd:Nj (O.map fun p=>(look p.1 m).getD p.1)=true)(b:(L1 g&&Zj3 g)=true)(e:Q g [.abs (cl O)]):∃c s,Z5v [0] own n g Q c s:=by
 simp only[Bool.and_eq_true] at b;refine⟨[⟨O,m,true⟩],g,⟨⟨⟨q,j⟩,trivial⟩,?_,⟨[],?_⟩,Kf b.1,by rw[Nv g b.1,b.2,X5 b.1];rfl,e⟩⟩
 ·show Nj (O.map (fun p=>(look p.1 m).getD p.1)++[])=true;rw[cz];exact hd
 ·show [(look 0 m).getD 0]=[0]++[];rw[h];rfl
end
end Go.Proofs.YtihfaocdpmmooaaGreat

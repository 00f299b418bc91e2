
import Derived.Test.YtmmdikhljefeiaaGreatSxMa
import Derived.OrdersHeld
import Derived.Deep.RegionHeld
import Derived.Test.YtmmdikhljefeiaaGreatSxMb
import Derived.Deep.LoopGhost
import Derived.ScopeJumps
namespace Go.Proofs.YtmmdikhljefeiaaGreat
open Go.RowKit
section
variable {P:Program} {md:Region.Mode} {ops:Array Oper} {Q:Exit->Act->World->Prop} {S:World->Prop} {late:List Nat}
def Po (md:Region.Mode)(ops:Array Oper):Nat->Nat->Nat->Bool
 | 0,_,_=>false
 | n+1,j,i=>match ops[j]? with
  | some o=>o.after.toList.any λe=>Region.binds md e&&(e.on==i||Po md ops n e.on i)
  | none=>false
def Eo (md:Region.Mode)(ops:Array Oper)(b:Array Bool):Prop:=∀j o,ops[j]?=some o->b.getD j false=true->∀e∈o.after,Region.binds md e=true->b.getD e.on false=true
theorem Jr {b:Array Bool}(z:Eo md ops b){i:Nat}:∀(n j:Nat),(∀o,ops[j]?=some o->∀e∈o.after,Region.binds md e=true->b.getD e.on false=true)->Po md ops n j i=true->b.getD i false=true
 | 0,_,_,h=>by cases h
 | n+1,j,hj,h=>by
  unfold Po at h;cases ho:ops[j]? with
  | none=>rw[ho] at h;cases h
  | some o =>
   rw[ho] at h;obtain⟨e,B,s⟩:=List.any_eq_true.1 h;rw[bd,Bool.or_eq_true] at s;have q:e∈o.after:=by simpa using B
   have u:=hj o ho e q s.1;rcases s.2 with c | c
   .have:e.on=i:=by simpa using c
    rw[<-this];exact u
   .exact Jr z n e.on (λA p=>z e.on A p u) c
theorem Cz {b:Array Bool}(A:Eo md ops b){i:Nat}(hr:i∈Region.ready md ops b):Eo md ops (b.setIfInBounds i true):=λj o s u e z q=>by
 by_cases h:i=j
 .subst h;obtain⟨_,B,c,p⟩:=mem_ready.1 hr;rw[s] at c;injection c with c;subst c;exact getD_set_true (p e z q)
 .rw[getD_set_ne false h] at u;exact getD_set_true (A j o s u e z q)
theorem Jy (n:Nat)(c:n=ops.size):Eo md ops (Array.replicate n false):=λj o e h=>by have b:j < ops.size:=(bx.1 e).1;subst c;simp[b] at h
def Z09 (P:Program)(md:Region.Mode)(ops:Array Oper)(Q:Exit->Act->World->Prop)(S:World->Prop)(late:List Nat):Nat->Array Bool->Act->World->Prop
 | 0,b,a,w=>Region.ready md ops b=[]/\Q .normal a w
 | fuel+1,b,a,w =>
  (Region.ready md ops b=[]->Q .normal a w) /\
  ∀i∈Region.ready md ops b,wpOp P ops Q i (λc w'=>(i ∉ late->S w')/\(Eo md ops (b.setIfInBounds i true)->Z09 P md ops Q S late fuel (b.setIfInBounds i true) c w')) a w
def Z91 (md:Region.Mode)(ops:Array Oper)(late:List Nat)(i:Nat):Bool:=late.all λj=>Po md ops ops.size j i
def AllL (P:Program)(md:Region.Mode)(ops:Array Oper)(Q:Exit->Act->World->Prop)(S:World->Prop)(late:List Nat)(c:Nat)(b:Array Bool)(a:Act)(w:World)(rs:List Nat):Prop :=
 ∀i∈rs,wpOp P ops Q i (λe w'=>(i ∉ late->S w')/\(Eo md ops (b.setIfInBounds i true)->Z09 P md ops Q S late c (b.setIfInBounds i true) e w')) a w
theorem AllL.nil {c:Nat}{b:Array Bool}{a:Act}{w:World}:AllL P md ops Q S late c b a w []:=λ_ h=>by cases h
theorem AllL.cons {c:Nat}{b:Array Bool}{a:Act}{w:World}{i:Nat}{e:Oper}{rs:List Nat}(u:ops[i]?=some e)
  (h:∀K:Act->World->Prop,Shut (∀a w,(i ∉ late->S w)->((i ∉ late->S w)->Eo md ops (b.setIfInBounds i true)->Z09 P md ops Q S late c (b.setIfInBounds i true) a w)->K a w)->if Region.wanted e (yielded ops a.tmps)=true then e.wp P a w K Q else K (a.put e.dst undef) w)
  (A:AllL P md ops Q S late c b a w rs):AllL P md ops Q S late c b a w (i::rs):=λj p=>by
 rcases bo.1 p with rfl | p
 .exact wpOp_step u (λK s=>h K (λa w q z=>s a w ⟨q,z q⟩))
 .exact A j p
end
section
variable {P:Program} {ops:Array Oper} {Q:Exit->Act->World->Prop} {w0 w:World} {L:List (Nat × List Value × TypeId)} {U:List (World × List Nat)} {a:Act} {o:Oper} {ty t:TypeId} {i g k:Nat} {row:List Value} {v:Value}
theorem Env.sub {b:List (World × List Nat)}(h:Env w0 w L U)(e:∀q∈b,q∈U):Env w0 w L b:=⟨h.blw,h.own,h.sep,λq c=>h.sn q (e q c)⟩
theorem Fe (b:o.guard=none):Region.wanted o (yielded ops a.tmps)=true:=by unfold Region.wanted;rw[b]
theorem Z7c {S:World->Prop}(b:Region.wanted o (yielded ops a.tmps)=false):YieldsIf P ops S o undef a:=.inr ⟨b,rfl⟩
theorem Z5u {S:World->Prop}(b:Region.wanted o (yielded ops a.tmps)=true)(hr:∀w,S w->(execOp a.eval o).run P w=.ok (.value v) w):YieldsIf P ops S o v a:=.inl ⟨b,hr⟩
end
section
variable {P:Program} {ops:Array Oper} {w0 w:World} {L:List (Nat × List Value × TypeId)} {U:List (World × List Nat)} {a:Act} {o:Oper} {α:Type} {sz:Nat} {f:α->List Value} {l:List α}
end
section
variable {P:Program} {md:Region.Mode} {ops:Array Oper} {Q:Exit->Act->World->Prop} {S:World->Prop} {late:List Nat}
def Zas (S:World->Prop):Prop:=∀w u,S w->Below w.heap.size w u->S u
def wpAnyG (P:Program)(md:Region.Mode)(ops:Array Oper)(Q:Exit->Act->World->Prop)(late:List Nat):Nat->(World->Prop)->Array Bool->Act->World->Prop
 | 0,_,b,a,w=>∀u,Below w.heap.size w u->Region.ready md ops b=[]/\Q .normal a u
 | fuel+1,S,b,a,w=>∀u,Below w.heap.size w u ->
  (Region.ready md ops b=[]->Q .normal a u) /\
  ∀i∈Region.ready md ops b,wpOp P ops Q i (λe w'=>∃c:World->Prop,(i ∉ late->∀u,c u->S u)/\c w'/\Zas c/\(Eo md ops (b.setIfInBounds i true)->wpAnyG P md ops Q late fuel c (b.setIfInBounds i true) e w')) a u
theorem Mq:∀(c:Nat) (S:World->Prop) (b:Array Bool) (a:Act) (w:World),Eo md ops b->wpAnyG P md ops Q late c S b a w->wpAny P md ops Q c b a w
 | 0,_,_,_,_,_,h=>h _ (.refl _ _)
 | c+1,_,_,_,_,hc,h=>have h:=h _ (.refl _ _);⟨h.1,λi e=>wpOp_mono (λp w' ⟨j,_,_,_,h'⟩=>Mq c j _ p w' (Cz hc e) (h' (Cz hc e))) (h.2 i e)⟩
theorem wpAnyG.grow {c:Nat}{S:World->Prop}{b:Array Bool}{a:Act}{w u:World}(h:wpAnyG P md ops Q late c S b a w)(e:Below w.heap.size w u):wpAnyG P md ops Q late c S b a u:=by
 cases c with
 | zero=>exact λv j=>h v (e.trans (j.mono e.size))
 | succ n=>exact λv j=>h v (e.trans (j.mono e.size))
theorem YieldsIf.sub {o:Oper}{v:Value}{a:Act}{b:World->Prop}(h:YieldsIf P ops S o v a)(e:∀u,b u->S u):YieldsIf P ops b o v a :=
 h.imp (λh=>⟨h.1,λu c=>h.2 u (e u c)⟩) id
theorem Pi {i N:Nat}{W:Oper}{v:Value}(hi:ops[i]?=some W)(J:∀(j:Nat) (o:Oper) cs b,ops[j]?=some o->o.op≠.select cs b)
  (hQ:∀c a w,Q (.panic c) (a.put W.dst v) w->Q (.panic c) a w) (X:∀j∈late,Po md ops N j i=true) :
  ∀(s:Nat) (S:World->Prop) (p:Array Bool) (a:Act) (w:World),Eo md ops p ->
   (∀j O,ops[j]?=some O->j≠i->p.getD j true=false->(∀e∈O.after,Region.binds md e=true->e.on≠i)->W.apart ops O=true) ->
   i∈Region.ready md ops p->YieldsIf P ops S W v a->S w->Zas S ->
   wpAnyG P md ops Q late s S (p.setIfInBounds i true) (a.put W.dst v) w->wpAnyG P md ops Q late (s+1) S p a w:=by
 intro s
 induction s with
 | zero =>
  intro S p a w hc _ hr hy Z T H u A;refine⟨λh=>(by rw[h] at hr;cases hr),λj hj=>?_⟩;by_cases q:j=i
  .subst q;exact hy.wpOp hi (T _ _ Z A) ⟨S,λ_ _ h=>h,T _ _ Z A,T,λ_=>H.grow A⟩
  .have:=ready_mono hj q;rw[(H u A).1] at this;cases this
 | succ s ih =>
  intro S p a w hc z hr hy Z T H u A;refine⟨λh=>(by rw[h] at hr;cases hr),λj hj=>?_⟩;by_cases q:j=i
  .subst q;exact hy.wpOp hi (T _ _ Z A) ⟨S,λ_ _ h=>h,T _ _ Z A,T,λ_=>H.grow A⟩
  .have h1:=(H u A).2 j (ready_mono hj q);obtain⟨F,O,C,D⟩:=mem_ready.1 hj;have E:=(mem_ready.1 hr).1;have M:∀{b:Bool},p.getD i b=true->b=false->False:=λY hb0=>by
    subst hb0;rcases Nat.lt_or_ge i p.size with h' | h'
    .simp[h'] at E Y;rw[E] at Y;cases Y
    .simp[Array.getElem?_eq_none h'] at Y
   have hjl:j ∉ late:=λhm=>M (Jr hc N j (λo ho=>by rw[C] at ho;injection ho with ho;subst ho;exact D) (X j hm)) rfl
   have hnot:∀e∈O.after,Region.binds md e=true->e.on≠i:=λe he Y heq=>by have h1:=D e he Y;rw[heq] at h1;exact M h1 rfl
   have h2:=wpOp_putIf C (z j O C q F hnot) (λcs b=>J i W cs b hi) (λcs b=>J j O cs b C) hQ hy h1;have B:∀k ok,ops[k]?=some ok->k≠i->(p.setIfInBounds j true).getD k true=false ->
     (∀e∈ok.after,Region.binds md e=true->e.on≠i)->W.apart ops ok=true:=λk ok hk hki hun hno=>by
    refine z k ok hk hki ?_ hno;by_cases hjk:j=k
    .subst hjk;exact F
    .rw[getD_set_ne true hjk] at hun;exact hun
   refine wpOp_mono (λa' w' h3=>?_) h2;obtain⟨hy3,S',hs1,hs2,hs3,h3⟩:=h3;refine⟨S',hs1,hs2,hs3,λhcj=>ih S' (p.setIfInBounds j true) a' w' hcj B (ready_mono hr (Ne.symm q)) (YieldsIf.sub (S:=S) hy3 (hs1 hjl)) hs2 hs3 ?_⟩;rw[Array.setIfInBounds_comm _ _ q];exact h3 (by rw[Array.setIfInBounds_comm _ _ (Ne.symm q)];exact Cz hcj (ready_mono hr (Ne.symm q)))
theorem O8 {i:Nat}{J:Oper}{v:Value}(hi:ops[i]?=some J)(C:∀(j:Nat) (o:Oper) cs b,ops[j]?=some o->o.op≠.select cs b)
  (hQ:∀c a w,Q (.panic c) (a.put J.dst v) w->Q (.panic c) a w) :
  ∀(s:Nat) (S:World->Prop) (p:Array Bool) (a:Act) (w:World),Eo md ops p ->
   (∀j E,ops[j]?=some E->j≠i->p.getD j true=false->(∀e∈E.after,Region.binds md e=true->e.on≠i)->J.apart ops E=true) ->
   i∈Region.ready md ops p->YieldsIf P ops (λ_=>True) J v a->S w->Zas S ->
   wpAnyG P md ops Q late s S (p.setIfInBounds i true) (a.put J.dst v) w->wpAnyG P md ops Q late (s+1) S p a w:=by
 intro s
 induction s with
 | zero =>
  intro S p a w hc _ hr hy hS T H u F;refine⟨λh=>(by rw[h] at hr;cases hr),λj hj=>?_⟩;by_cases q:j=i
  .subst q;exact hy.wpOp hi trivial ⟨S,λ_ _ h=>h,T _ _ hS F,T,λ_=>H.grow F⟩
  .have:=ready_mono hj q;rw[(H u F).1] at this;cases this
 | succ s ih =>
  intro S p a w hc z hr hy hS T H u F;refine⟨λh=>(by rw[h] at hr;cases hr),λj hj=>?_⟩;by_cases q:j=i
  .subst q;exact hy.wpOp hi trivial ⟨S,λ_ _ h=>h,T _ _ hS F,T,λ_=>H.grow F⟩
  .have M:=(H u F).2 j (ready_mono hj q);obtain⟨D,E,O,W⟩:=mem_ready.1 hj;have B:=(mem_ready.1 hr).1;have hnot:∀e∈E.after,Region.binds md e=true->e.on≠i:=λe he hb heq=>by
    have M:=W e he hb;rw[heq] at M;rcases Nat.lt_or_ge i p.size with h' | h'
    .simp[h'] at B M;rw[B] at M;cases M
    .simp[Array.getElem?_eq_none h'] at M
   have h2:=wpOp_putIf O (z j E O q D hnot) (λcs b=>C i J cs b hi) (λcs b=>C j E cs b O) hQ hy M;have A:∀k ok,ops[k]?=some ok->k≠i->(p.setIfInBounds j true).getD k true=false ->
     (∀e∈ok.after,Region.binds md e=true->e.on≠i)->J.apart ops ok=true:=λk ok hk hki hun hno=>by
    refine z k ok hk hki ?_ hno;by_cases Y:j=k
    .subst Y;exact D
    .rw[getD_set_ne true Y] at hun;exact hun
   refine wpOp_mono (λa' w' h3=>?_) h2;obtain⟨hy3,S',hs1,X,hs3,h3⟩:=h3;refine⟨S',hs1,X,hs3,λZ=>ih S' (p.setIfInBounds j true) a' w' Z A (ready_mono hr (Ne.symm q)) hy3 X hs3 ?_⟩;rw[Array.setIfInBounds_comm _ _ q];exact h3 (by rw[Array.setIfInBounds_comm _ _ (Ne.symm q)];exact Cz Z (ready_mono hr (Ne.symm q)))
def CallsTo (P:Program)(ops:Array Oper)(o:Oper)(v:Value)(a:Act):Prop :=
 Region.wanted o (yielded ops a.tmps)=true/\∃f vs,(∀w,(execOp a.eval o).run P w=.ok (.enter f vs) w)/\∀w,Calls P f vs w λe w'=>e=.returned v/\Below w.heap.size w w'
theorem CallsTo.wpOp {i:Nat}{o:Oper}{v:Value}{a:Act}(j:ops[i]?=some o)(s:CallsTo P ops o v a){K:Act->World->Prop}{w:World}(h:∀w',Below w.heap.size w w'->K (a.put o.dst v) w'):wpOp P ops Q i K a w:=by obtain⟨q,f,vs,b,c⟩:=s;unfold Go.wpOp;simp only[j,q,if_true];refine .inl ?_;unfold Oper.wp;rw[b w,Oper.upon_enter];refine(c w).mono λe w' ⟨p,hb⟩=>?_;subst p;exact h w' hb
theorem CallsTo.of_same {o:Oper}{v:Value}{a b:Act}(c:CallsTo P ops o v a)(e:execOp b.eval o=execOp a.eval o)(h:Region.wanted o (yielded ops b.tmps)=Region.wanted o (yielded ops a.tmps)):CallsTo P ops o v b:=by unfold CallsTo at *;rw[e,h];exact c
theorem Xd {j:Nat}{p s:Oper}{v:Value}(T:ops[j]?=some s)(F:p.apart ops s=true)(D:∀cs b,p.op≠.select cs b)(B:∀cs b,s.op≠.select cs b)
  (M:∀c a w,Q (.panic c) (a.put p.dst v) w->Q (.panic c) a w) {K:Act->World->Prop} {a:Act} {w:World} (A:CallsTo P ops p v a) (h:wpOp P ops Q j K (a.put p.dst v) w):wpOp P ops Q j (λJ w'=>CallsTo P ops p v J/\K (J.put p.dst v) w') a w:=by
 obtain⟨E,O,H⟩:=Oper.apart_spec F;have stay:∀{b:Act},CallsTo P ops p v b->∀u,CallsTo P ops p v (b.put s.dst u):=λ{b} W u=>W.of_same (execOp_put p D b s.dst u H) (wanted_put p b s.dst u H);have q:∀(b:Act) (u:Value),(b.put p.dst v).put s.dst u=(b.put s.dst u).put p.dst v:=λb u=>Act.put_comm b v u O;unfold Go.wpOp at h⊢;simp only[T] at h⊢;rw[wanted_put s a p.dst v E] at h;cases hw:Region.wanted s (yielded ops a.tmps) with
 | false =>
  rw[hw] at h;have h:K ((a.put p.dst v).put s.dst undef) w:=h;rw[q] at h;exact⟨stay A _,h⟩
 | true =>
  rw[hw] at h;have h:(s.wp P (a.put p.dst v) w K Q\/(s.asks P (a.put p.dst v) w/\LetsOut Q)):=h;show(s.wp P a w _ Q\/(s.asks P a w/\LetsOut Q));rcases h with h | ⟨h,hl⟩
  .refine .inl ?_;unfold Oper.wp at h⊢;rw[execOp_put s B a p.dst v E] at h;generalize (execOp a.eval s).run P w=res at h⊢;cases res with
   | ok nx w' =>
    cases nx<;>simp only[Oper.upon] at h⊢
    case value u=>rw[q] at h;exact⟨stay A u,h⟩
    case skip=>rw[q] at h;exact⟨stay A _,h⟩
    case defer d =>
     have e:=q {a with defers:=d::a.defers} undef;refine⟨stay (b:={a with defers:=d::a.defers}) (A.of_same rfl rfl) _,?_⟩;rw[<-e,<-Act.put_defers];exact h
    case enter f vs =>
     refine Calls.mono h λe C z=>?_;cases e with
     | returned u=>have z:K ((a.put p.dst v).put s.dst u) C:=z;rw[q] at z;exact⟨stay A u,z⟩
     | panicked c=>exact M _ _ _ z
     | outgrown=>exact z
    case row row vs=>exact Rows.mono h λu C z=>by rw[q] at z;exact⟨stay A u,z⟩
   | halt x w' =>
    cases x<;>simp only[Oper.upon] at h⊢
    case panic u=>exact M _ _ _ h
  .refine .inr ⟨?_,hl⟩;unfold Oper.asks at h⊢;rw[execOp_put s B a p.dst v E] at h;exact h
theorem Of {i:Nat}{O:Oper}{v:Value}(hi:ops[i]?=some O)(C:∀(j:Nat) (o:Oper) cs b,ops[j]?=some o->o.op≠.select cs b)
  (hQ:∀c a w,Q (.panic c) (a.put O.dst v) w->Q (.panic c) a w) :
  ∀(s:Nat) (S:World->Prop) (p:Array Bool) (a:Act) (w:World),Eo md ops p ->
   (∀j E,ops[j]?=some E->j≠i->p.getD j true=false->(∀e∈E.after,Region.binds md e=true->e.on≠i)->O.apart ops E=true) ->
   i∈Region.ready md ops p->CallsTo P ops O v a->S w->Zas S ->
   wpAnyG P md ops Q late s S (p.setIfInBounds i true) (a.put O.dst v) w->wpAnyG P md ops Q late (s+1) S p a w:=by
 intro s
 induction s with
 | zero =>
  intro S p a w hc _ hr hy hS F H u J;refine⟨λh=>(by rw[h] at hr;cases hr),λj hj=>?_⟩;by_cases q:j=i
  .subst q;exact hy.wpOp hi λw' M=>⟨S,λ_ _ h=>h,F _ _ (F _ _ hS J) M,F,λ_=>(H.grow J).grow M⟩
  .have:=ready_mono hj q;rw[(H u J).1] at this;cases this
 | succ s ih =>
  intro S p a w hc z hr hy hS F H u J;refine⟨λh=>(by rw[h] at hr;cases hr),λj hj=>?_⟩;by_cases q:j=i
  .subst q;exact hy.wpOp hi λw' M=>⟨S,λ_ _ h=>h,F _ _ (F _ _ hS J) M,F,λ_=>(H.grow J).grow M⟩
  .have T:=(H u J).2 j (ready_mono hj q);obtain⟨D,E,W,X⟩:=mem_ready.1 hj;have B:=(mem_ready.1 hr).1;have hnot:∀e∈E.after,Region.binds md e=true->e.on≠i:=λe he M heq=>by
    have T:=X e he M;rw[heq] at T;rcases Nat.lt_or_ge i p.size with h' | h'
    .simp[h'] at B T;rw[B] at T;cases T
    .simp[Array.getElem?_eq_none h'] at T
   have h2:=Xd W (z j E W q D hnot) (λcs b=>C i O cs b hi) (λcs b=>C j E cs b W) hQ hy T;have A:∀k ok,ops[k]?=some ok->k≠i->(p.setIfInBounds j true).getD k true=false ->
     (∀e∈ok.after,Region.binds md e=true->e.on≠i)->O.apart ops ok=true:=λk ok hk hki hun hno=>by
    refine z k ok hk hki ?_ hno;by_cases Z:j=k
    .subst Z;exact D
    .rw[getD_set_ne true Z] at hun;exact hun
   refine wpOp_mono (λa' w' h3=>?_) h2;obtain⟨hy3,S',hs1,Y,hs3,h3⟩:=h3;refine⟨S',hs1,Y,hs3,λhcj=>ih S' (p.setIfInBounds j true) a' w' hcj A (ready_mono hr (Ne.symm q)) hy3 Y hs3 ?_⟩;rw[Array.setIfInBounds_comm _ _ q];exact h3 (by rw[Array.setIfInBounds_comm _ _ (Ne.symm q)];exact Cz hcj (ready_mono hr (Ne.symm q)))
end
section
variable {P:Program} {tb:List (Nat × TI)} {N n:Nat} {I I' I0:Imm} {V V' V0:Va} {a:Act} {t:Ts} {own own' own0:Os} {w w' w0:World} {g:G} {y:Value} {d:Option Tmp}
variable {XL:List Nat} {mo:Mo} {S:World->Prop} {K:Ts->Os->Nat->Prop} {next:Act->World->Prop} {Q:Exit->Act->World->Prop} {o:Oper}
theorem Qc (hT:∀t i,look t tb=some i->TIok P t i)(s:∀k∈mo.xl,∃r,look k own=some r)(B:isR tb o=true->∀u,S u->Agree V mo.xl w u)(j:isQ tb o=true)(h:J0 P tb mo o t own V.n K)(hH:Has I V own w)(ha:ARep N I V a t):QOk S P I V own w a t o K:=by
 obtain⟨dst,op,type,pos,after,guard⟩:=o;cases op with
 | move x=>exact Z5a hH ha (.inl rfl) h
 | assign x =>
  unfold J0 at h;unfold isQ at j;dsimp only at h j;split at h
  .cases j
  .exact Z5a hH ha (.inr rfl) h
 | pick c x y=>exact Z9b hH ha rfl h
 | load ty x=>exact Z9t hT hH ha s (B rfl) rfl h
 | fieldAddr ty x f=>exact S6 hT hH ha rfl h
 | field ty x f=>exact Z7o hT hH ha rfl h
 | indexAddr ty x i=>exact T0 hT hH ha rfl h
 | index ty x i=>exact Z70 hT hH ha rfl h
 | binOp op ty x y ty'=>exact Z9c hT hH ha rfl h
 | unOp op ty x =>
  cases op with
  | not=>exact Zcs hH ha rfl h
  | _=>exact False.elim h
 | extract x i=>exact Xt hH ha rfl h
 | nilCheck x=>exact Wt hH ha rfl h
 | sliceToArrayPointer ty x=>exact Zck hT hH ha rfl h
 | makeFunc fn p q =>
  cases fn with
  | func f=>exact Wi hH ha rfl h
  | _=>exact False.elim h
 | lookup ty x i ok=>exact Z3d hT s (B rfl) hH ha rfl h
 | build ty parts=>exact Z6c hT hH ha rfl h
 | slice ty x lo hi mx =>
  cases mx with
  | some mx =>
   unfold J0 at h;dsimp only at h;cases lo with
   | some lo=>exact False.elim h
   | none =>
    cases hi with
    | none=>exact False.elim h
    | some hx=>exact Z3y hT hH ha rfl h
  | none=>exact Z78 hT hH ha rfl j h
 | convert src dst x =>
  unfold J0 at h;unfold isQ at j;dsimp only at h j;split at h
  .next p q C A =>
   rw[C,A] at j;dsimp only at j;split at h
   .next e sz E D=>rw[E,D] at j;cases j
   .exact Zbd hT (B rfl) hH ha rfl C A h
  .exact h.elim
 | call c =>
  obtain⟨callee,args,argTypes⟩:=c;cases callee with
  | builtin b =>
   cases b with
   | len =>
    obtain⟨args⟩:=args;obtain⟨argTypes⟩:=argTypes;unfold J0 at h;dsimp only at h;split at h
    .next x ty =>
     split at h
     .next z=>exact Z9g hH ha ((hT _ _ z).str rfl) rfl h
     .next e z=>exact Zab hH ha ((hT _ _ z).elem _ _ rfl).1 rfl h
     .next str e z =>
      refine Z9z hT s (B ?_) hH ha z rfl rfl h;show Mg (Zbx tb) [ty]=true;unfold Mg Zbx Pc;rw[z];rfl
     .exact h.elim
    .exact h.elim
   | max =>
    obtain⟨args⟩:=args;unfold J0 at h;dsimp only at h;split at h
    .exact Zcz hH ha rfl h
    .exact h.elim
   | min =>
    obtain⟨args⟩:=args;unfold J0 at h;dsimp only at h;split at h
    .exact Zco hH ha rfl h
    .exact h.elim
   | _=>cases j
  | _=>cases j
 | _=>cases j
def Yg (o:Oper):Bool:=match o.op with
 | .call c=>match c.callee with
  | .value _=>true
  | _=>false
 | _=>false
theorem Y9 (hT:∀t i,look t tb=some i->TIok P t i)(C:Yg o=true->mo=.new)(j:isQ tb o=false)(B:isL tb o=false)(h:J0 P tb mo o t own V.n K)(hH:Has I V own w)(ha:ARep N I V a t)(hd:∀i,o.dst=some i->i < N)(s:NxtB N own I V w K next):o.wp P a w next Q:=by
 obtain⟨dst,op,type,pos,after,guard⟩:=o;cases op with
 | assign x =>
  unfold J0 at h;unfold isQ at j;dsimp only at h j;split at h
  .split at h
   .next e sz _ _ B=>exact Zar s hH ha hd ((hT _ _ B).elem _ _ rfl).2.choose_spec.choose_spec.2.2.2.2.1 rfl h
   .exact Rc (g:=.nl) s ha hd (by rfl) (.refl hH) (ab _ _) (.refl _) (.of_v .nl) h
  .next T =>
   split at j
   .exact dq rfl (T · )
   .cases j
 | convert src dst x =>
  unfold J0 at h;unfold isQ at j;dsimp only at h j;split at h
  .next p q O F =>
   rw[O,F] at j;dsimp only at j;split at h
   .next e sz A D =>
    split at h
    .next W=>exact Z24 hH ha hd s rfl ((hT _ _ O).str A) ((hT _ _ F).elem _ _ D).1 (TIok.u8 hT W) h
    .exact h.elim
   .next M =>
    split at j
    .next e A D=>exact dq D (λD=>(by obtain⟨e,sz⟩:=e;exact M e sz A D))
    .cases j
  .exact h.elim
 | alloc ty=>exact Z4i hT s hH ha hd rfl h
 | box ty x=>exact Z92 s hH ha hd rfl h
 | slice ty z lo hi mx =>
  cases mx with
  | some mx =>
   unfold isQ at j;unfold J0 at h;dsimp only at j h;cases lo with
   | some lo=>exact False.elim h
   | none =>
    cases hi with
    | none=>exact False.elim h
    | some T =>
     split at j
     .next B=>rw[B] at h;exact False.elim h
     .cases j
  | none =>
   unfold isQ at j;unfold J0 at h;dsimp only at j h;split at j
   .next e1 sz e2 e3 e4 B =>
    rw[B] at h;split at h
    .next A=>cases A
    .next A=>cases A
    .next A=>cases A;exact Z22 hT hH ha hd s B rfl h
    .next A=>cases A;exact Z47 hT hH ha hd s B rfl h
    .exact h.elim
   .cases j
 | buildSlice ty len parts=>exact Od hT s hH ha hd rfl h
 | makeSlice ty len cap=>exact Pk hT s hH ha hd rfl h
 | call c =>
  obtain⟨callee,args,argTypes⟩:=c;cases callee with
  | builtin b=>cases b<;>first | (cases j;done) | (cases B;done) | exact False.elim h
  | value f =>
   have C:=C rfl;subst C;refine O1 (fo:=f) rfl rfl hH ha hd h λt own' I' V' a' w' E u X H=>?_;obtain⟨ks,Y,m2,m3,Z⟩:=X rfl;cases ks with
   | cons k ks=>cases Y
   | nil=>exact s _ _ _ _ _ _ E u ⟨u.fro.os,u.fro.tape,u.fro.output,u.fro.size,λb J=>m3 b J λk E=>by simp at E⟩ (λk E b J=>(Z k E b J).elim id λh=>(h.1 rfl).elim) H
  | invoke r m=>exact False.elim h
 | makeMap ty r =>
  cases r with
  | some r=>exact False.elim h
  | none=>exact W2 hH ha hd s rfl h
 | range ty x=>exact False.elim h
 | _=>first | (cases j;done) | (cases B;done) | exact False.elim h
theorem Z5r (hT:∀t i,look t tb=some i->TIok P t i)(z:isL tb o=true)(h:J0 P tb mo o t own V.n K)(p:Since own0 I0 V0 w0 own I V w)(ha:ARep N I V a t)(hd:∀i,o.dst=some i->i < N)(q:Nxt N own0 I0 V0 w0 K next):o.wp P a w next Q:=by
 obtain⟨dst,op,type,pos,after,guard⟩:=o;cases op with
 | store ty x y=>exact Z50 hT q p ha hd rfl h
 | mapUpdate ty m k x=>exact Zl hT p q ha hd (.inl rfl) h
 | insert ty m k x=>exact Zl hT p q ha hd (.inr rfl) h
 | next x b =>
  cases b with
  | true=>exact False.elim h
  | false=>exact False.elim h
 | entry x=>exact False.elim h
 | call c =>
  obtain⟨callee,args,argTypes⟩:=c;cases callee with
  | builtin b =>
   cases b with
   | append =>
    obtain⟨args⟩:=args;obtain⟨argTypes⟩:=argTypes;unfold J0 at h;dsimp only at h;split at h
    .next x y ty B =>
     split at h
     .next e sz _ _ C j =>
      have C:=aw C;subst C;exact Yz hT q p ha hd j rfl h
     .next j =>
      split at h
      .next u s =>
       have u:=aw u;subst u;exact Pa hT q p ha hd j rfl s rfl rfl h
      .exact h.elim
     .exact h.elim
    .exact h.elim
   | copy =>
    obtain⟨args⟩:=args;obtain⟨argTypes⟩:=argTypes;unfold J0 at h;dsimp only at h;split at h
    .next x y ty B =>
     split at h
     .next j=>exact Z7b hT q p ha hd j rfl h
     .exact h.elim
    .exact h.elim
   | delete =>
    exact False.elim h
   | _=>cases z
  | value f=>exact O1 (fo:=f) rfl rfl p.has ha hd h λt own' I' V' E w' D s _ A=>q _ _ _ _ _ _ D (p.trans s) A
  | _=>cases z
 | _=>cases z
theorem Yh (hT:∀t i,look t tb=some i->TIok P t i)(B:vsB XL t o=true)(h:J0 P tb (.vs XL) o t own V.n K)(hH:Has I V own w)(hkX:∀k∈XL,k < V.n)(ha:ARep N I V a t)(hd:∀i,o.dst=some i->i < N)(hK:∀t own' I' V' W w',K t own' V'.n->Later own I V w own' I' V' w'->Agree V XL w w'->(∀k∈XL,∀b,V'.f k b->b < w.heap.size->∃k'∈XL,V.f k' b)->ARep N I' V' W t->next W w'):o.wp P a w next Q:=by
 obtain⟨dst,op,type,pos,after,guard⟩:=o;have hv0:=B;unfold vsB at B;cases guard with
 | some g=>cases B
 | none =>
 cases op with
 | store ty x z =>
  cases x with
  | tmp d =>
   dsimp only at B;cases hl:look d t with
   | none=>rw[hl] at B;cases B
   | some g =>
    rw[hl] at B;cases g with
    | ptr k off =>
     dsimp only at B;have hm:=C4.1 B;obtain⟨y,hy,Z⟩:=ha.get d _ hl;obtain⟨hkn,rfl⟩:=C6 Z;have he:a.eval (.tmp d)=.pointer (some ⟨V.b k,off,none⟩):=by simp[Act.eval,hy]
     unfold J0 at h;dsimp only at h;unfold ev at h;dsimp only at h;rw[hl] at h;dsimp only at h;obtain⟨u,s,hu⟩:=B1 (K:=λu=>Fm own u λcs=>match look ty tb with
      | some i=>Zai i.zero.length own cs (match look k own with
       | some (.blk cells J)=>ovr i.zero.length cells off cs λD=>K (put dst .un t) ((k,.blk D J)::own) V.n
       | some (.lnk j)=>match true,look j own,cs with
        | false,some (.slc C e 1),[c]=>Eh (off < C.length/\N6 c=true) (K (put dst .un t) ((j,.slc (C.set off [c]) e 1)::own) V.n)
        | _,_,_=>False
       | _=>False)
      | none=>False) h ha hH
     obtain⟨cs,s,hp,-⟩:=Gr s hu hH;obtain⟨ds,hds⟩:∃ds,(a.eval z).cells.toList=ds:=⟨_,rfl⟩;rw[hds] at hp;cases hty:look ty tb with
     | none=>rw[hty] at s;exact s.elim
     | some i =>
      rw[hty] at s;obtain⟨Y,hcl0,hcn,p,-⟩:=Z08 s;clear s;cases hr:look k own with
      | none=>rw[hr] at p;exact p.elim
      | some r0 =>
       rw[hr] at p;cases r0 with
       | blk cells J =>
        obtain⟨us,k1,k2,-⟩:=Na hH hr;obtain⟨D,k3,k4,k5⟩:=Qy p k2 hp;have hone:=Z5w hH Y hp;have hlen:ds.length=i.zero.length:=hp.1.symm.trans hcl0;have hdn:ds≠[]:=λe=>by have:=hp.1;rw[e] at this;exact hcn (ay (by simpa using this))
        have hrun:=Hq (P:=P) (w:=w) (hT ty i hty).size hds hlen k1 (k5 hdn:off+ds.length<=us.length) hone;have E:=D7 (w':=w.setRow (V.b k) _) (r:=.blk D J) hH hr rfl rfl rfl (by simp[World.setRow]) (λb F=>setRow_other w _ b _ (λe=>F (((hH.each k _ hr).1 b).2 e))) ⟨(hH.each k _ hr).1,_,setRow_heap w _ us.toArray _ J _ k1,k4⟩;unfold Oper.wp;have hex:(execOp a.eval (⟨dst,.store ty (.tmp d) z,type,pos,after,none⟩:Oper)).run P w=.ok .skip (w.setRow (V.b k) (List.take off us++ds++List.drop (off+ds.length) us).toArray):=by simp only[execOp,Sem.run_bind,he,hrun,Result.andThen_ok,Sem.run_pure]
        rw[hex];exact hK _ _ _ _ _ _ k3 E (λb hlt hX=>setRow_other w _ b _ (λe=>hX k hm (((hH.each k _ hr).1 b).2 e))) (λk s b F _=>⟨k,s,F⟩) ((ha.mono E.fro.mono E.va).put hd (.of_v .un))
       | _=>exact p.elim
    | _=>cases B
  | _=>cases B
 | call cl =>
  cases H:cl.callee with
  | value f =>
   refine O1 (mo:=.vs XL) (K:=K) (fo:=f) rfl H hH ha hd ?_ λt own' I' V' W w' s E hm O=>?_
   .have h:=h;unfold J0 at h;dsimp only at h;rw[H] at h;exact h
   .obtain⟨ks,m1,m2,m3,m4⟩:=hm rfl;have M:∀k∈ks,k∈XL:=λk s=>C4.1 (Ai (show Bp (λk=>Fd k XL) ks=true from m1) k s);refine hK _ _ _ _ _ _ s E (λb F hX=>m3 b F λk s=>hX k (M k s)) (λk s b F hlt=>?_) O;rcases m4 k (hkX k s) b F with Y | ⟨-,⟨k',Y,h2⟩ | Y⟩
    .exact⟨k,s,Y⟩
    .exact⟨k',M k' Y,h2⟩
    .omega
  | builtin bt =>
   obtain⟨callee,⟨args⟩,⟨argTypes⟩⟩:=cl;have H:callee=.builtin bt:=H;subst H;cases bt with
   | append =>
    dsimp only at B;unfold J0 at h;dsimp only at h;split at h
    .next x y ty J =>
     cases x with
     | tmp d =>
      dsimp only at B;cases hl:look d t with
      | none=>rw[hl] at B;cases B
      | some g =>
       rw[hl] at B;obtain⟨z,hz,Z⟩:=ha.get d _ hl;have Z:TRep I V g (a.eval (.tmp d)):=by
        have:a.eval (.tmp d)=z:=by simp[Act.eval,hz]
        rw[this];exact Z
       have hKV:∀t own' I' V' W w',K t own' V'.n->Later own I V w own' I' V' w'->Z8a V w w' g->V.kp V'->ARep N I' V' W t->next W w':=λt own' I' V' W w' s E hf hkp O=>by
        refine hK _ _ _ _ _ _ s E (λb F hX=>?_) (λk s b F _=>⟨k,s,hkp k (hkX k s) b F⟩) O;cases g with
        | osl k=>exact hf b F (hX k (C4.1 B))
        | nl=>exact hf b F
        | _=>cases B
       have evd:∀{K':G->Prop},ev t own (.tmp d) K'->K' g\/∃C,K' (.sl C):=λ{K'} h=>by
        unfold ev at h;dsimp only at h;rw[hl] at h;cases g with
        | osl k =>
         dsimp only at h;split at h
         .exact .inr ⟨_,h⟩
         .exact .inl h
        | nl=>exact .inl h
        | _=>cases B
       split at h
       .next e sz _ _ F X =>
        have F:=aw F;subst F;rcases evd h with h | ⟨C,h⟩
        .exact N4 (g:=g) hT hH ha hd hKV X rfl Z h
        .obtain⟨q,p,hq⟩:=B1 h ha hH;obtain⟨new,A,c,rs,s,-⟩:=Tm p hq hH;exact s.elim
       .next X =>
        split at h
        .next T E =>
         have T:=aw T;subst T;rcases evd h with h | ⟨C,h⟩
         .exact Hd (g:=g) hT hH ha hd hKV X rfl E rfl rfl Z h
         .obtain⟨q,p,hq⟩:=B1 h ha hH;unfold Zav at p;split at p
          .exact p.elim
          .exact p.elim
        .exact h.elim
       .exact h.elim
     | _=>cases B
    .exact h.elim
   | _=>cases B
  | _=>rw[show vsB XL t ⟨dst,.call cl,type,pos,after,none⟩=false from ?_] at hv0<;>first | cases hv0 | (unfold vsB;dsimp only;rw[H])
 | _=>cases B
theorem Z6m (hT:∀t i,look t tb=some i->TIok P t i)(h:J0 P tb .row o t own V.n K)(b:Since own0 I0 V0 w0 own I V w)(ha:ARep N I V a t)(hd:∀i,o.dst=some i->i < N)(c:Nxt N own0 I0 V0 w0 K next):o.wp P a w next Q:=by
 cases hq:isQ tb o with
 | true=>exact(Qc (S:=λu=>u=w) (mo:=.row) hT (λk p=>by simp[Mo.xl] at p) (λ_ u q=>by subst q;exact λ_ _ _=>rfl) hq h b.has ha).wp rfl c b ha hd
 | false =>
  cases hl:isL tb o with
  | true=>exact Z5r hT hl h b ha hd c
  | false =>
   cases hc:Yg o with
   | false=>exact Y9 hT (λh=>by rw[hc] at h;cases h) hq hl h b.has ha hd (NxtB.of c b)
   | true =>
    obtain⟨dst,op,type,pos,after,guard⟩:=o;cases op with
    | call cl =>
     obtain⟨callee,args,s⟩:=cl;cases callee with
     | value f=>exact O1 (fo:=f) rfl rfl b.has ha hd h λt own' I' V' z w' p j _ e=>c _ _ _ _ _ _ p (b.trans j) e
     | _=>cases hc
    | _=>cases hc
end
section
variable {P:Program} {tb:List (Nat × TI)} {N n:Nat} {I I' I0:Imm} {V V' V0:Va} {a:Act} {t:Ts} {own own' own0:Os} {w w' w0:World} {g:G} {y:Value} {d:Option Tmp}
variable {K:Ts->Os->Nat->Prop} {next:Act->World->Prop} {Q:Exit->Act->World->Prop} {o:Oper} {ops:Array Oper} {rest:List Oper}
theorem ARep.redo (h:ARep N I V a t){i:Nat}{c:G}{x:Value}(q:a.tmps[i]?=some x)(p:TRep I V c x):ARep N I V a ((i,c)::t) :=
 ⟨h.defers,h.size,λj g b=>by
  rw[Ac] at b;split at b
  .next e=>subst e;cases b;exact⟨x,q,p⟩
  .exact h.get j g b⟩
theorem G7 {mo:Mo}(h:sxG P tb mo ops.toList o t own n K)(ha:ARep N I V a t) :
  ∃t',ARep N I V a t'/\((Region.wanted o (yielded ops a.tmps)=true/\J0 P tb mo o t' own n K)\/(Region.wanted o (yielded ops a.tmps)=false/\K (put o.dst .un t') own n)):=by
 unfold sxG at h;split at h
 .next B=>exact⟨t,ha,.inl ⟨Fe B,h⟩⟩
 .next j c B =>
  rw[Du,Array.getElem?_toList] at h;have q:Region.wanted o (yielded ops a.tmps)=(yielded ops a.tmps j==some c):=by unfold Region.wanted;rw[B]
  cases hd:(ops[j]?).bind (·.dst) with
  | none =>
   rw[hd] at h;exact⟨t,ha,.inr ⟨by rw[q];simp[yielded,hd],h⟩⟩
  | some d =>
   rw[hd] at h;dsimp only at h;have s:∀{x},a.tmps[d]?=some x->yielded ops a.tmps j=match x with | .bool b=>some b | _=>none:=λp=>by
    simp only[yielded,hd,Option.bind_some,p]
    rename_i x
    cases x<;>rfl
   cases hl:look d t with
   | none=>rw[hl] at h;exact h.elim
   | some g =>
    obtain⟨x,p,hr⟩:=ha.get d g hl;rw[hl] at h;cases g with
    | tt =>
     cases(show VRep I .tt x from hr);dsimp only at h;cases c with
     | true=>exact⟨t,ha,.inl ⟨by rw[q,s p];rfl,h⟩⟩
     | false=>exact⟨t,ha,.inr ⟨by rw[q,s p];rfl,h⟩⟩
    | ff =>
     cases(show VRep I .ff x from hr);dsimp only at h;cases c with
     | true=>exact⟨t,ha,.inr ⟨by rw[q,s p];rfl,h⟩⟩
     | false=>exact⟨t,ha,.inl ⟨by rw[q,s p];rfl,h⟩⟩
    | un =>
     cases(show VRep I .un x from hr);exact⟨t,ha,.inr ⟨by rw[q,s p];cases c<;>rfl,h⟩⟩
    | v z =>
     have e:=Av hr;subst e;cases x with
     | bool b =>
      dsimp only at h;cases c with
      | true =>
       obtain⟨u,A⟩:=h;cases b with
       | true=>exact⟨_,ha.redo p (.of_v .tt),.inl ⟨by rw[q,s p];rfl,u rfl⟩⟩
       | false=>exact⟨_,ha.redo p (.of_v .ff),.inr ⟨by rw[q,s p];rfl,A rfl⟩⟩
      | false =>
       obtain⟨u,A⟩:=h;cases b with
       | true=>exact⟨_,ha.redo p (.of_v .tt),.inr ⟨by rw[q,s p];rfl,u rfl⟩⟩
       | false=>exact⟨_,ha.redo p (.of_v .ff),.inl ⟨by rw[q,s p];rfl,A rfl⟩⟩
     | _=>exact h.elim
    | _=>exact h.elim
theorem Z0j (hT:∀t i,look t tb=some i->TIok P t i)(j:Nxt N own0 I0 V0 w0 K (λa w=>Q .normal a w)):∀{rest:List Oper} {t:Ts} {own:Os} {I:Imm} {V:Va} {a:Act} {w:World},sxO P tb ops.toList rest t own V.n K->Since own0 I0 V0 w0 own I V w->ARep N I V a t->(∀o∈rest,∀i,o.dst=some i->i < N)->wpList P ops Q rest a w
 | [],t,own,I,V,a,w,h,hL,ha,_=>j _ _ _ _ _ _ h hL ha
 | o::rest,t,own,I,V,a,w,h,hL,ha,hd=>by
  have b:=hd o (by simp);have c:∀o∈rest,∀i,o.dst=some i->i < N:=λo u=>hd o (by simp[u]);obtain⟨t',e,h⟩:=G7 h ha;rcases h with⟨q,h⟩ | ⟨q,h⟩
  .unfold wpList;rw[dp q];exact .inl (Z6m hT h hL e b λt own I V a w z s p=>Z0j hT j z s p c)
  .unfold wpList;rw[dn (by rw[q];exact Bool.false_ne_true)];exact Z0j hT j h hL (e.put b (.of_v .un)) c
theorem Z6s (l:List Bool)(i:Nat):Z8v l i=l.toArray.getD i false:=by unfold Z8v;rw[Du];cases h:l[i]?<;>simp[h]
theorem Hp (l:List Bool)(i:Nat):(Vj l i).toArray=l.toArray.setIfInBounds i true:=by
 have:Vj l i=l.set i true:=by
  induction l generalizing i with
  | nil=>simp[Vj]
  | cons b l ih=>cases i<;>simp[Vj,ih]
 rw[this];simp
theorem Uu (l:List Bool)(es:List Edge):Gg l es=true↔∀e∈es,Region.binds .any e=true->l.toArray.getD e.on false=true:=by
 induction es with
 | nil=>simp[Gg]
 | cons e es ih =>
  unfold Gg;rw[Z6s];constructor
  .intro h p b j;cases c:(!Region.binds .any e||l.toArray.getD e.on false) with
   | false=>rw[c] at h;cases h
   | true =>
    rw[c] at h;rcases bo.1 b with rfl | b
    .rw[j,Bool.not_true,Bool.false_or] at c;exact c
    .exact ih.1 h p b j
  .intro h;have c:(!Region.binds .any e||l.toArray.getD e.on false)=true:=by
    cases hb:Region.binds .any e with
    | false=>rfl
    | true=>rw[h e (by simp) hb];rfl
   rw[c];exact ih.2 λp b=>h p (by simp[b])
theorem Z0m (l:List Bool):∀(os:List Oper) (h:List Bool) (k i:Nat),i∈rdy l os h k↔∃j o,i=k+j/\os[j]?=some o/\h[j]?=some false/\Gg l o.after.toList=true
 | [],h,k,i=>by simp[rdy]
 | o::os,[],k,i=>by simp[rdy]
 | o::os,b::h,k,i=>by
  have p:=Z0m l os h (k+1) i;have key:(∃j c,i=k+j/\(o::os)[j]?=some c/\(b::h)[j]?=some false/\Gg l c.after.toList=true)↔((i=k/\b=false/\Gg l o.after.toList=true)\/∃j c,i=k+1+j/\os[j]?=some c/\h[j]?=some false/\Gg l c.after.toList=true):=by
   constructor
   .rintro⟨j,c,e,h1,h2,h3⟩;cases j with
    | zero=>simp at h1 h2;subst h1 h2;exact .inl ⟨by omega,rfl,h3⟩
    | succ j=>exact .inr ⟨j,c,by omega,by simpa using h1,by simpa using h2,h3⟩
   .rintro(⟨e,h1,h2⟩ | ⟨j,c,e,h1,h2,h3⟩)
    .exact⟨0,o,by omega,by simp,by simp[h1],h2⟩
    .exact⟨j+1,c,by omega,by simpa using h1,by simpa using h2,h3⟩
  rw[key,<-p];show i∈(bif (!b&&Gg l o.after.toList) then k::rdy l os h (k+1) else rdy l os h (k+1))↔_;cases hb:b<;>cases he:Gg l o.after.toList<;>simp
theorem Gk {l:List Bool}(p:l.length=ops.size)(i:Nat):i∈Region.ready .any ops l.toArray↔i∈rdy l ops.toList l 0:=by
 rw[mem_ready,Z0m];constructor
 .rintro⟨b,o,h2,h3⟩;have h:=(bx.1 h2).1;refine⟨i,o,by omega,by simpa using h2,?_,(Uu l _).2 λe c=>h3 e (by simpa using c)⟩;have:i < l.length:=by omega
  simp[this] at b;simp[this,b]
 .rintro⟨j,o,e,b,h2,h3⟩;obtain rfl:i=j:=by omega
  exact⟨by simp[h2],o,by simpa using b,λe c=>(Uu l _).1 h3 e (by simpa using c)⟩
theorem Jm {e:List Nat}{ops:List Oper}:∀{rs:List Nat} {i:Nat},Lv tb e ops rs=some i->i∈rs/\∃o,ops[i]?=some o/\isQ tb o=true
 | [],i,h=>by cases h
 | j::rs,i,h=>by
  unfold Lv at h;rw[Du] at h;cases ho:ops[j]? with
  | none =>
   rw[ho] at h;obtain⟨b,c⟩:=Jm h;exact⟨by simp[b],c⟩
  | some o =>
   rw[ho] at h;dsimp only at h;cases hq:(isQ tb o&&!Fd j e) with
   | true =>
    rw[hq] at h;cases h;rw[bd] at hq;exact⟨by simp,o,ho,hq.1⟩
   | false =>
    rw[hq] at h;obtain⟨b,c⟩:=Jm h;exact⟨by simp[b],c⟩
theorem Je {ops:List Oper}:∀{rs:List Nat} {i:Nat},Qs tb ops rs=some i->i∈rs/\∃o,ops[i]?=some o/\Z7i tb o=true
 | [],i,h=>by cases h
 | j::rs,i,h=>by
  unfold Qs at h;rw[Du] at h;cases ho:ops[j]? with
  | none =>
   rw[ho] at h;obtain⟨b,c⟩:=Je h;exact⟨by simp[b],c⟩
  | some o =>
   rw[ho] at h;cases hq:Z7i tb o with
   | true=>dsimp only at h;rw[hq] at h;cases h;exact⟨by simp,o,ho,hq⟩
   | false =>
    dsimp only at h;rw[hq] at h;obtain⟨b,c⟩:=Je h;exact⟨by simp[b],c⟩
theorem Z46 {ops:List Oper}{rs:List Nat}{i:Nat}(h:Zan tb ops rs=some i):i∈rs/\∃o,ops[i]?=some o/\Z7i tb o=true:=by
 unfold Zan at h;split at h
 .exact Je h
 .cases h
def Ls (tb:List (Nat × TI))(b:List Nat)(ops:Array Oper)(late:List Nat):Nat->List Bool->Bool
 | 0,l=>(rdy l ops.toList l 0).isEmpty
 | fuel+1,l=>match Lv tb b ops.toList (rdy l ops.toList l 0) with
  | some i=>Region.free .any ops l.toArray i&&(match nth ops.toList i with | some o=>!isR tb o||Z91 .any ops late i | none=>false)&&Ls tb b ops late fuel (Vj l i)
  | none=>match Zan tb ops.toList (rdy l ops.toList l 0) with
   | some i=>Region.free .any ops l.toArray i&&Ls tb b ops late fuel (Vj l i)
   | none=>(rdy l ops.toList l 0).all λi=>Ls tb b ops late fuel (Vj l i)
theorem Pu {f:Nat->Prop}:∀{l:List Nat},Zam f l->∀i∈l,f i
 | [],_,i,b=>by cases b
 | [j],h,i,b=>by rw[bw.1 b];exact h
 | j::k::l,h,i,b=>by
  rcases bo.1 b with rfl | b
  .exact h.1
  .exact Pu (l:=k::l) h.2 i b
theorem C0 (V:Va)(XL:List Nat)(w:World):Agree V XL w w:=λ_ _ _=>rfl
theorem Ck (V:Va)(XL:List Nat)(w:World):Zas (Agree V XL w):=λu _ p q b c s=>by
 have e:=p b c s;have j:b < u.heap.size:=by
  rcases Nat.lt_or_ge b u.heap.size with h | h
  .exact h
  .rw[Array.getElem?_eq_none h,am c] at e;cases e
 rw[q.block b j];exact e
theorem Y4 {I:Imm}:∀{l:List G} {cs b:List Value},X1 l=some cs->l.length=b.length->(∀(j:Nat) g u,l[j]?=some g->b[j]?=some u->VRep I g u)->b=cs
 | [],cs,b,h,hl,_=>by cases h;exact ay hl.symm
 | g::l,cs,b,h,hl,hu=>by
  cases b with
  | nil=>simp at hl
  | cons u b =>
   cases g with
   | v x =>
    unfold X1 at h;cases hc:X1 l with
    | none=>rw[hc] at h;cases h
    | some cs' =>
     rw[hc] at h;cases h;have e:=hu 0 _ _ rfl rfl;have p:=Y4 hc (by simpa using hl) λj g u q c=>hu (j+1) g u (by simpa using q) (by simpa using c);cases e;rw[p]
   | _=>cases h
theorem U4:∀{l:List G} {cs:List Value},X1 l=some cs->l.length=cs.length/\∀(I:Imm) (j:Nat) g u,l[j]?=some g->cs[j]?=some u->VRep I g u
 | [],cs,h=>by cases h;exact⟨rfl,λI j g u b=>by simp at b⟩
 | g::l,cs,h=>by
  cases g with
  | v x =>
   unfold X1 at h;cases hc:X1 l with
   | none=>rw[hc] at h;cases h
   | some cs' =>
    rw[hc] at h;cases h;obtain⟨e,p⟩:=U4 hc;refine⟨by simp[e],λI j g u b c=>?_⟩;cases j with
    | zero=>simp at b c;subst b c;exact .v _
    | succ j=>exact p I j g u (by simpa using b) (by simpa using c)
  | _=>cases h
theorem Rp {I:Imm}{g:G}{x y:Value}(h:Z5j g=some x)(b:VRep I g y):y=x:=by
 cases b with
 | v z=>cases h;rfl
 | agg l cs hl hh =>
  have h:(match X1 l with | some cs=>some (Value.agg cs.toArray) | none=>none)=some x:=h;cases hc:X1 l with
  | none=>rw[hc] at h;cases h
  | some cs'=>rw[hc] at h;cases h;rw[Y4 hc hl hh]
 | _=>cases h
theorem Ue {g:G}{x:Value}(h:Z5j g=some x)(I:Imm):VRep I g x:=by
 cases g with
 | v z=>cases h;exact .v _
 | agg l =>
  have h:(match X1 l with | some cs=>some (Value.agg cs.toArray) | none=>none)=some x:=h;cases hc:X1 l with
  | none=>rw[hc] at h;cases h
  | some cs=>rw[hc] at h;cases h;obtain⟨b,c⟩:=U4 hc;exact .agg _ _ b (c I)
 | _=>cases h
theorem Z1n {g:G}{x y:Value}(h:Z5j (Z1f g)=some x)(b:TRep I V g y):y=x:=by
 cases g with
 | tt=>cases(show VRep I .tt y from b);cases h;rfl
 | ff=>cases(show VRep I .ff y from b);cases h;rfl
 | nl=>cases h
 | v z=>exact Rp h (show VRep I (.v z) y from b)
 | agg l=>exact Rp h (show VRep I (.agg l) y from b)
 | _=>cases h
theorem Z17 (ha:ARep N I V a t)(hH:Has I V own w):∀{l:List Operand} {K:List G->Prop},Zd7 t own l K->∃gs,K gs/\gs.length=(l.map a.eval).length/\∀(I':Imm) (j:Nat) g u,gs[j]?=some g->(l.map a.eval)[j]?=some u->VRep I' g u
 | [],K,h=>⟨[],h,rfl,λI' j g u p=>by simp at p⟩
 | x::l,K,h=>by
  obtain⟨g,h,p⟩:=B1 h ha hH;cases hc:Z5j (Z1f g) with
  | none=>rw[hc] at h;exact h.elim
  | some z =>
   rw[hc] at h;obtain⟨gs,s,A,q⟩:=Z17 (K:=λgs=>K (Z1f g::gs)) ha hH (l:=l) h;have e:=Z1n hc p;refine⟨Z1f g::gs,s,by simpa using A,λI' j B u b c=>?_⟩;cases j with
   | zero=>simp at b c;subst b c;rw[e];exact Ue hc I'
   | succ j=>exact q I' j B u (by simpa using b) (by simpa using c)
theorem Z20 {ops:Array Oper}{K:Ts->Prop}(s:Z7i tb o=true)(ha:ARep N I V a t)(hH:Has I V own w)(h:Z6v P o t own K):∃g x,CallsTo P ops o x a/\Z5j g=some x/\K (put o.dst g t):=by
 unfold Z6v at h;split at h
 case h_2=>exact h.elim
 next c T =>
 split at h
 case h_2=>exact h.elim
 next f A =>
 obtain⟨gs,⟨g,x,D,E,J⟩,X,F⟩:=Z17 (K:=λgs=>Z6t P f gs λg=>K (put o.dst g t)) ha hH h;have C:o.guard=none:=by
  unfold Z7i at s;split at s
  .next C _=>exact C
  .cases s
 refine⟨g,x,⟨Fe C,f,(c.args.toList.map a.eval).toArray,λu=>?_,λu=>?_⟩,D,J⟩
 .have B:a.eval (.func f)=.func (.func f) #[] #[]:=rfl;have e:∀l:Array Operand,(l.toList.map a.eval).toArray=l.map a.eval:=λl=>by cases l;simp
  obtain⟨callee,args,p⟩:=c;have A:callee=.value (.func f):=A;subst A;have Z:∀ty,(do let d <-resolve a.eval ⟨.value (.func f),args,p⟩ ty;invoke d.target d.args:Sem Next).run P u=(callFunc f (args.toList.map a.eval).toArray).run P u:=λty=>by simp[resolve,Deferred.ofValue,B,invoke,e]
  have H:=(Z o.type).trans (Qn E.1 u _);simpa only[execOp,T] using H
 .refine(E.2 (λ_ _=>none) u _ (λb o x h=>by cases h) ⟨X,λj M O Y W=>F _ j M O Y W⟩).mono λe w' ⟨y,q,I',e1,z,e3,e4,_,_,e7⟩=>?_;have z:q=g:=z;rw[z] at e4;have:y=x:=by
   cases g with
   | tup l=>cases D
   | _=>exact Rp D e4
  rw[e1,this];exact⟨rfl,e7⟩
theorem Ji {α:Type}(l:List Bool)(i:Nat)(K:List Bool->α):Ml l i K=K (Vj l i):=by
 induction l generalizing i K with
 | nil=>rfl
 | cons b l ih=>cases i<;>simp[Ml,Vj,ih]
theorem X7 (k:Nat):∀(r:List Nat) (K:List Nat->Prop),H9 k r K->∃r',K r'
 | [],_,h=>⟨_,h⟩
 | j::l,K,h=>by
  unfold H9 at h;split at h
  .exact⟨_,h⟩
  .obtain⟨r',h⟩:=X7 k l _ h;exact⟨_,h⟩
theorem Ze:∀(l:List Oper) (r:List Nat) (K:List Nat->Prop),Z93 l r K->∃r',K r'
 | [],_,_,h=>⟨_,h⟩
 | o::l,r,K,h=>by
  unfold Z93 at h;split at h
  .obtain⟨r',h⟩:=X7 _ _ _ h;exact Ze l r' K h
  .exact Ze l r K h
theorem Yy:∀(l:Ts) (r:List Nat) (K:List Nat->Prop),Z7u l r K->∃r',K r'
 | [],_,_,h=>⟨_,h⟩
 | (i,g)::l,r,K,h=>by obtain⟨r',h⟩:=X7 _ _ _ h;exact Yy l r' K h
theorem Nh {α:Type}{i j:Nat}{g x:α}{r:List (Nat × α)}(h:look i ((j,g)::r)=some x):i=j/\g=x\/look i r=some x:=by
 unfold look at h;cases hb:Nat.beq i j with
 | true=>rw[hb] at h;exact .inl ⟨aw hb,ct h⟩
 | false=>rw[hb] at h;exact .inr h
theorem T8 (t:Ts):∀(l:List Nat) (b:Ts) (K:Ts->Prop),(∀i g,look i b=some g->look i t=some g)->Yk t l b K->∃t',(∀i g,look i t'=some g->look i t=some g)/\K t'
 | [],_,_,ha,h=>⟨_,ha,h⟩
 | i::l,b,K,ha,h=>by
  unfold Yk at h;split at h
  .next g e =>
   refine T8 t l _ K (λj x c=>?_) h;rcases Nh c with⟨rfl,rfl⟩ | c
   .exact e
   .exact ha _ _ c
  .exact T8 t l b K ha h
theorem Sd (w:Os):∀(n:Nat) (b:Os) (K:Os->Prop),(∀i g,look i b=some g->look i w=some g)->Z3o w n b K->∃w',(∀i g,look i w'=some g->look i w=some g)/\K w'
 | 0,_,_,ha,h=>⟨_,ha,h⟩
 | n+1,b,K,ha,h=>by
  have h:(match look n w with
   | some r=>Z3o w n ((n,r)::b) K
   | none=>Z3o w n b K):=h
  split at h
  .next g e =>
   refine Sd w n _ K (λj x c=>?_) h;rcases Nh c with⟨rfl,rfl⟩ | c
   .exact e
   .exact ha _ _ c
  .exact Sd w n b K ha h
theorem Since.sub (h:Since own0 I0 V0 w0 own I V w)(c:∀k r,look k own'=some r->look k own=some r):Since own0 I0 V0 w0 own' I V w :=
 ⟨⟨h.has.mem,λk r e=>h.has.num k r (c k r e),λk r e=>h.has.each k r (c k r e),λk r b e=>h.has.foot k r b (c k r e),λk j r r' b e p=>h.has.disj k j r r' b (c k r e) (c j r' p)⟩,
  ⟨h.fro.os,h.fro.tape,h.fro.output,h.fro.size,h.fro.blk,h.fro.mono,λk r b e=>h.fro.foot k r b (c k r e)⟩,h.n,h.bb,h.ss⟩
theorem Zcp {next:Act->World->Prop}{p:List Oper}{K:Ts->Os->Nat->Prop}{c:(Ts->Os->Nat->Prop)->Prop}(e:Nxt N own0 I0 V0 w0 K next):∀{rs:List Nat},brK p t K c rs->∃j,Nxt N own0 I0 V0 w0 j next/\c j
 | [],h=>⟨K,e,h⟩
 | [_],h=>⟨K,e,h⟩
 | _::_::_,h=>by obtain⟨L,h⟩:=Ze _ _ _ h;obtain⟨L,h⟩:=Yy _ _ _ h;refine⟨_,λt own I V a w b q ha=>?_,h⟩;obtain⟨t',s,b⟩:=T8 t L [] _ (λi g h=>by cases h) b;obtain⟨w',u,b⟩:=Sd own V.n [] _ (λi g h=>by cases h) b;exact e _ _ _ _ _ _ b (q.sub u) (ha.sub s)
theorem N3 {u:World}(h:Has I V own w)(c:Below w.heap.size w u):Later own I V w own I V u :=
 ⟨h.below c,⟨c.os,c.tape,c.output,c.size,λb e _=>⟨c.block b e,λ_=>rfl⟩,λ_ _ _ h=>h,λk r _ j p _=>⟨k,r,j,p⟩⟩,.refl _⟩
theorem U3 {XL O late:List Nat}(hT:∀t i,look t tb=some i->TIok P t i)(hQ:∀c d v a w,Q (.panic c) (a.put d v) w->Q (.panic c) a w)(E:Region.noSelect ops=true)(hd:∀o∈ops.toList,∀i,o.dst=some i->i < N) :
  ∀{K:Ts->Os->Nat->Prop} (_:Nxt N own0 I0 V0 w0 K (λa w=>Q .normal a w)) {fu:List Oper} {l:List Bool} {t:Ts} {own:Os} {I:Imm} {V:Va} {a:Act} {w:World},l.length=ops.size->Eo .any ops l.toArray->Ls tb O ops late fu.length l=true->sxD P tb XL O late ops.toList fu l t own V.n K->Since own0 I0 V0 w0 own I V w->ARep N I V a t->(∀k∈XL,k < V.n)->wpAnyG P .any ops Q late fu.length (Agree V XL w) l.toArray a w
 | K,hK,[],l,t,own,I,V,a,w,hl,hc,hok,h,hL,ha,hkX=>by intro u T;refine⟨?_,hK _ _ _ _ _ _ h (hL.trans (N3 hL.has T)) ha⟩;rw[List.length_nil] at hok;unfold Ls at hok;refine List.eq_nil_iff_forall_not_mem.2 λi X=>?_;rw[Gk hl,List.isEmpty_iff.1 hok] at X;cases X
 | K,hK,o0::fu,l,t,own,I,V,a,w,hl,hc,hok,h,hL,ha,hkX=>by
  rw[bk] at hok;show wpAnyG P .any ops Q late (fu.length+1) (Agree V XL w) l.toArray a w;have hl':∀i,(Vj l i).length=ops.size:=λi=>by have:=congrArg Array.size (Hp l i);simp at this;omega
  unfold Ls at hok;have h:Zd1 P tb XL O late ops.toList o0 fu (sxD P tb XL O late ops.toList fu) l t own V.n K:=h;unfold Zd1 at h;cases Z:Lv tb O ops.toList (rdy l ops.toList l 0) with
  | some i =>
   rw[Z] at h hok;dsimp only at h hok;simp only[Bool.and_eq_true] at hok;obtain⟨⟨k1,k2⟩,k3⟩:=hok;obtain⟨X,o,ho,hq⟩:=Jm Z;rw[Du,ho] at h k2;dsimp only at h k2;cases hvb:Z96 own XL with
   | false=>rw[hvb] at h;exact h.elim
   | true =>
   rw[hvb] at h;dsimp only at h;have hXL:∀k∈(Mo.quiet XL).xl,∃r,look k own=some r:=λk e=>by
    have:=Ai hvb k e;split at this
    .next r hr=>exact⟨r,hr⟩
    .cases this
   have C:ops[i]?=some o:=by simpa using ho
   have hr:=(Gk hl i).2 X;have D:=hd o (ar ho);have hcn:=Cz hc hr;obtain⟨t',p,h⟩:=G7 h ha;have rest:∀{v g},TRep I V g v->(Ml l i λl=>sxD P tb XL O late ops.toList fu l (put o.dst g t') own V.n K)->wpAnyG P .any ops Q late fu.length (Agree V XL w) (l.toArray.setIfInBounds i true) (a.put o.dst v) w:=λhg e=>by rw[<-Hp];rw[Ji] at e;exact U3 hT hQ E hd hK (hl' i) (by rw[Hp];exact hcn) k3 e hL (p.put D hg) hkX
   have finP:∀(v:Value) (g:G),YieldsIf P ops (λ_=>True) o v a->TRep I V g v->(Ml l i λl=>sxD P tb XL O late ops.toList fu l (put o.dst g t') own V.n K)->wpAnyG P .any ops Q late (fu.length+1) (Agree V XL w) l.toArray a w:=λv g hy hg e =>
    O8 C (Region.noSelect_spec E) (λc a w=>hQ c _ _ a w) fu.length _ l.toArray a w hc (Region.free_spec C k1) hr hy (C0 _ _ _) (Ck _ _ _) (rest hg e)
   rcases h with⟨J,h⟩ | ⟨J,h⟩
   .cases hR:isR tb o with
    | false =>
     obtain⟨g,y,e,hy,H⟩:=Qc (S:=λ_=>True) (mo:=.quiet XL) hT hXL (λh=>by rw[hR] at h;cases h) hq h hL.has p;exact finP y g (Z5u J λu _=>H u trivial) hy e
    | true =>
     obtain⟨g,y,e,hy,H⟩:=Qc (S:=Agree V XL w) (mo:=.quiet XL) hT hXL (λ_ u T=>T) hq h hL.has p;rw[hR] at k2;exact Pi C (Region.noSelect_spec E) (λc a w=>hQ c _ _ a w) (λj hj=>List.all_eq_true.1 k2 j hj) fu.length _ l.toArray a w hc (Region.free_spec C k1) hr (Z5u J λu T=>H u T) (C0 _ _ _) (Ck _ _ _) (rest hy e)
   .exact finP undef .un (Z7c J) (.of_v .un) h
  | none =>
   rw[Z] at h hok;dsimp only at h hok;cases hcs:Zan tb ops.toList (rdy l ops.toList l 0) with
   | some i =>
    rw[hcs] at h hok;dsimp only at h hok;simp only[Bool.and_eq_true] at hok;obtain⟨k1,k3⟩:=hok;obtain⟨X,o,ho,hq⟩:=Z46 hcs;rw[Du,ho] at h;dsimp only at h;have C:ops[i]?=some o:=by simpa using ho
    have hr:=(Gk hl i).2 X;have D:=hd o (ar ho);have hcn:=Cz hc hr;obtain⟨g,x,hcl,hcv,e⟩:=Z20 (ops:=ops) hq ha hL.has h;refine Of C (Region.noSelect_spec E) (λc a w=>hQ c _ _ a w) fu.length _ l.toArray a w hc (Region.free_spec C k1) hr hcl (C0 _ _ _) (Ck _ _ _) ?_;rw[<-Hp];rw[Ji] at e;exact U3 hT hQ E hd hK (hl' i) (by rw[Hp];exact hcn) k3 e hL (ha.put D (.of_v (Ue hcv I))) hkX
   | none =>
   rw[hcs] at h hok;dsimp only at h hok;intro B T;have hS0:∀v,Agree V XL B v->Agree V XL w v:=λv hv b hb hX=>(hv b (bc hb T.size) hX).trans (T.block b hb);replace hL:=hL.trans (N3 hL.has T);refine⟨λh0=>?_,λi X=>?_⟩
   .have:rdy l ops.toList l 0=[]:=List.eq_nil_iff_forall_not_mem.2 λi X=>by
     rw[<-Gk hl,h0] at X;cases X
    rw[this] at h;exact hK _ _ _ _ _ _ h hL ha
   .have Y:=(Gk hl i).1 X;have hk3:=List.all_eq_true.1 hok i Y;have hcn:=Cz hc X;obtain⟨-,o,C,-⟩:=mem_ready.1 X;have ho:ops.toList[i]?=some o:=by simpa using C
    have D:=hd o (ar ho);obtain⟨K,hK,h⟩:=(by
     cases hr:rdy l ops.toList l 0 with
     | nil=>rw[hr] at Y;cases Y
     | cons j rs=>rw[hr] at h Y;obtain⟨K',hK',h⟩:=Zcp hK h;exact⟨K',hK',Pu h i Y⟩:∃K,Nxt N own0 I0 V0 w0 K (λa B=>Q .normal a B)/\match nth ops.toList i with
      | some o=>match isL tb o with
       | false=>sxG P tb .new ops.toList o t own V.n λt B n=>Ml l i λl=>sxD P tb XL O late ops.toList fu l t B n K
       | true=>match Fd i late with
        | true=>sxG P tb .late ops.toList o t own V.n λt B n=>Ml l i λl=>sxD P tb XL O late ops.toList fu l t B n K
        | false=>match vsG XL t o,Z96 own XL with
         | true,true=>sxG P tb (.vs XL) ops.toList o t own V.n λt B n=>Ml l i λl=>sxD P tb XL O late ops.toList fu l t B n K
         | _,_=>False
      | none=>False)
    rw[Du,ho] at h;dsimp only at h;have z:∀{t own' I' V' a' M},(Ml l i λl=>sxD P tb XL O late ops.toList fu l t own' V'.n K)->Since own I V B own' I' V' M->ARep N I' V' a' t->Eo .any ops (l.toArray.setIfInBounds i true)->wpAnyG P .any ops Q late fu.length (Agree V' XL M) (l.toArray.setIfInBounds i true) a' M:=λe q F A=>by rw[<-Hp];rw[Ji] at e;exact U3 hT hQ E hd hK (hl' i) (by rw[Hp];exact hcn) hk3 e (hL.tail q) F (λk e=>bc (hkX k e) q.n)
    have sub:∀{own' I' V' M},Later own I V B own' I' V' M->Agree V XL B M->(∀k∈XL,∀b,V'.f k b->b < B.heap.size->∃k'∈XL,V.f k' b)->∀u,Agree V' XL M u->Agree V XL w u:=λq hA Z u T=>hS0 u λb hb hX=>by
     rw[<-hA b hb hX];exact T b (bc hb q.fro.size) λk e hfb=>by obtain⟨k',h1,h2⟩:=Z k e b hfb hb;exact hX k' h1 h2
    refine wpOp_step C λK1 W=>?_;have skip:∀{t'},ARep N I V a t'->(Ml l i λl=>sxD P tb XL O late ops.toList fu l (put o.dst .un t') own V.n K)->K1 (a.put o.dst undef) B:=λp h=>W _ _ ⟨_,λ_=>hS0,C0 _ _ _,Ck _ _ _,λA=>z h (Later.refl hL.has).since (p.put D (.of_v .un)) A⟩;cases hli:isL tb o with
    | false =>
     rw[hli] at h;dsimp only at h;obtain⟨t',p,h⟩:=G7 h ha;rcases h with⟨J,h⟩ | ⟨J,h⟩
     .rw[dp J];cases hq:isQ tb o with
      | true =>
       obtain⟨g,y,e,hy,H⟩:=Qc (S:=λu=>u=B) (mo:=.new) hT (λk e=>by cases e) (λ_ u T=>by rw[T];exact C0 _ _ _) hq h hL.has p;have hop:∀{Q2:Act->World->Prop},Q2 (a.put o.dst y) B->o.wp P a B Q2 Q:=λ{Q2} h2=>by unfold Oper.wp;rw[H B rfl];exact h2
       exact hop (W _ _ ⟨_,λ_=>hS0,C0 _ _ _,Ck _ _ _,λA=>z e (Later.refl hL.has).since (p.put D hy) A⟩)
      | false =>
      exact Y9 (mo:=.new) hT (λ_=>rfl) hq hli h hL.has p D λt own I V a w1 e q hb hkp F=>W _ _ ⟨_,λ_=>sub q (λb hb' _=>hb.block b hb') (λk e b Z _=>⟨k,e,hkp k (hkX k e) b Z⟩),C0 _ _ _,Ck _ _ _,λA=>z e q.since F A⟩
     .rw[dn (by rw[J];exact Bool.false_ne_true)];exact skip p h
    | true =>
     rw[hli] at h;dsimp only at h;cases hm:Fd i late with
     | true =>
      rw[hm] at h;dsimp only at h;obtain⟨t',p,h⟩:=G7 h ha;rcases h with⟨J,h⟩ | ⟨J,h⟩
      .rw[dp J];exact Z5r (mo:=.late) (own0:=own) (I0:=I) (V0:=V) (w0:=B) hT hli h (Later.refl hL.has).since p D λt own I V a w1 e q F=>W _ _ ⟨_,λhn=>dq (C4.1 hm) hn,C0 _ _ _,Ck _ _ _,λA=>z e q F A⟩
      .rw[dn (by rw[J];exact Bool.false_ne_true)];exact skip p h
     | false =>
      rw[hm] at h;dsimp only at h;cases s:vsG XL t o with
      | false=>rw[s] at h;exact h.elim
      | true =>
       cases hvb:Z96 own XL with
       | false=>rw[s,hvb] at h;exact h.elim
       | true =>
       rw[s,hvb] at h;cases hgn:o.guard with
       | none =>
        have s:vsB XL t o=true:=by unfold vsG at s;rw[hgn] at s;exact s
        dsimp only at h;unfold sxG at h;rw[hgn] at h;rw[dp (Fe hgn)];exact Yh hT s h hL.has hkX ha D λt own I V a w1 e q hA Z F=>W _ _ ⟨_,λ_=>sub q hA Z,C0 _ _ _,Ck _ _ _,λA=>z e q.since F A⟩
       | some gd =>
        dsimp only at h;obtain⟨t',p,h⟩:=G7 h ha;rcases h with⟨J,h⟩ | ⟨J,h⟩
        .rw[dp J];have hvs2:vsB XL t' {o with guard:=none}=true:=by
          unfold vsG at s;rw[hgn] at s;obtain⟨dst,op,type,pos,after,guard⟩:=o;cases op with
          | call cl =>
           dsimp only at s;cases hce:cl.callee with
           | value f=>unfold vsB;dsimp only;rw[hce]
           | _=>rw[hce] at s;cases s
          | _=>cases s
         have h2:J0 P tb (.vs XL) {o with guard:=none} t' own V.n λt B n=>Ml l i λl=>sxD P tb XL O late ops.toList fu l t B n K:=by obtain⟨dst,op,type,pos,after,guard⟩:=o;exact h
         have key:=Yh (o:={o with guard:=none}) (Q:=Q) (K:=λt B n=>Ml l i λl=>sxD P tb XL O late ops.toList fu l t B n K) hT hvs2 h2 hL.has hkX p D λt own I V a w1 e q hA Z F=>W _ _ ⟨_,λ_=>sub q hA Z,C0 _ _ _,Ck _ _ _,λA=>z e q.since F A⟩;exact key
        .rw[dn (by rw[J];exact Bool.false_ne_true)];exact skip p h
end
theorem R3 {P:Program}{ops:Array Oper}{Q:Exit->Act->World->Prop}(Inv:Array Bool->Act->World->Prop)
  (p:∀c a w i,Inv c a w->i∈Region.ready .any ops c->wpOp P ops Q i (λu w'=>Inv (c.setIfInBounds i true) u w') a w)
  (q:∀c a w,Inv c a w->Region.ready .any ops c=[]->Q .normal a w) :
  ∀(j:Nat) (c:Array Bool) (a:Act) (w:World),c.toList.count false=j->Inv c a w->wpAny P .any ops Q j c a w
 | 0,c,a,w,hc,hi=>by
  have hr:Region.ready .any ops c=[]:=List.eq_nil_iff_forall_not_mem.2 λi h=>by
   have h:=(mem_ready.1 h).1;have:c.toList[i]?=some false:=by
    rw[Array.getElem?_toList];cases e:c[i]? with
    | none=>simp[Array.getD_eq_getD_getElem?,e] at h
    | some b=>simp[Array.getD_eq_getD_getElem?,e] at h;rw[h]
   have:=List.count_pos_iff.2 (ar this);omega
  exact⟨hr,q _ _ _ hi hr⟩
 | j+1,c,a,w,hc,hi=>by
  refine⟨q _ _ _ hi,λi hr=>?_⟩;refine wpOp_mono (λu w' h=>R3 Inv p q j _ u w' ?_ h) (p _ _ _ _ hi hr);have h:=(mem_ready.1 hr).1;have s:i < c.size:=by
   rcases Nat.lt_or_ge i c.size with z | z
   .exact z
   .simp[Array.getElem?_eq_none z] at h
  have A:c.toList[i]'(by simpa using s)=false:=by simpa [Array.getD_eq_getD_getElem?,Array.getElem?_eq_getElem s] using h
  rw[Array.toList_setIfInBounds,List.count_set (by simpa using s),A];rw[dp (by rfl),dn (by decide)];omega
theorem Zb8 {P:Program}{o:Oper}{a:Act}{w:World}{next:Act->World->Prop}{Q:Exit->Act->World->Prop}(h:o.wp P a w next Q):o.wp P a w (λp w'=>next p w'/\∃v ds,p=({a with defers:=ds}:Act).put o.dst v) Q:=by
 unfold Oper.wp at *;generalize (execOp a.eval o).run P w=r at *;cases r with
 | ok n w' =>
  cases n<;>simp only[Oper.upon] at h⊢
  case value u=>exact⟨h,u,a.defers,rfl⟩
  case skip=>exact⟨h,undef,a.defers,rfl⟩
  case defer d=>exact⟨h,undef,d::a.defers,rfl⟩
  case enter f args =>
   refine Calls.mono h λe j b=>?_;cases e with
   | returned u=>exact⟨b,u,a.defers,rfl⟩
   | panicked c=>exact b
   | outgrown=>exact b
  case row row args=>exact Rows.mono h λu j b=>⟨b,u,a.defers,rfl⟩
 | halt x w' =>
  cases x<;>simp only[Oper.upon] at h⊢
  case panic u=>exact h
theorem Z3f {own:Os}{I I':Imm}{V V':Va}{w w':World}{c:List (List G)}{e sz:Nat}(J:∀k r,look k own=some r->k < V.n)(C:Later own I V w ((V.n,.slc c e sz)::own) I' V' w'):∃z V2,V2.n=V'.n/\Later own I V w own z V2 w'/\(I'.le z/\V'.le V2)/\∀y,CRep I' V' (.osl V.n) y->VRep z (.sl c) y:=by
 have u:look V.n ((V.n,R.slc c e sz)::own)=some (.slc c e sz):=by unfold look;rw[show Nat.beq V.n V.n=true from Nat.beq_refl _];rfl
 have B:∀(E:R) (l:Os),(∀k r,look k own=some r->look k l=some r)->∀k r,look k own=some r->look k ((V.n,E)::l)=some r:=λE l H k r h=>by
  have Z:=J k r h;unfold look;cases e:Nat.beq k V.n with
  | true=>have:=aw e;omega
  | false=>exact H k r h
 obtain⟨D,A⟩:∃D,CRep I' V' (.osl V.n) D:=⟨V'.s V.n,C.has.num _ _ u,rfl⟩;obtain⟨X,Y,z,V2,⟨rfl,rfl⟩,⟨T,-⟩,q,W⟩:=D5 (K1:=λg o=>g=.sl c/\o=(V.n,.froz c sz)::(V.n,.slc c e sz)::own) (by unfold Z42;dsimp only;rw[u];exact⟨rfl,rfl⟩) A C.has;have j:=C.trans q;have p:=B (.froz c sz) _ (B (.slc c e sz) own λ_ _ h=>h);refine⟨z,V2,T,⟨⟨j.has.mem,λk r h=>j.has.num k r (p k r h),λk r h=>j.has.each k r (p k r h),λk r b h=>j.has.foot k r b (p k r h),λk F r r' b h M=>j.has.disj k F r r' b (p k r h) (p F r' M)⟩,⟨j.fro.os,j.fro.tape,j.fro.output,j.fro.size,j.fro.blk,j.fro.mono,λk r b h=>j.fro.foot k r b (p k r h)⟩,j.va⟩,⟨q.fro.mono,q.va⟩,λy O=>?_⟩;rw[O.2,<-A.2];exact W
def X4:List Oper->List G->Ts->Ts
 | o::l,g::gs,t=>X4 l gs (match o.dst with
  | some d=>(d,g)::t
  | none=>t)
 | _,_,t=>t
theorem Qg {P:Program}{tt:List (Nat × TI)}{own:Os}{n0:Nat}{K:Ts->Prop}:∀{l:List Oper} {t:Ts},sxI P tt own n0 l t K->∃gs,gs.length=l.length/\K (X4 l gs t)/\∀(i:Nat) o,l[i]?=some o->∃d g,o.dst=some d/\gs[i]?=some g/\∀n,n0<=n->Z8g P tt o (X4 (l.take i) (gs.take i) t) own n d g
 | [],t,h=>⟨[],rfl,h,λi o b=>by simp at b⟩
 | o::l,t,h=>by
  have h:Zd5 P tt own n0 o l (sxI P tt own n0 l) t K:=h;unfold Zd5 at h;split at h
  .exact h.elim
  next d hd =>
  obtain⟨g,A,q⟩:=h;obtain⟨gs,e,c,s⟩:=Qg q;refine⟨g::gs,by simp[e],?_,λi p b=>?_⟩
  .unfold X4;rw[hd];exact c
  .cases i with
   | zero =>
    simp at b;subst b;exact⟨d,g,hd,rfl,A⟩
   | succ i =>
    obtain⟨j,B,u,C,D⟩:=s i p (by simpa using b);refine⟨j,B,u,by simpa using C,λn z=>?_⟩;have:=D n z;rw[List.take_succ_cons,List.take_succ_cons];unfold X4;rw[hd];exact this
theorem Z0l {α:Type}{i j:Nat}{g:α}{t:List (Nat × α)}(h:i≠j):look i ((j,g)::t)=look i t:=by
 show(bif Nat.beq i j then some g else look i t)=look i t;cases e:Nat.beq i j with
 | true=>exact dq (aw e) h
 | false=>rfl
theorem T5 {α:Type}{i:Nat}{g:α}{t:List (Nat × α)}:look i ((i,g)::t)=some g:=by unfold look;rw[show Nat.beq i i=true from Nat.beq_refl _];rfl
theorem Tq {s:Nat}:∀{l:List Oper} {gs:List G} {t:Ts},(∀o∈l,o.dst≠some s)->look s (X4 l gs t)=look s t
 | [],gs,t,_=>by unfold X4;rfl
 | o::l,[],t,_=>by unfold X4;rfl
 | o::l,g::gs,t,h=>by
  unfold X4;rw[Tq λo b=>h o (List.mem_cons_of_mem _ b)];split
  .next d hd=>exact Z0l λe=>h o List.mem_cons_self (by rw[hd,e])
  .rfl
theorem Ys {d:Nat}{g:G}{o:Oper}:∀{l:List Oper} {gs:List G} {t:Ts} {j:Nat},(l.map (·.dst)).Nodup->l[j]?=some o->o.dst=some d->gs[j]?=some g->look d (X4 l gs t)=some g
 | [],gs,t,j,_,h,_,_=>by simp at h
 | o'::l,[],t,j,_,_,_,h=>by simp at h
 | o'::l,g'::gs,t,j,hn,h,hd,hg=>by
  rw[cu,List.nodup_cons] at hn;unfold X4;cases j with
  | zero =>
   simp at h hg;subst h hg;rw[Tq λo b e=>hn.1 (by rw[hd,<-e];exact bi.2 ⟨o,b,rfl⟩),hd];exact T5
  | succ j=>exact Ys hn.2 (by simpa using h) hd (by simpa using hg)
theorem Il {s:Nat}{g:G}{t:Ts}:∀{l:List Nat},look s (Z7k t l)=some g->s∈l/\look s t=some g
 | [],h=>by unfold Z7k at h;cases h
 | i::l,h=>by
  unfold Z7k at h;split at h
  .next c b =>
   by_cases e:s=i
   .subst e;rw[T5] at h;exact⟨List.mem_cons_self,by rw[b,h]⟩
   .rw[Z0l e] at h;exact⟨List.mem_cons_of_mem _ (Il h).1,(Il h).2⟩
  .exact⟨List.mem_cons_of_mem _ (Il h).1,(Il h).2⟩
def S3 (tt:List (Nat × TI)):List Oper->List Bool->Nat
 | o::l,b::bs=>S3 tt l bs+(bif b&&!isQ tt o then 1 else 0)
 | _,_=>0
theorem Z0c {tt:List (Nat × TI)}{o:Oper}:∀{l:List Oper} {b:List Bool} {i:Nat},l[i]?=some o->b[i]?=some false->S3 tt l (b.set i true)=S3 tt l b+(bif isQ tt o then 0 else 1)
 | [],b,i,h,_=>by simp at h
 | o'::l,[],i,_,h=>by simp at h
 | o'::l,b'::b,0,h,hb=>by simp at h hb;subst h hb;show S3 tt l b+(bif true&&!isQ tt o' then 1 else 0)=S3 tt l b+(bif false&&!isQ tt o' then 1 else 0)+_;cases isQ tt o'<;>rfl
 | o'::l,b'::b,i+1,h,hb=>by show S3 tt l (b.set i true)+_=S3 tt l b+_+_;rw[Z0c (l:=l) (by simpa using h) (by simpa using hb)];omega
structure Z9s (tt:List (Nat × TI))(N:Nat)(ops:Array Oper):Prop where
 grd:∀o∈ops.toList,o.guard=none
 nod:(ops.toList.map (·.dst)).Nodup
 lt:∀o∈ops.toList,∀d,o.dst=some d->d < N
 back:∀(i:Nat) o,ops[i]?=some o->∀e∈o.after,Region.binds .any e=true->e.on < i
 dep:∀(i:Nat) o s,ops[i]?=some o->s∈Py o->(∀o'∈ops.toList,o'.dst≠some s)\/∃(j:Nat) (o':Oper),ops[j]?=some o'/\o'.dst=some s/\∃e∈o.after,Region.binds .any e=true/\e.on=j
 loc:∀o∈ops.toList,isQ tt o=false->isL tt o=false
theorem Z4r {tt:List (Nat × TI)}{N:Nat}{ops:Array Oper}(u:Z9s tt N ops){b:Array Bool}(A:b.size=ops.size)(hr:Region.ready .any ops b=[]):∀(i:Nat),i < ops.size->b.getD i true=true:=by
 intro i
 induction i using Nat.strongRecOn with
 | ind i ih =>
  intro h;cases e:b.getD i true with
  | true=>rfl
  | false =>
   have:i∈Region.ready .any ops b:=mem_ready.2 ⟨e,ops[i],am h,λc s q=>by
    have j:=u.back i _ (am h) c s q;have p:=ih c.on j (by omega);have z:c.on < b.size:=by omega
    simpa [Array.getD_eq_getD_getElem?,Array.getElem?_eq_getElem z] using p⟩
   rw[hr] at this;cases this
structure InvI (tt:List (Nat × TI))(N:Nat)(ops:Array Oper)(gs:List G)(t0:Ts)(own:Os)(I0:Imm)(V0:Va)(w0:World)(listed:Array Bool)(a:Act)(w:World)(I:Imm)(V:Va):Prop where
 size:listed.size=ops.size
 later:Later own I0 V0 w0 own I V w
 num:V.n=V0.n+S3 tt ops.toList listed.toList
 def':a.defers=[]
 tmps:a.tmps.size=N
 old:∀s g,look s t0=some g->(∀o∈ops.toList,o.dst≠some s)->∃x,a.tmps[s]?=some x/\TRep I V g x
 new:∀(j:Nat) o d g,listed[j]?=some true->ops[j]?=some o->o.dst=some d->gs[j]?=some g->∃x,a.tmps[d]?=some x/\TRep I V g x
theorem InvI.next {tt:List (Nat × TI)}{N:Nat}{ops:Array Oper}{gs:List G}{t0:Ts}{own:Os}{I0 I I':Imm}{V0 V V':Va}{w0 w w':World}{b:Array Bool}{a D:Act}{i d:Nat}{o:Oper}{g:G}{v:Value}(hD:Z9s tt N ops)(h:InvI tt N ops gs t0 own I0 V0 w0 b a w I V)(B:ops[i]?=some o)(hi:b.getD i true=false)(hd:o.dst=some d)(hg:gs[i]?=some g)(A:Later own I V w own I' V' w')(hn:V'.n=V.n+(bif isQ tt o then 0 else 1))(hv:TRep I' V' g v)(ha:D.tmps=(a.put (some d) v).tmps)(J:D.defers=[]):InvI tt N ops gs t0 own I0 V0 w0 (b.setIfInBounds i true) D w' I' V':=by
 have Y:o∈ops.toList:=ar (by simpa using B);have z:i < ops.size:=(bx.1 B).1;have M:i < b.size:=by rw[h.size];exact z
 have W:b.toList[i]?=some false:=by rw[Array.getElem?_toList];simpa [Array.getD_eq_getD_getElem?,Array.getElem?_eq_getElem M] using hi
 have p:D.tmps=a.tmps.setIfInBounds d v:=ha;have F:=hD.lt o Y d hd;refine⟨by simp[h.size],h.later.trans A,?_,J,by rw[p];simp[h.tmps],λs H hs C=>?_,λj o' X H Z c q u=>?_⟩
 .rw[hn,h.num,Array.toList_setIfInBounds,Z0c (by simpa using B) W];omega
 .obtain⟨x,O,E⟩:=h.old s H hs C;refine⟨x,?_,E.mono A.fro.mono A.va⟩;rw[p,Array.getElem?_setIfInBounds_ne (λe=>C o Y (by rw[hd,e]))];exact O
 .by_cases e:i=j
  .subst e;rw[B] at c;cases c;rw[hd] at q;cases q;rw[hg] at u;cases u;refine⟨v,?_,hv⟩;rw[p];simp[h.tmps,F]
  .rw[Array.getElem?_setIfInBounds_ne e] at Z;obtain⟨x,O,E⟩:=h.new j o' X H Z c q u;refine⟨x,?_,E.mono A.fro.mono A.va⟩;have T:d≠X:=λe'=>by
    have h3:(ops.toList.map (·.dst))[i]?=some (some d):=by simp[B,hd]
    have h4:(ops.toList.map (·.dst))[j]?=some (some d):=by simp[c,q,e']
    exact e ((List.getElem?_inj (by simpa using z) hD.nod).1 (h3.trans h4.symm))
   rw[p,Array.getElem?_setIfInBounds_ne T];exact O
theorem InvI.args {tt:List (Nat × TI)}{N:Nat}{ops:Array Oper}{gs:List G}{M:Ts}{own:Os}{I0 I:Imm}{V0 V:Va}{w0 w:World}{b:Array Bool}{a:Act}{i:Nat}{o:Oper}(J:Z9s tt N ops)(W:gs.length=ops.toList.length)(h:InvI tt N ops gs M own I0 V0 w0 b a w I V)(H:ops[i]?=some o)(hr:i∈Region.ready .any ops b):ARep N I V a (Z7k (X4 (ops.toList.take i) (gs.take i) M) (Py o)):=by
 refine⟨h.def',h.tmps,λs g X=>?_⟩;obtain⟨Y,C⟩:=Il X;obtain⟨-,T,c,p⟩:=mem_ready.1 hr;rw[H] at c;cases c;rcases J.dep i o s H Y with B | ⟨j,o',ho',hd',e,he,hb,rfl⟩
 .rw[Tq λT O=>B T (bm O)] at C;exact h.old s g C B
 .have u:=J.back i o H e he hb;have z:e.on < ops.size:=(bx.1 ho').1;have D:=p e he hb;have A:e.on < b.size:=by rw[h.size];exact z
  have F:b[e.on]?=some true:=by rw[am A];simpa [Array.getD_eq_getD_getElem?,Array.getElem?_eq_getElem A] using D
  obtain⟨E,q⟩:∃E,gs[e.on]?=some E:=⟨_,ap (by rw[W];simpa using z)⟩;have O:=Ys (l:=ops.toList.take i) (gs:=gs.take i) (t:=M) (j:=e.on) (o:=o') (d:=s) (g:=E) (by rw[dc];exact J.nod.sublist (List.take_sublist _ _)) (by rw[List.getElem?_take_of_lt u];simpa using ho') hd' (by rw[List.getElem?_take_of_lt u];exact q);rw[O] at C;cases C;exact h.new e.on o' s _ F ho' hd' q
theorem Zbb {P:Program}{tb:List (Nat × TI)}{N:Nat}{ops:Array Oper}{t0:Ts}{own:Os}{I0:Imm}{V0:Va}{w0:World}{a0:Act}{K:Ts->Prop}{Q:Exit->Act->World->Prop}(hT:∀t i,look t tb=some i->TIok P t i)(H:Z9s tb N ops)(h:sxI P tb own V0.n ops.toList t0 K)(hH:Has I0 V0 own w0)(M:ARep N I0 V0 a0 t0)
  (hQ:∀t I V a w,K t->V.n=V0.n+S3 tb ops.toList (List.replicate ops.size true)->Later own I0 V0 w0 own I V w->ARep N I V a t->Q .normal a w):wpAny P .any ops Q ops.size (Array.replicate ops.size false) a0 w0:=by
 obtain⟨gs,hl,hK,hs⟩:=Qg h;refine R3 (λc a w=>∃I V,InvI tb N ops gs t0 own I0 V0 w0 c a w I V) (λc a w i ⟨I,V,p⟩ hr=>?_) (λc a w ⟨I,V,p⟩ hr=>?_) _ _ _ _ (by simp) ⟨I0,V0,?_⟩
 .obtain⟨hli,o,Y,-⟩:=mem_ready.1 hr;have X:o∈ops.toList:=ar (by simpa using Y);obtain⟨d,g,hd,hg,q⟩:=hs i o (by simpa using Y);have q:=q V.n p.later.va.1;have hA:=p.args H hl Y hr;unfold Z8g at q;refine wpOp_step Y λK1 hK1=>?_;rw[dp (Fe (H.grd o X))];cases T:isQ tb o with
  | true =>
   rw[T] at q;obtain⟨g',y,E,hy,hrun⟩:=Qc (S:=λu=>u=w) (mo:=.new) hT (λk E=>by cases E) (λ_ u hu=>by rw[hu];exact C0 _ _ _) T q p.later.has hA;rw[hd] at E;have E:look d ((d,g')::_)=some g:=E;rw[T5] at E;cases E;unfold Oper.wp;rw[hrun w rfl];refine hK1 _ _ ⟨I,V,p.next H Y hli hd hg (.refl p.later.has) (by rw[T];rfl) hy (by rw[hd]) ?_⟩;rw[hd];exact p.def'
  | false =>
   rw[T] at q;have hb:=Y9 (P:=P) (mo:=.new) (Q:=Q) (next:=λa' w'=>∃t own' I' V',(∃B e sz,(V'.n=V.n+1/\own'=(V.n,.slc B e sz)::own)/\look d t=some (.osl V.n)/\g=.sl B)/\Later own I V w own' I' V' w'/\ARep N I' V' a' t) hT (λ_=>rfl) T (H.loc o X T) q p.later.has hA (H.lt o X) λt own' I' V' a' w' E W _ _ D=>⟨t,own',I',V',E,W,D⟩;refine Oper.wp_mono (λa' w' ⟨⟨t,own',I',V',⟨B,e,sz,⟨hn,hown⟩,hlk,hg2⟩,W,D⟩,v,ds,ha'⟩=>?_) (Zb8 hb);subst hown hg2;obtain⟨I2,V2,hn2,hL3,hle,hv⟩:=Z3f p.later.has.num W;obtain⟨x,hx,hxr⟩:=D.get d _ hlk;have hxv:x=v:=by rw[ha',hd] at hx;have hdl:=H.lt o X d hd;simp[Act.put,p.tmps,hdl] at hx;exact hx.symm
   subst hxv;refine hK1 _ _ ⟨I2,V2,p.next H Y hli hd hg hL3 (by rw[hn2,hn,T];rfl) (hv _ hxr) (by rw[ha',hd];rfl) D.defers⟩
 .refine⟨by simp,.refl hH,?_,M.defers,M.size,λs g z _=>M.get s g z,λj o d g F=>?_⟩
  .have:∀(l:List Oper) n,S3 tb l (List.replicate n false)=0:=λl=>by
    induction l with
    | nil=>intro n;cases n<;>rfl
    | cons o l ih=>intro n;cases n with
     | zero=>rfl
     | succ n=>show S3 tb l (List.replicate n false)+_=0;rw[ih];rfl
   simp[this]
  .simp[Array.getElem?_replicate] at F
 .have hall:=Z4r H p.size hr;have J:c.toList=List.replicate ops.size true:=by
   rw[List.eq_replicate_iff];refine⟨by simp[p.size],λb hb=>?_⟩;obtain⟨j,F⟩:=List.mem_iff_getElem?.1 hb;have O:j < c.size:=by have:=(aq.1 F).1;simpa using this
   have:=hall j (by rw[<-p.size];exact O);rw[Array.getElem?_toList,am O] at F;cases F;simpa [Array.getD_eq_getD_getElem?,Array.getElem?_eq_getElem O] using this
  refine hQ _ I V a w hK (by rw[p.num,J]) p.later ⟨p.def',p.tmps,λs g z=>?_⟩;by_cases A:∀o∈ops.toList,o.dst≠some s
  .rw[Tq A] at z;exact p.old s g z A
  .obtain⟨o,A⟩:=Classical.not_forall.1 A;obtain⟨X,C⟩:=Classical.not_imp.1 A;have C:=Classical.not_not.1 C;obtain⟨j,F⟩:=List.mem_iff_getElem?.1 X;have hjo:j < ops.size:=by have:=(aq.1 F).1;simpa using this
   obtain⟨g',Z⟩:∃g',gs[j]?=some g':=⟨_,ap (by rw[hl];simpa using hjo)⟩;rw[Ys H.nod F C Z] at z;cases z;refine p.new j o s _ ?_ (by simpa using F) C Z;rw[<-Array.getElem?_toList,J];simp[hjo]
theorem Sc {tt:List (Nat × TI)}{K:Nat->Prop}:∀{l:List Oper} {n:Nat},Z5m tt l n K->K (n+S3 tt l (List.replicate l.length true))
 | [],_,h=>h
 | o::l,n,h=>by
  unfold Z5m at h;rw[bk,List.replicate_succ];show K (n+(S3 tt l _+(bif true&&!isQ tt o then 1 else 0)));split at h
  .next e =>
   rw[e];exact Sc h
  .next e =>
   rw[e];have:=Sc h;rw[show n+1+S3 tt l (List.replicate l.length true)=n+(S3 tt l (List.replicate l.length true)+1) by omega] at this;exact this
theorem Ih {s:Nat}:∀{l:List Oper} {i:Nat},Z5y l s i=none->∀o∈l,o.dst≠some s
 | [],_,_,o,h=>by cases h
 | o'::l,i,h,o,b=>by
  unfold Z5y at h;split at h
  .next d hd =>
   cases e:Nat.beq d s with
   | true=>rw[e] at h;cases h
   | false =>
    rw[e] at h;rcases bo.1 b with rfl | b
    .rw[hd];intro c;cases c;rw[Nat.beq_refl] at e;cases e
    .exact Ih h o b
  .next hd =>
   rcases bo.1 b with rfl | b
   .rw[hd];intro c;cases c
   .exact Ih h o b
theorem Ln {s j:Nat}:∀{l:List Oper} {i:Nat},Z5y l s i=some j->∃k o,j=i+k/\l[k]?=some o/\o.dst=some s
 | [],_,h=>by cases h
 | o'::l,i,h=>by
  unfold Z5y at h;split at h
  .next d hd =>
   cases e:Nat.beq d s with
   | true =>
    rw[e] at h;cases h;exact⟨0,o',rfl,rfl,by rw[hd,aw e]⟩
   | false =>
    rw[e] at h;obtain⟨k,o,p,b,c⟩:=Ln h;exact⟨k+1,o,by omega,b,c⟩
  .obtain⟨k,o,p,b,c⟩:=Ln h;exact⟨k+1,o,by omega,b,c⟩
theorem U8 {α:Type}{p:α->Bool}:∀{l:List α},Mg p l=true->∃x∈l,p x=true
 | [],h=>by cases h
 | y::l,h=>by
  have h:(bif p y then true else Mg p l)=true:=h;cases e:p y with
  | true=>exact⟨y,List.mem_cons_self,e⟩
  | false =>
   rw[e] at h;obtain⟨x,c,b⟩:=U8 h;exact⟨x,List.mem_cons_of_mem _ c,b⟩
structure Zcb (tb:List (Nat × TI))(ops l:List Oper)(i:Nat)(o:Oper):Prop where
 grd:o.guard=none
 new:∃d,o.dst=some d/\∀o'∈l,o'.dst≠some d
 kind:isQ tb o=false->Za9 o=true
 back:∀e∈o.after,Region.binds .any e=true->e.on < i
 dep:∀s∈Py o,(∀o'∈ops,o'.dst≠some s)\/∃(j:Nat) (o':Oper),ops[j]?=some o'/\o'.dst=some s/\∃e∈o.after,Region.binds .any e=true/\e.on=j
theorem Z74 {tb:List (Nat × TI)}{ops l:List Oper}{i:Nat}{o:Oper}(h:Zd9 tb ops l i o=true):Zcb tb ops l i o:=by
 unfold Zd9 at h;split at h
 .next d D hd =>
  simp only[Bool.and_eq_true] at h;obtain⟨⟨⟨p,c⟩,H⟩,z⟩:=h;refine⟨D,⟨d,hd,?_⟩,λu=>by rw[u] at p;exact p,λe A b=>?_,λs C=>?_⟩
  .split at c
   .next e=>exact Ih e
   .cases c
  .have:=Ai H e (by simpa using A);rw[b] at this;simpa [Nat.blt_eq] using this
  .have:=Ai z s C;unfold Zdq at this;split at this
   .next e=>exact .inl (Ih e)
   .next j e =>
    obtain⟨k,q,J,E,F⟩:=Ln e;obtain⟨x,B,b⟩:=U8 this;simp only[Bool.and_eq_true] at b;have M:=aw b.2;exact .inr ⟨k,q,E,F,x,by simpa using B,b.1,by omega⟩
 .cases h
theorem Y1 {tb:List (Nat × TI)}{ops:List Oper}:∀{l:List Oper} {i:Nat},Zc2 tb ops l i=true->(l.map (·.dst)).Nodup/\∀(j:Nat) o,l[j]?=some o->∃q,Zcb tb ops q (i+j) o
 | [],_,_=>⟨List.nodup_nil,λj o h=>by simp at h⟩
 | o::l,i,h=>by
  unfold Zc2 at h;rw[bd] at h;obtain⟨b,z⟩:=h;obtain⟨D,A⟩:=Y1 z;have b:=Z74 b;refine⟨?_,λj p s=>?_⟩
  .rw[cu,List.nodup_cons];refine⟨λB=>?_,D⟩;obtain⟨p,c,e⟩:=bi.1 B;obtain⟨d,hd,u⟩:=b.new;exact u p c (by rw[e,hd])
  .cases j with
   | zero =>
    simp at s;subst s;exact⟨l,b⟩
   | succ j =>
    obtain⟨q,C⟩:=A j p (by simpa using s);exact⟨q,by rw[show i+(j+1)=i+1+j by omega];exact C⟩
theorem Z6p {tb:List (Nat × TI)}{N:Nat}{ops:Array Oper}(h:Z5k tb ops=true)(A:∀o∈ops.toList,∀d,o.dst=some d->d < N):Z9s tb N ops:=by
 unfold Z5k at h;rw[bd] at h;obtain⟨F,u⟩:=Y1 h.2;have q:∀o∈ops.toList,∃p i,Zcb tb ops.toList p i o:=λo b=>by obtain⟨j,D⟩:=List.mem_iff_getElem?.1 b;obtain⟨p,c⟩:=u j o D;exact⟨p,_,c⟩
 refine⟨λo b=>(by obtain⟨p,i,c⟩:=q o b;exact c.grd),F,A,λi o b e C H=>?_,λi o s b E=>?_,λo b B=>?_⟩
 .obtain⟨p,c⟩:=u i o (by simpa using b);have:=c.back e C H;omega
 .obtain⟨p,c⟩:=u i o (by simpa using b);rcases c.dep s E with z | ⟨j,o',z,h5⟩
  .exact .inl z
  .exact .inr ⟨j,o',by simpa using z,h5⟩
 .obtain⟨p,i,c⟩:=q o b;have:=c.kind B;unfold Za9 at this;unfold isL;split at this
  .next e=>rw[e]
  .cases this
theorem Z6d {P:Program}{tb:List (Nat × TI)}{N:Nat}{id:Nat}{ops:Array Oper}{t:Ts}{own:Os}{I:Imm}{V:Va}{w:World}{a:Act}{K:KC}{Q:Exit->Act->World->Prop}(hT:∀t i,look t tb=some i->TIok P t i)(u:P.follows .mixedOrders=true)(p:∀o∈ops.toList,∀d,o.dst=some d->d < N)(A:Z5k tb ops=true)(h:sxI P tb own V.n ops.toList t λt=>Z5m tb ops.toList V.n λn=>K .normal t own n)(hH:Has I V own w)(ha:ARep N I V a t)
  (C:∀t I' V' a w',K .normal t own V'.n->Later own I V w own I' V' w'->ARep N I' V' a t->Q .normal a w'):(Code.region id ops true).wp P Q a w:=by
 have c:Has I V own w.drew:=hH.heap rfl rfl;have s:Later own I V w own I V w.drew:=⟨c,⟨rfl,rfl,rfl,au _,λ_ _ _=>⟨rfl,λ_=>rfl⟩,λ_ _ _ h=>h,λk r b e z _=>⟨k,r,e,z⟩⟩,au _,λ_ _=>⟨rfl,rfl⟩⟩;refine wp_region_any u (Zbb hT (Z6p A p) h c ha λt I' V' a w' q B j ha=>C t I' V' a w' ?_ (s.trans j) ha);have:=Sc q;rw[show ops.toList.length=ops.size from rfl] at this;rw[B];exact this
def Ze5 (N:Nat)(l:List Oper):Bool:=l.all λo=>match o.dst with | some i=>Nat.blt i N | none=>true
def Ez (tb:List (Nat × TI))(N:Nat):Code->Bool
 | .region _ ops d=>Ze5 N ops.toList&&(match d with | true=>Z5k tb ops||Region.noSelect ops&&Z1d tb ops.toList ops.toList 0 λc=>Kc tb c ops.toList ops.toList 0 λlate=>Ls tb c ops late ops.toList.length (noB ops.toList) | false=>true)
 | .seq a b | .cond _ a b=>Ez tb N a&&Ez tb N b
 | .block _ a | .loop a | .scope a=>Ez tb N a
 | _=>true
def Ex.to:Ex->Exit
 | .normal=>.normal
 | .exit id=>.exit id
 | .ret=>.ret
 | .goto l=>.goto l
def Va.renS (V:Va)(m:List (Nat × Nat))(n:Nat):Va:=⟨n,V.b,λk=>V.s (Go.Proofs.YtmmdikhljefeiaaGreat.ren m k),λk=>V.f (Go.Proofs.YtmmdikhljefeiaaGreat.ren m k)⟩
section
variable {P:Program} {tb:List (Nat × TI)} {N n:Nat} {I I' I0:Imm} {V V' V0:Va} {a:Act} {t t':Ts} {own own' own0:Os} {w w' w0:World} {g:G} {x y:Value} {d:Option Tmp} {m:List (Nat × Nat)} {r:R}
theorem C9 (b:Rz n g=true)(h:CRep I V (Ke m g) x):CRep I (V.renS m n) g x:=by
 cases g with
 | orv k i s o l c=>cases s<;>exact h.elim
 | ptr k o=>exact⟨bc (dm b) (au _),h.2⟩
 | osl k=>exact⟨bc (dm b) (au _),h.2⟩
 | osv k sz lo hi=>exact⟨bc (dm b) (au _),h.2⟩
 | mp k=>exact⟨bc (dm b) (au _),h.2⟩
 | oel k i s o=>exact h
 | _=>exact h
theorem O4 {cs:List G}{b:List Value}(p:Bp (Rz n) cs=true)(h:PW (CRep I V) (cs.map (Ke m)) b):PW (CRep I (V.renS m n)) cs b :=
 ⟨by have:=h.1;simpa using this,λj g u c e=>C9 (Ai p g (ar c)) (h.2 j _ u (by rw[ax,c];rfl) e)⟩
theorem B7 (j:Z8p n g=true)(h:TRep1 I V (Rk m g) x):TRep1 I (V.renS m n) g x:=by
 cases g with
 | oag l =>
  obtain⟨cs,e,E⟩:=(show ∃cs:List Value,x=.agg cs.toArray/\PW (CRep I V) (l.map (Ke m)) cs from h);exact⟨cs,e,O4 j E⟩
 | clo f a c =>
  obtain⟨⟨g,B,D⟩,F,cs,e,C,p⟩:=(show(∃g,(g∈a.map (Ke m)\/g∈c.map (Ke m))/\C8 g=false)/\_ from h);have j:(match Bp (Rz n) a with | true=>Bp (Rz n) c | false=>false)=true:=j;split at j
  .next ha =>
   have A:∀{g:G},C8 (Ke m g)=false->C8 g=false:=λ{g} h=>by cases g<;>first | rfl | exact h | (next sz _ _ _=>cases sz<;>rfl)
   refine⟨?_,F,cs,e,O4 ha C,O4 j p⟩;rcases B with B | B
   .obtain⟨g0,u,rfl⟩:=bi.1 B;exact⟨g0,.inl u,A D⟩
   .obtain⟨g0,u,rfl⟩:=bi.1 B;exact⟨g0,.inr u,A D⟩
  .cases j
 | oel k i s o =>
  obtain⟨C,p⟩:=(show _/\_ from h);exact⟨bc (dm j) (au _),p⟩
 | orv k i s o l c =>
  cases s with
  | zero =>
   obtain⟨C,b,q,p,u⟩:=(show _/\∃b q,_/\_ from h);exact⟨bc (dm j) (au _),b,q,p,u⟩
  | succ s =>
   obtain⟨C,b,q,p,u⟩:=(show _/\∃b q,_/\_ from h);exact⟨bc (dm j) (au _),b,q,p,u⟩
 | elp row o=>exact h
 | tup l=>cases j
 | ptr k o=>exact .of_c (C9 (g:=.ptr k o) j h)
 | osl k=>exact .of_c (C9 (g:=.osl k) j h)
 | osv k sz lo hi=>exact .of_c (C9 (g:=.osv k sz lo hi) j h)
 | mp k=>exact .of_c (C9 (g:=.mp k) j h)
 | v z=>exact .of_c (C9 (m:=m) (V:=V) (g:=.v z) rfl h)
 | tt=>exact .of_c (C9 (m:=m) (V:=V) (g:=.tt) rfl h)
 | ff=>exact .of_c (C9 (m:=m) (V:=V) (g:=.ff) rfl h)
 | un=>exact .of_c (C9 (m:=m) (V:=V) (g:=.un) rfl h)
 | nl=>exact .of_c (C9 (m:=m) (V:=V) (g:=.nl) rfl h)
 | agg l=>exact .of_c (C9 (m:=m) (V:=V) (g:=.agg l) rfl h)
 | sl l=>exact .of_c (C9 (m:=m) (V:=V) (g:=.sl l) rfl h)
theorem Xh (p:Z1g n g=true)(h:TRep I V (renS m g) x):TRep I (V.renS m n) g x:=by
 cases g with
 | tup l =>
  obtain⟨cs,e,q⟩:=(show ∃cs:List Value,x=.tuple cs.toArray/\PW (TRep1 I V) (l.map (Rk m)) cs from h);exact⟨cs,e,by simpa using q.1,λj g u A B=>B7 (Ai (show Bp (Z8p n) l=true from p) g (ar A)) (q.2 j _ u (by rw[ax,A];rfl) B)⟩
 | oag l=>exact .of_1 (B7 (g:=.oag l) p h)
 | clo f a c=>exact .of_1 (B7 (g:=.clo f a c) p h)
 | oel k i s o=>exact .of_1 (B7 (g:=.oel k i s o) p h)
 | orv k i s o l c=>cases s<;>exact .of_1 (B7 p h)
 | elp row o=>exact .of_1 (g:=.elp row o) h
 | ptr k o=>exact .of_1 (B7 (g:=.ptr k o) p h)
 | osl k=>exact .of_1 (B7 (g:=.osl k) p h)
 | osv k a b c=>exact .of_1 (B7 (g:=.osv k a b c) p h)
 | mp k=>exact .of_1 (B7 (g:=.mp k) p h)
 | v z=>exact .of_1 (B7 (m:=m) (V:=V) (g:=.v z) rfl h)
 | tt=>exact .of_1 (B7 (m:=m) (V:=V) (g:=.tt) rfl h)
 | ff=>exact .of_1 (B7 (m:=m) (V:=V) (g:=.ff) rfl h)
 | un=>exact .of_1 (B7 (m:=m) (V:=V) (g:=.un) rfl h)
 | nl=>exact .of_1 (B7 (m:=m) (V:=V) (g:=.nl) rfl h)
 | agg l=>exact .of_1 (B7 (m:=m) (V:=V) (g:=.agg l) rfl h)
 | sl l=>exact .of_1 (B7 (m:=m) (V:=V) (g:=.sl l) rfl h)
theorem Z0n:∀{T:Ts},leT m t n T->∀{i g},look i T=some g->Z1g n g=true/\look i t=some (renS m g)
 | [],_,i,g,h=>by cases h
 | (j,g')::T,hT,i,g,h=>by
  rw[Ac] at h;split at h
  .next e=>subst e;cases h;exact hT.1
  .exact Z0n hT.2 h
theorem Hh:∀{T:Os},leO m own n T->∀{i r},look i T=some r->i < n/\(isS r=true\/ren m i=i)/\Yi n r=true/\look (ren m i) own=some (Z2d m r)
 | [],_,i,g,h=>by cases h
 | (j,g')::T,hT,i,g,h=>by
  rw[Ac] at h;split at h
  .next e =>
   subst e;cases h;have b:=hT.1.1;simp only[Bool.and_eq_true,Bool.or_eq_true] at b;exact⟨dm b.1,b.2.imp id aw,hT.1.2⟩
  .exact Hh hT.2 h
theorem Zb3 (hn:V0.n<=n)(z:SinceC own0 I0 V0 w0 own I V w)(ha:ARep N I V a t)(h:le m t own n t' own'):SinceC own0 I0 V0 w0 own' I (V.renS m n) w/\ARep N I (V.renS m n) a t':=by
 obtain⟨h1,B,h3⟩:=h;have hH:=z.has;refine⟨⟨⟨hH.mem,λk r u=>(Hh B u).1,λk r u=>?_,λk r b u q=>?_,λk k' r r' b u E q T=>?_⟩,⟨z.fro.os,z.fro.tape,z.fro.output,z.fro.size,z.fro.blk,z.fro.mono,λk r b u q J=>?_⟩,hn,z.bb⟩,⟨ha.defers,ha.size,λi g hg=>?_⟩⟩
 .obtain⟨-,H,C,A⟩:=Hh B u;have hr:=hH.each _ _ A;have q:isS r=true\/V.b k=V.b (ren m k):=H.imp id λe=>by rw[e]
  cases r with
  | blk cs ty =>
   have q:=q.resolve_left (λh=>by cases h);obtain⟨q1,Y,q2,q3⟩:=hr;exact⟨λb=>by show V.f (ren m k) b↔b=V.b k;rw[q];exact q1 b,Y,by show w.heap[V.b k]?=_;rw[q];exact q2,O4 C q3⟩
  | slc rows e sz=>exact hr
  | vw rows e sz=>exact hr
  | froz rows sz=>exact hr
  | gone=>exact hr
  | mpI l =>
   have q:=q.resolve_left (λh=>by cases h);exact⟨λb=>by show V.f (ren m k) b↔b=V.b k;rw[q];exact hr.1 b,by show MapR I w (V.b k) _ _;rw[q];exact hr.2⟩
  | mpS l =>
   have q:=q.resolve_left (λh=>by cases h);exact⟨λb=>by show V.f (ren m k) b↔b=V.b k;rw[q];exact hr.1 b,by show MapR I w (V.b k) _ _;rw[q];exact hr.2⟩
  | sit s pos =>
   have q:=q.resolve_left (λh=>by cases h);exact⟨λb=>by show V.f (ren m k) b↔b=V.b k;rw[q];exact hr.1 b,by show w.heap[V.b k]?=_;rw[q];exact hr.2⟩
  | mpX l m2 ob =>
   have q:=q.resolve_left (λh=>by cases h);exact⟨λb=>by show V.f (ren m k) b↔b=V.b k;rw[q];exact hr.1 b,(show V.b k=m2 from q.trans hr.2.1),hr.2.2⟩
  | mit j l D last m2 ob =>
   have q:=q.resolve_left (λh=>by cases h);obtain⟨a1,it,L,a2,a3,X⟩:=hr;exact⟨λb=>by show V.f (ren m k) b↔b=V.b k;rw[q];exact a1 b,it,L,by show w.heap[V.b k]?=_;rw[q];exact a2,a3,λF e1 M=>by
    change F.heap[V.b k]?=_ at M
    show RanB F (V.b k) m2 Cd id L D/\∀W,last=some W->∃v,VRep I W.2 v/\∀P:Program,(Instr.entry (.pointer (some ⟨V.b k,0,none⟩))).run P F=_;rw[q] at M⊢;exact X F e1 M⟩
  | abs p =>
   have q:=q.resolve_left (λh=>by cases h);exact⟨hr.1,by show p I (V.b k) (V.f (ren m k)) w;rw[q];exact hr.2⟩
  | lnk j=>cases C
  | adr j b=>exact⟨λc=>hr.1 c,dm C,hr.2.2⟩
  | fam ps=>exact⟨hr.1,hr.2⟩
 .obtain⟨-,-,C,A⟩:=Hh B u;exact hH.foot _ _ b A q
 .obtain⟨-,-,-,A⟩:=Hh B u;obtain⟨-,-,-,O⟩:=Hh B E;exact Rq h3 u E (hH.disj _ _ _ _ b A O q T)
 .obtain⟨-,-,-,A⟩:=Hh B u;exact z.fro.foot _ _ b A q J
 .obtain⟨H,C⟩:=Z0n h1 hg;obtain⟨x,Z,hr⟩:=ha.get i _ C;exact⟨x,Z,Xh H hr⟩
def Zd4 (N:Nat)(own0:Os)(I0:Imm)(V0:Va)(w0:World)(K:KC)(Q:Exit->Act->World->Prop):Prop :=
 ∀e t own I V a w,K e t own V.n->SinceC own0 I0 V0 w0 own I V w->ARep N I V a t->Q e.to a w
theorem Rs (b:P.follows .mixedOrders=true){id:Nat}{ops:Array Oper}{Q:Exit->Act->World->Prop}{S:World->Prop}{late:List Nat}(c:wpAnyG P .any ops Q late ops.size S (Array.replicate ops.size false) a w.drew):(Code.region id ops true).wp P Q a w :=
 wp_region_any b (Mq _ _ _ _ _ (Jy _ rfl) c)
theorem Z9w (l:List Oper):(noB l).toArray=Array.replicate l.length false/\(noB l).length=l.length:=by
 have:noB l=List.replicate l.length false:=by
  induction l with
  | nil=>rfl
  | cons o l ih=>rw[noB,ih];rfl
 rw[this];simp
theorem Z3i (es:List Edge)(m:List Bool):∃b,∀{α:Type} (K:List Bool->α),Wa es m K=K b:=by
 induction es generalizing m with
 | nil=>exact⟨m,λ_=>rfl⟩
 | cons e es ih =>
  cases hb:Region.binds .any e with
  | true =>
   obtain⟨b,h⟩:=ih (Vj m e.on);exact⟨b,λK=>by unfold Wa;rw[hb];dsimp only;rw[Ji];exact h K⟩
  | false =>
   obtain⟨b,h⟩:=ih m;exact⟨b,λK=>by unfold Wa;rw[hb];exact h K⟩
theorem Za (ops:List Oper)(n:Nat)(m:List Bool):∃b,∀{α:Type} (K:List Bool->α),Im ops n m K=K b:=by
 induction n generalizing m with
 | zero=>exact⟨m,λ_=>rfl⟩
 | succ n ih =>
  cases hb:Z8v m n with
  | true =>
   cases ho:nth ops n with
   | none =>
    obtain⟨b,h⟩:=ih m;exact⟨b,λK=>by unfold Im;rw[hb,ho];exact h K⟩
   | some o =>
    obtain⟨e,c⟩:=Z3i o.after.toList m;obtain⟨b,h⟩:=ih e;exact⟨b,λK=>by unfold Im;rw[hb,ho];dsimp only;rw[c];exact h K⟩
  | false =>
   obtain⟨b,h⟩:=ih m;exact⟨b,λK=>by unfold Im;rw[hb];exact h K⟩
theorem Z82 (ops:List Oper)(l:List Oper)(i:Nat):∃r,∀{α:Type} (K:List Nat->α),Z1d tb ops l i K=K r:=by
 induction l generalizing i with
 | nil=>exact⟨[],λK=>rfl⟩
 | cons o l ih =>
  obtain⟨r,h⟩:=ih (i+1);cases hl:Zdf tb ops i o with
  | false=>exact⟨r,λK=>by unfold Z1d;rw[hl];exact h K⟩
  | true=>exact⟨i::r,λK=>by unfold Z1d;rw[hl];exact h _⟩
theorem Z37 (c:List Nat)(ops:List Oper)(l:List Oper)(i:Nat):∃r,∀{α:Type} (K:List Nat->α),Kc tb c ops l i K=K r:=by
 induction l generalizing i with
 | nil=>exact⟨[],λ_=>rfl⟩
 | cons o l ih =>
  obtain⟨r,h⟩:=ih (i+1);cases hl:isL tb o with
  | false=>exact⟨r,λK=>by unfold Kc;rw[hl];exact h K⟩
  | true =>
   obtain⟨m,b⟩:=Za ops (i+1) (Vj (noB ops) i);cases ha:Zch tb c ops m 0 with
   | true=>exact⟨i::r,λK=>by unfold Kc;rw[hl];dsimp only;rw[Ji,b,ha];exact h _⟩
   | false=>exact⟨r,λK=>by unfold Kc;rw[hl];dsimp only;rw[Ji,b,ha];exact h _⟩
theorem Rw (k:Nat):∀r:List Nat,∃r':List Nat,(∀{α:Type} (K:List Nat->α),H9 k r K=K r')/\∀j∈r',j∈r\/j=k
 | []=>⟨[k],λ_=>rfl,λj h=>.inr (by simpa using h)⟩
 | i::r=>by
  obtain⟨r',b,c⟩:=Rw k r;cases hb:Nat.beq k i with
  | true=>exact⟨i::r,λK=>by unfold H9;rw[hb],λj h=>.inl h⟩
  | false =>
   refine⟨i::r',λK=>by unfold H9;rw[hb];exact b _,λj h=>?_⟩;rcases bo.1 h with rfl | h
   .exact .inl (by simp)
   .exact(c j h).imp (λh=>by simp[h]) id
def GathLt {α:Type}(n:Nat)(F:List Nat->(List Nat->α)->α):Prop:=∀r,(∀k∈r,k < n)->∃r':List Nat,(∀k∈r',k < n)/\∀K:List Nat->α,F r K=K r'
theorem GathLt.seq {α:Type}{n:Nat}{F b:List Nat->(List Nat->α)->α}(h:GathLt n F)(j:GathLt n b):GathLt n (λr K=>F r λr=>b r K):=λr hr=>by obtain⟨u,c,p⟩:=h r hr;obtain⟨q,e,s⟩:=j u c;exact⟨q,e,λK=>(p _).trans (s K)⟩
theorem GathLt.none {α:Type}{n:Nat}:GathLt n (λr (K:List Nat->α)=>K r):=λr hr=>⟨r,hr,λ_=>rfl⟩
theorem Bl {α:Type}{n k:Nat}(p:k < n):GathLt (α:=α) n (λr K=>H9 k r K):=λr hr=>by obtain⟨r',b,c⟩:=Rw k r;exact⟨r',λj h=>(c j h).elim (hr j) (λe=>by omega),λK=>b K⟩
theorem Zee {α:Type}(h:CRep I V g x):GathLt (α:=α) V.n (λr K=>vaC g r K):=by
 cases g with
 | ptr k o=>exact Bl h.1
 | _=>exact GathLt.none
theorem Z7g {α:Type}:∀{l:List G} {b:List Value},PW (CRep I V) l b->GathLt (α:=α) V.n (λr K=>Zbo l r K)
 | [],_,_=>GathLt.none
 | g::l,b,h=>by obtain⟨x,j,rfl,c,e⟩:=h.uncons;exact(Zee c).seq (Z7g e)
theorem Zeq {α:Type}(h:TRep I V g x):GathLt (α:=α) V.n (λr K=>va1 g r K):=by
 cases g with
 | clo f a c =>
  obtain⟨-,j,cs,-,b,e⟩:=(show TRep1 I V (.clo f a c) x from h);exact(Z7g b).seq (Z7g e)
 | ptr k o=>exact Bl (C6 h).1
 | _=>exact GathLt.none
theorem Hk {ops:List Oper}{k:Nat}:∀{n d:Nat},Lq t ops n d=some k->∃b o,look b t=some (.ptr k o)
 | 0,_,h=>by cases h
 | n+1,d,h=>by
  unfold Lq at h;split at h
  .next c=>cases h;exact⟨d,_,c⟩
  .cases h
  .split at h
   .exact Hk h
   .cases h
theorem N8 {ops:List Oper}{k:Nat}:∀{n d:Nat},Y0 t ops n d=some k->∃b,look b t=some (.osl k)
 | 0,_,h=>by cases h
 | n+1,d,h=>by
  unfold Y0 at h;split at h
  .next c=>cases h;exact⟨d,c⟩
  .cases h
  .split at h
   .exact N8 h
   .cases h
theorem Zdw {α:Type}(ha:ARep N I V a t)(ops:List Oper):∀l:List Operand,GathLt (α:=α) V.n (λr K=>vsS t ops l r K)
 | []=>GathLt.none
 | y::l=>λr hr=>by
  have c:=Zdw (α:=α) ha ops l;cases y with
  | tmp d =>
   cases hro:Y0 t ops 8 d with
   | none =>
    obtain⟨r',q,e⟩:=c r hr;exact⟨r',q,λK=>by show vsS t ops (.tmp d::l) r K=_;unfold vsS;rw[hro];exact e K⟩
   | some k =>
    obtain⟨_,b⟩:=N8 hro;obtain⟨y,B,z⟩:=ha.get _ _ b;obtain⟨p,s,h⟩:=Bl (α:=α) (show k < V.n from(show CRep I V (.osl k) y from z).1) r hr;obtain⟨j,u,A⟩:=c p s;exact⟨j,u,λK=>by show vsS t ops (.tmp d::l) r K=_;unfold vsS;rw[hro];exact(h _).trans (A K)⟩
  | _=>exact c r hr
theorem Zaz {α:Type}(ha:ARep N I V a t)(b:Bool)(ops:List Oper)(l:List Operand):GathLt (α:=α) V.n (λr K=>Zdk b t ops l r K):=by
 cases b with
 | true=>exact Zdw ha ops l
 | false=>exact GathLt.none
theorem Zdu {α:Type}(ha:ARep N I V a t)(ops:List Oper):∀l:List Operand,GathLt (α:=α) V.n (λr K=>vaL t ops l r K)
 | []=>GathLt.none
 | y::l=>λr hr=>by
  have b:=Zdu (α:=α) ha ops l;cases y with
  | tmp d =>
   cases hl:look d t with
   | none =>
    cases hro:Lq t ops 8 d with
    | none =>
     obtain⟨r',B,A⟩:=b r hr;exact⟨r',B,λK=>by show vaL t ops (.tmp d::l) r K=_;unfold vaL;dsimp only;rw[hl];dsimp only;rw[hro];exact A K⟩
    | some k =>
     obtain⟨_,_,e⟩:=Hk hro;obtain⟨y,D,s⟩:=ha.get _ _ e;obtain⟨j,p,c⟩:=Bl (α:=α) (C6 s).1 r hr;obtain⟨h,q,u⟩:=b j p;exact⟨h,q,λK=>by show vaL t ops (.tmp d::l) r K=_;unfold vaL;dsimp only;rw[hl];dsimp only;rw[hro];exact(c _).trans (u K)⟩
   | some g =>
    obtain⟨z,C,s⟩:=ha.get d g hl;obtain⟨j,p,c⟩:=Zeq (α:=α) s r hr;obtain⟨h,q,u⟩:=b j p;exact⟨h,q,λK=>by show vaL t ops (.tmp d::l) r K=_;unfold vaL;dsimp only;rw[hl];exact(c _).trans (u K)⟩
  | _=>exact b r hr
theorem Z9j (h:CRep I V g x):GathLt (α:=Prop) V.n (λr K=>gkC g r K):=by
 cases g with
 | ptr k o=>exact Bl h.1
 | osl k=>exact Bl h.1
 | osv k a b c=>exact Bl h.1
 | oel k i s o=>exact h.elim
 | mp k=>exact Bl h.1
 | _=>exact GathLt.none
theorem Xb:∀{l:List G} {b:List Value},PW (CRep I V) l b->GathLt (α:=Prop) V.n (λr K=>Z7s l r K)
 | [],_,_=>GathLt.none
 | g::l,b,h=>by obtain⟨x,j,rfl,c,e⟩:=h.uncons;exact(Z9j c).seq (Xb e)
theorem Tk (hH:Has I V own w):∀l:List Nat,GathLt (α:=Prop) V.n (λr K=>Ov own l r K)
 | []=>GathLt.none
 | k::l=>λr hr=>by
  have b:=Tk hH l;show ∃r':List Nat,_/\∀K:List Nat->Prop,Ov own (k::l) r K=K r';unfold Ov;split
  .next cs t e =>
   obtain⟨-,z,-,c⟩:=hH.each k _ e;obtain⟨p,q,h⟩:=Xb c r hr;obtain⟨j,s,u⟩:=b p q;exact⟨j,s,λK=>(h _).trans (u K)⟩
  .exact b r hr
theorem Z57 (hH:Has I V own w):∀n:Nat,GathLt (α:=Prop) V.n (λr K=>trK own n r K)
 | 0=>GathLt.none
 | n+1=>λr hr=>by obtain⟨p,b,e⟩:=Tk hH r r hr;obtain⟨h,c,j⟩:=Z57 hH n p b;exact⟨h,c,λK=>(e _).trans (j K)⟩
theorem Z19 {α:Type}{n:Nat}:∀w:Os,(∀k r,(k,r)∈w->k < n)->GathLt (α:=α) n (λr K=>Zax w r K)
 | [],_=>GathLt.none
 | (k,q)::l,h=>λr hr=>by
  have b:=Z19 (α:=α) l λk r A=>h k r (by simp[A]);cases q with
  | abs p =>
   obtain⟨z,c,j⟩:=Bl (α:=α) (h k _ (by simp:(k,R.abs p)∈_)) r hr;obtain⟨s,e,u⟩:=b z c;exact⟨s,e,λK=>(j _).trans (u K)⟩
  | fam p =>
   obtain⟨z,c,j⟩:=Bl (α:=α) (h k _ (by simp:(k,R.fam p)∈_)) r hr;obtain⟨s,e,u⟩:=b z c;exact⟨s,e,λK=>(j _).trans (u K)⟩
  | _=>exact b r hr
theorem Z0f {α:Type}{n:Nat}:∀w:Os,(∀k r,(k,r)∈w->k < n)->GathLt (α:=α) n (λr K=>Zak w r K)
 | [],_=>GathLt.none
 | (k,q)::l,h=>λr hr=>by
  have b:=Z0f (α:=α) l λk r A=>h k r (by simp[A]);cases q with
  | mpI p =>
   obtain⟨z,c,j⟩:=Bl (α:=α) (h k _ (by simp:(k,R.mpI p)∈_)) r hr;obtain⟨s,e,u⟩:=b z c;exact⟨s,e,λK=>(j _).trans (u K)⟩
  | mpS p =>
   obtain⟨z,c,j⟩:=Bl (α:=α) (h k _ (by simp:(k,R.mpS p)∈_)) r hr;obtain⟨s,e,u⟩:=b z c;exact⟨s,e,λK=>(j _).trans (u K)⟩
  | _=>exact b r hr
theorem Hn {α:Type}{k:Nat}{x:α}:∀{l:List (Nat × α)},(k,x)∈l->∃y,look k l=some y
 | [],h=>by simp at h
 | (j,y)::l,h=>by
  rw[Ac];by_cases e:k=j
  .rw[dp e];exact⟨y,rfl⟩
  .rw[dn e];rcases bo.1 h with h | h
   .exact dq (congrArg Prod.fst h) e
   .exact Hn h
theorem Z9d {α:Type}{o:Os}{n:Nat}(h:∀k r,look k o=some r->k < n):∀l:List G,GathLt (α:=α) n (λr K=>Z32 o l r K)
 | []=>GathLt.none
 | g::l=>λr hr=>by
  have b:=Z9d (α:=α) h l;cases g with
  | osl k =>
   cases hk:look k o with
   | none =>
    obtain⟨r',c,e⟩:=b r hr;exact⟨r',c,λK=>by show Z32 o (.osl k::l) r K=_;unfold Z32;dsimp only;rw[hk];exact e K⟩
   | some q =>
    obtain⟨A,j,s⟩:=Bl (α:=α) (h k q hk) r hr;obtain⟨u,p,z⟩:=b A j;exact⟨u,p,λK=>by show Z32 o (.osl k::l) r K=_;unfold Z32;dsimp only;rw[hk];exact(s _).trans (z K)⟩
  | _=>exact b r hr
theorem Zem {α:Type}{o:Os}{n:Nat}(h:∀k r,look k o=some r->k < n)(t:Ts)(ops:List Oper)(x:Operand):GathLt (α:=α) n (λr K=>ldS t o ops x r K):=by
 unfold ldS;split
 .split
  .exact GathLt.none
  .split
   .split
    .split
     .exact Z9d h _
     .exact GathLt.none
    .exact GathLt.none
   .exact GathLt.none
 .exact GathLt.none
theorem Z80 (hH:Has I V own w)(ha:ARep N I V a t)(late:List Nat)(ops l:List Oper)(i:Nat)(b:List Nat)(c:∀k∈b,k < V.n):∃r:List Nat,(∀k∈r,k < V.n)/\∀K:List Nat->Prop,Sr tb late t own ops l i b K=K r:=by
 have key:∀(l:List Oper) (i:Nat) (b:List Nat),(∀k∈b,k < V.n)->∃r:List Nat,(∀k∈r,k < V.n)/\∀K:List Nat->Prop,Sr tb late t own ops l i b K=K r:=λl=>by
  induction l with
  | nil=>exact λi b c=>⟨b,c,λ_=>rfl⟩
  | cons o l ih =>
   intro i b c;unfold Sr;split
   .split
    .next J =>
     obtain⟨_,_,M⟩:=Hk J;obtain⟨y,D,Y⟩:=ha.get _ _ M;obtain⟨s,A,H⟩:=Rw _ b;obtain⟨r,p,q⟩:=ih (i+1) s (λj T=>(H j T).elim (c j) λe=>by rw[e];exact(C6 Y).1);exact⟨r,p,λK=>(A _).trans (q K)⟩
    .exact ih (i+1) b c
   .split
    .next f _ =>
     obtain⟨E,F,z⟩:=Zdu (α:=Prop) ha ops (f::_) b c;obtain⟨s,A,h⟩:=Zaz (α:=Prop) ha (Mg (Zaa tb) _) ops _ E F;obtain⟨C,c1,B⟩:=Z19 (α:=Prop) own (λk r u=>by obtain⟨y,D⟩:=Hn u;exact hH.num k y D) s A;cases Mg (Zag tb) _ with
     | true =>
      obtain⟨W,X,O⟩:=Z0f (α:=Prop) own (λk r u=>by obtain⟨y,D⟩:=Hn u;exact hH.num k y D) C c1;obtain⟨r,p,q⟩:=ih (i+1) W X;exact⟨r,p,λK=>(z _).trans ((h _).trans ((B _).trans ((O _).trans (q K))))⟩
     | false =>
      obtain⟨r,p,q⟩:=ih (i+1) C c1;exact⟨r,p,λK=>(z _).trans ((h _).trans ((B _).trans (q K)))⟩
    .split
     .next x _ _ =>
      obtain⟨s,A,H⟩:=Zaz (α:=Prop) ha true ops [x] b c;obtain⟨C,c1,B⟩:=Zem (α:=Prop) (λk r u=>hH.num k r u) t ops x s A;obtain⟨r,p,q⟩:=ih (i+1) C c1;exact⟨r,p,λK=>(H _).trans ((B _).trans (q K))⟩
     .exact ih (i+1) b c
    .exact ih (i+1) b c
   .exact ih (i+1) b c
 exact key l i b c
def OkM (P:Program)(tb:List (Nat × TI))(N:Nat)(own0:Os)(I0:Imm)(V0:Va)(w0:World)(c:Code)(m:MC):Prop :=
 ∀{t:Ts} {own:Os} {I:Imm} {V:Va} {a:Act} {w:World} {K:KC} {Q:Exit->Act->World->Prop},m t own V.n K->SinceC own0 I0 V0 w0 own I V w->ARep N I V a t->Ez tb N c=true->(∀ch d v a w,Q (.panic ch) (a.put d v) w->Q (.panic ch) a w)->Zd4 N own0 I0 V0 w0 K Q->c.wp P Q a w
def LabM (P:Program)(tb:List (Nat × TI))(N:Nat)(own0:Os)(I0:Imm)(V0:Va)(w0:World)(c:Code)(m:MC):Prop :=
 (Tg c=none->∀l,findLabel c l=none)/\∀l,Tg c=some l->∃rest,findLabel c l=some rest/\OkM P tb N own0 I0 V0 w0 rest m/\(Ez tb N c=true->Ez tb N rest=true)
theorem LabM.no {c:Code}{m:MC}(e:Tg c=none)(h:∀l,findLabel c l=none):LabM P tb N own0 I0 V0 w0 c m:=⟨λ_=>h,λ_ h=>by rw[e] at h;cases h⟩
theorem OkM.seq {x y:Code}{p q:MC}(z:OkM P tb N own0 I0 V0 w0 x p)(A:OkM P tb N own0 I0 V0 w0 y q)(x' y':Code):OkM P tb N own0 I0 V0 w0 (.seq x y) (Yj x' y' p q):=by
 intro t own I V a w K Q h b ha s u c;simp only[Ez,Bool.and_eq_true] at s;unfold Yj at h;refine wp_seq (z h b ha s.1 (λch d v a w=>u ch d v a w) λe t own I V a w j b ha=>?_);cases e with
 | normal=>exact A j b ha s.2 u c
 | exit id=>exact c (.exit id) _ _ _ _ _ _ j b ha
 | ret=>exact c .ret _ _ _ _ _ _ j b ha
 | goto l=>exact c (.goto l) _ _ _ _ _ _ j b ha
theorem OkM.stay {x:Code}{p:MC}(s:OkM P tb N own0 I0 V0 w0 x p){t:Ts}{own:Os}{I:Imm}{V:Va}{a:Act}{w:World}{K:KC}{Q:Exit->Act->World->Prop}(l:Nat)(J:Act->World->Prop)(h:Mj p t own V.n K)(b:SinceC own0 I0 V0 w0 own I V w)(ha:ARep N I V a t)(q:Ez tb N x=true)(u:∀ch d v a w,Q (.panic ch) (a.put d v) w->Q (.panic ch) a w)(j:Zd4 N own0 I0 V0 w0 K Q):x.wp P (Exit.jump l J Q) a w:=by
 unfold Mj at h;refine s h b ha q (λch d v a w=>u ch d v a w) λe t own I V a w c b ha=>?_;cases e with
 | normal=>exact j .normal _ _ _ _ _ _ c b ha
 | exit id=>exact j (.exit id) _ _ _ _ _ _ c b ha
 | ret=>exact j .ret _ _ _ _ _ _ c b ha
 | goto l=>exact c.elim
theorem OkM.scope {x:Code}{m:MP}(u:OkM P tb N own0 I0 V0 w0 x (m true))(A:LabM P tb N own0 I0 V0 w0 x (m false)):OkM P tb N own0 I0 V0 w0 (.scope x) (T6 x m):=by
 intro t own I V a w K Q h c ha p s j;have p:Ez tb N x=true:=p;unfold T6 at h;cases hl:Tg x with
 | none =>
  rw[hl] at h;refine wp_scope_straight (Code.wp_mono ?_ (u.stay 0 (λ_ _=>False) h c ha p s j));intro e a w q;cases e with
  | goto l=>exact q.2.elim
  | _=>exact q
 | some l =>
  rw[hl] at h;obtain⟨rest,B,z,C⟩:=A.2 l hl;refine wp_scope_jumps l (λa w=>∃t own I V,Mj (m false) t own V.n K/\SinceC own0 I0 V0 w0 own I V w/\ARep N I V a t) (λ_ _=>0) B ?_ ?_
  .refine u h c ha p (λch d v a w=>s ch d v a w) λe t own I V a w b c ha=>?_;cases e with
   | normal=>exact j .normal _ _ _ _ _ _ b c ha
   | exit id=>exact j (.exit id) _ _ _ _ _ _ b c ha
   | ret=>exact j .ret _ _ _ _ _ _ b c ha
   | goto l' =>
    have b:(bif Nat.beq l' l then Mj (m false) t own V.n K else False):=b;cases hb:Nat.beq l' l with
    | true=>rw[hb] at b;exact⟨aw hb,t,own,I,V,b,c,ha⟩
    | false=>rw[hb] at b;exact b.elim
  .rintro E D ⟨t,own,I,V,b,c,ha⟩;exact z.stay l _ b c ha (C p) s j
theorem Zbh (hT:∀t i,look t tb=some i->TIok P t i)(hm:P.follows .mixedOrders=true):∀c:Code,OkM P tb N own0 I0 V0 w0 c (sxM P tb c true)/\LabM P tb N own0 I0 V0 w0 c (sxM P tb c false):=by
 intro c
 induction c with
 | skip=>exact⟨by intro t own I V a w K Q h j ha _ _ p;exact wp_skip (p .normal _ _ _ _ _ _ h j ha),.no rfl λ_=>rfl⟩
 | label l =>
  refine⟨by intro t own I V a w K Q h j ha _ _ p;exact wp_label (p .normal _ _ _ _ _ _ h j ha),⟨λe=>(by cases e),λl' e=>?_⟩⟩;have e:some l=some l':=e;cases e;exact⟨.skip,by simp[findLabel],by intro t own I V a w K Q h j ha _ _ p;exact wp_skip (p .normal _ _ _ _ _ _ h j ha),λ_=>rfl⟩
 | ret=>exact⟨by intro t own I V a w K Q h j ha _ _ p;exact wp_ret (p .ret _ _ _ _ _ _ h j ha),.no rfl λ_=>rfl⟩
 | exit id=>exact⟨by intro t own I V a w K Q h j ha _ _ p;exact wp_exit (p (.exit id) _ _ _ _ _ _ h j ha),.no rfl λ_=>rfl⟩
 | goto l=>exact⟨by intro t own I V a w K Q h j ha _ _ p;exact wp_goto (p (.goto l) _ _ _ _ _ _ h j ha),.no rfl λ_=>rfl⟩
 | scope x ih=>exact⟨OkM.scope ih.1 ih.2,.no rfl λ_=>rfl⟩
 | seq x y ihx ihy =>
  refine⟨OkM.seq ihx.1 ihy.1 x y,λe l=>?_,λl e=>?_⟩
  .have e:(match Tg x with | some l=>some l | none=>Tg y)=none:=e;cases hx:Tg x with
   | some o=>rw[hx] at e;cases e
   | none=>rw[hx] at e;simp only[findLabel,ihx.2.1 hx l];exact ihy.2.1 e l
  .have e:(match Tg x with | some l=>some l | none=>Tg y)=some l:=e;show ∃rest,findLabel (.seq x y) l=some rest/\OkM P tb N own0 I0 V0 w0 rest (match Tg x with | some _=>Yj x y (sxM P tb x false) (sxM P tb y true) | none=>sxM P tb y false)/\_;cases hx:Tg x with
   | some o =>
    rw[hx] at e;cases e;obtain⟨rest,Y,O,h3⟩:=ihx.2.2 _ hx;refine⟨.seq rest y,by simp only[findLabel,Y],OkM.seq O ihy.1 x y,λu=>?_⟩;simp only[Ez,Bool.and_eq_true] at u⊢;exact⟨h3 u.1,u.2⟩
   | none =>
    rw[hx] at e;obtain⟨rest,Y,O,h3⟩:=ihy.2.2 _ e;refine⟨rest,by simp only[findLabel,ihx.2.1 hx l];exact Y,O,λu=>?_⟩;simp only[Ez,Bool.and_eq_true] at u;exact h3 u.2
 | cond c x y ihx ihy =>
  refine⟨?_,.no rfl λ_=>rfl⟩;intro t own I V a w K Q h j ha u F p;simp only[Ez,Bool.and_eq_true] at u;have h:Xa c x y (sxM P tb x true) (sxM P tb y true) t own V.n K:=h;unfold Xa at h;obtain⟨g,h,hg⟩:=B1 h ha j.has;cases g with
  | tt=>exact wp_cond_true (by generalize a.eval c=z at hg;cases(show VRep I .tt z from hg);rfl) (ihx.1 h j ha u.1 F p)
  | ff=>exact wp_cond_false (by generalize a.eval c=z at hg;cases(show VRep I .ff z from hg);rfl) (ihy.1 h j ha u.2 F p)
  | v z =>
   have e:=Av hg;cases z with
   | bool b=>exact wp_cond_split e (λE=>ihx.1 (h.1 E) j ha u.1 F p) (λE=>ihy.1 (h.2 E) j ha u.2 F p)
   | _=>exact h.elim
  | _=>exact h.elim
 | block id x ih =>
  refine⟨?_,.no rfl λ_=>rfl⟩;intro t own I V a w K Q h j ha u F p;have h:Sx id x (sxM P tb x true) t own V.n K:=h;unfold Sx at h;refine wp_block (ih.1 h j ha u (λch d v a w=>F ch d v a w) λe t own I V a w q j ha=>?_);cases e with
  | normal=>exact p .normal _ _ _ _ _ _ q j ha
  | exit id' =>
   show if id'=id then Q .normal a w else Q (.exit id') a w;dsimp only at q;by_cases A:id'=id
   .subst A;rw[dp rfl];rw[Nat.beq_refl] at q;exact p .normal _ _ _ _ _ _ q j ha
   .rw[dn A];have O:Nat.beq id' id=false:=by
     cases E:Nat.beq id' id with
     | false=>rfl
     | true=>exact dq (aw E) A
    rw[O] at q;exact p (.exit id') _ _ _ _ _ _ q j ha
  | goto l=>exact p (.goto l) _ _ _ _ _ _ q j ha
  | ret=>exact p .ret _ _ _ _ _ _ q j ha
 | loop x ih =>
  refine⟨?_,.no rfl λ_=>rfl⟩;intro t own I V a w K Q h j ha u F p;have h:Qu x (sxM P tb x true) t own V.n K:=h;unfold Qu at h;obtain⟨w1o,Ig,Vg,⟨bb,X,st,dd,In,μ,⟨x0,h0,C⟩,H⟩,lg⟩:=W1 h rfl j.has;replace j:=j.trans lg;replace ha:=ha.mono lg.fro.mono lg.va;have hn0:=j.n;let At:X->Act->World->Prop:=λx a w=>In x/\∃I V',V'.n=Vg.n/\SinceC own0 I0 V0 w0 (st x).2 I V' w/\ARep N I V' a (st x).1;have Y:=Zb3 j.n j ha C;refine wp_loop_ghost (λk a w=>∃x,At x a w/\μ x=k) (μ x0) ⟨x0,⟨h0,Ig,_,rfl,Y.1,Y.2⟩,rfl⟩ λk a1 w1 hI=>?_;obtain⟨x1,⟨A,I1,V1,Z,hS,hA⟩,rfl⟩:=hI;have E:=H x1 A;rw[<-Z] at E;refine ih.1 E hS hA u (λch d v a w=>F ch d v a w) λe t own I V a w q j ha=>?_;have fin:∀{own:Os} {I:Imm} {V:Va},Ot st In μ V1.n x1 K e t own V.n->SinceC own0 I0 V0 w0 own I V w->ARep N I V a t->(match e.to with | .normal=>∃m,m < μ x1/\∃x,At x a w/\μ x=m | e=>Q e a w):=λ{own I V} q j ha=>by
   cases e with
   | normal =>
    obtain⟨y,m,hy,T,C⟩:=q;have O:=Zb3 (n:=V1.n) (by omega) j ha C;exact⟨μ y,T,y,⟨hy,I,_,by simp[Va.renS,Z],O.1,O.2⟩,rfl⟩
   | exit id=>exact p (.exit id) _ _ _ _ _ _ q j ha
   | goto l=>exact p (.goto l) _ _ _ _ _ _ q j ha
   | ret=>exact p .ret _ _ _ _ _ _ q j ha
  have hk2:∃(own':Os) (I':Imm) (V':Va),Ot st In μ V1.n x1 K e t own' V'.n/\SinceC own0 I0 V0 w0 own' I' V' w/\ARep N I' V' a t:=by
   cases bb with
   | false =>
    refine⟨own,I,V,?_,j,ha⟩;cases e with
    | normal=>obtain⟨y,hy,T,C⟩:=q;exact⟨y,_,hy,T,C⟩
    | _=>exact q
   | true =>
    obtain⟨w2,I2,V2,q,l2⟩:=W1 (show Uz st dd In μ V1.n x1 K e t own V.n from q) rfl j.has;exact⟨w2,I2,V2,q,j.trans l2,ha.mono l2.fro.mono l2.va⟩
  obtain⟨own',I',V',q1,q2,q3⟩:=hk2;have:=fin q1 q2 q3;cases e<;>exact this
 | region id ops dr =>
  refine⟨?_,.no rfl λ_=>rfl⟩;intro t own I V a w K Q h j ha u F p;simp only[Ez,Bool.and_eq_true] at u;have hd:∀o∈ops.toList,∀i,o.dst=some i->i < N:=λo ho i A=>by have:=List.all_eq_true.1 u.1 o ho;rw[A] at this;exact dm this
  have h:Z6g P tb id ops dr t own V.n K:=h;unfold Z6g at h;cases dr with
  | false=>exact wp_region_list (Z0j (own0:=own) (I0:=I) (V0:=V) (w0:=w) hT (λt own I V a w q hl ha=>p .normal _ _ _ _ _ _ q (j.tail hl) ha) h (Later.refl j.has).since ha hd)
  | true =>
   have J:=u.2;cases A:Z5k tb ops with
   | true =>
    have h:(match Z5k tb ops with
     | true=>sxI P tb own V.n ops.toList t λt=>Z5m tb ops.toList V.n λn=>K .normal t own n
     | false=>Z1d tb ops.toList ops.toList 0 λD=>Kc tb D ops.toList ops.toList 0 λlate=>Sr tb late t own ops.toList ops.toList 0 [] λXL=>trK own 3 XL λXL=>sxD P tb XL D late ops.toList ops.toList (noB ops.toList) t own V.n (K .normal)):=h
    rw[A] at h;exact Z6d hT hm hd A h j.has ha λt I V a w q hl ha=>p .normal _ _ _ _ _ _ q (j.tail hl.since) ha
   | false =>
   simp only[A,Bool.false_or,Bool.and_eq_true] at J;have hH:Has I V own w.drew:=j.has.heap rfl rfl;have hL2:Since own I V w own I V w.drew:=⟨hH,⟨rfl,rfl,rfl,au _,λ_ _ _=>⟨rfl,λ_=>rfl⟩,λ_ _ _ h=>h,λk r b e E _=>⟨k,r,e,E⟩⟩,au _,λ_ _=>rfl,λ_ _=>rfl⟩;have Z:=Z9w ops.toList;obtain⟨D,M⟩:=Z82 (tb:=tb) ops.toList ops.toList 0;obtain⟨late,B⟩:=Z37 (tb:=tb) D ops.toList ops.toList 0;obtain⟨XL,hXL,hvol⟩:=Z80 (tb:=tb) j.has ha late ops.toList ops.toList 0 [] (λk q=>by simp at q);have h:Z1d tb ops.toList ops.toList 0 λD=>Kc tb D ops.toList ops.toList 0 λlate=>Sr tb late t own ops.toList ops.toList 0 [] λXL=>trK own 3 XL λXL=>sxD P tb XL D late ops.toList ops.toList (noB ops.toList) t own V.n (K .normal):=by
    have h:(match Z5k tb ops with
     | true=>sxI P tb own V.n ops.toList t λt=>Z5m tb ops.toList V.n λn=>K .normal t own n
     | false=>Z1d tb ops.toList ops.toList 0 λD=>Kc tb D ops.toList ops.toList 0 λlate=>Sr tb late t own ops.toList ops.toList 0 [] λXL=>trK own 3 XL λXL=>sxD P tb XL D late ops.toList ops.toList (noB ops.toList) t own V.n (K .normal)):=h
    rw[A] at h;exact h
   rw[M,B] at J;obtain⟨XL2,hXL2,W⟩:=Z57 j.has 3 XL hXL;have W:∀K:List Nat->Prop,trK own 3 XL K=K XL2:=W;rw[M,B,hvol,W] at h;refine Rs hm (late:=late) (S:=Agree V XL2 w.drew) ?_;have:=U3 (fu:=ops.toList) (l:=noB ops.toList) hT F J.1 hd (λt own I V a w q hl ha=>p .normal _ _ _ _ _ _ q (j.tail hl) ha) (by rw[Z.2];simp) (by rw[Z.1];exact Jy _ (by simp)) J.2 h hL2 ha hXL2;rw[Z.1] at this;simpa using this
 | rangeFunc f ps x y _ _=>exact⟨λh=>False.elim h,.no rfl λ_=>rfl⟩
 | refuse s=>exact⟨λh=>False.elim h,.no rfl λ_=>rfl⟩
theorem Z1 (hT:∀t i,look t tb=some i->TIok P t i)(p:P.follows .mixedOrders=true){c:Code}{t:Ts}{own:Os}{I:Imm}{V:Va}{a:Act}{w:World}{K:KC}{Q:Exit->Act->World->Prop}(h:sxC P tb c t own V.n K)(j:SinceC own0 I0 V0 w0 own I V w)(ha:ARep N I V a t)(e:Ez tb N c=true)(q:∀ch d v a w,Q (.panic ch) (a.put d v) w->Q (.panic ch) a w)(b:Zd4 N own0 I0 V0 w0 K Q):c.wp P Q a w :=
 (Zbh hT p c).1 h j ha e q b
end
section
variable {P:Program} {tb:List (Nat × TI)} {N n:Nat} {I I' I0:Imm} {V V' V0:Va} {a:Act} {t t':Ts} {own own' own0:Os} {w w' w0:World} {g:G} {x y:Value}
def I5 (tmps:Array Value):ResultVar->Sem Value
 | .tmp t=>pure (tmps.getD t undef)
 | .cell x t=>do loadVar t (<-asAddr (tmps.getD x undef))
def Dn (P:Program)(a:Act)(w:World)(r:ResultVar)(v:Value):Prop:=(I5 a.tmps r).run P w=.ok v w
theorem Ub (hT:∀t i,look t tb=some i->TIok P t i){r:ResultVar}{K1:G->Os->Prop}(h:Z8h tb t own K1 r)(hH:Has I V own w)(ha:ARep N I V a t):∃g own' I' V' v,K1 g own'/\V'.n=V.n/\Later own I V w own' I' V' w/\VRep I' g v/\Dn P a w r v:=by
 cases r with
 | tmp i =>
  unfold Z8h at h;dsimp only at h;cases p:look i t with
  | none=>rw[p] at h;exact h.elim
  | some g =>
   rw[p] at h;obtain⟨x,B,hr⟩:=ha.get i g p;obtain⟨H,z,q,s,Y,hn,C,Z⟩:=Xv h hr hH;exact⟨H,z,q,s,x,Y,hn.1,C,Z,by unfold Dn I5;simp[B]⟩
 | cell i ty =>
  unfold Z8h at h;dsimp only at h;split at h
  .next k off u p F =>
   obtain⟨x,B,hr⟩:=ha.get i _ p;obtain⟨hk,rfl⟩:=C6 hr;split at h
   .next cs ty' hb =>
    obtain⟨X,Y,D,C⟩:=Na hH hb;have c:=hT _ _ F;cases hag:u.agg with
    | true =>
     rw[hag] at h;obtain⟨l,k1,k2,-⟩:=Lf h D;obtain⟨l',z,q,s,M,T,E,W⟩:=Nz k1 k2 hH;have A:((X.drop off).take u.zero.length).length=u.zero.length:=by
      rcases ak u.zero.length with J | J
      .rw[J];simp
      .have:=Oy h D J;simp;omega
     refine⟨_,z,q,s,_,M,T.1,E,Zbu W,?_⟩;have:=Cu (P:=P) (w:=w) (g:=V.b k) (k:=off) (ty:=ty) (cs:=(X.drop off).take u.zero.length) (by rw[c.agg,hag]) (by rw[c.size,A]) (λj v O=>by rw[C];exact Ij O);unfold Dn I5;simp[B,asAddr,this]
    | false =>
     rw[hag,Du] at h;dsimp only at h;cases hc:cs[off]? with
     | none=>rw[hc] at h;exact h.elim
     | some g =>
      rw[hc] at h;obtain⟨v,O,hg⟩:=D.get hc;obtain⟨H,z,q,s,M,T,E,W⟩:=D5 h hg hH;refine⟨H,z,q,s,v,M,T.1,E,W,?_⟩;have e:=(C off).trans O;unfold Dn I5;simp[B,asAddr,loadVar,Fx (P:=P) (show Oi P ty=some false by rw[c.agg,hag]),e]
   .exact h.elim
  .exact h.elim
theorem Z7m (hT:∀t i,look t tb=some i->TIok P t i){r:ResultVar}{K1:G->Os->Prop}(h:Z8h tb t own K1 r)(hH:Has I V own w)(ha:ARep N I V a t):∃g own' I' V' v,K1 g own'/\Later own I V w own' I' V' w/\VRep I' g v/\Dn P a w r v:=by obtain⟨g,o,I',V',v,b,-,c⟩:=Ub hT h hH ha;exact⟨g,o,I',V',v,b,c⟩
theorem Sv (hT:∀t i,look t tb=some i->TIok P t i):∀{rs:List ResultVar} {own:Os} {I:Imm} {V:Va} {K1:List G->Prop},Z85 tb t own rs K1->Has I V own w->ARep N I V a t->∃gs own' I' V',∃vs:List Value,K1 gs/\Later own I V w own' I' V' w/\PW (VRep I') gs vs/\vs.length=rs.length/\∀(i:Nat) r v,rs[i]?=some r->vs[i]?=some v->Dn P a w r v
 | [],own,I,V,K1,h,hH,_=>⟨[],own,I,V,[],h,.refl hH,.nil,rfl,λi r v h=>by simp at h⟩
 | r::rs,own,I,V,K1,h,hH,ha=>by
  obtain⟨g,H,E,F,v,B,b,D,j⟩:=Z7m (K1:=λg w'=>Z85 tb t w' rs λgs=>K1 (g::gs)) hT h hH ha;obtain⟨gs,z,s,V2,vs,p,e,q,C,u⟩:=Sv hT B b.has (ha.mono b.fro.mono b.va);refine⟨g::gs,z,s,V2,v::vs,p,b.trans e,.cons (D.mono e.fro.mono) q,by simp[C],λi r' A hr c=>?_⟩;cases i with
  | zero=>simp at hr c;subst hr c;exact j
  | succ i=>exact u i r' A (by simpa using hr) (by simpa using c)
theorem Tl:∀{rs:List ResultVar} {vs:List Value},vs.length=rs.length->(∀(i:Nat) r v,rs[i]?=some r->vs[i]?=some v->Dn P a w r v)->(rs.mapM (I5 a.tmps)).run P w=.ok vs w
 | [],vs,h,_=>by rw[ay h];simp
 | r::rs,[],h,_=>by simp at h
 | r::rs,v::vs,h,hr=>by have b:=hr 0 r v rfl rfl;have c:=Tl (rs:=rs) (vs:=vs) (by simpa using h) λi r v h e=>hr (i+1) r v (by simpa using h) (by simpa using e);unfold Dn at b;rw[List.mapM_cons,Sem.run_bind,b,Result.andThen_ok,Sem.run_bind,c,Result.andThen_ok,Sem.run_pure]
def Ma:List Value->Value
 | [v]=>v
 | vs=>.tuple vs.toArray
theorem Dh {fn:Func}{vs:List Value}(b:vs.length=fn.results.toList.length)(hr:∀(i:Nat) r v,fn.results.toList[i]?=some r->vs[i]?=some v->Dn P a w r v):(results fn a.tmps).run P w=.ok (Ma vs) w:=by
 have h:=Tl b hr;have e:results fn a.tmps=(do let vs <-fn.results.mapM (I5 a.tmps);pure (if h:vs.size=1 then vs[0] else .tuple vs)):=by
  unfold results
  congr 2
 rw[e,Sem.run_bind,Array.mapM_eq_mapM_toList];simp only[Sem.run_map,h,Result.andThen_ok,Sem.run_pure];cases vs with
 | nil=>simp[Ma]
 | cons v vs =>
  cases vs with
  | nil=>simp[Ma]
  | cons u vs=>simp[Ma]
theorem Gu:∀{l:List G} {k i:Nat} {g:G},look i (Jh k l)=some g->∃j,i=k+j/\l[j]?=some g
 | [],k,i,g,h=>by cases h
 | g'::l,k,i,g,h=>by
  unfold Jh at h;rw[Ac] at h;split at h
  .next e=>cases h;exact⟨0,by omega,rfl⟩
  .obtain⟨j,c,b⟩:=Gu h;exact⟨j+1,by omega,by simpa using b⟩
theorem Z1p (hT:∀t i,look t tb=some i->TIok P t i)(hm:P.follows .mixedOrders=true){f:FuncId}{fn:Func}{c:Code}{gs:List G}{Q:G->Prop}(Y:P.funcs[f]?=some fn)(z:(fn.name=="runtime.NumGoroutine")=false) (B:fn.body=some c) (hn:gs.length<=fn.ntmps) (hc:Ez tb fn.ntmps c=true)
  (h:sxC P tb c (Jh 0 gs) [] 0 (Z9o tb fn Q)):FnV P f gs Q:=by
 refine⟨⟨fn,Y,z,by rw[B];rfl⟩,λI w vs hM W=>?_⟩;let V:Va:=⟨0,λ_=>0,λ_=>undef,λ_ _=>False⟩;have hH:Has I V [] w:=⟨hM,λk r h=>(by cases h),λk r h=>(by cases h),λk r b h=>(by cases h),λk k' r r' b h=>(by cases h)⟩;refine calls_of_wp Y B ?_;have Z:vs.length=gs.length:=W.1.symm;have ha:ARep fn.ntmps I V {tmps:=vs.toArray++Array.replicate (fn.ntmps - vs.toArray.size) undef,defers:=[]} (Jh 0 gs):=by
  refine⟨rfl,by simp;omega,λi g hg=>?_⟩;obtain⟨j,e,hj⟩:=Gu hg;obtain rfl:i=j:=by omega
  obtain⟨u,X,hr⟩:=W.get hj;refine⟨u,?_,.of_v hr⟩;have hi:=(aq.1 X).1;show(vs.toArray++_)[i]?=_;rw[Array.getElem?_append_left (by simpa using hi)];simpa using X
 refine Z1 (own0:=[]) (I0:=I) (V0:=V) (w0:=w) hT hm (V:=V) h ⟨hH,.refl _ _ _ _,au _,λ_ _=>rfl⟩ ha hc (λch d v a w A=>?_) λe t own I1 V1 a D q J T=>?_
 .cases d<;>exact A
 .have key:(∀id,e≠.exit id)->bodyPost P fn (λe w'=>∃x g I',e=.returned x/\Q g/\Mem I' w'/\VR I' g x/\(∀b o x,I b o=some x->I' b o=some x)/\(∀b o,b < w.heap.size->I' b o=I b o)/\Below w.heap.size w w') .ret a D:=λhe=>by
   refine⟨T.defers,?_⟩;have q:match fn.results.toList with
     | [r]=>Z85 tb t own [r] λgs=>match gs with
      | [g]=>Q g
      | _=>False
     | rs=>Z85 tb t own rs λgs=>Q (.tup gs):=by
    cases e with
    | exit id=>exact dq rfl (he id)
    | goto l=>exact q.elim
    | normal=>exact q
    | ret=>exact q
   have fin:∀{gs own' I' V' vs},Later own I1 V1 D own' I' V' D->PW (VRep I') gs vs->∀{g x},Q g->VR I' g x->∃x' g I',Ending.returned x=.returned x'/\Q g/\Mem I' D/\VR I' g x'/\(∀b o x,I b o=some x->I' b o=some x)/\(∀b o,b < w.heap.size->I' b o=I b o)/\Below w.heap.size w D:=λ{gs own' I' V' vs} hl _ {g x} A H=>by have p:=J.fro.trans hl.fro;exact⟨x,g,I',rfl,A,hl.has.mem,H,p.mono,λb o B=>(p.blk b B λk r q=>(by cases q)).2 o,⟨p.os,p.tape,p.output,p.size,λb B=>(p.blk b B λk r q=>(by cases q)).1⟩⟩
   split at q
   .next r hr =>
    obtain⟨gs,o2,I2,V2,vs,E,M,C,s,F⟩:=Sv hT q J.has T;rw[<-hr] at s F;refine⟨_,Dh s F,?_⟩;cases gs with
    | nil=>exact E.elim
    | cons g gs =>
     cases gs with
     | cons g' gs=>exact E.elim
     | nil =>
      obtain⟨v,vs',rfl,H,hn⟩:=C.uncons;obtain rfl:=hn.of_nil;refine fin M C E ?_;cases g with
      | tup l=>cases H
      | _=>exact H
   .next rs hr =>
    obtain⟨gs,o2,I2,V2,vs,E,M,C,s,F⟩:=Sv hT q J.has T;refine⟨_,Dh s F,?_⟩;have O:∀v,vs≠[v]:=λv e=>by
     rw[e] at s;cases A:fn.results.toList with
     | nil=>rw[A] at s;simp at s
     | cons r l =>
      cases l with
      | nil=>exact hr r A
      | cons r' l=>rw[A] at s;simp at s
    have e:Ma vs=.tuple vs.toArray:=by
     unfold Ma;split
     .next v=>exact dq rfl (O v)
     .rfl
    rw[e];exact fin M C E ⟨vs,rfl,C⟩
  cases e with
  | normal=>exact key λid h=>by cases h
  | exit id=>exact q.elim
  | goto l=>exact q.elim
  | ret=>exact key λid h=>by cases h
theorem FnV.mono {f:FuncId}{gs:List G}{Q b:G->Prop}(h:FnV P f gs Q)(j:∀g,Q g->b g):FnV P f gs b :=
 ⟨h.1,λI w vs e c=>(h.2 I w vs e c).mono λ_ _ ⟨x,g,I',h1,h2,h3⟩=>⟨x,g,I',h1,j g h2,h3⟩⟩
theorem Uq (hT:∀t i,look t tb=some i->TIok P t i){r:ResultVar}{K1:G->Os->Prop}(h:Ws tb t own K1 r)(hH:Has I V own w)(ha:ARep N I V a t):∃g own' I' V' v,K1 g own'/\V'.n=V.n/\Later own I V w own' I' V' w/\PRep I' V' g v/\Dn P a w r v:=by
 cases r with
 | tmp i =>
  unfold Ws at h;dsimp only at h;cases hl:look i t with
  | none=>rw[hl] at h;exact h.elim
  | some g =>
   rw[hl] at h;obtain⟨x,z,hr⟩:=ha.get i g hl;obtain⟨q,j,e,s,p,b,u,c⟩:=Yl h hr hH;exact⟨q,j,e,s,x,p,b.1,u,c,by unfold Dn I5;simp[z]⟩
 | cell i ty =>
  obtain⟨q,j,e,s,v,p,b,u,c,A⟩:=Ub (K1:=K1) hT (show Z8h tb t own K1 (.cell i ty) from h) hH ha;exact⟨q,j,e,s,v,p,b,u,.of_v c,A⟩
theorem Oe (hT:∀t i,look t tb=some i->TIok P t i):∀{rs:List ResultVar} {own:Os} {I:Imm} {V:Va} {K1:List G->Os->Prop},T7 tb t own rs K1->Has I V own w->ARep N I V a t->∃gs own' I' V',∃vs:List Value,K1 gs own'/\V'.n=V.n/\Later own I V w own' I' V' w/\PW (PRep I' V') gs vs/\vs.length=rs.length/\∀(i:Nat) r v,rs[i]?=some r->vs[i]?=some v->Dn P a w r v
 | [],own,I,V,K1,h,hH,_=>⟨[],own,I,V,[],h,rfl,.refl hH,.nil,rfl,λi r v h=>by simp at h⟩
 | r::rs,own,I,V,K1,h,hH,ha=>by
  obtain⟨g,O,J,M,v,D,E,b,H,p⟩:=Uq (K1:=λg w'=>T7 tb t w' rs λgs j=>K1 (g::gs) j) hT h hH ha;obtain⟨gs,A,u,V2,vs,q,C,c,s,F,z⟩:=Oe hT D b.has (ha.mono b.fro.mono b.va);refine⟨g::gs,A,u,V2,v::vs,q,C.trans E,b.trans c,.cons (H.mono c.fro.mono c.va) s,by simp[F],λi r' B hr e=>?_⟩;cases i with
  | zero=>simp at hr e;subst hr e;exact p
  | succ i=>exact z i r' B (by simpa using hr) (by simpa using e)
end
structure Z8n (rs:List R)(gs:List G)(own0:Os)(n0:Nat)(gs0:List G)(roots:List Nat):Prop where
 run:∀I V w vs,Has I V (Ep rs 0) w->V.n=rs.length->PW (PRep I V) gs vs->∃V2:Va,V2.n=n0/\Has I V2 own0 w/\PW (TRep I V2) gs0 vs/\Fro (Ep rs 0) I V w own0 I V2 w/\∀(i r:Nat),roots[i]?=some r->V2.b r=V.b i/\r < n0
 len:roots.length=rs.length
section
variable {P:Program} {tb:List (Nat × TI)} {N n n0:Nat} {I I' I0:Imm} {V V' V0 V2:Va} {a:Act} {t t':Ts} {own own' own0:Os} {w w' w0:World} {g:G} {x y:Value} {r:R} {k:Nat}
theorem Ea (rs:List R)(gs:List G):Z8n rs gs (Ep rs 0) rs.length gs (List.range rs.length) :=
 ⟨λI V w vs hH c e=>⟨V,c,hH,e.mono λ_ _ h=>h.to_t,.refl _ _ _ _,λi r h=>by have b:=(aq.1 h).1;rw[cy (by simpa using b)] at h;cases h;exact⟨rfl,by simpa using b⟩⟩,by simp⟩
theorem L9:∀{b:List It} {i:Nat} {it:It} {k:Nat},b[i]?=some it->k∈it.keys->k∈keysL b
 | [],_,_,_,h,_=>by simp at h
 | it0::b,0,it,k,h,hk=>by simp at h;subst h;exact List.mem_append_left _ hk
 | it0::b,i+1,it,k,h,hk=>List.mem_append_right _ (L9 (by simpa using h) hk)
theorem O5:∀{l m:List Nat},Rf (l++m)=true->Rf l=true/\Rf m=true/\∀k,k∈l->k ∉ m
 | [],m,h=>⟨rfl,h,λk c=>by simp at c⟩
 | k::l,m,h=>by
  rw[dl] at h;unfold Rf at h;cases hm:Fd k (l++m) with
  | true=>rw[hm] at h;cases h
  | false =>
   rw[hm] at h;obtain⟨p,q,s⟩:=O5 h;have e:k ∉ l++m:=λc=>by rw[C4.2 c] at hm;cases hm
   refine⟨?_,q,λj b=>?_⟩
   .unfold Rf;have:Fd k l=false:=by
     cases hb:Fd k l with
     | false=>rfl
     | true=>exact dq (List.mem_append_left _ (C4.1 hb)) e
    rw[this];exact p
   .rcases bo.1 b with rfl | b
    .exact λh=>e (List.mem_append_right _ h)
    .exact s j b
theorem Mm:∀{c:List It},Rf (keysL c)=true->∀{i j:Nat} {a b:It} {k:Nat},c[i]?=some a->c[j]?=some b->k∈a.keys->k∈b.keys->i=j
 | [],_,i,_,_,_,_,h,_,_,_=>by simp at h
 | it0::c,hn,i,j,a,b,k,hi,hj,hk,hk'=>by
  obtain⟨-,p,e⟩:=O5 (show Rf (it0.keys++keysL c)=true from hn);cases i with
  | zero =>
   cases j with
   | zero=>rfl
   | succ j=>simp at hi;subst hi;exact dq (L9 (by simpa using hj) hk') (e k hk)
  | succ i =>
   cases j with
   | zero=>simp at hj;subst hj;exact dq (L9 (by simpa using hi) hk) (e k hk')
   | succ j =>
    have:=Mm p (i:=i) (j:=j) (by simpa using hi) (by simpa using hj) hk hk';omega
theorem Qz:∀{b:List It},Rf (keysL b)=true->∀{i:Nat} {a:It},b[i]?=some a->Rf a.keys=true
 | [],_,i,_,h=>by simp at h
 | it0::b,hn,i,a,hi=>by
  obtain⟨c,e,-⟩:=O5 (show Rf (it0.keys++keysL b)=true from hn);cases i with
  | zero=>simp at hi;subst hi;exact c
  | succ i=>exact Qz e (by simpa using hi)
theorem Lm {n0 N:Nat}{M:List (Nat × Nat)}:∀{b:List It} {j:Nat},Z65 own n n0 N M j b->∀{i:Nat} {a:It},b[i]?=some a->a.ok own n n0 N M (j+i)
 | [],_,_,i,_,h=>by simp at h
 | it0::b,j,hn,i,a,hi=>by
  cases i with
  | zero=>simp at hi;subst hi;exact hn.1
  | succ i =>
   have:=Lm (j:=j+1) hn.2 (i:=i) (by simpa using hi);rw[show j+1+i=j+(i+1) by omega] at this;exact this
theorem Mn:∀(b:List It) (j i:Nat),look i (Dy b j)=if j<=i then(b[i - j]?).map It.root else none
 | [],j,i=>by simp[Dy,look]
 | it::b,j,i=>by
  rw[Dy,Ac,Mn b (j+1) i];by_cases h:i=j
  .subst h;simp
  .by_cases c:j<=i
   .obtain⟨d,rfl⟩:=Nat.exists_eq_add_of_le c;cases d with
    | zero=>simp at h
    | succ d=>rw[dn h,dp (by omega),dp c,show j+(d+1) - (j+1)=d by omega,show j+(d+1) - j=d+1 by omega];simp
   .rw[dn h,dn c,dn (by omega)]
theorem V5 {it:It}{k:Nat}{r:R}(h:look k it.O=some r):ren it.m k∈it.keys:=bi.2 ⟨(k,r),P1 h,rfl⟩
theorem Tr {C:List Nat}{Q:G->List R->Prop}{q:List It}{g':G}(hE:X0 C own V.n g Q q g')(hH:Has I V own w)(hx:PRes I V g x)(s0:Nat->Value):∃V':Va,V'.n=q.length/\Has I V' (Ep (q.map It.res) 0) w/\PRes I V' g' x/\(∀i b,V'.f i b->∃k r,look k own=some r/\V.f k b)/\(∀(i k:Nat),C[i]?=some k->V'.b i=V.b k/\i < q.length)/\∀i,i < C.length->V'.s i=s0 i:=by
 let V':Va:=⟨q.length,λi=>V.b ((q[i]?).elim 0 It.root),λi=>if i < C.length then s0 i else V.s ((q[i]?).elim 0 It.root),λi b=>∃it k r,q[i]?=some it/\look k it.O=some r/\V.f (ren it.m k) b⟩;have X:∀{i:Nat} {it:It} {k:Nat} {r:R},q[i]?=some it->look k it.O=some r->∃r',look (ren it.m k) own=some r':=λ{i it k r} hi A=>by
  have hok:=Lm hE.ok hi;obtain⟨O,m,c⟩:=it;cases c with
  | true =>
   obtain⟨-,-,F⟩:=G8 (show leI m own V.n O from hok.1) A;exact⟨_,F⟩
  | false =>
   obtain⟨r0,e,H,-⟩:=hok;have e:O=[(0,r0)]:=e;subst e;have A:look k [(0,r0)]=some r:=A;rw[Ac] at A;split at A
   .next e=>subst e;exact⟨_,H⟩
   .cases A
 have lk:∀{i:Nat} {r:R},look i (Ep (q.map It.res) 0)=some r->∃it,q[i]?=some it/\r=it.res:=λ{i r} h=>by rw[Bf,ax] at h;obtain⟨it,H,W⟩:=bg.1 h;exact⟨it,H,W.symm⟩
 have hb:∀{i:Nat} {it:It},q[i]?=some it->V'.b i=V.b (ren it.m 0):=λ{i it} h=>by show V.b ((q[i]?).elim 0 It.root)=_;rw[h];rfl
 have hs:∀{i:Nat} {it:It},q[i]?=some it->C.length<=i->V'.s i=V.s (ren it.m 0):=λ{i it} h hi=>by show(if i < C.length then s0 i else V.s ((q[i]?).elim 0 It.root))=_;rw[dn (by omega),h];rfl
 have key:∀k,k < q.length->∃it,q[k]?=some it/\(look k (Dy q 0)).getD k=ren it.m 0:=λk A=>by refine⟨q[k],ap A,?_⟩;rw[Mn,dp (av _),Nat.sub_zero,ap A];rfl
 refine⟨V',rfl,⟨hH.mem,λi r h=>?_,λi r h=>?_,λi r b h hf=>?_,λi j r r' b h h' hf hf'=>?_⟩,?_,λi b ⟨it,k,r,H,W,E⟩=>(by obtain⟨r',F⟩:=X H W;exact⟨_,r',F,E⟩),λi k A=>?_,λi hi=>dp hi⟩
 .obtain⟨it,H,-⟩:=lk h;exact(aq.1 H).1
 .obtain⟨it,H,rfl⟩:=lk h;have hok:=Lm hE.ok H;obtain⟨O,m,c⟩:=it;cases c with
  | true =>
   obtain⟨W,r0,E⟩:=hok;have W:leI m own V.n O:=W;refine⟨Z9m O,V.ren m V.n,?_,⟨λk r A=>(G8 W A).1,λk r A=>Z2t (G8 W A).2.1 (hH.each _ _ (G8 W A).2.2),λk r b A hf=>(hH.foot _ _ b (G8 W A).2.2 hf).1,λk k' r r' b A hk' hf hf'=>?_⟩,λc=>?_⟩
   .exact(hb H).symm
   .exact Rq (m:=m) (l:=O) (Qz hE.nod H) A hk' (hH.disj _ _ _ _ b (G8 W A).2.2 (G8 W hk').2.2 hf hf')
   .constructor
    .rintro⟨it',k,r,e,A,hf⟩;rw[H] at e;cases e;exact⟨k,r,A,hf⟩
    .rintro⟨k,r,A,hf⟩;exact⟨_,k,r,H,A,hf⟩
  | false =>
   obtain⟨r,e,hlk,hr⟩:=hok;have e:O=[(0,r)]:=e;subst e;simp only[Bool.and_eq_true] at hr;obtain⟨hr1,hr2,hr3⟩:=hr;have B:=hH.each _ _ hlk;have J:V'.f i=V.f (ren m 0):=by
    funext b;apply propext;constructor
    .rintro⟨it',k,r',e,A,hf⟩;rw[H] at e;cases e;have A:look k [(0,r)]=some r':=A;rw[Ac] at A;split at A
     .next e=>subst e;exact hf
     .cases A
    .exact λhf=>⟨_,0,r,H,rfl,hf⟩
   have M:=hb H;have Y:=hs H;show RRep I V' i w r;have B:RRep I V (ren m 0) w (Kn (Dy q 0) r):=B;cases r with
   | blk cs t =>
    obtain⟨q1,us,q2,q3⟩:=B;refine⟨λb=>by rw[J,M];exact q1 b,us,by rw[M];exact q2,by simpa using q3.1,λj g u hg hu=>?_⟩;have A:=Ai (show Bp (Rz q.length) cs=true from hr1) g (ar hg);have hn:=Ai (show Bp (Zbk C.length) cs=true from hr2) g (ar hg);have h:=q3.2 j _ u (by rw[ax,hg];rfl) hu;cases g with
    | ptr k o =>
     have A:=dm A;obtain⟨it,E,F⟩:=key k A;have h:CRep I V (.ptr ((look k (Dy q 0)).getD k) o) u:=h;rw[F] at h;exact⟨A,by rw[hb E];exact h.2⟩
    | mp k =>
     have A:=dm A;obtain⟨it,E,F⟩:=key k A;have h:CRep I V (.mp ((look k (Dy q 0)).getD k)) u:=h;rw[F] at h;exact⟨A,by rw[hb E];exact h.2⟩
    | osl k =>
     have A:=dm A;obtain⟨it,E,F⟩:=key k A;have h:CRep I V (.osl ((look k (Dy q 0)).getD k)) u:=h;rw[F] at h;exact⟨A,by rw[hs E (dm hn)];exact h.2⟩
    | osv k a b c =>
     have A:=dm A;obtain⟨it,E,F⟩:=key k A;have h:CRep I V (.osv ((look k (Dy q 0)).getD k) a b c) u:=h;rw[F] at h;exact⟨A,by rw[hs E (dm hn)];exact h.2⟩
    | _=>exact h
   | slc rows e sz =>
    have hge:C.length<=0+i:=dm (by simpa using hr3);have Y:=Y (by omega);exact⟨λb=>by rw[J,Y];exact B.1 b,by rw[Y];exact B.2⟩
   | vw rows e sz =>
    have hge:C.length<=0+i:=dm (by simpa using hr3);have Y:=Y (by omega);exact⟨λb=>by rw[J,Y];exact B.1 b,by rw[Y];exact B.2⟩
   | froz rows sz =>
    have hge:C.length<=0+i:=dm (by simpa using hr3);have Y:=Y (by omega);exact⟨λb=>by rw[J];exact B.1 b,by rw[Y];exact B.2.1,B.2.2⟩
   | gone=>exact λb=>by rw[J];exact B b
   | mpI l=>exact⟨λb=>by rw[J,M];exact B.1 b,by rw[M];exact B.2⟩
   | mpS l=>exact⟨λb=>by rw[J,M];exact B.1 b,by rw[M];exact B.2⟩
   | sit s pos=>exact⟨λb=>by rw[J,M];exact B.1 b,by rw[M];exact B.2⟩
   | mpX l m ob=>exact⟨λb=>by rw[J,M];exact B.1 b,by rw[M];exact B.2⟩
   | mit j l D last m ob=>exact⟨λb=>by rw[J,M];exact B.1 b,by rw[M];exact B.2⟩
   | abs p=>exact⟨B.1,by rw[J,M];exact B.2⟩
   | lnk j=>cases hr1
   | adr j b =>
    have A:=dm (show Nat.blt j q.length=true from hr1);obtain⟨it,E,F⟩:=key j A;have B:(∀c,¬V.f (ren m 0) c)/\(look j (Dy q 0)).getD j < V.n/\V.b ((look j (Dy q 0)).getD j)=b:=B;rw[F] at B;exact⟨λc=>by rw[J];exact B.1 c,A,by rw[hb E];exact B.2.2⟩
   | fam ps=>exact⟨B.1,by rw[J];exact B.2⟩
 .obtain⟨it,k,r',H,W,E⟩:=hf;obtain⟨r2,F⟩:=X H W;exact hH.foot _ _ b F E
 .obtain⟨it,k,r1,H,W,E⟩:=hf;obtain⟨it',k',r1',h1',h2',h3'⟩:=hf';obtain⟨r2,F⟩:=X H W;obtain⟨r2',h4'⟩:=X h1' h2';have:=hH.disj _ _ _ _ b F h4' E h3';exact Mm hE.nod H h1' (V5 W) (this ▸ V5 h2')
 .have hres:=hE.res;have T:=hE.key;simp only[Bool.and_eq_true] at T;obtain⟨⟨T,Z⟩,hrn⟩:=T;have one:∀g' x,Z8p q.length g'=true->Zbz g'=true->Z2a C.length g'=true->PRe1 I V (Z1b (Dy q 0) g') x->PRe1 I V' g' x:=λg' x H W h5 h=>by
   cases g' with
   | ptr k o =>
    have A:=dm H;obtain⟨it,E,F⟩:=key k A;have h:PRep I V (.ptr ((look k (Dy q 0)).getD k) o) x:=h;rw[F] at h;exact(show PRep I V' (.ptr k o) x from⟨A,by rw[hb E];exact h.2⟩)
   | mp k =>
    have A:=dm H;obtain⟨it,E,F⟩:=key k A;have h:PRep I V (.mp ((look k (Dy q 0)).getD k)) x:=h;rw[F] at h;exact(show PRep I V' (.mp k) x from⟨A,by rw[hb E];exact h.2⟩)
   | osl k =>
    have A:=dm H;obtain⟨it,E,F⟩:=key k A;have h:PRep I V (.osl ((look k (Dy q 0)).getD k)) x:=h;rw[F] at h;exact(show PRep I V' (.osl k) x from⟨A,by rw[hs E (dm h5)];exact h.2⟩)
   | osv k a b c=>cases W
   | oel k a b c=>cases W
   | orv k a b c d e=>cases W
   | clo f a c=>cases W
   | v z=>exact h
   | tt=>exact h
   | ff=>exact h
   | un=>exact h
   | nl=>exact h
   | agg l=>exact h
   | sl l=>exact h
   | oag l =>
    obtain⟨cs,e,hp⟩:=(show TRep1 I V (.oag (l.map (M5 (Dy q 0)))) x from h);refine(show TRep1 I V' (.oag l) x from⟨cs,e,by simpa using hp.1,λj g u hg hu=>?_⟩);have A:=Ai (show Bp (Rz q.length) l=true from H) g (ar hg);have hn:=Ai (show Bp (Zbk C.length) l=true from h5) g (ar hg);have h:=hp.2 j _ u (by rw[ax,hg];rfl) hu;cases g with
    | ptr k o =>
     have A:=dm A;obtain⟨it,E,F⟩:=key k A;have h:CRep I V (.ptr ((look k (Dy q 0)).getD k) o) u:=h;rw[F] at h;exact⟨A,by rw[hb E];exact h.2⟩
    | mp k =>
     have A:=dm A;obtain⟨it,E,F⟩:=key k A;have h:CRep I V (.mp ((look k (Dy q 0)).getD k)) u:=h;rw[F] at h;exact⟨A,by rw[hb E];exact h.2⟩
    | osl k =>
     have A:=dm A;obtain⟨it,E,F⟩:=key k A;have h:CRep I V (.osl ((look k (Dy q 0)).getD k)) u:=h;rw[F] at h;exact⟨A,by rw[hs E (dm hn)];exact h.2⟩
    | osv k a b c =>
     have A:=dm A;obtain⟨it,E,F⟩:=key k A;have h:CRep I V (.osv ((look k (Dy q 0)).getD k) a b c) u:=h;rw[F] at h;exact⟨A,by rw[hs E (dm hn)];exact h.2⟩
    | _=>exact h
   | tup l=>cases H
   | elp l o=>cases(show VRep I (.elp l o) x from h)
  rw[<-hres] at hx;cases g' with
  | tup l =>
   obtain⟨cs,e,hp⟩:=hx;exact⟨cs,e,by simpa using hp.1,λj g u hg hu=>one g u (Ai (show Bp (Z8p q.length) l=true from T) g (ar hg)) (Ai (show Bp Zbz l=true from Z) g (ar hg)) (Ai (show Bp (Z2a C.length) l=true from hrn) g (ar hg)) (hp.2 j _ u (by rw[ax,hg];rfl) hu)⟩
  | ptr k o=>exact one (.ptr k o) x T Z hrn hx
  | mp k=>exact one (.mp k) x T Z hrn hx
  | osl k=>exact one (.osl k) x T Z hrn hx
  | osv k a b c=>cases Z
  | oel k a b c=>cases Z
  | orv k a b c d e=>cases Z
  | clo f a c=>cases Z
  | v z=>exact hx
  | tt=>exact hx
  | ff=>exact hx
  | un=>exact hx
  | nl=>exact hx
  | agg l=>exact hx
  | sl l=>exact hx
  | oag l=>exact one (.oag l) x T Z hrn hx
  | elp l o=>cases(show VRep I (.elp l o) x from hx)
 .obtain⟨l,hl⟩:=hE.rts;have H:(q.map It.root)[i]?=some k:=by rw[hl,br (aq.1 A).1];exact A
  rw[ax] at H;obtain⟨it,W,E⟩:=bg.1 H;exact⟨by rw[hb W,<-E];rfl,(aq.1 W).1⟩
theorem Z0a (hT:∀t i,look t tb=some i->TIok P t i)(hm:P.follows .mixedOrders=true){f:FuncId}{fn:Func}{c:Code}{gs C:List G}{rs:List R}{p:List Nat}{Q:G->List R->Prop}(hf:P.funcs[f]?=some fn)(H:(fn.name=="runtime.NumGoroutine")=false) (hb:fn.body=some c) (hn:C.length<=fn.ntmps) (hc:Ez tb fn.ntmps c=true)
  (ho:Z8n rs gs own0 n0 C p) (h:sxC P tb c (Jh 0 C) own0 n0 (Z62 tb fn p Q)):FnO P f gs rs Q:=by
 refine⟨⟨fn,hf,H,by rw[hb];rfl⟩,λI V w vs hH hVn hp=>?_⟩;obtain⟨V2,h2n,hH2,X,hF2,J⟩:=ho.run I V w vs hH hVn hp;refine calls_of_wp hf hb ?_;have hlen:vs.length=C.length:=X.1.symm;have ha:ARep fn.ntmps I V2 {tmps:=vs.toArray++Array.replicate (fn.ntmps - vs.toArray.size) undef,defers:=[]} (Jh 0 C):=by
  refine⟨rfl,by simp;omega,λi g hg=>?_⟩;obtain⟨j,e,hj⟩:=Gu hg;obtain rfl:i=j:=by omega
  obtain⟨u,hu,hr⟩:=X.get hj;refine⟨u,?_,hr⟩;have hi:=(aq.1 hu).1;show(vs.toArray++_)[i]?=_;rw[Array.getElem?_append_left (by simpa using hi)];simpa using hu
 rw[<-h2n] at h;refine Z1 (own0:=own0) (I0:=I) (V0:=V2) (w0:=w) hT hm (V:=V2) h ⟨hH2,.refl _ _ _ _,au _,λ_ _=>rfl⟩ ha hc (λch d v a w Z=>?_) λe t own I1 V1 a Y D O hA=>?_
 .cases d<;>exact Z
 .have key:(∀id,e≠.exit id)->bodyPost P fn (λe w'=>∃x g z I' V',e=.returned x/\Q g z/\V'.n=z.length/\Has I' V' (Ep z 0) w'/\PRes I' V' g x/\Fro (Ep rs 0) I V w (Ep z 0) I' V' w'/\V.le V') .ret a Y:=λhe=>by
   refine⟨hA.defers,?_⟩;have D:match fn.results.toList with
     | [r]=>T7 tb t own [r] λgs own=>match gs with
      | [g]=>∃A E,X0 p own V1.n g Q A E
      | _=>False
     | rs=>T7 tb t own rs λgs own=>∃A E,X0 p own V1.n (.tup gs) Q A E:=by
    cases e with
    | exit id=>exact dq rfl (he id)
    | goto l=>exact D.elim
    | normal=>exact D
    | ret=>exact D
   have fin:∀{own' I' V' g x},V'.n=V1.n->Later own I1 V1 Y own' I' V' Y->PRes I' V' g x->(∃A E,X0 p own' V1.n g Q A E)->∃x' g z I' V',Ending.returned x=.returned x'/\Q g z/\V'.n=z.length/\Has I' V' (Ep z 0) Y/\PRes I' V' g x'/\Fro (Ep rs 0) I V w (Ep z 0) I' V' Y/\V.le V':=λ{own' I' V' g x} hn hl hx ⟨A,E,hE⟩=>by
    rw[<-hn] at hE;obtain⟨V4,F,T,W,B,M,k6⟩:=Tr hE hl.has hx V.s;have q:=(hF2.trans O.fro).trans hl.fro;refine⟨x,E,A.map It.res,I',V4,rfl,hE.post,by simpa using F,T,W,⟨q.os,q.tape,q.output,q.size,q.blk,q.mono,λi r b hi hb hlt=>?_⟩,?_,λi hi=>⟨?_,k6 i (by rw[ho.len];omega)⟩⟩
    .obtain⟨k,r',h1,h2⟩:=B i b hb;exact q.foot k r' b h1 h2 hlt
    .rw[F,hVn,<-ho.len];obtain⟨l,hl⟩:=hE.rts;have:=congrArg List.length hl;simp at this;omega
    .have hi':i < p.length:=by rw[ho.len];omega
     have hr:=ap hi';obtain⟨h1,h2⟩:=J i _ hr;rw[(M i _ hr).1,(hl.va.2 _ (bc (by omega) O.n)).1,O.bb _ (by omega),h1]
   split at D
   .next r hr =>
    obtain⟨gs,o2,I2,V2',vs,F,kn,T,W,B,M⟩:=Oe hT D O.has hA;rw[<-hr] at B M;refine⟨_,Dh B M,?_⟩;cases gs with
    | nil=>exact F.elim
    | cons g gs =>
     cases gs with
     | cons E gs=>exact F.elim
     | nil =>
      obtain⟨v,vs',rfl,hv,hn⟩:=W.uncons;obtain rfl:=hn.of_nil;refine fin kn T ?_ F;cases g with
      | tup l=>cases(show VRep I2 (.tup l) v from hv)
      | oag l=>exact(show(∃g∈l,C8 g=false)/\TRep1 I2 V2' (.oag l) v from hv).2
      | _=>exact hv
   .next z hr =>
    obtain⟨gs,o2,I2,V2',vs,F,kn,T,W,B,M⟩:=Oe hT D O.has hA;refine⟨_,Dh B M,?_⟩;have hv1:∀v,vs≠[v]:=λv e=>by
     rw[e] at B;cases Z:fn.results.toList with
     | nil=>rw[Z] at B;simp at B
     | cons r l =>
      cases l with
      | nil=>exact hr r Z
      | cons r' l=>rw[Z] at B;simp at B
    have e:Ma vs=.tuple vs.toArray:=by
     unfold Ma;split
     .next v=>exact dq rfl (hv1 v)
     .rfl
    rw[e];exact fin (g:=.tup gs) kn T ⟨vs,rfl,W.mono λ_ _ h=>.of_p h⟩ F
  cases e with
  | normal=>exact key λid h=>by cases h
  | exit id=>exact D.elim
  | goto l=>exact D.elim
  | ret=>exact key λid h=>by cases h
theorem Z84 (gs:List G):Z8n [] gs [] 0 gs []:=Ea [] gs
def itL:List (Nat × R)->List It
 | []=>[]
 | (k,r)::l=>⟨[(0,r)],[(0,k)],false⟩::itL l
end
end Go.Proofs.YtmmdikhljefeiaaGreat


import Derived.Test.YtmmdikhljefeiaaGreatSxMa
import Derived.OrdersHeld
import Derived.Deep.RegionHeld
import Derived.Test.YtmmdikhljefeiaaGreatSxMb
import Derived.Deep.LoopGhost
import Derived.ScopeJumps
namespace Go.Proofs.YtmmdikhljefeiaaGreat
open Go.RowKit
section
variable {P:Program} {md:Region.Mode} {ops:Array Oper} {Q:Exit->Act->World->Prop} {S:World->Prop} {late:List Nat}
def Re (md:Region.Mode)(ops:Array Oper):Nat->Nat->Nat->Bool
 | 0,_,_=>false
 | n+1,j,i=>match ops[j]? with
  | some o=>o.after.toList.any λe=>Region.binds md e&&(e.on==i||Re md ops n e.on i)
  | none=>false
def F4 (md:Region.Mode)(ops:Array Oper)(b:Array Bool):Prop:=∀j o,ops[j]?=some o->b.getD j false=true->∀e∈o.after,Region.binds md e=true->b.getD e.on false=true
theorem Kw {b:Array Bool}(z:F4 md ops b){i:Nat}:∀(n j:Nat),(∀o,ops[j]?=some o->∀e∈o.after,Region.binds md e=true->b.getD e.on false=true)->Re md ops n j i=true->b.getD i false=true
 | 0,_,_,h=>by cases h
 | n+1,j,hj,h=>by
  unfold Re at h;cases ho:ops[j]? with
  | none=>rw[ho] at h;cases h
  | some o =>
   rw[ho] at h;obtain⟨e,A,c⟩:=List.any_eq_true.1 h;rw[bd,Bool.or_eq_true] at c;have s:e∈o.after:=by simpa using A
   have u:=hj o ho e s c.1;rcases c.2 with p | p
   .have:e.on=i:=by simpa using p
    rw[<-this];exact u
   .exact Kw z n e.on (λB q=>z e.on B q u) p
theorem Df {b:Array Bool}(A:F4 md ops b){i:Nat}(hr:i∈Region.ready md ops b):F4 md ops (b.setIfInBounds i true):=λj o z s e u q=>by
 by_cases h:i=j
 .subst h;obtain⟨_,B,c,p⟩:=mem_ready.1 hr;rw[z] at c;injection c with c;subst c;exact getD_set_true (p e u q)
 .rw[getD_set_ne false h] at s;exact getD_set_true (A j o z s e u q)
theorem Kx (n:Nat)(e:n=ops.size):F4 md ops (Array.replicate n false):=λj o h c=>by have b:j < ops.size:=(bz.1 h).1;subst e;simp[b] at c
def Zh (P:Program)(md:Region.Mode)(ops:Array Oper)(Q:Exit->Act->World->Prop)(S:World->Prop)(late:List Nat):Nat->Array Bool->Act->World->Prop
 | 0,b,a,w=>Region.ready md ops b=[]/\Q .normal a w
 | fuel+1,b,a,w =>
  (Region.ready md ops b=[]->Q .normal a w) /\
  ∀i∈Region.ready md ops b,wpOp P ops Q i (λc w'=>(i ∉ late->S w')/\(F4 md ops (b.setIfInBounds i true)->Zh P md ops Q S late fuel (b.setIfInBounds i true) c w')) a w
def Zb3 (md:Region.Mode)(ops:Array Oper)(late:List Nat)(i:Nat):Bool:=late.all λj=>Re md ops ops.size j i
def AllL (P:Program)(md:Region.Mode)(ops:Array Oper)(Q:Exit->Act->World->Prop)(S:World->Prop)(late:List Nat)(c:Nat)(b:Array Bool)(a:Act)(w:World)(rs:List Nat):Prop :=
 ∀i∈rs,wpOp P ops Q i (λe w'=>(i ∉ late->S w')/\(F4 md ops (b.setIfInBounds i true)->Zh P md ops Q S late c (b.setIfInBounds i true) e w')) a w
theorem AllL.nil {c:Nat}{b:Array Bool}{a:Act}{w:World}:AllL P md ops Q S late c b a w []:=λ_ h=>by cases h
theorem AllL.cons {c:Nat}{b:Array Bool}{a:Act}{w:World}{i:Nat}{e:Oper}{rs:List Nat}(z:ops[i]?=some e)
  (h:∀K:Act->World->Prop,Shut (∀a w,(i ∉ late->S w)->((i ∉ late->S w)->F4 md ops (b.setIfInBounds i true)->Zh P md ops Q S late c (b.setIfInBounds i true) a w)->K a w)->if Region.wanted e (yielded ops a.tmps)=true then e.wp P a w K Q else K (a.put e.dst undef) w)
  (A:AllL P md ops Q S late c b a w rs):AllL P md ops Q S late c b a w (i::rs):=λj p=>by
 rcases bq.1 p with rfl | p
 .exact wpOp_step z (λK s=>h K (λa w q u=>s a w ⟨q,u q⟩))
 .exact A j p
end
section
variable {P:Program} {ops:Array Oper} {Q:Exit->Act->World->Prop} {w0 w:World} {L:List (Nat × List Value × TypeId)} {U:List (World × List Nat)} {a:Act} {o:Oper} {ty t:TypeId} {i g k:Nat} {row:List Value} {v:Value}
theorem Env.sub {b:List (World × List Nat)}(h:Env w0 w L U)(c:∀q∈b,q∈U):Env w0 w L b:=⟨h.blw,h.own,h.sep,λq e=>h.sn q (c q e)⟩
theorem G4 (b:o.guard=none):Region.wanted o (yielded ops a.tmps)=true:=by unfold Region.wanted;rw[b]
theorem Z91 {S:World->Prop}(b:Region.wanted o (yielded ops a.tmps)=false):YieldsIf P ops S o undef a:=.inr ⟨b,rfl⟩
theorem Z7d {S:World->Prop}(b:Region.wanted o (yielded ops a.tmps)=true)(hr:∀w,S w->(execOp a.eval o).run P w=.ok (.value v) w):YieldsIf P ops S o v a:=.inl ⟨b,hr⟩
end
section
variable {P:Program} {ops:Array Oper} {w0 w:World} {L:List (Nat × List Value × TypeId)} {U:List (World × List Nat)} {a:Act} {o:Oper} {α:Type} {sz:Nat} {f:α->List Value} {l:List α}
end
section
variable {P:Program} {md:Region.Mode} {ops:Array Oper} {Q:Exit->Act->World->Prop} {S:World->Prop} {late:List Nat}
def Zb5 (S:World->Prop):Prop:=∀w u,S w->Below w.heap.size w u->S u
def wpAnyG (P:Program)(md:Region.Mode)(ops:Array Oper)(Q:Exit->Act->World->Prop)(late:List Nat):Nat->(World->Prop)->Array Bool->Act->World->Prop
 | 0,_,b,a,w=>∀u,Below w.heap.size w u->Region.ready md ops b=[]/\Q .normal a u
 | fuel+1,S,b,a,w=>∀u,Below w.heap.size w u ->
  (Region.ready md ops b=[]->Q .normal a u) /\
  ∀i∈Region.ready md ops b,wpOp P ops Q i (λe w'=>∃c:World->Prop,(i ∉ late->∀u,c u->S u)/\c w'/\Zb5 c/\(F4 md ops (b.setIfInBounds i true)->wpAnyG P md ops Q late fuel c (b.setIfInBounds i true) e w')) a u
theorem Nu:∀(c:Nat) (S:World->Prop) (b:Array Bool) (a:Act) (w:World),F4 md ops b->wpAnyG P md ops Q late c S b a w->wpAny P md ops Q c b a w
 | 0,_,_,_,_,_,h=>h _ (.refl _ _)
 | c+1,_,_,_,_,hc,h=>have h:=h _ (.refl _ _);⟨h.1,λi e=>wpOp_mono (λp w' ⟨j,_,_,_,h'⟩=>Nu c j _ p w' (Df hc e) (h' (Df hc e))) (h.2 i e)⟩
theorem wpAnyG.grow {c:Nat}{S:World->Prop}{b:Array Bool}{a:Act}{w u:World}(h:wpAnyG P md ops Q late c S b a w)(e:Below w.heap.size w u):wpAnyG P md ops Q late c S b a u:=by
 cases c with
 | zero=>exact λv j=>h v (e.trans (j.mono e.size))
 | succ n=>exact λv j=>h v (e.trans (j.mono e.size))
theorem YieldsIf.sub {o:Oper}{v:Value}{a:Act}{b:World->Prop}(h:YieldsIf P ops S o v a)(c:∀u,b u->S u):YieldsIf P ops b o v a :=
 h.imp (λh=>⟨h.1,λu e=>h.2 u (c u e)⟩) id
theorem Qx {i N:Nat}{X:Oper}{v:Value}(hi:ops[i]?=some X)(D:∀(j:Nat) (o:Oper) cs b,ops[j]?=some o->o.op≠.select cs b)
  (hQ:∀c a w,Q (.panic c) (a.put X.dst v) w->Q (.panic c) a w) (T:∀j∈late,Re md ops N j i=true) :
  ∀(s:Nat) (S:World->Prop) (p:Array Bool) (a:Act) (w:World),F4 md ops p ->
   (∀j O,ops[j]?=some O->j≠i->p.getD j true=false->(∀e∈O.after,Region.binds md e=true->e.on≠i)->X.apart ops O=true) ->
   i∈Region.ready md ops p->YieldsIf P ops S X v a->S w->Zb5 S ->
   wpAnyG P md ops Q late s S (p.setIfInBounds i true) (a.put X.dst v) w->wpAnyG P md ops Q late (s+1) S p a w:=by
 intro s
 induction s with
 | zero =>
  intro S p a w hc _ hr hy hS W H u B;refine⟨λh=>(by rw[h] at hr;cases hr),λj hj=>?_⟩;by_cases q:j=i
  .subst q;exact hy.wpOp hi (W _ _ hS B) ⟨S,λ_ _ h=>h,W _ _ hS B,W,λ_=>H.grow B⟩
  .have:=ready_mono hj q;rw[(H u B).1] at this;cases this
 | succ s ih =>
  intro S p a w hc z hr hy hS W H u B;refine⟨λh=>(by rw[h] at hr;cases hr),λj hj=>?_⟩;by_cases q:j=i
  .subst q;exact hy.wpOp hi (W _ _ hS B) ⟨S,λ_ _ h=>h,W _ _ hS B,W,λ_=>H.grow B⟩
  .have h1:=(H u B).2 j (ready_mono hj q);obtain⟨J,O,C,M⟩:=mem_ready.1 hj;have E:=(mem_ready.1 hr).1;have F:∀{b:Bool},p.getD i b=true->b=false->False:=λY hb0=>by
    subst hb0;rcases Nat.lt_or_ge i p.size with h' | h'
    .simp[h'] at E Y;rw[E] at Y;cases Y
    .simp[Array.getElem?_eq_none h'] at Y
   have hjl:j ∉ late:=λhm=>F (Kw hc N j (λo ho=>by rw[C] at ho;injection ho with ho;subst ho;exact M) (T j hm)) rfl
   have hnot:∀e∈O.after,Region.binds md e=true->e.on≠i:=λe he Y heq=>by have h1:=M e he Y;rw[heq] at h1;exact F h1 rfl
   have h2:=wpOp_putIf C (z j O C q J hnot) (λcs b=>D i X cs b hi) (λcs b=>D j O cs b C) hQ hy h1;have A:∀k ok,ops[k]?=some ok->k≠i->(p.setIfInBounds j true).getD k true=false ->
     (∀e∈ok.after,Region.binds md e=true->e.on≠i)->X.apart ops ok=true:=λk ok hk hki hun hno=>by
    refine z k ok hk hki ?_ hno;by_cases hjk:j=k
    .subst hjk;exact J
    .rw[getD_set_ne true hjk] at hun;exact hun
   refine wpOp_mono (λa' w' h3=>?_) h2;obtain⟨hy3,S',hs1,Z,hs3,h3⟩:=h3;refine⟨S',hs1,Z,hs3,λhcj=>ih S' (p.setIfInBounds j true) a' w' hcj A (ready_mono hr (Ne.symm q)) (YieldsIf.sub (S:=S) hy3 (hs1 hjl)) Z hs3 ?_⟩;rw[Array.setIfInBounds_comm _ _ q];exact h3 (by rw[Array.setIfInBounds_comm _ _ (Ne.symm q)];exact Df hcj (ready_mono hr (Ne.symm q)))
theorem Pz {i:Nat}{O:Oper}{v:Value}(hi:ops[i]?=some O)(B:∀(j:Nat) (o:Oper) cs b,ops[j]?=some o->o.op≠.select cs b)
  (hQ:∀c a w,Q (.panic c) (a.put O.dst v) w->Q (.panic c) a w) :
  ∀(s:Nat) (S:World->Prop) (p:Array Bool) (a:Act) (w:World),F4 md ops p ->
   (∀j F,ops[j]?=some F->j≠i->p.getD j true=false->(∀e∈F.after,Region.binds md e=true->e.on≠i)->O.apart ops F=true) ->
   i∈Region.ready md ops p->YieldsIf P ops (λ_=>True) O v a->S w->Zb5 S ->
   wpAnyG P md ops Q late s S (p.setIfInBounds i true) (a.put O.dst v) w->wpAnyG P md ops Q late (s+1) S p a w:=by
 intro s
 induction s with
 | zero =>
  intro S p a w hc _ hr hy hS Z H u J;refine⟨λh=>(by rw[h] at hr;cases hr),λj hj=>?_⟩;by_cases q:j=i
  .subst q;exact hy.wpOp hi trivial ⟨S,λ_ _ h=>h,Z _ _ hS J,Z,λ_=>H.grow J⟩
  .have:=ready_mono hj q;rw[(H u J).1] at this;cases this
 | succ s ih =>
  intro S p a w hc z hr hy hS Z H u J;refine⟨λh=>(by rw[h] at hr;cases hr),λj hj=>?_⟩;by_cases q:j=i
  .subst q;exact hy.wpOp hi trivial ⟨S,λ_ _ h=>h,Z _ _ hS J,Z,λ_=>H.grow J⟩
  .have E:=(H u J).2 j (ready_mono hj q);obtain⟨D,F,M,Y⟩:=mem_ready.1 hj;have C:=(mem_ready.1 hr).1;have hnot:∀e∈F.after,Region.binds md e=true->e.on≠i:=λe he hb heq=>by
    have E:=Y e he hb;rw[heq] at E;rcases Nat.lt_or_ge i p.size with h' | h'
    .simp[h'] at C E;rw[C] at E;cases E
    .simp[Array.getElem?_eq_none h'] at E
   have h2:=wpOp_putIf M (z j F M q D hnot) (λcs b=>B i O cs b hi) (λcs b=>B j F cs b M) hQ hy E;have A:∀k ok,ops[k]?=some ok->k≠i->(p.setIfInBounds j true).getD k true=false ->
     (∀e∈ok.after,Region.binds md e=true->e.on≠i)->O.apart ops ok=true:=λk ok hk hki X hno=>by
    refine z k ok hk hki ?_ hno;by_cases hjk:j=k
    .subst hjk;exact D
    .rw[getD_set_ne true hjk] at X;exact X
   refine wpOp_mono (λa' w' h3=>?_) h2;obtain⟨hy3,S',hs1,T,hs3,h3⟩:=h3;refine⟨S',hs1,T,hs3,λW=>ih S' (p.setIfInBounds j true) a' w' W A (ready_mono hr (Ne.symm q)) hy3 T hs3 ?_⟩;rw[Array.setIfInBounds_comm _ _ q];exact h3 (by rw[Array.setIfInBounds_comm _ _ (Ne.symm q)];exact Df W (ready_mono hr (Ne.symm q)))
def CallsTo (P:Program)(ops:Array Oper)(o:Oper)(v:Value)(a:Act):Prop :=
 Region.wanted o (yielded ops a.tmps)=true/\∃f vs,(∀w,(execOp a.eval o).run P w=.ok (.enter f vs) w)/\∀w,Calls P f vs w λe w'=>e=.returned v/\Below w.heap.size w w'
theorem CallsTo.wpOp {i:Nat}{o:Oper}{v:Value}{a:Act}(p:ops[i]?=some o)(c:CallsTo P ops o v a){K:Act->World->Prop}{w:World}(h:∀w',Below w.heap.size w w'->K (a.put o.dst v) w'):wpOp P ops Q i K a w:=by obtain⟨q,f,vs,b,j⟩:=c;unfold Go.wpOp;simp only[p,q,if_true];refine .inl ?_;unfold Oper.wp;rw[b w,Oper.upon_enter];refine(j w).mono λe w' ⟨s,hb⟩=>?_;subst s;exact h w' hb
theorem CallsTo.of_same {o:Oper}{v:Value}{a b:Act}(c:CallsTo P ops o v a)(e:execOp b.eval o=execOp a.eval o)(h:Region.wanted o (yielded ops b.tmps)=Region.wanted o (yielded ops a.tmps)):CallsTo P ops o v b:=by unfold CallsTo at *;rw[e,h];exact c
theorem Zl {j:Nat}{p s:Oper}{v:Value}(T:ops[j]?=some s)(F:p.apart ops s=true)(E:∀cs b,p.op≠.select cs b)(C:∀cs b,s.op≠.select cs b)
  (M:∀c a w,Q (.panic c) (a.put p.dst v) w->Q (.panic c) a w) {K:Act->World->Prop} {a:Act} {w:World} (A:CallsTo P ops p v a) (h:wpOp P ops Q j K (a.put p.dst v) w):wpOp P ops Q j (λJ w'=>CallsTo P ops p v J/\K (J.put p.dst v) w') a w:=by
 obtain⟨D,O,H⟩:=Oper.apart_spec F;have stay:∀{b:Act},CallsTo P ops p v b->∀u,CallsTo P ops p v (b.put s.dst u):=λ{b} W u=>W.of_same (execOp_put p E b s.dst u H) (wanted_put p b s.dst u H);have q:∀(b:Act) (u:Value),(b.put p.dst v).put s.dst u=(b.put s.dst u).put p.dst v:=λb u=>Act.put_comm b v u O;unfold Go.wpOp at h⊢;simp only[T] at h⊢;rw[wanted_put s a p.dst v D] at h;cases hw:Region.wanted s (yielded ops a.tmps) with
 | false =>
  rw[hw] at h;have h:K ((a.put p.dst v).put s.dst undef) w:=h;rw[q] at h;exact⟨stay A _,h⟩
 | true =>
  rw[hw] at h;have h:(s.wp P (a.put p.dst v) w K Q\/(s.asks P (a.put p.dst v) w/\LetsOut Q)):=h;show(s.wp P a w _ Q\/(s.asks P a w/\LetsOut Q));rcases h with h | ⟨h,hl⟩
  .refine .inl ?_;unfold Oper.wp at h⊢;rw[execOp_put s C a p.dst v D] at h;generalize (execOp a.eval s).run P w=res at h⊢;cases res with
   | ok nx w' =>
    cases nx<;>simp only[Oper.upon] at h⊢
    case value u=>rw[q] at h;exact⟨stay A u,h⟩
    case skip=>rw[q] at h;exact⟨stay A _,h⟩
    case defer d =>
     have e:=q {a with defers:=d::a.defers} undef;refine⟨stay (b:={a with defers:=d::a.defers}) (A.of_same rfl rfl) _,?_⟩;rw[<-e,<-Act.put_defers];exact h
    case enter f vs =>
     refine Calls.mono h λe B z=>?_;cases e with
     | returned u=>have z:K ((a.put p.dst v).put s.dst u) B:=z;rw[q] at z;exact⟨stay A u,z⟩
     | panicked c=>exact M _ _ _ z
     | outgrown=>exact z
    case row row vs=>exact Rows.mono h λu B z=>by rw[q] at z;exact⟨stay A u,z⟩
   | halt x w' =>
    cases x<;>simp only[Oper.upon] at h⊢
    case panic u=>exact M _ _ _ h
  .refine .inr ⟨?_,hl⟩;unfold Oper.asks at h⊢;rw[execOp_put s C a p.dst v D] at h;exact h
theorem Qe {i:Nat}{W:Oper}{v:Value}(hi:ops[i]?=some W)(B:∀(j:Nat) (o:Oper) cs b,ops[j]?=some o->o.op≠.select cs b)
  (hQ:∀c a w,Q (.panic c) (a.put W.dst v) w->Q (.panic c) a w) :
  ∀(s:Nat) (S:World->Prop) (p:Array Bool) (a:Act) (w:World),F4 md ops p ->
   (∀j F,ops[j]?=some F->j≠i->p.getD j true=false->(∀e∈F.after,Region.binds md e=true->e.on≠i)->W.apart ops F=true) ->
   i∈Region.ready md ops p->CallsTo P ops W v a->S w->Zb5 S ->
   wpAnyG P md ops Q late s S (p.setIfInBounds i true) (a.put W.dst v) w->wpAnyG P md ops Q late (s+1) S p a w:=by
 intro s
 induction s with
 | zero =>
  intro S p a w hc _ hr hy hS O H u J;refine⟨λh=>(by rw[h] at hr;cases hr),λj hj=>?_⟩;by_cases q:j=i
  .subst q;exact hy.wpOp hi λw' T=>⟨S,λ_ _ h=>h,O _ _ (O _ _ hS J) T,O,λ_=>(H.grow J).grow T⟩
  .have:=ready_mono hj q;rw[(H u J).1] at this;cases this
 | succ s ih =>
  intro S p a w hc z hr hy hS O H u J;refine⟨λh=>(by rw[h] at hr;cases hr),λj hj=>?_⟩;by_cases q:j=i
  .subst q;exact hy.wpOp hi λw' T=>⟨S,λ_ _ h=>h,O _ _ (O _ _ hS J) T,O,λ_=>(H.grow J).grow T⟩
  .have E:=(H u J).2 j (ready_mono hj q);obtain⟨D,F,M,hall⟩:=mem_ready.1 hj;have C:=(mem_ready.1 hr).1;have hnot:∀e∈F.after,Region.binds md e=true->e.on≠i:=λe he T heq=>by
    have E:=hall e he T;rw[heq] at E;rcases Nat.lt_or_ge i p.size with h' | h'
    .simp[h'] at C E;rw[C] at E;cases E
    .simp[Array.getElem?_eq_none h'] at E
   have h2:=Zl M (z j F M q D hnot) (λcs b=>B i W cs b hi) (λcs b=>B j F cs b M) hQ hy E;have A:∀k ok,ops[k]?=some ok->k≠i->(p.setIfInBounds j true).getD k true=false ->
     (∀e∈ok.after,Region.binds md e=true->e.on≠i)->W.apart ops ok=true:=λk ok hk hki Z hno=>by
    refine z k ok hk hki ?_ hno;by_cases hjk:j=k
    .subst hjk;exact D
    .rw[getD_set_ne true hjk] at Z;exact Z
   refine wpOp_mono (λa' w' h3=>?_) h2;obtain⟨hy3,S',hs1,X,hs3,h3⟩:=h3;refine⟨S',hs1,X,hs3,λY=>ih S' (p.setIfInBounds j true) a' w' Y A (ready_mono hr (Ne.symm q)) hy3 X hs3 ?_⟩;rw[Array.setIfInBounds_comm _ _ q];exact h3 (by rw[Array.setIfInBounds_comm _ _ (Ne.symm q)];exact Df Y (ready_mono hr (Ne.symm q)))
end
section
variable {P:Program} {tb:List (Nat × TI)} {N n:Nat} {I I' I0:Imm} {V V' V0:Va} {a:Act} {t:Ts} {own own' own0:Os} {w w' w0:World} {g:G} {y:Value} {d:Option Tmp}
variable {XL:List Nat} {mo:Mo} {S:World->Prop} {K:Ts->Os->Nat->Prop} {next:Act->World->Prop} {Q:Exit->Act->World->Prop} {o:Oper}
theorem R0 (hT:∀t i,look t tb=some i->TIok P t i)(s:∀k∈mo.xl,∃r,look k own=some r)(B:isR tb o=true->∀u,S u->Agree V mo.xl w u)(j:isQ tb o=true)(h:Jr P tb mo o t own V.n K)(hH:Has I V own w)(ha:ARep N I V a t):QOk S P I V own w a t o K:=by
 obtain⟨dst,op,type,pos,after,guard⟩:=o;cases op with
 | move x=>exact Z7n hH ha (.inl rfl) h
 | assign x =>
  unfold Jr at h;unfold isQ at j;dsimp only at h j;split at h
  .cases j
  .exact Z7n hH ha (.inr rfl) h
 | pick c x y=>exact Zch hH ha rfl h
 | load ty x=>exact Zd9 hT hH ha s (B rfl) rfl h
 | fieldAddr ty x f=>exact Sv hT hH ha rfl h
 | field ty x f=>exact Z9f hT hH ha rfl h
 | indexAddr ty x i=>exact Ul hT hH ha rfl h
 | index ty x i=>exact Zac hT hH ha rfl h
 | binOp op ty x y ty'=>exact Zdh hT hH ha rfl h
 | unOp op ty x =>
  cases op with
  | not=>exact Zfa hH ha rfl h
  | _=>exact False.elim h
 | extract x i=>exact Z28 hH ha rfl h
 | nilCheck x=>exact Xp hH ha rfl h
 | sliceToArrayPointer ty x=>exact Zfn hT hH ha rfl h
 | makeFunc fn p q =>
  cases fn with
  | func f=>exact Y9 hH ha rfl h
  | _=>exact False.elim h
 | lookup ty x i ok=>exact Z4c hT s (B rfl) hH ha rfl h
 | build ty parts=>exact Z8u hT hH ha rfl h
 | slice ty x lo hi mx =>
  cases mx with
  | some mx =>
   unfold Jr at h;dsimp only at h;cases lo with
   | some lo=>exact False.elim h
   | none =>
    cases hi with
    | none=>exact False.elim h
    | some hx=>exact Z64 hT hH ha rfl h
  | none=>exact Z8s hT hH ha rfl j h
 | convert src dst x =>
  unfold Jr at h;unfold isQ at j;dsimp only at h j;split at h
  .next p q C A =>
   rw[C,A] at j;dsimp only at j;split at h
   .next e sz D E=>rw[D,E] at j;cases j
   .exact Zb0 hT (B rfl) hH ha rfl C A h
  .exact h.elim
 | call c =>
  obtain⟨callee,args,argTypes⟩:=c;cases callee with
  | builtin b =>
   cases b with
   | len =>
    obtain⟨args⟩:=args;obtain⟨argTypes⟩:=argTypes;unfold Jr at h;dsimp only at h;split at h
    .next x ty =>
     split at h
     .next z=>exact Zca hH ha ((hT _ _ z).str rfl) rfl h
     .next e z=>exact Zbw hH ha ((hT _ _ z).elem _ _ rfl).1 rfl h
     .next str e z =>
      refine Zd8 hT s (B ?_) hH ha z rfl rfl h;show N5 (Ze9 tb) [ty]=true;unfold N5 Ze9 Qi;rw[z];rfl
     .exact h.elim
    .exact h.elim
   | max =>
    obtain⟨args⟩:=args;unfold Jr at h;dsimp only at h;split at h
    .exact Zf4 hH ha rfl h
    .exact h.elim
   | min =>
    obtain⟨args⟩:=args;unfold Jr at h;dsimp only at h;split at h
    .exact Zer hH ha rfl h
    .exact h.elim
   | _=>cases j
  | _=>cases j
 | _=>cases j
def Z2n (o:Oper):Bool:=match o.op with
 | .call c=>match c.callee with
  | .value _=>true
  | _=>false
 | _=>false
theorem Z1o (hT:∀t i,look t tb=some i->TIok P t i)(C:Z2n o=true->mo=.new)(j:isQ tb o=false)(B:isL tb o=false)(h:Jr P tb mo o t own V.n K)(hH:Has I V own w)(ha:ARep N I V a t)(hd:∀i,o.dst=some i->i < N)(u:NxtB N own I V w K next):o.wp P a w next Q:=by
 obtain⟨dst,op,type,pos,after,guard⟩:=o;cases op with
 | assign x =>
  unfold Jr at h;unfold isQ at j;dsimp only at h j;split at h
  .split at h
   .next e sz _ _ B=>exact Zdu u hH ha hd ((hT _ _ B).elem _ _ rfl).2.choose_spec.choose_spec.2.2.2.2.1 rfl h
   .exact Sg (g:=.nl) u ha hd (by rfl) (.refl hH) (ab _ _) (.refl _) (.of_v .nl) h
  .next O =>
   split at j
   .exact du rfl (O · )
   .cases j
 | convert src dst x =>
  unfold Jr at h;unfold isQ at j;dsimp only at h j;split at h
  .next p q T F =>
   rw[T,F] at j;dsimp only at j;split at h
   .next e sz s D =>
    split at h
    .next Z=>exact Z43 hH ha hd u rfl ((hT _ _ T).str s) ((hT _ _ F).elem _ _ D).1 (TIok.u8 hT Z) h
    .exact h.elim
   .next H =>
    split at j
    .next e s D=>exact du D (λD=>(by obtain⟨e,sz⟩:=e;exact H e sz s D))
    .cases j
  .exact h.elim
 | alloc ty=>exact Z6f hT u hH ha hd rfl h
 | box ty x=>exact Zdd u hH ha hd rfl h
 | slice ty z lo hi mx =>
  cases mx with
  | some mx =>
   unfold isQ at j;unfold Jr at h;dsimp only at j h;cases lo with
   | some lo=>exact False.elim h
   | none =>
    cases hi with
    | none=>exact False.elim h
    | some O =>
     split at j
     .next B=>rw[B] at h;exact False.elim h
     .cases j
  | none =>
   unfold isQ at j;unfold Jr at h;dsimp only at j h;split at j
   .next e1 sz e2 e3 e4 B =>
    rw[B] at h;split at h
    .next s=>cases s
    .next s=>cases s
    .next s=>cases s;exact Z46 hT hH ha hd u B rfl h
    .next s=>cases s;exact Z4k hT hH ha hd u B rfl h
    .exact h.elim
   .cases j
 | buildSlice ty len parts=>exact P1 hT u hH ha hd rfl h
 | makeSlice ty len cap=>exact Sb hT u hH ha hd rfl h
 | call c =>
  obtain⟨callee,args,argTypes⟩:=c;cases callee with
  | builtin b=>cases b<;>first | (cases j;done) | (cases B;done) | exact False.elim h
  | value f =>
   have C:=C rfl;subst C;refine Ol (fo:=f) rfl rfl hH ha hd h λt own' I' V' a' w' E A W J=>?_;obtain⟨ks,X,m2,Y,m4⟩:=W rfl;cases ks with
   | cons k ks=>cases X
   | nil=>exact u _ _ _ _ _ _ E A ⟨A.fro.os,A.fro.tape,A.fro.output,A.fro.size,λb M=>Y b M λk E=>by simp at E⟩ (λk E b M=>(m4 k E b M).elim id λh=>(h.1 rfl).elim) J
  | invoke r m=>exact False.elim h
 | makeMap ty r =>
  cases r with
  | some r=>exact False.elim h
  | none=>exact X1 hH ha hd u rfl h
 | range ty x=>exact False.elim h
 | _=>first | (cases j;done) | (cases B;done) | exact False.elim h
theorem Z6x (hT:∀t i,look t tb=some i->TIok P t i)(z:isL tb o=true)(h:Jr P tb mo o t own V.n K)(p:Since own0 I0 V0 w0 own I V w)(ha:ARep N I V a t)(hd:∀i,o.dst=some i->i < N)(q:Nxt N own0 I0 V0 w0 K next):o.wp P a w next Q:=by
 obtain⟨dst,op,type,pos,after,guard⟩:=o;cases op with
 | store ty x y=>exact Z4j hT q p ha hd rfl h
 | mapUpdate ty m k x=>exact Z1g hT p q ha hd (.inl rfl) h
 | insert ty m k x=>exact Z1g hT p q ha hd (.inr rfl) h
 | next x b =>
  cases b with
  | true=>exact False.elim h
  | false=>exact False.elim h
 | entry x=>exact False.elim h
 | call c =>
  obtain⟨callee,args,argTypes⟩:=c;cases callee with
  | builtin b =>
   cases b with
   | append =>
    obtain⟨args⟩:=args;obtain⟨argTypes⟩:=argTypes;unfold Jr at h;dsimp only at h;split at h
    .next x y ty B =>
     split at h
     .next e sz _ _ C j =>
      have C:=aw C;subst C;exact Yp hT q p ha hd j rfl h
     .next j =>
      split at h
      .next s u =>
       have s:=aw s;subst s;exact Pb hT q p ha hd j rfl u rfl rfl h
      .exact h.elim
     .exact h.elim
    .exact h.elim
   | copy =>
    obtain⟨args⟩:=args;obtain⟨argTypes⟩:=argTypes;unfold Jr at h;dsimp only at h;split at h
    .next x y ty B =>
     split at h
     .next j=>exact Zad hT q p ha hd j rfl h
     .exact h.elim
    .exact h.elim
   | delete =>
    exact False.elim h
   | _=>cases z
  | value f=>exact Ol (fo:=f) rfl rfl p.has ha hd h λt own' I' V' E w' D u _ A=>q _ _ _ _ _ _ D (p.trans u) A
  | _=>cases z
 | _=>cases z
theorem Z34 (hT:∀t i,look t tb=some i->TIok P t i)(B:vsB XL t o=true)(h:Jr P tb (.vs XL) o t own V.n K)(hH:Has I V own w)(hkX:∀k∈XL,k < V.n)(ha:ARep N I V a t)(hd:∀i,o.dst=some i->i < N)(hK:∀t own' I' V' X w',K t own' V'.n->Later own I V w own' I' V' w'->Agree V XL w w'->(∀k∈XL,∀b,V'.f k b->b < w.heap.size->∃k'∈XL,V.f k' b)->ARep N I' V' X t->next X w'):o.wp P a w next Q:=by
 obtain⟨dst,op,type,pos,after,guard⟩:=o;have hv0:=B;unfold vsB at B;cases guard with
 | some g=>cases B
 | none =>
 cases op with
 | store ty x z =>
  cases x with
  | tmp d =>
   dsimp only at B;cases hl:look d t with
   | none=>rw[hl] at B;cases B
   | some g =>
    rw[hl] at B;cases g with
    | ptr k off =>
     dsimp only at B;have hm:=Ca.1 B;obtain⟨y,hy,Z⟩:=ha.get d _ hl;obtain⟨hkn,rfl⟩:=C9 Z;have he:a.eval (.tmp d)=.pointer (some ⟨V.b k,off,none⟩):=by simp[Act.eval,hy]
     unfold Jr at h;dsimp only at h;unfold ev at h;dsimp only at h;rw[hl] at h;dsimp only at h;obtain⟨u,s,hu⟩:=B7 (K:=λu=>G9 own u λcs=>match look ty tb with
      | some i=>Zbx i.zero.length own cs (match look k own with
       | some (.blk cells J)=>ovr i.zero.length cells off cs λD=>K (put dst .un t) ((k,.blk D J)::own) V.n
       | some (.lnk j)=>match true,look j own,cs with
        | false,some (.slc C e 1),[c]=>Eu (off < C.length/\Nm c=true) (K (put dst .un t) ((j,.slc (C.set off [c]) e 1)::own) V.n)
        | _,_,_=>False
       | _=>False)
      | none=>False) h ha hH
     obtain⟨cs,s,hp,-⟩:=He s hu hH;obtain⟨ds,hds⟩:∃ds,(a.eval z).cells.toList=ds:=⟨_,rfl⟩;rw[hds] at hp;cases hty:look ty tb with
     | none=>rw[hty] at s;exact s.elim
     | some i =>
      rw[hty] at s;obtain⟨Y,hcl0,hcn,p,-⟩:=Z0h s;clear s;cases hr:look k own with
      | none=>rw[hr] at p;exact p.elim
      | some r0 =>
       rw[hr] at p;cases r0 with
       | blk cells J =>
        obtain⟨us,k1,k2,-⟩:=Oi hH hr;obtain⟨D,k3,k4,k5⟩:=Rj p k2 hp;have hone:=Z7a hH Y hp;have hlen:ds.length=i.zero.length:=hp.1.symm.trans hcl0;have hdn:ds≠[]:=λe=>by have:=hp.1;rw[e] at this;exact hcn (ay (by simpa using this))
        have hrun:=If (P:=P) (w:=w) (hT ty i hty).size hds hlen k1 (k5 hdn:off+ds.length<=us.length) hone;have E:=Dm (w':=w.setRow (V.b k) _) (r:=.blk D J) hH hr rfl rfl rfl (by simp[World.setRow]) (λb F=>setRow_other w _ b _ (λe=>F (((hH.each k _ hr).1 b).2 e))) ⟨(hH.each k _ hr).1,_,setRow_heap w _ us.toArray _ J _ k1,k4⟩;unfold Oper.wp;have hex:(execOp a.eval (⟨dst,.store ty (.tmp d) z,type,pos,after,none⟩:Oper)).run P w=.ok .skip (w.setRow (V.b k) (List.take off us++ds++List.drop (off+ds.length) us).toArray):=by simp only[execOp,Sem.run_bind,he,hrun,Result.andThen_ok,Sem.run_pure]
        rw[hex];exact hK _ _ _ _ _ _ k3 E (λb hlt hX=>setRow_other w _ b _ (λe=>hX k hm (((hH.each k _ hr).1 b).2 e))) (λk s b F _=>⟨k,s,F⟩) ((ha.mono E.fro.mono E.va).put hd (.of_v .un))
       | _=>exact p.elim
    | _=>cases B
  | _=>cases B
 | call cl =>
  cases H:cl.callee with
  | value f =>
   refine Ol (mo:=.vs XL) (K:=K) (fo:=f) rfl H hH ha hd ?_ λt own' I' V' X w' s E hm O=>?_
   .have h:=h;unfold Jr at h;dsimp only at h;rw[H] at h;exact h
   .obtain⟨ks,m1,m2,m3,m4⟩:=hm rfl;have M:∀k∈ks,k∈XL:=λk s=>Ca.1 (Ao (show Bp (λk=>Fs k XL) ks=true from m1) k s);refine hK _ _ _ _ _ _ s E (λb F hX=>m3 b F λk s=>hX k (M k s)) (λk s b F hlt=>?_) O;rcases m4 k (hkX k s) b F with Y | ⟨-,⟨k',Y,h2⟩ | Y⟩
    .exact⟨k,s,Y⟩
    .exact⟨k',M k' Y,h2⟩
    .omega
  | builtin bt =>
   obtain⟨callee,⟨args⟩,⟨argTypes⟩⟩:=cl;have H:callee=.builtin bt:=H;subst H;cases bt with
   | append =>
    dsimp only at B;unfold Jr at h;dsimp only at h;split at h
    .next x y ty J =>
     cases x with
     | tmp d =>
      dsimp only at B;cases hl:look d t with
      | none=>rw[hl] at B;cases B
      | some g =>
       rw[hl] at B;obtain⟨z,hz,Z⟩:=ha.get d _ hl;have Z:TRep I V g (a.eval (.tmp d)):=by
        have:a.eval (.tmp d)=z:=by simp[Act.eval,hz]
        rw[this];exact Z
       have hKV:∀t own' I' V' X w',K t own' V'.n->Later own I V w own' I' V' w'->Z9z V w w' g->V.kp V'->ARep N I' V' X t->next X w':=λt own' I' V' X w' s E hf hkp O=>by
        refine hK _ _ _ _ _ _ s E (λb F hX=>?_) (λk s b F _=>⟨k,s,hkp k (hkX k s) b F⟩) O;cases g with
        | osl k=>exact hf b F (hX k (Ca.1 B))
        | nl=>exact hf b F
        | _=>cases B
       have evd:∀{K':G->Prop},ev t own (.tmp d) K'->K' g\/∃C,K' (.sl C):=λ{K'} h=>by
        unfold ev at h;dsimp only at h;rw[hl] at h;cases g with
        | osl k =>
         dsimp only at h;split at h
         .exact .inr ⟨_,h⟩
         .exact .inl h
        | nl=>exact .inl h
        | _=>cases B
       split at h
       .next e sz _ _ F T =>
        have F:=aw F;subst F;rcases evd h with h | ⟨C,h⟩
        .exact O4 (g:=g) hT hH ha hd hKV T rfl Z h
        .obtain⟨q,p,hq⟩:=B7 h ha hH;obtain⟨new,A,c,rs,s,-⟩:=V6 p hq hH;exact s.elim
       .next T =>
        split at h
        .next W E =>
         have W:=aw W;subst W;rcases evd h with h | ⟨C,h⟩
         .exact Hv (g:=g) hT hH ha hd hKV T rfl E rfl rfl Z h
         .obtain⟨q,p,hq⟩:=B7 h ha hH;unfold Zbv at p;split at p
          .exact p.elim
          .exact p.elim
        .exact h.elim
       .exact h.elim
     | _=>cases B
    .exact h.elim
   | _=>cases B
  | _=>rw[show vsB XL t ⟨dst,.call cl,type,pos,after,none⟩=false from ?_] at hv0<;>first | cases hv0 | (unfold vsB;dsimp only;rw[H])
 | _=>cases B
theorem Z9k (hT:∀t i,look t tb=some i->TIok P t i)(h:Jr P tb .row o t own V.n K)(b:Since own0 I0 V0 w0 own I V w)(ha:ARep N I V a t)(hd:∀i,o.dst=some i->i < N)(c:Nxt N own0 I0 V0 w0 K next):o.wp P a w next Q:=by
 cases hq:isQ tb o with
 | true=>exact(R0 (S:=λu=>u=w) (mo:=.row) hT (λk e=>by simp[Mo.xl] at e) (λ_ u s=>by subst s;exact λ_ _ _=>rfl) hq h b.has ha).wp rfl c b ha hd
 | false =>
  cases hl:isL tb o with
  | true=>exact Z6x hT hl h b ha hd c
  | false =>
   cases hc:Z2n o with
   | false=>exact Z1o hT (λh=>by rw[hc] at h;cases h) hq hl h b.has ha hd (NxtB.of c b)
   | true =>
    obtain⟨dst,op,type,pos,after,guard⟩:=o;cases op with
    | call cl =>
     obtain⟨callee,args,q⟩:=cl;cases callee with
     | value f=>exact Ol (fo:=f) rfl rfl b.has ha hd h λt own' I' V' z w' e j _ p=>c _ _ _ _ _ _ e (b.trans j) p
     | _=>cases hc
    | _=>cases hc
end
section
variable {P:Program} {tb:List (Nat × TI)} {N n:Nat} {I I' I0:Imm} {V V' V0:Va} {a:Act} {t:Ts} {own own' own0:Os} {w w' w0:World} {g:G} {y:Value} {d:Option Tmp}
variable {K:Ts->Os->Nat->Prop} {next:Act->World->Prop} {Q:Exit->Act->World->Prop} {o:Oper} {ops:Array Oper} {rest:List Oper}
theorem ARep.redo (h:ARep N I V a t){i:Nat}{c:G}{x:Value}(p:a.tmps[i]?=some x)(q:TRep I V c x):ARep N I V a ((i,c)::t) :=
 ⟨h.defers,h.size,λj g b=>by
  rw[Af] at b;split at b
  .next e=>subst e;cases b;exact⟨x,p,q⟩
  .exact h.get j g b⟩
theorem Gl {mo:Mo}(h:sxG P tb mo ops.toList o t own n K)(ha:ARep N I V a t) :
  ∃t',ARep N I V a t'/\((Region.wanted o (yielded ops a.tmps)=true/\Jr P tb mo o t' own n K)\/(Region.wanted o (yielded ops a.tmps)=false/\K (put o.dst .un t') own n)):=by
 unfold sxG at h;split at h
 .next B=>exact⟨t,ha,.inl ⟨G4 B,h⟩⟩
 .next j c B =>
  rw[Ea,Array.getElem?_toList] at h;have q:Region.wanted o (yielded ops a.tmps)=(yielded ops a.tmps j==some c):=by unfold Region.wanted;rw[B]
  cases hd:(ops[j]?).bind (·.dst) with
  | none =>
   rw[hd] at h;exact⟨t,ha,.inr ⟨by rw[q];simp[yielded,hd],h⟩⟩
  | some d =>
   rw[hd] at h;dsimp only at h;have s:∀{x},a.tmps[d]?=some x->yielded ops a.tmps j=match x with | .bool b=>some b | _=>none:=λp=>by
    simp only[yielded,hd,Option.bind_some,p]
    rename_i x
    cases x<;>rfl
   cases hl:look d t with
   | none=>rw[hl] at h;exact h.elim
   | some g =>
    obtain⟨x,p,hr⟩:=ha.get d g hl;rw[hl] at h;cases g with
    | tt =>
     cases(show VRep I .tt x from hr);dsimp only at h;cases c with
     | true=>exact⟨t,ha,.inl ⟨by rw[q,s p];rfl,h⟩⟩
     | false=>exact⟨t,ha,.inr ⟨by rw[q,s p];rfl,h⟩⟩
    | ff =>
     cases(show VRep I .ff x from hr);dsimp only at h;cases c with
     | true=>exact⟨t,ha,.inr ⟨by rw[q,s p];rfl,h⟩⟩
     | false=>exact⟨t,ha,.inl ⟨by rw[q,s p];rfl,h⟩⟩
    | un =>
     cases(show VRep I .un x from hr);exact⟨t,ha,.inr ⟨by rw[q,s p];cases c<;>rfl,h⟩⟩
    | v z =>
     have e:=B0 hr;subst e;cases x with
     | bool b =>
      dsimp only at h;cases c with
      | true =>
       obtain⟨u,A⟩:=h;cases b with
       | true=>exact⟨_,ha.redo p (.of_v .tt),.inl ⟨by rw[q,s p];rfl,u rfl⟩⟩
       | false=>exact⟨_,ha.redo p (.of_v .ff),.inr ⟨by rw[q,s p];rfl,A rfl⟩⟩
      | false =>
       obtain⟨u,A⟩:=h;cases b with
       | true=>exact⟨_,ha.redo p (.of_v .tt),.inr ⟨by rw[q,s p];rfl,u rfl⟩⟩
       | false=>exact⟨_,ha.redo p (.of_v .ff),.inl ⟨by rw[q,s p];rfl,A rfl⟩⟩
     | _=>exact h.elim
    | _=>exact h.elim
theorem Z1k (hT:∀t i,look t tb=some i->TIok P t i)(p:Nxt N own0 I0 V0 w0 K (λa w=>Q .normal a w)):∀{rest:List Oper} {t:Ts} {own:Os} {I:Imm} {V:Va} {a:Act} {w:World},sxO P tb ops.toList rest t own V.n K->Since own0 I0 V0 w0 own I V w->ARep N I V a t->(∀o∈rest,∀i,o.dst=some i->i < N)->wpList P ops Q rest a w
 | [],t,own,I,V,a,w,h,hL,ha,_=>p _ _ _ _ _ _ h hL ha
 | o::rest,t,own,I,V,a,w,h,hL,ha,hd=>by
  have e:=hd o (by simp);have b:∀o∈rest,∀i,o.dst=some i->i < N:=λo u=>hd o (by simp[u]);obtain⟨t',c,h⟩:=Gl h ha;rcases h with⟨j,h⟩ | ⟨j,h⟩
  .unfold wpList;rw[dt j];exact .inl (Z9k hT h hL c e λt own I V a w s z q=>Z1k hT p s z q b)
  .unfold wpList;rw[dq (by rw[j];exact Bool.false_ne_true)];exact Z1k hT p h hL (c.put e (.of_v .un)) b
theorem Z8h (l:List Bool)(i:Nat):Zay l i=l.toArray.getD i false:=by unfold Zay;rw[Ea];cases h:l[i]?<;>simp[h]
theorem Hz (l:List Bool)(i:Nat):(X0 l i).toArray=l.toArray.setIfInBounds i true:=by
 have:X0 l i=l.set i true:=by
  induction l generalizing i with
  | nil=>simp[X0]
  | cons b l ih=>cases i<;>simp[X0,ih]
 rw[this];simp
theorem Vf (l:List Bool)(es:List Edge):Ge l es=true↔∀e∈es,Region.binds .any e=true->l.toArray.getD e.on false=true:=by
 induction es with
 | nil=>simp[Ge]
 | cons e es ih =>
  unfold Ge;rw[Z8h];constructor
  .intro h p b j;cases c:(!Region.binds .any e||l.toArray.getD e.on false) with
   | false=>rw[c] at h;cases h
   | true =>
    rw[c] at h;rcases bq.1 b with rfl | b
    .rw[j,Bool.not_true,Bool.false_or] at c;exact c
    .exact ih.1 h p b j
  .intro h;have c:(!Region.binds .any e||l.toArray.getD e.on false)=true:=by
    cases hb:Region.binds .any e with
    | false=>rfl
    | true=>rw[h e (by simp) hb];rfl
   rw[c];exact ih.2 λp b=>h p (by simp[b])
theorem Z2 (l:List Bool):∀(os:List Oper) (c:List Bool) (k i:Nat),i∈rdy l os c k↔∃j o,i=k+j/\os[j]?=some o/\c[j]?=some false/\Ge l o.after.toList=true
 | [],c,k,i=>by simp[rdy]
 | o::os,[],k,i=>by simp[rdy]
 | o::os,b::c,k,i=>by
  have p:=Z2 l os c (k+1) i;have key:(∃j h,i=k+j/\(o::os)[j]?=some h/\(b::c)[j]?=some false/\Ge l h.after.toList=true)↔((i=k/\b=false/\Ge l o.after.toList=true)\/∃j h,i=k+1+j/\os[j]?=some h/\c[j]?=some false/\Ge l h.after.toList=true):=by
   constructor
   .rintro⟨j,h,e,h1,h2,h3⟩;cases j with
    | zero=>simp at h1 h2;subst h1 h2;exact .inl ⟨by omega,rfl,h3⟩
    | succ j=>exact .inr ⟨j,h,by omega,by simpa using h1,by simpa using h2,h3⟩
   .rintro(⟨e,h1,h2⟩ | ⟨j,h,e,h1,h2,h3⟩)
    .exact⟨0,o,by omega,by simp,by simp[h1],h2⟩
    .exact⟨j+1,h,by omega,by simpa using h1,by simpa using h2,h3⟩
  rw[key,<-p];show i∈(bif (!b&&Ge l o.after.toList) then k::rdy l os c (k+1) else rdy l os c (k+1))↔_;cases hb:b<;>cases he:Ge l o.after.toList<;>simp
theorem Gv {l:List Bool}(h:l.length=ops.size)(i:Nat):i∈Region.ready .any ops l.toArray↔i∈rdy l ops.toList l 0:=by
 rw[mem_ready,Z2];constructor
 .rintro⟨b,o,h2,h3⟩;have p:=(bz.1 h2).1;refine⟨i,o,by omega,by simpa using h2,?_,(Vf l _).2 λe c=>h3 e (by simpa using c)⟩;have:i < l.length:=by omega
  simp[this] at b;simp[this,b]
 .rintro⟨j,o,e,b,h2,h3⟩;obtain rfl:i=j:=by omega
  exact⟨by simp[h2],o,by simpa using b,λe c=>(Vf l _).1 h3 e (by simpa using c)⟩
theorem Ki {e:List Nat}{ops:List Oper}:∀{rs:List Nat} {i:Nat},Mn tb e ops rs=some i->i∈rs/\∃o,ops[i]?=some o/\isQ tb o=true
 | [],i,h=>by cases h
 | j::rs,i,h=>by
  unfold Mn at h;rw[Ea] at h;cases ho:ops[j]? with
  | none =>
   rw[ho] at h;obtain⟨b,c⟩:=Ki h;exact⟨by simp[b],c⟩
  | some o =>
   rw[ho] at h;dsimp only at h;cases hq:(isQ tb o&&!Fs j e) with
   | true =>
    rw[hq] at h;cases h;rw[bd] at hq;exact⟨by simp,o,ho,hq.1⟩
   | false =>
    rw[hq] at h;obtain⟨b,c⟩:=Ki h;exact⟨by simp[b],c⟩
theorem Jy {ops:List Oper}:∀{rs:List Nat} {i:Nat},R6 tb ops rs=some i->i∈rs/\∃o,ops[i]?=some o/\Z8b tb o=true
 | [],i,h=>by cases h
 | j::rs,i,h=>by
  unfold R6 at h;rw[Ea] at h;cases ho:ops[j]? with
  | none =>
   rw[ho] at h;obtain⟨b,c⟩:=Jy h;exact⟨by simp[b],c⟩
  | some o =>
   rw[ho] at h;cases hq:Z8b tb o with
   | true=>dsimp only at h;rw[hq] at h;cases h;exact⟨by simp,o,ho,hq⟩
   | false =>
    dsimp only at h;rw[hq] at h;obtain⟨b,c⟩:=Jy h;exact⟨by simp[b],c⟩
theorem Z5g {ops:List Oper}{rs:List Nat}{i:Nat}(h:Zbc tb ops rs=some i):i∈rs/\∃o,ops[i]?=some o/\Z8b tb o=true:=by
 unfold Zbc at h;split at h
 .exact Jy h
 .cases h
def Mr (tb:List (Nat × TI))(b:List Nat)(ops:Array Oper)(late:List Nat):Nat->List Bool->Bool
 | 0,l=>(rdy l ops.toList l 0).isEmpty
 | fuel+1,l=>match Mn tb b ops.toList (rdy l ops.toList l 0) with
  | some i=>Region.free .any ops l.toArray i&&(match nth ops.toList i with | some o=>!isR tb o||Zb3 .any ops late i | none=>false)&&Mr tb b ops late fuel (X0 l i)
  | none=>match Zbc tb ops.toList (rdy l ops.toList l 0) with
   | some i=>Region.free .any ops l.toArray i&&Mr tb b ops late fuel (X0 l i)
   | none=>(rdy l ops.toList l 0).all λi=>Mr tb b ops late fuel (X0 l i)
theorem Ql {f:Nat->Prop}:∀{l:List Nat},Zdp f l->∀i∈l,f i
 | [],_,i,b=>by cases b
 | [j],h,i,b=>by rw[bx.1 b];exact h
 | j::k::l,h,i,b=>by
  rcases bq.1 b with rfl | b
  .exact h.1
  .exact Ql (l:=k::l) h.2 i b
theorem C6 (V:Va)(XL:List Nat)(w:World):Agree V XL w w:=λ_ _ _=>rfl
theorem Cq (V:Va)(XL:List Nat)(w:World):Zb5 (Agree V XL w):=λu _ s q b c p=>by
 have e:=s b c p;have j:b < u.heap.size:=by
  rcases Nat.lt_or_ge b u.heap.size with h | h
  .exact h
  .rw[Array.getElem?_eq_none h,am c] at e;cases e
 rw[q.block b j];exact e
theorem Zm {I:Imm}:∀{l:List G} {cs b:List Value},Yg l=some cs->l.length=b.length->(∀(j:Nat) g u,l[j]?=some g->b[j]?=some u->VRep I g u)->b=cs
 | [],cs,b,h,hl,_=>by cases h;exact ay hl.symm
 | g::l,cs,b,h,hl,hu=>by
  cases b with
  | nil=>simp at hl
  | cons u b =>
   cases g with
   | v x =>
    unfold Yg at h;cases hc:Yg l with
    | none=>rw[hc] at h;cases h
    | some cs' =>
     rw[hc] at h;cases h;have e:=hu 0 _ _ rfl rfl;have p:=Zm hc (by simpa using hl) λj g u q c=>hu (j+1) g u (by simpa using q) (by simpa using c);cases e;rw[p]
   | _=>cases h
theorem W4:∀{l:List G} {cs:List Value},Yg l=some cs->l.length=cs.length/\∀(I:Imm) (j:Nat) g u,l[j]?=some g->cs[j]?=some u->VRep I g u
 | [],cs,h=>by cases h;exact⟨rfl,λI j g u b=>by simp at b⟩
 | g::l,cs,h=>by
  cases g with
  | v x =>
   unfold Yg at h;cases hc:Yg l with
   | none=>rw[hc] at h;cases h
   | some cs' =>
    rw[hc] at h;cases h;obtain⟨e,p⟩:=W4 hc;refine⟨by simp[e],λI j g u b c=>?_⟩;cases j with
    | zero=>simp at b c;subst b c;exact .v _
    | succ j=>exact p I j g u (by simpa using b) (by simpa using c)
  | _=>cases h
theorem U4 {I:Imm}{g:G}{x y:Value}(h:Z9q g=some x)(b:VRep I g y):y=x:=by
 cases b with
 | v z=>cases h;rfl
 | agg l cs hl hh =>
  have h:(match Yg l with | some cs=>some (Value.agg cs.toArray) | none=>none)=some x:=h;cases hc:Yg l with
  | none=>rw[hc] at h;cases h
  | some cs'=>rw[hc] at h;cases h;rw[Zm hc hl hh]
 | _=>cases h
theorem Vp {g:G}{x:Value}(h:Z9q g=some x)(I:Imm):VRep I g x:=by
 cases g with
 | v z=>cases h;exact .v _
 | agg l =>
  have h:(match Yg l with | some cs=>some (Value.agg cs.toArray) | none=>none)=some x:=h;cases hc:Yg l with
  | none=>rw[hc] at h;cases h
  | some cs=>rw[hc] at h;cases h;obtain⟨b,c⟩:=W4 hc;exact .agg _ _ b (c I)
 | _=>cases h
theorem Z6v {g:G}{x y:Value}(h:Z9q (Z39 g)=some x)(b:TRep I V g y):y=x:=by
 cases g with
 | tt=>cases(show VRep I .tt y from b);cases h;rfl
 | ff=>cases(show VRep I .ff y from b);cases h;rfl
 | nl=>cases h
 | v z=>exact U4 h (show VRep I (.v z) y from b)
 | agg l=>exact U4 h (show VRep I (.agg l) y from b)
 | _=>cases h
theorem Z1s (ha:ARep N I V a t)(hH:Has I V own w):∀{l:List Operand} {K:List G->Prop},Zfu t own l K->∃gs,K gs/\gs.length=(l.map a.eval).length/\∀(I':Imm) (j:Nat) g u,gs[j]?=some g->(l.map a.eval)[j]?=some u->VRep I' g u
 | [],K,h=>⟨[],h,rfl,λI' j g u c=>by simp at c⟩
 | x::l,K,h=>by
  obtain⟨g,h,c⟩:=B7 h ha hH;cases hc:Z9q (Z39 g) with
  | none=>rw[hc] at h;exact h.elim
  | some z =>
   rw[hc] at h;obtain⟨gs,s,q,A⟩:=Z1s (K:=λgs=>K (Z39 g::gs)) ha hH (l:=l) h;have e:=Z6v hc c;refine⟨Z39 g::gs,s,by simpa using q,λI' j B u b p=>?_⟩;cases j with
   | zero=>simp at b p;subst b p;rw[e];exact Vp hc I'
   | succ j=>exact A I' j B u (by simpa using b) (by simpa using p)
theorem Z3u {ops:Array Oper}{K:Ts->Prop}(C:Z8b tb o=true)(ha:ARep N I V a t)(hH:Has I V own w)(h:Z9o P o t own K):∃g x,CallsTo P ops o x a/\Z9q g=some x/\K (put o.dst g t):=by
 unfold Z9o at h;split at h
 case h_2=>exact h.elim
 next c J =>
 split at h
 case h_2=>exact h.elim
 next f D =>
 obtain⟨gs,⟨g,x,A,E,T⟩,F,H⟩:=Z1s (K:=λgs=>Zd4 P f gs λg=>K (put o.dst g t)) ha hH h;have s:o.guard=none:=by
  unfold Z8b at C;split at C
  .next s _=>exact s
  .cases C
 refine⟨g,x,⟨G4 s,f,(c.args.toList.map a.eval).toArray,λu=>?_,λu=>?_⟩,A,T⟩
 .have p:a.eval (.func f)=.func (.func f) #[] #[]:=rfl;have e:∀l:Array Operand,(l.toList.map a.eval).toArray=l.map a.eval:=λl=>by cases l;simp
  obtain⟨callee,args,z⟩:=c;have D:callee=.value (.func f):=D;subst D;have X:∀ty,(do let d <-resolve a.eval ⟨.value (.func f),args,z⟩ ty;invoke d.target d.args:Sem Next).run P u=(callFunc f (args.toList.map a.eval).toArray).run P u:=λty=>by simp[resolve,Deferred.ofValue,p,invoke,e]
  have M:=(X o.type).trans (R7 E.1 u _);simpa only[execOp,J] using M
 .refine(E.2 (λ_ _=>none) u _ (λb o x h=>by cases h) ⟨F,λj O W a1 a2=>H _ j O W a1 a2⟩).mono λe w' ⟨y,q,I',e1,B,e3,e4,_,_,e7⟩=>?_;have B:q=g:=B;rw[B] at e4;have:y=x:=by
   cases g with
   | tup l=>cases A
   | _=>exact U4 A e4
  rw[e1,this];exact⟨rfl,e7⟩
theorem Ko {α:Type}(l:List Bool)(i:Nat)(K:List Bool->α):O8 l i K=K (X0 l i):=by
 induction l generalizing i K with
 | nil=>rfl
 | cons b l ih=>cases i<;>simp[O8,X0,ih]
theorem Z1t (k:Nat):∀(r:List Nat) (K:List Nat->Prop),Hs k r K->∃r',K r'
 | [],_,h=>⟨_,h⟩
 | j::l,K,h=>by
  unfold Hs at h;split at h
  .exact⟨_,h⟩
  .obtain⟨r',h⟩:=Z1t k l _ h;exact⟨_,h⟩
theorem Yx:∀(l:List Oper) (r:List Nat) (K:List Nat->Prop),Zcs l r K->∃r',K r'
 | [],_,_,h=>⟨_,h⟩
 | o::l,r,K,h=>by
  unfold Zcs at h;split at h
  .obtain⟨r',h⟩:=Z1t _ _ _ h;exact Yx l r' K h
  .exact Yx l r K h
theorem Z03:∀(l:Ts) (r:List Nat) (K:List Nat->Prop),Z87 l r K->∃r',K r'
 | [],_,_,h=>⟨_,h⟩
 | (i,g)::l,r,K,h=>by obtain⟨r',h⟩:=Z1t _ _ _ h;exact Z03 l r' K h
theorem Ny {α:Type}{i j:Nat}{g x:α}{r:List (Nat × α)}(h:look i ((j,g)::r)=some x):i=j/\g=x\/look i r=some x:=by
 unfold look at h;cases hb:Nat.beq i j with
 | true=>rw[hb] at h;exact .inl ⟨aw hb,cv h⟩
 | false=>rw[hb] at h;exact .inr h
theorem T6 (t:Ts):∀(l:List Nat) (b:Ts) (K:Ts->Prop),(∀i g,look i b=some g->look i t=some g)->Z2t t l b K->∃t',(∀i g,look i t'=some g->look i t=some g)/\K t'
 | [],_,_,ha,h=>⟨_,ha,h⟩
 | i::l,b,K,ha,h=>by
  unfold Z2t at h;split at h
  .next g e =>
   refine T6 t l _ K (λj x c=>?_) h;rcases Ny c with⟨rfl,rfl⟩ | c
   .exact e
   .exact ha _ _ c
  .exact T6 t l b K ha h
theorem T8 (w:Os):∀(n:Nat) (b:Os) (K:Os->Prop),(∀i g,look i b=some g->look i w=some g)->Z3z w n b K->∃w',(∀i g,look i w'=some g->look i w=some g)/\K w'
 | 0,_,_,ha,h=>⟨_,ha,h⟩
 | n+1,b,K,ha,h=>by
  have h:(match look n w with
   | some r=>Z3z w n ((n,r)::b) K
   | none=>Z3z w n b K):=h
  split at h
  .next g e =>
   refine T8 w n _ K (λj x c=>?_) h;rcases Ny c with⟨rfl,rfl⟩ | c
   .exact e
   .exact ha _ _ c
  .exact T8 w n b K ha h
theorem Since.sub (h:Since own0 I0 V0 w0 own I V w)(c:∀k r,look k own'=some r->look k own=some r):Since own0 I0 V0 w0 own' I V w :=
 ⟨⟨h.has.mem,λk r e=>h.has.num k r (c k r e),λk r e=>h.has.each k r (c k r e),λk r b e=>h.has.foot k r b (c k r e),λk j r r' b e p=>h.has.disj k j r r' b (c k r e) (c j r' p)⟩,
  ⟨h.fro.os,h.fro.tape,h.fro.output,h.fro.size,h.fro.blk,h.fro.mono,λk r b e=>h.fro.foot k r b (c k r e)⟩,h.n,h.bb,h.ss⟩
theorem Zf3 {next:Act->World->Prop}{u:List Oper}{K:Ts->Os->Nat->Prop}{c:(Ts->Os->Nat->Prop)->Prop}(e:Nxt N own0 I0 V0 w0 K next):∀{rs:List Nat},brK u t K c rs->∃j,Nxt N own0 I0 V0 w0 j next/\c j
 | [],h=>⟨K,e,h⟩
 | [_],h=>⟨K,e,h⟩
 | _::_::_,h=>by obtain⟨L,h⟩:=Yx _ _ _ h;obtain⟨L,h⟩:=Z03 _ _ _ h;refine⟨_,λt own I V a w b s ha=>?_,h⟩;obtain⟨t',p,b⟩:=T6 t L [] _ (λi g h=>by cases h) b;obtain⟨w',q,b⟩:=T8 own V.n [] _ (λi g h=>by cases h) b;exact e _ _ _ _ _ _ b (s.sub q) (ha.sub p)
theorem Nl {u:World}(h:Has I V own w)(c:Below w.heap.size w u):Later own I V w own I V u :=
 ⟨h.below c,⟨c.os,c.tape,c.output,c.size,λb e _=>⟨c.block b e,λ_=>rfl⟩,λ_ _ _ h=>h,λk r _ j p _=>⟨k,r,j,p⟩⟩,.refl _⟩
theorem Wa {XL O late:List Nat}(hT:∀t i,look t tb=some i->TIok P t i)(hQ:∀c d v a w,Q (.panic c) (a.put d v) w->Q (.panic c) a w)(E:Region.noSelect ops=true)(hd:∀o∈ops.toList,∀i,o.dst=some i->i < N) :
  ∀{K:Ts->Os->Nat->Prop} (_:Nxt N own0 I0 V0 w0 K (λa w=>Q .normal a w)) {fu:List Oper} {l:List Bool} {t:Ts} {own:Os} {I:Imm} {V:Va} {a:Act} {w:World},l.length=ops.size->F4 .any ops l.toArray->Mr tb O ops late fu.length l=true->sxD P tb XL O late ops.toList fu l t own V.n K->Since own0 I0 V0 w0 own I V w->ARep N I V a t->(∀k∈XL,k < V.n)->wpAnyG P .any ops Q late fu.length (Agree V XL w) l.toArray a w
 | K,hK,[],l,t,own,I,V,a,w,hl,hc,hok,h,hL,ha,hkX=>by intro u X;refine⟨?_,hK _ _ _ _ _ _ h (hL.trans (Nl hL.has X)) ha⟩;rw[List.length_nil] at hok;unfold Mr at hok;refine List.eq_nil_iff_forall_not_mem.2 λi W=>?_;rw[Gv hl,List.isEmpty_iff.1 hok] at W;cases W
 | K,hK,o0::fu,l,t,own,I,V,a,w,hl,hc,hok,h,hL,ha,hkX=>by
  rw[bm] at hok;show wpAnyG P .any ops Q late (fu.length+1) (Agree V XL w) l.toArray a w;have hl':∀i,(X0 l i).length=ops.size:=λi=>by have:=congrArg Array.size (Hz l i);simp at this;omega
  unfold Mr at hok;have h:Zfh P tb XL O late ops.toList o0 fu (sxD P tb XL O late ops.toList fu) l t own V.n K:=h;unfold Zfh at h;cases hf:Mn tb O ops.toList (rdy l ops.toList l 0) with
  | some i =>
   rw[hf] at h hok;dsimp only at h hok;simp only[Bool.and_eq_true] at hok;obtain⟨⟨k1,k2⟩,k3⟩:=hok;obtain⟨W,o,ho,hq⟩:=Ki hf;rw[Ea,ho] at h k2;dsimp only at h k2;cases hvb:Zdg own XL with
   | false=>rw[hvb] at h;exact h.elim
   | true =>
   rw[hvb] at h;dsimp only at h;have hXL:∀k∈(Mo.quiet XL).xl,∃r,look k own=some r:=λk e=>by
    have:=Ao hvb k e;split at this
    .next r hr=>exact⟨r,hr⟩
    .cases this
   have D:ops[i]?=some o:=by simpa using ho
   have hr:=(Gv hl i).2 W;have C:=hd o (ar ho);have Z:=Df hc hr;obtain⟨t',p,h⟩:=Gl h ha;have rest:∀{v g},TRep I V g v->(O8 l i λl=>sxD P tb XL O late ops.toList fu l (put o.dst g t') own V.n K)->wpAnyG P .any ops Q late fu.length (Agree V XL w) (l.toArray.setIfInBounds i true) (a.put o.dst v) w:=λhg e=>by rw[<-Hz];rw[Ko] at e;exact Wa hT hQ E hd hK (hl' i) (by rw[Hz];exact Z) k3 e hL (p.put C hg) hkX
   have finP:∀(v:Value) (g:G),YieldsIf P ops (λ_=>True) o v a->TRep I V g v->(O8 l i λl=>sxD P tb XL O late ops.toList fu l (put o.dst g t') own V.n K)->wpAnyG P .any ops Q late (fu.length+1) (Agree V XL w) l.toArray a w:=λv g hy hg e =>
    Pz D (Region.noSelect_spec E) (λc a w=>hQ c _ _ a w) fu.length _ l.toArray a w hc (Region.free_spec D k1) hr hy (C6 _ _ _) (Cq _ _ _) (rest hg e)
   rcases h with⟨J,h⟩ | ⟨J,h⟩
   .cases hR:isR tb o with
    | false =>
     obtain⟨g,y,e,hy,H⟩:=R0 (S:=λ_=>True) (mo:=.quiet XL) hT hXL (λh=>by rw[hR] at h;cases h) hq h hL.has p;exact finP y g (Z7d J λu _=>H u trivial) hy e
    | true =>
     obtain⟨g,y,e,hy,H⟩:=R0 (S:=Agree V XL w) (mo:=.quiet XL) hT hXL (λ_ u X=>X) hq h hL.has p;rw[hR] at k2;exact Qx D (Region.noSelect_spec E) (λc a w=>hQ c _ _ a w) (λj hj=>List.all_eq_true.1 k2 j hj) fu.length _ l.toArray a w hc (Region.free_spec D k1) hr (Z7d J λu X=>H u X) (C6 _ _ _) (Cq _ _ _) (rest hy e)
   .exact finP undef .un (Z91 J) (.of_v .un) h
  | none =>
   rw[hf] at h hok;dsimp only at h hok;cases hcs:Zbc tb ops.toList (rdy l ops.toList l 0) with
   | some i =>
    rw[hcs] at h hok;dsimp only at h hok;simp only[Bool.and_eq_true] at hok;obtain⟨k1,k3⟩:=hok;obtain⟨W,o,ho,hq⟩:=Z5g hcs;rw[Ea,ho] at h;dsimp only at h;have D:ops[i]?=some o:=by simpa using ho
    have hr:=(Gv hl i).2 W;have C:=hd o (ar ho);have Z:=Df hc hr;obtain⟨g,x,hcl,hcv,e⟩:=Z3u (ops:=ops) hq ha hL.has h;refine Qe D (Region.noSelect_spec E) (λc a w=>hQ c _ _ a w) fu.length _ l.toArray a w hc (Region.free_spec D k1) hr hcl (C6 _ _ _) (Cq _ _ _) ?_;rw[<-Hz];rw[Ko] at e;exact Wa hT hQ E hd hK (hl' i) (by rw[Hz];exact Z) k3 e hL (ha.put C (.of_v (Vp hcv I))) hkX
   | none =>
   rw[hcs] at h hok;dsimp only at h hok;intro B X;have hS0:∀v,Agree V XL B v->Agree V XL w v:=λv hv b hb hX=>(hv b (bc hb X.size) hX).trans (X.block b hb);replace hL:=hL.trans (Nl hL.has X);refine⟨λh0=>?_,λi W=>?_⟩
   .have:rdy l ops.toList l 0=[]:=List.eq_nil_iff_forall_not_mem.2 λi W=>by
     rw[<-Gv hl,h0] at W;cases W
    rw[this] at h;exact hK _ _ _ _ _ _ h hL ha
   .have Y:=(Gv hl i).1 W;have hk3:=List.all_eq_true.1 hok i Y;have Z:=Df hc W;obtain⟨-,o,D,-⟩:=mem_ready.1 W;have ho:ops.toList[i]?=some o:=by simpa using D
    have C:=hd o (ar ho);obtain⟨K,hK,h⟩:=(by
     cases hr:rdy l ops.toList l 0 with
     | nil=>rw[hr] at Y;cases Y
     | cons j rs=>rw[hr] at h Y;obtain⟨K',hK',h⟩:=Zf3 hK h;exact⟨K',hK',Ql h i Y⟩:∃K,Nxt N own0 I0 V0 w0 K (λa B=>Q .normal a B)/\match nth ops.toList i with
      | some o=>match isL tb o with
       | false=>sxG P tb .new ops.toList o t own V.n λt B n=>O8 l i λl=>sxD P tb XL O late ops.toList fu l t B n K
       | true=>match Fs i late with
        | true=>sxG P tb .late ops.toList o t own V.n λt B n=>O8 l i λl=>sxD P tb XL O late ops.toList fu l t B n K
        | false=>match vsG XL t o,Zdg own XL with
         | true,true=>sxG P tb (.vs XL) ops.toList o t own V.n λt B n=>O8 l i λl=>sxD P tb XL O late ops.toList fu l t B n K
         | _,_=>False
      | none=>False)
    rw[Ea,ho] at h;dsimp only at h;have z:∀{t own' I' V' a' M},(O8 l i λl=>sxD P tb XL O late ops.toList fu l t own' V'.n K)->Since own I V B own' I' V' M->ARep N I' V' a' t->F4 .any ops (l.toArray.setIfInBounds i true)->wpAnyG P .any ops Q late fu.length (Agree V' XL M) (l.toArray.setIfInBounds i true) a' M:=λe q F A=>by rw[<-Hz];rw[Ko] at e;exact Wa hT hQ E hd hK (hl' i) (by rw[Hz];exact Z) hk3 e (hL.tail q) F (λk e=>bc (hkX k e) q.n)
    have sub:∀{own' I' V' M},Later own I V B own' I' V' M->Agree V XL B M->(∀k∈XL,∀b,V'.f k b->b < B.heap.size->∃k'∈XL,V.f k' b)->∀u,Agree V' XL M u->Agree V XL w u:=λq hA hf u X=>hS0 u λb hb hX=>by
     rw[<-hA b hb hX];exact X b (bc hb q.fro.size) λk e hfb=>by obtain⟨k',h1,h2⟩:=hf k e b hfb hb;exact hX k' h1 h2
    refine wpOp_step D λK1 T=>?_;have skip:∀{t'},ARep N I V a t'->(O8 l i λl=>sxD P tb XL O late ops.toList fu l (put o.dst .un t') own V.n K)->K1 (a.put o.dst undef) B:=λp h=>T _ _ ⟨_,λ_=>hS0,C6 _ _ _,Cq _ _ _,λA=>z h (Later.refl hL.has).since (p.put C (.of_v .un)) A⟩;cases hli:isL tb o with
    | false =>
     rw[hli] at h;dsimp only at h;obtain⟨t',p,h⟩:=Gl h ha;rcases h with⟨J,h⟩ | ⟨J,h⟩
     .rw[dt J];cases hq:isQ tb o with
      | true =>
       obtain⟨g,y,e,hy,H⟩:=R0 (S:=λu=>u=B) (mo:=.new) hT (λk e=>by cases e) (λ_ u X=>by rw[X];exact C6 _ _ _) hq h hL.has p;have hop:∀{Q2:Act->World->Prop},Q2 (a.put o.dst y) B->o.wp P a B Q2 Q:=λ{Q2} h2=>by unfold Oper.wp;rw[H B rfl];exact h2
       exact hop (T _ _ ⟨_,λ_=>hS0,C6 _ _ _,Cq _ _ _,λA=>z e (Later.refl hL.has).since (p.put C hy) A⟩)
      | false =>
      exact Z1o (mo:=.new) hT (λ_=>rfl) hq hli h hL.has p C λt own I V a w1 e q hb hkp F=>T _ _ ⟨_,λ_=>sub q (λb hb' _=>hb.block b hb') (λk e b hf _=>⟨k,e,hkp k (hkX k e) b hf⟩),C6 _ _ _,Cq _ _ _,λA=>z e q.since F A⟩
     .rw[dq (by rw[J];exact Bool.false_ne_true)];exact skip p h
    | true =>
     rw[hli] at h;dsimp only at h;cases hm:Fs i late with
     | true =>
      rw[hm] at h;dsimp only at h;obtain⟨t',p,h⟩:=Gl h ha;rcases h with⟨J,h⟩ | ⟨J,h⟩
      .rw[dt J];exact Z6x (mo:=.late) (own0:=own) (I0:=I) (V0:=V) (w0:=B) hT hli h (Later.refl hL.has).since p C λt own I V a w1 e q F=>T _ _ ⟨_,λhn=>du (Ca.1 hm) hn,C6 _ _ _,Cq _ _ _,λA=>z e q F A⟩
      .rw[dq (by rw[J];exact Bool.false_ne_true)];exact skip p h
     | false =>
      rw[hm] at h;dsimp only at h;cases s:vsG XL t o with
      | false=>rw[s] at h;exact h.elim
      | true =>
       cases hvb:Zdg own XL with
       | false=>rw[s,hvb] at h;exact h.elim
       | true =>
       rw[s,hvb] at h;cases hgn:o.guard with
       | none =>
        have s:vsB XL t o=true:=by unfold vsG at s;rw[hgn] at s;exact s
        dsimp only at h;unfold sxG at h;rw[hgn] at h;rw[dt (G4 hgn)];exact Z34 hT s h hL.has hkX ha C λt own I V a w1 e q hA hf F=>T _ _ ⟨_,λ_=>sub q hA hf,C6 _ _ _,Cq _ _ _,λA=>z e q.since F A⟩
       | some gd =>
        dsimp only at h;obtain⟨t',p,h⟩:=Gl h ha;rcases h with⟨J,h⟩ | ⟨J,h⟩
        .rw[dt J];have hvs2:vsB XL t' {o with guard:=none}=true:=by
          unfold vsG at s;rw[hgn] at s;obtain⟨dst,op,type,pos,after,guard⟩:=o;cases op with
          | call cl =>
           dsimp only at s;cases hce:cl.callee with
           | value f=>unfold vsB;dsimp only;rw[hce]
           | _=>rw[hce] at s;cases s
          | _=>cases s
         have h2:Jr P tb (.vs XL) {o with guard:=none} t' own V.n λt B n=>O8 l i λl=>sxD P tb XL O late ops.toList fu l t B n K:=by obtain⟨dst,op,type,pos,after,guard⟩:=o;exact h
         have key:=Z34 (o:={o with guard:=none}) (Q:=Q) (K:=λt B n=>O8 l i λl=>sxD P tb XL O late ops.toList fu l t B n K) hT hvs2 h2 hL.has hkX p C λt own I V a w1 e q hA hf F=>T _ _ ⟨_,λ_=>sub q hA hf,C6 _ _ _,Cq _ _ _,λA=>z e q.since F A⟩;exact key
        .rw[dq (by rw[J];exact Bool.false_ne_true)];exact skip p h
end
theorem Rv {P:Program}{ops:Array Oper}{Q:Exit->Act->World->Prop}(Inv:Array Bool->Act->World->Prop)
  (p:∀c a w i,Inv c a w->i∈Region.ready .any ops c->wpOp P ops Q i (λu w'=>Inv (c.setIfInBounds i true) u w') a w)
  (q:∀c a w,Inv c a w->Region.ready .any ops c=[]->Q .normal a w) :
  ∀(j:Nat) (c:Array Bool) (a:Act) (w:World),c.toList.count false=j->Inv c a w->wpAny P .any ops Q j c a w
 | 0,c,a,w,hc,hi=>by
  have hr:Region.ready .any ops c=[]:=List.eq_nil_iff_forall_not_mem.2 λi h=>by
   have h:=(mem_ready.1 h).1;have:c.toList[i]?=some false:=by
    rw[Array.getElem?_toList];cases e:c[i]? with
    | none=>simp[Array.getD_eq_getD_getElem?,e] at h
    | some b=>simp[Array.getD_eq_getD_getElem?,e] at h;rw[h]
   have:=List.count_pos_iff.2 (ar this);omega
  exact⟨hr,q _ _ _ hi hr⟩
 | j+1,c,a,w,hc,hi=>by
  refine⟨q _ _ _ hi,λi hr=>?_⟩;refine wpOp_mono (λu w' h=>Rv Inv p q j _ u w' ?_ h) (p _ _ _ _ hi hr);have h:=(mem_ready.1 hr).1;have s:i < c.size:=by
   rcases Nat.lt_or_ge i c.size with z | z
   .exact z
   .simp[Array.getElem?_eq_none z] at h
  have A:c.toList[i]'(by simpa using s)=false:=by simpa [Array.getD_eq_getD_getElem?,Array.getElem?_eq_getElem s] using h
  rw[Array.toList_setIfInBounds,List.count_set (by simpa using s),A];rw[dt (by rfl),dq (by decide)];omega
theorem Zbk {P:Program}{o:Oper}{a:Act}{w:World}{next:Act->World->Prop}{Q:Exit->Act->World->Prop}(h:o.wp P a w next Q):o.wp P a w (λp w'=>next p w'/\∃v ds,p=({a with defers:=ds}:Act).put o.dst v) Q:=by
 unfold Oper.wp at *;generalize (execOp a.eval o).run P w=r at *;cases r with
 | ok n w' =>
  cases n<;>simp only[Oper.upon] at h⊢
  case value u=>exact⟨h,u,a.defers,rfl⟩
  case skip=>exact⟨h,undef,a.defers,rfl⟩
  case defer d=>exact⟨h,undef,d::a.defers,rfl⟩
  case enter f args =>
   refine Calls.mono h λe j b=>?_;cases e with
   | returned u=>exact⟨b,u,a.defers,rfl⟩
   | panicked c=>exact b
   | outgrown=>exact b
  case row row args=>exact Rows.mono h λu j b=>⟨b,u,a.defers,rfl⟩
 | halt x w' =>
  cases x<;>simp only[Oper.upon] at h⊢
  case panic u=>exact h
theorem Z5o {own:Os}{I I':Imm}{V V':Va}{w w':World}{c:List (List G)}{e sz:Nat}(M:∀k r,look k own=some r->k < V.n)(C:Later own I V w ((V.n,.slc c e sz)::own) I' V' w'):∃A V2,V2.n=V'.n/\Later own I V w own A V2 w'/\(I'.le A/\V'.le V2)/\∀y,CRep I' V' (.osl V.n) y->VRep A (.sl c) y:=by
 have z:look V.n ((V.n,R.slc c e sz)::own)=some (.slc c e sz):=by unfold look;rw[show Nat.beq V.n V.n=true from Nat.beq_refl _];rfl
 have u:∀(F:R) (l:Os),(∀k r,look k own=some r->look k l=some r)->∀k r,look k own=some r->look k ((V.n,F)::l)=some r:=λF l J k r h=>by
  have X:=M k r h;unfold look;cases e:Nat.beq k V.n with
  | true=>have:=aw e;omega
  | false=>exact J k r h
 obtain⟨D,B⟩:∃D,CRep I' V' (.osl V.n) D:=⟨V'.s V.n,C.has.num _ _ z,rfl⟩;obtain⟨Y,Z,A,V2,⟨rfl,rfl⟩,⟨O,-⟩,q,T⟩:=Di (K1:=λg o=>g=.sl c/\o=(V.n,.froz c sz)::(V.n,.slc c e sz)::own) (by unfold Z3g;dsimp only;rw[z];exact⟨rfl,rfl⟩) B C.has;have j:=C.trans q;have p:=u (.froz c sz) _ (u (.slc c e sz) own λ_ _ h=>h);refine⟨A,V2,O,⟨⟨j.has.mem,λk r h=>j.has.num k r (p k r h),λk r h=>j.has.each k r (p k r h),λk r b h=>j.has.foot k r b (p k r h),λk E r r' b h W=>j.has.disj k E r r' b (p k r h) (p E r' W)⟩,⟨j.fro.os,j.fro.tape,j.fro.output,j.fro.size,j.fro.blk,j.fro.mono,λk r b h=>j.fro.foot k r b (p k r h)⟩,j.va⟩,⟨q.fro.mono,q.va⟩,λy H=>?_⟩;rw[H.2,<-B.2];exact T
def Yk:List Oper->List G->Ts->Ts
 | o::l,g::gs,t=>Yk l gs (match o.dst with
  | some d=>(d,g)::t
  | none=>t)
 | _,_,t=>t
theorem Ry {P:Program}{tt:List (Nat × TI)}{own:Os}{n0:Nat}{K:Ts->Prop}:∀{l:List Oper} {t:Ts},sxI P tt own n0 l t K->∃gs,gs.length=l.length/\K (Yk l gs t)/\∀(i:Nat) o,l[i]?=some o->∃d g,o.dst=some d/\gs[i]?=some g/\∀n,n0<=n->Z9e P tt o (Yk (l.take i) (gs.take i) t) own n d g
 | [],t,h=>⟨[],rfl,h,λi o b=>by simp at b⟩
 | o::l,t,h=>by
  have h:Zfs P tt own n0 o l (sxI P tt own n0 l) t K:=h;unfold Zfs at h;split at h
  .exact h.elim
  next d hd =>
  obtain⟨g,j,p⟩:=h;obtain⟨gs,e,z,C⟩:=Ry p;refine⟨g::gs,by simp[e],?_,λi D b=>?_⟩
  .unfold Yk;rw[hd];exact z
  .cases i with
   | zero =>
    simp at b;subst b;exact⟨d,g,hd,rfl,j⟩
   | succ i =>
    obtain⟨s,A,q,u,c⟩:=C i D (by simpa using b);refine⟨s,A,q,by simpa using u,λn B=>?_⟩;have:=c n B;rw[List.take_succ_cons,List.take_succ_cons];unfold Yk;rw[hd];exact this
theorem Z00 {α:Type}{i j:Nat}{g:α}{t:List (Nat × α)}(h:i≠j):look i ((j,g)::t)=look i t:=by
 show(bif Nat.beq i j then some g else look i t)=look i t;cases e:Nat.beq i j with
 | true=>exact du (aw e) h
 | false=>rfl
theorem Tc {α:Type}{i:Nat}{g:α}{t:List (Nat × α)}:look i ((i,g)::t)=some g:=by unfold look;rw[show Nat.beq i i=true from Nat.beq_refl _];rfl
theorem Vv {s:Nat}:∀{l:List Oper} {gs:List G} {t:Ts},(∀o∈l,o.dst≠some s)->look s (Yk l gs t)=look s t
 | [],gs,t,_=>by unfold Yk;rfl
 | o::l,[],t,_=>by unfold Yk;rfl
 | o::l,g::gs,t,h=>by
  unfold Yk;rw[Vv λo b=>h o (List.mem_cons_of_mem _ b)];split
  .next d hd=>exact Z00 λe=>h o List.mem_cons_self (by rw[hd,e])
  .rfl
theorem Yw {d:Nat}{g:G}{o:Oper}:∀{l:List Oper} {gs:List G} {t:Ts} {j:Nat},(l.map (·.dst)).Nodup->l[j]?=some o->o.dst=some d->gs[j]?=some g->look d (Yk l gs t)=some g
 | [],gs,t,j,_,h,_,_=>by simp at h
 | o'::l,[],t,j,_,_,_,h=>by simp at h
 | o'::l,g'::gs,t,j,hn,h,hd,hg=>by
  rw[cw,List.nodup_cons] at hn;unfold Yk;cases j with
  | zero =>
   simp at h hg;subst h hg;rw[Vv λo b e=>hn.1 (by rw[hd,<-e];exact bj.2 ⟨o,b,rfl⟩),hd];exact Tc
  | succ j=>exact Yw hn.2 (by simpa using h) hd (by simpa using hg)
theorem J5 {s:Nat}{g:G}{t:Ts}:∀{l:List Nat},look s (Z8i t l)=some g->s∈l/\look s t=some g
 | [],h=>by unfold Z8i at h;cases h
 | i::l,h=>by
  unfold Z8i at h;split at h
  .next c b =>
   by_cases e:s=i
   .subst e;rw[Tc] at h;exact⟨List.mem_cons_self,by rw[b,h]⟩
   .rw[Z00 e] at h;exact⟨List.mem_cons_of_mem _ (J5 h).1,(J5 h).2⟩
  .exact⟨List.mem_cons_of_mem _ (J5 h).1,(J5 h).2⟩
def T4 (tt:List (Nat × TI)):List Oper->List Bool->Nat
 | o::l,b::bs=>T4 tt l bs+(bif b&&!isQ tt o then 1 else 0)
 | _,_=>0
theorem Z8 {tt:List (Nat × TI)}{o:Oper}:∀{l:List Oper} {b:List Bool} {i:Nat},l[i]?=some o->b[i]?=some false->T4 tt l (b.set i true)=T4 tt l b+(bif isQ tt o then 0 else 1)
 | [],b,i,h,_=>by simp at h
 | o'::l,[],i,_,h=>by simp at h
 | o'::l,b'::b,0,h,hb=>by simp at h hb;subst h hb;show T4 tt l b+(bif true&&!isQ tt o' then 1 else 0)=T4 tt l b+(bif false&&!isQ tt o' then 1 else 0)+_;cases isQ tt o'<;>rfl
 | o'::l,b'::b,i+1,h,hb=>by show T4 tt l (b.set i true)+_=T4 tt l b+_+_;rw[Z8 (l:=l) (by simpa using h) (by simpa using hb)];omega
structure Zbf (tt:List (Nat × TI))(N:Nat)(ops:Array Oper):Prop where
 grd:∀o∈ops.toList,o.guard=none
 nod:(ops.toList.map (·.dst)).Nodup
 lt:∀o∈ops.toList,∀d,o.dst=some d->d < N
 back:∀(i:Nat) o,ops[i]?=some o->∀e∈o.after,Region.binds .any e=true->e.on < i
 dep:∀(i:Nat) o s,ops[i]?=some o->s∈Ri o->(∀o'∈ops.toList,o'.dst≠some s)\/∃(j:Nat) (o':Oper),ops[j]?=some o'/\o'.dst=some s/\∃e∈o.after,Region.binds .any e=true/\e.on=j
 loc:∀o∈ops.toList,isQ tt o=false->isL tt o=false
theorem Z3t {tt:List (Nat × TI)}{N:Nat}{ops:Array Oper}(z:Zbf tt N ops){b:Array Bool}(A:b.size=ops.size)(hr:Region.ready .any ops b=[]):∀(i:Nat),i < ops.size->b.getD i true=true:=by
 intro i
 induction i using Nat.strongRecOn with
 | ind i ih =>
  intro h;cases e:b.getD i true with
  | true=>rfl
  | false =>
   have:i∈Region.ready .any ops b:=mem_ready.2 ⟨e,ops[i],am h,λc u j=>by
    have p:=z.back i _ (am h) c u j;have q:=ih c.on p (by omega);have s:c.on < b.size:=by omega
    simpa [Array.getD_eq_getD_getElem?,Array.getElem?_eq_getElem s] using q⟩
   rw[hr] at this;cases this
structure InvI (tt:List (Nat × TI))(N:Nat)(ops:Array Oper)(gs:List G)(t0:Ts)(own:Os)(I0:Imm)(V0:Va)(w0:World)(listed:Array Bool)(a:Act)(w:World)(I:Imm)(V:Va):Prop where
 size:listed.size=ops.size
 later:Later own I0 V0 w0 own I V w
 num:V.n=V0.n+T4 tt ops.toList listed.toList
 def':a.defers=[]
 tmps:a.tmps.size=N
 old:∀s g,look s t0=some g->(∀o∈ops.toList,o.dst≠some s)->∃x,a.tmps[s]?=some x/\TRep I V g x
 new:∀(j:Nat) o d g,listed[j]?=some true->ops[j]?=some o->o.dst=some d->gs[j]?=some g->∃x,a.tmps[d]?=some x/\TRep I V g x
theorem InvI.next {tt:List (Nat × TI)}{N:Nat}{ops:Array Oper}{gs:List G}{t0:Ts}{own:Os}{I0 I I':Imm}{V0 V V':Va}{w0 w w':World}{b:Array Bool}{a D:Act}{i d:Nat}{o:Oper}{g:G}{v:Value}(hD:Zbf tt N ops)(h:InvI tt N ops gs t0 own I0 V0 w0 b a w I V)(z:ops[i]?=some o)(hi:b.getD i true=false)(hd:o.dst=some d)(hg:gs[i]?=some g)(B:Later own I V w own I' V' w')(hn:V'.n=V.n+(bif isQ tt o then 0 else 1))(hv:TRep I' V' g v)(ha:D.tmps=(a.put (some d) v).tmps)(W:D.defers=[]):InvI tt N ops gs t0 own I0 V0 w0 (b.setIfInBounds i true) D w' I' V':=by
 have X:o∈ops.toList:=ar (by simpa using z);have C:i < ops.size:=(bz.1 z).1;have H:i < b.size:=by rw[h.size];exact C
 have J:b.toList[i]?=some false:=by rw[Array.getElem?_toList];simpa [Array.getD_eq_getD_getElem?,Array.getElem?_eq_getElem H] using hi
 have p:D.tmps=a.tmps.setIfInBounds d v:=ha;have T:=hD.lt o X d hd;refine⟨by simp[h.size],h.later.trans B,?_,W,by rw[p];simp[h.tmps],λs M hs A=>?_,λj o' Z M Y c q u=>?_⟩
 .rw[hn,h.num,Array.toList_setIfInBounds,Z8 (by simpa using z) J];omega
 .obtain⟨x,E,F⟩:=h.old s M hs A;refine⟨x,?_,F.mono B.fro.mono B.va⟩;rw[p,Array.getElem?_setIfInBounds_ne (λe=>A o X (by rw[hd,e]))];exact E
 .by_cases e:i=j
  .subst e;rw[z] at c;cases c;rw[hd] at q;cases q;rw[hg] at u;cases u;refine⟨v,?_,hv⟩;rw[p];simp[h.tmps,T]
  .rw[Array.getElem?_setIfInBounds_ne e] at Y;obtain⟨x,E,F⟩:=h.new j o' Z M Y c q u;refine⟨x,?_,F.mono B.fro.mono B.va⟩;have O:d≠Z:=λe'=>by
    have h3:(ops.toList.map (·.dst))[i]?=some (some d):=by simp[z,hd]
    have h4:(ops.toList.map (·.dst))[j]?=some (some d):=by simp[c,q,e']
    exact e ((List.getElem?_inj (by simpa using C) hD.nod).1 (h3.trans h4.symm))
   rw[p,Array.getElem?_setIfInBounds_ne O];exact E
theorem InvI.args {tt:List (Nat × TI)}{N:Nat}{ops:Array Oper}{gs:List G}{O:Ts}{own:Os}{I0 I:Imm}{V0 V:Va}{w0 w:World}{b:Array Bool}{a:Act}{i:Nat}{o:Oper}(D:Zbf tt N ops)(X:gs.length=ops.toList.length)(h:InvI tt N ops gs O own I0 V0 w0 b a w I V)(E:ops[i]?=some o)(hr:i∈Region.ready .any ops b):ARep N I V a (Z8i (Yk (ops.toList.take i) (gs.take i) O) (Ri o)):=by
 refine⟨h.def',h.tmps,λs g Y=>?_⟩;obtain⟨W,C⟩:=J5 Y;obtain⟨-,T,A,B⟩:=mem_ready.1 hr;rw[E] at A;cases A;rcases D.dep i o s E W with c | ⟨j,o',ho',hd',e,he,hb,rfl⟩
 .rw[Vv λT M=>c T (bn M)] at C;exact h.old s g C c
 .have z:=D.back i o E e he hb;have q:e.on < ops.size:=(bz.1 ho').1;have J:=B e he hb;have u:e.on < b.size:=by rw[h.size];exact q
  have H:b[e.on]?=some true:=by rw[am u];simpa [Array.getD_eq_getD_getElem?,Array.getElem?_eq_getElem u] using J
  obtain⟨F,p⟩:∃F,gs[e.on]?=some F:=⟨_,ap (by rw[X];simpa using q)⟩;have M:=Yw (l:=ops.toList.take i) (gs:=gs.take i) (t:=O) (j:=e.on) (o:=o') (d:=s) (g:=F) (by rw[dh];exact D.nod.sublist (List.take_sublist _ _)) (by rw[List.getElem?_take_of_lt z];simpa using ho') hd' (by rw[List.getElem?_take_of_lt z];exact p);rw[M] at C;cases C;exact h.new e.on o' s _ H ho' hd' p
theorem Zbn {P:Program}{tb:List (Nat × TI)}{N:Nat}{ops:Array Oper}{t0:Ts}{own:Os}{I0:Imm}{V0:Va}{w0:World}{a0:Act}{K:Ts->Prop}{Q:Exit->Act->World->Prop}(hT:∀t i,look t tb=some i->TIok P t i)(D:Zbf tb N ops)(h:sxI P tb own V0.n ops.toList t0 K)(hH:Has I0 V0 own w0)(M:ARep N I0 V0 a0 t0)
  (hQ:∀t I V a w,K t->V.n=V0.n+T4 tb ops.toList (List.replicate ops.size true)->Later own I0 V0 w0 own I V w->ARep N I V a t->Q .normal a w):wpAny P .any ops Q ops.size (Array.replicate ops.size false) a0 w0:=by
 obtain⟨gs,hl,hK,hs⟩:=Ry h;refine Rv (λc a w=>∃I V,InvI tb N ops gs t0 own I0 V0 w0 c a w I V) (λc a w i ⟨I,V,p⟩ hr=>?_) (λc a w ⟨I,V,p⟩ hr=>?_) _ _ _ _ (by simp) ⟨I0,V0,?_⟩
 .obtain⟨hli,o,Y,-⟩:=mem_ready.1 hr;have X:o∈ops.toList:=ar (by simpa using Y);obtain⟨d,g,hd,hg,q⟩:=hs i o (by simpa using Y);have q:=q V.n p.later.va.1;have hA:=p.args D hl Y hr;unfold Z9e at q;refine wpOp_step Y λK1 Z=>?_;rw[dt (G4 (D.grd o X))];cases T:isQ tb o with
  | true =>
   rw[T] at q;obtain⟨g',y,H,hy,hrun⟩:=R0 (S:=λu=>u=w) (mo:=.new) hT (λk H=>by cases H) (λ_ u hu=>by rw[hu];exact C6 _ _ _) T q p.later.has hA;rw[hd] at H;have H:look d ((d,g')::_)=some g:=H;rw[Tc] at H;cases H;unfold Oper.wp;rw[hrun w rfl];refine Z _ _ ⟨I,V,p.next D Y hli hd hg (.refl p.later.has) (by rw[T];rfl) hy (by rw[hd]) ?_⟩;rw[hd];exact p.def'
  | false =>
   rw[T] at q;have hb:=Z1o (P:=P) (mo:=.new) (Q:=Q) (next:=λa' w'=>∃t own' I' V',(∃B e sz,(V'.n=V.n+1/\own'=(V.n,.slc B e sz)::own)/\look d t=some (.osl V.n)/\g=.sl B)/\Later own I V w own' I' V' w'/\ARep N I' V' a' t) hT (λ_=>rfl) T (D.loc o X T) q p.later.has hA (D.lt o X) λt own' I' V' a' w' H W _ _ F=>⟨t,own',I',V',H,W,F⟩;refine Oper.wp_mono (λa' w' ⟨⟨t,own',I',V',⟨B,e,sz,⟨hn,hown⟩,hlk,hg2⟩,W,F⟩,v,ds,ha'⟩=>?_) (Zbk hb);subst hown hg2;obtain⟨I2,V2,hn2,hL3,hle,hv⟩:=Z5o p.later.has.num W;obtain⟨x,hx,hxr⟩:=F.get d _ hlk;have hxv:x=v:=by rw[ha',hd] at hx;have hdl:=D.lt o X d hd;simp[Act.put,p.tmps,hdl] at hx;exact hx.symm
   subst hxv;refine Z _ _ ⟨I2,V2,p.next D Y hli hd hg hL3 (by rw[hn2,hn,T];rfl) (hv _ hxr) (by rw[ha',hd];rfl) F.defers⟩
 .refine⟨by simp,.refl hH,?_,M.defers,M.size,λs g z _=>M.get s g z,λj o d g C=>?_⟩
  .have:∀(l:List Oper) n,T4 tb l (List.replicate n false)=0:=λl=>by
    induction l with
    | nil=>intro n;cases n<;>rfl
    | cons o l ih=>intro n;cases n with
     | zero=>rfl
     | succ n=>show T4 tb l (List.replicate n false)+_=0;rw[ih];rfl
   simp[this]
  .simp[Array.getElem?_replicate] at C
 .have hall:=Z3t D p.size hr;have J:c.toList=List.replicate ops.size true:=by
   rw[List.eq_replicate_iff];refine⟨by simp[p.size],λb hb=>?_⟩;obtain⟨j,C⟩:=List.mem_iff_getElem?.1 hb;have O:j < c.size:=by have:=(aq.1 C).1;simpa using this
   have:=hall j (by rw[<-p.size];exact O);rw[Array.getElem?_toList,am O] at C;cases C;simpa [Array.getD_eq_getD_getElem?,Array.getElem?_eq_getElem O] using this
  refine hQ _ I V a w hK (by rw[p.num,J]) p.later ⟨p.def',p.tmps,λs g z=>?_⟩;by_cases A:∀o∈ops.toList,o.dst≠some s
  .rw[Vv A] at z;exact p.old s g z A
  .obtain⟨o,A⟩:=Classical.not_forall.1 A;obtain⟨X,E⟩:=Classical.not_imp.1 A;have E:=Classical.not_not.1 E;obtain⟨j,C⟩:=List.mem_iff_getElem?.1 X;have hjo:j < ops.size:=by have:=(aq.1 C).1;simpa using this
   obtain⟨g',hg'⟩:∃g',gs[j]?=some g':=⟨_,ap (by rw[hl];simpa using hjo)⟩;rw[Yw D.nod C E hg'] at z;cases z;refine p.new j o s _ ?_ (by simpa using C) E hg';rw[<-Array.getElem?_toList,J];simp[hjo]
theorem Tx {tt:List (Nat × TI)}{K:Nat->Prop}:∀{l:List Oper} {n:Nat},Z79 tt l n K->K (n+T4 tt l (List.replicate l.length true))
 | [],_,h=>h
 | o::l,n,h=>by
  unfold Z79 at h;rw[bm,List.replicate_succ];show K (n+(T4 tt l _+(bif true&&!isQ tt o then 1 else 0)));split at h
  .next e =>
   rw[e];exact Tx h
  .next e =>
   rw[e];have:=Tx h;rw[show n+1+T4 tt l (List.replicate l.length true)=n+(T4 tt l (List.replicate l.length true)+1) by omega] at this;exact this
theorem J9 {s:Nat}:∀{l:List Oper} {i:Nat},Z73 l s i=none->∀o∈l,o.dst≠some s
 | [],_,_,o,h=>by cases h
 | o'::l,i,h,o,b=>by
  unfold Z73 at h;split at h
  .next d hd =>
   cases e:Nat.beq d s with
   | true=>rw[e] at h;cases h
   | false =>
    rw[e] at h;rcases bq.1 b with rfl | b
    .rw[hd];intro c;cases c;rw[Nat.beq_refl] at e;cases e
    .exact J9 h o b
  .next hd =>
   rcases bq.1 b with rfl | b
   .rw[hd];intro c;cases c
   .exact J9 h o b
theorem Ls {s j:Nat}:∀{l:List Oper} {i:Nat},Z73 l s i=some j->∃k o,j=i+k/\l[k]?=some o/\o.dst=some s
 | [],_,h=>by cases h
 | o'::l,i,h=>by
  unfold Z73 at h;split at h
  .next d hd =>
   cases e:Nat.beq d s with
   | true =>
    rw[e] at h;cases h;exact⟨0,o',rfl,rfl,by rw[hd,aw e]⟩
   | false =>
    rw[e] at h;obtain⟨k,o,p,b,c⟩:=Ls h;exact⟨k+1,o,by omega,b,c⟩
  .obtain⟨k,o,p,b,c⟩:=Ls h;exact⟨k+1,o,by omega,b,c⟩
theorem Vi {α:Type}{p:α->Bool}:∀{l:List α},N5 p l=true->∃x∈l,p x=true
 | [],h=>by cases h
 | y::l,h=>by
  have h:(bif p y then true else N5 p l)=true:=h;cases e:p y with
  | true=>exact⟨y,List.mem_cons_self,e⟩
  | false =>
   rw[e] at h;obtain⟨x,c,b⟩:=Vi h;exact⟨x,List.mem_cons_of_mem _ c,b⟩
structure Zf8 (tb:List (Nat × TI))(ops l:List Oper)(i:Nat)(o:Oper):Prop where
 grd:o.guard=none
 new:∃d,o.dst=some d/\∀o'∈l,o'.dst≠some d
 kind:isQ tb o=false->Zdf o=true
 back:∀e∈o.after,Region.binds .any e=true->e.on < i
 dep:∀s∈Ri o,(∀o'∈ops,o'.dst≠some s)\/∃(j:Nat) (o':Oper),ops[j]?=some o'/\o'.dst=some s/\∃e∈o.after,Region.binds .any e=true/\e.on=j
theorem Z8l {tb:List (Nat × TI)}{ops l:List Oper}{i:Nat}{o:Oper}(h:Zff tb ops l i o=true):Zf8 tb ops l i o:=by
 unfold Zff at h;split at h
 .next d B hd =>
  simp only[Bool.and_eq_true] at h;obtain⟨⟨⟨c,p⟩,E⟩,A⟩:=h;refine⟨B,⟨d,hd,?_⟩,λH=>by rw[H] at c;exact c,λe u b=>?_,λs F=>?_⟩
  .split at p
   .next e=>exact J9 e
   .cases p
  .have:=Ao E e (by simpa using u);rw[b] at this;simpa [Nat.blt_eq] using this
  .have:=Ao A s F;unfold Zg2 at this;split at this
   .next e=>exact .inl (J9 e)
   .next j e =>
    obtain⟨k,C,M,z,q⟩:=Ls e;obtain⟨x,D,b⟩:=Vi this;simp only[Bool.and_eq_true] at b;have J:=aw b.2;exact .inr ⟨k,C,z,q,x,by simpa using D,b.1,by omega⟩
 .cases h
theorem Z2m {tb:List (Nat × TI)}{ops:List Oper}:∀{l:List Oper} {i:Nat},Ze7 tb ops l i=true->(l.map (·.dst)).Nodup/\∀(j:Nat) o,l[j]?=some o->∃c,Zf8 tb ops c (i+j) o
 | [],_,_=>⟨List.nodup_nil,λj o h=>by simp at h⟩
 | o::l,i,h=>by
  unfold Ze7 at h;rw[bd] at h;obtain⟨b,B⟩:=h;obtain⟨D,C⟩:=Z2m B;have b:=Z8l b;refine⟨?_,λj u q=>?_⟩
  .rw[cw,List.nodup_cons];refine⟨λz=>?_,D⟩;obtain⟨u,p,e⟩:=bj.1 z;obtain⟨d,hd,s⟩:=b.new;exact s u p (by rw[e,hd])
  .cases j with
   | zero =>
    simp at q;subst q;exact⟨l,b⟩
   | succ j =>
    obtain⟨c,A⟩:=C j u (by simpa using q);exact⟨c,by rw[show i+(j+1)=i+1+j by omega];exact A⟩
theorem Za0 {tb:List (Nat × TI)}{N:Nat}{ops:Array Oper}(h:Z7y tb ops=true)(C:∀o∈ops.toList,∀d,o.dst=some d->d < N):Zbf tb N ops:=by
 unfold Z7y at h;rw[bd] at h;obtain⟨A,u⟩:=Z2m h.2;have q:∀o∈ops.toList,∃p i,Zf8 tb ops.toList p i o:=λo b=>by obtain⟨j,B⟩:=List.mem_iff_getElem?.1 b;obtain⟨p,c⟩:=u j o B;exact⟨p,_,c⟩
 refine⟨λo b=>(by obtain⟨p,i,c⟩:=q o b;exact c.grd),A,C,λi o b e D E=>?_,λi o s b F=>?_,λo b H=>?_⟩
 .obtain⟨p,c⟩:=u i o (by simpa using b);have:=c.back e D E;omega
 .obtain⟨p,c⟩:=u i o (by simpa using b);rcases c.dep s F with z | ⟨j,o',z,h5⟩
  .exact .inl z
  .exact .inr ⟨j,o',by simpa using z,h5⟩
 .obtain⟨p,i,c⟩:=q o b;have:=c.kind H;unfold Zdf at this;unfold isL;split at this
  .next e=>rw[e]
  .cases this
theorem Z97 {P:Program}{tb:List (Nat × TI)}{N:Nat}{id:Nat}{ops:Array Oper}{t:Ts}{own:Os}{I:Imm}{V:Va}{w:World}{a:Act}{K:KC}{Q:Exit->Act->World->Prop}(hT:∀t i,look t tb=some i->TIok P t i)(j:P.follows .mixedOrders=true)(z:∀o∈ops.toList,∀d,o.dst=some d->d < N)(p:Z7y tb ops=true)(h:sxI P tb own V.n ops.toList t λt=>Z79 tb ops.toList V.n λn=>K .normal t own n)(hH:Has I V own w)(ha:ARep N I V a t)
  (s:∀t I' V' a w',K .normal t own V'.n->Later own I V w own I' V' w'->ARep N I' V' a t->Q .normal a w'):(Code.region id ops true).wp P Q a w:=by
 have c:Has I V own w.drew:=hH.heap rfl rfl;have A:Later own I V w own I V w.drew:=⟨c,⟨rfl,rfl,rfl,au _,λ_ _ _=>⟨rfl,λ_=>rfl⟩,λ_ _ _ h=>h,λk r b e B _=>⟨k,r,e,B⟩⟩,au _,λ_ _=>⟨rfl,rfl⟩⟩;refine wp_region_any j (Zbn hT (Za0 p z) h c ha λt I' V' a w' u C q ha=>s t I' V' a w' ?_ (A.trans q) ha);have:=Tx u;rw[show ops.toList.length=ops.size from rfl] at this;rw[C];exact this
def Zgq (N:Nat)(l:List Oper):Bool:=l.all λo=>match o.dst with | some i=>Nat.blt i N | none=>true
def Fi (tb:List (Nat × TI))(N:Nat):Code->Bool
 | .region _ ops d=>Zgq N ops.toList&&(match d with | true=>Z7y tb ops||Region.noSelect ops&&Z36 tb ops.toList ops.toList 0 λc=>L1 tb c ops.toList ops.toList 0 λlate=>Mr tb c ops late ops.toList.length (noB ops.toList) | false=>true)
 | .seq a b | .cond _ a b=>Fi tb N a&&Fi tb N b
 | .block _ a | .loop a | .scope a=>Fi tb N a
 | _=>true
def Ex.to:Ex->Exit
 | .normal=>.normal
 | .exit id=>.exit id
 | .ret=>.ret
 | .goto l=>.goto l
def Va.renS (V:Va)(m:List (Nat × Nat))(n:Nat):Va:=⟨n,V.b,λk=>V.s (Go.Proofs.YtmmdikhljefeiaaGreat.ren m k),λk=>V.f (Go.Proofs.YtmmdikhljefeiaaGreat.ren m k)⟩
section
variable {P:Program} {tb:List (Nat × TI)} {N n:Nat} {I I' I0:Imm} {V V' V0:Va} {a:Act} {t t':Ts} {own own' own0:Os} {w w' w0:World} {g:G} {x y:Value} {d:Option Tmp} {m:List (Nat × Nat)} {r:R}
theorem Ce (b:Si n g=true)(h:CRep I V (L4 m g) x):CRep I (V.renS m n) g x:=by
 cases g with
 | orv k i s o l c=>cases s<;>exact h.elim
 | ptr k o=>exact⟨bc (dp b) (au _),h.2⟩
 | osl k=>exact⟨bc (dp b) (au _),h.2⟩
 | osv k sz lo hi=>exact⟨bc (dp b) (au _),h.2⟩
 | mp k=>exact⟨bc (dp b) (au _),h.2⟩
 | oel k i s o=>exact h
 | _=>exact h
theorem Qh {cs:List G}{b:List Value}(e:Bp (Si n) cs=true)(h:PW (CRep I V) (cs.map (L4 m)) b):PW (CRep I (V.renS m n)) cs b :=
 ⟨by have:=h.1;simpa using this,λj g u c p=>Ce (Ao e g (ar c)) (h.2 j _ u (by rw[ax,c];rfl) p)⟩
theorem Bd (j:Z9y n g=true)(h:TRep1 I V (To m g) x):TRep1 I (V.renS m n) g x:=by
 cases g with
 | oag l =>
  obtain⟨cs,e,E⟩:=(show ∃cs:List Value,x=.agg cs.toArray/\PW (CRep I V) (l.map (L4 m)) cs from h);exact⟨cs,e,Qh j E⟩
 | clo f a c =>
  obtain⟨⟨g,A,D⟩,F,cs,e,C,p⟩:=(show(∃g,(g∈a.map (L4 m)\/g∈c.map (L4 m))/\C7 g=false)/\_ from h);have j:(match Bp (Si n) a with | true=>Bp (Si n) c | false=>false)=true:=j;split at j
  .next ha =>
   have B:∀{g:G},C7 (L4 m g)=false->C7 g=false:=λ{g} h=>by cases g<;>first | rfl | exact h | (next sz _ _ _=>cases sz<;>rfl)
   refine⟨?_,F,cs,e,Qh ha C,Qh j p⟩;rcases A with A | A
   .obtain⟨g0,u,rfl⟩:=bj.1 A;exact⟨g0,.inl u,B D⟩
   .obtain⟨g0,u,rfl⟩:=bj.1 A;exact⟨g0,.inr u,B D⟩
  .cases j
 | oel k i s o =>
  obtain⟨C,p⟩:=(show _/\_ from h);exact⟨bc (dp j) (au _),p⟩
 | orv k i s o l c =>
  cases s with
  | zero =>
   obtain⟨C,b,q,p,u⟩:=(show _/\∃b q,_/\_ from h);exact⟨bc (dp j) (au _),b,q,p,u⟩
  | succ s =>
   obtain⟨C,b,q,p,u⟩:=(show _/\∃b q,_/\_ from h);exact⟨bc (dp j) (au _),b,q,p,u⟩
 | elp row o=>exact h
 | tup l=>cases j
 | ptr k o=>exact .of_c (Ce (g:=.ptr k o) j h)
 | osl k=>exact .of_c (Ce (g:=.osl k) j h)
 | osv k sz lo hi=>exact .of_c (Ce (g:=.osv k sz lo hi) j h)
 | mp k=>exact .of_c (Ce (g:=.mp k) j h)
 | v z=>exact .of_c (Ce (m:=m) (V:=V) (g:=.v z) rfl h)
 | tt=>exact .of_c (Ce (m:=m) (V:=V) (g:=.tt) rfl h)
 | ff=>exact .of_c (Ce (m:=m) (V:=V) (g:=.ff) rfl h)
 | un=>exact .of_c (Ce (m:=m) (V:=V) (g:=.un) rfl h)
 | nl=>exact .of_c (Ce (m:=m) (V:=V) (g:=.nl) rfl h)
 | agg l=>exact .of_c (Ce (m:=m) (V:=V) (g:=.agg l) rfl h)
 | sl l=>exact .of_c (Ce (m:=m) (V:=V) (g:=.sl l) rfl h)
theorem Z1e (p:Z38 n g=true)(h:TRep I V (renS m g) x):TRep I (V.renS m n) g x:=by
 cases g with
 | tup l =>
  obtain⟨cs,e,q⟩:=(show ∃cs:List Value,x=.tuple cs.toArray/\PW (TRep1 I V) (l.map (To m)) cs from h);exact⟨cs,e,by simpa using q.1,λj g u A B=>Bd (Ao (show Bp (Z9y n) l=true from p) g (ar A)) (q.2 j _ u (by rw[ax,A];rfl) B)⟩
 | oag l=>exact .of_1 (Bd (g:=.oag l) p h)
 | clo f a c=>exact .of_1 (Bd (g:=.clo f a c) p h)
 | oel k i s o=>exact .of_1 (Bd (g:=.oel k i s o) p h)
 | orv k i s o l c=>cases s<;>exact .of_1 (Bd p h)
 | elp row o=>exact .of_1 (g:=.elp row o) h
 | ptr k o=>exact .of_1 (Bd (g:=.ptr k o) p h)
 | osl k=>exact .of_1 (Bd (g:=.osl k) p h)
 | osv k a b c=>exact .of_1 (Bd (g:=.osv k a b c) p h)
 | mp k=>exact .of_1 (Bd (g:=.mp k) p h)
 | v z=>exact .of_1 (Bd (m:=m) (V:=V) (g:=.v z) rfl h)
 | tt=>exact .of_1 (Bd (m:=m) (V:=V) (g:=.tt) rfl h)
 | ff=>exact .of_1 (Bd (m:=m) (V:=V) (g:=.ff) rfl h)
 | un=>exact .of_1 (Bd (m:=m) (V:=V) (g:=.un) rfl h)
 | nl=>exact .of_1 (Bd (m:=m) (V:=V) (g:=.nl) rfl h)
 | agg l=>exact .of_1 (Bd (m:=m) (V:=V) (g:=.agg l) rfl h)
 | sl l=>exact .of_1 (Bd (m:=m) (V:=V) (g:=.sl l) rfl h)
theorem Zz:∀{T:Ts},leT m t n T->∀{i g},look i T=some g->Z38 n g=true/\look i t=some (renS m g)
 | [],_,i,g,h=>by cases h
 | (j,g')::T,hT,i,g,h=>by
  rw[Af] at h;split at h
  .next e=>subst e;cases h;exact hT.1
  .exact Zz hT.2 h
theorem Ij:∀{T:Os},leO m own n T->∀{i r},look i T=some r->i < n/\(isS r=true\/ren m i=i)/\Z0u n r=true/\look (ren m i) own=some (Z5i m r)
 | [],_,i,g,h=>by cases h
 | (j,g')::T,hT,i,g,h=>by
  rw[Af] at h;split at h
  .next e =>
   subst e;cases h;have b:=hT.1.1;simp only[Bool.and_eq_true,Bool.or_eq_true] at b;exact⟨dp b.1,b.2.imp id aw,hT.1.2⟩
  .exact Ij hT.2 h
theorem Zdn (hn:V0.n<=n)(z:SinceC own0 I0 V0 w0 own I V w)(ha:ARep N I V a t)(h:le m t own n t' own'):SinceC own0 I0 V0 w0 own' I (V.renS m n) w/\ARep N I (V.renS m n) a t':=by
 obtain⟨X,B,h3⟩:=h;have hH:=z.has;refine⟨⟨⟨hH.mem,λk r u=>(Ij B u).1,λk r u=>?_,λk r b u q=>?_,λk k' r r' b u E q H=>?_⟩,⟨z.fro.os,z.fro.tape,z.fro.output,z.fro.size,z.fro.blk,z.fro.mono,λk r b u q J=>?_⟩,hn,z.bb⟩,⟨ha.defers,ha.size,λi g hg=>?_⟩⟩
 .obtain⟨-,O,C,A⟩:=Ij B u;have hr:=hH.each _ _ A;have q:isS r=true\/V.b k=V.b (ren m k):=O.imp id λe=>by rw[e]
  cases r with
  | blk cs ty =>
   have q:=q.resolve_left (λh=>by cases h);obtain⟨Z,us,q2,q3⟩:=hr;exact⟨λb=>by show V.f (ren m k) b↔b=V.b k;rw[q];exact Z b,us,by show w.heap[V.b k]?=_;rw[q];exact q2,Qh C q3⟩
  | slc rows e sz=>exact hr
  | vw rows e sz=>exact hr
  | froz rows sz=>exact hr
  | gone=>exact hr
  | mpI l =>
   have q:=q.resolve_left (λh=>by cases h);exact⟨λb=>by show V.f (ren m k) b↔b=V.b k;rw[q];exact hr.1 b,by show MapR I w (V.b k) _ _;rw[q];exact hr.2⟩
  | mpS l =>
   have q:=q.resolve_left (λh=>by cases h);exact⟨λb=>by show V.f (ren m k) b↔b=V.b k;rw[q];exact hr.1 b,by show MapR I w (V.b k) _ _;rw[q];exact hr.2⟩
  | sit s pos =>
   have q:=q.resolve_left (λh=>by cases h);exact⟨λb=>by show V.f (ren m k) b↔b=V.b k;rw[q];exact hr.1 b,by show w.heap[V.b k]?=_;rw[q];exact hr.2⟩
  | mpX l m2 ob =>
   have q:=q.resolve_left (λh=>by cases h);exact⟨λb=>by show V.f (ren m k) b↔b=V.b k;rw[q];exact hr.1 b,(show V.b k=m2 from q.trans hr.2.1),hr.2.2⟩
  | mit j l D last m2 ob =>
   have q:=q.resolve_left (λh=>by cases h);obtain⟨a1,it,L,a2,a3,a4⟩:=hr;exact⟨λb=>by show V.f (ren m k) b↔b=V.b k;rw[q];exact a1 b,it,L,by show w.heap[V.b k]?=_;rw[q];exact a2,a3,λF Y T=>by
    change F.heap[V.b k]?=_ at T
    show RanB F (V.b k) m2 Ci id L D/\∀W,last=some W->∃v,VRep I W.2 v/\∀P:Program,(Instr.entry (.pointer (some ⟨V.b k,0,none⟩))).run P F=_;rw[q] at T⊢;exact a4 F Y T⟩
  | abs p =>
   have q:=q.resolve_left (λh=>by cases h);exact⟨hr.1,by show p I (V.b k) (V.f (ren m k)) w;rw[q];exact hr.2⟩
  | lnk j=>cases C
  | adr j b=>exact⟨λc=>hr.1 c,dp C,hr.2.2⟩
  | fam ps=>exact⟨hr.1,hr.2⟩
 .obtain⟨-,-,C,A⟩:=Ij B u;exact hH.foot _ _ b A q
 .obtain⟨-,-,-,A⟩:=Ij B u;obtain⟨-,-,-,M⟩:=Ij B E;exact Tz h3 u E (hH.disj _ _ _ _ b A M q H)
 .obtain⟨-,-,-,A⟩:=Ij B u;exact z.fro.foot _ _ b A q J
 .obtain⟨O,C⟩:=Zz X hg;obtain⟨x,hx,hr⟩:=ha.get i _ C;exact⟨x,hx,Z1e O hr⟩
def Zf7 (N:Nat)(own0:Os)(I0:Imm)(V0:Va)(w0:World)(K:KC)(Q:Exit->Act->World->Prop):Prop :=
 ∀e t own I V a w,K e t own V.n->SinceC own0 I0 V0 w0 own I V w->ARep N I V a t->Q e.to a w
theorem Uc (b:P.follows .mixedOrders=true){id:Nat}{ops:Array Oper}{Q:Exit->Act->World->Prop}{S:World->Prop}{late:List Nat}(c:wpAnyG P .any ops Q late ops.size S (Array.replicate ops.size false) a w.drew):(Code.region id ops true).wp P Q a w :=
 wp_region_any b (Nu _ _ _ _ _ (Kx _ rfl) c)
theorem Zcc (l:List Oper):(noB l).toArray=Array.replicate l.length false/\(noB l).length=l.length:=by
 have:noB l=List.replicate l.length false:=by
  induction l with
  | nil=>rfl
  | cons o l ih=>rw[noB,ih];rfl
 rw[this];simp
theorem Z4q (es:List Edge)(m:List Bool):∃b,∀{α:Type} (K:List Bool->α),X2 es m K=K b:=by
 induction es generalizing m with
 | nil=>exact⟨m,λ_=>rfl⟩
 | cons e es ih =>
  cases hb:Region.binds .any e with
  | true =>
   obtain⟨b,h⟩:=ih (X0 m e.on);exact⟨b,λK=>by unfold X2;rw[hb];dsimp only;rw[Ko];exact h K⟩
  | false =>
   obtain⟨b,h⟩:=ih m;exact⟨b,λK=>by unfold X2;rw[hb];exact h K⟩
theorem Z0l (ops:List Oper)(n:Nat)(m:List Bool):∃b,∀{α:Type} (K:List Bool->α),Jh ops n m K=K b:=by
 induction n generalizing m with
 | zero=>exact⟨m,λ_=>rfl⟩
 | succ n ih =>
  cases hb:Zay m n with
  | true =>
   cases ho:nth ops n with
   | none =>
    obtain⟨b,h⟩:=ih m;exact⟨b,λK=>by unfold Jh;rw[hb,ho];exact h K⟩
   | some o =>
    obtain⟨e,c⟩:=Z4q o.after.toList m;obtain⟨b,h⟩:=ih e;exact⟨b,λK=>by unfold Jh;rw[hb,ho];dsimp only;rw[c];exact h K⟩
  | false =>
   obtain⟨b,h⟩:=ih m;exact⟨b,λK=>by unfold Jh;rw[hb];exact h K⟩
theorem Zag (ops:List Oper)(l:List Oper)(i:Nat):∃r,∀{α:Type} (K:List Nat->α),Z36 tb ops l i K=K r:=by
 induction l generalizing i with
 | nil=>exact⟨[],λK=>rfl⟩
 | cons o l ih =>
  obtain⟨r,h⟩:=ih (i+1);cases hl:Zg6 tb ops i o with
  | false=>exact⟨r,λK=>by unfold Z36;rw[hl];exact h K⟩
  | true=>exact⟨i::r,λK=>by unfold Z36;rw[hl];exact h _⟩
theorem Z5k (c:List Nat)(ops:List Oper)(l:List Oper)(i:Nat):∃r,∀{α:Type} (K:List Nat->α),L1 tb c ops l i K=K r:=by
 induction l generalizing i with
 | nil=>exact⟨[],λ_=>rfl⟩
 | cons o l ih =>
  obtain⟨r,h⟩:=ih (i+1);cases hl:isL tb o with
  | false=>exact⟨r,λK=>by unfold L1;rw[hl];exact h K⟩
  | true =>
   obtain⟨m,b⟩:=Z0l ops (i+1) (X0 (noB ops) i);cases ha:Zfi tb c ops m 0 with
   | true=>exact⟨i::r,λK=>by unfold L1;rw[hl];dsimp only;rw[Ko,b,ha];exact h _⟩
   | false=>exact⟨r,λK=>by unfold L1;rw[hl];dsimp only;rw[Ko,b,ha];exact h _⟩
theorem Ub (k:Nat):∀r:List Nat,∃r':List Nat,(∀{α:Type} (K:List Nat->α),Hs k r K=K r')/\∀j∈r',j∈r\/j=k
 | []=>⟨[k],λ_=>rfl,λj h=>.inr (by simpa using h)⟩
 | i::r=>by
  obtain⟨r',b,c⟩:=Ub k r;cases hb:Nat.beq k i with
  | true=>exact⟨i::r,λK=>by unfold Hs;rw[hb],λj h=>.inl h⟩
  | false =>
   refine⟨i::r',λK=>by unfold Hs;rw[hb];exact b _,λj h=>?_⟩;rcases bq.1 h with rfl | h
   .exact .inl (by simp)
   .exact(c j h).imp (λh=>by simp[h]) id
def GathLt {α:Type}(n:Nat)(F:List Nat->(List Nat->α)->α):Prop:=∀r,(∀k∈r,k < n)->∃r':List Nat,(∀k∈r',k < n)/\∀K:List Nat->α,F r K=K r'
theorem GathLt.seq {α:Type}{n:Nat}{F b:List Nat->(List Nat->α)->α}(h:GathLt n F)(q:GathLt n b):GathLt n (λr K=>F r λr=>b r K):=λr hr=>by obtain⟨c,a1,a2⟩:=h r hr;obtain⟨p,e,j⟩:=q c a1;exact⟨p,e,λK=>(a2 _).trans (j K)⟩
theorem GathLt.none {α:Type}{n:Nat}:GathLt n (λr (K:List Nat->α)=>K r):=λr hr=>⟨r,hr,λ_=>rfl⟩
theorem Br {α:Type}{n k:Nat}(p:k < n):GathLt (α:=α) n (λr K=>Hs k r K):=λr hr=>by obtain⟨r',b,h⟩:=Ub k r;exact⟨r',λj c=>(h j c).elim (hr j) (λe=>by omega),λK=>b K⟩
theorem Zgj {α:Type}(h:CRep I V g x):GathLt (α:=α) V.n (λr K=>vaC g r K):=by
 cases g with
 | ptr k o=>exact Br h.1
 | _=>exact GathLt.none
theorem Z96 {α:Type}:∀{l:List G} {b:List Value},PW (CRep I V) l b->GathLt (α:=α) V.n (λr K=>Zdz l r K)
 | [],_,_=>GathLt.none
 | g::l,b,h=>by obtain⟨x,j,rfl,c,e⟩:=h.uncons;exact(Zgj c).seq (Z96 e)
theorem Zh7 {α:Type}(h:TRep I V g x):GathLt (α:=α) V.n (λr K=>va1 g r K):=by
 cases g with
 | clo f a c =>
  obtain⟨-,j,cs,-,b,e⟩:=(show TRep1 I V (.clo f a c) x from h);exact(Z96 b).seq (Z96 e)
 | ptr k o=>exact Br (C9 h).1
 | _=>exact GathLt.none
theorem I6 {ops:List Oper}{k:Nat}:∀{n d:Nat},Ma t ops n d=some k->∃b o,look b t=some (.ptr k o)
 | 0,_,h=>by cases h
 | n+1,d,h=>by
  unfold Ma at h;split at h
  .next c=>cases h;exact⟨d,_,c⟩
  .cases h
  .split at h
   .exact I6 h
   .cases h
theorem Nr {ops:List Oper}{k:Nat}:∀{n d:Nat},Z1y t ops n d=some k->∃b,look b t=some (.osl k)
 | 0,_,h=>by cases h
 | n+1,d,h=>by
  unfold Z1y at h;split at h
  .next c=>cases h;exact⟨d,c⟩
  .cases h
  .split at h
   .exact Nr h
   .cases h
theorem Zg9 {α:Type}(ha:ARep N I V a t)(ops:List Oper):∀l:List Operand,GathLt (α:=α) V.n (λr K=>vsS t ops l r K)
 | []=>GathLt.none
 | y::l=>λr hr=>by
  have b:=Zg9 (α:=α) ha ops l;cases y with
  | tmp d =>
   cases hro:Z1y t ops 8 d with
   | none =>
    obtain⟨r',e,h⟩:=b r hr;exact⟨r',e,λK=>by show vsS t ops (.tmp d::l) r K=_;unfold vsS;rw[hro];exact h K⟩
   | some k =>
    obtain⟨_,c⟩:=Nr hro;obtain⟨y,z,s⟩:=ha.get _ _ c;obtain⟨u,a1,a2⟩:=Br (α:=α) (show k < V.n from(show CRep I V (.osl k) y from s).1) r hr;obtain⟨q,j,p⟩:=b u a1;exact⟨q,j,λK=>by show vsS t ops (.tmp d::l) r K=_;unfold vsS;rw[hro];exact(a2 _).trans (p K)⟩
  | _=>exact b r hr
theorem Zc9 {α:Type}(ha:ARep N I V a t)(b:Bool)(ops:List Oper)(l:List Operand):GathLt (α:=α) V.n (λr K=>Zgb b t ops l r K):=by
 cases b with
 | true=>exact Zg9 ha ops l
 | false=>exact GathLt.none
theorem Zg3 {α:Type}(ha:ARep N I V a t)(ops:List Oper):∀l:List Operand,GathLt (α:=α) V.n (λr K=>vaL t ops l r K)
 | []=>GathLt.none
 | y::l=>λr hr=>by
  have b:=Zg3 (α:=α) ha ops l;cases y with
  | tmp d =>
   cases hl:look d t with
   | none =>
    cases hro:Ma t ops 8 d with
    | none =>
     obtain⟨r',s,u⟩:=b r hr;exact⟨r',s,λK=>by show vaL t ops (.tmp d::l) r K=_;unfold vaL;dsimp only;rw[hl];dsimp only;rw[hro];exact u K⟩
    | some k =>
     obtain⟨_,_,q⟩:=I6 hro;obtain⟨y,B,j⟩:=ha.get _ _ q;obtain⟨p,a1,a2⟩:=Br (α:=α) (C9 j).1 r hr;obtain⟨h,c,e⟩:=b p a1;exact⟨h,c,λK=>by show vaL t ops (.tmp d::l) r K=_;unfold vaL;dsimp only;rw[hl];dsimp only;rw[hro];exact(a2 _).trans (e K)⟩
   | some g =>
    obtain⟨z,A,j⟩:=ha.get d g hl;obtain⟨p,a1,a2⟩:=Zh7 (α:=α) j r hr;obtain⟨h,c,e⟩:=b p a1;exact⟨h,c,λK=>by show vaL t ops (.tmp d::l) r K=_;unfold vaL;dsimp only;rw[hl];exact(a2 _).trans (e K)⟩
  | _=>exact b r hr
theorem Zct (h:CRep I V g x):GathLt (α:=Prop) V.n (λr K=>gkC g r K):=by
 cases g with
 | ptr k o=>exact Br h.1
 | osl k=>exact Br h.1
 | osv k a b c=>exact Br h.1
 | oel k i s o=>exact h.elim
 | mp k=>exact Br h.1
 | _=>exact GathLt.none
theorem Z9:∀{l:List G} {b:List Value},PW (CRep I V) l b->GathLt (α:=Prop) V.n (λr K=>Z9r l r K)
 | [],_,_=>GathLt.none
 | g::l,b,h=>by obtain⟨x,j,rfl,c,e⟩:=h.uncons;exact(Zct c).seq (Z9 e)
theorem Wi (hH:Has I V own w):∀l:List Nat,GathLt (α:=Prop) V.n (λr K=>Px own l r K)
 | []=>GathLt.none
 | k::l=>λr hr=>by
  have b:=Wi hH l;show ∃r':List Nat,_/\∀K:List Nat->Prop,Px own (k::l) r K=K r';unfold Px;split
  .next cs t q =>
   obtain⟨-,s,-,e⟩:=hH.each k _ q;obtain⟨p,a1,a2⟩:=Z9 e r hr;obtain⟨j,c,h⟩:=b p a1;exact⟨j,c,λK=>(a2 _).trans (h K)⟩
  .exact b r hr
theorem Z7v (hH:Has I V own w):∀n:Nat,GathLt (α:=Prop) V.n (λr K=>trK own n r K)
 | 0=>GathLt.none
 | n+1=>λr hr=>by obtain⟨b,a1,a2⟩:=Wi hH r r hr;obtain⟨h,c,e⟩:=Z7v hH n b a1;exact⟨h,c,λK=>(a2 _).trans (e K)⟩
theorem Z22 {α:Type}{n:Nat}:∀w:Os,(∀k r,(k,r)∈w->k < n)->GathLt (α:=α) n (λr K=>Zce w r K)
 | [],_=>GathLt.none
 | (k,q)::l,h=>λr hr=>by
  have b:=Z22 (α:=α) l λk r u=>h k r (by simp[u]);cases q with
  | abs p =>
   obtain⟨c,a1,a2⟩:=Br (α:=α) (h k _ (by simp:(k,R.abs p)∈_)) r hr;obtain⟨s,e,j⟩:=b c a1;exact⟨s,e,λK=>(a2 _).trans (j K)⟩
  | fam p =>
   obtain⟨c,a1,a2⟩:=Br (α:=α) (h k _ (by simp:(k,R.fam p)∈_)) r hr;obtain⟨s,e,j⟩:=b c a1;exact⟨s,e,λK=>(a2 _).trans (j K)⟩
  | _=>exact b r hr
theorem Z2w {α:Type}{n:Nat}:∀w:Os,(∀k r,(k,r)∈w->k < n)->GathLt (α:=α) n (λr K=>Zbg w r K)
 | [],_=>GathLt.none
 | (k,q)::l,h=>λr hr=>by
  have b:=Z2w (α:=α) l λk r u=>h k r (by simp[u]);cases q with
  | mpI p =>
   obtain⟨c,a1,a2⟩:=Br (α:=α) (h k _ (by simp:(k,R.mpI p)∈_)) r hr;obtain⟨s,e,j⟩:=b c a1;exact⟨s,e,λK=>(a2 _).trans (j K)⟩
  | mpS p =>
   obtain⟨c,a1,a2⟩:=Br (α:=α) (h k _ (by simp:(k,R.mpS p)∈_)) r hr;obtain⟨s,e,j⟩:=b c a1;exact⟨s,e,λK=>(a2 _).trans (j K)⟩
  | _=>exact b r hr
theorem Ik {α:Type}{k:Nat}{x:α}:∀{l:List (Nat × α)},(k,x)∈l->∃y,look k l=some y
 | [],h=>by simp at h
 | (j,y)::l,h=>by
  rw[Af];by_cases e:k=j
  .rw[dt e];exact⟨y,rfl⟩
  .rw[dq e];rcases bq.1 h with h | h
   .exact du (congrArg Prod.fst h) e
   .exact Ik h
theorem Zby {α:Type}{o:Os}{n:Nat}(h:∀k r,look k o=some r->k < n):∀l:List G,GathLt (α:=α) n (λr K=>Z4a o l r K)
 | []=>GathLt.none
 | g::l=>λr hr=>by
  have b:=Zby (α:=α) h l;cases g with
  | osl k =>
   cases hk:look k o with
   | none =>
    obtain⟨r',c,j⟩:=b r hr;exact⟨r',c,λK=>by show Z4a o (.osl k::l) r K=_;unfold Z4a;dsimp only;rw[hk];exact j K⟩
   | some q =>
    obtain⟨e,a1,a2⟩:=Br (α:=α) (h k q hk) r hr;obtain⟨u,p,s⟩:=b e a1;exact⟨u,p,λK=>by show Z4a o (.osl k::l) r K=_;unfold Z4a;dsimp only;rw[hk];exact(a2 _).trans (s K)⟩
  | _=>exact b r hr
theorem Zgn {α:Type}{o:Os}{n:Nat}(h:∀k r,look k o=some r->k < n)(t:Ts)(ops:List Oper)(x:Operand):GathLt (α:=α) n (λr K=>ldS t o ops x r K):=by
 unfold ldS;split
 .split
  .exact GathLt.none
  .split
   .split
    .split
     .exact Zby h _
     .exact GathLt.none
    .exact GathLt.none
   .exact GathLt.none
 .exact GathLt.none
theorem Zah (hH:Has I V own w)(ha:ARep N I V a t)(late:List Nat)(ops l:List Oper)(i:Nat)(b:List Nat)(c:∀k∈b,k < V.n):∃r:List Nat,(∀k∈r,k < V.n)/\∀K:List Nat->Prop,Um tb late t own ops l i b K=K r:=by
 have key:∀(l:List Oper) (i:Nat) (b:List Nat),(∀k∈b,k < V.n)->∃r:List Nat,(∀k∈r,k < V.n)/\∀K:List Nat->Prop,Um tb late t own ops l i b K=K r:=λl=>by
  induction l with
  | nil=>exact λi b c=>⟨b,c,λ_=>rfl⟩
  | cons o l ih =>
   intro i b c;unfold Um;split
   .split
    .next F =>
     obtain⟨_,_,T⟩:=I6 F;obtain⟨y,A,J⟩:=ha.get _ _ T;obtain⟨z,a1,a2⟩:=Ub _ b;obtain⟨r,p,q⟩:=ih (i+1) z (λj H=>(a2 j H).elim (c j) λe=>by rw[e];exact(C9 J).1);exact⟨r,p,λK=>(a1 _).trans (q K)⟩
    .exact ih (i+1) b c
   .split
    .next f _ =>
     obtain⟨D,E,s⟩:=Zg3 (α:=Prop) ha ops (f::_) b c;obtain⟨z,a1,h⟩:=Zc9 (α:=Prop) ha (N5 (Zbp tb) _) ops _ D E;obtain⟨B,c1,C⟩:=Z22 (α:=Prop) own (λk r u=>by obtain⟨y,A⟩:=Ik u;exact hH.num k y A) z a1;cases N5 (Zc0 tb) _ with
     | true =>
      obtain⟨W,O,M⟩:=Z2w (α:=Prop) own (λk r u=>by obtain⟨y,A⟩:=Ik u;exact hH.num k y A) B c1;obtain⟨r,p,q⟩:=ih (i+1) W O;exact⟨r,p,λK=>(s _).trans ((h _).trans ((C _).trans ((M _).trans (q K))))⟩
     | false =>
      obtain⟨r,p,q⟩:=ih (i+1) B c1;exact⟨r,p,λK=>(s _).trans ((h _).trans ((C _).trans (q K)))⟩
    .split
     .next x _ _ =>
      obtain⟨z,a1,a2⟩:=Zc9 (α:=Prop) ha true ops [x] b c;obtain⟨B,c1,C⟩:=Zgn (α:=Prop) (λk r u=>hH.num k r u) t ops x z a1;obtain⟨r,p,q⟩:=ih (i+1) B c1;exact⟨r,p,λK=>(a2 _).trans ((C _).trans (q K))⟩
     .exact ih (i+1) b c
    .exact ih (i+1) b c
   .exact ih (i+1) b c
 exact key l i b c
def OkM (P:Program)(tb:List (Nat × TI))(N:Nat)(own0:Os)(I0:Imm)(V0:Va)(w0:World)(c:Code)(m:MC):Prop :=
 ∀{t:Ts} {own:Os} {I:Imm} {V:Va} {a:Act} {w:World} {K:KC} {Q:Exit->Act->World->Prop},m t own V.n K->SinceC own0 I0 V0 w0 own I V w->ARep N I V a t->Fi tb N c=true->(∀ch d v a w,Q (.panic ch) (a.put d v) w->Q (.panic ch) a w)->Zf7 N own0 I0 V0 w0 K Q->c.wp P Q a w
def LabM (P:Program)(tb:List (Nat × TI))(N:Nat)(own0:Os)(I0:Imm)(V0:Va)(w0:World)(c:Code)(m:MC):Prop :=
 (T9 c=none->∀l,findLabel c l=none)/\∀l,T9 c=some l->∃rest,findLabel c l=some rest/\OkM P tb N own0 I0 V0 w0 rest m/\(Fi tb N c=true->Fi tb N rest=true)
theorem LabM.no {c:Code}{m:MC}(e:T9 c=none)(h:∀l,findLabel c l=none):LabM P tb N own0 I0 V0 w0 c m:=⟨λ_=>h,λ_ h=>by rw[e] at h;cases h⟩
theorem OkM.seq {x y:Code}{p q:MC}(z:OkM P tb N own0 I0 V0 w0 x p)(A:OkM P tb N own0 I0 V0 w0 y q)(x' y':Code):OkM P tb N own0 I0 V0 w0 (.seq x y) (Z1h x' y' p q):=by
 intro t own I V a w K Q h b ha s u j;simp only[Fi,Bool.and_eq_true] at s;unfold Z1h at h;refine wp_seq (z h b ha s.1 (λch d v a w=>u ch d v a w) λe t own I V a w c b ha=>?_);cases e with
 | normal=>exact A c b ha s.2 u j
 | exit id=>exact j (.exit id) _ _ _ _ _ _ c b ha
 | ret=>exact j .ret _ _ _ _ _ _ c b ha
 | goto l=>exact j (.goto l) _ _ _ _ _ _ c b ha
theorem OkM.stay {x:Code}{p:MC}(s:OkM P tb N own0 I0 V0 w0 x p){t:Ts}{own:Os}{I:Imm}{V:Va}{a:Act}{w:World}{K:KC}{Q:Exit->Act->World->Prop}(l:Nat)(J:Act->World->Prop)(h:Nt p t own V.n K)(b:SinceC own0 I0 V0 w0 own I V w)(ha:ARep N I V a t)(u:Fi tb N x=true)(q:∀ch d v a w,Q (.panic ch) (a.put d v) w->Q (.panic ch) a w)(j:Zf7 N own0 I0 V0 w0 K Q):x.wp P (Exit.jump l J Q) a w:=by
 unfold Nt at h;refine s h b ha u (λch d v a w=>q ch d v a w) λe t own I V a w c b ha=>?_;cases e with
 | normal=>exact j .normal _ _ _ _ _ _ c b ha
 | exit id=>exact j (.exit id) _ _ _ _ _ _ c b ha
 | ret=>exact j .ret _ _ _ _ _ _ c b ha
 | goto l=>exact c.elim
theorem OkM.scope {x:Code}{m:MP}(u:OkM P tb N own0 I0 V0 w0 x (m true))(B:LabM P tb N own0 I0 V0 w0 x (m false)):OkM P tb N own0 I0 V0 w0 (.scope x) (Td x m):=by
 intro t own I V a w K Q h c ha p s j;have p:Fi tb N x=true:=p;unfold Td at h;cases hl:T9 x with
 | none =>
  rw[hl] at h;refine wp_scope_straight (Code.wp_mono ?_ (u.stay 0 (λ_ _=>False) h c ha p s j));intro e a w q;cases e with
  | goto l=>exact q.2.elim
  | _=>exact q
 | some l =>
  rw[hl] at h;obtain⟨rest,z,A,C⟩:=B.2 l hl;refine wp_scope_jumps l (λa w=>∃t own I V,Nt (m false) t own V.n K/\SinceC own0 I0 V0 w0 own I V w/\ARep N I V a t) (λ_ _=>0) z ?_ ?_
  .refine u h c ha p (λch d v a w=>s ch d v a w) λe t own I V a w b c ha=>?_;cases e with
   | normal=>exact j .normal _ _ _ _ _ _ b c ha
   | exit id=>exact j (.exit id) _ _ _ _ _ _ b c ha
   | ret=>exact j .ret _ _ _ _ _ _ b c ha
   | goto l' =>
    have b:(bif Nat.beq l' l then Nt (m false) t own V.n K else False):=b;cases hb:Nat.beq l' l with
    | true=>rw[hb] at b;exact⟨aw hb,t,own,I,V,b,c,ha⟩
    | false=>rw[hb] at b;exact b.elim
  .rintro a1 D ⟨t,own,I,V,b,c,ha⟩;exact A.stay l _ b c ha (C p) s j
theorem Zbq (hT:∀t i,look t tb=some i->TIok P t i)(hm:P.follows .mixedOrders=true):∀c:Code,OkM P tb N own0 I0 V0 w0 c (sxM P tb c true)/\LabM P tb N own0 I0 V0 w0 c (sxM P tb c false):=by
 intro c
 induction c with
 | skip=>exact⟨by intro t own I V a w K Q h j ha _ _ p;exact wp_skip (p .normal _ _ _ _ _ _ h j ha),.no rfl λ_=>rfl⟩
 | label l =>
  refine⟨by intro t own I V a w K Q h j ha _ _ p;exact wp_label (p .normal _ _ _ _ _ _ h j ha),⟨λe=>(by cases e),λl' e=>?_⟩⟩;have e:some l=some l':=e;cases e;exact⟨.skip,by simp[findLabel],by intro t own I V a w K Q h j ha _ _ p;exact wp_skip (p .normal _ _ _ _ _ _ h j ha),λ_=>rfl⟩
 | ret=>exact⟨by intro t own I V a w K Q h j ha _ _ p;exact wp_ret (p .ret _ _ _ _ _ _ h j ha),.no rfl λ_=>rfl⟩
 | exit id=>exact⟨by intro t own I V a w K Q h j ha _ _ p;exact wp_exit (p (.exit id) _ _ _ _ _ _ h j ha),.no rfl λ_=>rfl⟩
 | goto l=>exact⟨by intro t own I V a w K Q h j ha _ _ p;exact wp_goto (p (.goto l) _ _ _ _ _ _ h j ha),.no rfl λ_=>rfl⟩
 | scope x ih=>exact⟨OkM.scope ih.1 ih.2,.no rfl λ_=>rfl⟩
 | seq x y ihx ihy =>
  refine⟨OkM.seq ihx.1 ihy.1 x y,λe l=>?_,λl e=>?_⟩
  .have e:(match T9 x with | some l=>some l | none=>T9 y)=none:=e;cases hx:T9 x with
   | some o=>rw[hx] at e;cases e
   | none=>rw[hx] at e;simp only[findLabel,ihx.2.1 hx l];exact ihy.2.1 e l
  .have e:(match T9 x with | some l=>some l | none=>T9 y)=some l:=e;show ∃rest,findLabel (.seq x y) l=some rest/\OkM P tb N own0 I0 V0 w0 rest (match T9 x with | some _=>Z1h x y (sxM P tb x false) (sxM P tb y true) | none=>sxM P tb y false)/\_;cases hx:T9 x with
   | some o =>
    rw[hx] at e;cases e;obtain⟨rest,Y,M,h3⟩:=ihx.2.2 _ hx;refine⟨.seq rest y,by simp only[findLabel,Y],OkM.seq M ihy.1 x y,λu=>?_⟩;simp only[Fi,Bool.and_eq_true] at u⊢;exact⟨h3 u.1,u.2⟩
   | none =>
    rw[hx] at e;obtain⟨rest,Y,M,h3⟩:=ihy.2.2 _ e;refine⟨rest,by simp only[findLabel,ihx.2.1 hx l];exact Y,M,λu=>?_⟩;simp only[Fi,Bool.and_eq_true] at u;exact h3 u.2
 | cond c x y ihx ihy =>
  refine⟨?_,.no rfl λ_=>rfl⟩;intro t own I V a w K Q h j ha u E p;simp only[Fi,Bool.and_eq_true] at u;have h:Z0w c x y (sxM P tb x true) (sxM P tb y true) t own V.n K:=h;unfold Z0w at h;obtain⟨g,h,hg⟩:=B7 h ha j.has;cases g with
  | tt=>exact wp_cond_true (by generalize a.eval c=z at hg;cases(show VRep I .tt z from hg);rfl) (ihx.1 h j ha u.1 E p)
  | ff=>exact wp_cond_false (by generalize a.eval c=z at hg;cases(show VRep I .ff z from hg);rfl) (ihy.1 h j ha u.2 E p)
  | v z =>
   have e:=B0 hg;cases z with
   | bool b=>exact wp_cond_split e (λF=>ihx.1 (h.1 F) j ha u.1 E p) (λF=>ihy.1 (h.2 F) j ha u.2 E p)
   | _=>exact h.elim
  | _=>exact h.elim
 | block id x ih =>
  refine⟨?_,.no rfl λ_=>rfl⟩;intro t own I V a w K Q h j ha u E p;have h:Tu id x (sxM P tb x true) t own V.n K:=h;unfold Tu at h;refine wp_block (ih.1 h j ha u (λch d v a w=>E ch d v a w) λe t own I V a w q j ha=>?_);cases e with
  | normal=>exact p .normal _ _ _ _ _ _ q j ha
  | exit id' =>
   show if id'=id then Q .normal a w else Q (.exit id') a w;dsimp only at q;by_cases A:id'=id
   .subst A;rw[dt rfl];rw[Nat.beq_refl] at q;exact p .normal _ _ _ _ _ _ q j ha
   .rw[dq A];have M:Nat.beq id' id=false:=by
     cases F:Nat.beq id' id with
     | false=>rfl
     | true=>exact du (aw F) A
    rw[M] at q;exact p (.exit id') _ _ _ _ _ _ q j ha
  | goto l=>exact p (.goto l) _ _ _ _ _ _ q j ha
  | ret=>exact p .ret _ _ _ _ _ _ q j ha
 | loop x ih =>
  refine⟨?_,.no rfl λ_=>rfl⟩;intro t own I V a w K Q h j ha u E p;have h:S4 x (sxM P tb x true) t own V.n K:=h;unfold S4 at h;obtain⟨w1o,Ig,Vg,⟨bb,X,st,dd,In,μ,⟨x0,h0,B⟩,J⟩,lg⟩:=Yb h rfl j.has;replace j:=j.trans lg;replace ha:=ha.mono lg.fro.mono lg.va;have hn0:=j.n;let At:X->Act->World->Prop:=λx a w=>In x/\∃I V',V'.n=Vg.n/\SinceC own0 I0 V0 w0 (st x).2 I V' w/\ARep N I V' a (st x).1;have Y:=Zdn j.n j ha B;refine wp_loop_ghost (λk a w=>∃x,At x a w/\μ x=k) (μ x0) ⟨x0,⟨h0,Ig,_,rfl,Y.1,Y.2⟩,rfl⟩ λk a1 w1 hI=>?_;obtain⟨x1,⟨A,I1,V1,Z,hS,hA⟩,rfl⟩:=hI;have F:=J x1 A;rw[<-Z] at F;refine ih.1 F hS hA u (λch d v a w=>E ch d v a w) λe t own I V a w q j ha=>?_;have fin:∀{own:Os} {I:Imm} {V:Va},Pe st In μ V1.n x1 K e t own V.n->SinceC own0 I0 V0 w0 own I V w->ARep N I V a t->(match e.to with | .normal=>∃m,m < μ x1/\∃x,At x a w/\μ x=m | e=>Q e a w):=λ{own I V} q j ha=>by
   cases e with
   | normal =>
    obtain⟨y,m,hy,W,B⟩:=q;have M:=Zdn (n:=V1.n) (by omega) j ha B;exact⟨μ y,W,y,⟨hy,I,_,by simp[Va.renS,Z],M.1,M.2⟩,rfl⟩
   | exit id=>exact p (.exit id) _ _ _ _ _ _ q j ha
   | goto l=>exact p (.goto l) _ _ _ _ _ _ q j ha
   | ret=>exact p .ret _ _ _ _ _ _ q j ha
  have hk2:∃(own':Os) (I':Imm) (V':Va),Pe st In μ V1.n x1 K e t own' V'.n/\SinceC own0 I0 V0 w0 own' I' V' w/\ARep N I' V' a t:=by
   cases bb with
   | false =>
    refine⟨own,I,V,?_,j,ha⟩;cases e with
    | normal=>obtain⟨y,hy,W,B⟩:=q;exact⟨y,_,hy,W,B⟩
    | _=>exact q
   | true =>
    obtain⟨w2,I2,V2,q,l2⟩:=Yb (show W9 st dd In μ V1.n x1 K e t own V.n from q) rfl j.has;exact⟨w2,I2,V2,q,j.trans l2,ha.mono l2.fro.mono l2.va⟩
  obtain⟨own',I',V',q1,q2,q3⟩:=hk2;have:=fin q1 q2 q3;cases e<;>exact this
 | region id ops dr =>
  refine⟨?_,.no rfl λ_=>rfl⟩;intro t own I V a w K Q h j ha u E p;simp only[Fi,Bool.and_eq_true] at u;have hd:∀o∈ops.toList,∀i,o.dst=some i->i < N:=λo ho i A=>by have:=List.all_eq_true.1 u.1 o ho;rw[A] at this;exact dp this
  have h:Z9h P tb id ops dr t own V.n K:=h;unfold Z9h at h;cases dr with
  | false=>exact wp_region_list (Z1k (own0:=own) (I0:=I) (V0:=V) (w0:=w) hT (λt own I V a w q hl ha=>p .normal _ _ _ _ _ _ q (j.tail hl) ha) h (Later.refl j.has).since ha hd)
  | true =>
   have H:=u.2;cases A:Z7y tb ops with
   | true =>
    have h:(match Z7y tb ops with
     | true=>sxI P tb own V.n ops.toList t λt=>Z79 tb ops.toList V.n λn=>K .normal t own n
     | false=>Z36 tb ops.toList ops.toList 0 λD=>L1 tb D ops.toList ops.toList 0 λlate=>Um tb late t own ops.toList ops.toList 0 [] λXL=>trK own 3 XL λXL=>sxD P tb XL D late ops.toList ops.toList (noB ops.toList) t own V.n (K .normal)):=h
    rw[A] at h;exact Z97 hT hm hd A h j.has ha λt I V a w q hl ha=>p .normal _ _ _ _ _ _ q (j.tail hl.since) ha
   | false =>
   simp only[A,Bool.false_or,Bool.and_eq_true] at H;have hH:Has I V own w.drew:=j.has.heap rfl rfl;have hL2:Since own I V w own I V w.drew:=⟨hH,⟨rfl,rfl,rfl,au _,λ_ _ _=>⟨rfl,λ_=>rfl⟩,λ_ _ _ h=>h,λk r b e F _=>⟨k,r,e,F⟩⟩,au _,λ_ _=>rfl,λ_ _=>rfl⟩;have Z:=Zcc ops.toList;obtain⟨D,O⟩:=Zag (tb:=tb) ops.toList ops.toList 0;obtain⟨late,C⟩:=Z5k (tb:=tb) D ops.toList ops.toList 0;obtain⟨XL,hXL,hvol⟩:=Zah (tb:=tb) j.has ha late ops.toList ops.toList 0 [] (λk q=>by simp at q);have h:Z36 tb ops.toList ops.toList 0 λD=>L1 tb D ops.toList ops.toList 0 λlate=>Um tb late t own ops.toList ops.toList 0 [] λXL=>trK own 3 XL λXL=>sxD P tb XL D late ops.toList ops.toList (noB ops.toList) t own V.n (K .normal):=by
    have h:(match Z7y tb ops with
     | true=>sxI P tb own V.n ops.toList t λt=>Z79 tb ops.toList V.n λn=>K .normal t own n
     | false=>Z36 tb ops.toList ops.toList 0 λD=>L1 tb D ops.toList ops.toList 0 λlate=>Um tb late t own ops.toList ops.toList 0 [] λXL=>trK own 3 XL λXL=>sxD P tb XL D late ops.toList ops.toList (noB ops.toList) t own V.n (K .normal)):=h
    rw[A] at h;exact h
   rw[O,C] at H;obtain⟨XL2,hXL2,T⟩:=Z7v j.has 3 XL hXL;have T:∀K:List Nat->Prop,trK own 3 XL K=K XL2:=T;rw[O,C,hvol,T] at h;refine Uc hm (late:=late) (S:=Agree V XL2 w.drew) ?_;have:=Wa (fu:=ops.toList) (l:=noB ops.toList) hT E H.1 hd (λt own I V a w q hl ha=>p .normal _ _ _ _ _ _ q (j.tail hl) ha) (by rw[Z.2];simp) (by rw[Z.1];exact Kx _ (by simp)) H.2 h hL2 ha hXL2;rw[Z.1] at this;simpa using this
 | rangeFunc f ps x y _ _=>exact⟨λh=>False.elim h,.no rfl λ_=>rfl⟩
 | refuse s=>exact⟨λh=>False.elim h,.no rfl λ_=>rfl⟩
theorem Zt (hT:∀t i,look t tb=some i->TIok P t i)(b:P.follows .mixedOrders=true){c:Code}{t:Ts}{own:Os}{I:Imm}{V:Va}{a:Act}{w:World}{K:KC}{Q:Exit->Act->World->Prop}(h:sxC P tb c t own V.n K)(e:SinceC own0 I0 V0 w0 own I V w)(ha:ARep N I V a t)(q:Fi tb N c=true)(j:∀ch d v a w,Q (.panic ch) (a.put d v) w->Q (.panic ch) a w)(p:Zf7 N own0 I0 V0 w0 K Q):c.wp P Q a w :=
 (Zbq hT b c).1 h e ha q j p
end
section
variable {P:Program} {tb:List (Nat × TI)} {N n:Nat} {I I' I0:Imm} {V V' V0:Va} {a:Act} {t t':Ts} {own own' own0:Os} {w w' w0:World} {g:G} {x y:Value}
def J8 (tmps:Array Value):ResultVar->Sem Value
 | .tmp t=>pure (tmps.getD t undef)
 | .cell x t=>do loadVar t (<-asAddr (tmps.getD x undef))
def E2 (P:Program)(a:Act)(w:World)(r:ResultVar)(v:Value):Prop:=(J8 a.tmps r).run P w=.ok v w
theorem Vx (hT:∀t i,look t tb=some i->TIok P t i){r:ResultVar}{K1:G->Os->Prop}(h:Z8w tb t own K1 r)(hH:Has I V own w)(ha:ARep N I V a t):∃g own' I' V' v,K1 g own'/\V'.n=V.n/\Later own I V w own' I' V' w/\VRep I' g v/\E2 P a w r v:=by
 cases r with
 | tmp i =>
  unfold Z8w at h;dsimp only at h;cases u:look i t with
  | none=>rw[u] at h;exact h.elim
  | some g =>
   rw[u] at h;obtain⟨x,B,hr⟩:=ha.get i g u;obtain⟨J,q,A,z,X,hn,C,Z⟩:=Z2k h hr hH;exact⟨J,q,A,z,x,X,hn.1,C,Z,by unfold E2 J8;simp[B]⟩
 | cell i ty =>
  unfold Z8w at h;dsimp only at h;split at h
  .next k off p u F =>
   obtain⟨x,B,hr⟩:=ha.get i _ u;obtain⟨hk,rfl⟩:=C9 hr;split at h
   .next cs ty' hb =>
    obtain⟨Y,X,E,C⟩:=Oi hH hb;have e:=hT _ _ F;cases hag:p.agg with
    | true =>
     rw[hag] at h;obtain⟨l,k1,k2,-⟩:=Lm h E;obtain⟨l',q,A,z,H,W,M,D⟩:=P5 k1 k2 hH;have s:((Y.drop off).take p.zero.length).length=p.zero.length:=by
      rcases ak p.zero.length with O | O
      .rw[O];simp
      .have:=Q5 h E O;simp;omega
     refine⟨_,q,A,z,_,H,W.1,M,Ze5 D,?_⟩;have:=D1 (P:=P) (w:=w) (g:=V.b k) (k:=off) (ty:=ty) (cs:=(Y.drop off).take p.zero.length) (by rw[e.agg,hag]) (by rw[e.size,s]) (λj v T=>by rw[C];exact Jf T);unfold E2 J8;simp[B,asAddr,this]
    | false =>
     rw[hag,Ea] at h;dsimp only at h;cases hc:cs[off]? with
     | none=>rw[hc] at h;exact h.elim
     | some g =>
      rw[hc] at h;obtain⟨v,T,hg⟩:=E.get hc;obtain⟨J,q,A,z,H,W,M,D⟩:=Di h hg hH;refine⟨J,q,A,z,v,H,W.1,M,D,?_⟩;have c:=(C off).trans T;unfold E2 J8;simp[B,asAddr,loadVar,Gi (P:=P) (show Pu P ty=some false by rw[e.agg,hag]),c]
   .exact h.elim
  .exact h.elim
theorem Z99 (hT:∀t i,look t tb=some i->TIok P t i){r:ResultVar}{K1:G->Os->Prop}(h:Z8w tb t own K1 r)(hH:Has I V own w)(ha:ARep N I V a t):∃g own' I' V' v,K1 g own'/\Later own I V w own' I' V' w/\VRep I' g v/\E2 P a w r v:=by obtain⟨g,o,I',V',v,b,-,c⟩:=Vx hT h hH ha;exact⟨g,o,I',V',v,b,c⟩
theorem Uh (hT:∀t i,look t tb=some i->TIok P t i):∀{rs:List ResultVar} {own:Os} {I:Imm} {V:Va} {K1:List G->Prop},Z9n tb t own rs K1->Has I V own w->ARep N I V a t->∃gs own' I' V',∃vs:List Value,K1 gs/\Later own I V w own' I' V' w/\PW (VRep I') gs vs/\vs.length=rs.length/\∀(i:Nat) r v,rs[i]?=some r->vs[i]?=some v->E2 P a w r v
 | [],own,I,V,K1,h,hH,_=>⟨[],own,I,V,[],h,.refl hH,.nil,rfl,λi r v h=>by simp at h⟩
 | r::rs,own,I,V,K1,h,hH,ha=>by
  obtain⟨g,E,H,F,v,j,b,C,q⟩:=Z99 (K1:=λg w'=>Z9n tb t w' rs λgs=>K1 (g::gs)) hT h hH ha;obtain⟨gs,u,B,V2,vs,z,e,p,A,s⟩:=Uh hT j b.has (ha.mono b.fro.mono b.va);refine⟨g::gs,u,B,V2,v::vs,z,b.trans e,.cons (C.mono e.fro.mono) p,by simp[A],λi r' D hr c=>?_⟩;cases i with
  | zero=>simp at hr c;subst hr c;exact q
  | succ i=>exact s i r' D (by simpa using hr) (by simpa using c)
theorem Vu:∀{rs:List ResultVar} {vs:List Value},vs.length=rs.length->(∀(i:Nat) r v,rs[i]?=some r->vs[i]?=some v->E2 P a w r v)->(rs.mapM (J8 a.tmps)).run P w=.ok vs w
 | [],vs,h,_=>by rw[ay h];simp
 | r::rs,[],h,_=>by simp at h
 | r::rs,v::vs,h,hr=>by have b:=hr 0 r v rfl rfl;have c:=Vu (rs:=rs) (vs:=vs) (by simpa using h) λi r v h e=>hr (i+1) r v (by simpa using h) (by simpa using e);unfold E2 at b;rw[List.mapM_cons,Sem.run_bind,b,Result.andThen_ok,Sem.run_bind,c,Result.andThen_ok,Sem.run_pure]
def N1:List Value->Value
 | [v]=>v
 | vs=>.tuple vs.toArray
theorem Dq {fn:Func}{vs:List Value}(b:vs.length=fn.results.toList.length)(hr:∀(i:Nat) r v,fn.results.toList[i]?=some r->vs[i]?=some v->E2 P a w r v):(results fn a.tmps).run P w=.ok (N1 vs) w:=by
 have h:=Vu b hr;have e:results fn a.tmps=(do let vs <-fn.results.mapM (J8 a.tmps);pure (if h:vs.size=1 then vs[0] else .tuple vs)):=by
  unfold results
  congr 2
 rw[e,Sem.run_bind,Array.mapM_eq_mapM_toList];simp only[Sem.run_map,h,Result.andThen_ok,Sem.run_pure];cases vs with
 | nil=>simp[N1]
 | cons v vs =>
  cases vs with
  | nil=>simp[N1]
  | cons u vs=>simp[N1]
theorem Hf:∀{l:List G} {k i:Nat} {g:G},look i (Jz k l)=some g->∃j,i=k+j/\l[j]?=some g
 | [],k,i,g,h=>by cases h
 | g'::l,k,i,g,h=>by
  unfold Jz at h;rw[Af] at h;split at h
  .next e=>cases h;exact⟨0,by omega,rfl⟩
  .obtain⟨j,c,b⟩:=Hf h;exact⟨j+1,by omega,by simpa using b⟩
theorem Z52 (hT:∀t i,look t tb=some i->TIok P t i)(hm:P.follows .mixedOrders=true){f:FuncId}{fn:Func}{c:Code}{gs:List G}{Q:G->Prop}(hf:P.funcs[f]?=some fn)(A:(fn.name=="runtime.NumGoroutine")=false) (B:fn.body=some c) (Y:gs.length<=fn.ntmps) (hc:Fi tb fn.ntmps c=true)
  (h:sxC P tb c (Jz 0 gs) [] 0 (Zb4 tb fn Q)):FnV P f gs Q:=by
 refine⟨⟨fn,hf,A,by rw[B];rfl⟩,λI w vs hM hp=>?_⟩;let V:Va:=⟨0,λ_=>0,λ_=>undef,λ_ _=>False⟩;have hH:Has I V [] w:=⟨hM,λk r h=>(by cases h),λk r h=>(by cases h),λk r b h=>(by cases h),λk k' r r' b h=>(by cases h)⟩;refine calls_of_wp hf B ?_;have W:vs.length=gs.length:=hp.1.symm;have ha:ARep fn.ntmps I V {tmps:=vs.toArray++Array.replicate (fn.ntmps - vs.toArray.size) undef,defers:=[]} (Jz 0 gs):=by
  refine⟨rfl,by simp;omega,λi g hg=>?_⟩;obtain⟨j,e,hj⟩:=Hf hg;obtain rfl:i=j:=by omega
  obtain⟨u,Z,hr⟩:=hp.get hj;refine⟨u,?_,.of_v hr⟩;have hi:=(aq.1 Z).1;show(vs.toArray++_)[i]?=_;rw[Array.getElem?_append_left (by simpa using hi)];simpa using Z
 refine Zt (own0:=[]) (I0:=I) (V0:=V) (w0:=w) hT hm (V:=V) h ⟨hH,.refl _ _ _ _,au _,λ_ _=>rfl⟩ ha hc (λch d v a w z=>?_) λe t own I1 V1 a C q J O=>?_
 .cases d<;>exact z
 .have key:(∀id,e≠.exit id)->bodyPost P fn (λe w'=>∃x g I',e=.returned x/\Q g/\Mem I' w'/\VR I' g x/\(∀b o x,I b o=some x->I' b o=some x)/\(∀b o,b < w.heap.size->I' b o=I b o)/\Below w.heap.size w w') .ret a C:=λhe=>by
   refine⟨O.defers,?_⟩;have q:match fn.results.toList with
     | [r]=>Z9n tb t own [r] λgs=>match gs with
      | [g]=>Q g
      | _=>False
     | rs=>Z9n tb t own rs λgs=>Q (.tup gs):=by
    cases e with
    | exit id=>exact du rfl (he id)
    | goto l=>exact q.elim
    | normal=>exact q
    | ret=>exact q
   have fin:∀{gs own' I' V' vs},Later own I1 V1 C own' I' V' C->PW (VRep I') gs vs->∀{g x},Q g->VR I' g x->∃x' g I',Ending.returned x=.returned x'/\Q g/\Mem I' C/\VR I' g x'/\(∀b o x,I b o=some x->I' b o=some x)/\(∀b o,b < w.heap.size->I' b o=I b o)/\Below w.heap.size w C:=λ{gs own' I' V' vs} X _ {g x} z H=>by have p:=J.fro.trans X.fro;exact⟨x,g,I',rfl,z,X.has.mem,H,p.mono,λb o B=>(p.blk b B λk r q=>(by cases q)).2 o,⟨p.os,p.tape,p.output,p.size,λb B=>(p.blk b B λk r q=>(by cases q)).1⟩⟩
   split at q
   .next r hr =>
    obtain⟨gs,o2,I2,V2,vs,E,M,D,s,F⟩:=Uh hT q J.has O;rw[<-hr] at s F;refine⟨_,Dq s F,?_⟩;cases gs with
    | nil=>exact E.elim
    | cons g gs =>
     cases gs with
     | cons g' gs=>exact E.elim
     | nil =>
      obtain⟨v,vs',rfl,H,Y⟩:=D.uncons;obtain rfl:=Y.of_nil;refine fin M D E ?_;cases g with
      | tup l=>cases H
      | _=>exact H
   .next rs hr =>
    obtain⟨gs,o2,I2,V2,vs,E,M,D,s,F⟩:=Uh hT q J.has O;refine⟨_,Dq s F,?_⟩;have T:∀v,vs≠[v]:=λv e=>by
     rw[e] at s;cases z:fn.results.toList with
     | nil=>rw[z] at s;simp at s
     | cons r l =>
      cases l with
      | nil=>exact hr r z
      | cons r' l=>rw[z] at s;simp at s
    have e:N1 vs=.tuple vs.toArray:=by
     unfold N1;split
     .next v=>exact du rfl (T v)
     .rfl
    rw[e];exact fin M D E ⟨vs,rfl,D⟩
  cases e with
  | normal=>exact key λid h=>by cases h
  | exit id=>exact q.elim
  | goto l=>exact q.elim
  | ret=>exact key λid h=>by cases h
theorem FnV.mono {f:FuncId}{gs:List G}{Q b:G->Prop}(h:FnV P f gs Q)(c:∀g,Q g->b g):FnV P f gs b :=
 ⟨h.1,λI w vs e j=>(h.2 I w vs e j).mono λ_ _ ⟨x,g,I',h1,h2,h3⟩=>⟨x,g,I',h1,c g h2,h3⟩⟩
theorem Vm (hT:∀t i,look t tb=some i->TIok P t i){r:ResultVar}{K1:G->Os->Prop}(h:Xh tb t own K1 r)(hH:Has I V own w)(ha:ARep N I V a t):∃g own' I' V' v,K1 g own'/\V'.n=V.n/\Later own I V w own' I' V' w/\PRep I' V' g v/\E2 P a w r v:=by
 cases r with
 | tmp i =>
  unfold Xh at h;dsimp only at h;cases hl:look i t with
  | none=>rw[hl] at h;exact h.elim
  | some g =>
   rw[hl] at h;obtain⟨x,A,hr⟩:=ha.get i g hl;obtain⟨q,c,u,p,b,e,s,j⟩:=Yz h hr hH;exact⟨q,c,u,p,x,b,e.1,s,j,by unfold E2 J8;simp[A]⟩
 | cell i ty =>
  obtain⟨q,c,u,p,v,b,e,s,j,z⟩:=Vx (K1:=K1) hT (show Z8w tb t own K1 (.cell i ty) from h) hH ha;exact⟨q,c,u,p,v,b,e,s,.of_v j,z⟩
theorem P4 (hT:∀t i,look t tb=some i->TIok P t i):∀{rs:List ResultVar} {own:Os} {I:Imm} {V:Va} {K1:List G->Os->Prop},U7 tb t own rs K1->Has I V own w->ARep N I V a t->∃gs own' I' V',∃vs:List Value,K1 gs own'/\V'.n=V.n/\Later own I V w own' I' V' w/\PW (PRep I' V') gs vs/\vs.length=rs.length/\∀(i:Nat) r v,rs[i]?=some r->vs[i]?=some v->E2 P a w r v
 | [],own,I,V,K1,h,hH,_=>⟨[],own,I,V,[],h,rfl,.refl hH,.nil,rfl,λi r v h=>by simp at h⟩
 | r::rs,own,I,V,K1,h,hH,ha=>by
  obtain⟨g,J,O,M,v,p,D,b,E,s⟩:=Vm (K1:=λg w'=>U7 tb t w' rs λgs c=>K1 (g::gs) c) hT h hH ha;obtain⟨gs,z,C,V2,vs,A,F,e,q,B,u⟩:=P4 hT p b.has (ha.mono b.fro.mono b.va);refine⟨g::gs,z,C,V2,v::vs,A,F.trans D,b.trans e,.cons (E.mono e.fro.mono e.va) q,by simp[B],λi r' H hr j=>?_⟩;cases i with
  | zero=>simp at hr j;subst hr j;exact s
  | succ i=>exact u i r' H (by simpa using hr) (by simpa using j)
end
structure Za2 (rs:List R)(gs:List G)(own0:Os)(n0:Nat)(gs0:List G)(roots:List Nat):Prop where
 run:∀I V w vs,Has I V (Ev rs 0) w->V.n=rs.length->PW (PRep I V) gs vs->∃V2:Va,V2.n=n0/\Has I V2 own0 w/\PW (TRep I V2) gs0 vs/\Fro (Ev rs 0) I V w own0 I V2 w/\∀(i r:Nat),roots[i]?=some r->V2.b r=V.b i/\r < n0
 len:roots.length=rs.length
section
variable {P:Program} {tb:List (Nat × TI)} {N n n0:Nat} {I I' I0:Imm} {V V' V0 V2:Va} {a:Act} {t t':Ts} {own own' own0:Os} {w w' w0:World} {g:G} {x y:Value} {r:R} {k:Nat}
theorem Cj (rs:List R)(gs:List G):Za2 rs gs (Ev rs 0) rs.length gs (List.range rs.length) :=
 ⟨λI V w vs hH c e=>⟨V,c,hH,e.mono λ_ _ h=>h.to_t,.refl _ _ _ _,λi r h=>by have b:=(aq.1 h).1;rw[da (by simpa using b)] at h;cases h;exact⟨rfl,by simpa using b⟩⟩,by simp⟩
theorem Mk:∀{b:List It} {i:Nat} {it:It} {k:Nat},b[i]?=some it->k∈it.keys->k∈keysL b
 | [],_,_,_,h,_=>by simp at h
 | it0::b,0,it,k,h,hk=>by simp at h;subst h;exact List.mem_append_left _ hk
 | it0::b,i+1,it,k,h,hk=>List.mem_append_right _ (Mk (by simpa using h) hk)
theorem Ps:∀{l m:List Nat},Sk (l++m)=true->Sk l=true/\Sk m=true/\∀k,k∈l->k ∉ m
 | [],m,h=>⟨rfl,h,λk b=>by simp at b⟩
 | k::l,m,h=>by
  rw[dn] at h;unfold Sk at h;cases hm:Fs k (l++m) with
  | true=>rw[hm] at h;cases h
  | false =>
   rw[hm] at h;obtain⟨p,q,s⟩:=Ps h;have e:k ∉ l++m:=λb=>by rw[Ca.2 b] at hm;cases hm
   refine⟨?_,q,λj c=>?_⟩
   .unfold Sk;have:Fs k l=false:=by
     cases hb:Fs k l with
     | false=>rfl
     | true=>exact du (List.mem_append_left _ (Ca.1 hb)) e
    rw[this];exact p
   .rcases bq.1 c with rfl | c
    .exact λh=>e (List.mem_append_right _ h)
    .exact s j c
theorem Nb:∀{c:List It},Sk (keysL c)=true->∀{i j:Nat} {a b:It} {k:Nat},c[i]?=some a->c[j]?=some b->k∈a.keys->k∈b.keys->i=j
 | [],_,i,_,_,_,_,h,_,_,_=>by simp at h
 | it0::c,hn,i,j,a,b,k,hi,hj,hk,hk'=>by
  obtain⟨-,p,e⟩:=Ps (show Sk (it0.keys++keysL c)=true from hn);cases i with
  | zero =>
   cases j with
   | zero=>rfl
   | succ j=>simp at hi;subst hi;exact du (Mk (by simpa using hj) hk') (e k hk)
  | succ i =>
   cases j with
   | zero=>simp at hj;subst hj;exact du (Mk (by simpa using hi) hk) (e k hk')
   | succ j =>
    have:=Nb p (i:=i) (j:=j) (by simpa using hi) (by simpa using hj) hk hk';omega
theorem Qs:∀{b:List It},Sk (keysL b)=true->∀{i:Nat} {a:It},b[i]?=some a->Sk a.keys=true
 | [],_,i,_,h=>by simp at h
 | it0::b,hn,i,a,hi=>by
  obtain⟨c,e,-⟩:=Ps (show Sk (it0.keys++keysL b)=true from hn);cases i with
  | zero=>simp at hi;subst hi;exact c
  | succ i=>exact Qs e (by simpa using hi)
theorem Lx {n0 N:Nat}{M:List (Nat × Nat)}:∀{b:List It} {j:Nat},Z88 own n n0 N M j b->∀{i:Nat} {a:It},b[i]?=some a->a.ok own n n0 N M (j+i)
 | [],_,_,i,_,h=>by simp at h
 | it0::b,j,hn,i,a,hi=>by
  cases i with
  | zero=>simp at hi;subst hi;exact hn.1
  | succ i =>
   have:=Lx (j:=j+1) hn.2 (i:=i) (by simpa using hi);rw[show j+1+i=j+(i+1) by omega] at this;exact this
theorem O3:∀(b:List It) (j i:Nat),look i (Eh b j)=if j<=i then(b[i - j]?).map It.root else none
 | [],j,i=>by simp[Eh,look]
 | it::b,j,i=>by
  rw[Eh,Af,O3 b (j+1) i];by_cases h:i=j
  .subst h;simp
  .by_cases c:j<=i
   .obtain⟨d,rfl⟩:=Nat.exists_eq_add_of_le c;cases d with
    | zero=>simp at h
    | succ d=>rw[dq h,dt (by omega),dt c,show j+(d+1) - (j+1)=d by omega,show j+(d+1) - j=d+1 by omega];simp
   .rw[dq h,dq c,dq (by omega)]
theorem Vl {it:It}{k:Nat}{r:R}(h:look k it.O=some r):ren it.m k∈it.keys:=bj.2 ⟨(k,r),Ox h,rfl⟩
theorem Vd {C:List Nat}{Q:G->List R->Prop}{q:List It}{g':G}(hE:Wu C own V.n g Q q g')(hH:Has I V own w)(hx:PRes I V g x)(s0:Nat->Value):∃V':Va,V'.n=q.length/\Has I V' (Ev (q.map It.res) 0) w/\PRes I V' g' x/\(∀i b,V'.f i b->∃k r,look k own=some r/\V.f k b)/\(∀(i k:Nat),C[i]?=some k->V'.b i=V.b k/\i < q.length)/\∀i,i < C.length->V'.s i=s0 i:=by
 let V':Va:=⟨q.length,λi=>V.b ((q[i]?).elim 0 It.root),λi=>if i < C.length then s0 i else V.s ((q[i]?).elim 0 It.root),λi b=>∃it k r,q[i]?=some it/\look k it.O=some r/\V.f (ren it.m k) b⟩;have X:∀{i:Nat} {it:It} {k:Nat} {r:R},q[i]?=some it->look k it.O=some r->∃r',look (ren it.m k) own=some r':=λ{i it k r} hi A=>by
  have hok:=Lx hE.ok hi;obtain⟨O,m,c⟩:=it;cases c with
  | true =>
   obtain⟨-,-,H⟩:=Gy (show leI m own V.n O from hok.1) A;exact⟨_,H⟩
  | false =>
   obtain⟨r0,e,F,-⟩:=hok;have e:O=[(0,r0)]:=e;subst e;have A:look k [(0,r0)]=some r:=A;rw[Af] at A;split at A
   .next e=>subst e;exact⟨_,F⟩
   .cases A
 have lk:∀{i:Nat} {r:R},look i (Ev (q.map It.res) 0)=some r->∃it,q[i]?=some it/\r=it.res:=λ{i r} h=>by rw[Bi,ax] at h;obtain⟨it,F,W⟩:=bg.1 h;exact⟨it,F,W.symm⟩
 have hb:∀{i:Nat} {it:It},q[i]?=some it->V'.b i=V.b (ren it.m 0):=λ{i it} h=>by show V.b ((q[i]?).elim 0 It.root)=_;rw[h];rfl
 have hs:∀{i:Nat} {it:It},q[i]?=some it->C.length<=i->V'.s i=V.s (ren it.m 0):=λ{i it} h hi=>by show(if i < C.length then s0 i else V.s ((q[i]?).elim 0 It.root))=_;rw[dq (by omega),h];rfl
 have key:∀k,k < q.length->∃it,q[k]?=some it/\(look k (Eh q 0)).getD k=ren it.m 0:=λk A=>by refine⟨q[k],ap A,?_⟩;rw[O3,dt (av _),Nat.sub_zero,ap A];rfl
 refine⟨V',rfl,⟨hH.mem,λi r h=>?_,λi r h=>?_,λi r b h hf=>?_,λi j r r' b h h' hf hf'=>?_⟩,?_,λi b ⟨it,k,r,F,W,E⟩=>(by obtain⟨r',H⟩:=X F W;exact⟨_,r',H,E⟩),λi k A=>?_,λi hi=>dt hi⟩
 .obtain⟨it,F,-⟩:=lk h;exact(aq.1 F).1
 .obtain⟨it,F,rfl⟩:=lk h;have hok:=Lx hE.ok F;obtain⟨O,m,c⟩:=it;cases c with
  | true =>
   obtain⟨W,r0,E⟩:=hok;have W:leI m own V.n O:=W;refine⟨Zbu O,V.ren m V.n,?_,⟨λk r A=>(Gy W A).1,λk r A=>Z55 (Gy W A).2.1 (hH.each _ _ (Gy W A).2.2),λk r b A hf=>(hH.foot _ _ b (Gy W A).2.2 hf).1,λk k' r r' b A hk' hf hf'=>?_⟩,λc=>?_⟩
   .exact(hb F).symm
   .exact Tz (m:=m) (l:=O) (Qs hE.nod F) A hk' (hH.disj _ _ _ _ b (Gy W A).2.2 (Gy W hk').2.2 hf hf')
   .constructor
    .rintro⟨it',k,r,e,A,hf⟩;rw[F] at e;cases e;exact⟨k,r,A,hf⟩
    .rintro⟨k,r,A,hf⟩;exact⟨_,k,r,F,A,hf⟩
  | false =>
   obtain⟨r,e,hlk,hr⟩:=hok;have e:O=[(0,r)]:=e;subst e;simp only[Bool.and_eq_true] at hr;obtain⟨hr1,hr2,hr3⟩:=hr;have B:=hH.each _ _ hlk;have M:V'.f i=V.f (ren m 0):=by
    funext b;apply propext;constructor
    .rintro⟨it',k,r',e,A,hf⟩;rw[F] at e;cases e;have A:look k [(0,r)]=some r':=A;rw[Af] at A;split at A
     .next e=>subst e;exact hf
     .cases A
    .exact λhf=>⟨_,0,r,F,rfl,hf⟩
   have J:=hb F;have Y:=hs F;show RRep I V' i w r;have B:RRep I V (ren m 0) w (Lh (Eh q 0) r):=B;cases r with
   | blk cs t =>
    obtain⟨q1,us,q2,q3⟩:=B;refine⟨λb=>by rw[M,J];exact q1 b,us,by rw[J];exact q2,by simpa using q3.1,λj g u hg hu=>?_⟩;have A:=Ao (show Bp (Si q.length) cs=true from hr1) g (ar hg);have hn:=Ao (show Bp (Zel C.length) cs=true from hr2) g (ar hg);have h:=q3.2 j _ u (by rw[ax,hg];rfl) hu;cases g with
    | ptr k o =>
     have A:=dp A;obtain⟨it,E,H⟩:=key k A;have h:CRep I V (.ptr ((look k (Eh q 0)).getD k) o) u:=h;rw[H] at h;exact⟨A,by rw[hb E];exact h.2⟩
    | mp k =>
     have A:=dp A;obtain⟨it,E,H⟩:=key k A;have h:CRep I V (.mp ((look k (Eh q 0)).getD k)) u:=h;rw[H] at h;exact⟨A,by rw[hb E];exact h.2⟩
    | osl k =>
     have A:=dp A;obtain⟨it,E,H⟩:=key k A;have h:CRep I V (.osl ((look k (Eh q 0)).getD k)) u:=h;rw[H] at h;exact⟨A,by rw[hs E (dp hn)];exact h.2⟩
    | osv k a b c =>
     have A:=dp A;obtain⟨it,E,H⟩:=key k A;have h:CRep I V (.osv ((look k (Eh q 0)).getD k) a b c) u:=h;rw[H] at h;exact⟨A,by rw[hs E (dp hn)];exact h.2⟩
    | _=>exact h
   | slc rows e sz =>
    have hge:C.length<=0+i:=dp (by simpa using hr3);have Y:=Y (by omega);exact⟨λb=>by rw[M,Y];exact B.1 b,by rw[Y];exact B.2⟩
   | vw rows e sz =>
    have hge:C.length<=0+i:=dp (by simpa using hr3);have Y:=Y (by omega);exact⟨λb=>by rw[M,Y];exact B.1 b,by rw[Y];exact B.2⟩
   | froz rows sz =>
    have hge:C.length<=0+i:=dp (by simpa using hr3);have Y:=Y (by omega);exact⟨λb=>by rw[M];exact B.1 b,by rw[Y];exact B.2.1,B.2.2⟩
   | gone=>exact λb=>by rw[M];exact B b
   | mpI l=>exact⟨λb=>by rw[M,J];exact B.1 b,by rw[J];exact B.2⟩
   | mpS l=>exact⟨λb=>by rw[M,J];exact B.1 b,by rw[J];exact B.2⟩
   | sit s pos=>exact⟨λb=>by rw[M,J];exact B.1 b,by rw[J];exact B.2⟩
   | mpX l m ob=>exact⟨λb=>by rw[M,J];exact B.1 b,by rw[J];exact B.2⟩
   | mit j l D last m ob=>exact⟨λb=>by rw[M,J];exact B.1 b,by rw[J];exact B.2⟩
   | abs p=>exact⟨B.1,by rw[M,J];exact B.2⟩
   | lnk j=>cases hr1
   | adr j b =>
    have A:=dp (show Nat.blt j q.length=true from hr1);obtain⟨it,E,H⟩:=key j A;have B:(∀c,¬V.f (ren m 0) c)/\(look j (Eh q 0)).getD j < V.n/\V.b ((look j (Eh q 0)).getD j)=b:=B;rw[H] at B;exact⟨λc=>by rw[M];exact B.1 c,A,by rw[hb E];exact B.2.2⟩
   | fam ps=>exact⟨B.1,by rw[M];exact B.2⟩
 .obtain⟨it,k,r',F,W,E⟩:=hf;obtain⟨r2,H⟩:=X F W;exact hH.foot _ _ b H E
 .obtain⟨it,k,r1,F,W,E⟩:=hf;obtain⟨it',k',r1',h1',h2',h3'⟩:=hf';obtain⟨r2,H⟩:=X F W;obtain⟨r2',h4'⟩:=X h1' h2';have:=hH.disj _ _ _ _ b H h4' E h3';exact Nb hE.nod F h1' (Vl W) (this ▸ Vl h2')
 .have hres:=hE.res;have T:=hE.key;simp only[Bool.and_eq_true] at T;obtain⟨⟨T,Z⟩,hrn⟩:=T;have one:∀g' x,Z9y q.length g'=true->Ze8 g'=true->Z30 C.length g'=true->PRe1 I V (Z3a (Eh q 0) g') x->PRe1 I V' g' x:=λg' x F W h5 h=>by
   cases g' with
   | ptr k o =>
    have A:=dp F;obtain⟨it,E,H⟩:=key k A;have h:PRep I V (.ptr ((look k (Eh q 0)).getD k) o) x:=h;rw[H] at h;exact(show PRep I V' (.ptr k o) x from⟨A,by rw[hb E];exact h.2⟩)
   | mp k =>
    have A:=dp F;obtain⟨it,E,H⟩:=key k A;have h:PRep I V (.mp ((look k (Eh q 0)).getD k)) x:=h;rw[H] at h;exact(show PRep I V' (.mp k) x from⟨A,by rw[hb E];exact h.2⟩)
   | osl k =>
    have A:=dp F;obtain⟨it,E,H⟩:=key k A;have h:PRep I V (.osl ((look k (Eh q 0)).getD k)) x:=h;rw[H] at h;exact(show PRep I V' (.osl k) x from⟨A,by rw[hs E (dp h5)];exact h.2⟩)
   | osv k a b c=>cases W
   | oel k a b c=>cases W
   | orv k a b c d e=>cases W
   | clo f a c=>cases W
   | v z=>exact h
   | tt=>exact h
   | ff=>exact h
   | un=>exact h
   | nl=>exact h
   | agg l=>exact h
   | sl l=>exact h
   | oag l =>
    obtain⟨cs,e,hp⟩:=(show TRep1 I V (.oag (l.map (My (Eh q 0)))) x from h);refine(show TRep1 I V' (.oag l) x from⟨cs,e,by simpa using hp.1,λj g u hg hu=>?_⟩);have A:=Ao (show Bp (Si q.length) l=true from F) g (ar hg);have hn:=Ao (show Bp (Zel C.length) l=true from h5) g (ar hg);have h:=hp.2 j _ u (by rw[ax,hg];rfl) hu;cases g with
    | ptr k o =>
     have A:=dp A;obtain⟨it,E,H⟩:=key k A;have h:CRep I V (.ptr ((look k (Eh q 0)).getD k) o) u:=h;rw[H] at h;exact⟨A,by rw[hb E];exact h.2⟩
    | mp k =>
     have A:=dp A;obtain⟨it,E,H⟩:=key k A;have h:CRep I V (.mp ((look k (Eh q 0)).getD k)) u:=h;rw[H] at h;exact⟨A,by rw[hb E];exact h.2⟩
    | osl k =>
     have A:=dp A;obtain⟨it,E,H⟩:=key k A;have h:CRep I V (.osl ((look k (Eh q 0)).getD k)) u:=h;rw[H] at h;exact⟨A,by rw[hs E (dp hn)];exact h.2⟩
    | osv k a b c =>
     have A:=dp A;obtain⟨it,E,H⟩:=key k A;have h:CRep I V (.osv ((look k (Eh q 0)).getD k) a b c) u:=h;rw[H] at h;exact⟨A,by rw[hs E (dp hn)];exact h.2⟩
    | _=>exact h
   | tup l=>cases F
   | elp l o=>cases(show VRep I (.elp l o) x from h)
  rw[<-hres] at hx;cases g' with
  | tup l =>
   obtain⟨cs,e,hp⟩:=hx;exact⟨cs,e,by simpa using hp.1,λj g u hg hu=>one g u (Ao (show Bp (Z9y q.length) l=true from T) g (ar hg)) (Ao (show Bp Ze8 l=true from Z) g (ar hg)) (Ao (show Bp (Z30 C.length) l=true from hrn) g (ar hg)) (hp.2 j _ u (by rw[ax,hg];rfl) hu)⟩
  | ptr k o=>exact one (.ptr k o) x T Z hrn hx
  | mp k=>exact one (.mp k) x T Z hrn hx
  | osl k=>exact one (.osl k) x T Z hrn hx
  | osv k a b c=>cases Z
  | oel k a b c=>cases Z
  | orv k a b c d e=>cases Z
  | clo f a c=>cases Z
  | v z=>exact hx
  | tt=>exact hx
  | ff=>exact hx
  | un=>exact hx
  | nl=>exact hx
  | agg l=>exact hx
  | sl l=>exact hx
  | oag l=>exact one (.oag l) x T Z hrn hx
  | elp l o=>cases(show VRep I (.elp l o) x from hx)
 .obtain⟨l,hl⟩:=hE.rts;have F:(q.map It.root)[i]?=some k:=by rw[hl,bu (aq.1 A).1];exact A
  rw[ax] at F;obtain⟨it,W,E⟩:=bg.1 F;exact⟨by rw[hb W,<-E];rfl,(aq.1 W).1⟩
theorem Z2s (hT:∀t i,look t tb=some i->TIok P t i)(hm:P.follows .mixedOrders=true){f:FuncId}{fn:Func}{c:Code}{gs C:List G}{rs:List R}{p:List Nat}{Q:G->List R->Prop}(hf:P.funcs[f]?=some fn)(J:(fn.name=="runtime.NumGoroutine")=false) (hb:fn.body=some c) (hn:C.length<=fn.ntmps) (hc:Fi tb fn.ntmps c=true)
  (ho:Za2 rs gs own0 n0 C p) (h:sxC P tb c (Jz 0 C) own0 n0 (Z7s tb fn p Q)):FnO P f gs rs Q:=by
 refine⟨⟨fn,hf,J,by rw[hb];rfl⟩,λI V w vs hH T hp=>?_⟩;obtain⟨V2,h2n,hH2,Y,hF2,H⟩:=ho.run I V w vs hH T hp;refine calls_of_wp hf hb ?_;have hlen:vs.length=C.length:=Y.1.symm;have ha:ARep fn.ntmps I V2 {tmps:=vs.toArray++Array.replicate (fn.ntmps - vs.toArray.size) undef,defers:=[]} (Jz 0 C):=by
  refine⟨rfl,by simp;omega,λi g hg=>?_⟩;obtain⟨j,e,hj⟩:=Hf hg;obtain rfl:i=j:=by omega
  obtain⟨u,hu,hr⟩:=Y.get hj;refine⟨u,?_,hr⟩;have hi:=(aq.1 hu).1;show(vs.toArray++_)[i]?=_;rw[Array.getElem?_append_left (by simpa using hi)];simpa using hu
 rw[<-h2n] at h;refine Zt (own0:=own0) (I0:=I) (V0:=V2) (w0:=w) hT hm (V:=V2) h ⟨hH2,.refl _ _ _ _,au _,λ_ _=>rfl⟩ ha hc (λch d v a w hq=>?_) λe t own I1 V1 a Z D O hA=>?_
 .cases d<;>exact hq
 .have key:(∀id,e≠.exit id)->bodyPost P fn (λe w'=>∃x g z I' V',e=.returned x/\Q g z/\V'.n=z.length/\Has I' V' (Ev z 0) w'/\PRes I' V' g x/\Fro (Ev rs 0) I V w (Ev z 0) I' V' w'/\V.le V') .ret a Z:=λhe=>by
   refine⟨hA.defers,?_⟩;have D:match fn.results.toList with
     | [r]=>U7 tb t own [r] λgs own=>match gs with
      | [g]=>∃A E,Wu p own V1.n g Q A E
      | _=>False
     | rs=>U7 tb t own rs λgs own=>∃A E,Wu p own V1.n (.tup gs) Q A E:=by
    cases e with
    | exit id=>exact du rfl (he id)
    | goto l=>exact D.elim
    | normal=>exact D
    | ret=>exact D
   have fin:∀{own' I' V' g x},V'.n=V1.n->Later own I1 V1 Z own' I' V' Z->PRes I' V' g x->(∃A E,Wu p own' V1.n g Q A E)->∃x' g z I' V',Ending.returned x=.returned x'/\Q g z/\V'.n=z.length/\Has I' V' (Ev z 0) Z/\PRes I' V' g x'/\Fro (Ev rs 0) I V w (Ev z 0) I' V' Z/\V.le V':=λ{own' I' V' g x} hn W hx ⟨A,E,hE⟩=>by
    rw[<-hn] at hE;obtain⟨V4,F,X,k3,B,M,k6⟩:=Vd hE W.has hx V.s;have q:=(hF2.trans O.fro).trans W.fro;refine⟨x,E,A.map It.res,I',V4,rfl,hE.post,by simpa using F,X,k3,⟨q.os,q.tape,q.output,q.size,q.blk,q.mono,λi r b hi hb hlt=>?_⟩,?_,λi hi=>⟨?_,k6 i (by rw[ho.len];omega)⟩⟩
    .obtain⟨k,r',h1,h2⟩:=B i b hb;exact q.foot k r' b h1 h2 hlt
    .rw[F,T,<-ho.len];obtain⟨l,W⟩:=hE.rts;have:=congrArg List.length W;simp at this;omega
    .have hi':i < p.length:=by rw[ho.len];omega
     have hr:=ap hi';obtain⟨h1,h2⟩:=H i _ hr;rw[(M i _ hr).1,(W.va.2 _ (bc (by omega) O.n)).1,O.bb _ (by omega),h1]
   split at D
   .next r hr =>
    obtain⟨gs,o2,I2,V2',vs,F,kn,X,k3,B,M⟩:=P4 hT D O.has hA;rw[<-hr] at B M;refine⟨_,Dq B M,?_⟩;cases gs with
    | nil=>exact F.elim
    | cons g gs =>
     cases gs with
     | cons E gs=>exact F.elim
     | nil =>
      obtain⟨v,vs',rfl,hv,hn⟩:=k3.uncons;obtain rfl:=hn.of_nil;refine fin kn X ?_ F;cases g with
      | tup l=>cases(show VRep I2 (.tup l) v from hv)
      | oag l=>exact(show(∃g∈l,C7 g=false)/\TRep1 I2 V2' (.oag l) v from hv).2
      | _=>exact hv
   .next z hr =>
    obtain⟨gs,o2,I2,V2',vs,F,kn,X,k3,B,M⟩:=P4 hT D O.has hA;refine⟨_,Dq B M,?_⟩;have hv1:∀v,vs≠[v]:=λv e=>by
     rw[e] at B;cases hq:fn.results.toList with
     | nil=>rw[hq] at B;simp at B
     | cons r l =>
      cases l with
      | nil=>exact hr r hq
      | cons r' l=>rw[hq] at B;simp at B
    have e:N1 vs=.tuple vs.toArray:=by
     unfold N1;split
     .next v=>exact du rfl (hv1 v)
     .rfl
    rw[e];exact fin (g:=.tup gs) kn X ⟨vs,rfl,k3.mono λ_ _ h=>.of_p h⟩ F
  cases e with
  | normal=>exact key λid h=>by cases h
  | exit id=>exact D.elim
  | goto l=>exact D.elim
  | ret=>exact key λid h=>by cases h
theorem Iy {α:Type}{p q:α->Bool}(b:∀x,p x=true->q x=true):∀{l:List α},Bp p l=true->Bp q l=true
 | [],_=>rfl
 | x::l,h=>by
  unfold Bp at h⊢;cases hp:p x with
  | false=>rw[hp] at h;cases h
  | true =>
   rw[hp] at h;rw[b x hp];exact Iy b h
theorem Z7 {n:Nat}(g:G)(h:C7 g=true):Si n g=true:=by cases g<;>first | rfl | cases h
theorem O2 {n:Nat}(g:G)(h:Jk g=true):Z9y n g=true:=by
 cases g with
 | oag l=>exact Iy Z7 (show Bp C7 l=true from h)
 | clo f a c=>cases h
 | tup l=>cases h
 | ptr k o=>cases h
 | osl k=>cases h
 | osv k a b c=>cases h
 | oel k a b c=>cases h
 | orv k a b c d e=>cases h
 | mp k=>cases h
 | _=>rfl
theorem Ww {n:Nat}(g:G)(h:S5 g=true):Z38 n g=true:=by
 cases g with
 | tup l=>exact Iy O2 (show Bp Jk l=true from h)
 | oag l=>exact O2 (.oag l) h
 | clo f a c=>cases h
 | ptr k o=>cases h
 | osl k=>cases h
 | osv k a b c=>cases h
 | oel k a b c=>cases h
 | orv k a b c d e=>cases h
 | mp k=>cases h
 | _=>rfl
theorem Wk {n:Nat}{g:G}(h:Jk g=true):Z30 n g=true:=by
 cases g with
 | oag l=>exact Iy (λg h=>by cases g<;>first | rfl | cases h) (show Bp C7 l=true from h)
 | osl k=>cases h
 | _=>rfl
theorem Z5u {n:Nat}{g:G}(h:S5 g=true):Zfv n g=true:=by
 cases g with
 | tup l=>exact Iy (λg h=>Wk h) (show Bp Jk l=true from h)
 | oag l=>exact Wk (g:=.oag l) h
 | osl k=>cases h
 | _=>rfl
theorem Zeq (r:R)(gs:List G):Za2 [r] gs [(0,r)] 1 gs [0]:=Cj [r] gs
theorem Z3m (gs:List G):Za2 [] gs [] 0 gs []:=Cj [] gs
def itL:List (Nat × R)->List It
 | []=>[]
 | (k,r)::l=>⟨[(0,r)],[(0,k)],false⟩::itL l
theorem Za5 {Q:G->List R->Prop}{p:Ob}(j:look 0 own=some (.abs p))(b:(S5 g&&Zet g)=true)(h:Q g [.abs p]):∃c e,Wu [0] own n g Q c e:=by simp only[Bool.and_eq_true] at b;exact⟨[⟨[(0,.abs p)],[],false⟩],g,⟨⟨⟨_,rfl,j,rfl⟩,trivial⟩,rfl,⟨[],rfl⟩,Nj b.1,by rw[Ww g b.1,b.2,Z5u b.1];rfl,h⟩⟩
end
end Go.Proofs.YtmmdikhljefeiaaGreat


import Derived.Test.YtmmdikhljefeiaaGreatSxMa
import Derived.OrdersHeld
import Derived.Deep.RegionHeld
import Derived.Test.YtmmdikhljefeiaaGreatSxMb
import Derived.Deep.LoopGhost
import Derived.ScopeJumps
namespace Go.Proofs.YtmmdikhljefeiaaGreat
open Go.RowKit
section
variable {P:Program} {md:Region.Mode} {ops:Array Oper} {Q:Exit->Act->World->Prop} {S:World->Prop} {late:List Nat}
def Qv (md:Region.Mode)(ops:Array Oper):Nat->Nat->Nat->Bool
 | 0,_,_=>false
 | n+1,j,i=>match ops[j]? with
  | some o=>o.after.toList.any λe=>Region.binds md e&&(e.on==i||Qv md ops n e.on i)
  | none=>false
def Ey (md:Region.Mode)(ops:Array Oper)(b:Array Bool):Prop:=∀j o,ops[j]?=some o->b.getD j false=true->∀e∈o.after,Region.binds md e=true->b.getD e.on false=true
theorem Kq {b:Array Bool}(z:Ey md ops b){i:Nat}:∀(n j:Nat),(∀o,ops[j]?=some o->∀e∈o.after,Region.binds md e=true->b.getD e.on false=true)->Qv md ops n j i=true->b.getD i false=true
 | 0,_,_,h=>by cases h
 | n+1,j,hj,h=>by
  unfold Qv at h;cases ho:ops[j]? with
  | none=>rw[ho] at h;cases h
  | some o =>
   rw[ho] at h;obtain⟨e,B,q⟩:=List.any_eq_true.1 h;rw[be,Bool.or_eq_true] at q;have c:e∈o.after:=by simpa using B
   have u:=hj o ho e c q.1;rcases q.2 with p | p
   .have:e.on=i:=by simpa using p
    rw[<-this];exact u
   .exact Kq z n e.on (λA s=>z e.on A s u) p
theorem Dd {b:Array Bool}(A:Ey md ops b){i:Nat}(hr:i∈Region.ready md ops b):Ey md ops (b.setIfInBounds i true):=λj o s q e z u=>by
 by_cases p:i=j
 .subst p;obtain⟨_,B,c,h⟩:=mem_ready.1 hr;rw[s] at c;injection c with c;subst c;exact getD_set_true (h e z u)
 .rw[getD_set_ne false p] at q;exact getD_set_true (A j o s q e z u)
theorem Km (n:Nat)(h:n=ops.size):Ey md ops (Array.replicate n false):=λj o e c=>by have b:j < ops.size:=(bz.1 e).1;subst h;simp[b] at c
def Z1 (P:Program)(md:Region.Mode)(ops:Array Oper)(Q:Exit->Act->World->Prop)(S:World->Prop)(late:List Nat):Nat->Array Bool->Act->World->Prop
 | 0,b,a,w=>Region.ready md ops b=[]/\Q .normal a w
 | fuel+1,b,a,w =>
  (Region.ready md ops b=[]->Q .normal a w) /\
  ∀i∈Region.ready md ops b,wpOp P ops Q i (λc w'=>(i ∉ late->S w')/\(Ey md ops (b.setIfInBounds i true)->Z1 P md ops Q S late fuel (b.setIfInBounds i true) c w')) a w
def Zcr (md:Region.Mode)(ops:Array Oper)(late:List Nat)(i:Nat):Bool:=late.all λj=>Qv md ops ops.size j i
def AllL (P:Program)(md:Region.Mode)(ops:Array Oper)(Q:Exit->Act->World->Prop)(S:World->Prop)(late:List Nat)(c:Nat)(b:Array Bool)(a:Act)(w:World)(rs:List Nat):Prop :=
 ∀i∈rs,wpOp P ops Q i (λe w'=>(i ∉ late->S w')/\(Ey md ops (b.setIfInBounds i true)->Z1 P md ops Q S late c (b.setIfInBounds i true) e w')) a w
theorem AllL.nil {c:Nat}{b:Array Bool}{a:Act}{w:World}:AllL P md ops Q S late c b a w []:=λ_ h=>by cases h
theorem AllL.cons {c:Nat}{b:Array Bool}{a:Act}{w:World}{i:Nat}{e:Oper}{rs:List Nat}(u:ops[i]?=some e)
  (h:∀K:Act->World->Prop,Shut (∀a w,(i ∉ late->S w)->((i ∉ late->S w)->Ey md ops (b.setIfInBounds i true)->Z1 P md ops Q S late c (b.setIfInBounds i true) a w)->K a w)->if Region.wanted e (yielded ops a.tmps)=true then e.wp P a w K Q else K (a.put e.dst undef) w)
  (s:AllL P md ops Q S late c b a w rs):AllL P md ops Q S late c b a w (i::rs):=λj p=>by
 rcases bq.1 p with rfl | p
 .exact wpOp_step u (λK A=>h K (λa w q z=>A a w ⟨q,z q⟩))
 .exact s j p
end
section
variable {P:Program} {ops:Array Oper} {Q:Exit->Act->World->Prop} {w0 w:World} {L:List (Nat × List Value × TypeId)} {U:List (World × List Nat)} {a:Act} {o:Oper} {ty t:TypeId} {i g k:Nat} {row:List Value} {v:Value}
theorem Env.sub {b:List (World × List Nat)}(h:Env w0 w L U)(c:∀q∈b,q∈U):Env w0 w L b:=⟨h.blw,h.own,h.sep,λq e=>h.sn q (c q e)⟩
theorem Fz (b:o.guard=none):Region.wanted o (yielded ops a.tmps)=true:=by unfold Region.wanted;rw[b]
theorem Z7v {S:World->Prop}(b:Region.wanted o (yielded ops a.tmps)=false):YieldsIf P ops S o undef a:=.inr ⟨b,rfl⟩
theorem Z6j {S:World->Prop}(b:Region.wanted o (yielded ops a.tmps)=true)(hr:∀w,S w->(execOp a.eval o).run P w=.ok (.value v) w):YieldsIf P ops S o v a:=.inl ⟨b,hr⟩
end
section
variable {P:Program} {ops:Array Oper} {w0 w:World} {L:List (Nat × List Value × TypeId)} {U:List (World × List Nat)} {a:Act} {o:Oper} {α:Type} {sz:Nat} {f:α->List Value} {l:List α}
end
section
variable {P:Program} {md:Region.Mode} {ops:Array Oper} {Q:Exit->Act->World->Prop} {S:World->Prop} {late:List Nat}
def Zch (S:World->Prop):Prop:=∀w u,S w->Below w.heap.size w u->S u
def wpAnyG (P:Program)(md:Region.Mode)(ops:Array Oper)(Q:Exit->Act->World->Prop)(late:List Nat):Nat->(World->Prop)->Array Bool->Act->World->Prop
 | 0,_,b,a,w=>∀u,Below w.heap.size w u->Region.ready md ops b=[]/\Q .normal a u
 | fuel+1,S,b,a,w=>∀u,Below w.heap.size w u ->
  (Region.ready md ops b=[]->Q .normal a u) /\
  ∀i∈Region.ready md ops b,wpOp P ops Q i (λe w'=>∃c:World->Prop,(i ∉ late->∀u,c u->S u)/\c w'/\Zch c/\(Ey md ops (b.setIfInBounds i true)->wpAnyG P md ops Q late fuel c (b.setIfInBounds i true) e w')) a u
theorem Nk:∀(c:Nat) (S:World->Prop) (b:Array Bool) (a:Act) (w:World),Ey md ops b->wpAnyG P md ops Q late c S b a w->wpAny P md ops Q c b a w
 | 0,_,_,_,_,_,h=>h _ (.refl _ _)
 | c+1,_,_,_,_,hc,h=>have h:=h _ (.refl _ _);⟨h.1,λi e=>wpOp_mono (λp w' ⟨j,_,_,_,h'⟩=>Nk c j _ p w' (Dd hc e) (h' (Dd hc e))) (h.2 i e)⟩
theorem wpAnyG.grow {c:Nat}{S:World->Prop}{b:Array Bool}{a:Act}{w u:World}(h:wpAnyG P md ops Q late c S b a w)(e:Below w.heap.size w u):wpAnyG P md ops Q late c S b a u:=by
 cases c with
 | zero=>exact λv j=>h v (e.trans (j.mono e.size))
 | succ n=>exact λv j=>h v (e.trans (j.mono e.size))
theorem YieldsIf.sub {o:Oper}{v:Value}{a:Act}{b:World->Prop}(h:YieldsIf P ops S o v a)(c:∀u,b u->S u):YieldsIf P ops b o v a :=
 h.imp (λh=>⟨h.1,λu e=>h.2 u (c u e)⟩) id
theorem R2 {i N:Nat}{X:Oper}{v:Value}(hi:ops[i]?=some X)(J:∀(j:Nat) (o:Oper) cs b,ops[j]?=some o->o.op≠.select cs b)
  (hQ:∀c a w,Q (.panic c) (a.put X.dst v) w->Q (.panic c) a w) (W:∀j∈late,Qv md ops N j i=true) :
  ∀(s:Nat) (S:World->Prop) (p:Array Bool) (a:Act) (w:World),Ey md ops p ->
   (∀j T,ops[j]?=some T->j≠i->p.getD j true=false->(∀e∈T.after,Region.binds md e=true->e.on≠i)->X.apart ops T=true) ->
   i∈Region.ready md ops p->YieldsIf P ops S X v a->S w->Zch S ->
   wpAnyG P md ops Q late s S (p.setIfInBounds i true) (a.put X.dst v) w->wpAnyG P md ops Q late (s+1) S p a w:=by
 intro s
 induction s with
 | zero =>
  intro S p a w hc _ hr hy hS O H u C;refine⟨λh=>(by rw[h] at hr;cases hr),λj hj=>?_⟩;by_cases q:j=i
  .subst q;exact hy.wpOp hi (O _ _ hS C) ⟨S,λ_ _ h=>h,O _ _ hS C,O,λ_=>H.grow C⟩
  .have:=ready_mono hj q;rw[(H u C).1] at this;cases this
 | succ s ih =>
  intro S p a w hc z hr hy hS O H u C;refine⟨λh=>(by rw[h] at hr;cases hr),λj hj=>?_⟩;by_cases q:j=i
  .subst q;exact hy.wpOp hi (O _ _ hS C) ⟨S,λ_ _ h=>h,O _ _ hS C,O,λ_=>H.grow C⟩
  .have h1:=(H u C).2 j (ready_mono hj q);obtain⟨M,T,A,F⟩:=mem_ready.1 hj;have E:=(mem_ready.1 hr).1;have D:∀{b:Bool},p.getD i b=true->b=false->False:=λY hb0=>by
    subst hb0;rcases Nat.lt_or_ge i p.size with h' | h'
    .simp[h'] at E Y;rw[E] at Y;cases Y
    .simp[Array.getElem?_eq_none h'] at Y
   have hjl:j ∉ late:=λhm=>D (Kq hc N j (λo ho=>by rw[A] at ho;injection ho with ho;subst ho;exact F) (W j hm)) rfl
   have hnot:∀e∈T.after,Region.binds md e=true->e.on≠i:=λe he Y heq=>by have h1:=F e he Y;rw[heq] at h1;exact D h1 rfl
   have h2:=wpOp_putIf A (z j T A q M hnot) (λcs b=>J i X cs b hi) (λcs b=>J j T cs b A) hQ hy h1;have B:∀k ok,ops[k]?=some ok->k≠i->(p.setIfInBounds j true).getD k true=false ->
     (∀e∈ok.after,Region.binds md e=true->e.on≠i)->X.apart ops ok=true:=λk ok hk hki Z hno=>by
    refine z k ok hk hki ?_ hno;by_cases hjk:j=k
    .subst hjk;exact M
    .rw[getD_set_ne true hjk] at Z;exact Z
   refine wpOp_mono (λa' w' h3=>?_) h2;obtain⟨hy3,S',hs1,hs2,hs3,h3⟩:=h3;refine⟨S',hs1,hs2,hs3,λhcj=>ih S' (p.setIfInBounds j true) a' w' hcj B (ready_mono hr (Ne.symm q)) (YieldsIf.sub (S:=S) hy3 (hs1 hjl)) hs2 hs3 ?_⟩;rw[Array.setIfInBounds_comm _ _ q];exact h3 (by rw[Array.setIfInBounds_comm _ _ (Ne.symm q)];exact Dd hcj (ready_mono hr (Ne.symm q)))
theorem Pg {i:Nat}{M:Oper}{v:Value}(hi:ops[i]?=some M)(D:∀(j:Nat) (o:Oper) cs b,ops[j]?=some o->o.op≠.select cs b)
  (hQ:∀c a w,Q (.panic c) (a.put M.dst v) w->Q (.panic c) a w) :
  ∀(s:Nat) (S:World->Prop) (p:Array Bool) (a:Act) (w:World),Ey md ops p ->
   (∀j F,ops[j]?=some F->j≠i->p.getD j true=false->(∀e∈F.after,Region.binds md e=true->e.on≠i)->M.apart ops F=true) ->
   i∈Region.ready md ops p->YieldsIf P ops (λ_=>True) M v a->S w->Zch S ->
   wpAnyG P md ops Q late s S (p.setIfInBounds i true) (a.put M.dst v) w->wpAnyG P md ops Q late (s+1) S p a w:=by
 intro s
 induction s with
 | zero =>
  intro S p a w hc _ hr hy hS X H u O;refine⟨λh=>(by rw[h] at hr;cases hr),λj hj=>?_⟩;by_cases q:j=i
  .subst q;exact hy.wpOp hi trivial ⟨S,λ_ _ h=>h,X _ _ hS O,X,λ_=>H.grow O⟩
  .have:=ready_mono hj q;rw[(H u O).1] at this;cases this
 | succ s ih =>
  intro S p a w hc z hr hy hS X H u O;refine⟨λh=>(by rw[h] at hr;cases hr),λj hj=>?_⟩;by_cases q:j=i
  .subst q;exact hy.wpOp hi trivial ⟨S,λ_ _ h=>h,X _ _ hS O,X,λ_=>H.grow O⟩
  .have J:=(H u O).2 j (ready_mono hj q);obtain⟨C,F,E,hall⟩:=mem_ready.1 hj;have B:=(mem_ready.1 hr).1;have hnot:∀e∈F.after,Region.binds md e=true->e.on≠i:=λe he hb heq=>by
    have J:=hall e he hb;rw[heq] at J;rcases Nat.lt_or_ge i p.size with h' | h'
    .simp[h'] at B J;rw[B] at J;cases J
    .simp[Array.getElem?_eq_none h'] at J
   have h2:=wpOp_putIf E (z j F E q C hnot) (λcs b=>D i M cs b hi) (λcs b=>D j F cs b E) hQ hy J;have A:∀k ok,ops[k]?=some ok->k≠i->(p.setIfInBounds j true).getD k true=false ->
     (∀e∈ok.after,Region.binds md e=true->e.on≠i)->M.apart ops ok=true:=λk ok hk hki T hno=>by
    refine z k ok hk hki ?_ hno;by_cases Z:j=k
    .subst Z;exact C
    .rw[getD_set_ne true Z] at T;exact T
   refine wpOp_mono (λa' w' h3=>?_) h2;obtain⟨hy3,S',hs1,W,Y,h3⟩:=h3;refine⟨S',hs1,W,Y,λhcj=>ih S' (p.setIfInBounds j true) a' w' hcj A (ready_mono hr (Ne.symm q)) hy3 W Y ?_⟩;rw[Array.setIfInBounds_comm _ _ q];exact h3 (by rw[Array.setIfInBounds_comm _ _ (Ne.symm q)];exact Dd hcj (ready_mono hr (Ne.symm q)))
def CallsTo (P:Program)(ops:Array Oper)(o:Oper)(v:Value)(a:Act):Prop :=
 Region.wanted o (yielded ops a.tmps)=true/\∃f vs,(∀w,(execOp a.eval o).run P w=.ok (.enter f vs) w)/\∀w,Calls P f vs w λe w'=>e=.returned v/\Below w.heap.size w w'
theorem CallsTo.wpOp {i:Nat}{o:Oper}{v:Value}{a:Act}(j:ops[i]?=some o)(b:CallsTo P ops o v a){K:Act->World->Prop}{w:World}(h:∀w',Below w.heap.size w w'->K (a.put o.dst v) w'):wpOp P ops Q i K a w:=by obtain⟨q,f,vs,p,c⟩:=b;unfold Go.wpOp;simp only[j,q,if_true];refine .inl ?_;unfold Oper.wp;rw[p w,Oper.upon_enter];refine(c w).mono λe w' ⟨s,hb⟩=>?_;subst s;exact h w' hb
theorem CallsTo.of_same {o:Oper}{v:Value}{a b:Act}(c:CallsTo P ops o v a)(h:execOp b.eval o=execOp a.eval o)(e:Region.wanted o (yielded ops b.tmps)=Region.wanted o (yielded ops a.tmps)):CallsTo P ops o v b:=by unfold CallsTo at *;rw[h,e];exact c
theorem Z9 {j:Nat}{p s:Oper}{v:Value}(W:ops[j]?=some s)(E:p.apart ops s=true)(F:∀cs b,p.op≠.select cs b)(C:∀cs b,s.op≠.select cs b)
  (M:∀c a w,Q (.panic c) (a.put p.dst v) w->Q (.panic c) a w) {K:Act->World->Prop} {a:Act} {w:World} (A:CallsTo P ops p v a) (h:wpOp P ops Q j K (a.put p.dst v) w):wpOp P ops Q j (λH w'=>CallsTo P ops p v H/\K (H.put p.dst v) w') a w:=by
 obtain⟨D,O,J⟩:=Oper.apart_spec E;have stay:∀{b:Act},CallsTo P ops p v b->∀u,CallsTo P ops p v (b.put s.dst u):=λ{b} T u=>T.of_same (execOp_put p F b s.dst u J) (wanted_put p b s.dst u J);have q:∀(b:Act) (u:Value),(b.put p.dst v).put s.dst u=(b.put s.dst u).put p.dst v:=λb u=>Act.put_comm b v u O;unfold Go.wpOp at h⊢;simp only[W] at h⊢;rw[wanted_put s a p.dst v D] at h;cases hw:Region.wanted s (yielded ops a.tmps) with
 | false =>
  rw[hw] at h;have h:K ((a.put p.dst v).put s.dst undef) w:=h;rw[q] at h;exact⟨stay A _,h⟩
 | true =>
  rw[hw] at h;have h:(s.wp P (a.put p.dst v) w K Q\/(s.asks P (a.put p.dst v) w/\LetsOut Q)):=h;show(s.wp P a w _ Q\/(s.asks P a w/\LetsOut Q));rcases h with h | ⟨h,hl⟩
  .refine .inl ?_;unfold Oper.wp at h⊢;rw[execOp_put s C a p.dst v D] at h;generalize (execOp a.eval s).run P w=res at h⊢;cases res with
   | ok nx w' =>
    cases nx<;>simp only[Oper.upon] at h⊢
    case value u=>rw[q] at h;exact⟨stay A u,h⟩
    case skip=>rw[q] at h;exact⟨stay A _,h⟩
    case defer d =>
     have e:=q {a with defers:=d::a.defers} undef;refine⟨stay (b:={a with defers:=d::a.defers}) (A.of_same rfl rfl) _,?_⟩;rw[<-e,<-Act.put_defers];exact h
    case enter f vs =>
     refine Calls.mono h λe B z=>?_;cases e with
     | returned u=>have z:K ((a.put p.dst v).put s.dst u) B:=z;rw[q] at z;exact⟨stay A u,z⟩
     | panicked c=>exact M _ _ _ z
     | outgrown=>exact z
    case row row vs=>exact Rows.mono h λu B z=>by rw[q] at z;exact⟨stay A u,z⟩
   | halt x w' =>
    cases x<;>simp only[Oper.upon] at h⊢
    case panic u=>exact M _ _ _ h
  .refine .inr ⟨?_,hl⟩;unfold Oper.asks at h⊢;rw[execOp_put s C a p.dst v D] at h;exact h
theorem Ol {i:Nat}{T:Oper}{v:Value}(hi:ops[i]?=some T)(D:∀(j:Nat) (o:Oper) cs b,ops[j]?=some o->o.op≠.select cs b)
  (hQ:∀c a w,Q (.panic c) (a.put T.dst v) w->Q (.panic c) a w) :
  ∀(s:Nat) (S:World->Prop) (p:Array Bool) (a:Act) (w:World),Ey md ops p ->
   (∀j J,ops[j]?=some J->j≠i->p.getD j true=false->(∀e∈J.after,Region.binds md e=true->e.on≠i)->T.apart ops J=true) ->
   i∈Region.ready md ops p->CallsTo P ops T v a->S w->Zch S ->
   wpAnyG P md ops Q late s S (p.setIfInBounds i true) (a.put T.dst v) w->wpAnyG P md ops Q late (s+1) S p a w:=by
 intro s
 induction s with
 | zero =>
  intro S p a w hc _ hr hy hS F H u W;refine⟨λh=>(by rw[h] at hr;cases hr),λj hj=>?_⟩;by_cases q:j=i
  .subst q;exact hy.wpOp hi λw' O=>⟨S,λ_ _ h=>h,F _ _ (F _ _ hS W) O,F,λ_=>(H.grow W).grow O⟩
  .have:=ready_mono hj q;rw[(H u W).1] at this;cases this
 | succ s ih =>
  intro S p a w hc z hr hy hS F H u W;refine⟨λh=>(by rw[h] at hr;cases hr),λj hj=>?_⟩;by_cases q:j=i
  .subst q;exact hy.wpOp hi λw' O=>⟨S,λ_ _ h=>h,F _ _ (F _ _ hS W) O,F,λ_=>(H.grow W).grow O⟩
  .have M:=(H u W).2 j (ready_mono hj q);obtain⟨C,J,E,hall⟩:=mem_ready.1 hj;have B:=(mem_ready.1 hr).1;have hnot:∀e∈J.after,Region.binds md e=true->e.on≠i:=λe he O heq=>by
    have M:=hall e he O;rw[heq] at M;rcases Nat.lt_or_ge i p.size with h' | h'
    .simp[h'] at B M;rw[B] at M;cases M
    .simp[Array.getElem?_eq_none h'] at M
   have h2:=Z9 E (z j J E q C hnot) (λcs b=>D i T cs b hi) (λcs b=>D j J cs b E) hQ hy M;have A:∀k ok,ops[k]?=some ok->k≠i->(p.setIfInBounds j true).getD k true=false ->
     (∀e∈ok.after,Region.binds md e=true->e.on≠i)->T.apart ops ok=true:=λk ok hk hki X hno=>by
    refine z k ok hk hki ?_ hno;by_cases hjk:j=k
    .subst hjk;exact C
    .rw[getD_set_ne true hjk] at X;exact X
   refine wpOp_mono (λa' w' h3=>?_) h2;obtain⟨hy3,S',hs1,Y,Z,h3⟩:=h3;refine⟨S',hs1,Y,Z,λhcj=>ih S' (p.setIfInBounds j true) a' w' hcj A (ready_mono hr (Ne.symm q)) hy3 Y Z ?_⟩;rw[Array.setIfInBounds_comm _ _ q];exact h3 (by rw[Array.setIfInBounds_comm _ _ (Ne.symm q)];exact Dd hcj (ready_mono hr (Ne.symm q)))
end
section
variable {P:Program} {tb:List (Nat × TI)} {N n:Nat} {I I' I0:Imm} {V V' V0:Va} {a:Act} {t:Ts} {own own' own0:Os} {w w' w0:World} {g:G} {y:Value} {d:Option Tmp}
variable {XL:List Nat} {mo:Mo} {S:World->Prop} {K:Ts->Os->Nat->Prop} {next:Act->World->Prop} {Q:Exit->Act->World->Prop} {o:Oper}
theorem Rk (hT:∀t i,look t tb=some i->TIok P t i)(s:∀k∈mo.xl,∃r,look k own=some r)(B:isR tb o=true->∀u,S u->Agree V mo.xl w u)(j:isQ tb o=true)(h:Jk P tb mo o t own V.n K)(hH:Has I V own w)(ha:ARep N I V a t):QOk S P I V own w a t o K:=by
 obtain⟨dst,op,type,pos,after,guard⟩:=o;cases op with
 | move x=>exact Z6x hH ha (.inl rfl) h
 | assign x =>
  unfold Jk at h;unfold isQ at j;dsimp only at h j;split at h
  .cases j
  .exact Z6x hH ha (.inr rfl) h
 | pick c x y=>exact Zcf hH ha rfl h
 | load ty x=>exact Zcn hT hH ha s (B rfl) rfl h
 | fieldAddr ty x f=>exact U1 hT hH ha rfl h
 | field ty x f=>exact Z9r hT hH ha rfl h
 | indexAddr ty x i=>exact S0 hT hH ha rfl h
 | index ty x i=>exact Z9q hT hH ha rfl h
 | binOp op ty x y ty'=>exact Zd9 hT hH ha rfl h
 | unOp op ty x =>
  cases op with
  | not=>exact Zey hH ha rfl h
  | _=>exact False.elim h
 | extract x i=>exact Z0r hH ha rfl h
 | nilCheck x=>exact Wd hH ha rfl h
 | sliceToArrayPointer ty x=>exact Zff hT hH ha rfl h
 | makeFunc fn p q =>
  cases fn with
  | func f=>exact Xx hH ha rfl h
  | _=>exact False.elim h
 | lookup ty x i ok=>exact Z53 hT s (B rfl) hH ha rfl h
 | build ty parts=>exact Z9b hT hH ha rfl h
 | slice ty x lo hi mx =>
  cases mx with
  | some mx =>
   unfold Jk at h;dsimp only at h;cases lo with
   | some lo=>exact False.elim h
   | none =>
    cases hi with
    | none=>exact False.elim h
    | some hx=>exact Z4v hT hH ha rfl h
  | none=>exact Z96 hT hH ha rfl j h
 | convert src dst x =>
  unfold Jk at h;unfold isQ at j;dsimp only at h j;split at h
  .next p q C A =>
   rw[C,A] at j;dsimp only at j;split at h
   .next e sz E D=>rw[E,D] at j;cases j
   .exact Zbn hT (B rfl) hH ha rfl C A h
  .exact h.elim
 | call c =>
  obtain⟨callee,args,argTypes⟩:=c;cases callee with
  | builtin b =>
   cases b with
   | len =>
    obtain⟨args⟩:=args;obtain⟨argTypes⟩:=argTypes;unfold Jk at h;dsimp only at h;split at h
    .next x ty =>
     split at h
     .next z=>exact Zdm hH ha ((hT _ _ z).str rfl) rfl h
     .next e z=>exact Zce hH ha ((hT _ _ z).elem _ _ rfl).1 rfl h
     .next str e z =>
      refine Zb8 hT s (B ?_) hH ha z rfl rfl h;show Mv (Ze9 tb) [ty]=true;unfold Mv Ze9 Py;rw[z];rfl
     .exact h.elim
    .exact h.elim
   | max =>
    obtain⟨args⟩:=args;unfold Jk at h;dsimp only at h;split at h
    .exact Zef hH ha rfl h
    .exact h.elim
   | min =>
    obtain⟨args⟩:=args;unfold Jk at h;dsimp only at h;split at h
    .exact Zf1 hH ha rfl h
    .exact h.elim
   | _=>cases j
  | _=>cases j
 | _=>cases j
def Z2k (o:Oper):Bool:=match o.op with
 | .call c=>match c.callee with
  | .value _=>true
  | _=>false
 | _=>false
theorem Z1p (hT:∀t i,look t tb=some i->TIok P t i)(C:Z2k o=true->mo=.new)(j:isQ tb o=false)(B:isL tb o=false)(h:Jk P tb mo o t own V.n K)(hH:Has I V own w)(ha:ARep N I V a t)(hd:∀i,o.dst=some i->i < N)(A:NxtB N own I V w K next):o.wp P a w next Q:=by
 obtain⟨dst,op,type,pos,after,guard⟩:=o;cases op with
 | assign x =>
  unfold Jk at h;unfold isQ at j;dsimp only at h j;split at h
  .split at h
   .next e sz _ _ B=>exact Zcc A hH ha hd ((hT _ _ B).elem _ _ rfl).2.choose_spec.choose_spec.2.2.2.2.1 rfl h
   .exact Ry (g:=.nl) A ha hd (by rfl) (.refl hH) (ab _ _) (.refl _) (.of_v .nl) h
  .next T =>
   split at j
   .exact dt rfl (T · )
   .cases j
 | convert src dst x =>
  unfold Jk at h;unfold isQ at j;dsimp only at h j;split at h
  .next p q O F =>
   rw[O,F] at j;dsimp only at j;split at h
   .next e sz u E =>
    split at h
    .next Z=>exact Z4n hH ha hd A rfl ((hT _ _ O).str u) ((hT _ _ F).elem _ _ E).1 (TIok.u8 hT Z) h
    .exact h.elim
   .next H =>
    split at j
    .next e u E=>exact dt E (λE=>(by obtain⟨e,sz⟩:=e;exact H e sz u E))
    .cases j
  .exact h.elim
 | alloc ty=>exact Z6e hT A hH ha hd rfl h
 | box ty x=>exact Zcp A hH ha hd rfl h
 | slice ty z lo hi mx =>
  cases mx with
  | some mx =>
   unfold isQ at j;unfold Jk at h;dsimp only at j h;cases lo with
   | some lo=>exact False.elim h
   | none =>
    cases hi with
    | none=>exact False.elim h
    | some T =>
     split at j
     .next B=>rw[B] at h;exact False.elim h
     .cases j
  | none =>
   unfold isQ at j;unfold Jk at h;dsimp only at j h;split at j
   .next e1 sz e2 e3 e4 B =>
    rw[B] at h;split at h
    .next u=>cases u
    .next u=>cases u
    .next u=>cases u;exact Z3u hT hH ha hd A B rfl h
    .next u=>cases u;exact Z3i hT hH ha hd A B rfl h
    .exact h.elim
   .cases j
 | buildSlice ty len parts=>exact P4 hT A hH ha hd rfl h
 | makeSlice ty len cap=>exact Qx hT A hH ha hd rfl h
 | call c =>
  obtain⟨callee,args,argTypes⟩:=c;cases callee with
  | builtin b=>cases b<;>first | (cases j;done) | (cases B;done) | exact False.elim h
  | value f =>
   have C:=C rfl;subst C;refine Pv (fo:=f) rfl rfl hH ha hd h λt own' I' V' a' w' D s Y J=>?_;obtain⟨ks,X,m2,W,m4⟩:=Y rfl;cases ks with
   | cons k ks=>cases X
   | nil=>exact A _ _ _ _ _ _ D s ⟨s.fro.os,s.fro.tape,s.fro.output,s.fro.size,λb M=>W b M λk D=>by simp at D⟩ (λk D b M=>(m4 k D b M).elim id λh=>(h.1 rfl).elim) J
  | invoke r m=>exact False.elim h
 | makeMap ty r =>
  cases r with
  | some r=>exact False.elim h
  | none=>exact Wp hH ha hd A rfl h
 | range ty x=>exact False.elim h
 | _=>first | (cases j;done) | (cases B;done) | exact False.elim h
theorem Z6n (hT:∀t i,look t tb=some i->TIok P t i)(z:isL tb o=true)(h:Jk P tb mo o t own V.n K)(p:Since own0 I0 V0 w0 own I V w)(ha:ARep N I V a t)(hd:∀i,o.dst=some i->i < N)(u:Nxt N own0 I0 V0 w0 K next):o.wp P a w next Q:=by
 obtain⟨dst,op,type,pos,after,guard⟩:=o;cases op with
 | store ty x y=>exact Z4s hT u p ha hd rfl h
 | mapUpdate ty m k x=>exact Za hT p u ha hd (.inl rfl) h
 | insert ty m k x=>exact Za hT p u ha hd (.inr rfl) h
 | next x b =>
  cases b with
  | true=>exact False.elim h
  | false=>exact False.elim h
 | entry x=>exact False.elim h
 | call c =>
  obtain⟨callee,args,argTypes⟩:=c;cases callee with
  | builtin b =>
   cases b with
   | append =>
    obtain⟨args⟩:=args;obtain⟨argTypes⟩:=argTypes;unfold Jk at h;dsimp only at h;split at h
    .next x y ty B =>
     split at h
     .next e sz _ _ C j =>
      have C:=ax C;subst C;exact Z01 hT u p ha hd j rfl h
     .next j =>
      split at h
      .next s q =>
       have s:=ax s;subst s;exact Pm hT u p ha hd j rfl q rfl rfl h
      .exact h.elim
     .exact h.elim
    .exact h.elim
   | copy =>
    obtain⟨args⟩:=args;obtain⟨argTypes⟩:=argTypes;unfold Jk at h;dsimp only at h;split at h
    .next x y ty B =>
     split at h
     .next j=>exact Z7q hT u p ha hd j rfl h
     .exact h.elim
    .exact h.elim
   | delete =>
    exact False.elim h
   | _=>cases z
  | value f=>exact Pv (fo:=f) rfl rfl p.has ha hd h λt own' I' V' E w' D q _ A=>u _ _ _ _ _ _ D (p.trans q) A
  | _=>cases z
 | _=>cases z
theorem Z0l (hT:∀t i,look t tb=some i->TIok P t i)(B:vsB XL t o=true)(h:Jk P tb (.vs XL) o t own V.n K)(hH:Has I V own w)(hkX:∀k∈XL,k < V.n)(ha:ARep N I V a t)(hd:∀i,o.dst=some i->i < N)(hK:∀t own' I' V' O w',K t own' V'.n->Later own I V w own' I' V' w'->Agree V XL w w'->(∀k∈XL,∀b,V'.f k b->b < w.heap.size->∃k'∈XL,V.f k' b)->ARep N I' V' O t->next O w'):o.wp P a w next Q:=by
 obtain⟨dst,op,type,pos,after,guard⟩:=o;have hv0:=B;unfold vsB at B;cases guard with
 | some g=>cases B
 | none =>
 cases op with
 | store ty x z =>
  cases x with
  | tmp d =>
   dsimp only at B;cases hl:look d t with
   | none=>rw[hl] at B;cases B
   | some g =>
    rw[hl] at B;cases g with
    | ptr k off =>
     dsimp only at B;have hm:=Cc.1 B;obtain⟨y,hy,Y⟩:=ha.get d _ hl;obtain⟨hkn,rfl⟩:=Cb Y;have he:a.eval (.tmp d)=.pointer (some ⟨V.b k,off,none⟩):=by simp[Act.eval,hy]
     unfold Jk at h;dsimp only at h;unfold ev at h;dsimp only at h;rw[hl] at h;dsimp only at h;obtain⟨u,p,hu⟩:=B5 (K:=λu=>G5 own u λcs=>match look ty tb with
      | some i=>Zd3 i.zero.length own cs (match look k own with
       | some (.blk cells J)=>ovr i.zero.length cells off cs λE=>K (put dst .un t) ((k,.blk E J)::own) V.n
       | some (.lnk j)=>match true,look j own,cs with
        | false,some (.slc C e 1),[c]=>Es (off < C.length/\O3 c=true) (K (put dst .un t) ((j,.slc (C.set off [c]) e 1)::own) V.n)
        | _,_,_=>False
       | _=>False)
      | none=>False) h ha hH
     obtain⟨cs,p,hp,-⟩:=He p hu hH;obtain⟨ds,hds⟩:∃ds,(a.eval z).cells.toList=ds:=⟨_,rfl⟩;rw[hds] at hp;cases hty:look ty tb with
     | none=>rw[hty] at p;exact p.elim
     | some i =>
      rw[hty] at p;obtain⟨Z,hcl0,hcn,s,-⟩:=Z2g p;clear p;cases hr:look k own with
      | none=>rw[hr] at s;exact s.elim
      | some r0 =>
       rw[hr] at s;cases r0 with
       | blk cells J =>
        obtain⟨us,k1,k2,-⟩:=N9 hH hr;obtain⟨E,k3,k4,k5⟩:=Qw s k2 hp;have hone:=Z7f hH Z hp;have hlen:ds.length=i.zero.length:=hp.1.symm.trans hcl0;have hdn:ds≠[]:=λe=>by have:=hp.1;rw[e] at this;exact hcn (az (by simpa using this))
        have hrun:=Hy (P:=P) (w:=w) (hT ty i hty).size hds hlen k1 (k5 hdn:off+ds.length<=us.length) hone;have D:=Dj (w':=w.setRow (V.b k) _) (r:=.blk E J) hH hr rfl rfl rfl (by simp[World.setRow]) (λb F=>setRow_other w _ b _ (λe=>F (((hH.each k _ hr).1 b).2 e))) ⟨(hH.each k _ hr).1,_,setRow_heap w _ us.toArray _ J _ k1,k4⟩;unfold Oper.wp;have hex:(execOp a.eval (⟨dst,.store ty (.tmp d) z,type,pos,after,none⟩:Oper)).run P w=.ok .skip (w.setRow (V.b k) (List.take off us++ds++List.drop (off+ds.length) us).toArray):=by simp only[execOp,Sem.run_bind,he,hrun,Result.andThen_ok,Sem.run_pure]
        rw[hex];exact hK _ _ _ _ _ _ k3 D (λb hlt hX=>setRow_other w _ b _ (λe=>hX k hm (((hH.each k _ hr).1 b).2 e))) (λk p b F _=>⟨k,p,F⟩) ((ha.mono D.fro.mono D.va).put hd (.of_v .un))
       | _=>exact s.elim
    | _=>cases B
  | _=>cases B
 | call cl =>
  cases H:cl.callee with
  | value f =>
   refine Pv (mo:=.vs XL) (K:=K) (fo:=f) rfl H hH ha hd ?_ λt own' I' V' O w' p D hm X=>?_
   .have h:=h;unfold Jk at h;dsimp only at h;rw[H] at h;exact h
   .obtain⟨ks,m1,m2,m3,m4⟩:=hm rfl;have M:∀k∈ks,k∈XL:=λk p=>Cc.1 (Ao (show Bw (λk=>Fn k XL) ks=true from m1) k p);refine hK _ _ _ _ _ _ p D (λb F hX=>m3 b F λk p=>hX k (M k p)) (λk p b F hlt=>?_) X;rcases m4 k (hkX k p) b F with Z | ⟨-,⟨k',Z,h2⟩ | Z⟩
    .exact⟨k,p,Z⟩
    .exact⟨k',M k' Z,h2⟩
    .omega
  | builtin bt =>
   obtain⟨callee,⟨args⟩,⟨argTypes⟩⟩:=cl;have H:callee=.builtin bt:=H;subst H;cases bt with
   | append =>
    dsimp only at B;unfold Jk at h;dsimp only at h;split at h
    .next x y ty J =>
     cases x with
     | tmp d =>
      dsimp only at B;cases hl:look d t with
      | none=>rw[hl] at B;cases B
      | some g =>
       rw[hl] at B;obtain⟨z,hz,Y⟩:=ha.get d _ hl;have Y:TRep I V g (a.eval (.tmp d)):=by
        have:a.eval (.tmp d)=z:=by simp[Act.eval,hz]
        rw[this];exact Y
       have hKV:∀t own' I' V' O w',K t own' V'.n->Later own I V w own' I' V' w'->Za1 V w w' g->V.kp V'->ARep N I' V' O t->next O w':=λt own' I' V' O w' p D hf hkp X=>by
        refine hK _ _ _ _ _ _ p D (λb F hX=>?_) (λk p b F _=>⟨k,p,hkp k (hkX k p) b F⟩) X;cases g with
        | osl k=>exact hf b F (hX k (Cc.1 B))
        | nl=>exact hf b F
        | _=>cases B
       have evd:∀{K':G->Prop},ev t own (.tmp d) K'->K' g\/∃C,K' (.sl C):=λ{K'} h=>by
        unfold ev at h;dsimp only at h;rw[hl] at h;cases g with
        | osl k =>
         dsimp only at h;split at h
         .exact .inr ⟨_,h⟩
         .exact .inl h
        | nl=>exact .inl h
        | _=>cases B
       split at h
       .next e sz _ _ F T =>
        have F:=ax F;subst F;rcases evd h with h | ⟨C,h⟩
        .exact Nn (g:=g) hT hH ha hd hKV T rfl Y h
        .obtain⟨q,s,hq⟩:=B5 h ha hH;obtain⟨new,A,c,rs,p,-⟩:=Vi s hq hH;exact p.elim
       .next T =>
        split at h
        .next W D =>
         have W:=ax W;subst W;rcases evd h with h | ⟨C,h⟩
         .exact Hr (g:=g) hT hH ha hd hKV T rfl D rfl rfl Y h
         .obtain⟨q,s,hq⟩:=B5 h ha hH;unfold Zbd at s;split at s
          .exact s.elim
          .exact s.elim
        .exact h.elim
       .exact h.elim
     | _=>cases B
    .exact h.elim
   | _=>cases B
  | _=>rw[show vsB XL t ⟨dst,.call cl,type,pos,after,none⟩=false from ?_] at hv0<;>first | cases hv0 | (unfold vsB;dsimp only;rw[H])
 | _=>cases B
theorem Zab (hT:∀t i,look t tb=some i->TIok P t i)(h:Jk P tb .row o t own V.n K)(b:Since own0 I0 V0 w0 own I V w)(ha:ARep N I V a t)(hd:∀i,o.dst=some i->i < N)(c:Nxt N own0 I0 V0 w0 K next):o.wp P a w next Q:=by
 cases hq:isQ tb o with
 | true=>exact(Rk (S:=λu=>u=w) (mo:=.row) hT (λk e=>by simp[Mo.xl] at e) (λ_ u q=>by subst q;exact λ_ _ _=>rfl) hq h b.has ha).wp rfl c b ha hd
 | false =>
  cases hl:isL tb o with
  | true=>exact Z6n hT hl h b ha hd c
  | false =>
   cases hc:Z2k o with
   | false=>exact Z1p hT (λh=>by rw[hc] at h;cases h) hq hl h b.has ha hd (NxtB.of c b)
   | true =>
    obtain⟨dst,op,type,pos,after,guard⟩:=o;cases op with
    | call cl =>
     obtain⟨callee,args,s⟩:=cl;cases callee with
     | value f=>exact Pv (fo:=f) rfl rfl b.has ha hd h λt own' I' V' z w' e j _ p=>c _ _ _ _ _ _ e (b.trans j) p
     | _=>cases hc
    | _=>cases hc
end
section
variable {P:Program} {tb:List (Nat × TI)} {N n:Nat} {I I' I0:Imm} {V V' V0:Va} {a:Act} {t:Ts} {own own' own0:Os} {w w' w0:World} {g:G} {y:Value} {d:Option Tmp}
variable {K:Ts->Os->Nat->Prop} {next:Act->World->Prop} {Q:Exit->Act->World->Prop} {o:Oper} {ops:Array Oper} {rest:List Oper}
theorem ARep.redo (h:ARep N I V a t){i:Nat}{c:G}{x:Value}(p:a.tmps[i]?=some x)(q:TRep I V c x):ARep N I V a ((i,c)::t) :=
 ⟨h.defers,h.size,λj g b=>by
  rw[Af] at b;split at b
  .next e=>subst e;cases b;exact⟨x,p,q⟩
  .exact h.get j g b⟩
theorem Gm {mo:Mo}(h:sxG P tb mo ops.toList o t own n K)(ha:ARep N I V a t) :
  ∃t',ARep N I V a t'/\((Region.wanted o (yielded ops a.tmps)=true/\Jk P tb mo o t' own n K)\/(Region.wanted o (yielded ops a.tmps)=false/\K (put o.dst .un t') own n)):=by
 unfold sxG at h;split at h
 .next B=>exact⟨t,ha,.inl ⟨Fz B,h⟩⟩
 .next j c B =>
  rw[Ea,Array.getElem?_toList] at h;have q:Region.wanted o (yielded ops a.tmps)=(yielded ops a.tmps j==some c):=by unfold Region.wanted;rw[B]
  cases hd:(ops[j]?).bind (·.dst) with
  | none =>
   rw[hd] at h;exact⟨t,ha,.inr ⟨by rw[q];simp[yielded,hd],h⟩⟩
  | some d =>
   rw[hd] at h;dsimp only at h;have s:∀{x},a.tmps[d]?=some x->yielded ops a.tmps j=match x with | .bool b=>some b | _=>none:=λp=>by
    simp only[yielded,hd,Option.bind_some,p]
    rename_i x
    cases x<;>rfl
   cases hl:look d t with
   | none=>rw[hl] at h;exact h.elim
   | some g =>
    obtain⟨x,p,hr⟩:=ha.get d g hl;rw[hl] at h;cases g with
    | tt =>
     cases(show VRep I .tt x from hr);dsimp only at h;cases c with
     | true=>exact⟨t,ha,.inl ⟨by rw[q,s p];rfl,h⟩⟩
     | false=>exact⟨t,ha,.inr ⟨by rw[q,s p];rfl,h⟩⟩
    | ff =>
     cases(show VRep I .ff x from hr);dsimp only at h;cases c with
     | true=>exact⟨t,ha,.inr ⟨by rw[q,s p];rfl,h⟩⟩
     | false=>exact⟨t,ha,.inl ⟨by rw[q,s p];rfl,h⟩⟩
    | un =>
     cases(show VRep I .un x from hr);exact⟨t,ha,.inr ⟨by rw[q,s p];cases c<;>rfl,h⟩⟩
    | v z =>
     have e:=B0 hr;subst e;cases x with
     | bool b =>
      dsimp only at h;cases c with
      | true =>
       obtain⟨A,u⟩:=h;cases b with
       | true=>exact⟨_,ha.redo p (.of_v .tt),.inl ⟨by rw[q,s p];rfl,A rfl⟩⟩
       | false=>exact⟨_,ha.redo p (.of_v .ff),.inr ⟨by rw[q,s p];rfl,u rfl⟩⟩
      | false =>
       obtain⟨A,u⟩:=h;cases b with
       | true=>exact⟨_,ha.redo p (.of_v .tt),.inr ⟨by rw[q,s p];rfl,A rfl⟩⟩
       | false=>exact⟨_,ha.redo p (.of_v .ff),.inl ⟨by rw[q,s p];rfl,u rfl⟩⟩
     | _=>exact h.elim
    | _=>exact h.elim
theorem Zu (hT:∀t i,look t tb=some i->TIok P t i)(j:Nxt N own0 I0 V0 w0 K (λa w=>Q .normal a w)):∀{rest:List Oper} {t:Ts} {own:Os} {I:Imm} {V:Va} {a:Act} {w:World},sxO P tb ops.toList rest t own V.n K->Since own0 I0 V0 w0 own I V w->ARep N I V a t->(∀o∈rest,∀i,o.dst=some i->i < N)->wpList P ops Q rest a w
 | [],t,own,I,V,a,w,h,hL,ha,_=>j _ _ _ _ _ _ h hL ha
 | o::rest,t,own,I,V,a,w,h,hL,ha,hd=>by
  have e:=hd o (by simp);have b:∀o∈rest,∀i,o.dst=some i->i < N:=λo u=>hd o (by simp[u]);obtain⟨t',c,h⟩:=Gm h ha;rcases h with⟨q,h⟩ | ⟨q,h⟩
  .unfold wpList;rw[dq q];exact .inl (Zab hT h hL c e λt own I V a w s z p=>Zu hT j s z p b)
  .unfold wpList;rw[dp (by rw[q];exact Bool.false_ne_true)];exact Zu hT j h hL (c.put e (.of_v .un)) b
theorem Z86 (l:List Bool)(i:Nat):Zao l i=l.toArray.getD i false:=by unfold Zao;rw[Ea];cases h:l[i]?<;>simp[h]
theorem Hx (l:List Bool)(i:Nat):(Wa l i).toArray=l.toArray.setIfInBounds i true:=by
 have:Wa l i=l.set i true:=by
  induction l generalizing i with
  | nil=>simp[Wa]
  | cons b l ih=>cases i<;>simp[Wa,ih]
 rw[this];simp
theorem Uh (l:List Bool)(es:List Edge):Gp l es=true↔∀e∈es,Region.binds .any e=true->l.toArray.getD e.on false=true:=by
 induction es with
 | nil=>simp[Gp]
 | cons e es ih =>
  unfold Gp;rw[Z86];constructor
  .intro h p b j;cases c:(!Region.binds .any e||l.toArray.getD e.on false) with
   | false=>rw[c] at h;cases h
   | true =>
    rw[c] at h;rcases bq.1 b with rfl | b
    .rw[j,Bool.not_true,Bool.false_or] at c;exact c
    .exact ih.1 h p b j
  .intro h;have c:(!Region.binds .any e||l.toArray.getD e.on false)=true:=by
    cases hb:Region.binds .any e with
    | false=>rfl
    | true=>rw[h e (by simp) hb];rfl
   rw[c];exact ih.2 λp b=>h p (by simp[b])
theorem Ym (l:List Bool):∀(os:List Oper) (c:List Bool) (k i:Nat),i∈rdy l os c k↔∃j o,i=k+j/\os[j]?=some o/\c[j]?=some false/\Gp l o.after.toList=true
 | [],c,k,i=>by simp[rdy]
 | o::os,[],k,i=>by simp[rdy]
 | o::os,b::c,k,i=>by
  have p:=Ym l os c (k+1) i;have key:(∃j h,i=k+j/\(o::os)[j]?=some h/\(b::c)[j]?=some false/\Gp l h.after.toList=true)↔((i=k/\b=false/\Gp l o.after.toList=true)\/∃j h,i=k+1+j/\os[j]?=some h/\c[j]?=some false/\Gp l h.after.toList=true):=by
   constructor
   .rintro⟨j,h,e,h1,h2,h3⟩;cases j with
    | zero=>simp at h1 h2;subst h1 h2;exact .inl ⟨by omega,rfl,h3⟩
    | succ j=>exact .inr ⟨j,h,by omega,by simpa using h1,by simpa using h2,h3⟩
   .rintro(⟨e,h1,h2⟩ | ⟨j,h,e,h1,h2,h3⟩)
    .exact⟨0,o,by omega,by simp,by simp[h1],h2⟩
    .exact⟨j+1,h,by omega,by simpa using h1,by simpa using h2,h3⟩
  rw[key,<-p];show i∈(bif (!b&&Gp l o.after.toList) then k::rdy l os c (k+1) else rdy l os c (k+1))↔_;cases hb:b<;>cases he:Gp l o.after.toList<;>simp
theorem Gr {l:List Bool}(p:l.length=ops.size)(i:Nat):i∈Region.ready .any ops l.toArray↔i∈rdy l ops.toList l 0:=by
 rw[mem_ready,Ym];constructor
 .rintro⟨b,o,h2,h3⟩;have h:=(bz.1 h2).1;refine⟨i,o,by omega,by simpa using h2,?_,(Uh l _).2 λe c=>h3 e (by simpa using c)⟩;have:i < l.length:=by omega
  simp[this] at b;simp[this,b]
 .rintro⟨j,o,e,b,h2,h3⟩;obtain rfl:i=j:=by omega
  exact⟨by simp[h2],o,by simpa using b,λe c=>(Uh l _).1 h3 e (by simpa using c)⟩
theorem Kb {e:List Nat}{ops:List Oper}:∀{rs:List Nat} {i:Nat},Lu tb e ops rs=some i->i∈rs/\∃o,ops[i]?=some o/\isQ tb o=true
 | [],i,h=>by cases h
 | j::rs,i,h=>by
  unfold Lu at h;rw[Ea] at h;cases ho:ops[j]? with
  | none =>
   rw[ho] at h;obtain⟨c,b⟩:=Kb h;exact⟨by simp[c],b⟩
  | some o =>
   rw[ho] at h;dsimp only at h;cases hq:(isQ tb o&&!Fn j e) with
   | true =>
    rw[hq] at h;cases h;rw[be] at hq;exact⟨by simp,o,ho,hq.1⟩
   | false =>
    rw[hq] at h;obtain⟨c,b⟩:=Kb h;exact⟨by simp[c],b⟩
theorem Jo {ops:List Oper}:∀{rs:List Nat} {i:Nat},Qi tb ops rs=some i->i∈rs/\∃o,ops[i]?=some o/\Z95 tb o=true
 | [],i,h=>by cases h
 | j::rs,i,h=>by
  unfold Qi at h;rw[Ea] at h;cases ho:ops[j]? with
  | none =>
   rw[ho] at h;obtain⟨c,b⟩:=Jo h;exact⟨by simp[c],b⟩
  | some o =>
   rw[ho] at h;cases hq:Z95 tb o with
   | true=>dsimp only at h;rw[hq] at h;cases h;exact⟨by simp,o,ho,hq⟩
   | false =>
    dsimp only at h;rw[hq] at h;obtain⟨c,b⟩:=Jo h;exact⟨by simp[c],b⟩
theorem Z5e {ops:List Oper}{rs:List Nat}{i:Nat}(h:Zcx tb ops rs=some i):i∈rs/\∃o,ops[i]?=some o/\Z95 tb o=true:=by
 unfold Zcx at h;split at h
 .exact Jo h
 .cases h
def Mm (tb:List (Nat × TI))(b:List Nat)(ops:Array Oper)(late:List Nat):Nat->List Bool->Bool
 | 0,l=>(rdy l ops.toList l 0).isEmpty
 | fuel+1,l=>match Lu tb b ops.toList (rdy l ops.toList l 0) with
  | some i=>Region.free .any ops l.toArray i&&(match nth ops.toList i with | some o=>!isR tb o||Zcr .any ops late i | none=>false)&&Mm tb b ops late fuel (Wa l i)
  | none=>match Zcx tb ops.toList (rdy l ops.toList l 0) with
   | some i=>Region.free .any ops l.toArray i&&Mm tb b ops late fuel (Wa l i)
   | none=>(rdy l ops.toList l 0).all λi=>Mm tb b ops late fuel (Wa l i)
theorem Q4 {f:Nat->Prop}:∀{l:List Nat},Zcj f l->∀i∈l,f i
 | [],_,i,b=>by cases b
 | [j],h,i,b=>by rw[bx.1 b];exact h
 | j::k::l,h,i,b=>by
  rcases bq.1 b with rfl | b
  .exact h.1
  .exact Q4 (l:=k::l) h.2 i b
theorem C7 (V:Va)(XL:List Nat)(w:World):Agree V XL w w:=λ_ _ _=>rfl
theorem Cp (V:Va)(XL:List Nat)(w:World):Zch (Agree V XL w):=λu _ q p b c s=>by
 have e:=q b c s;have j:b < u.heap.size:=by
  rcases Nat.lt_or_ge b u.heap.size with h | h
  .exact h
  .rw[Array.getElem?_eq_none h,am c] at e;cases e
 rw[p.block b j];exact e
theorem Ze {I:Imm}:∀{l:List G} {cs b:List Value},Y3 l=some cs->l.length=b.length->(∀(j:Nat) g u,l[j]?=some g->b[j]?=some u->VRep I g u)->b=cs
 | [],cs,b,h,hl,_=>by cases h;exact az hl.symm
 | g::l,cs,b,h,hl,hu=>by
  cases b with
  | nil=>simp at hl
  | cons u b =>
   cases g with
   | v x =>
    unfold Y3 at h;cases hc:Y3 l with
    | none=>rw[hc] at h;cases h
    | some cs' =>
     rw[hc] at h;cases h;have e:=hu 0 _ _ rfl rfl;have p:=Ze hc (by simpa using hl) λj g u q c=>hu (j+1) g u (by simpa using q) (by simpa using c);cases e;rw[p]
   | _=>cases h
theorem Us:∀{l:List G} {cs:List Value},Y3 l=some cs->l.length=cs.length/\∀(I:Imm) (j:Nat) g u,l[j]?=some g->cs[j]?=some u->VRep I g u
 | [],cs,h=>by cases h;exact⟨rfl,λI j g u b=>by simp at b⟩
 | g::l,cs,h=>by
  cases g with
  | v x =>
   unfold Y3 at h;cases hc:Y3 l with
   | none=>rw[hc] at h;cases h
   | some cs' =>
    rw[hc] at h;cases h;obtain⟨p,e⟩:=Us hc;refine⟨by simp[p],λI j g u b c=>?_⟩;cases j with
    | zero=>simp at b c;subst b c;exact .v _
    | succ j=>exact e I j g u (by simpa using b) (by simpa using c)
  | _=>cases h
theorem Sv {I:Imm}{g:G}{x y:Value}(h:Z94 g=some x)(b:VRep I g y):y=x:=by
 cases b with
 | v z=>cases h;rfl
 | agg l cs hl hh =>
  have h:(match Y3 l with | some cs=>some (Value.agg cs.toArray) | none=>none)=some x:=h;cases hc:Y3 l with
  | none=>rw[hc] at h;cases h
  | some cs'=>rw[hc] at h;cases h;rw[Ze hc hl hh]
 | _=>cases h
theorem Ve {g:G}{x:Value}(h:Z94 g=some x)(I:Imm):VRep I g x:=by
 cases g with
 | v z=>cases h;exact .v _
 | agg l =>
  have h:(match Y3 l with | some cs=>some (Value.agg cs.toArray) | none=>none)=some x:=h;cases hc:Y3 l with
  | none=>rw[hc] at h;cases h
  | some cs=>rw[hc] at h;cases h;obtain⟨c,b⟩:=Us hc;exact .agg _ _ c (b I)
 | _=>cases h
theorem Z31 {g:G}{x y:Value}(h:Z94 (Z2q g)=some x)(b:TRep I V g y):y=x:=by
 cases g with
 | tt=>cases(show VRep I .tt y from b);cases h;rfl
 | ff=>cases(show VRep I .ff y from b);cases h;rfl
 | nl=>cases h
 | v z=>exact Sv h (show VRep I (.v z) y from b)
 | agg l=>exact Sv h (show VRep I (.agg l) y from b)
 | _=>cases h
theorem Z20 (ha:ARep N I V a t)(hH:Has I V own w):∀{l:List Operand} {K:List G->Prop},Zf5 t own l K->∃gs,K gs/\gs.length=(l.map a.eval).length/\∀(I':Imm) (j:Nat) g u,gs[j]?=some g->(l.map a.eval)[j]?=some u->VRep I' g u
 | [],K,h=>⟨[],h,rfl,λI' j g u p=>by simp at p⟩
 | x::l,K,h=>by
  obtain⟨g,h,p⟩:=B5 h ha hH;cases hc:Z94 (Z2q g) with
  | none=>rw[hc] at h;exact h.elim
  | some z =>
   rw[hc] at h;obtain⟨gs,q,A,s⟩:=Z20 (K:=λgs=>K (Z2q g::gs)) ha hH (l:=l) h;have e:=Z31 hc p;refine⟨Z2q g::gs,q,by simpa using A,λI' j B u b c=>?_⟩;cases j with
   | zero=>simp at b c;subst b c;rw[e];exact Ve hc I'
   | succ j=>exact s I' j B u (by simpa using b) (by simpa using c)
theorem Z2t {ops:Array Oper}{K:Ts->Prop}(B:Z95 tb o=true)(ha:ARep N I V a t)(hH:Has I V own w)(h:Z92 P o t own K):∃g x,CallsTo P ops o x a/\Z94 g=some x/\K (put o.dst g t):=by
 unfold Z92 at h;split at h
 case h_2=>exact h.elim
 next c H =>
 split at h
 case h_2=>exact h.elim
 next f z =>
 obtain⟨gs,⟨g,x,C,E,F⟩,T,M⟩:=Z20 (K:=λgs=>Zbf P f gs λg=>K (put o.dst g t)) ha hH h;have A:o.guard=none:=by
  unfold Z95 at B;split at B
  .next A _=>exact A
  .cases B
 refine⟨g,x,⟨Fz A,f,(c.args.toList.map a.eval).toArray,λu=>?_,λu=>?_⟩,C,F⟩
 .have s:a.eval (.func f)=.func (.func f) #[] #[]:=rfl;have e:∀l:Array Operand,(l.toList.map a.eval).toArray=l.map a.eval:=λl=>by cases l;simp
  obtain⟨callee,args,D⟩:=c;have z:callee=.value (.func f):=z;subst z;have X:∀ty,(do let d <-resolve a.eval ⟨.value (.func f),args,D⟩ ty;invoke d.target d.args:Sem Next).run P u=(callFunc f (args.toList.map a.eval).toArray).run P u:=λty=>by simp[resolve,Deferred.ofValue,s,invoke,e]
  have W:=(X o.type).trans (Qk E.1 u _);simpa only[execOp,H] using W
 .refine(E.2 (λ_ _=>none) u _ (λb o x h=>by cases h) ⟨T,λj J O a1 a2=>M _ j J O a1 a2⟩).mono λe w' ⟨y,q,I',e1,p,e3,e4,_,_,e7⟩=>?_;have p:q=g:=p;rw[p] at e4;have:y=x:=by
   cases g with
   | tup l=>cases C
   | _=>exact Sv C e4
  rw[e1,this];exact⟨rfl,e7⟩
theorem Jv {α:Type}(l:List Bool)(i:Nat)(K:List Bool->α):Ni l i K=K (Wa l i):=by
 induction l generalizing i K with
 | nil=>rfl
 | cons b l ih=>cases i<;>simp[Ni,Wa,ih]
theorem Z13 (k:Nat):∀(r:List Nat) (K:List Nat->Prop),Hl k r K->∃r',K r'
 | [],_,h=>⟨_,h⟩
 | j::l,K,h=>by
  unfold Hl at h;split at h
  .exact⟨_,h⟩
  .obtain⟨r',h⟩:=Z13 k l _ h;exact⟨_,h⟩
theorem Ye:∀(l:List Oper) (r:List Nat) (K:List Nat->Prop),Zba l r K->∃r',K r'
 | [],_,_,h=>⟨_,h⟩
 | o::l,r,K,h=>by
  unfold Zba at h;split at h
  .obtain⟨r',h⟩:=Z13 _ _ _ h;exact Ye l r' K h
  .exact Ye l r K h
theorem Z1r:∀(l:Ts) (r:List Nat) (K:List Nat->Prop),Z8p l r K->∃r',K r'
 | [],_,_,h=>⟨_,h⟩
 | (i,g)::l,r,K,h=>by obtain⟨r',h⟩:=Z13 _ _ _ h;exact Z1r l r' K h
theorem Nj {α:Type}{i j:Nat}{g x:α}{r:List (Nat × α)}(h:look i ((j,g)::r)=some x):i=j/\g=x\/look i r=some x:=by
 unfold look at h;cases hb:Nat.beq i j with
 | true=>rw[hb] at h;exact .inl ⟨ax hb,cu h⟩
 | false=>rw[hb] at h;exact .inr h
theorem Sk (t:Ts):∀(l:List Nat) (b:Ts) (K:Ts->Prop),(∀i g,look i b=some g->look i t=some g)->Zo t l b K->∃t',(∀i g,look i t'=some g->look i t=some g)/\K t'
 | [],_,_,ha,h=>⟨_,ha,h⟩
 | i::l,b,K,ha,h=>by
  unfold Zo at h;split at h
  .next g e =>
   refine Sk t l _ K (λj x c=>?_) h;rcases Nj c with⟨rfl,rfl⟩ | c
   .exact e
   .exact ha _ _ c
  .exact Sk t l b K ha h
theorem Tg (w:Os):∀(n:Nat) (b:Os) (K:Os->Prop),(∀i g,look i b=some g->look i w=some g)->Z54 w n b K->∃w',(∀i g,look i w'=some g->look i w=some g)/\K w'
 | 0,_,_,ha,h=>⟨_,ha,h⟩
 | n+1,b,K,ha,h=>by
  have h:(match look n w with
   | some r=>Z54 w n ((n,r)::b) K
   | none=>Z54 w n b K):=h
  split at h
  .next g e =>
   refine Tg w n _ K (λj x c=>?_) h;rcases Nj c with⟨rfl,rfl⟩ | c
   .exact e
   .exact ha _ _ c
  .exact Tg w n b K ha h
theorem Since.sub (h:Since own0 I0 V0 w0 own I V w)(c:∀k r,look k own'=some r->look k own=some r):Since own0 I0 V0 w0 own' I V w :=
 ⟨⟨h.has.mem,λk r e=>h.has.num k r (c k r e),λk r e=>h.has.each k r (c k r e),λk r b e=>h.has.foot k r b (c k r e),λk j r r' b e p=>h.has.disj k j r r' b (c k r e) (c j r' p)⟩,
  ⟨h.fro.os,h.fro.tape,h.fro.output,h.fro.size,h.fro.blk,h.fro.mono,λk r b e=>h.fro.foot k r b (c k r e)⟩,h.n,h.bb,h.ss⟩
theorem Zfe {next:Act->World->Prop}{u:List Oper}{K:Ts->Os->Nat->Prop}{c:(Ts->Os->Nat->Prop)->Prop}(e:Nxt N own0 I0 V0 w0 K next):∀{rs:List Nat},brK u t K c rs->∃j,Nxt N own0 I0 V0 w0 j next/\c j
 | [],h=>⟨K,e,h⟩
 | [_],h=>⟨K,e,h⟩
 | _::_::_,h=>by obtain⟨L,h⟩:=Ye _ _ _ h;obtain⟨L,h⟩:=Z1r _ _ _ h;refine⟨_,λt own I V a w b s ha=>?_,h⟩;obtain⟨t',p,b⟩:=Sk t L [] _ (λi g h=>by cases h) b;obtain⟨w',q,b⟩:=Tg own V.n [] _ (λi g h=>by cases h) b;exact e _ _ _ _ _ _ b (s.sub q) (ha.sub p)
theorem O1 {u:World}(h:Has I V own w)(c:Below w.heap.size w u):Later own I V w own I V u :=
 ⟨h.below c,⟨c.os,c.tape,c.output,c.size,λb e _=>⟨c.block b e,λ_=>rfl⟩,λ_ _ _ h=>h,λk r _ j p _=>⟨k,r,j,p⟩⟩,.refl _⟩
theorem W3 {XL O late:List Nat}(hT:∀t i,look t tb=some i->TIok P t i)(hQ:∀c d v a w,Q (.panic c) (a.put d v) w->Q (.panic c) a w)(E:Region.noSelect ops=true)(hd:∀o∈ops.toList,∀i,o.dst=some i->i < N) :
  ∀{K:Ts->Os->Nat->Prop} (_:Nxt N own0 I0 V0 w0 K (λa w=>Q .normal a w)) {fu:List Oper} {l:List Bool} {t:Ts} {own:Os} {I:Imm} {V:Va} {a:Act} {w:World},l.length=ops.size->Ey .any ops l.toArray->Mm tb O ops late fu.length l=true->sxD P tb XL O late ops.toList fu l t own V.n K->Since own0 I0 V0 w0 own I V w->ARep N I V a t->(∀k∈XL,k < V.n)->wpAnyG P .any ops Q late fu.length (Agree V XL w) l.toArray a w
 | K,hK,[],l,t,own,I,V,a,w,hl,hc,hok,h,hL,ha,hkX=>by intro u X;refine⟨?_,hK _ _ _ _ _ _ h (hL.trans (O1 hL.has X)) ha⟩;rw[List.length_nil] at hok;unfold Mm at hok;refine List.eq_nil_iff_forall_not_mem.2 λi W=>?_;rw[Gr hl,List.isEmpty_iff.1 hok] at W;cases W
 | K,hK,o0::fu,l,t,own,I,V,a,w,hl,hc,hok,h,hL,ha,hkX=>by
  rw[bn] at hok;show wpAnyG P .any ops Q late (fu.length+1) (Agree V XL w) l.toArray a w;have hl':∀i,(Wa l i).length=ops.size:=λi=>by have:=congrArg Array.size (Hx l i);simp at this;omega
  unfold Mm at hok;have h:Zeu P tb XL O late ops.toList o0 fu (sxD P tb XL O late ops.toList fu) l t own V.n K:=h;unfold Zeu at h;cases Z:Lu tb O ops.toList (rdy l ops.toList l 0) with
  | some i =>
   rw[Z] at h hok;dsimp only at h hok;simp only[Bool.and_eq_true] at hok;obtain⟨⟨k1,k2⟩,k3⟩:=hok;obtain⟨W,o,ho,hq⟩:=Kb Z;rw[Ea,ho] at h k2;dsimp only at h k2;cases hvb:Zcv own XL with
   | false=>rw[hvb] at h;exact h.elim
   | true =>
   rw[hvb] at h;dsimp only at h;have hXL:∀k∈(Mo.quiet XL).xl,∃r,look k own=some r:=λk e=>by
    have:=Ao hvb k e;split at this
    .next r hr=>exact⟨r,hr⟩
    .cases this
   have D:ops[i]?=some o:=by simpa using ho
   have hr:=(Gr hl i).2 W;have C:=hd o (au ho);have hcn:=Dd hc hr;obtain⟨t',p,h⟩:=Gm h ha;have rest:∀{v g},TRep I V g v->(Ni l i λl=>sxD P tb XL O late ops.toList fu l (put o.dst g t') own V.n K)->wpAnyG P .any ops Q late fu.length (Agree V XL w) (l.toArray.setIfInBounds i true) (a.put o.dst v) w:=λhg e=>by rw[<-Hx];rw[Jv] at e;exact W3 hT hQ E hd hK (hl' i) (by rw[Hx];exact hcn) k3 e hL (p.put C hg) hkX
   have finP:∀(v:Value) (g:G),YieldsIf P ops (λ_=>True) o v a->TRep I V g v->(Ni l i λl=>sxD P tb XL O late ops.toList fu l (put o.dst g t') own V.n K)->wpAnyG P .any ops Q late (fu.length+1) (Agree V XL w) l.toArray a w:=λv g hy hg e =>
    Pg D (Region.noSelect_spec E) (λc a w=>hQ c _ _ a w) fu.length _ l.toArray a w hc (Region.free_spec D k1) hr hy (C7 _ _ _) (Cp _ _ _) (rest hg e)
   rcases h with⟨J,h⟩ | ⟨J,h⟩
   .cases hR:isR tb o with
    | false =>
     obtain⟨g,y,e,hy,H⟩:=Rk (S:=λ_=>True) (mo:=.quiet XL) hT hXL (λh=>by rw[hR] at h;cases h) hq h hL.has p;exact finP y g (Z6j J λu _=>H u trivial) hy e
    | true =>
     obtain⟨g,y,e,hy,H⟩:=Rk (S:=Agree V XL w) (mo:=.quiet XL) hT hXL (λ_ u X=>X) hq h hL.has p;rw[hR] at k2;exact R2 D (Region.noSelect_spec E) (λc a w=>hQ c _ _ a w) (λj hj=>List.all_eq_true.1 k2 j hj) fu.length _ l.toArray a w hc (Region.free_spec D k1) hr (Z6j J λu X=>H u X) (C7 _ _ _) (Cp _ _ _) (rest hy e)
   .exact finP undef .un (Z7v J) (.of_v .un) h
  | none =>
   rw[Z] at h hok;dsimp only at h hok;cases hcs:Zcx tb ops.toList (rdy l ops.toList l 0) with
   | some i =>
    rw[hcs] at h hok;dsimp only at h hok;simp only[Bool.and_eq_true] at hok;obtain⟨k1,k3⟩:=hok;obtain⟨W,o,ho,hq⟩:=Z5e hcs;rw[Ea,ho] at h;dsimp only at h;have D:ops[i]?=some o:=by simpa using ho
    have hr:=(Gr hl i).2 W;have C:=hd o (au ho);have hcn:=Dd hc hr;obtain⟨g,x,hcl,hcv,e⟩:=Z2t (ops:=ops) hq ha hL.has h;refine Ol D (Region.noSelect_spec E) (λc a w=>hQ c _ _ a w) fu.length _ l.toArray a w hc (Region.free_spec D k1) hr hcl (C7 _ _ _) (Cp _ _ _) ?_;rw[<-Hx];rw[Jv] at e;exact W3 hT hQ E hd hK (hl' i) (by rw[Hx];exact hcn) k3 e hL (ha.put C (.of_v (Ve hcv I))) hkX
   | none =>
   rw[hcs] at h hok;dsimp only at h hok;intro B X;have hS0:∀v,Agree V XL B v->Agree V XL w v:=λv hv b hb hX=>(hv b (bd hb X.size) hX).trans (X.block b hb);replace hL:=hL.trans (O1 hL.has X);refine⟨λh0=>?_,λi W=>?_⟩
   .have:rdy l ops.toList l 0=[]:=List.eq_nil_iff_forall_not_mem.2 λi W=>by
     rw[<-Gr hl,h0] at W;cases W
    rw[this] at h;exact hK _ _ _ _ _ _ h hL ha
   .have Y:=(Gr hl i).1 W;have hk3:=List.all_eq_true.1 hok i Y;have hcn:=Dd hc W;obtain⟨-,o,D,-⟩:=mem_ready.1 W;have ho:ops.toList[i]?=some o:=by simpa using D
    have C:=hd o (au ho);obtain⟨K,hK,h⟩:=(by
     cases hr:rdy l ops.toList l 0 with
     | nil=>rw[hr] at Y;cases Y
     | cons j rs=>rw[hr] at h Y;obtain⟨K',hK',h⟩:=Zfe hK h;exact⟨K',hK',Q4 h i Y⟩:∃K,Nxt N own0 I0 V0 w0 K (λa B=>Q .normal a B)/\match nth ops.toList i with
      | some o=>match isL tb o with
       | false=>sxG P tb .new ops.toList o t own V.n λt B n=>Ni l i λl=>sxD P tb XL O late ops.toList fu l t B n K
       | true=>match Fn i late with
        | true=>sxG P tb .late ops.toList o t own V.n λt B n=>Ni l i λl=>sxD P tb XL O late ops.toList fu l t B n K
        | false=>match vsG XL t o,Zcv own XL with
         | true,true=>sxG P tb (.vs XL) ops.toList o t own V.n λt B n=>Ni l i λl=>sxD P tb XL O late ops.toList fu l t B n K
         | _,_=>False
      | none=>False)
    rw[Ea,ho] at h;dsimp only at h;have z:∀{t own' I' V' a' M},(Ni l i λl=>sxD P tb XL O late ops.toList fu l t own' V'.n K)->Since own I V B own' I' V' M->ARep N I' V' a' t->Ey .any ops (l.toArray.setIfInBounds i true)->wpAnyG P .any ops Q late fu.length (Agree V' XL M) (l.toArray.setIfInBounds i true) a' M:=λe q F A=>by rw[<-Hx];rw[Jv] at e;exact W3 hT hQ E hd hK (hl' i) (by rw[Hx];exact hcn) hk3 e (hL.tail q) F (λk e=>bd (hkX k e) q.n)
    have sub:∀{own' I' V' M},Later own I V B own' I' V' M->Agree V XL B M->(∀k∈XL,∀b,V'.f k b->b < B.heap.size->∃k'∈XL,V.f k' b)->∀u,Agree V' XL M u->Agree V XL w u:=λq hA Z u X=>hS0 u λb hb hX=>by
     rw[<-hA b hb hX];exact X b (bd hb q.fro.size) λk e hfb=>by obtain⟨k',h1,h2⟩:=Z k e b hfb hb;exact hX k' h1 h2
    refine wpOp_step D λK1 T=>?_;have skip:∀{t'},ARep N I V a t'->(Ni l i λl=>sxD P tb XL O late ops.toList fu l (put o.dst .un t') own V.n K)->K1 (a.put o.dst undef) B:=λp h=>T _ _ ⟨_,λ_=>hS0,C7 _ _ _,Cp _ _ _,λA=>z h (Later.refl hL.has).since (p.put C (.of_v .un)) A⟩;cases hli:isL tb o with
    | false =>
     rw[hli] at h;dsimp only at h;obtain⟨t',p,h⟩:=Gm h ha;rcases h with⟨J,h⟩ | ⟨J,h⟩
     .rw[dq J];cases hq:isQ tb o with
      | true =>
       obtain⟨g,y,e,hy,H⟩:=Rk (S:=λu=>u=B) (mo:=.new) hT (λk e=>by cases e) (λ_ u X=>by rw[X];exact C7 _ _ _) hq h hL.has p;have hop:∀{Q2:Act->World->Prop},Q2 (a.put o.dst y) B->o.wp P a B Q2 Q:=λ{Q2} h2=>by unfold Oper.wp;rw[H B rfl];exact h2
       exact hop (T _ _ ⟨_,λ_=>hS0,C7 _ _ _,Cp _ _ _,λA=>z e (Later.refl hL.has).since (p.put C hy) A⟩)
      | false =>
      exact Z1p (mo:=.new) hT (λ_=>rfl) hq hli h hL.has p C λt own I V a w1 e q hb hkp F=>T _ _ ⟨_,λ_=>sub q (λb hb' _=>hb.block b hb') (λk e b Z _=>⟨k,e,hkp k (hkX k e) b Z⟩),C7 _ _ _,Cp _ _ _,λA=>z e q.since F A⟩
     .rw[dp (by rw[J];exact Bool.false_ne_true)];exact skip p h
    | true =>
     rw[hli] at h;dsimp only at h;cases hm:Fn i late with
     | true =>
      rw[hm] at h;dsimp only at h;obtain⟨t',p,h⟩:=Gm h ha;rcases h with⟨J,h⟩ | ⟨J,h⟩
      .rw[dq J];exact Z6n (mo:=.late) (own0:=own) (I0:=I) (V0:=V) (w0:=B) hT hli h (Later.refl hL.has).since p C λt own I V a w1 e q F=>T _ _ ⟨_,λhn=>dt (Cc.1 hm) hn,C7 _ _ _,Cp _ _ _,λA=>z e q F A⟩
      .rw[dp (by rw[J];exact Bool.false_ne_true)];exact skip p h
     | false =>
      rw[hm] at h;dsimp only at h;cases s:vsG XL t o with
      | false=>rw[s] at h;exact h.elim
      | true =>
       cases hvb:Zcv own XL with
       | false=>rw[s,hvb] at h;exact h.elim
       | true =>
       rw[s,hvb] at h;cases hgn:o.guard with
       | none =>
        have s:vsB XL t o=true:=by unfold vsG at s;rw[hgn] at s;exact s
        dsimp only at h;unfold sxG at h;rw[hgn] at h;rw[dq (Fz hgn)];exact Z0l hT s h hL.has hkX ha C λt own I V a w1 e q hA Z F=>T _ _ ⟨_,λ_=>sub q hA Z,C7 _ _ _,Cp _ _ _,λA=>z e q.since F A⟩
       | some gd =>
        dsimp only at h;obtain⟨t',p,h⟩:=Gm h ha;rcases h with⟨J,h⟩ | ⟨J,h⟩
        .rw[dq J];have hvs2:vsB XL t' {o with guard:=none}=true:=by
          unfold vsG at s;rw[hgn] at s;obtain⟨dst,op,type,pos,after,guard⟩:=o;cases op with
          | call cl =>
           dsimp only at s;cases hce:cl.callee with
           | value f=>unfold vsB;dsimp only;rw[hce]
           | _=>rw[hce] at s;cases s
          | _=>cases s
         have h2:Jk P tb (.vs XL) {o with guard:=none} t' own V.n λt B n=>Ni l i λl=>sxD P tb XL O late ops.toList fu l t B n K:=by obtain⟨dst,op,type,pos,after,guard⟩:=o;exact h
         have key:=Z0l (o:={o with guard:=none}) (Q:=Q) (K:=λt B n=>Ni l i λl=>sxD P tb XL O late ops.toList fu l t B n K) hT hvs2 h2 hL.has hkX p C λt own I V a w1 e q hA Z F=>T _ _ ⟨_,λ_=>sub q hA Z,C7 _ _ _,Cp _ _ _,λA=>z e q.since F A⟩;exact key
        .rw[dp (by rw[J];exact Bool.false_ne_true)];exact skip p h
end
theorem Ql {P:Program}{ops:Array Oper}{Q:Exit->Act->World->Prop}(Inv:Array Bool->Act->World->Prop)
  (q:∀c a w i,Inv c a w->i∈Region.ready .any ops c->wpOp P ops Q i (λz w'=>Inv (c.setIfInBounds i true) z w') a w)
  (p:∀c a w,Inv c a w->Region.ready .any ops c=[]->Q .normal a w) :
  ∀(j:Nat) (c:Array Bool) (a:Act) (w:World),c.toList.count false=j->Inv c a w->wpAny P .any ops Q j c a w
 | 0,c,a,w,hc,hi=>by
  have hr:Region.ready .any ops c=[]:=List.eq_nil_iff_forall_not_mem.2 λi h=>by
   have h:=(mem_ready.1 h).1;have:c.toList[i]?=some false:=by
    rw[Array.getElem?_toList];cases e:c[i]? with
    | none=>simp[Array.getD_eq_getD_getElem?,e] at h
    | some b=>simp[Array.getD_eq_getD_getElem?,e] at h;rw[h]
   have:=List.count_pos_iff.2 (au this);omega
  exact⟨hr,p _ _ _ hi hr⟩
 | j+1,c,a,w,hc,hi=>by
  refine⟨p _ _ _ hi,λi hr=>?_⟩;refine wpOp_mono (λz w' h=>Ql Inv q p j _ z w' ?_ h) (q _ _ _ _ hi hr);have h:=(mem_ready.1 hr).1;have u:i < c.size:=by
   rcases Nat.lt_or_ge i c.size with s | s
   .exact s
   .simp[Array.getElem?_eq_none s] at h
  have A:c.toList[i]'(by simpa using u)=false:=by simpa [Array.getD_eq_getD_getElem?,Array.getElem?_eq_getElem u] using h
  rw[Array.toList_setIfInBounds,List.count_set (by simpa using u),A];rw[dq (by rfl),dp (by decide)];omega
theorem Zbq {P:Program}{o:Oper}{a:Act}{w:World}{next:Act->World->Prop}{Q:Exit->Act->World->Prop}(h:o.wp P a w next Q):o.wp P a w (λp w'=>next p w'/\∃v ds,p=({a with defers:=ds}:Act).put o.dst v) Q:=by
 unfold Oper.wp at *;generalize (execOp a.eval o).run P w=r at *;cases r with
 | ok n w' =>
  cases n<;>simp only[Oper.upon] at h⊢
  case value u=>exact⟨h,u,a.defers,rfl⟩
  case skip=>exact⟨h,undef,a.defers,rfl⟩
  case defer d=>exact⟨h,undef,d::a.defers,rfl⟩
  case enter f args =>
   refine Calls.mono h λe j b=>?_;cases e with
   | returned u=>exact⟨b,u,a.defers,rfl⟩
   | panicked c=>exact b
   | outgrown=>exact b
  case row row args=>exact Rows.mono h λu j b=>⟨b,u,a.defers,rfl⟩
 | halt x w' =>
  cases x<;>simp only[Oper.upon] at h⊢
  case panic u=>exact h
theorem Z4b {own:Os}{I I':Imm}{V V':Va}{w w':World}{c:List (List G)}{e sz:Nat}(H:∀k r,look k own=some r->k < V.n)(C:Later own I V w ((V.n,.slc c e sz)::own) I' V' w'):∃u V2,V2.n=V'.n/\Later own I V w own u V2 w'/\(I'.le u/\V'.le V2)/\∀y,CRep I' V' (.osl V.n) y->VRep u (.sl c) y:=by
 have A:look V.n ((V.n,R.slc c e sz)::own)=some (.slc c e sz):=by unfold look;rw[show Nat.beq V.n V.n=true from Nat.beq_refl _];rfl
 have z:∀(F:R) (l:Os),(∀k r,look k own=some r->look k l=some r)->∀k r,look k own=some r->look k ((V.n,F)::l)=some r:=λF l O k r h=>by
  have Z:=H k r h;unfold look;cases e:Nat.beq k V.n with
  | true=>have:=ax e;omega
  | false=>exact O k r h
 obtain⟨E,B⟩:∃E,CRep I' V' (.osl V.n) E:=⟨V'.s V.n,C.has.num _ _ A,rfl⟩;obtain⟨X,Y,u,V2,⟨rfl,rfl⟩,⟨T,-⟩,q,W⟩:=Dg (K1:=λg o=>g=.sl c/\o=(V.n,.froz c sz)::(V.n,.slc c e sz)::own) (by unfold Z4g;dsimp only;rw[A];exact⟨rfl,rfl⟩) B C.has;have j:=C.trans q;have p:=z (.froz c sz) _ (z (.slc c e sz) own λ_ _ h=>h);refine⟨u,V2,T,⟨⟨j.has.mem,λk r h=>j.has.num k r (p k r h),λk r h=>j.has.each k r (p k r h),λk r b h=>j.has.foot k r b (p k r h),λk D r r' b h M=>j.has.disj k D r r' b (p k r h) (p D r' M)⟩,⟨j.fro.os,j.fro.tape,j.fro.output,j.fro.size,j.fro.blk,j.fro.mono,λk r b h=>j.fro.foot k r b (p k r h)⟩,j.va⟩,⟨q.fro.mono,q.va⟩,λy J=>?_⟩;rw[J.2,<-B.2];exact W
def Y6:List Oper->List G->Ts->Ts
 | o::l,g::gs,t=>Y6 l gs (match o.dst with
  | some d=>(d,g)::t
  | none=>t)
 | _,_,t=>t
theorem Rm {P:Program}{tt:List (Nat × TI)}{own:Os}{n0:Nat}{K:Ts->Prop}:∀{l:List Oper} {t:Ts},sxI P tt own n0 l t K->∃gs,gs.length=l.length/\K (Y6 l gs t)/\∀(i:Nat) o,l[i]?=some o->∃d g,o.dst=some d/\gs[i]?=some g/\∀n,n0<=n->Za0 P tt o (Y6 (l.take i) (gs.take i) t) own n d g
 | [],t,h=>⟨[],rfl,h,λi o b=>by simp at b⟩
 | o::l,t,h=>by
  have h:Zez P tt own n0 o l (sxI P tt own n0 l) t K:=h;unfold Zez at h;split at h
  .exact h.elim
  next d hd =>
  obtain⟨g,q,p⟩:=h;obtain⟨gs,e,u,c⟩:=Rm p;refine⟨g::gs,by simp[e],?_,λi s b=>?_⟩
  .unfold Y6;rw[hd];exact u
  .cases i with
   | zero =>
    simp at b;subst b;exact⟨d,g,hd,rfl,q⟩
   | succ i =>
    obtain⟨C,A,D,j,z⟩:=c i s (by simpa using b);refine⟨C,A,D,by simpa using j,λn B=>?_⟩;have:=z n B;rw[List.take_succ_cons,List.take_succ_cons];unfold Y6;rw[hd];exact this
theorem Z1u {α:Type}{i j:Nat}{g:α}{t:List (Nat × α)}(h:i≠j):look i ((j,g)::t)=look i t:=by
 show(bif Nat.beq i j then some g else look i t)=look i t;cases e:Nat.beq i j with
 | true=>exact dt (ax e) h
 | false=>rfl
theorem S7 {α:Type}{i:Nat}{g:α}{t:List (Nat × α)}:look i ((i,g)::t)=some g:=by unfold look;rw[show Nat.beq i i=true from Nat.beq_refl _];rfl
theorem Vf {s:Nat}:∀{l:List Oper} {gs:List G} {t:Ts},(∀o∈l,o.dst≠some s)->look s (Y6 l gs t)=look s t
 | [],gs,t,_=>by unfold Y6;rfl
 | o::l,[],t,_=>by unfold Y6;rfl
 | o::l,g::gs,t,h=>by
  unfold Y6;rw[Vf λo b=>h o (List.mem_cons_of_mem _ b)];split
  .next d hd=>exact Z1u λe=>h o List.mem_cons_self (by rw[hd,e])
  .rfl
theorem Yd {d:Nat}{g:G}{o:Oper}:∀{l:List Oper} {gs:List G} {t:Ts} {j:Nat},(l.map (·.dst)).Nodup->l[j]?=some o->o.dst=some d->gs[j]?=some g->look d (Y6 l gs t)=some g
 | [],gs,t,j,_,h,_,_=>by simp at h
 | o'::l,[],t,j,_,_,_,h=>by simp at h
 | o'::l,g'::gs,t,j,hn,h,hd,hg=>by
  rw[cv,List.nodup_cons] at hn;unfold Y6;cases j with
  | zero =>
   simp at h hg;subst h hg;rw[Vf λo b e=>hn.1 (by rw[hd,<-e];exact bk.2 ⟨o,b,rfl⟩),hd];exact S7
  | succ j=>exact Yd hn.2 (by simpa using h) hd (by simpa using hg)
theorem If {s:Nat}{g:G}{t:Ts}:∀{l:List Nat},look s (Z8t t l)=some g->s∈l/\look s t=some g
 | [],h=>by unfold Z8t at h;cases h
 | i::l,h=>by
  unfold Z8t at h;split at h
  .next c b =>
   by_cases e:s=i
   .subst e;rw[S7] at h;exact⟨List.mem_cons_self,by rw[b,h]⟩
   .rw[Z1u e] at h;exact⟨List.mem_cons_of_mem _ (If h).1,(If h).2⟩
  .exact⟨List.mem_cons_of_mem _ (If h).1,(If h).2⟩
def Su (tt:List (Nat × TI)):List Oper->List Bool->Nat
 | o::l,b::bs=>Su tt l bs+(bif b&&!isQ tt o then 1 else 0)
 | _,_=>0
theorem Z02 {tt:List (Nat × TI)}{o:Oper}:∀{l:List Oper} {b:List Bool} {i:Nat},l[i]?=some o->b[i]?=some false->Su tt l (b.set i true)=Su tt l b+(bif isQ tt o then 0 else 1)
 | [],b,i,h,_=>by simp at h
 | o'::l,[],i,_,h=>by simp at h
 | o'::l,b'::b,0,h,hb=>by simp at h hb;subst h hb;show Su tt l b+(bif true&&!isQ tt o' then 1 else 0)=Su tt l b+(bif false&&!isQ tt o' then 1 else 0)+_;cases isQ tt o'<;>rfl
 | o'::l,b'::b,i+1,h,hb=>by show Su tt l (b.set i true)+_=Su tt l b+_+_;rw[Z02 (l:=l) (by simpa using h) (by simpa using hb)];omega
structure Zbk (tt:List (Nat × TI))(N:Nat)(ops:Array Oper):Prop where
 grd:∀o∈ops.toList,o.guard=none
 nod:(ops.toList.map (·.dst)).Nodup
 lt:∀o∈ops.toList,∀d,o.dst=some d->d < N
 back:∀(i:Nat) o,ops[i]?=some o->∀e∈o.after,Region.binds .any e=true->e.on < i
 dep:∀(i:Nat) o s,ops[i]?=some o->s∈Q5 o->(∀o'∈ops.toList,o'.dst≠some s)\/∃(j:Nat) (o':Oper),ops[j]?=some o'/\o'.dst=some s/\∃e∈o.after,Region.binds .any e=true/\e.on=j
 loc:∀o∈ops.toList,isQ tt o=false->isL tt o=false
theorem Z67 {tt:List (Nat × TI)}{N:Nat}{ops:Array Oper}(p:Zbk tt N ops){b:Array Bool}(A:b.size=ops.size)(hr:Region.ready .any ops b=[]):∀(i:Nat),i < ops.size->b.getD i true=true:=by
 intro i
 induction i using Nat.strongRecOn with
 | ind i ih =>
  intro h;cases e:b.getD i true with
  | true=>rfl
  | false =>
   have:i∈Region.ready .any ops b:=mem_ready.2 ⟨e,ops[i],am h,λc z s=>by
    have q:=p.back i _ (am h) c z s;have j:=ih c.on q (by omega);have u:c.on < b.size:=by omega
    simpa [Array.getD_eq_getD_getElem?,Array.getElem?_eq_getElem u] using j⟩
   rw[hr] at this;cases this
structure InvI (tt:List (Nat × TI))(N:Nat)(ops:Array Oper)(gs:List G)(t0:Ts)(own:Os)(I0:Imm)(V0:Va)(w0:World)(listed:Array Bool)(a:Act)(w:World)(I:Imm)(V:Va):Prop where
 size:listed.size=ops.size
 later:Later own I0 V0 w0 own I V w
 num:V.n=V0.n+Su tt ops.toList listed.toList
 def':a.defers=[]
 tmps:a.tmps.size=N
 old:∀s g,look s t0=some g->(∀o∈ops.toList,o.dst≠some s)->∃x,a.tmps[s]?=some x/\TRep I V g x
 new:∀(j:Nat) o d g,listed[j]?=some true->ops[j]?=some o->o.dst=some d->gs[j]?=some g->∃x,a.tmps[d]?=some x/\TRep I V g x
theorem InvI.next {tt:List (Nat × TI)}{N:Nat}{ops:Array Oper}{gs:List G}{t0:Ts}{own:Os}{I0 I I':Imm}{V0 V V':Va}{w0 w w':World}{b:Array Bool}{a D:Act}{i d:Nat}{o:Oper}{g:G}{v:Value}(hD:Zbk tt N ops)(h:InvI tt N ops gs t0 own I0 V0 w0 b a w I V)(A:ops[i]?=some o)(hi:b.getD i true=false)(hd:o.dst=some d)(hg:gs[i]?=some g)(z:Later own I V w own I' V' w')(hn:V'.n=V.n+(bif isQ tt o then 0 else 1))(hv:TRep I' V' g v)(ha:D.tmps=(a.put (some d) v).tmps)(E:D.defers=[]):InvI tt N ops gs t0 own I0 V0 w0 (b.setIfInBounds i true) D w' I' V':=by
 have Z:o∈ops.toList:=au (by simpa using A);have B:i < ops.size:=(bz.1 A).1;have M:i < b.size:=by rw[h.size];exact B
 have J:b.toList[i]?=some false:=by rw[Array.getElem?_toList];simpa [Array.getD_eq_getD_getElem?,Array.getElem?_eq_getElem M] using hi
 have p:D.tmps=a.tmps.setIfInBounds d v:=ha;have W:=hD.lt o Z d hd;refine⟨by simp[h.size],h.later.trans z,?_,E,by rw[p];simp[h.tmps],λs H hs C=>?_,λj o' Y H X q c u=>?_⟩
 .rw[hn,h.num,Array.toList_setIfInBounds,Z02 (by simpa using A) J];omega
 .obtain⟨x,T,O⟩:=h.old s H hs C;refine⟨x,?_,O.mono z.fro.mono z.va⟩;rw[p,Array.getElem?_setIfInBounds_ne (λe=>C o Z (by rw[hd,e]))];exact T
 .by_cases e:i=j
  .subst e;rw[A] at q;cases q;rw[hd] at c;cases c;rw[hg] at u;cases u;refine⟨v,?_,hv⟩;rw[p];simp[h.tmps,W]
  .rw[Array.getElem?_setIfInBounds_ne e] at X;obtain⟨x,T,O⟩:=h.new j o' Y H X q c u;refine⟨x,?_,O.mono z.fro.mono z.va⟩;have F:d≠Y:=λe'=>by
    have h3:(ops.toList.map (·.dst))[i]?=some (some d):=by simp[A,hd]
    have h4:(ops.toList.map (·.dst))[j]?=some (some d):=by simp[q,c,e']
    exact e ((List.getElem?_inj (by simpa using B) hD.nod).1 (h3.trans h4.symm))
   rw[p,Array.getElem?_setIfInBounds_ne F];exact T
theorem InvI.args {tt:List (Nat × TI)}{N:Nat}{ops:Array Oper}{gs:List G}{H:Ts}{own:Os}{I0 I:Imm}{V0 V:Va}{w0 w:World}{b:Array Bool}{a:Act}{i:Nat}{o:Oper}(F:Zbk tt N ops)(X:gs.length=ops.toList.length)(h:InvI tt N ops gs H own I0 V0 w0 b a w I V)(D:ops[i]?=some o)(hr:i∈Region.ready .any ops b):ARep N I V a (Z8t (Y6 (ops.toList.take i) (gs.take i) H) (Q5 o)):=by
 refine⟨h.def',h.tmps,λs g W=>?_⟩;obtain⟨Y,C⟩:=If W;obtain⟨-,T,u,A⟩:=mem_ready.1 hr;rw[D] at u;cases u;rcases F.dep i o s D Y with z | ⟨j,o',ho',hd',e,he,hb,rfl⟩
 .rw[Vf λT O=>z T (bo O)] at C;exact h.old s g C z
 .have B:=F.back i o D e he hb;have q:e.on < ops.size:=(bz.1 ho').1;have M:=A e he hb;have c:e.on < b.size:=by rw[h.size];exact q
  have J:b[e.on]?=some true:=by rw[am c];simpa [Array.getD_eq_getD_getElem?,Array.getElem?_eq_getElem c] using M
  obtain⟨E,p⟩:∃E,gs[e.on]?=some E:=⟨_,aq (by rw[X];simpa using q)⟩;have O:=Yd (l:=ops.toList.take i) (gs:=gs.take i) (t:=H) (j:=e.on) (o:=o') (d:=s) (g:=E) (by rw[de];exact F.nod.sublist (List.take_sublist _ _)) (by rw[List.getElem?_take_of_lt B];simpa using ho') hd' (by rw[List.getElem?_take_of_lt B];exact p);rw[O] at C;cases C;exact h.new e.on o' s _ J ho' hd' p
theorem Zbr {P:Program}{tb:List (Nat × TI)}{N:Nat}{ops:Array Oper}{t0:Ts}{own:Os}{I0:Imm}{V0:Va}{w0:World}{a0:Act}{K:Ts->Prop}{Q:Exit->Act->World->Prop}(hT:∀t i,look t tb=some i->TIok P t i)(H:Zbk tb N ops)(h:sxI P tb own V0.n ops.toList t0 K)(hH:Has I0 V0 own w0)(O:ARep N I0 V0 a0 t0)
  (hQ:∀t I V a w,K t->V.n=V0.n+Su tb ops.toList (List.replicate ops.size true)->Later own I0 V0 w0 own I V w->ARep N I V a t->Q .normal a w):wpAny P .any ops Q ops.size (Array.replicate ops.size false) a0 w0:=by
 obtain⟨gs,hl,hK,hs⟩:=Rm h;refine Ql (λc a w=>∃I V,InvI tb N ops gs t0 own I0 V0 w0 c a w I V) (λc a w i ⟨I,V,p⟩ hr=>?_) (λc a w ⟨I,V,p⟩ hr=>?_) _ _ _ _ (by simp) ⟨I0,V0,?_⟩
 .obtain⟨hli,o,X,-⟩:=mem_ready.1 hr;have Y:o∈ops.toList:=au (by simpa using X);obtain⟨d,g,hd,hg,q⟩:=hs i o (by simpa using X);have q:=q V.n p.later.va.1;have hA:=p.args H hl X hr;unfold Za0 at q;refine wpOp_step X λK1 hK1=>?_;rw[dq (Fz (H.grd o Y))];cases T:isQ tb o with
  | true =>
   rw[T] at q;obtain⟨g',y,C,hy,Z⟩:=Rk (S:=λu=>u=w) (mo:=.new) hT (λk C=>by cases C) (λ_ u hu=>by rw[hu];exact C7 _ _ _) T q p.later.has hA;rw[hd] at C;have C:look d ((d,g')::_)=some g:=C;rw[S7] at C;cases C;unfold Oper.wp;rw[Z w rfl];refine hK1 _ _ ⟨I,V,p.next H X hli hd hg (.refl p.later.has) (by rw[T];rfl) hy (by rw[hd]) ?_⟩;rw[hd];exact p.def'
  | false =>
   rw[T] at q;have hb:=Z1p (P:=P) (mo:=.new) (Q:=Q) (next:=λa' w'=>∃t own' I' V',(∃B e sz,(V'.n=V.n+1/\own'=(V.n,.slc B e sz)::own)/\look d t=some (.osl V.n)/\g=.sl B)/\Later own I V w own' I' V' w'/\ARep N I' V' a' t) hT (λ_=>rfl) T (H.loc o Y T) q p.later.has hA (H.lt o Y) λt own' I' V' a' w' C M _ _ F=>⟨t,own',I',V',C,M,F⟩;refine Oper.wp_mono (λa' w' ⟨⟨t,own',I',V',⟨B,e,sz,⟨hn,hown⟩,hlk,hg2⟩,M,F⟩,v,ds,ha'⟩=>?_) (Zbq hb);subst hown hg2;obtain⟨I2,V2,hn2,hL3,hle,hv⟩:=Z4b p.later.has.num M;obtain⟨x,hx,hxr⟩:=F.get d _ hlk;have hxv:x=v:=by rw[ha',hd] at hx;have hdl:=H.lt o Y d hd;simp[Act.put,p.tmps,hdl] at hx;exact hx.symm
   subst hxv;refine hK1 _ _ ⟨I2,V2,p.next H X hli hd hg hL3 (by rw[hn2,hn,T];rfl) (hv _ hxr) (by rw[ha',hd];rfl) F.defers⟩
 .refine⟨by simp,.refl hH,?_,O.defers,O.size,λs g z _=>O.get s g z,λj o d g E=>?_⟩
  .have:∀(l:List Oper) n,Su tb l (List.replicate n false)=0:=λl=>by
    induction l with
    | nil=>intro n;cases n<;>rfl
    | cons o l ih=>intro n;cases n with
     | zero=>rfl
     | succ n=>show Su tb l (List.replicate n false)+_=0;rw[ih];rfl
   simp[this]
  .simp[Array.getElem?_replicate] at E
 .have hall:=Z67 H p.size hr;have J:c.toList=List.replicate ops.size true:=by
   rw[List.eq_replicate_iff];refine⟨by simp[p.size],λb hb=>?_⟩;obtain⟨j,E⟩:=List.mem_iff_getElem?.1 hb;have W:j < c.size:=by have:=(ar.1 E).1;simpa using this
   have:=hall j (by rw[<-p.size];exact W);rw[Array.getElem?_toList,am W] at E;cases E;simpa [Array.getD_eq_getD_getElem?,Array.getElem?_eq_getElem W] using this
  refine hQ _ I V a w hK (by rw[p.num,J]) p.later ⟨p.def',p.tmps,λs g z=>?_⟩;by_cases A:∀o∈ops.toList,o.dst≠some s
  .rw[Vf A] at z;exact p.old s g z A
  .obtain⟨o,A⟩:=Classical.not_forall.1 A;obtain⟨Y,D⟩:=Classical.not_imp.1 A;have D:=Classical.not_not.1 D;obtain⟨j,E⟩:=List.mem_iff_getElem?.1 Y;have hjo:j < ops.size:=by have:=(ar.1 E).1;simpa using this
   obtain⟨g',hg'⟩:∃g',gs[j]?=some g':=⟨_,aq (by rw[hl];simpa using hjo)⟩;rw[Yd H.nod E D hg'] at z;cases z;refine p.new j o s _ ?_ (by simpa using E) D hg';rw[<-Array.getElem?_toList,J];simp[hjo]
theorem S3 {tt:List (Nat × TI)}{K:Nat->Prop}:∀{l:List Oper} {n:Nat},Z6u tt l n K->K (n+Su tt l (List.replicate l.length true))
 | [],_,h=>h
 | o::l,n,h=>by
  unfold Z6u at h;rw[bn,List.replicate_succ];show K (n+(Su tt l _+(bif true&&!isQ tt o then 1 else 0)));split at h
  .next e =>
   rw[e];exact S3 h
  .next e =>
   rw[e];have:=S3 h;rw[show n+1+Su tt l (List.replicate l.length true)=n+(Su tt l (List.replicate l.length true)+1) by omega] at this;exact this
theorem Is {s:Nat}:∀{l:List Oper} {i:Nat},Z6h l s i=none->∀o∈l,o.dst≠some s
 | [],_,_,o,h=>by cases h
 | o'::l,i,h,o,b=>by
  unfold Z6h at h;split at h
  .next d hd =>
   cases e:Nat.beq d s with
   | true=>rw[e] at h;cases h
   | false =>
    rw[e] at h;rcases bq.1 b with rfl | b
    .rw[hd];intro c;cases c;rw[Nat.beq_refl] at e;cases e
    .exact Is h o b
  .next hd =>
   rcases bq.1 b with rfl | b
   .rw[hd];intro c;cases c
   .exact Is h o b
theorem Mj {s j:Nat}:∀{l:List Oper} {i:Nat},Z6h l s i=some j->∃k o,j=i+k/\l[k]?=some o/\o.dst=some s
 | [],_,h=>by cases h
 | o'::l,i,h=>by
  unfold Z6h at h;split at h
  .next d hd =>
   cases e:Nat.beq d s with
   | true =>
    rw[e] at h;cases h;exact⟨0,o',rfl,rfl,by rw[hd,ax e]⟩
   | false =>
    rw[e] at h;obtain⟨k,o,p,b,c⟩:=Mj h;exact⟨k+1,o,by omega,b,c⟩
  .obtain⟨k,o,p,b,c⟩:=Mj h;exact⟨k+1,o,by omega,b,c⟩
theorem Ur {α:Type}{p:α->Bool}:∀{l:List α},Mv p l=true->∃x∈l,p x=true
 | [],h=>by cases h
 | y::l,h=>by
  have h:(bif p y then true else Mv p l)=true:=h;cases e:p y with
  | true=>exact⟨y,List.mem_cons_self,e⟩
  | false =>
   rw[e] at h;obtain⟨x,c,b⟩:=Ur h;exact⟨x,List.mem_cons_of_mem _ c,b⟩
structure Zem (tb:List (Nat × TI))(ops l:List Oper)(i:Nat)(o:Oper):Prop where
 grd:o.guard=none
 new:∃d,o.dst=some d/\∀o'∈l,o'.dst≠some d
 kind:isQ tb o=false->Zda o=true
 back:∀e∈o.after,Region.binds .any e=true->e.on < i
 dep:∀s∈Q5 o,(∀o'∈ops,o'.dst≠some s)\/∃(j:Nat) (o':Oper),ops[j]?=some o'/\o'.dst=some s/\∃e∈o.after,Region.binds .any e=true/\e.on=j
theorem Z8w {tb:List (Nat × TI)}{ops l:List Oper}{i:Nat}{o:Oper}(h:Zf9 tb ops l i o=true):Zem tb ops l i o:=by
 unfold Zf9 at h;split at h
 .next d F hd =>
  simp only[Bool.and_eq_true] at h;obtain⟨⟨⟨p,c⟩,H⟩,z⟩:=h;refine⟨F,⟨d,hd,?_⟩,λE=>by rw[E] at p;exact p,λe D b=>?_,λs q=>?_⟩
  .split at c
   .next e=>exact Is e
   .cases c
  .have:=Ao H e (by simpa using D);rw[b] at this;simpa [Nat.blt_eq] using this
  .have:=Ao z s q;unfold Zg0 at this;split at this
   .next e=>exact .inl (Is e)
   .next j e =>
    obtain⟨k,A,M,u,C⟩:=Mj e;obtain⟨x,B,b⟩:=Ur this;simp only[Bool.and_eq_true] at b;have J:=ax b.2;exact .inr ⟨k,A,u,C,x,by simpa using B,b.1,by omega⟩
 .cases h
theorem Y8 {tb:List (Nat × TI)}{ops:List Oper}:∀{l:List Oper} {i:Nat},Ze5 tb ops l i=true->(l.map (·.dst)).Nodup/\∀(j:Nat) o,l[j]?=some o->∃q,Zem tb ops q (i+j) o
 | [],_,_=>⟨List.nodup_nil,λj o h=>by simp at h⟩
 | o::l,i,h=>by
  unfold Ze5 at h;rw[be] at h;obtain⟨b,z⟩:=h;obtain⟨D,A⟩:=Y8 z;have b:=Z8w b;refine⟨?_,λj p c=>?_⟩
  .rw[cv,List.nodup_cons];refine⟨λC=>?_,D⟩;obtain⟨p,u,e⟩:=bk.1 C;obtain⟨d,hd,s⟩:=b.new;exact s p u (by rw[e,hd])
  .cases j with
   | zero =>
    simp at c;subst c;exact⟨l,b⟩
   | succ j =>
    obtain⟨q,B⟩:=A j p (by simpa using c);exact⟨q,by rw[show i+(j+1)=i+1+j by omega];exact B⟩
theorem Z82 {tb:List (Nat × TI)}{N:Nat}{ops:Array Oper}(h:Z6s tb ops=true)(H:∀o∈ops.toList,∀d,o.dst=some d->d < N):Zbk tb N ops:=by
 unfold Z6s at h;rw[be] at h;obtain⟨B,u⟩:=Y8 h.2;have q:∀o∈ops.toList,∃p i,Zem tb ops.toList p i o:=λo b=>by obtain⟨j,E⟩:=List.mem_iff_getElem?.1 b;obtain⟨p,c⟩:=u j o E;exact⟨p,_,c⟩
 refine⟨λo b=>(by obtain⟨p,i,c⟩:=q o b;exact c.grd),B,H,λi o b e D C=>?_,λi o s b A=>?_,λo b F=>?_⟩
 .obtain⟨p,c⟩:=u i o (by simpa using b);have:=c.back e D C;omega
 .obtain⟨p,c⟩:=u i o (by simpa using b);rcases c.dep s A with z | ⟨j,o',z,h5⟩
  .exact .inl z
  .exact .inr ⟨j,o',by simpa using z,h5⟩
 .obtain⟨p,i,c⟩:=q o b;have:=c.kind F;unfold Zda at this;unfold isL;split at this
  .next e=>rw[e]
  .cases this
theorem Za2 {P:Program}{tb:List (Nat × TI)}{N:Nat}{id:Nat}{ops:Array Oper}{t:Ts}{own:Os}{I:Imm}{V:Va}{w:World}{a:Act}{K:KC}{Q:Exit->Act->World->Prop}(hT:∀t i,look t tb=some i->TIok P t i)(z:P.follows .mixedOrders=true)(C:∀o∈ops.toList,∀d,o.dst=some d->d < N)(B:Z6s tb ops=true)(h:sxI P tb own V.n ops.toList t λt=>Z6u tb ops.toList V.n λn=>K .normal t own n)(hH:Has I V own w)(ha:ARep N I V a t)
  (s:∀t I' V' a w',K .normal t own V'.n->Later own I V w own I' V' w'->ARep N I' V' a t->Q .normal a w'):(Code.region id ops true).wp P Q a w:=by
 have c:Has I V own w.drew:=hH.heap rfl rfl;have j:Later own I V w own I V w.drew:=⟨c,⟨rfl,rfl,rfl,av _,λ_ _ _=>⟨rfl,λ_=>rfl⟩,λ_ _ _ h=>h,λk r b e A _=>⟨k,r,e,A⟩⟩,av _,λ_ _=>⟨rfl,rfl⟩⟩;refine wp_region_any z (Zbr hT (Z82 B C) h c ha λt I' V' a w' p u q ha=>s t I' V' a w' ?_ (j.trans q) ha);have:=S3 p;rw[show ops.toList.length=ops.size from rfl] at this;rw[u];exact this
def Zgr (N:Nat)(l:List Oper):Bool:=l.all λo=>match o.dst with | some i=>Nat.blt i N | none=>true
def Fd (tb:List (Nat × TI))(N:Nat):Code->Bool
 | .region _ ops d=>Zgr N ops.toList&&(match d with | true=>Z6s tb ops||Region.noSelect ops&&Z2n tb ops.toList ops.toList 0 λc=>Ky tb c ops.toList ops.toList 0 λlate=>Mm tb c ops late ops.toList.length (noB ops.toList) | false=>true)
 | .seq a b | .cond _ a b=>Fd tb N a&&Fd tb N b
 | .block _ a | .loop a | .scope a=>Fd tb N a
 | _=>true
def Ex.to:Ex->Exit
 | .normal=>.normal
 | .exit id=>.exit id
 | .ret=>.ret
 | .goto l=>.goto l
def Va.renS (V:Va)(m:List (Nat × Nat))(n:Nat):Va:=⟨n,V.b,λk=>V.s (Go.Proofs.YtmmdikhljefeiaaGreat.ren m k),λk=>V.f (Go.Proofs.YtmmdikhljefeiaaGreat.ren m k)⟩
section
variable {P:Program} {tb:List (Nat × TI)} {N n:Nat} {I I' I0:Imm} {V V' V0:Va} {a:Act} {t t':Ts} {own own' own0:Os} {w w' w0:World} {g:G} {x y:Value} {d:Option Tmp} {m:List (Nat × Nat)} {r:R}
theorem Cf (b:Sz n g=true)(h:CRep I V (Ku m g) x):CRep I (V.renS m n) g x:=by
 cases g with
 | orv k i s o l c=>cases s<;>exact h.elim
 | ptr k o=>exact⟨bd (dn b) (av _),h.2⟩
 | osl k=>exact⟨bd (dn b) (av _),h.2⟩
 | osv k sz lo hi=>exact⟨bd (dn b) (av _),h.2⟩
 | mp k=>exact⟨bd (dn b) (av _),h.2⟩
 | oel k i s o=>exact h
 | _=>exact h
theorem Og {cs:List G}{c:List Value}(e:Bw (Sz n) cs=true)(h:PW (CRep I V) (cs.map (Ku m)) c):PW (CRep I (V.renS m n)) cs c :=
 ⟨by have:=h.1;simpa using this,λj g u b p=>Cf (Ao e g (au b)) (h.2 j _ u (by rw[ay,b];rfl) p)⟩
theorem Bb (j:Zam n g=true)(h:TRep1 I V (Tb m g) x):TRep1 I (V.renS m n) g x:=by
 cases g with
 | oag l =>
  obtain⟨cs,e,E⟩:=(show ∃cs:List Value,x=.agg cs.toArray/\PW (CRep I V) (l.map (Ku m)) cs from h);exact⟨cs,e,Og j E⟩
 | clo f a c =>
  obtain⟨⟨g,B,D⟩,F,cs,e,C,p⟩:=(show(∃g,(g∈a.map (Ku m)\/g∈c.map (Ku m))/\Cd g=false)/\_ from h);have j:(match Bw (Sz n) a with | true=>Bw (Sz n) c | false=>false)=true:=j;split at j
  .next ha =>
   have A:∀{g:G},Cd (Ku m g)=false->Cd g=false:=λ{g} h=>by cases g<;>first | rfl | exact h | (next sz _ _ _=>cases sz<;>rfl)
   refine⟨?_,F,cs,e,Og ha C,Og j p⟩;rcases B with B | B
   .obtain⟨g0,u,rfl⟩:=bk.1 B;exact⟨g0,.inl u,A D⟩
   .obtain⟨g0,u,rfl⟩:=bk.1 B;exact⟨g0,.inr u,A D⟩
  .cases j
 | oel k i s o =>
  obtain⟨C,p⟩:=(show _/\_ from h);exact⟨bd (dn j) (av _),p⟩
 | orv k i s o l c =>
  cases s with
  | zero =>
   obtain⟨C,b,q,p,u⟩:=(show _/\∃b q,_/\_ from h);exact⟨bd (dn j) (av _),b,q,p,u⟩
  | succ s =>
   obtain⟨C,b,q,p,u⟩:=(show _/\∃b q,_/\_ from h);exact⟨bd (dn j) (av _),b,q,p,u⟩
 | elp row o=>exact h
 | tup l=>cases j
 | ptr k o=>exact .of_c (Cf (g:=.ptr k o) j h)
 | osl k=>exact .of_c (Cf (g:=.osl k) j h)
 | osv k sz lo hi=>exact .of_c (Cf (g:=.osv k sz lo hi) j h)
 | mp k=>exact .of_c (Cf (g:=.mp k) j h)
 | v z=>exact .of_c (Cf (m:=m) (V:=V) (g:=.v z) rfl h)
 | tt=>exact .of_c (Cf (m:=m) (V:=V) (g:=.tt) rfl h)
 | ff=>exact .of_c (Cf (m:=m) (V:=V) (g:=.ff) rfl h)
 | un=>exact .of_c (Cf (m:=m) (V:=V) (g:=.un) rfl h)
 | nl=>exact .of_c (Cf (m:=m) (V:=V) (g:=.nl) rfl h)
 | agg l=>exact .of_c (Cf (m:=m) (V:=V) (g:=.agg l) rfl h)
 | sl l=>exact .of_c (Cf (m:=m) (V:=V) (g:=.sl l) rfl h)
theorem Z21 (p:Z3e n g=true)(h:TRep I V (renS m g) x):TRep I (V.renS m n) g x:=by
 cases g with
 | tup l =>
  obtain⟨cs,e,q⟩:=(show ∃cs:List Value,x=.tuple cs.toArray/\PW (TRep1 I V) (l.map (Tb m)) cs from h);exact⟨cs,e,by simpa using q.1,λj g u A B=>Bb (Ao (show Bw (Zam n) l=true from p) g (au A)) (q.2 j _ u (by rw[ay,A];rfl) B)⟩
 | oag l=>exact .of_1 (Bb (g:=.oag l) p h)
 | clo f a c=>exact .of_1 (Bb (g:=.clo f a c) p h)
 | oel k i s o=>exact .of_1 (Bb (g:=.oel k i s o) p h)
 | orv k i s o l c=>cases s<;>exact .of_1 (Bb p h)
 | elp row o=>exact .of_1 (g:=.elp row o) h
 | ptr k o=>exact .of_1 (Bb (g:=.ptr k o) p h)
 | osl k=>exact .of_1 (Bb (g:=.osl k) p h)
 | osv k a b c=>exact .of_1 (Bb (g:=.osv k a b c) p h)
 | mp k=>exact .of_1 (Bb (g:=.mp k) p h)
 | v z=>exact .of_1 (Bb (m:=m) (V:=V) (g:=.v z) rfl h)
 | tt=>exact .of_1 (Bb (m:=m) (V:=V) (g:=.tt) rfl h)
 | ff=>exact .of_1 (Bb (m:=m) (V:=V) (g:=.ff) rfl h)
 | un=>exact .of_1 (Bb (m:=m) (V:=V) (g:=.un) rfl h)
 | nl=>exact .of_1 (Bb (m:=m) (V:=V) (g:=.nl) rfl h)
 | agg l=>exact .of_1 (Bb (m:=m) (V:=V) (g:=.agg l) rfl h)
 | sl l=>exact .of_1 (Bb (m:=m) (V:=V) (g:=.sl l) rfl h)
theorem Yc:∀{T:Ts},leT m t n T->∀{i g},look i T=some g->Z3e n g=true/\look i t=some (renS m g)
 | [],_,i,g,h=>by cases h
 | (j,g')::T,hT,i,g,h=>by
  rw[Af] at h;split at h
  .next e=>subst e;cases h;exact hT.1
  .exact Yc hT.2 h
theorem Hs:∀{T:Os},leO m own n T->∀{i r},look i T=some r->i < n/\(isS r=true\/ren m i=i)/\Z0u n r=true/\look (ren m i) own=some (Z39 m r)
 | [],_,i,g,h=>by cases h
 | (j,g')::T,hT,i,g,h=>by
  rw[Af] at h;split at h
  .next e =>
   subst e;cases h;have b:=hT.1.1;simp only[Bool.and_eq_true,Bool.or_eq_true] at b;exact⟨dn b.1,b.2.imp id ax,hT.1.2⟩
  .exact Hs hT.2 h
theorem Zc7 (Z:V0.n<=n)(z:SinceC own0 I0 V0 w0 own I V w)(ha:ARep N I V a t)(h:le m t own n t' own'):SinceC own0 I0 V0 w0 own' I (V.renS m n) w/\ARep N I (V.renS m n) a t':=by
 obtain⟨h1,C,h3⟩:=h;have hH:=z.has;refine⟨⟨⟨hH.mem,λk r u=>(Hs C u).1,λk r u=>?_,λk r b u q=>?_,λk k' r r' b u E q O=>?_⟩,⟨z.fro.os,z.fro.tape,z.fro.output,z.fro.size,z.fro.blk,z.fro.mono,λk r b u q T=>?_⟩,Z,z.bb⟩,⟨ha.defers,ha.size,λi g hg=>?_⟩⟩
 .obtain⟨-,J,B,A⟩:=Hs C u;have hr:=hH.each _ _ A;have q:isS r=true\/V.b k=V.b (ren m k):=J.imp id λe=>by rw[e]
  cases r with
  | blk cs ty =>
   have q:=q.resolve_left (λh=>by cases h);obtain⟨q1,Y,X,q3⟩:=hr;exact⟨λb=>by show V.f (ren m k) b↔b=V.b k;rw[q];exact q1 b,Y,by show w.heap[V.b k]?=_;rw[q];exact X,Og B q3⟩
  | slc rows e sz=>exact hr
  | vw rows e sz=>exact hr
  | froz rows sz=>exact hr
  | gone=>exact hr
  | mpI l =>
   have q:=q.resolve_left (λh=>by cases h);exact⟨λb=>by show V.f (ren m k) b↔b=V.b k;rw[q];exact hr.1 b,by show MapR I w (V.b k) _ _;rw[q];exact hr.2⟩
  | mpS l =>
   have q:=q.resolve_left (λh=>by cases h);exact⟨λb=>by show V.f (ren m k) b↔b=V.b k;rw[q];exact hr.1 b,by show MapR I w (V.b k) _ _;rw[q];exact hr.2⟩
  | sit s pos =>
   have q:=q.resolve_left (λh=>by cases h);exact⟨λb=>by show V.f (ren m k) b↔b=V.b k;rw[q];exact hr.1 b,by show w.heap[V.b k]?=_;rw[q];exact hr.2⟩
  | mpX l m2 ob =>
   have q:=q.resolve_left (λh=>by cases h);exact⟨λb=>by show V.f (ren m k) b↔b=V.b k;rw[q];exact hr.1 b,(show V.b k=m2 from q.trans hr.2.1),hr.2.2⟩
  | mit j l D last m2 ob =>
   have q:=q.resolve_left (λh=>by cases h);obtain⟨a1,it,L,a2,a3,a4⟩:=hr;exact⟨λb=>by show V.f (ren m k) b↔b=V.b k;rw[q];exact a1 b,it,L,by show w.heap[V.b k]?=_;rw[q];exact a2,a3,λF e1 H=>by
    change F.heap[V.b k]?=_ at H
    show RanB F (V.b k) m2 Ci id L D/\∀W,last=some W->∃v,VRep I W.2 v/\∀P:Program,(Instr.entry (.pointer (some ⟨V.b k,0,none⟩))).run P F=_;rw[q] at H⊢;exact a4 F e1 H⟩
  | abs p =>
   have q:=q.resolve_left (λh=>by cases h);exact⟨hr.1,by show p I (V.b k) (V.f (ren m k)) w;rw[q];exact hr.2⟩
  | lnk j=>cases B
  | adr j b=>exact⟨λc=>hr.1 c,dn B,hr.2.2⟩
  | fam ps=>exact⟨hr.1,hr.2⟩
 .obtain⟨-,-,B,A⟩:=Hs C u;exact hH.foot _ _ b A q
 .obtain⟨-,-,-,A⟩:=Hs C u;obtain⟨-,-,-,M⟩:=Hs C E;exact Tp h3 u E (hH.disj _ _ _ _ b A M q O)
 .obtain⟨-,-,-,A⟩:=Hs C u;exact z.fro.foot _ _ b A q T
 .obtain⟨J,B⟩:=Yc h1 hg;obtain⟨x,hx,hr⟩:=ha.get i _ B;exact⟨x,hx,Z21 J hr⟩
def Zfb (N:Nat)(own0:Os)(I0:Imm)(V0:Va)(w0:World)(K:KC)(Q:Exit->Act->World->Prop):Prop :=
 ∀e t own I V a w,K e t own V.n->SinceC own0 I0 V0 w0 own I V w->ARep N I V a t->Q e.to a w
theorem U0 (c:P.follows .mixedOrders=true){id:Nat}{ops:Array Oper}{Q:Exit->Act->World->Prop}{S:World->Prop}{late:List Nat}(b:wpAnyG P .any ops Q late ops.size S (Array.replicate ops.size false) a w.drew):(Code.region id ops true).wp P Q a w :=
 wp_region_any c (Nk _ _ _ _ _ (Km _ rfl) b)
theorem Zct (l:List Oper):(noB l).toArray=Array.replicate l.length false/\(noB l).length=l.length:=by
 have:noB l=List.replicate l.length false:=by
  induction l with
  | nil=>rfl
  | cons o l ih=>rw[noB,ih];rfl
 rw[this];simp
theorem Z3h (es:List Edge)(m:List Bool):∃b,∀{α:Type} (K:List Bool->α),Xd es m K=K b:=by
 induction es generalizing m with
 | nil=>exact⟨m,λ_=>rfl⟩
 | cons e es ih =>
  cases hb:Region.binds .any e with
  | true =>
   obtain⟨b,h⟩:=ih (Wa m e.on);exact⟨b,λK=>by unfold Xd;rw[hb];dsimp only;rw[Jv];exact h K⟩
  | false =>
   obtain⟨b,h⟩:=ih m;exact⟨b,λK=>by unfold Xd;rw[hb];exact h K⟩
theorem Zv (ops:List Oper)(n:Nat)(m:List Bool):∃b,∀{α:Type} (K:List Bool->α),Iv ops n m K=K b:=by
 induction n generalizing m with
 | zero=>exact⟨m,λ_=>rfl⟩
 | succ n ih =>
  cases hb:Zao m n with
  | true =>
   cases ho:nth ops n with
   | none =>
    obtain⟨b,h⟩:=ih m;exact⟨b,λK=>by unfold Iv;rw[hb,ho];exact h K⟩
   | some o =>
    obtain⟨e,c⟩:=Z3h o.after.toList m;obtain⟨b,h⟩:=ih e;exact⟨b,λK=>by unfold Iv;rw[hb,ho];dsimp only;rw[c];exact h K⟩
  | false =>
   obtain⟨b,h⟩:=ih m;exact⟨b,λK=>by unfold Iv;rw[hb];exact h K⟩
theorem Z9s (ops:List Oper)(l:List Oper)(i:Nat):∃r,∀{α:Type} (K:List Nat->α),Z2n tb ops l i K=K r:=by
 induction l generalizing i with
 | nil=>exact⟨[],λK=>rfl⟩
 | cons o l ih =>
  obtain⟨r,h⟩:=ih (i+1);cases hl:Zfv tb ops i o with
  | false=>exact⟨r,λK=>by unfold Z2n;rw[hl];exact h K⟩
  | true=>exact⟨i::r,λK=>by unfold Z2n;rw[hl];exact h _⟩
theorem Z58 (b:List Nat)(ops:List Oper)(l:List Oper)(i:Nat):∃r,∀{α:Type} (K:List Nat->α),Ky tb b ops l i K=K r:=by
 induction l generalizing i with
 | nil=>exact⟨[],λ_=>rfl⟩
 | cons o l ih =>
  obtain⟨r,h⟩:=ih (i+1);cases hl:isL tb o with
  | false=>exact⟨r,λK=>by unfold Ky;rw[hl];exact h K⟩
  | true =>
   obtain⟨m,c⟩:=Zv ops (i+1) (Wa (noB ops) i);cases ha:Zf3 tb b ops m 0 with
   | true=>exact⟨i::r,λK=>by unfold Ky;rw[hl];dsimp only;rw[Jv,c,ha];exact h _⟩
   | false=>exact⟨r,λK=>by unfold Ky;rw[hl];dsimp only;rw[Jv,c,ha];exact h _⟩
theorem Sl (k:Nat):∀r:List Nat,∃r':List Nat,(∀{α:Type} (K:List Nat->α),Hl k r K=K r')/\∀j∈r',j∈r\/j=k
 | []=>⟨[k],λ_=>rfl,λj h=>.inr (by simpa using h)⟩
 | i::r=>by
  obtain⟨r',c,b⟩:=Sl k r;cases hb:Nat.beq k i with
  | true=>exact⟨i::r,λK=>by unfold Hl;rw[hb],λj h=>.inl h⟩
  | false =>
   refine⟨i::r',λK=>by unfold Hl;rw[hb];exact c _,λj h=>?_⟩;rcases bq.1 h with rfl | h
   .exact .inl (by simp)
   .exact(b j h).imp (λh=>by simp[h]) id
def GathLt {α:Type}(n:Nat)(F:List Nat->(List Nat->α)->α):Prop:=∀r,(∀k∈r,k < n)->∃r':List Nat,(∀k∈r',k < n)/\∀K:List Nat->α,F r K=K r'
theorem GathLt.seq {α:Type}{n:Nat}{F b:List Nat->(List Nat->α)->α}(h:GathLt n F)(j:GathLt n b):GathLt n (λr K=>F r λr=>b r K):=λr hr=>by obtain⟨e,a1,a2⟩:=h r hr;obtain⟨c,b1,b2⟩:=j e a1;exact⟨c,b1,λK=>(a2 _).trans (b2 K)⟩
theorem GathLt.none {α:Type}{n:Nat}:GathLt n (λr (K:List Nat->α)=>K r):=λr hr=>⟨r,hr,λ_=>rfl⟩
theorem Bt {α:Type}{n k:Nat}(p:k < n):GathLt (α:=α) n (λr K=>Hl k r K):=λr hr=>by obtain⟨r',h,c⟩:=Sl k r;exact⟨r',λj b=>(c j b).elim (hr j) (λe=>by omega),λK=>h K⟩
theorem Zga {α:Type}(h:CRep I V g x):GathLt (α:=α) V.n (λr K=>vaC g r K):=by
 cases g with
 | ptr k o=>exact Bt h.1
 | _=>exact GathLt.none
theorem Z7o {α:Type}:∀{l:List G} {b:List Value},PW (CRep I V) l b->GathLt (α:=α) V.n (λr K=>Zds l r K)
 | [],_,_=>GathLt.none
 | g::l,b,h=>by obtain⟨x,e,rfl,j,c⟩:=h.uncons;exact(Zga j).seq (Z7o c)
theorem Zgj {α:Type}(h:TRep I V g x):GathLt (α:=α) V.n (λr K=>va1 g r K):=by
 cases g with
 | clo f a c =>
  obtain⟨-,j,cs,-,e,b⟩:=(show TRep1 I V (.clo f a c) x from h);exact(Z7o e).seq (Z7o b)
 | ptr k o=>exact Bt (Cb h).1
 | _=>exact GathLt.none
theorem Hw {ops:List Oper}{k:Nat}:∀{n d:Nat},Ln t ops n d=some k->∃c o,look c t=some (.ptr k o)
 | 0,_,h=>by cases h
 | n+1,d,h=>by
  unfold Ln at h;split at h
  .next b=>cases h;exact⟨d,_,b⟩
  .cases h
  .split at h
   .exact Hw h
   .cases h
theorem Nl {ops:List Oper}{k:Nat}:∀{n d:Nat},Zn t ops n d=some k->∃b,look b t=some (.osl k)
 | 0,_,h=>by cases h
 | n+1,d,h=>by
  unfold Zn at h;split at h
  .next c=>cases h;exact⟨d,c⟩
  .cases h
  .split at h
   .exact Nl h
   .cases h
theorem Zfy {α:Type}(ha:ARep N I V a t)(ops:List Oper):∀l:List Operand,GathLt (α:=α) V.n (λr K=>vsS t ops l r K)
 | []=>GathLt.none
 | y::l=>λr hr=>by
  have c:=Zfy (α:=α) ha ops l;cases y with
  | tmp d =>
   cases hro:Zn t ops 8 d with
   | none =>
    obtain⟨r',p,j⟩:=c r hr;exact⟨r',p,λK=>by show vsS t ops (.tmp d::l) r K=_;unfold vsS;rw[hro];exact j K⟩
   | some k =>
    obtain⟨_,b⟩:=Nl hro;obtain⟨y,s,q⟩:=ha.get _ _ b;obtain⟨e,a1,a2⟩:=Bt (α:=α) (show k < V.n from(show CRep I V (.osl k) y from q).1) r hr;obtain⟨h,b1,b2⟩:=c e a1;exact⟨h,b1,λK=>by show vsS t ops (.tmp d::l) r K=_;unfold vsS;rw[hro];exact(a2 _).trans (b2 K)⟩
  | _=>exact c r hr
theorem Zd7 {α:Type}(ha:ARep N I V a t)(b:Bool)(ops:List Oper)(l:List Operand):GathLt (α:=α) V.n (λr K=>Zg4 b t ops l r K):=by
 cases b with
 | true=>exact Zfy ha ops l
 | false=>exact GathLt.none
theorem Zg3 {α:Type}(ha:ARep N I V a t)(ops:List Oper):∀l:List Operand,GathLt (α:=α) V.n (λr K=>vaL t ops l r K)
 | []=>GathLt.none
 | y::l=>λr hr=>by
  have b:=Zg3 (α:=α) ha ops l;cases y with
  | tmp d =>
   cases hl:look d t with
   | none =>
    cases hro:Ln t ops 8 d with
    | none =>
     obtain⟨r',q,p⟩:=b r hr;exact⟨r',q,λK=>by show vaL t ops (.tmp d::l) r K=_;unfold vaL;dsimp only;rw[hl];dsimp only;rw[hro];exact p K⟩
    | some k =>
     obtain⟨_,_,h⟩:=Hw hro;obtain⟨y,s,j⟩:=ha.get _ _ h;obtain⟨c,a1,a2⟩:=Bt (α:=α) (Cb j).1 r hr;obtain⟨e,b1,b2⟩:=b c a1;exact⟨e,b1,λK=>by show vaL t ops (.tmp d::l) r K=_;unfold vaL;dsimp only;rw[hl];dsimp only;rw[hro];exact(a2 _).trans (b2 K)⟩
   | some g =>
    obtain⟨z,u,j⟩:=ha.get d g hl;obtain⟨c,a1,a2⟩:=Zgj (α:=α) j r hr;obtain⟨e,b1,b2⟩:=b c a1;exact⟨e,b1,λK=>by show vaL t ops (.tmp d::l) r K=_;unfold vaL;dsimp only;rw[hl];exact(a2 _).trans (b2 K)⟩
  | _=>exact b r hr
theorem Zat (h:CRep I V g x):GathLt (α:=Prop) V.n (λr K=>gkC g r K):=by
 cases g with
 | ptr k o=>exact Bt h.1
 | osl k=>exact Bt h.1
 | osv k a b c=>exact Bt h.1
 | oel k i s o=>exact h.elim
 | mp k=>exact Bt h.1
 | _=>exact GathLt.none
theorem Z1w:∀{l:List G} {b:List Value},PW (CRep I V) l b->GathLt (α:=Prop) V.n (λr K=>Z9u l r K)
 | [],_,_=>GathLt.none
 | g::l,b,h=>by obtain⟨x,e,rfl,j,c⟩:=h.uncons;exact(Zat j).seq (Z1w c)
theorem Uo (hH:Has I V own w):∀l:List Nat,GathLt (α:=Prop) V.n (λr K=>O7 own l r K)
 | []=>GathLt.none
 | k::l=>λr hr=>by
  have b:=Uo hH l;show ∃r':List Nat,_/\∀K:List Nat->Prop,O7 own (k::l) r K=K r';unfold O7;split
  .next cs t j =>
   obtain⟨-,p,-,c⟩:=hH.each k _ j;obtain⟨h,a1,a2⟩:=Z1w c r hr;obtain⟨e,b1,b2⟩:=b h a1;exact⟨e,b1,λK=>(a2 _).trans (b2 K)⟩
  .exact b r hr
theorem Z6t (hH:Has I V own w):∀n:Nat,GathLt (α:=Prop) V.n (λr K=>trK own n r K)
 | 0=>GathLt.none
 | n+1=>λr hr=>by obtain⟨b,a1,a2⟩:=Uo hH r r hr;obtain⟨c,b1,b2⟩:=Z6t hH n b a1;exact⟨c,b1,λK=>(a2 _).trans (b2 K)⟩
theorem Z07 {α:Type}{n:Nat}:∀w:Os,(∀k r,(k,r)∈w->k < n)->GathLt (α:=α) n (λr K=>Zcm w r K)
 | [],_=>GathLt.none
 | (k,q)::l,h=>λr hr=>by
  have e:=Z07 (α:=α) l λk r j=>h k r (by simp[j]);cases q with
  | abs p =>
   obtain⟨c,a1,a2⟩:=Bt (α:=α) (h k _ (by simp:(k,R.abs p)∈_)) r hr;obtain⟨b,b1,b2⟩:=e c a1;exact⟨b,b1,λK=>(a2 _).trans (b2 K)⟩
  | fam p =>
   obtain⟨c,a1,a2⟩:=Bt (α:=α) (h k _ (by simp:(k,R.fam p)∈_)) r hr;obtain⟨b,b1,b2⟩:=e c a1;exact⟨b,b1,λK=>(a2 _).trans (b2 K)⟩
  | _=>exact e r hr
theorem Z0a {α:Type}{n:Nat}:∀w:Os,(∀k r,(k,r)∈w->k < n)->GathLt (α:=α) n (λr K=>Zcb w r K)
 | [],_=>GathLt.none
 | (k,q)::l,h=>λr hr=>by
  have e:=Z0a (α:=α) l λk r j=>h k r (by simp[j]);cases q with
  | mpI p =>
   obtain⟨c,a1,a2⟩:=Bt (α:=α) (h k _ (by simp:(k,R.mpI p)∈_)) r hr;obtain⟨b,b1,b2⟩:=e c a1;exact⟨b,b1,λK=>(a2 _).trans (b2 K)⟩
  | mpS p =>
   obtain⟨c,a1,a2⟩:=Bt (α:=α) (h k _ (by simp:(k,R.mpS p)∈_)) r hr;obtain⟨b,b1,b2⟩:=e c a1;exact⟨b,b1,λK=>(a2 _).trans (b2 K)⟩
  | _=>exact e r hr
theorem Ib {α:Type}{k:Nat}{x:α}:∀{l:List (Nat × α)},(k,x)∈l->∃y,look k l=some y
 | [],h=>by simp at h
 | (j,y)::l,h=>by
  rw[Af];by_cases e:k=j
  .rw[dq e];exact⟨y,rfl⟩
  .rw[dp e];rcases bq.1 h with h | h
   .exact dt (congrArg Prod.fst h) e
   .exact Ib h
theorem Zcg {α:Type}{o:Os}{n:Nat}(h:∀k r,look k o=some r->k < n):∀l:List G,GathLt (α:=α) n (λr K=>Z3q o l r K)
 | []=>GathLt.none
 | g::l=>λr hr=>by
  have b:=Zcg (α:=α) h l;cases g with
  | osl k =>
   cases hk:look k o with
   | none =>
    obtain⟨r',p,j⟩:=b r hr;exact⟨r',p,λK=>by show Z3q o (.osl k::l) r K=_;unfold Z3q;dsimp only;rw[hk];exact j K⟩
   | some q =>
    obtain⟨e,a1,a2⟩:=Bt (α:=α) (h k q hk) r hr;obtain⟨c,b1,b2⟩:=b e a1;exact⟨c,b1,λK=>by show Z3q o (.osl k::l) r K=_;unfold Z3q;dsimp only;rw[hk];exact(a2 _).trans (b2 K)⟩
  | _=>exact b r hr
theorem Zgq {α:Type}{o:Os}{n:Nat}(h:∀k r,look k o=some r->k < n)(t:Ts)(ops:List Oper)(x:Operand):GathLt (α:=α) n (λr K=>ldS t o ops x r K):=by
 unfold ldS;split
 .split
  .exact GathLt.none
  .split
   .split
    .split
     .exact Zcg h _
     .exact GathLt.none
    .exact GathLt.none
   .exact GathLt.none
 .exact GathLt.none
theorem Za4 (hH:Has I V own w)(ha:ARep N I V a t)(late:List Nat)(ops l:List Oper)(i:Nat)(b:List Nat)(c:∀k∈b,k < V.n):∃r:List Nat,(∀k∈r,k < V.n)/\∀K:List Nat->Prop,Ss tb late t own ops l i b K=K r:=by
 have key:∀(l:List Oper) (i:Nat) (b:List Nat),(∀k∈b,k < V.n)->∃r:List Nat,(∀k∈r,k < V.n)/\∀K:List Nat->Prop,Ss tb late t own ops l i b K=K r:=λl=>by
  induction l with
  | nil=>exact λi b c=>⟨b,c,λ_=>rfl⟩
  | cons o l ih =>
   intro i b c;unfold Ss;split
   .split
    .next D =>
     obtain⟨_,_,F⟩:=Hw D;obtain⟨y,u,M⟩:=ha.get _ _ F;obtain⟨s,a1,a2⟩:=Sl _ b;obtain⟨r,b1,b2⟩:=ih (i+1) s (λj H=>(a2 j H).elim (c j) λe=>by rw[e];exact(Cb M).1);exact⟨r,b1,λK=>(a1 _).trans (b2 K)⟩
    .exact ih (i+1) b c
   .split
    .next f _ =>
     obtain⟨C,B,q⟩:=Zg3 (α:=Prop) ha ops (f::_) b c;obtain⟨s,a1,h⟩:=Zd7 (α:=Prop) ha (Mv (Zb5 tb) _) ops _ C B;obtain⟨A,c1,z⟩:=Z07 (α:=Prop) own (λk r p=>by obtain⟨y,u⟩:=Ib p;exact hH.num k y u) s a1;cases Mv (Zaq tb) _ with
     | true =>
      obtain⟨J,O,E⟩:=Z0a (α:=Prop) own (λk r p=>by obtain⟨y,u⟩:=Ib p;exact hH.num k y u) A c1;obtain⟨r,b1,b2⟩:=ih (i+1) J O;exact⟨r,b1,λK=>(q _).trans ((h _).trans ((z _).trans ((E _).trans (b2 K))))⟩
     | false =>
      obtain⟨r,b1,b2⟩:=ih (i+1) A c1;exact⟨r,b1,λK=>(q _).trans ((h _).trans ((z _).trans (b2 K)))⟩
    .split
     .next x _ _ =>
      obtain⟨s,a1,a2⟩:=Zd7 (α:=Prop) ha true ops [x] b c;obtain⟨A,c1,z⟩:=Zgq (α:=Prop) (λk r p=>hH.num k r p) t ops x s a1;obtain⟨r,b1,b2⟩:=ih (i+1) A c1;exact⟨r,b1,λK=>(a2 _).trans ((z _).trans (b2 K))⟩
     .exact ih (i+1) b c
    .exact ih (i+1) b c
   .exact ih (i+1) b c
 exact key l i b c
def OkM (P:Program)(tb:List (Nat × TI))(N:Nat)(own0:Os)(I0:Imm)(V0:Va)(w0:World)(c:Code)(m:MC):Prop :=
 ∀{t:Ts} {own:Os} {I:Imm} {V:Va} {a:Act} {w:World} {K:KC} {Q:Exit->Act->World->Prop},m t own V.n K->SinceC own0 I0 V0 w0 own I V w->ARep N I V a t->Fd tb N c=true->(∀ch d v a w,Q (.panic ch) (a.put d v) w->Q (.panic ch) a w)->Zfb N own0 I0 V0 w0 K Q->c.wp P Q a w
def LabM (P:Program)(tb:List (Nat × TI))(N:Nat)(own0:Os)(I0:Imm)(V0:Va)(w0:World)(c:Code)(m:MC):Prop :=
 (Tu c=none->∀l,findLabel c l=none)/\∀l,Tu c=some l->∃rest,findLabel c l=some rest/\OkM P tb N own0 I0 V0 w0 rest m/\(Fd tb N c=true->Fd tb N rest=true)
theorem LabM.no {c:Code}{m:MC}(e:Tu c=none)(h:∀l,findLabel c l=none):LabM P tb N own0 I0 V0 w0 c m:=⟨λ_=>h,λ_ h=>by rw[e] at h;cases h⟩
theorem OkM.seq {x y:Code}{p q:MC}(A:OkM P tb N own0 I0 V0 w0 x p)(z:OkM P tb N own0 I0 V0 w0 y q)(x' y':Code):OkM P tb N own0 I0 V0 w0 (.seq x y) (Z1d x' y' p q):=by
 intro t own I V a w K Q h b ha s u j;simp only[Fd,Bool.and_eq_true] at s;unfold Z1d at h;refine wp_seq (A h b ha s.1 (λch d v a w=>u ch d v a w) λe t own I V a w c b ha=>?_);cases e with
 | normal=>exact z c b ha s.2 u j
 | exit id=>exact j (.exit id) _ _ _ _ _ _ c b ha
 | ret=>exact j .ret _ _ _ _ _ _ c b ha
 | goto l=>exact j (.goto l) _ _ _ _ _ _ c b ha
theorem OkM.stay {x:Code}{p:MC}(u:OkM P tb N own0 I0 V0 w0 x p){t:Ts}{own:Os}{I:Imm}{V:Va}{a:Act}{w:World}{K:KC}{Q:Exit->Act->World->Prop}(l:Nat)(J:Act->World->Prop)(h:Np p t own V.n K)(b:SinceC own0 I0 V0 w0 own I V w)(ha:ARep N I V a t)(q:Fd tb N x=true)(s:∀ch d v a w,Q (.panic ch) (a.put d v) w->Q (.panic ch) a w)(j:Zfb N own0 I0 V0 w0 K Q):x.wp P (Exit.jump l J Q) a w:=by
 unfold Np at h;refine u h b ha q (λch d v a w=>s ch d v a w) λe t own I V a w c b ha=>?_;cases e with
 | normal=>exact j .normal _ _ _ _ _ _ c b ha
 | exit id=>exact j (.exit id) _ _ _ _ _ _ c b ha
 | ret=>exact j .ret _ _ _ _ _ _ c b ha
 | goto l=>exact c.elim
theorem OkM.scope {x:Code}{m:MP}(u:OkM P tb N own0 I0 V0 w0 x (m true))(A:LabM P tb N own0 I0 V0 w0 x (m false)):OkM P tb N own0 I0 V0 w0 (.scope x) (Tc x m):=by
 intro t own I V a w K Q h c ha j s p;have j:Fd tb N x=true:=j;unfold Tc at h;cases hl:Tu x with
 | none =>
  rw[hl] at h;refine wp_scope_straight (Code.wp_mono ?_ (u.stay 0 (λ_ _=>False) h c ha j s p));intro e a w q;cases e with
  | goto l=>exact q.2.elim
  | _=>exact q
 | some l =>
  rw[hl] at h;obtain⟨rest,B,z,C⟩:=A.2 l hl;refine wp_scope_jumps l (λa w=>∃t own I V,Np (m false) t own V.n K/\SinceC own0 I0 V0 w0 own I V w/\ARep N I V a t) (λ_ _=>0) B ?_ ?_
  .refine u h c ha j (λch d v a w=>s ch d v a w) λe t own I V a w b c ha=>?_;cases e with
   | normal=>exact p .normal _ _ _ _ _ _ b c ha
   | exit id=>exact p (.exit id) _ _ _ _ _ _ b c ha
   | ret=>exact p .ret _ _ _ _ _ _ b c ha
   | goto l' =>
    have b:(bif Nat.beq l' l then Np (m false) t own V.n K else False):=b;cases hb:Nat.beq l' l with
    | true=>rw[hb] at b;exact⟨ax hb,t,own,I,V,b,c,ha⟩
    | false=>rw[hb] at b;exact b.elim
  .rintro a1 D ⟨t,own,I,V,b,c,ha⟩;exact z.stay l _ b c ha (C j) s p
theorem Zd1 (hT:∀t i,look t tb=some i->TIok P t i)(hm:P.follows .mixedOrders=true):∀c:Code,OkM P tb N own0 I0 V0 w0 c (sxM P tb c true)/\LabM P tb N own0 I0 V0 w0 c (sxM P tb c false):=by
 intro c
 induction c with
 | skip=>exact⟨by intro t own I V a w K Q h j ha _ _ p;exact wp_skip (p .normal _ _ _ _ _ _ h j ha),.no rfl λ_=>rfl⟩
 | label l =>
  refine⟨by intro t own I V a w K Q h j ha _ _ p;exact wp_label (p .normal _ _ _ _ _ _ h j ha),⟨λe=>(by cases e),λl' e=>?_⟩⟩;have e:some l=some l':=e;cases e;exact⟨.skip,by simp[findLabel],by intro t own I V a w K Q h j ha _ _ p;exact wp_skip (p .normal _ _ _ _ _ _ h j ha),λ_=>rfl⟩
 | ret=>exact⟨by intro t own I V a w K Q h j ha _ _ p;exact wp_ret (p .ret _ _ _ _ _ _ h j ha),.no rfl λ_=>rfl⟩
 | exit id=>exact⟨by intro t own I V a w K Q h j ha _ _ p;exact wp_exit (p (.exit id) _ _ _ _ _ _ h j ha),.no rfl λ_=>rfl⟩
 | goto l=>exact⟨by intro t own I V a w K Q h j ha _ _ p;exact wp_goto (p (.goto l) _ _ _ _ _ _ h j ha),.no rfl λ_=>rfl⟩
 | scope x ih=>exact⟨OkM.scope ih.1 ih.2,.no rfl λ_=>rfl⟩
 | seq x y ihx ihy =>
  refine⟨OkM.seq ihx.1 ihy.1 x y,λe l=>?_,λl e=>?_⟩
  .have e:(match Tu x with | some l=>some l | none=>Tu y)=none:=e;cases hx:Tu x with
   | some o=>rw[hx] at e;cases e
   | none=>rw[hx] at e;simp only[findLabel,ihx.2.1 hx l];exact ihy.2.1 e l
  .have e:(match Tu x with | some l=>some l | none=>Tu y)=some l:=e;show ∃rest,findLabel (.seq x y) l=some rest/\OkM P tb N own0 I0 V0 w0 rest (match Tu x with | some _=>Z1d x y (sxM P tb x false) (sxM P tb y true) | none=>sxM P tb y false)/\_;cases hx:Tu x with
   | some o =>
    rw[hx] at e;cases e;obtain⟨rest,Z,M,h3⟩:=ihx.2.2 _ hx;refine⟨.seq rest y,by simp only[findLabel,Z],OkM.seq M ihy.1 x y,λu=>?_⟩;simp only[Fd,Bool.and_eq_true] at u⊢;exact⟨h3 u.1,u.2⟩
   | none =>
    rw[hx] at e;obtain⟨rest,Z,M,h3⟩:=ihy.2.2 _ e;refine⟨rest,by simp only[findLabel,ihx.2.1 hx l];exact Z,M,λu=>?_⟩;simp only[Fd,Bool.and_eq_true] at u;exact h3 u.2
 | cond c x y ihx ihy =>
  refine⟨?_,.no rfl λ_=>rfl⟩;intro t own I V a w K Q h j ha u D p;simp only[Fd,Bool.and_eq_true] at u;have h:Zd c x y (sxM P tb x true) (sxM P tb y true) t own V.n K:=h;unfold Zd at h;obtain⟨g,h,hg⟩:=B5 h ha j.has;cases g with
  | tt=>exact wp_cond_true (by generalize a.eval c=z at hg;cases(show VRep I .tt z from hg);rfl) (ihx.1 h j ha u.1 D p)
  | ff=>exact wp_cond_false (by generalize a.eval c=z at hg;cases(show VRep I .ff z from hg);rfl) (ihy.1 h j ha u.2 D p)
  | v z =>
   have e:=B0 hg;cases z with
   | bool b=>exact wp_cond_split e (λF=>ihx.1 (h.1 F) j ha u.1 D p) (λF=>ihy.1 (h.2 F) j ha u.2 D p)
   | _=>exact h.elim
  | _=>exact h.elim
 | block id x ih =>
  refine⟨?_,.no rfl λ_=>rfl⟩;intro t own I V a w K Q h j ha u D p;have h:S9 id x (sxM P tb x true) t own V.n K:=h;unfold S9 at h;refine wp_block (ih.1 h j ha u (λch d v a w=>D ch d v a w) λe t own I V a w q j ha=>?_);cases e with
  | normal=>exact p .normal _ _ _ _ _ _ q j ha
  | exit id' =>
   show if id'=id then Q .normal a w else Q (.exit id') a w;dsimp only at q;by_cases A:id'=id
   .subst A;rw[dq rfl];rw[Nat.beq_refl] at q;exact p .normal _ _ _ _ _ _ q j ha
   .rw[dp A];have M:Nat.beq id' id=false:=by
     cases F:Nat.beq id' id with
     | false=>rfl
     | true=>exact dt (ax F) A
    rw[M] at q;exact p (.exit id') _ _ _ _ _ _ q j ha
  | goto l=>exact p (.goto l) _ _ _ _ _ _ q j ha
  | ret=>exact p .ret _ _ _ _ _ _ q j ha
 | loop x ih =>
  refine⟨?_,.no rfl λ_=>rfl⟩;intro t own I V a w K Q h j ha u D p;have h:Rp x (sxM P tb x true) t own V.n K:=h;unfold Rp at h;obtain⟨w1o,Ig,Vg,⟨bb,X,st,dd,In,μ,⟨x0,h0,C⟩,J⟩,lg⟩:=X1 h rfl j.has;replace j:=j.trans lg;replace ha:=ha.mono lg.fro.mono lg.va;have hn0:=j.n;let At:X->Act->World->Prop:=λx a w=>In x/\∃I V',V'.n=Vg.n/\SinceC own0 I0 V0 w0 (st x).2 I V' w/\ARep N I V' a (st x).1;have Z:=Zc7 j.n j ha C;refine wp_loop_ghost (λk a w=>∃x,At x a w/\μ x=k) (μ x0) ⟨x0,⟨h0,Ig,_,rfl,Z.1,Z.2⟩,rfl⟩ λk a1 w1 hI=>?_;obtain⟨x1,⟨A,I1,V1,Y,hS,hA⟩,rfl⟩:=hI;have F:=J x1 A;rw[<-Y] at F;refine ih.1 F hS hA u (λch d v a w=>D ch d v a w) λe t own I V a w q j ha=>?_;have fin:∀{own:Os} {I:Imm} {V:Va},P5 st In μ V1.n x1 K e t own V.n->SinceC own0 I0 V0 w0 own I V w->ARep N I V a t->(match e.to with | .normal=>∃m,m < μ x1/\∃x,At x a w/\μ x=m | e=>Q e a w):=λ{own I V} q j ha=>by
   cases e with
   | normal =>
    obtain⟨y,m,hy,W,C⟩:=q;have M:=Zc7 (n:=V1.n) (by omega) j ha C;exact⟨μ y,W,y,⟨hy,I,_,by simp[Va.renS,Y],M.1,M.2⟩,rfl⟩
   | exit id=>exact p (.exit id) _ _ _ _ _ _ q j ha
   | goto l=>exact p (.goto l) _ _ _ _ _ _ q j ha
   | ret=>exact p .ret _ _ _ _ _ _ q j ha
  have hk2:∃(own':Os) (I':Imm) (V':Va),P5 st In μ V1.n x1 K e t own' V'.n/\SinceC own0 I0 V0 w0 own' I' V' w/\ARep N I' V' a t:=by
   cases bb with
   | false =>
    refine⟨own,I,V,?_,j,ha⟩;cases e with
    | normal=>obtain⟨y,hy,W,C⟩:=q;exact⟨y,_,hy,W,C⟩
    | _=>exact q
   | true =>
    obtain⟨w2,I2,V2,q,l2⟩:=X1 (show Vr st dd In μ V1.n x1 K e t own V.n from q) rfl j.has;exact⟨w2,I2,V2,q,j.trans l2,ha.mono l2.fro.mono l2.va⟩
  obtain⟨own',I',V',q1,q2,q3⟩:=hk2;have:=fin q1 q2 q3;cases e<;>exact this
 | region id ops dr =>
  refine⟨?_,.no rfl λ_=>rfl⟩;intro t own I V a w K Q h j ha u D p;simp only[Fd,Bool.and_eq_true] at u;have hd:∀o∈ops.toList,∀i,o.dst=some i->i < N:=λo ho i A=>by have:=List.all_eq_true.1 u.1 o ho;rw[A] at this;exact dn this
  have h:Z85 P tb id ops dr t own V.n K:=h;unfold Z85 at h;cases dr with
  | false=>exact wp_region_list (Zu (own0:=own) (I0:=I) (V0:=V) (w0:=w) hT (λt own I V a w q hl ha=>p .normal _ _ _ _ _ _ q (j.tail hl) ha) h (Later.refl j.has).since ha hd)
  | true =>
   have H:=u.2;cases A:Z6s tb ops with
   | true =>
    have h:(match Z6s tb ops with
     | true=>sxI P tb own V.n ops.toList t λt=>Z6u tb ops.toList V.n λn=>K .normal t own n
     | false=>Z2n tb ops.toList ops.toList 0 λE=>Ky tb E ops.toList ops.toList 0 λlate=>Ss tb late t own ops.toList ops.toList 0 [] λXL=>trK own 3 XL λXL=>sxD P tb XL E late ops.toList ops.toList (noB ops.toList) t own V.n (K .normal)):=h
    rw[A] at h;exact Za2 hT hm hd A h j.has ha λt I V a w q hl ha=>p .normal _ _ _ _ _ _ q (j.tail hl.since) ha
   | false =>
   simp only[A,Bool.false_or,Bool.and_eq_true] at H;have hH:Has I V own w.drew:=j.has.heap rfl rfl;have hL2:Since own I V w own I V w.drew:=⟨hH,⟨rfl,rfl,rfl,av _,λ_ _ _=>⟨rfl,λ_=>rfl⟩,λ_ _ _ h=>h,λk r b e F _=>⟨k,r,e,F⟩⟩,av _,λ_ _=>rfl,λ_ _=>rfl⟩;have Y:=Zct ops.toList;obtain⟨E,O⟩:=Z9s (tb:=tb) ops.toList ops.toList 0;obtain⟨late,B⟩:=Z58 (tb:=tb) E ops.toList ops.toList 0;obtain⟨XL,hXL,hvol⟩:=Za4 (tb:=tb) j.has ha late ops.toList ops.toList 0 [] (λk q=>by simp at q);have h:Z2n tb ops.toList ops.toList 0 λE=>Ky tb E ops.toList ops.toList 0 λlate=>Ss tb late t own ops.toList ops.toList 0 [] λXL=>trK own 3 XL λXL=>sxD P tb XL E late ops.toList ops.toList (noB ops.toList) t own V.n (K .normal):=by
    have h:(match Z6s tb ops with
     | true=>sxI P tb own V.n ops.toList t λt=>Z6u tb ops.toList V.n λn=>K .normal t own n
     | false=>Z2n tb ops.toList ops.toList 0 λE=>Ky tb E ops.toList ops.toList 0 λlate=>Ss tb late t own ops.toList ops.toList 0 [] λXL=>trK own 3 XL λXL=>sxD P tb XL E late ops.toList ops.toList (noB ops.toList) t own V.n (K .normal)):=h
    rw[A] at h;exact h
   rw[O,B] at H;obtain⟨XL2,hXL2,T⟩:=Z6t j.has 3 XL hXL;have T:∀K:List Nat->Prop,trK own 3 XL K=K XL2:=T;rw[O,B,hvol,T] at h;refine U0 hm (late:=late) (S:=Agree V XL2 w.drew) ?_;have:=W3 (fu:=ops.toList) (l:=noB ops.toList) hT D H.1 hd (λt own I V a w q hl ha=>p .normal _ _ _ _ _ _ q (j.tail hl) ha) (by rw[Y.2];simp) (by rw[Y.1];exact Km _ (by simp)) H.2 h hL2 ha hXL2;rw[Y.1] at this;simpa using this
 | rangeFunc f ps x y _ _=>exact⟨λh=>False.elim h,.no rfl λ_=>rfl⟩
 | refuse s=>exact⟨λh=>False.elim h,.no rfl λ_=>rfl⟩
theorem Z2b (hT:∀t i,look t tb=some i->TIok P t i)(q:P.follows .mixedOrders=true){c:Code}{t:Ts}{own:Os}{I:Imm}{V:Va}{a:Act}{w:World}{K:KC}{Q:Exit->Act->World->Prop}(h:sxC P tb c t own V.n K)(b:SinceC own0 I0 V0 w0 own I V w)(ha:ARep N I V a t)(e:Fd tb N c=true)(p:∀ch d v a w,Q (.panic ch) (a.put d v) w->Q (.panic ch) a w)(j:Zfb N own0 I0 V0 w0 K Q):c.wp P Q a w :=
 (Zd1 hT q c).1 h b ha e p j
end
section
variable {P:Program} {tb:List (Nat × TI)} {N n:Nat} {I I' I0:Imm} {V V' V0:Va} {a:Act} {t t':Ts} {own own' own0:Os} {w w' w0:World} {g:G} {x y:Value}
def Ix (tmps:Array Value):ResultVar->Sem Value
 | .tmp t=>pure (tmps.getD t undef)
 | .cell x t=>do loadVar t (<-asAddr (tmps.getD x undef))
def E4 (P:Program)(a:Act)(w:World)(r:ResultVar)(v:Value):Prop:=(Ix a.tmps r).run P w=.ok v w
theorem Uu (hT:∀t i,look t tb=some i->TIok P t i){r:ResultVar}{K1:G->Os->Prop}(h:Z89 tb t own K1 r)(hH:Has I V own w)(ha:ARep N I V a t):∃g own' I' V' v,K1 g own'/\V'.n=V.n/\Later own I V w own' I' V' w/\VRep I' g v/\E4 P a w r v:=by
 cases r with
 | tmp i =>
  unfold Z89 at h;dsimp only at h;cases q:look i t with
  | none=>rw[q] at h;exact h.elim
  | some g =>
   rw[q] at h;obtain⟨x,B,hr⟩:=ha.get i g q;obtain⟨E,p,s,z,Y,hn,C,h4⟩:=Zt h hr hH;exact⟨E,p,s,z,x,Y,hn.1,C,h4,by unfold E4 Ix;simp[B]⟩
 | cell i ty =>
  unfold Z89 at h;dsimp only at h;split at h
  .next k off A q T =>
   obtain⟨x,B,hr⟩:=ha.get i _ q;obtain⟨hk,rfl⟩:=Cb hr;split at h
   .next cs ty' hb =>
    obtain⟨X,Y,J,C⟩:=N9 hH hb;have c:=hT _ _ T;cases hag:A.agg with
    | true =>
     rw[hag] at h;obtain⟨l,k1,Z,-⟩:=Lo h J;obtain⟨l',p,s,z,W,D,M,H⟩:=Pq k1 Z hH;have u:((X.drop off).take A.zero.length).length=A.zero.length:=by
      rcases ak A.zero.length with F | F
      .rw[F];simp
      .have:=Ot h J F;simp;omega
     refine⟨_,p,s,z,_,W,D.1,M,Ze0 H,?_⟩;have:=D2 (P:=P) (w:=w) (g:=V.b k) (k:=off) (ty:=ty) (cs:=(X.drop off).take A.zero.length) (by rw[c.agg,hag]) (by rw[c.size,u]) (λj v O=>by rw[C];exact J1 O);unfold E4 Ix;simp[B,asAddr,this]
    | false =>
     rw[hag,Ea] at h;dsimp only at h;cases hc:cs[off]? with
     | none=>rw[hc] at h;exact h.elim
     | some g =>
      rw[hc] at h;obtain⟨v,O,hg⟩:=J.get hc;obtain⟨E,p,s,z,W,D,M,H⟩:=Dg h hg hH;refine⟨E,p,s,z,v,W,D.1,M,H,?_⟩;have e:=(C off).trans O;unfold E4 Ix;simp[B,asAddr,loadVar,H7 (P:=P) (show Pi P ty=some false by rw[c.agg,hag]),e]
   .exact h.elim
  .exact h.elim
theorem Z8y (hT:∀t i,look t tb=some i->TIok P t i){r:ResultVar}{K1:G->Os->Prop}(h:Z89 tb t own K1 r)(hH:Has I V own w)(ha:ARep N I V a t):∃g own' I' V' v,K1 g own'/\Later own I V w own' I' V' w/\VRep I' g v/\E4 P a w r v:=by obtain⟨g,o,I',V',v,c,-,b⟩:=Uu hT h hH ha;exact⟨g,o,I',V',v,c,b⟩
theorem U6 (hT:∀t i,look t tb=some i->TIok P t i):∀{rs:List ResultVar} {own:Os} {I:Imm} {V:Va} {K1:List G->Prop},Z9f tb t own rs K1->Has I V own w->ARep N I V a t->∃gs own' I' V',∃vs:List Value,K1 gs/\Later own I V w own' I' V' w/\PW (VRep I') gs vs/\vs.length=rs.length/\∀(i:Nat) r v,rs[i]?=some r->vs[i]?=some v->E4 P a w r v
 | [],own,I,V,K1,h,hH,_=>⟨[],own,I,V,[],h,.refl hH,.nil,rfl,λi r v h=>by simp at h⟩
 | r::rs,own,I,V,K1,h,hH,ha=>by
  obtain⟨g,E,F,H,v,z,b,D,B⟩:=Z8y (K1:=λg w'=>Z9f tb t w' rs λgs=>K1 (g::gs)) hT h hH ha;obtain⟨gs,u,j,V2,vs,s,e,C,p,A⟩:=U6 hT z b.has (ha.mono b.fro.mono b.va);refine⟨g::gs,u,j,V2,v::vs,s,b.trans e,.cons (D.mono e.fro.mono) C,by simp[p],λi r' q hr c=>?_⟩;cases i with
  | zero=>simp at hr c;subst hr c;exact B
  | succ i=>exact A i r' q (by simpa using hr) (by simpa using c)
theorem Vm:∀{rs:List ResultVar} {vs:List Value},vs.length=rs.length->(∀(i:Nat) r v,rs[i]?=some r->vs[i]?=some v->E4 P a w r v)->(rs.mapM (Ix a.tmps)).run P w=.ok vs w
 | [],vs,h,_=>by rw[az h];simp
 | r::rs,[],h,_=>by simp at h
 | r::rs,v::vs,h,hr=>by have b:=hr 0 r v rfl rfl;have c:=Vm (rs:=rs) (vs:=vs) (by simpa using h) λi r v h e=>hr (i+1) r v (by simpa using h) (by simpa using e);unfold E4 at b;rw[List.mapM_cons,Sem.run_bind,b,Result.andThen_ok,Sem.run_bind,c,Result.andThen_ok,Sem.run_pure]
def N0:List Value->Value
 | [v]=>v
 | vs=>.tuple vs.toArray
theorem Dr {fn:Func}{vs:List Value}(b:vs.length=fn.results.toList.length)(hr:∀(i:Nat) r v,fn.results.toList[i]?=some r->vs[i]?=some v->E4 P a w r v):(results fn a.tmps).run P w=.ok (N0 vs) w:=by
 have h:=Vm b hr;have e:results fn a.tmps=(do let vs <-fn.results.mapM (Ix a.tmps);pure (if h:vs.size=1 then vs[0] else .tuple vs)):=by
  unfold results
  congr 2
 rw[e,Sem.run_bind,Array.mapM_eq_mapM_toList];simp only[Sem.run_map,h,Result.andThen_ok,Sem.run_pure];cases vs with
 | nil=>simp[N0]
 | cons v vs =>
  cases vs with
  | nil=>simp[N0]
  | cons u vs=>simp[N0]
theorem Hb:∀{l:List G} {k i:Nat} {g:G},look i (K9 k l)=some g->∃j,i=k+j/\l[j]?=some g
 | [],k,i,g,h=>by cases h
 | g'::l,k,i,g,h=>by
  unfold K9 at h;rw[Af] at h;split at h
  .next e=>cases h;exact⟨0,by omega,rfl⟩
  .obtain⟨j,c,b⟩:=Hb h;exact⟨j+1,by omega,by simpa using b⟩
theorem Z5f (hT:∀t i,look t tb=some i->TIok P t i)(hm:P.follows .mixedOrders=true){f:FuncId}{fn:Func}{c:Code}{gs:List G}{Q:G->Prop}(hf:P.funcs[f]?=some fn)(A:(fn.name=="runtime.NumGoroutine")=false) (B:fn.body=some c) (W:gs.length<=fn.ntmps) (hc:Fd tb fn.ntmps c=true)
  (h:sxC P tb c (K9 0 gs) [] 0 (Zcy tb fn Q)):FnV P f gs Q:=by
 refine⟨⟨fn,hf,A,by rw[B];rfl⟩,λI w vs hM X=>?_⟩;let V:Va:=⟨0,λ_=>0,λ_=>undef,λ_ _=>False⟩;have hH:Has I V [] w:=⟨hM,λk r h=>(by cases h),λk r h=>(by cases h),λk r b h=>(by cases h),λk k' r r' b h=>(by cases h)⟩;refine calls_of_wp hf B ?_;have Y:vs.length=gs.length:=X.1.symm;have ha:ARep fn.ntmps I V {tmps:=vs.toArray++Array.replicate (fn.ntmps - vs.toArray.size) undef,defers:=[]} (K9 0 gs):=by
  refine⟨rfl,by simp;omega,λi g hg=>?_⟩;obtain⟨j,e,hj⟩:=Hb hg;obtain rfl:i=j:=by omega
  obtain⟨u,Z,hr⟩:=X.get hj;refine⟨u,?_,.of_v hr⟩;have hi:=(ar.1 Z).1;show(vs.toArray++_)[i]?=_;rw[Array.getElem?_append_left (by simpa using hi)];simpa using Z
 refine Z2b (own0:=[]) (I0:=I) (V0:=V) (w0:=w) hT hm (V:=V) h ⟨hH,.refl _ _ _ _,av _,λ_ _=>rfl⟩ ha hc (λch d v a w z=>?_) λe t own I1 V1 a E q T O=>?_
 .cases d<;>exact z
 .have key:(∀id,e≠.exit id)->bodyPost P fn (λe w'=>∃x g I',e=.returned x/\Q g/\Mem I' w'/\VR I' g x/\(∀b o x,I b o=some x->I' b o=some x)/\(∀b o,b < w.heap.size->I' b o=I b o)/\Below w.heap.size w w') .ret a E:=λhe=>by
   refine⟨O.defers,?_⟩;have q:match fn.results.toList with
     | [r]=>Z9f tb t own [r] λgs=>match gs with
      | [g]=>Q g
      | _=>False
     | rs=>Z9f tb t own rs λgs=>Q (.tup gs):=by
    cases e with
    | exit id=>exact dt rfl (he id)
    | goto l=>exact q.elim
    | normal=>exact q
    | ret=>exact q
   have fin:∀{gs own' I' V' vs},Later own I1 V1 E own' I' V' E->PW (VRep I') gs vs->∀{g x},Q g->VR I' g x->∃x' g I',Ending.returned x=.returned x'/\Q g/\Mem I' E/\VR I' g x'/\(∀b o x,I b o=some x->I' b o=some x)/\(∀b o,b < w.heap.size->I' b o=I b o)/\Below w.heap.size w E:=λ{gs own' I' V' vs} hl _ {g x} z F=>by have p:=T.fro.trans hl.fro;exact⟨x,g,I',rfl,z,hl.has.mem,F,p.mono,λb o B=>(p.blk b B λk r q=>(by cases q)).2 o,⟨p.os,p.tape,p.output,p.size,λb B=>(p.blk b B λk r q=>(by cases q)).1⟩⟩
   split at q
   .next r hr =>
    obtain⟨gs,o2,I2,V2,vs,C,M,D,s,H⟩:=U6 hT q T.has O;rw[<-hr] at s H;refine⟨_,Dr s H,?_⟩;cases gs with
    | nil=>exact C.elim
    | cons g gs =>
     cases gs with
     | cons g' gs=>exact C.elim
     | nil =>
      obtain⟨v,vs',rfl,F,W⟩:=D.uncons;obtain rfl:=W.of_nil;refine fin M D C ?_;cases g with
      | tup l=>cases F
      | _=>exact F
   .next rs hr =>
    obtain⟨gs,o2,I2,V2,vs,C,M,D,s,H⟩:=U6 hT q T.has O;refine⟨_,Dr s H,?_⟩;have J:∀v,vs≠[v]:=λv e=>by
     rw[e] at s;cases z:fn.results.toList with
     | nil=>rw[z] at s;simp at s
     | cons r l =>
      cases l with
      | nil=>exact hr r z
      | cons r' l=>rw[z] at s;simp at s
    have e:N0 vs=.tuple vs.toArray:=by
     unfold N0;split
     .next v=>exact dt rfl (J v)
     .rfl
    rw[e];exact fin M D C ⟨vs,rfl,D⟩
  cases e with
  | normal=>exact key λid h=>by cases h
  | exit id=>exact q.elim
  | goto l=>exact q.elim
  | ret=>exact key λid h=>by cases h
theorem FnV.mono {f:FuncId}{gs:List G}{Q b:G->Prop}(h:FnV P f gs Q)(e:∀g,Q g->b g):FnV P f gs b :=
 ⟨h.1,λI w vs j c=>(h.2 I w vs j c).mono λ_ _ ⟨x,g,I',h1,h2,h3⟩=>⟨x,g,I',h1,e g h2,h3⟩⟩
theorem Vd (hT:∀t i,look t tb=some i->TIok P t i){r:ResultVar}{K1:G->Os->Prop}(h:Wv tb t own K1 r)(hH:Has I V own w)(ha:ARep N I V a t):∃g own' I' V' v,K1 g own'/\V'.n=V.n/\Later own I V w own' I' V' w/\PRep I' V' g v/\E4 P a w r v:=by
 cases r with
 | tmp i =>
  unfold Wv at h;dsimp only at h;cases hl:look i t with
  | none=>rw[hl] at h;exact h.elim
  | some g =>
   rw[hl] at h;obtain⟨x,A,hr⟩:=ha.get i g hl;obtain⟨s,b,p,q,e,c,u,j⟩:=Z1x h hr hH;exact⟨s,b,p,q,x,e,c.1,u,j,by unfold E4 Ix;simp[A]⟩
 | cell i ty =>
  obtain⟨s,b,p,q,v,e,c,u,j,z⟩:=Uu (K1:=K1) hT (show Z89 tb t own K1 (.cell i ty) from h) hH ha;exact⟨s,b,p,q,v,e,c,u,.of_v j,z⟩
theorem Ow (hT:∀t i,look t tb=some i->TIok P t i):∀{rs:List ResultVar} {own:Os} {I:Imm} {V:Va} {K1:List G->Os->Prop},U7 tb t own rs K1->Has I V own w->ARep N I V a t->∃gs own' I' V',∃vs:List Value,K1 gs own'/\V'.n=V.n/\Later own I V w own' I' V' w/\PW (PRep I' V') gs vs/\vs.length=rs.length/\∀(i:Nat) r v,rs[i]?=some r->vs[i]?=some v->E4 P a w r v
 | [],own,I,V,K1,h,hH,_=>⟨[],own,I,V,[],h,rfl,.refl hH,.nil,rfl,λi r v h=>by simp at h⟩
 | r::rs,own,I,V,K1,h,hH,ha=>by
  obtain⟨g,J,M,O,v,C,z,b,H,E⟩:=Vd (K1:=λg w'=>U7 tb t w' rs λgs j=>K1 (g::gs) j) hT h hH ha;obtain⟨gs,B,p,V2,vs,A,u,c,F,q,D⟩:=Ow hT C b.has (ha.mono b.fro.mono b.va);refine⟨g::gs,B,p,V2,v::vs,A,u.trans z,b.trans c,.cons (H.mono c.fro.mono c.va) F,by simp[q],λi r' s hr e=>?_⟩;cases i with
  | zero=>simp at hr e;subst hr e;exact E
  | succ i=>exact D i r' s (by simpa using hr) (by simpa using e)
end
structure Zal (rs:List R)(gs:List G)(own0:Os)(n0:Nat)(gs0:List G)(roots:List Nat):Prop where
 run:∀I V w vs,Has I V (Ev rs 0) w->V.n=rs.length->PW (PRep I V) gs vs->∃V2:Va,V2.n=n0/\Has I V2 own0 w/\PW (TRep I V2) gs0 vs/\Fro (Ev rs 0) I V w own0 I V2 w/\∀(i r:Nat),roots[i]?=some r->V2.b r=V.b i/\r < n0
 len:roots.length=rs.length
section
variable {P:Program} {tb:List (Nat × TI)} {N n n0:Nat} {I I' I0:Imm} {V V' V0 V2:Va} {a:Act} {t t':Ts} {own own' own0:Os} {w w' w0:World} {g:G} {x y:Value} {r:R} {k:Nat}
theorem Dh (rs:List R)(gs:List G):Zal rs gs (Ev rs 0) rs.length gs (List.range rs.length) :=
 ⟨λI V w vs hH e c=>⟨V,e,hH,c.mono λ_ _ h=>h.to_t,.refl _ _ _ _,λi r h=>by have b:=(ar.1 h).1;rw[cz (by simpa using b)] at h;cases h;exact⟨rfl,by simpa using b⟩⟩,by simp⟩
theorem Ld:∀{b:List It} {i:Nat} {it:It} {k:Nat},b[i]?=some it->k∈it.keys->k∈keysL b
 | [],_,_,_,h,_=>by simp at h
 | it0::b,0,it,k,h,hk=>by simp at h;subst h;exact List.mem_append_left _ hk
 | it0::b,i+1,it,k,h,hk=>List.mem_append_right _ (Ld (by simpa using h) hk)
theorem Ps:∀{l m:List Nat},Rw (l++m)=true->Rw l=true/\Rw m=true/\∀k,k∈l->k ∉ m
 | [],m,h=>⟨rfl,h,λk b=>by simp at b⟩
 | k::l,m,h=>by
  rw[dm] at h;unfold Rw at h;cases hm:Fn k (l++m) with
  | true=>rw[hm] at h;cases h
  | false =>
   rw[hm] at h;obtain⟨q,p,s⟩:=Ps h;have e:k ∉ l++m:=λb=>by rw[Cc.2 b] at hm;cases hm
   refine⟨?_,p,λj c=>?_⟩
   .unfold Rw;have:Fn k l=false:=by
     cases hb:Fn k l with
     | false=>rfl
     | true=>exact dt (List.mem_append_left _ (Cc.1 hb)) e
    rw[this];exact q
   .rcases bq.1 c with rfl | c
    .exact λh=>e (List.mem_append_right _ h)
    .exact s j c
theorem O5:∀{c:List It},Rw (keysL c)=true->∀{i j:Nat} {a b:It} {k:Nat},c[i]?=some a->c[j]?=some b->k∈a.keys->k∈b.keys->i=j
 | [],_,i,_,_,_,_,h,_,_,_=>by simp at h
 | it0::c,hn,i,j,a,b,k,hi,hj,hk,hk'=>by
  obtain⟨-,p,e⟩:=Ps (show Rw (it0.keys++keysL c)=true from hn);cases i with
  | zero =>
   cases j with
   | zero=>rfl
   | succ j=>simp at hi;subst hi;exact dt (Ld (by simpa using hj) hk') (e k hk)
  | succ i =>
   cases j with
   | zero=>simp at hj;subst hj;exact dt (Ld (by simpa using hi) hk) (e k hk')
   | succ j =>
    have:=O5 p (i:=i) (j:=j) (by simpa using hi) (by simpa using hj) hk hk';omega
theorem Qd:∀{b:List It},Rw (keysL b)=true->∀{i:Nat} {a:It},b[i]?=some a->Rw a.keys=true
 | [],_,i,_,h=>by simp at h
 | it0::b,hn,i,a,hi=>by
  obtain⟨e,c,-⟩:=Ps (show Rw (it0.keys++keysL b)=true from hn);cases i with
  | zero=>simp at hi;subst hi;exact e
  | succ i=>exact Qd c (by simpa using hi)
theorem Mg {n0 N:Nat}{M:List (Nat × Nat)}:∀{b:List It} {j:Nat},Z8o own n n0 N M j b->∀{i:Nat} {a:It},b[i]?=some a->a.ok own n n0 N M (j+i)
 | [],_,_,i,_,h=>by simp at h
 | it0::b,j,hn,i,a,hi=>by
  cases i with
  | zero=>simp at hi;subst hi;exact hn.1
  | succ i =>
   have:=Mg (j:=j+1) hn.2 (i:=i) (by simpa using hi);rw[show j+1+i=j+(i+1) by omega] at this;exact this
theorem Nt:∀(b:List It) (j i:Nat),look i (Ef b j)=if j<=i then(b[i - j]?).map It.root else none
 | [],j,i=>by simp[Ef,look]
 | it::b,j,i=>by
  rw[Ef,Af,Nt b (j+1) i];by_cases h:i=j
  .subst h;simp
  .by_cases c:j<=i
   .obtain⟨d,rfl⟩:=Nat.exists_eq_add_of_le c;cases d with
    | zero=>simp at h
    | succ d=>rw[dp h,dq (by omega),dq c,show j+(d+1) - (j+1)=d by omega,show j+(d+1) - j=d+1 by omega];simp
   .rw[dp h,dp c,dp (by omega)]
theorem Ug {it:It}{k:Nat}{r:R}(h:look k it.O=some r):ren it.m k∈it.keys:=bk.2 ⟨(k,r),Om h,rfl⟩
theorem Uq {C:List Nat}{Q:G->List R->Prop}{q:List It}{g':G}(hE:Y2 C own V.n g Q q g')(hH:Has I V own w)(hx:PRes I V g x)(s0:Nat->Value):∃V':Va,V'.n=q.length/\Has I V' (Ev (q.map It.res) 0) w/\PRes I V' g' x/\(∀i b,V'.f i b->∃k r,look k own=some r/\V.f k b)/\(∀(i k:Nat),C[i]?=some k->V'.b i=V.b k/\i < q.length)/\∀i,i < C.length->V'.s i=s0 i:=by
 let V':Va:=⟨q.length,λi=>V.b ((q[i]?).elim 0 It.root),λi=>if i < C.length then s0 i else V.s ((q[i]?).elim 0 It.root),λi b=>∃it k r,q[i]?=some it/\look k it.O=some r/\V.f (ren it.m k) b⟩;have X:∀{i:Nat} {it:It} {k:Nat} {r:R},q[i]?=some it->look k it.O=some r->∃r',look (ren it.m k) own=some r':=λ{i it k r} hi A=>by
  have hok:=Mg hE.ok hi;obtain⟨O,m,c⟩:=it;cases c with
  | true =>
   obtain⟨-,-,H⟩:=Gb (show leI m own V.n O from hok.1) A;exact⟨_,H⟩
  | false =>
   obtain⟨r0,e,F,-⟩:=hok;have e:O=[(0,r0)]:=e;subst e;have A:look k [(0,r0)]=some r:=A;rw[Af] at A;split at A
   .next e=>subst e;exact⟨_,F⟩
   .cases A
 have lk:∀{i:Nat} {r:R},look i (Ev (q.map It.res) 0)=some r->∃it,q[i]?=some it/\r=it.res:=λ{i r} h=>by rw[Bl,ay] at h;obtain⟨it,F,W⟩:=bh.1 h;exact⟨it,F,W.symm⟩
 have hb:∀{i:Nat} {it:It},q[i]?=some it->V'.b i=V.b (ren it.m 0):=λ{i it} h=>by show V.b ((q[i]?).elim 0 It.root)=_;rw[h];rfl
 have hs:∀{i:Nat} {it:It},q[i]?=some it->C.length<=i->V'.s i=V.s (ren it.m 0):=λ{i it} h hi=>by show(if i < C.length then s0 i else V.s ((q[i]?).elim 0 It.root))=_;rw[dp (by omega),h];rfl
 have key:∀k,k < q.length->∃it,q[k]?=some it/\(look k (Ef q 0)).getD k=ren it.m 0:=λk A=>by refine⟨q[k],aq A,?_⟩;rw[Nt,dq (aw _),Nat.sub_zero,aq A];rfl
 refine⟨V',rfl,⟨hH.mem,λi r h=>?_,λi r h=>?_,λi r b h hf=>?_,λi j r r' b h h' hf hf'=>?_⟩,?_,λi b ⟨it,k,r,F,W,E⟩=>(by obtain⟨r',H⟩:=X F W;exact⟨_,r',H,E⟩),λi k A=>?_,λi hi=>dq hi⟩
 .obtain⟨it,F,-⟩:=lk h;exact(ar.1 F).1
 .obtain⟨it,F,rfl⟩:=lk h;have hok:=Mg hE.ok F;obtain⟨O,m,c⟩:=it;cases c with
  | true =>
   obtain⟨W,r0,E⟩:=hok;have W:leI m own V.n O:=W;refine⟨Zck O,V.ren m V.n,?_,⟨λk r A=>(Gb W A).1,λk r A=>Z42 (Gb W A).2.1 (hH.each _ _ (Gb W A).2.2),λk r b A hf=>(hH.foot _ _ b (Gb W A).2.2 hf).1,λk k' r r' b A hk' hf hf'=>?_⟩,λc=>?_⟩
   .exact(hb F).symm
   .exact Tp (m:=m) (l:=O) (Qd hE.nod F) A hk' (hH.disj _ _ _ _ b (Gb W A).2.2 (Gb W hk').2.2 hf hf')
   .constructor
    .rintro⟨it',k,r,e,A,hf⟩;rw[F] at e;cases e;exact⟨k,r,A,hf⟩
    .rintro⟨k,r,A,hf⟩;exact⟨_,k,r,F,A,hf⟩
  | false =>
   obtain⟨r,e,hlk,hr⟩:=hok;have e:O=[(0,r)]:=e;subst e;simp only[Bool.and_eq_true] at hr;obtain⟨hr1,hr2,hr3⟩:=hr;have B:=hH.each _ _ hlk;have J:V'.f i=V.f (ren m 0):=by
    funext b;apply propext;constructor
    .rintro⟨it',k,r',e,A,hf⟩;rw[F] at e;cases e;have A:look k [(0,r)]=some r':=A;rw[Af] at A;split at A
     .next e=>subst e;exact hf
     .cases A
    .exact λhf=>⟨_,0,r,F,rfl,hf⟩
   have M:=hb F;have Y:=hs F;show RRep I V' i w r;have B:RRep I V (ren m 0) w (Lc (Ef q 0) r):=B;cases r with
   | blk cs t =>
    obtain⟨q1,us,q2,q3⟩:=B;refine⟨λb=>by rw[J,M];exact q1 b,us,by rw[M];exact q2,by simpa using q3.1,λj g u hg hu=>?_⟩;have A:=Ao (show Bw (Sz q.length) cs=true from hr1) g (au hg);have hn:=Ao (show Bw (Ze2 C.length) cs=true from hr2) g (au hg);have h:=q3.2 j _ u (by rw[ay,hg];rfl) hu;cases g with
    | ptr k o =>
     have A:=dn A;obtain⟨it,E,H⟩:=key k A;have h:CRep I V (.ptr ((look k (Ef q 0)).getD k) o) u:=h;rw[H] at h;exact⟨A,by rw[hb E];exact h.2⟩
    | mp k =>
     have A:=dn A;obtain⟨it,E,H⟩:=key k A;have h:CRep I V (.mp ((look k (Ef q 0)).getD k)) u:=h;rw[H] at h;exact⟨A,by rw[hb E];exact h.2⟩
    | osl k =>
     have A:=dn A;obtain⟨it,E,H⟩:=key k A;have h:CRep I V (.osl ((look k (Ef q 0)).getD k)) u:=h;rw[H] at h;exact⟨A,by rw[hs E (dn hn)];exact h.2⟩
    | osv k a b c =>
     have A:=dn A;obtain⟨it,E,H⟩:=key k A;have h:CRep I V (.osv ((look k (Ef q 0)).getD k) a b c) u:=h;rw[H] at h;exact⟨A,by rw[hs E (dn hn)];exact h.2⟩
    | _=>exact h
   | slc rows e sz =>
    have hge:C.length<=0+i:=dn (by simpa using hr3);have Y:=Y (by omega);exact⟨λb=>by rw[J,Y];exact B.1 b,by rw[Y];exact B.2⟩
   | vw rows e sz =>
    have hge:C.length<=0+i:=dn (by simpa using hr3);have Y:=Y (by omega);exact⟨λb=>by rw[J,Y];exact B.1 b,by rw[Y];exact B.2⟩
   | froz rows sz =>
    have hge:C.length<=0+i:=dn (by simpa using hr3);have Y:=Y (by omega);exact⟨λb=>by rw[J];exact B.1 b,by rw[Y];exact B.2.1,B.2.2⟩
   | gone=>exact λb=>by rw[J];exact B b
   | mpI l=>exact⟨λb=>by rw[J,M];exact B.1 b,by rw[M];exact B.2⟩
   | mpS l=>exact⟨λb=>by rw[J,M];exact B.1 b,by rw[M];exact B.2⟩
   | sit s pos=>exact⟨λb=>by rw[J,M];exact B.1 b,by rw[M];exact B.2⟩
   | mpX l m ob=>exact⟨λb=>by rw[J,M];exact B.1 b,by rw[M];exact B.2⟩
   | mit j l D last m ob=>exact⟨λb=>by rw[J,M];exact B.1 b,by rw[M];exact B.2⟩
   | abs p=>exact⟨B.1,by rw[J,M];exact B.2⟩
   | lnk j=>cases hr1
   | adr j b =>
    have A:=dn (show Nat.blt j q.length=true from hr1);obtain⟨it,E,H⟩:=key j A;have B:(∀c,¬V.f (ren m 0) c)/\(look j (Ef q 0)).getD j < V.n/\V.b ((look j (Ef q 0)).getD j)=b:=B;rw[H] at B;exact⟨λc=>by rw[J];exact B.1 c,A,by rw[hb E];exact B.2.2⟩
   | fam ps=>exact⟨B.1,by rw[J];exact B.2⟩
 .obtain⟨it,k,r',F,W,E⟩:=hf;obtain⟨r2,H⟩:=X F W;exact hH.foot _ _ b H E
 .obtain⟨it,k,r1,F,W,E⟩:=hf;obtain⟨it',k',r1',h1',h2',h3'⟩:=hf';obtain⟨r2,H⟩:=X F W;obtain⟨r2',h4'⟩:=X h1' h2';have:=hH.disj _ _ _ _ b H h4' E h3';exact O5 hE.nod F h1' (Ug W) (this ▸ Ug h2')
 .have hres:=hE.res;have T:=hE.key;simp only[Bool.and_eq_true] at T;obtain⟨⟨T,Z⟩,hrn⟩:=T;have one:∀g' x,Zam q.length g'=true->Zdq g'=true->Z2v C.length g'=true->PRe1 I V (Z2o (Ef q 0) g') x->PRe1 I V' g' x:=λg' x F W h5 h=>by
   cases g' with
   | ptr k o =>
    have A:=dn F;obtain⟨it,E,H⟩:=key k A;have h:PRep I V (.ptr ((look k (Ef q 0)).getD k) o) x:=h;rw[H] at h;exact(show PRep I V' (.ptr k o) x from⟨A,by rw[hb E];exact h.2⟩)
   | mp k =>
    have A:=dn F;obtain⟨it,E,H⟩:=key k A;have h:PRep I V (.mp ((look k (Ef q 0)).getD k)) x:=h;rw[H] at h;exact(show PRep I V' (.mp k) x from⟨A,by rw[hb E];exact h.2⟩)
   | osl k =>
    have A:=dn F;obtain⟨it,E,H⟩:=key k A;have h:PRep I V (.osl ((look k (Ef q 0)).getD k)) x:=h;rw[H] at h;exact(show PRep I V' (.osl k) x from⟨A,by rw[hs E (dn h5)];exact h.2⟩)
   | osv k a b c=>cases W
   | oel k a b c=>cases W
   | orv k a b c d e=>cases W
   | clo f a c=>cases W
   | v z=>exact h
   | tt=>exact h
   | ff=>exact h
   | un=>exact h
   | nl=>exact h
   | agg l=>exact h
   | sl l=>exact h
   | oag l =>
    obtain⟨cs,e,hp⟩:=(show TRep1 I V (.oag (l.map (Mt (Ef q 0)))) x from h);refine(show TRep1 I V' (.oag l) x from⟨cs,e,by simpa using hp.1,λj g u hg hu=>?_⟩);have A:=Ao (show Bw (Sz q.length) l=true from F) g (au hg);have hn:=Ao (show Bw (Ze2 C.length) l=true from h5) g (au hg);have h:=hp.2 j _ u (by rw[ay,hg];rfl) hu;cases g with
    | ptr k o =>
     have A:=dn A;obtain⟨it,E,H⟩:=key k A;have h:CRep I V (.ptr ((look k (Ef q 0)).getD k) o) u:=h;rw[H] at h;exact⟨A,by rw[hb E];exact h.2⟩
    | mp k =>
     have A:=dn A;obtain⟨it,E,H⟩:=key k A;have h:CRep I V (.mp ((look k (Ef q 0)).getD k)) u:=h;rw[H] at h;exact⟨A,by rw[hb E];exact h.2⟩
    | osl k =>
     have A:=dn A;obtain⟨it,E,H⟩:=key k A;have h:CRep I V (.osl ((look k (Ef q 0)).getD k)) u:=h;rw[H] at h;exact⟨A,by rw[hs E (dn hn)];exact h.2⟩
    | osv k a b c =>
     have A:=dn A;obtain⟨it,E,H⟩:=key k A;have h:CRep I V (.osv ((look k (Ef q 0)).getD k) a b c) u:=h;rw[H] at h;exact⟨A,by rw[hs E (dn hn)];exact h.2⟩
    | _=>exact h
   | tup l=>cases F
   | elp l o=>cases(show VRep I (.elp l o) x from h)
  rw[<-hres] at hx;cases g' with
  | tup l =>
   obtain⟨cs,e,hp⟩:=hx;exact⟨cs,e,by simpa using hp.1,λj g u hg hu=>one g u (Ao (show Bw (Zam q.length) l=true from T) g (au hg)) (Ao (show Bw Zdq l=true from Z) g (au hg)) (Ao (show Bw (Z2v C.length) l=true from hrn) g (au hg)) (hp.2 j _ u (by rw[ay,hg];rfl) hu)⟩
  | ptr k o=>exact one (.ptr k o) x T Z hrn hx
  | mp k=>exact one (.mp k) x T Z hrn hx
  | osl k=>exact one (.osl k) x T Z hrn hx
  | osv k a b c=>cases Z
  | oel k a b c=>cases Z
  | orv k a b c d e=>cases Z
  | clo f a c=>cases Z
  | v z=>exact hx
  | tt=>exact hx
  | ff=>exact hx
  | un=>exact hx
  | nl=>exact hx
  | agg l=>exact hx
  | sl l=>exact hx
  | oag l=>exact one (.oag l) x T Z hrn hx
  | elp l o=>cases(show VRep I (.elp l o) x from hx)
 .obtain⟨l,hl⟩:=hE.rts;have F:(q.map It.root)[i]?=some k:=by rw[hl,bu (ar.1 A).1];exact A
  rw[ay] at F;obtain⟨it,W,E⟩:=bh.1 F;exact⟨by rw[hb W,<-E];rfl,(ar.1 W).1⟩
theorem Yb (hT:∀t i,look t tb=some i->TIok P t i)(hm:P.follows .mixedOrders=true){f:FuncId}{fn:Func}{c:Code}{gs B:List G}{rs:List R}{p:List Nat}{Q:G->List R->Prop}(hf:P.funcs[f]?=some fn)(J:(fn.name=="runtime.NumGoroutine")=false) (hb:fn.body=some c) (hn:B.length<=fn.ntmps) (hc:Fd tb fn.ntmps c=true)
  (ho:Zal rs gs own0 n0 B p) (h:sxC P tb c (K9 0 B) own0 n0 (Z6v tb fn p Q)):FnO P f gs rs Q:=by
 refine⟨⟨fn,hf,J,by rw[hb];rfl⟩,λI V w vs hH T hp=>?_⟩;obtain⟨V2,h2n,hH2,O,hF2,H⟩:=ho.run I V w vs hH T hp;refine calls_of_wp hf hb ?_;have hlen:vs.length=B.length:=O.1.symm;have ha:ARep fn.ntmps I V2 {tmps:=vs.toArray++Array.replicate (fn.ntmps - vs.toArray.size) undef,defers:=[]} (K9 0 B):=by
  refine⟨rfl,by simp;omega,λi g hg=>?_⟩;obtain⟨j,e,hj⟩:=Hb hg;obtain rfl:i=j:=by omega
  obtain⟨u,hu,hr⟩:=O.get hj;refine⟨u,?_,hr⟩;have hi:=(ar.1 hu).1;show(vs.toArray++_)[i]?=_;rw[Array.getElem?_append_left (by simpa using hi)];simpa using hu
 rw[<-h2n] at h;refine Z2b (own0:=own0) (I0:=I) (V0:=V2) (w0:=w) hT hm (V:=V2) h ⟨hH2,.refl _ _ _ _,av _,λ_ _=>rfl⟩ ha hc (λch d v a w hq=>?_) λe t own I1 X a w1 D hS hA=>?_
 .cases d<;>exact hq
 .have key:(∀id,e≠.exit id)->bodyPost P fn (λe w'=>∃x g z I' V',e=.returned x/\Q g z/\V'.n=z.length/\Has I' V' (Ev z 0) w'/\PRes I' V' g x/\Fro (Ev rs 0) I V w (Ev z 0) I' V' w'/\V.le V') .ret a w1:=λhe=>by
   refine⟨hA.defers,?_⟩;have D:match fn.results.toList with
     | [r]=>U7 tb t own [r] λgs own=>match gs with
      | [g]=>∃A F,Y2 p own X.n g Q A F
      | _=>False
     | rs=>U7 tb t own rs λgs own=>∃A F,Y2 p own X.n (.tup gs) Q A F:=by
    cases e with
    | exit id=>exact dt rfl (he id)
    | goto l=>exact D.elim
    | normal=>exact D
    | ret=>exact D
   have fin:∀{own' I' V' g x},V'.n=X.n->Later own I1 X w1 own' I' V' w1->PRes I' V' g x->(∃A F,Y2 p own' X.n g Q A F)->∃x' g z I' V',Ending.returned x=.returned x'/\Q g z/\V'.n=z.length/\Has I' V' (Ev z 0) w1/\PRes I' V' g x'/\Fro (Ev rs 0) I V w (Ev z 0) I' V' w1/\V.le V':=λ{own' I' V' g x} hn Z hx ⟨A,F,hE⟩=>by
    rw[<-hn] at hE;obtain⟨V4,E,Y,W,C,M,k6⟩:=Uq hE Z.has hx V.s;have q:=(hF2.trans hS.fro).trans Z.fro;refine⟨x,F,A.map It.res,I',V4,rfl,hE.post,by simpa using E,Y,W,⟨q.os,q.tape,q.output,q.size,q.blk,q.mono,λi r b hi hb hlt=>?_⟩,?_,λi hi=>⟨?_,k6 i (by rw[ho.len];omega)⟩⟩
    .obtain⟨k,r',h1,h2⟩:=C i b hb;exact q.foot k r' b h1 h2 hlt
    .rw[E,T,<-ho.len];obtain⟨l,Z⟩:=hE.rts;have:=congrArg List.length Z;simp at this;omega
    .have hi':i < p.length:=by rw[ho.len];omega
     have hr:=aq hi';obtain⟨h1,h2⟩:=H i _ hr;rw[(M i _ hr).1,(Z.va.2 _ (bd (by omega) hS.n)).1,hS.bb _ (by omega),h1]
   split at D
   .next r hr =>
    obtain⟨gs,o2,I2,V2',vs,E,kn,Y,W,C,M⟩:=Ow hT D hS.has hA;rw[<-hr] at C M;refine⟨_,Dr C M,?_⟩;cases gs with
    | nil=>exact E.elim
    | cons g gs =>
     cases gs with
     | cons F gs=>exact E.elim
     | nil =>
      obtain⟨v,vs',rfl,hv,hn⟩:=W.uncons;obtain rfl:=hn.of_nil;refine fin kn Y ?_ E;cases g with
      | tup l=>cases(show VRep I2 (.tup l) v from hv)
      | oag l=>exact(show(∃g∈l,Cd g=false)/\TRep1 I2 V2' (.oag l) v from hv).2
      | _=>exact hv
   .next z hr =>
    obtain⟨gs,o2,I2,V2',vs,E,kn,Y,W,C,M⟩:=Ow hT D hS.has hA;refine⟨_,Dr C M,?_⟩;have hv1:∀v,vs≠[v]:=λv e=>by
     rw[e] at C;cases hq:fn.results.toList with
     | nil=>rw[hq] at C;simp at C
     | cons r l =>
      cases l with
      | nil=>exact hr r hq
      | cons r' l=>rw[hq] at C;simp at C
    have e:N0 vs=.tuple vs.toArray:=by
     unfold N0;split
     .next v=>exact dt rfl (hv1 v)
     .rfl
    rw[e];exact fin (g:=.tup gs) kn Y ⟨vs,rfl,W.mono λ_ _ h=>.of_p h⟩ E
  cases e with
  | normal=>exact key λid h=>by cases h
  | exit id=>exact D.elim
  | goto l=>exact D.elim
  | ret=>exact key λid h=>by cases h
theorem Z8k (gs:List G):Zal [] gs [] 0 gs []:=Dh [] gs
def itL:List (Nat × R)->List It
 | []=>[]
 | (k,r)::l=>⟨[(0,r)],[(0,k)],false⟩::itL l
end
end Go.Proofs.YtmmdikhljefeiaaGreat


import Derived.Test.YtmmdikhljefeiaaGreatSE
import Derived.Test.YtmmdikhljefeiaaGreatYShH
import Derived.Lib.SlBytesConst
import Derived.Test.YtmmdikhljefeiaaGreatBM
namespace Go.Proofs.YtmmdikhljefeiaaGreat
open Go.RowKit Go.MapKept
theorem Ha (bl:List (Nat × List UInt8))(k:Nat):∀j,Co bl k (j+1)=(if(Az bl k).isNone then 1 else 0)+Co bl (k+1) j
 | 0=>by rw[Dd];simp[Co]
 | j+1=>by rw[Dd,Ha bl k j,Dd,show k+(j+1)=k+1+j by omega];omega
theorem Q4 {bl bl':List (Nat × List UInt8)}{k j:Nat}(h:∀i,i < j->(Az bl (k+i)).isNone=(Az bl' (k+i)).isNone):Co bl k j=Co bl' k j:=by unfold Co;exact List.countP_congr λi a=>by rw[h i (by simpa using a)]
theorem Z25 (bl:List (Nat × List UInt8))(a:Nat)(b:List UInt8):(wr1 bl a b).length=bl.length+if(Az bl (a / 16)).isNone then 1 else 0:=by unfold wr1;rw[Z9i];cases Az bl (a / 16)<;>simp
theorem Z2r:∀(f:Nat) (bl:List (Nat × List UInt8)) (a:Nat) (b:List UInt8),b.length<=f->0 < b.length ->
  (wrL f bl a b).length=bl.length+Co bl (a / 16) ((a+b.length - 1) / 16 - a / 16+1)
 | 0,_,_,b,h,h0=>by omega
 | f+1,bl,a,b,h,h0=>by
  rw[wrL,dq (by omega)];have hd:=bk (i:=16 - a % 16) (l:=b);by_cases g:b.length<=16 - a % 16
  .have c:(b.drop (16 - a % 16))=[]:=dm g;rw[c];have d:wrL f (wr1 bl a b) (a+min b.length (16 - a % 16)) []=wr1 bl a b:=by cases f<;>simp[wrL]
   rw[d,Z25,show(a+b.length - 1) / 16 - a / 16+1=0+1 by omega,Ha];simp[Co]
  .rw[Z2r f _ _ _ (by omega) (by omega),Z25,hd];obtain⟨J,e⟩:∃J,(a+b.length - 1) / 16 - a / 16=J+1:=⟨(a+b.length - 1) / 16 - a / 16 - 1,by omega⟩;rw[e,Ha bl (a / 16) (J+1),show(a+min b.length (16 - a % 16)) / 16=a / 16+1 by omega,
    show(a+min b.length (16 - a % 16)+(b.length - (16 - a % 16)) - 1) / 16 - (a / 16+1)+1=J+1 by omega,
    Q4 (bl:=wr1 bl a b) (bl':=bl) (λi _=>by unfold wr1;rw[D4,dq (by omega)])]
   omega
theorem Y1 {bl:List (Nat × List UInt8)}(a:Int)(b:List UInt8):(Mz bl a b).length=bl.length+Un bl a b.length:=by
 unfold Mz Un;by_cases d:D5 a b.length=true
 .rw[dt d];rcases ak b.length with c | c
  .rw[dq (by omega),c];rfl
  .rw[dt ⟨d,c⟩];exact Z2r _ _ _ _ (au _) c
 .rw[dq d,dq (λh=>d h.1)];rfl
def Inv (size:Nat)(bl:List (Nat × List UInt8)):Prop:=∀p∈bl,p.1 * 16 < size
theorem Us (P:Nat->Prop):∀(f:Nat) (bl:List (Nat × List UInt8)) (a:Nat) (b:List UInt8),(∀p∈bl,P p.1)->(∀k,k * 16 < a+b.length->P k)->∀p∈wrL f bl a b,P p.1
 | 0,_,_,_,h,_=>h
 | f+1,bl,a,b,h,hk=>by
  rw[wrL];split
  .exact h
  .refine Us P f _ _ _ (λp c=>?_) (λk d=>hk k ?_)
   .rcases Ic c with c | rfl
    .exact h p c
    .exact hk _ (by show a / 16 * 16 < _;omega)
   .rw[bk] at d;omega
theorem Z0i {size:Nat}{bl:List (Nat × List UInt8)}(h:Inv size bl)(a:Int)(b:List UInt8):Inv (Ez size a b.length) (Mz bl a b):=by
 unfold Ez Mz;by_cases c:D5 a b.length=true
 .rcases ak b.length with d | d
  .rw[dq (by omega),dt c,d];exact h
  .rw[dt ⟨c,d⟩,dt c];exact Us (λk=>k * 16 < max size (a.toNat+b.length)) _ _ _ _ (λp e=>by have:=h p e;omega) (λk f=>by omega)
 .rw[dq (λh=>c h.1),dq c];exact h
theorem Z90 {bl:List (Nat × List UInt8)}{k f t:Nat}{p:Nat × List UInt8}(h:p∈zr1 bl k f t):∃q∈bl,q.1=p.1:=by
 unfold zr1 at h;cases hg:Az bl k with
 | none=>rw[hg] at h;exact⟨p,h,rfl⟩
 | some v =>
  rw[hg] at h;simp only at h;split at h
  .exact⟨p,h,rfl⟩
  .split at h
   .exact⟨p,(af.1 h).1,rfl⟩
   .rcases Ic h with h | rfl
    .exact⟨p,h,rfl⟩
    .exact⟨(k,v),Ed hg,rfl⟩
theorem Z8v {bl:List (Nat × List UInt8)}{k f t:Nat}{p:Nat × List UInt8}(h:p∈wp1 f t bl k):∃q∈bl,q.1=p.1:=by
 unfold wp1 at h;split at h
 .exact Z90 h
 .exact⟨p,h,rfl⟩
theorem P0 {f t:Nat}:∀(ks:List Nat) (bl:List (Nat × List UInt8)) {p:Nat × List UInt8},p∈ks.foldl (wp1 f t) bl->∃q∈bl,q.1=p.1
 | [],_,p,h=>⟨p,h,rfl⟩
 | k::ks,bl,p,h=>by obtain⟨q,b,e⟩:=P0 ks _ h;obtain⟨r,hr,a⟩:=Z8v b;exact⟨r,hr,a.trans e⟩
theorem Z47 {bl:List (Nat × List UInt8)}{k f t:Nat}(b:f<=k * 16)(c:k * 16+16<=t):∀p∈wp1 f t bl k,p.1≠k:=by
 intro p a;unfold wp1 at a;rw[dt ⟨by omega,by omega⟩] at a;unfold zr1 at a;cases hg:Az bl k with
 | none=>rw[hg] at a;exact Cx.1 hg p a
 | some v =>
  rw[hg] at a;simp only at a;rw[dq (by omega),dt ⟨by omega,by omega⟩] at a;have:=(af.1 a).2;simpa using this
theorem R9 {f t:Nat}:∀(ks:List Nat) (bl:List (Nat × List UInt8)) {k:Nat},k∈ks->f<=k * 16->k * 16+16<=t->∀p∈ks.foldl (wp1 f t) bl,p.1≠k
 | [],_,k,h,_,_=>by simp at h
 | j::ks,bl,k,h,h1,h2=>by
  intro p a;rcases bq.1 h with rfl | h
  .obtain⟨q,b,e⟩:=P0 ks _ a;rw[<-e];exact Z47 h1 h2 q b
  .exact R9 ks _ h h1 h2 p a
theorem Z8g {size:Nat}{bl:List (Nat × List UInt8)}(h:Inv size bl)(n:Int):Inv (Dt size n) (Gg size bl n):=by
 unfold Dt Gg;by_cases c:Gb n=true
 .rw[dt c];by_cases a:n.toNat < size
  .rw[dt ⟨c,a⟩];intro p b;obtain⟨q,d,e⟩:=P0 _ _ b;apply Decidable.byContradiction;intro f;refine R9 (Fg bl) bl (k:=p.1) ?_ (by omega) ?_ p b rfl
   .rw[(Cg bl).mem_iff,<-e];exact bj.2 ⟨q,d,rfl⟩
   .have:=h q d;rw[e] at this;unfold G8;omega
  .rw[dq (λh=>a h.2)];intro p b;have:=h p b;omega
 .rw[dq c,dq (λh=>c h.1)];exact h
theorem Uo (bl:List (Nat × List UInt8))(k:Nat)(v:List UInt8)(j:Nat):Dp (Gq bl k v) j=if j=k then v else Dp bl j:=by unfold Dp;rw[D4];split<;>rfl
theorem Z41 (bl:List (Nat × List UInt8))(k j:Nat):Dp (Hy bl k) j=if j=k then List.replicate 16 0 else Dp bl j:=by unfold Dp;rw[Ir];split<;>rfl
theorem Jd (n i:Nat):(List.replicate n (0:UInt8)).getD i 0=0:=by rw[List.getD_eq_getElem?_getD,List.getElem?_replicate];split<;>rfl
theorem Ib (L:List UInt8)(o:Nat)(cs:List UInt8)(h:o+cs.length<=L.length)(j:Nat) :
  (splice L o cs).getD j 0=if o<=j/\j < o+cs.length then cs.getD (j - o) 0 else L.getD j 0:=by
 unfold splice;simp only[List.getD_eq_getElem?_getD];by_cases a:j < o
 .rw[dq (by omega),bu (by rw[be];omega),br,dt a]
 .rw[bo (by rw[be];omega),be,show min o L.length=o by omega];by_cases b:j < o+cs.length
  .rw[dt ⟨by omega,b⟩,bu (by omega)]
  .rw[dq (by omega),bo (by omega),cf,show o+cs.length+(j - o - cs.length)=j by omega]
theorem Ye {bl:List (Nat × List UInt8)}(f:∀p∈bl,p.2.length=16)(a:Nat)(b:List UInt8)(i:Nat) :
  Ck (wr1 bl a b) i=if a<=i/\i < a+min b.length (16 - a % 16) then b.getD (i - a) 0 else Ck bl i:=by
 have e:=Fx f (a / 16);unfold Ck wr1;rw[Uo];by_cases c:i / 16=a / 16
 .rw[dt c,Ib _ _ _ (by rw[e,be];omega),be,c];by_cases d:a<=i/\i < a+min b.length (16 - a % 16)
  .rw[dt d,dt ⟨by omega,by omega⟩,List.getD_eq_getElem?_getD,br,dt (by omega),<-List.getD_eq_getElem?_getD,show i % 16 - a % 16=i - a by omega]
  .rw[dq d,dq (by omega)]
 .rw[dq c,dq (by omega)]
theorem Oa:∀(f:Nat) {bl:List (Nat × List UInt8)} (a:Nat) (b:List UInt8),(∀p∈bl,p.2.length=16)->b.length<=f->∀i,
  Ck (wrL f bl a b) i=if a<=i/\i < a+b.length then b.getD (i - a) 0 else Ck bl i
 | 0,bl,a,b,_,h,i=>by rw[dq (by omega)];rfl
 | f+1,bl,a,b,hf,h,i=>by
  rw[wrL];by_cases d:b.length=0
  .rw[dt d,dq (by omega)]
  .rw[dq d,Oa f _ _ (Pd hf a b) (by rw[bk];omega),bk,Ye hf];by_cases c:a<=i/\i < a+b.length
   .rw[dt c];by_cases e:i < a+min b.length (16 - a % 16)
    .rw[dq (by omega),dt ⟨c.1,e⟩]
    .rw[dt ⟨by omega,by omega⟩,List.getD_eq_getElem?_getD,cf,<-List.getD_eq_getElem?_getD,show 16 - a % 16+(i - (a+min b.length (16 - a % 16)))=i - a by omega]
   .rw[dq c,dq (by omega),dq (by omega)]
def N8 (bl:List (Nat × List UInt8))(k:Nat):Bool:=(Az bl k).isSome
theorem Z6q (bl:List (Nat × List UInt8))(a:Nat)(b:List UInt8)(k:Nat):N8 (wr1 bl a b) k=(decide (k=a / 16)||N8 bl k):=by unfold N8 wr1;rw[D4];by_cases h:k=a / 16<;>simp[h]
theorem Uv:∀(f:Nat) (bl:List (Nat × List UInt8)) (a:Nat) (b:List UInt8),b.length<=f->∀k,
  N8 (wrL f bl a b) k=(decide (0 < b.length/\a / 16<=k/\k<=(a+b.length - 1) / 16)||N8 bl k)
 | 0,bl,a,b,h,k=>by rw[decide_eq_false (by omega)];rfl
 | f+1,bl,a,b,h,k=>by
  rw[wrL];by_cases c:b.length=0
  .rw[dt c,decide_eq_false (by omega)];rfl
  .rw[dq c,Uv f _ _ _ (by rw[bk];omega),bk,Z6q,<-Bool.or_assoc,<-Bool.decide_or]
   congr 1
   rw[decide_eq_decide];omega
theorem Xl {bl:List (Nat × List UInt8)}(e:∀p∈bl,p.2.length=16)(k f t:Nat)(g:t<=16)(i:Nat) :
  Ck (zr1 bl k f t) i=if i / 16=k/\f<=i % 16/\i % 16 < t then 0 else Ck bl i:=by
 unfold zr1;cases hg:Az bl k with
 | none =>
  simp only;split
  .rename_i h
   unfold Ck Dp;rw[h.1,hg];exact Jd _ _
  .rfl
 | some v =>
  have j:v.length=16:=e _ (Ed hg);simp only;by_cases c:t<=f
  .rw[dt c,dq (by omega)]
  .rw[dq c];by_cases d:f=0/\t=16
   .rw[dt d];unfold Ck;rw[Z41];by_cases a:i / 16=k
    .rw[dt a,dt ⟨a,by omega,by omega⟩];exact Jd _ _
    .rw[dq a,dq (by omega)]
   .rw[dq d];unfold Ck;rw[Uo];by_cases a:i / 16=k
    .rw[dt a,Ib _ _ _ (by rw[List.length_replicate];omega),List.length_replicate,show f+(t - f)=t by omega];by_cases b:f<=i % 16/\i % 16 < t
     .rw[dt b,dt ⟨a,b⟩];exact Jd _ _
     .rw[dq b,dq (by omega),a];unfold Dp;rw[hg];rfl
    .rw[dq a,dq (by omega)]
theorem Z57 (bl:List (Nat × List UInt8))(k f t:Nat)(b:f < t)(j:Nat):N8 (zr1 bl k f t) j=(N8 bl j&&!decide (j=k/\f=0/\t=16)):=by
 unfold zr1 N8;cases hg:Az bl k with
 | none =>
  simp only;by_cases h:j=k
  .subst h;rw[hg];rfl
  .simp[h]
 | some v =>
  simp only;rw[dq (by omega)];split
  .rename_i h
   rw[Ir];by_cases a:j=k
   .simp[a,h]
   .simp[a]
  .rename_i h
   rw[D4];by_cases a:j=k
   .subst a;rw[hg];simp[h]
   .simp[a]
theorem V5 {bl:List (Nat × List UInt8)}(b:∀p∈bl,p.2.length=16)(f t k:Nat):∀p∈wp1 f t bl k,p.2.length=16:=by
 intro p a;unfold wp1 at a;split at a
 .unfold zr1 at a;cases hg:Az bl k with
  | none=>rw[hg] at a;exact b p a
  | some v =>
   rw[hg] at a;simp only at a;split at a
   .exact b p a
   .split at a
    .exact b p (af.1 a).1
    .rcases Ic a with a | rfl
     .exact b p a
     .have c:v.length=16:=b _ (Ed hg);show(splice _ _ _).length=16;rw[length_splice _ _ _ (by rw[List.length_replicate];omega),c]
 .exact b p a
theorem Xm {bl:List (Nat × List UInt8)}(a:∀p∈bl,p.2.length=16)(f t k i:Nat) :
  Ck (wp1 f t bl k) i=if i / 16=k/\f<=i/\i < t then 0 else Ck bl i:=by
 unfold wp1;split
 .rw[Xl a _ _ _ (by omega)];by_cases h:i / 16=k/\f<=i/\i < t
  .rw[dt h,dt (by omega)]
  .rw[dq h,dq (by omega)]
 .rw[dq (by omega)]
theorem Z56 (bl:List (Nat × List UInt8))(f t k j:Nat)(a:f < t):N8 (wp1 f t bl k) j=(N8 bl j&&!decide (j=k/\f<=j * 16/\j * 16+16<=t)):=by
 unfold wp1;split
 .rw[Z57 _ _ _ _ (by omega)]
  congr 2
  rw[decide_eq_decide];omega
 .rw[decide_eq_false (by omega)];simp
theorem Qp {f t:Nat}:∀(ks:List Nat) {bl:List (Nat × List UInt8)},(∀p∈bl,p.2.length=16)->∀p∈ks.foldl (wp1 f t) bl,p.2.length=16
 | [],_,h=>h
 | k::ks,_,h=>Qp ks (V5 h f t k)
theorem Md {f t:Nat}:∀(ks:List Nat) {bl:List (Nat × List UInt8)},(∀p∈bl,p.2.length=16)->∀i,Ck (ks.foldl (wp1 f t) bl) i=if i / 16∈ks/\f<=i/\i < t then 0 else Ck bl i
 | [],bl,_,i=>by simp
 | k::ks,bl,h,i=>by
  rw[List.foldl_cons,Md ks (V5 h f t k),Xm h];by_cases a:f<=i/\i < t
  .by_cases b:i / 16∈ks
   .rw[dt ⟨b,a⟩,dt ⟨List.mem_cons_of_mem _ b,a⟩]
   .rw[dq (λh=>b h.1)];by_cases c:i / 16=k
    .rw[dt ⟨c,a⟩,dt ⟨by rw[c];exact List.mem_cons_self,a⟩]
    .rw[dq (λh=>c h.1),dq (λh=>by rcases bq.1 h.1 with h | h<;>contradiction)]
  .rw[dq (λh=>a h.2),dq (λh=>a h.2),dq (λh=>a h.2)]
theorem Rp {f t:Nat}(b:f < t):∀(ks:List Nat) (bl:List (Nat × List UInt8)) (j:Nat),N8 (ks.foldl (wp1 f t) bl) j=(N8 bl j&&!decide (j∈ks/\f<=j * 16/\j * 16+16<=t))
 | [],bl,j=>by simp
 | k::ks,bl,j=>by
  rw[List.foldl_cons,Rp b ks,Z56 _ _ _ _ _ b,Bool.and_assoc,<-Bool.not_or,<-Bool.decide_or]
  congr 2
  rw[decide_eq_decide,bq];constructor
  .rintro(⟨a,h2⟩ | ⟨a,h2⟩)
   .exact⟨.inl a,h2⟩
   .exact⟨.inr a,h2⟩
  .rintro⟨a | a,h2⟩
   .exact .inl ⟨a,h2⟩
   .exact .inr ⟨a,h2⟩
theorem Em (bl:List (Nat × List UInt8))(k:Nat):k∈Fg bl↔N8 bl k=true:=by
 rw[(Cg bl).mem_iff];unfold N8;constructor
 .intro h;obtain⟨p,b,rfl⟩:=bj.1 h;rw[Option.isSome_iff_ne_none];intro a;exact Cx.1 a p b rfl
 .intro h;obtain⟨v,c⟩:=Option.isSome_iff_exists.1 h;exact bj.2 ⟨_,Ed c,rfl⟩
theorem Sr {bl:List (Nat × List UInt8)}{i:Nat}(h:N8 bl (i / 16)=false):Ck bl i=0:=by unfold N8 at h;unfold Ck Dp;rw[Option.isSome_eq_false_iff,Option.isNone_iff_eq_none] at h;rw[h];exact Jd _ _
theorem Tv {bl:List (Nat × List UInt8)}(d:∀p∈bl,p.2.length=16)(f t i:Nat):Ck (Mq bl f t) i=if f<=i/\i < t then 0 else Ck bl i:=by
 unfold Mq;rw[Md _ d];by_cases h:f<=i/\i < t
 .rw[dt h];by_cases a:i / 16∈Fg bl
  .rw[dt ⟨a,h⟩]
  .rw[dq (λh=>a h.1)];exact Sr (Bool.eq_false_iff.2 λb=>a ((Em _ _).2 b))
 .rw[dq h,dq (λc=>h c.2)]
theorem Z1a (bl:List (Nat × List UInt8))(f t k:Nat)(a:f < t):N8 (Mq bl f t) k=(N8 bl k&&!decide (f<=k * 16/\k * 16+16<=t)):=by
 unfold Mq;rw[Rp a];cases hb:N8 bl k
 .rfl
 .rw[Bool.true_and,Bool.true_and]
  congr 1
  rw[decide_eq_decide];exact⟨λh=>h.2,λh=>⟨(Em _ _).2 hb,h⟩⟩
theorem O1 {l m:List Nat}(d:l.Pairwise (· < ·))(c:m.Pairwise (· < ·))(h:∀x,x∈l↔x∈m):l=m:=by refine List.Perm.eq_of_pairwise (le:=λa b:Nat=>a < b) (λa b _ _ e f=>by omega) d c ?_;exact(List.perm_ext_iff_of_nodup (d.imp λh=>by omega) (c.imp λh=>by omega)).2 h
theorem Ey {bl:List (Nat × List UInt8)}(e:(bl.map (·.1)).Nodup):(Fg bl).Pairwise (· < ·):=by have c:=Kt bl;have d:(Fg bl).Nodup:=(Cg bl).nodup_iff.2 e;exact c.imp₂ (λa b c d=>Nat.lt_of_le_of_ne c d) d
def Np (k:Nat):List Nat->List Nat
 | []=>[k]
 | x::l=>if k<=x then k::(x::l).filter (·≠k) else x::Np k l
theorem Ou (k x:Nat):∀l,x∈Np k l↔x=k\/x∈l
 | []=>by simp[Np]
 | y::l=>by
  unfold Np;split
  .rw[bq,af];by_cases h:x=k<;>simp[h]
  .rw[bq,Ou k x l,bq];constructor
   .rintro(h | h | h)<;>simp[h]
   .rintro(h | h | h)<;>simp[h]
theorem Lr (k:Nat):∀{l:List Nat},l.Pairwise (· < ·)->(Np k l).Pairwise (· < ·)
 | [],_=>by simp[Np]
 | y::l,h=>by
  obtain⟨c,d⟩:=List.pairwise_cons.1 h;unfold Np;split
  .rename_i hk
   refine List.pairwise_cons.2 ⟨λx a=>?_,h.filter _⟩;obtain⟨b,e⟩:=af.1 a;have f:x≠k:=by simpa using e
   rcases bq.1 b with rfl | b
   .omega
   .have:=c x b;omega
  .refine List.pairwise_cons.2 ⟨λx a=>?_,Lr k d⟩;rcases(Ou k x l).1 a with rfl | a
   .omega
   .exact c x a
def wst (k:Nat)(s:List Nat × Bool)(x:Nat):List Nat × Bool :=
 (s.1++(if s.2=false/\k<=x then [k] else [])++(if x=k then [] else [x]),s.2||decide (k<=x))
theorem Uw (k:Nat):∀(l out:List Nat),l.foldl (wst k) (out,true)=(out++l.filter (·≠k),true)
 | [],out=>by simp
 | x::l,out=>by
  rw[List.foldl_cons];show l.foldl (wst k) (out++(if true=false/\k<=x then [k] else [])++(if x=k then [] else [x]),true||decide (k<=x))=_;rw[dq (by simp),Bool.true_or,Uw k l];by_cases h:x=k
  .subst h;simp
  .simp[h]
def Z7b (k:Nat)(s:List Nat × Bool):List Nat:=if s.2=true then s.1 else s.1++[k]
theorem R2 (k:Nat):∀(l out:List Nat),Z7b k (l.foldl (wst k) (out,false))=out++Np k l
 | [],out=>by simp[Z7b,Np]
 | x::l,out=>by
  rw[List.foldl_cons];by_cases h:k<=x
  .show Z7b k (l.foldl (wst k) (out++(if false=false/\k<=x then [k] else [])++(if x=k then [] else [x]),false||decide (k<=x)))=_;rw[dt ⟨rfl,h⟩,decide_eq_true h,Bool.or_true,Uw,Np,dt h];unfold Z7b;rw[dt rfl,List.filter_cons];by_cases a:x=k<;>simp[a]
  .show Z7b k (l.foldl (wst k) (out++(if false=false/\k<=x then [k] else [])++(if x=k then [] else [x]),false||decide (k<=x)))=_;rw[dq (by omega),dq (by omega),decide_eq_false h,Bool.or_false,R2 k l,Np,dq h];simp
def Gu (a i:Nat):Bool:=decide (i=0\/(a+i) % 16=0)
def G0 (On:List Nat)(a n:Nat):List Nat:=(List.range n).foldl (λl i=>if Gu a i=true then Np ((a+i) / 16) l else l) On
theorem Hi (On:List Nat)(a n:Nat):G0 On a (n+1)=if Gu a n=true then Np ((a+n) / 16) (G0 On a n) else G0 On a n:=by unfold G0;rw[List.range_succ,List.foldl_append];rfl
theorem Gj {On:List Nat}(h:On.Pairwise (· < ·))(a:Nat):∀n,(G0 On a n).Pairwise (· < ·)
 | 0=>h
 | n+1=>by
  rw[Hi];split
  .exact Lr _ (Gj h a n)
  .exact Gj h a n
theorem Lv (On:List Nat)(a k:Nat):∀n,k∈G0 On a n↔(0 < n/\a / 16<=k/\k<=(a+n - 1) / 16)\/k∈On
 | 0=>by simp[G0]
 | n+1=>by
  rw[Hi];unfold Gu;by_cases h:n=0\/(a+n) % 16=0
  .rw[dt (by simpa using h),Ou,Lv On a k n,<-or_assoc];refine or_congr_left ?_;omega
  .rw[dq (by simpa using h),Lv On a k n];refine or_congr_left ?_;omega
def Ih (B:List UInt8)(n:Nat):List UInt8:=B++List.replicate (n - B.length) 0
theorem Fn (B:List UInt8)(n:Nat):(Ih B n).length=max B.length n:=by simp[Ih];omega
theorem Kd (B:List UInt8)(n i:Nat):(Ih B n).getD i 0=B.getD i 0:=by
 unfold Ih;simp only[List.getD_eq_getElem?_getD];by_cases h:i < B.length
 .rw[bu h]
 .rw[bo (by omega),List.getElem?_replicate,cn (l:=B) (by omega)];split<;>rfl
def rwB (B:List UInt8)(a:Int)(b:List UInt8):List UInt8:=if D5 a b.length=true/\0 < b.length then splice (Ih B (a.toNat+b.length)) a.toNat b else B
def Zu (On:List Nat)(a:Int)(n:Nat):List Nat:=if D5 a n=true then G0 On a.toNat n else On
def H8 (On:List Nat)(a:Int)(n:Nat):Nat:=if D5 a n=true then(List.range n).countP λi=>Gu a.toNat i&&!decide ((a.toNat+i) / 16∈On) else 0
def rcB (B:List UInt8)(n:Int):List UInt8:=if Gb n=true then(Ih B n.toNat).take n.toNat else B
def V9 (B:List UInt8)(On:List Nat)(n:Int):List Nat:=if Gb n=true then On.filter (λk=>decide (16 * k < n.toNat\/B.length<=n.toNat)) else On
structure L7 (size:Nat)(bl:List (Nat × List UInt8))(B:List UInt8)(On:List Nat):Prop where
 len:B.length=size
 bytes:∀i,B.getD i 0=Ck bl i
 on:On=Fg bl
 inv:Inv size bl
 full:∀p∈bl,p.2.length=16
 nodup:(bl.map (·.1)).Nodup
theorem Z0t:L7 0 [] [] []:=⟨rfl,λi=>(Jd 16 (i % 16)).symm,by simp[Fg],by intro p a;simp at a,by intro p a;simp at a,by simp⟩
theorem R4:∀(f:Nat) (bl:List (Nat × List UInt8)) (a:Nat) (b:List UInt8),(bl.map (·.1)).Nodup->((wrL f bl a b).map (·.1)).Nodup
 | 0,_,_,_,h=>h
 | f+1,bl,a,b,h=>by
  rw[wrL];split
  .exact h
  .exact R4 f _ _ _ (Rb h _ _)
theorem Zi {bl:List (Nat × List UInt8)}(h:(bl.map (·.1)).Nodup)(f t k:Nat):((wp1 f t bl k).map (·.1)).Nodup:=by
 unfold wp1;split
 .unfold zr1;cases Az bl k with
  | none=>exact h
  | some v =>
   simp only;split
   .exact h
   .split
    .exact Z21 h _
    .exact Rb h _ _
 .exact h
theorem Og {f t:Nat}:∀(ks:List Nat) {bl:List (Nat × List UInt8)},(bl.map (·.1)).Nodup->((ks.foldl (wp1 f t) bl).map (·.1)).Nodup
 | [],_,h=>h
 | k::ks,_,h=>Og ks (Zi h f t k)
theorem W3:∀(f:Nat) {bl:List (Nat × List UInt8)} (a:Nat) (b:List UInt8),(∀p∈bl,p.2.length=16)->∀p∈wrL f bl a b,p.2.length=16
 | 0,_,_,_,h=>h
 | f+1,bl,a,b,h=>by
  rw[wrL];split
  .exact h
  .exact W3 f _ _ (Pd h a b)
theorem Nz {size:Nat}{bl:List (Nat × List UInt8)}{B:List UInt8}{On:List Nat}(h:L7 size bl B On)(a:Int)(b:List UInt8) :
  L7 (Ez size a b.length) (Mz bl a b) (rwB B a b) (Zu On a b.length):=by
 have n:=Z0i h.inv a b;by_cases c:D5 a b.length=true
 .have e:((Mz bl a b).map (·.1)).Nodup:=by unfold Mz;rw[dt c];exact R4 _ _ _ _ h.nodup
  have f:∀p∈Mz bl a b,p.2.length=16:=by unfold Mz;rw[dt c];exact W3 _ _ _ h.full
  refine⟨?_,λi=>?_,?_,n,f,e⟩
  .unfold rwB Ez;by_cases d:0 < b.length
   .rw[dt ⟨c,d⟩,dt ⟨c,d⟩,length_splice _ _ _ (by rw[Fn];omega),Fn,h.len]
   .rw[dq (λh=>d h.2),dq (λh=>d h.2)];exact h.len
  .unfold rwB Mz;rw[dt c,Oa _ _ _ h.full (au _)];by_cases d:0 < b.length
   .rw[dt ⟨c,d⟩,Ib _ _ _ (by rw[Fn];omega),Kd,h.bytes]
   .rw[dq (λh=>d h.2),dq (by omega),h.bytes]
  .refine O1 ?_ (Ey e) (λk=>?_)
   .unfold Zu;rw[dt c];exact Gj (by rw[h.on];exact Ey h.nodup) _ _
   .unfold Zu;rw[dt c,Lv,Em];unfold Mz;rw[dt c,Uv _ _ _ _ (au _),h.on,Em,Bool.or_eq_true,decide_eq_true_eq]
 .have l:Ez size a b.length=size:=by unfold Ez;rw[dq (λh=>c h.1)]
  have m:Mz bl a b=bl:=by unfold Mz;rw[dq c]
  have g:rwB B a b=B:=by unfold rwB;rw[dq (λh=>c h.1)]
  have j:Zu On a b.length=On:=by unfold Zu;rw[dq c]
  rw[l,m,g,j];exact h
theorem Rx {size:Nat}{bl:List (Nat × List UInt8)}{B:List UInt8}{On:List Nat}(h:L7 size bl B On)(a:Int)(n:Nat):H8 On a n=Un bl a n:=by
 unfold H8 Un;by_cases c:D5 a n=true
 .rw[dt c];have key:∀m,(List.range m).countP (λi=>Gu a.toNat i&&!decide ((a.toNat+i) / 16∈On))=if 0 < m then Co bl (a.toNat / 16) ((a.toNat+m - 1) / 16 - a.toNat / 16+1) else 0:=by
   intro m
   induction m with
   | zero=>rfl
   | succ m ih =>
    rw[List.range_succ,List.countP_append,ih,dt (Nat.succ_pos m)];have f:∀k,decide (k∈On)=(Az bl k).isSome:=λk=>by rw[Bool.eq_iff_iff,decide_eq_true_eq,h.on,Em];rfl
    simp only[List.countP_cons,List.countP_nil,Nat.zero_add,f,Option.not_isSome];unfold Gu;rcases ak m with rfl | e
    .rw[dq (Nat.lt_irrefl 0),show(a.toNat+(0+1) - 1) / 16 - a.toNat / 16+1=0+1 by omega,Dd];simp[Co]
    .rw[dt e];by_cases d:(a.toNat+m) % 16=0
     .rw[show(a.toNat+(m+1) - 1) / 16 - a.toNat / 16+1=(a.toNat+m - 1) / 16 - a.toNat / 16+1+1 by omega,Dd bl (a.toNat / 16) ((a.toNat+m - 1) / 16 - a.toNat / 16+1),
       show a.toNat / 16+((a.toNat+m - 1) / 16 - a.toNat / 16+1)=(a.toNat+m) / 16 by omega]
      simp[d]
     .rw[show(a.toNat+(m+1) - 1) / 16 - a.toNat / 16+1=(a.toNat+m - 1) / 16 - a.toNat / 16+1 by omega];simp[d,show ¬m=0 by omega]
  rw[key];by_cases b:0 < n
  .rw[dt b,dt ⟨c,b⟩]
  .rw[dq b,dq (λh=>b h.2)]
 .rw[dq c,dq (λh=>c h.1)]
theorem No {bl:List (Nat × List UInt8)}(h:(bl.map (·.1)).Nodup)(f t:Nat):((Mq bl f t).map (·.1)).Nodup:=Og _ h
theorem Zw {bl:List (Nat × List UInt8)}(h:∀p∈bl,p.2.length=16)(f t:Nat):∀p∈Mq bl f t,p.2.length=16:=Qp _ h
theorem Za {B:List UInt8}{i:Nat}(h:B.length<=i):B.getD i 0=0:=by rw[List.getD_eq_getElem?_getD,cn h];rfl
theorem Z81 {size:Nat}{bl:List (Nat × List UInt8)}(h:Inv size bl){k:Nat}(a:N8 bl k=true):k * 16 < size:=by obtain⟨v,c⟩:=Option.isSome_iff_exists.1 a;have b:(k,v)∈bl:=Ed c;exact h (k,v) b
set_option maxHeartbeats 1000000 in
theorem Z6u {size:Nat}{bl:List (Nat × List UInt8)}{B:List UInt8}{On:List Nat}(h:L7 size bl B On)(n:Int) :
  L7 (Dt size n) (Gg size bl n) (rcB B n) (V9 B On n):=by
 have d:=Z8g h.inv n;by_cases a:Gb n=true
 .have es:Dt size n=n.toNat:=by unfold Dt;rw[dt a]
  rw[es] at d⊢;by_cases b:n.toNat < size
  .have e:Gg size bl n=Mq bl n.toNat (G8 size):=by unfold Gg;rw[dt ⟨a,b⟩]
   rw[e] at d⊢;refine⟨?_,λi=>?_,?_,d,Zw h.full _ _,No h.nodup _ _⟩
   .unfold rcB;rw[dt a,be,Fn];omega
   .unfold rcB;rw[dt a,Tv h.full,<-h.bytes,List.getD_eq_getElem?_getD,br];by_cases c:i < n.toNat
    .rw[dt c,dq (by omega),<-List.getD_eq_getElem?_getD,Kd]
    .rw[dq c];by_cases f:i < G8 size
     .rw[dt ⟨by omega,f⟩];rfl
     .rw[dq (by omega),Za (by rw[h.len];unfold G8 at f;omega)];rfl
   .refine O1 ?_ (Ey (No h.nodup _ _)) (λk=>?_)
    .unfold V9;rw[dt a,h.on];exact(Ey h.nodup).filter _
    .unfold V9;rw[dt a,af,Em,Z1a _ _ _ _ (by unfold G8;omega),h.on,Em,h.len];cases hb:N8 bl k
     .simp
     .have:=Z81 h.inv hb;simp only[true_and,decide_eq_true_eq,Bool.true_and,Bool.not_eq_true',decide_eq_false_iff_not];unfold G8;omega
  .have e:Gg size bl n=bl:=by unfold Gg;rw[dq (λh=>b h.2)]
   rw[e] at d⊢;refine⟨?_,λi=>?_,?_,d,h.full,h.nodup⟩
   .unfold rcB;rw[dt a,be,Fn];have:=h.len;omega
   .unfold rcB;rw[dt a,<-h.bytes,List.getD_eq_getElem?_getD,br];by_cases c:i < n.toNat
    .rw[dt c,<-List.getD_eq_getElem?_getD,Kd]
    .rw[dq c,Za (by rw[h.len];omega)];rfl
   .unfold V9;rw[dt a,<-h.on];exact List.filter_eq_self.2 λk _=>by simp;right;rw[h.len];omega
 .have l:Dt size n=size:=by unfold Dt;rw[dq a]
  have m:Gg size bl n=bl:=by unfold Gg;rw[dq (λh=>a h.1)]
  have g:rcB B n=B:=by unfold rcB;rw[dq a]
  have j:V9 B On n=On:=by unfold V9;rw[dq a]
  rw[l,m,g,j];exact h
theorem Zg {size:Nat}{bl:List (Nat × List UInt8)}{B:List UInt8}{On:List Nat}(h:L7 size bl B On)(a n:Nat)(d:a+n<=size):Iu bl a n=(B.drop a).take n:=by
 apply cz;intro i;unfold Iu;rw[ax,br];by_cases c:i < n
 .have:=h.len;rw[da c,dt c,cf,ap (by omega)];have b:=h.bytes (a+i);rw[List.getD_eq_getElem?_getD,ap (by omega)] at b;simp only[Option.map_some,Option.getD_some] at b⊢;rw[b]
 .rw[dq c,cn (by simp;omega)];rfl
theorem Ek {size:Nat}{bl:List (Nat × List UInt8)}{B:List UInt8}{On:List Nat}(h:L7 size bl B On):On.length=bl.length:=by rw[h.on,(Cg bl).length_eq,ao]
def Er (B:List UInt8)(a n:Int):List UInt8:=if Ni B.length a n=true then(B.drop a.toNat).take n.toNat else []
structure RIn where
 id:Int
 gen:Int
 kind:Int
 mode:Int
 time:Int
 parent:Int
 target:ByteArray
 B:List UInt8
 On:List Nat
structure RNm where
 dir:Int
 name:ByteArray
 id:Int
structure RFs where
 room:Int
 ins:List RIn
 nms:List RNm
 gens:List Int
structure RMk where
 kind:Int
 mode:Int
 time:Int
 target:ByteArray
def Km:ByteArray:=⟨#[]⟩
def Na:ByteArray:=⟨#[46]⟩
def dot2S:ByteArray:=⟨#[46,46]⟩
def Z7z:RIn:=⟨0,0,0,0,0,0,Km,[],[]⟩
def A3 (l:List RIn)(id:Int):RIn:=(l.find? λx=>decide (x.id=id)).getD Z7z
def Aj (r:RFs)(h:Int × Int):Bool:=decide ((A3 r.ins h.1).id≠0/\(A3 r.ins h.1).gen=h.2)
def Bv (r:RFs)(h:Int × Int):Int:=if Aj r h=true then 0 else 175
def Ab (r:RFs)(h:Int × Int):Int:=if Aj r h=true then(if(A3 r.ins h.1).kind=2 then 0 else 173) else 175
def Ad (s:ByteArray):Bool:=decide (1<=s.size/\s.size<=60/\s≠Na/\s≠dot2S)&&s.data.toList.all λc=>decide (c≠47/\c≠0)
def A2 (l:List RNm)(dir:Int)(name:ByteArray):Int:=((l.find? λn=>decide (n.dir=dir/\n.name=name)).map (·.id)).getD 0
def Aa (l:List RNm)(dir:Int):List (ByteArray × Int):=(l.filter λn=>decide (n.dir=dir)).map λn=>(n.name,n.id)
def E0 (l:List RNm)(dir:Int):Nat:=l.countP λn=>decide (n.dir=dir)
def A5 (r:RFs)(x:RIn):Nat :=
 if x.kind=2 then(r.nms.countP λn=>decide (n.dir=x.id/\(A3 r.ins n.id).kind=2))+2 else r.nms.countP λn=>decide (n.id=x.id)
def Aq (l:List Int)(id:Int):Int:=if 0<=id then l.getD id.toNat 0 else 0
def B1 (r:RFs)(h:Int × Int)(s:ByteArray)(free:Bool):Int :=
 if Ab r h≠0 then Ab r h else if free=true/\(s=Na\/s=dot2S) then 0 else if Ad s=true then 0 else 176
structure Wf (r:RFs)(K:Nat):Prop where
 ids:(r.ins.map (·.id)).Nodup
 rng:∀x∈r.ins,1<=x.id/\x.id<=200
 gen:∀x∈r.ins,x.gen=Aq r.gens x.id/\1<=x.gen
 genK:∀g∈r.gens,0<=g/\g<=(K:Int)+1
 genL:r.gens.length<=201
 kind:∀x∈r.ins,x.kind=1\/x.kind=2\/x.kind=3
 root:∃x∈r.ins,x.id=1/\x.gen=1/\x.kind=2/\x.parent=1
 nmD:∀n∈r.nms,∃d∈r.ins,d.id=n.dir/\d.kind=2
 nmI:∀n∈r.nms,n.id≠1/\∃x∈r.ins,x.id=n.id
 nmV:∀n∈r.nms,Ad n.name=true
 uniq:r.nms.Pairwise λa b=>¬(a.dir=b.dir/\a.name=b.name)
 one:∀x∈r.ins,x.kind=2->x.id≠1->(r.nms.filter λn=>decide (n.id=x.id)).map (·.dir)=[x.parent]
 some:∀x∈r.ins,x.kind≠2->∃n∈r.nms,n.id=x.id
 par:∀x∈r.ins,x.kind=2->∃p∈r.ins,p.id=x.parent/\p.kind=2
 tree:∃ρ:Int->Nat,∀x∈r.ins,x.kind=2->x.id≠1->ρ x.parent < ρ x.id
 nmK:r.nms.length<=K
 lim:∀x∈r.ins,A5 r x<=20
 file:∀x∈r.ins,x.kind≠1->x.B=[]/\x.On=[]
 link:∀x∈r.ins,x.kind≠3->x.target=Km
 rm:r.room<=9223372036854775807
 sp:(((r.ins.map λx=>x.On.length).sum:Nat):Int)<=r.room
section
variable {r:RFs} {K:Nat} {id:Int} {x:RIn}
theorem Cy {l:List RIn}(h:(A3 l id).id≠0):A3 l id∈l/\(A3 l id).id=id:=by
 unfold A3 at h⊢;cases hf:l.find? λx=>decide (x.id=id) with
 | none=>rw[hf] at h;exact du rfl h
 | some y =>
  rw[Option.getD_some];exact⟨List.mem_of_find?_eq_some hf,by simpa using List.find?_some hf⟩
theorem Z6d {l:List RIn}(b:(l.map (·.id)).Nodup)(a:x∈l):A3 l x.id=x:=by
 unfold A3
 induction l with
 | nil=>simp at a
 | cons y l ih =>
  simp only[List.map_cons,List.nodup_cons] at b;rw[List.find?_cons];rcases bq.1 a with rfl | a
  .simp
  .have:y.id≠x.id:=λe=>b.1 (by rw[e];exact bj.2 ⟨x,a,rfl⟩);simp only[this,decide_false];exact ih b.2 a
theorem Ke {l:List RIn}(h:∀x∈l,x.id≠id):A3 l id=Z7z:=by unfold A3;rw[List.find?_eq_none.2 (λx a=>by simpa using h x a)];rfl
theorem Wf.byId (h:Wf r K)(a:x∈r.ins):A3 r.ins x.id=x:=Z6d h.ids a
theorem Wf.ne0 (h:Wf r K)(a:x∈r.ins):x.id≠0:=by have:=h.rng x a;omega
theorem Wf.cnt (h:Wf r K):r.ins.length<=200:=by
 have a:=C1 (l:=r.ins.map (·.id)) (m:=(List.range 200).map λi=>((i:Nat):Int)+1) h.ids (λk b=>by obtain⟨x,c,rfl⟩:=bj.1 b;have:=h.rng x c;exact bj.2 ⟨(x.id - 1).toNat,by simp;omega,by simp;omega⟩)
 simpa using a
theorem Kg (l:List RNm)(dir:Int):(Aa l dir).length=E0 l dir:=by unfold Aa E0;rw[ao,List.countP_eq_length_filter]
theorem O9 {l:List RNm}(dir:Int)(s:ByteArray):Az (Aa l dir) s=(l.find? λn=>decide (n.dir=dir/\n.name=s)).map (·.id):=by
 unfold Aa
 induction l with
 | nil=>rfl
 | cons n l ih =>
  rw[List.filter_cons,List.find?_cons];by_cases h:n.dir=dir
  .simp only[h,decide_true,if_true,List.map_cons,C8];by_cases a:n.name=s
   .simp[a]
   .simp only[a,if_false,and_false,decide_false];exact ih
  .simp only[h,decide_false,false_and];exact ih
theorem Rs {l:List RNm}(dir:Int)(s:ByteArray):(Az (Aa l dir) s).getD 0=A2 l dir s:=by rw[O9];rfl
theorem Wf.entry_some (h:Wf r K)(dir:Int)(s:ByteArray):(Az (Aa r.nms dir) s).isSome=decide (A2 r.nms dir s≠0):=by
 rw[O9];unfold A2;cases hf:r.nms.find? λn=>decide (n.dir=dir/\n.name=s) with
 | none=>simp
 | some n =>
  have a:=List.mem_of_find?_eq_some hf;obtain⟨_,y,b,e⟩:=h.nmI n a;have:=h.rng y b;simp;omega
theorem B5 {l:List RNm}{dir:Int}{s:ByteArray}(h:A2 l dir s≠0):∃n∈l,n.dir=dir/\n.name=s/\n.id=A2 l dir s:=by
 unfold A2 at h⊢;cases hf:l.find? λn=>decide (n.dir=dir/\n.name=s) with
 | none=>rw[hf] at h;exact du rfl h
 | some n =>
  have:=List.find?_some hf;simp at this;exact⟨n,List.mem_of_find?_eq_some hf,this.1,this.2,rfl⟩
theorem Ac {hd:Int × Int}(c:Aj r hd=true):A3 r.ins hd.1∈r.ins/\(A3 r.ins hd.1).id=hd.1/\(A3 r.ins hd.1).gen=hd.2:=by obtain⟨a,d⟩:=of_decide_eq_true c;obtain⟨b,e⟩:=Cy a;exact⟨b,e,d⟩
end
end Go.Proofs.YtmmdikhljefeiaaGreat

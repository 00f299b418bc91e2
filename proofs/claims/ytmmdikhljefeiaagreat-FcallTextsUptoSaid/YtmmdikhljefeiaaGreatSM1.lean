
import Derived.Test.YtmmdikhljefeiaaGreatSE
import Derived.Test.YtmmdikhljefeiaaGreatYShH
import Derived.Lib.SlBytesConst
import Derived.Test.YtmmdikhljefeiaaGreatBM
namespace Go.Proofs.YtmmdikhljefeiaaGreat
open Go.RowKit Go.MapKept
theorem G5 (bl:List (Nat × List UInt8))(k:Nat):∀j,Ch bl k (j+1)=(if(Au bl k).isNone then 1 else 0)+Ch bl (k+1) j
 | 0=>by rw[Cx];simp[Ch]
 | j+1=>by rw[Cx,G5 bl k j,Cx,show k+(j+1)=k+1+j by omega];omega
theorem Ns {bl bl':List (Nat × List UInt8)}{k j:Nat}(h:∀i,i < j->(Au bl (k+i)).isNone=(Au bl' (k+i)).isNone):Ch bl k j=Ch bl' k j:=by unfold Ch;exact List.countP_congr λi a=>by rw[h i (by simpa using a)]
theorem Z0e (bl:List (Nat × List UInt8))(a:Nat)(b:List UInt8):(wr1 bl a b).length=bl.length+if(Au bl (a / 16)).isNone then 1 else 0:=by unfold wr1;rw[Z6x];cases Au bl (a / 16)<;>simp
theorem Xw:∀(f:Nat) (bl:List (Nat × List UInt8)) (a:Nat) (b:List UInt8),b.length<=f->0 < b.length ->
  (wrL f bl a b).length=bl.length+Ch bl (a / 16) ((a+b.length - 1) / 16 - a / 16+1)
 | 0,_,_,b,h,h0=>by omega
 | f+1,bl,a,b,h,h0=>by
  rw[wrL,dn (by omega)];have hd:=bj (i:=16 - a % 16) (l:=b);by_cases e:b.length<=16 - a % 16
  .have c:(b.drop (16 - a % 16))=[]:=dk e;rw[c];have d:wrL f (wr1 bl a b) (a+min b.length (16 - a % 16)) []=wr1 bl a b:=by cases f<;>simp[wrL]
   rw[d,Z0e,show(a+b.length - 1) / 16 - a / 16+1=0+1 by omega,G5];simp[Ch]
  .rw[Xw f _ _ _ (by omega) (by omega),Z0e,hd];obtain⟨J,g⟩:∃J,(a+b.length - 1) / 16 - a / 16=J+1:=⟨(a+b.length - 1) / 16 - a / 16 - 1,by omega⟩;rw[g,G5 bl (a / 16) (J+1),show(a+min b.length (16 - a % 16)) / 16=a / 16+1 by omega,
    show(a+min b.length (16 - a % 16)+(b.length - (16 - a % 16)) - 1) / 16 - (a / 16+1)+1=J+1 by omega,
    Ns (bl:=wr1 bl a b) (bl':=bl) (λi _=>by unfold wr1;rw[Cs,dn (by omega)])]
   omega
theorem Wb {bl:List (Nat × List UInt8)}(a:Int)(b:List UInt8):(M0 bl a b).length=bl.length+Sj bl a b.length:=by
 unfold M0 Sj;by_cases d:Ef a b.length=true
 .rw[dp d];rcases ak b.length with c | c
  .rw[dn (by omega),c];rfl
  .rw[dp ⟨d,c⟩];exact Xw _ _ _ _ (au _) c
 .rw[dn d,dn (λh=>d h.1)];rfl
def Inv (size:Nat)(bl:List (Nat × List UInt8)):Prop:=∀p∈bl,p.1 * 16 < size
theorem Uo (P:Nat->Prop):∀(f:Nat) (bl:List (Nat × List UInt8)) (a:Nat) (b:List UInt8),(∀p∈bl,P p.1)->(∀k,k * 16 < a+b.length->P k)->∀p∈wrL f bl a b,P p.1
 | 0,_,_,_,h,_=>h
 | f+1,bl,a,b,h,hk=>by
  rw[wrL];split
  .exact h
  .refine Uo P f _ _ _ (λp c=>?_) (λk d=>hk k ?_)
   .rcases Hi c with c | rfl
    .exact h p c
    .exact hk _ (by show a / 16 * 16 < _;omega)
   .rw[bj] at d;omega
theorem Zq {size:Nat}{bl:List (Nat × List UInt8)}(h:Inv size bl)(a:Int)(b:List UInt8):Inv (El size a b.length) (M0 bl a b):=by
 unfold El M0;by_cases c:Ef a b.length=true
 .rcases ak b.length with d | d
  .rw[dn (by omega),dp c,d];exact h
  .rw[dp ⟨c,d⟩,dp c];exact Uo (λk=>k * 16 < max size (a.toNat+b.length)) _ _ _ _ (λp e=>by have:=h p e;omega) (λk f=>by omega)
 .rw[dn (λh=>c h.1),dn c];exact h
theorem Z86 {bl:List (Nat × List UInt8)}{k f t:Nat}{p:Nat × List UInt8}(h:p∈zr1 bl k f t):∃q∈bl,q.1=p.1:=by
 unfold zr1 at h;cases hg:Au bl k with
 | none=>rw[hg] at h;exact⟨p,h,rfl⟩
 | some v =>
  rw[hg] at h;simp only at h;split at h
  .exact⟨p,h,rfl⟩
  .split at h
   .exact⟨p,(af.1 h).1,rfl⟩
   .rcases Hi h with h | rfl
    .exact⟨p,h,rfl⟩
    .exact⟨(k,v),E1 hg,rfl⟩
theorem Z75 {bl:List (Nat × List UInt8)}{k f t:Nat}{p:Nat × List UInt8}(h:p∈wp1 f t bl k):∃q∈bl,q.1=p.1:=by
 unfold wp1 at h;split at h
 .exact Z86 h
 .exact⟨p,h,rfl⟩
theorem Oz {f t:Nat}:∀(ks:List Nat) (bl:List (Nat × List UInt8)) {p:Nat × List UInt8},p∈ks.foldl (wp1 f t) bl->∃q∈bl,q.1=p.1
 | [],_,p,h=>⟨p,h,rfl⟩
 | k::ks,bl,p,h=>by obtain⟨q,a,e⟩:=Oz ks _ h;obtain⟨r,hr,b⟩:=Z75 a;exact⟨r,hr,b.trans e⟩
theorem Z2j {bl:List (Nat × List UInt8)}{k f t:Nat}(b:f<=k * 16)(c:k * 16+16<=t):∀p∈wp1 f t bl k,p.1≠k:=by
 intro p a;unfold wp1 at a;rw[dp ⟨by omega,by omega⟩] at a;unfold zr1 at a;cases hg:Au bl k with
 | none=>rw[hg] at a;exact Cq.1 hg p a
 | some v =>
  rw[hg] at a;simp only at a;rw[dn (by omega),dp ⟨by omega,by omega⟩] at a;have:=(af.1 a).2;simpa using this
theorem R9 {f t:Nat}:∀(ks:List Nat) (bl:List (Nat × List UInt8)) {k:Nat},k∈ks->f<=k * 16->k * 16+16<=t->∀p∈ks.foldl (wp1 f t) bl,p.1≠k
 | [],_,k,h,_,_=>by simp at h
 | j::ks,bl,k,h,h1,h2=>by
  intro p a;rcases bo.1 h with rfl | h
  .obtain⟨q,b,e⟩:=Oz ks _ a;rw[<-e];exact Z2j h1 h2 q b
  .exact R9 ks _ h h1 h2 p a
theorem Z6a {size:Nat}{bl:List (Nat × List UInt8)}(h:Inv size bl)(n:Int):Inv (Dg size n) (Gf size bl n):=by
 unfold Dg Gf;by_cases c:Ir n=true
 .rw[dp c];by_cases a:n.toNat < size
  .rw[dp ⟨c,a⟩];intro p b;obtain⟨q,d,e⟩:=Oz _ _ b;apply Decidable.byContradiction;intro f;refine R9 (Fb bl) bl (k:=p.1) ?_ (by omega) ?_ p b rfl
   .rw[(Ca bl).mem_iff,<-e];exact bi.2 ⟨q,d,rfl⟩
   .have:=h q d;rw[e] at this;unfold Fq;omega
  .rw[dn (λh=>a h.2)];intro p b;have:=h p b;omega
 .rw[dn c,dn (λh=>c h.1)];exact h
theorem Um (bl:List (Nat × List UInt8))(k:Nat)(v:List UInt8)(j:Nat):Db (Gn bl k v) j=if j=k then v else Db bl j:=by unfold Db;rw[Cs];split<;>rfl
theorem Z2u (bl:List (Nat × List UInt8))(k j:Nat):Db (He bl k) j=if j=k then List.replicate 16 0 else Db bl j:=by unfold Db;rw[If];split<;>rfl
theorem I4 (n i:Nat):(List.replicate n (0:UInt8)).getD i 0=0:=by rw[List.getD_eq_getElem?_getD,List.getElem?_replicate];split<;>rfl
theorem Ho (L:List UInt8)(o:Nat)(cs:List UInt8)(h:o+cs.length<=L.length)(j:Nat) :
  (splice L o cs).getD j 0=if o<=j/\j < o+cs.length then cs.getD (j - o) 0 else L.getD j 0:=by
 unfold splice;simp only[List.getD_eq_getElem?_getD];by_cases a:j < o
 .rw[dn (by omega),br (by rw[be];omega),bp,dp a]
 .rw[bn (by rw[be];omega),be,show min o L.length=o by omega];by_cases b:j < o+cs.length
  .rw[dp ⟨by omega,b⟩,br (by omega)]
  .rw[dn (by omega),bn (by omega),cd,show o+cs.length+(j - o - cs.length)=j by omega]
theorem We {bl:List (Nat × List UInt8)}(f:∀p∈bl,p.2.length=16)(a:Nat)(b:List UInt8)(i:Nat) :
  Cj (wr1 bl a b) i=if a<=i/\i < a+min b.length (16 - a % 16) then b.getD (i - a) 0 else Cj bl i:=by
 have e:=Fi f (a / 16);unfold Cj wr1;rw[Um];by_cases c:i / 16=a / 16
 .rw[dp c,Ho _ _ _ (by rw[e,be];omega),be,c];by_cases d:a<=i/\i < a+min b.length (16 - a % 16)
  .rw[dp d,dp ⟨by omega,by omega⟩,List.getD_eq_getElem?_getD,bp,dp (by omega),<-List.getD_eq_getElem?_getD,show i % 16 - a % 16=i - a by omega]
  .rw[dn d,dn (by omega)]
 .rw[dn c,dn (by omega)]
theorem Nf:∀(f:Nat) {bl:List (Nat × List UInt8)} (a:Nat) (b:List UInt8),(∀p∈bl,p.2.length=16)->b.length<=f->∀i,
  Cj (wrL f bl a b) i=if a<=i/\i < a+b.length then b.getD (i - a) 0 else Cj bl i
 | 0,bl,a,b,_,h,i=>by rw[dn (by omega)];rfl
 | f+1,bl,a,b,hf,h,i=>by
  rw[wrL];by_cases d:b.length=0
  .rw[dp d,dn (by omega)]
  .rw[dn d,Nf f _ _ (O3 hf a b) (by rw[bj];omega),bj,We hf];by_cases c:a<=i/\i < a+b.length
   .rw[dp c];by_cases e:i < a+min b.length (16 - a % 16)
    .rw[dn (by omega),dp ⟨c.1,e⟩]
    .rw[dp ⟨by omega,by omega⟩,List.getD_eq_getElem?_getD,cd,<-List.getD_eq_getElem?_getD,show 16 - a % 16+(i - (a+min b.length (16 - a % 16)))=i - a by omega]
   .rw[dn c,dn (by omega),dn (by omega)]
def M9 (bl:List (Nat × List UInt8))(k:Nat):Bool:=(Au bl k).isSome
theorem Z52 (bl:List (Nat × List UInt8))(a:Nat)(b:List UInt8)(k:Nat):M9 (wr1 bl a b) k=(decide (k=a / 16)||M9 bl k):=by unfold M9 wr1;rw[Cs];by_cases h:k=a / 16<;>simp[h]
theorem U0:∀(f:Nat) (bl:List (Nat × List UInt8)) (a:Nat) (b:List UInt8),b.length<=f->∀k,
  M9 (wrL f bl a b) k=(decide (0 < b.length/\a / 16<=k/\k<=(a+b.length - 1) / 16)||M9 bl k)
 | 0,bl,a,b,h,k=>by rw[decide_eq_false (by omega)];rfl
 | f+1,bl,a,b,h,k=>by
  rw[wrL];by_cases c:b.length=0
  .rw[dp c,decide_eq_false (by omega)];rfl
  .rw[dn c,U0 f _ _ _ (by rw[bj];omega),bj,Z52,<-Bool.or_assoc,<-Bool.decide_or]
   congr 1
   rw[decide_eq_decide];omega
theorem Vb {bl:List (Nat × List UInt8)}(e:∀p∈bl,p.2.length=16)(k f t:Nat)(j:t<=16)(i:Nat) :
  Cj (zr1 bl k f t) i=if i / 16=k/\f<=i % 16/\i % 16 < t then 0 else Cj bl i:=by
 unfold zr1;cases hg:Au bl k with
 | none =>
  simp only;split
  .rename_i h
   unfold Cj Db;rw[h.1,hg];exact I4 _ _
  .rfl
 | some v =>
  have g:v.length=16:=e _ (E1 hg);simp only;by_cases c:t<=f
  .rw[dp c,dn (by omega)]
  .rw[dn c];by_cases d:f=0/\t=16
   .rw[dp d];unfold Cj;rw[Z2u];by_cases a:i / 16=k
    .rw[dp a,dp ⟨a,by omega,by omega⟩];exact I4 _ _
    .rw[dn a,dn (by omega)]
   .rw[dn d];unfold Cj;rw[Um];by_cases a:i / 16=k
    .rw[dp a,Ho _ _ _ (by rw[List.length_replicate];omega),List.length_replicate,show f+(t - f)=t by omega];by_cases b:f<=i % 16/\i % 16 < t
     .rw[dp b,dp ⟨a,b⟩];exact I4 _ _
     .rw[dn b,dn (by omega),a];unfold Db;rw[hg];rfl
    .rw[dn a,dn (by omega)]
theorem Z30 (bl:List (Nat × List UInt8))(k f t:Nat)(b:f < t)(j:Nat):M9 (zr1 bl k f t) j=(M9 bl j&&!decide (j=k/\f=0/\t=16)):=by
 unfold zr1 M9;cases hg:Au bl k with
 | none =>
  simp only;by_cases h:j=k
  .subst h;rw[hg];rfl
  .simp[h]
 | some v =>
  simp only;rw[dn (by omega)];split
  .rename_i h
   rw[If];by_cases a:j=k
   .simp[a,h]
   .simp[a]
  .rename_i h
   rw[Cs];by_cases a:j=k
   .subst a;rw[hg];simp[h]
   .simp[a]
theorem Ui {bl:List (Nat × List UInt8)}(b:∀p∈bl,p.2.length=16)(f t k:Nat):∀p∈wp1 f t bl k,p.2.length=16:=by
 intro p a;unfold wp1 at a;split at a
 .unfold zr1 at a;cases hg:Au bl k with
  | none=>rw[hg] at a;exact b p a
  | some v =>
   rw[hg] at a;simp only at a;split at a
   .exact b p a
   .split at a
    .exact b p (af.1 a).1
    .rcases Hi a with a | rfl
     .exact b p a
     .have c:v.length=16:=b _ (E1 hg);show(splice _ _ _).length=16;rw[length_splice _ _ _ (by rw[List.length_replicate];omega),c]
 .exact b p a
theorem Wk {bl:List (Nat × List UInt8)}(a:∀p∈bl,p.2.length=16)(f t k i:Nat) :
  Cj (wp1 f t bl k) i=if i / 16=k/\f<=i/\i < t then 0 else Cj bl i:=by
 unfold wp1;split
 .rw[Vb a _ _ _ (by omega)];by_cases h:i / 16=k/\f<=i/\i < t
  .rw[dp h,dp (by omega)]
  .rw[dn h,dn (by omega)]
 .rw[dn (by omega)]
theorem Z2f (bl:List (Nat × List UInt8))(f t k j:Nat)(a:f < t):M9 (wp1 f t bl k) j=(M9 bl j&&!decide (j=k/\f<=j * 16/\j * 16+16<=t)):=by
 unfold wp1;split
 .rw[Z30 _ _ _ _ (by omega)]
  congr 2
  rw[decide_eq_decide];omega
 .rw[decide_eq_false (by omega)];simp
theorem Qo {f t:Nat}:∀(ks:List Nat) {bl:List (Nat × List UInt8)},(∀p∈bl,p.2.length=16)->∀p∈ks.foldl (wp1 f t) bl,p.2.length=16
 | [],_,h=>h
 | k::ks,_,h=>Qo ks (Ui h f t k)
theorem Lp {f t:Nat}:∀(ks:List Nat) {bl:List (Nat × List UInt8)},(∀p∈bl,p.2.length=16)->∀i,Cj (ks.foldl (wp1 f t) bl) i=if i / 16∈ks/\f<=i/\i < t then 0 else Cj bl i
 | [],bl,_,i=>by simp
 | k::ks,bl,h,i=>by
  rw[List.foldl_cons,Lp ks (Ui h f t k),Wk h];by_cases a:f<=i/\i < t
  .by_cases b:i / 16∈ks
   .rw[dp ⟨b,a⟩,dp ⟨List.mem_cons_of_mem _ b,a⟩]
   .rw[dn (λh=>b h.1)];by_cases c:i / 16=k
    .rw[dp ⟨c,a⟩,dp ⟨by rw[c];exact List.mem_cons_self,a⟩]
    .rw[dn (λh=>c h.1),dn (λh=>by rcases bo.1 h.1 with h | h<;>contradiction)]
  .rw[dn (λh=>a h.2),dn (λh=>a h.2),dn (λh=>a h.2)]
theorem Qj {f t:Nat}(b:f < t):∀(ks:List Nat) (bl:List (Nat × List UInt8)) (j:Nat),M9 (ks.foldl (wp1 f t) bl) j=(M9 bl j&&!decide (j∈ks/\f<=j * 16/\j * 16+16<=t))
 | [],bl,j=>by simp
 | k::ks,bl,j=>by
  rw[List.foldl_cons,Qj b ks,Z2f _ _ _ _ _ b,Bool.and_assoc,<-Bool.not_or,<-Bool.decide_or]
  congr 2
  rw[decide_eq_decide,bo];constructor
  .rintro(⟨a,h2⟩ | ⟨a,h2⟩)
   .exact⟨.inl a,h2⟩
   .exact⟨.inr a,h2⟩
  .rintro⟨a | a,h2⟩
   .exact .inl ⟨a,h2⟩
   .exact .inr ⟨a,h2⟩
theorem E7 (bl:List (Nat × List UInt8))(k:Nat):k∈Fb bl↔M9 bl k=true:=by
 rw[(Ca bl).mem_iff];unfold M9;constructor
 .intro h;obtain⟨p,b,rfl⟩:=bi.1 h;rw[Option.isSome_iff_ne_none];intro a;exact Cq.1 a p b rfl
 .intro h;obtain⟨v,c⟩:=Option.isSome_iff_exists.1 h;exact bi.2 ⟨_,E1 c,rfl⟩
theorem Tb {bl:List (Nat × List UInt8)}{i:Nat}(h:M9 bl (i / 16)=false):Cj bl i=0:=by unfold M9 at h;unfold Cj Db;rw[Option.isSome_eq_false_iff,Option.isNone_iff_eq_none] at h;rw[h];exact I4 _ _
theorem S4 {bl:List (Nat × List UInt8)}(d:∀p∈bl,p.2.length=16)(f t i:Nat):Cj (L6 bl f t) i=if f<=i/\i < t then 0 else Cj bl i:=by
 unfold L6;rw[Lp _ d];by_cases h:f<=i/\i < t
 .rw[dp h];by_cases a:i / 16∈Fb bl
  .rw[dp ⟨a,h⟩]
  .rw[dn (λh=>a h.1)];exact Tb (Bool.eq_false_iff.2 λb=>a ((E7 _ _).2 b))
 .rw[dn h,dn (λc=>h c.2)]
theorem Yu (bl:List (Nat × List UInt8))(f t k:Nat)(a:f < t):M9 (L6 bl f t) k=(M9 bl k&&!decide (f<=k * 16/\k * 16+16<=t)):=by
 unfold L6;rw[Qj a];cases hb:M9 bl k
 .rfl
 .rw[Bool.true_and,Bool.true_and]
  congr 1
  rw[decide_eq_decide];exact⟨λh=>h.2,λh=>⟨(E7 _ _).2 hb,h⟩⟩
theorem Mw {l m:List Nat}(d:l.Pairwise (· < ·))(c:m.Pairwise (· < ·))(h:∀x,x∈l↔x∈m):l=m:=by refine List.Perm.eq_of_pairwise (le:=λa b:Nat=>a < b) (λa b _ _ e f=>by omega) d c ?_;exact(List.perm_ext_iff_of_nodup (d.imp λh=>by omega) (c.imp λh=>by omega)).2 h
theorem Ei {bl:List (Nat × List UInt8)}(e:(bl.map (·.1)).Nodup):(Fb bl).Pairwise (· < ·):=by have c:=Js bl;have d:(Fb bl).Nodup:=(Ca bl).nodup_iff.2 e;exact c.imp₂ (λa b c d=>Nat.lt_of_le_of_ne c d) d
def Z1o (k:Nat):List Nat->List Nat
 | []=>[k]
 | x::l=>if k<=x then k::(x::l).filter (·≠k) else x::Z1o k l
theorem O7 (k x:Nat):∀l,x∈Z1o k l↔x=k\/x∈l
 | []=>by simp[Z1o]
 | y::l=>by
  unfold Z1o;split
  .rw[bo,af];by_cases h:x=k<;>simp[h]
  .rw[bo,O7 k x l,bo];constructor
   .rintro(h | h | h)<;>simp[h]
   .rintro(h | h | h)<;>simp[h]
theorem Le (k:Nat):∀{l:List Nat},l.Pairwise (· < ·)->(Z1o k l).Pairwise (· < ·)
 | [],_=>by simp[Z1o]
 | y::l,h=>by
  obtain⟨c,e⟩:=List.pairwise_cons.1 h;unfold Z1o;split
  .rename_i hk
   refine List.pairwise_cons.2 ⟨λx a=>?_,h.filter _⟩;obtain⟨b,d⟩:=af.1 a;have f:x≠k:=by simpa using d
   rcases bo.1 b with rfl | b
   .omega
   .have:=c x b;omega
  .refine List.pairwise_cons.2 ⟨λx a=>?_,Le k e⟩;rcases(O7 k x l).1 a with rfl | a
   .omega
   .exact c x a
def Mx (a i:Nat):Bool:=decide (i=0\/(a+i) % 16=0)
def R6 (On:List Nat)(a n:Nat):List Nat:=(List.range n).foldl (λl i=>if Mx a i=true then Z1o ((a+i) / 16) l else l) On
theorem N9 (On:List Nat)(a n:Nat):R6 On a (n+1)=if Mx a n=true then Z1o ((a+n) / 16) (R6 On a n) else R6 On a n:=by unfold R6;rw[List.range_succ,List.foldl_append];rfl
theorem Ga {On:List Nat}(h:On.Pairwise (· < ·))(a:Nat):∀n,(R6 On a n).Pairwise (· < ·)
 | 0=>h
 | n+1=>by
  rw[N9];split
  .exact Le _ (Ga h a n)
  .exact Ga h a n
theorem Kw (On:List Nat)(a k:Nat):∀n,k∈R6 On a n↔(0 < n/\a / 16<=k/\k<=(a+n - 1) / 16)\/k∈On
 | 0=>by simp[R6]
 | n+1=>by
  rw[N9];unfold Mx;by_cases h:n=0\/(a+n) % 16=0
  .rw[dp (by simpa using h),O7,Kw On a k n,<-or_assoc];refine or_congr_left ?_;omega
  .rw[dn (by simpa using h),Kw On a k n];refine or_congr_left ?_;omega
def Wm (B:List UInt8)(n:Nat):List UInt8:=B++List.replicate (n - B.length) 0
theorem Gp (B:List UInt8)(n:Nat):(Wm B n).length=max B.length n:=by simp[Wm];omega
theorem J6 (B:List UInt8)(n i:Nat):(Wm B n).getD i 0=B.getD i 0:=by
 unfold Wm;simp only[List.getD_eq_getElem?_getD];by_cases h:i < B.length
 .rw[br h]
 .rw[bn (by omega),List.getElem?_replicate,ck (l:=B) (by omega)];split<;>rfl
def rwB (B:List UInt8)(a:Int)(b:List UInt8):List UInt8:=if Ef a b.length=true/\0 < b.length then splice (Wm B (a.toNat+b.length)) a.toNat b else B
def Z5g (On:List Nat)(a:Int)(n:Nat):List Nat:=if Ef a n=true then R6 On a.toNat n else On
def J7 (On:List Nat)(a:Int)(n:Nat):Nat:=if Ef a n=true then(List.range n).countP λi=>Mx a.toNat i&&!decide ((a.toNat+i) / 16∈On) else 0
def rcB (B:List UInt8)(n:Int):List UInt8:=if Ir n=true then(Wm B n.toNat).take n.toNat else B
def Zc (B:List UInt8)(On:List Nat)(n:Int):List Nat:=if Ir n=true then On.filter (λk=>decide (16 * k < n.toNat\/B.length<=n.toNat)) else On
structure K9 (size:Nat)(bl:List (Nat × List UInt8))(B:List UInt8)(On:List Nat):Prop where
 len:B.length=size
 bytes:∀i,B.getD i 0=Cj bl i
 on:On=Fb bl
 inv:Inv size bl
 full:∀p∈bl,p.2.length=16
 nodup:(bl.map (·.1)).Nodup
theorem Zr:K9 0 [] [] []:=⟨rfl,λi=>(I4 16 (i % 16)).symm,by simp[Fb],by intro p a;simp at a,by intro p a;simp at a,by simp⟩
theorem Qm:∀(f:Nat) (bl:List (Nat × List UInt8)) (a:Nat) (b:List UInt8),(bl.map (·.1)).Nodup->((wrL f bl a b).map (·.1)).Nodup
 | 0,_,_,_,h=>h
 | f+1,bl,a,b,h=>by
  rw[wrL];split
  .exact h
  .exact Qm f _ _ _ (Q1 h _ _)
theorem Z03 {bl:List (Nat × List UInt8)}(h:(bl.map (·.1)).Nodup)(f t k:Nat):((wp1 f t bl k).map (·.1)).Nodup:=by
 unfold wp1;split
 .unfold zr1;cases Au bl k with
  | none=>exact h
  | some v =>
   simp only;split
   .exact h
   .split
    .exact Zf h _
    .exact Q1 h _ _
 .exact h
theorem Nb {f t:Nat}:∀(ks:List Nat) {bl:List (Nat × List UInt8)},(bl.map (·.1)).Nodup->((ks.foldl (wp1 f t) bl).map (·.1)).Nodup
 | [],_,h=>h
 | k::ks,_,h=>Nb ks (Z03 h f t k)
theorem V8:∀(f:Nat) {bl:List (Nat × List UInt8)} (a:Nat) (b:List UInt8),(∀p∈bl,p.2.length=16)->∀p∈wrL f bl a b,p.2.length=16
 | 0,_,_,_,h=>h
 | f+1,bl,a,b,h=>by
  rw[wrL];split
  .exact h
  .exact V8 f _ _ (O3 h a b)
theorem Nc {size:Nat}{bl:List (Nat × List UInt8)}{B:List UInt8}{On:List Nat}(h:K9 size bl B On)(a:Int)(b:List UInt8) :
  K9 (El size a b.length) (M0 bl a b) (rwB B a b) (Z5g On a b.length):=by
 have g:=Zq h.inv a b;by_cases c:Ef a b.length=true
 .have e:((M0 bl a b).map (·.1)).Nodup:=by unfold M0;rw[dp c];exact Qm _ _ _ _ h.nodup
  have f:∀p∈M0 bl a b,p.2.length=16:=by unfold M0;rw[dp c];exact V8 _ _ _ h.full
  refine⟨?_,λi=>?_,?_,g,f,e⟩
  .unfold rwB El;by_cases d:0 < b.length
   .rw[dp ⟨c,d⟩,dp ⟨c,d⟩,length_splice _ _ _ (by rw[Gp];omega),Gp,h.len]
   .rw[dn (λh=>d h.2),dn (λh=>d h.2)];exact h.len
  .unfold rwB M0;rw[dp c,Nf _ _ _ h.full (au _)];by_cases d:0 < b.length
   .rw[dp ⟨c,d⟩,Ho _ _ _ (by rw[Gp];omega),J6,h.bytes]
   .rw[dn (λh=>d h.2),dn (by omega),h.bytes]
  .refine Mw ?_ (Ei e) (λk=>?_)
   .unfold Z5g;rw[dp c];exact Ga (by rw[h.on];exact Ei h.nodup) _ _
   .unfold Z5g;rw[dp c,Kw,E7];unfold M0;rw[dp c,U0 _ _ _ _ (au _),h.on,E7,Bool.or_eq_true,decide_eq_true_eq]
 .have j:El size a b.length=size:=by unfold El;rw[dn (λh=>c h.1)]
  have m:M0 bl a b=bl:=by unfold M0;rw[dn c]
  have n:rwB B a b=B:=by unfold rwB;rw[dn (λh=>c h.1)]
  have l:Z5g On a b.length=On:=by unfold Z5g;rw[dn c]
  rw[j,m,n,l];exact h
theorem Pv {size:Nat}{bl:List (Nat × List UInt8)}{B:List UInt8}{On:List Nat}(h:K9 size bl B On)(a:Int)(n:Nat):J7 On a n=Sj bl a n:=by
 unfold J7 Sj;by_cases c:Ef a n=true
 .rw[dp c];have key:∀m,(List.range m).countP (λi=>Mx a.toNat i&&!decide ((a.toNat+i) / 16∈On))=if 0 < m then Ch bl (a.toNat / 16) ((a.toNat+m - 1) / 16 - a.toNat / 16+1) else 0:=by
   intro m
   induction m with
   | zero=>rfl
   | succ m ih =>
    rw[List.range_succ,List.countP_append,ih,dp (Nat.succ_pos m)];have f:∀k,decide (k∈On)=(Au bl k).isSome:=λk=>by rw[Bool.eq_iff_iff,decide_eq_true_eq,h.on,E7];rfl
    simp only[List.countP_cons,List.countP_nil,Nat.zero_add,f,Option.not_isSome];unfold Mx;rcases ak m with rfl | e
    .rw[dn (Nat.lt_irrefl 0),show(a.toNat+(0+1) - 1) / 16 - a.toNat / 16+1=0+1 by omega,Cx];simp[Ch]
    .rw[dp e];by_cases d:(a.toNat+m) % 16=0
     .rw[show(a.toNat+(m+1) - 1) / 16 - a.toNat / 16+1=(a.toNat+m - 1) / 16 - a.toNat / 16+1+1 by omega,Cx bl (a.toNat / 16) ((a.toNat+m - 1) / 16 - a.toNat / 16+1),
       show a.toNat / 16+((a.toNat+m - 1) / 16 - a.toNat / 16+1)=(a.toNat+m) / 16 by omega]
      simp[d]
     .rw[show(a.toNat+(m+1) - 1) / 16 - a.toNat / 16+1=(a.toNat+m - 1) / 16 - a.toNat / 16+1 by omega];simp[d,show ¬m=0 by omega]
  rw[key];by_cases b:0 < n
  .rw[dp b,dp ⟨c,b⟩]
  .rw[dn b,dn (λh=>b h.2)]
 .rw[dn c,dn (λh=>c h.1)]
theorem Nk {bl:List (Nat × List UInt8)}(h:(bl.map (·.1)).Nodup)(f t:Nat):((L6 bl f t).map (·.1)).Nodup:=Nb _ h
theorem Yn {bl:List (Nat × List UInt8)}(h:∀p∈bl,p.2.length=16)(f t:Nat):∀p∈L6 bl f t,p.2.length=16:=Qo _ h
theorem Zk {B:List UInt8}{i:Nat}(h:B.length<=i):B.getD i 0=0:=by rw[List.getD_eq_getElem?_getD,ck h];rfl
theorem Z6i {size:Nat}{bl:List (Nat × List UInt8)}(h:Inv size bl){k:Nat}(c:M9 bl k=true):k * 16 < size:=by obtain⟨v,b⟩:=Option.isSome_iff_exists.1 c;have a:(k,v)∈bl:=E1 b;exact h (k,v) a
set_option maxHeartbeats 1000000 in
theorem Z2e {size:Nat}{bl:List (Nat × List UInt8)}{B:List UInt8}{On:List Nat}(h:K9 size bl B On)(n:Int) :
  K9 (Dg size n) (Gf size bl n) (rcB B n) (Zc B On n):=by
 have b:=Z6a h.inv n;by_cases a:Ir n=true
 .have es:Dg size n=n.toNat:=by unfold Dg;rw[dp a]
  rw[es] at b⊢;by_cases d:n.toNat < size
  .have e:Gf size bl n=L6 bl n.toNat (Fq size):=by unfold Gf;rw[dp ⟨a,d⟩]
   rw[e] at b⊢;refine⟨?_,λi=>?_,?_,b,Yn h.full _ _,Nk h.nodup _ _⟩
   .unfold rcB;rw[dp a,be,Gp];omega
   .unfold rcB;rw[dp a,S4 h.full,<-h.bytes,List.getD_eq_getElem?_getD,bp];by_cases c:i < n.toNat
    .rw[dp c,dn (by omega),<-List.getD_eq_getElem?_getD,J6]
    .rw[dn c];by_cases f:i < Fq size
     .rw[dp ⟨by omega,f⟩];rfl
     .rw[dn (by omega),Zk (by rw[h.len];unfold Fq at f;omega)];rfl
   .refine Mw ?_ (Ei (Nk h.nodup _ _)) (λk=>?_)
    .unfold Zc;rw[dp a,h.on];exact(Ei h.nodup).filter _
    .unfold Zc;rw[dp a,af,E7,Yu _ _ _ _ (by unfold Fq;omega),h.on,E7,h.len];cases hb:M9 bl k
     .simp
     .have:=Z6i h.inv hb;simp only[true_and,decide_eq_true_eq,Bool.true_and,Bool.not_eq_true',decide_eq_false_iff_not];unfold Fq;omega
  .have e:Gf size bl n=bl:=by unfold Gf;rw[dn (λh=>d h.2)]
   rw[e] at b⊢;refine⟨?_,λi=>?_,?_,b,h.full,h.nodup⟩
   .unfold rcB;rw[dp a,be,Gp];have:=h.len;omega
   .unfold rcB;rw[dp a,<-h.bytes,List.getD_eq_getElem?_getD,bp];by_cases c:i < n.toNat
    .rw[dp c,<-List.getD_eq_getElem?_getD,J6]
    .rw[dn c,Zk (by rw[h.len];omega)];rfl
   .unfold Zc;rw[dp a,<-h.on];exact List.filter_eq_self.2 λk _=>by simp;right;rw[h.len];omega
 .have g:Dg size n=size:=by unfold Dg;rw[dn a]
  have l:Gf size bl n=bl:=by unfold Gf;rw[dn (λh=>a h.1)]
  have m:rcB B n=B:=by unfold rcB;rw[dn a]
  have j:Zc B On n=On:=by unfold Zc;rw[dn a]
  rw[g,l,m,j];exact h
theorem Y7 {size:Nat}{bl:List (Nat × List UInt8)}{B:List UInt8}{On:List Nat}(h:K9 size bl B On)(a n:Nat)(d:a+n<=size):Ia bl a n=(B.drop a).take n:=by
 apply cx;intro i;unfold Ia;rw[ax,bp];by_cases b:i < n
 .have:=h.len;rw[cy b,dp b,cd,ap (by omega)];have c:=h.bytes (a+i);rw[List.getD_eq_getElem?_getD,ap (by omega)] at c;simp only[Option.map_some,Option.getD_some] at c⊢;rw[c]
 .rw[dn b,ck (by simp;omega)];rfl
theorem E8 {size:Nat}{bl:List (Nat × List UInt8)}{B:List UInt8}{On:List Nat}(h:K9 size bl B On):On.length=bl.length:=by rw[h.on,(Ca bl).length_eq,ao]
def F5 (B:List UInt8)(a n:Int):List UInt8:=if Qw B.length a n=true then(B.drop a.toNat).take n.toNat else []
structure RIn where
 id:Int
 gen:Int
 kind:Int
 mode:Int
 time:Int
 parent:Int
 target:ByteArray
 B:List UInt8
 On:List Nat
structure RNm where
 dir:Int
 name:ByteArray
 id:Int
structure RFs where
 room:Int
 ins:List RIn
 nms:List RNm
 gens:List Int
structure RMk where
 kind:Int
 mode:Int
 time:Int
 target:ByteArray
def J8:ByteArray:=⟨#[]⟩
def Z0:ByteArray:=⟨#[46]⟩
def Lu:ByteArray:=⟨#[46,46]⟩
def Zbw:RIn:=⟨0,0,0,0,0,0,J8,[],[]⟩
def A3 (l:List RIn)(id:Int):RIn:=(l.find? λx=>decide (x.id=id)).getD Zbw
def An (r:RFs)(h:Int × Int):Bool:=decide ((A3 r.ins h.1).id≠0/\(A3 r.ins h.1).gen=h.2)
def C2 (r:RFs)(h:Int × Int):Int:=if An r h=true then 0 else 175
def Az (r:RFs)(h:Int × Int):Int:=if An r h=true then(if(A3 r.ins h.1).kind=2 then 0 else 173) else 175
def Aj (s:ByteArray):Bool:=decide (1<=s.size/\s.size<=60/\s≠Z0/\s≠Lu)&&s.data.toList.all λc=>decide (c≠47/\c≠0)
def A5 (l:List RNm)(dir:Int)(name:ByteArray):Int:=((l.find? λn=>decide (n.dir=dir/\n.name=name)).map (·.id)).getD 0
def A9 (l:List RNm)(dir:Int):List (ByteArray × Int):=(l.filter λn=>decide (n.dir=dir)).map λn=>(n.name,n.id)
def H8 (l:List RNm)(dir:Int):Nat:=l.countP λn=>decide (n.dir=dir)
def A4 (r:RFs)(x:RIn):Nat :=
 if x.kind=2 then(r.nms.countP λn=>decide (n.dir=x.id/\(A3 r.ins n.id).kind=2))+2 else r.nms.countP λn=>decide (n.id=x.id)
def B0 (l:List Int)(id:Int):Int:=if 0<=id then l.getD id.toNat 0 else 0
def B2 (r:RFs)(h:Int × Int)(s:ByteArray)(free:Bool):Int :=
 if Az r h≠0 then Az r h else if free=true/\(s=Z0\/s=Lu) then 0 else if Aj s=true then 0 else 176
structure Wf (r:RFs)(K:Nat):Prop where
 ids:(r.ins.map (·.id)).Nodup
 rng:∀x∈r.ins,1<=x.id/\x.id<=200
 gen:∀x∈r.ins,x.gen=B0 r.gens x.id/\1<=x.gen
 genK:∀g∈r.gens,0<=g/\g<=(K:Int)+1
 genL:r.gens.length<=201
 kind:∀x∈r.ins,x.kind=1\/x.kind=2\/x.kind=3
 root:∃x∈r.ins,x.id=1/\x.gen=1/\x.kind=2/\x.parent=1
 nmD:∀n∈r.nms,∃d∈r.ins,d.id=n.dir/\d.kind=2
 nmI:∀n∈r.nms,n.id≠1/\∃x∈r.ins,x.id=n.id
 nmV:∀n∈r.nms,Aj n.name=true
 uniq:r.nms.Pairwise λa b=>¬(a.dir=b.dir/\a.name=b.name)
 one:∀x∈r.ins,x.kind=2->x.id≠1->(r.nms.filter λn=>decide (n.id=x.id)).map (·.dir)=[x.parent]
 some:∀x∈r.ins,x.kind≠2->∃n∈r.nms,n.id=x.id
 par:∀x∈r.ins,x.kind=2->∃p∈r.ins,p.id=x.parent/\p.kind=2
 tree:∃ρ:Int->Nat,∀x∈r.ins,x.kind=2->x.id≠1->ρ x.parent < ρ x.id
 nmK:r.nms.length<=K
 lim:∀x∈r.ins,A4 r x<=20
 file:∀x∈r.ins,x.kind≠1->x.B=[]/\x.On=[]
 link:∀x∈r.ins,x.kind≠3->x.target=J8
 rm:r.room<=9223372036854775807
 sp:(((r.ins.map λx=>x.On.length).sum:Nat):Int)<=r.room
section
variable {r:RFs} {K:Nat} {id:Int} {x:RIn}
theorem Cp {l:List RIn}(h:(A3 l id).id≠0):A3 l id∈l/\(A3 l id).id=id:=by
 unfold A3 at h⊢;cases hf:l.find? λx=>decide (x.id=id) with
 | none=>rw[hf] at h;exact dq rfl h
 | some y =>
  rw[Option.getD_some];exact⟨List.mem_of_find?_eq_some hf,by simpa using List.find?_some hf⟩
theorem Z26 {l:List RIn}(b:(l.map (·.id)).Nodup)(a:x∈l):A3 l x.id=x:=by
 unfold A3
 induction l with
 | nil=>simp at a
 | cons y l ih =>
  simp only[List.map_cons,List.nodup_cons] at b;rw[List.find?_cons];rcases bo.1 a with rfl | a
  .simp
  .have:y.id≠x.id:=λe=>b.1 (by rw[e];exact bi.2 ⟨x,a,rfl⟩);simp only[this,decide_false];exact ih b.2 a
theorem Nj {l:List RIn}(h:∀x∈l,x.id≠id):A3 l id=Zbw:=by unfold A3;rw[List.find?_eq_none.2 (λx a=>by simpa using h x a)];rfl
theorem Wf.byId (h:Wf r K)(a:x∈r.ins):A3 r.ins x.id=x:=Z26 h.ids a
theorem Wf.ne0 (h:Wf r K)(a:x∈r.ins):x.id≠0:=by have:=h.rng x a;omega
theorem Wf.cnt (h:Wf r K):r.ins.length<=200:=by
 have a:=Bv (l:=r.ins.map (·.id)) (m:=(List.range 200).map λi=>((i:Nat):Int)+1) h.ids (λk c=>by obtain⟨x,b,rfl⟩:=bi.1 c;have:=h.rng x b;exact bi.2 ⟨(x.id - 1).toNat,by simp;omega,by simp;omega⟩)
 simpa using a
theorem Jp (l:List RNm)(dir:Int):(A9 l dir).length=H8 l dir:=by unfold A9 H8;rw[ao,List.countP_eq_length_filter]
theorem N0 {l:List RNm}(dir:Int)(s:ByteArray):Au (A9 l dir) s=(l.find? λn=>decide (n.dir=dir/\n.name=s)).map (·.id):=by
 unfold A9
 induction l with
 | nil=>rfl
 | cons n l ih =>
  rw[List.filter_cons,List.find?_cons];by_cases h:n.dir=dir
  .simp only[h,decide_true,if_true,List.map_cons,C1];by_cases a:n.name=s
   .simp[a]
   .simp only[a,if_false,and_false,decide_false];exact ih
  .simp only[h,decide_false,false_and];exact ih
theorem Qq {l:List RNm}(dir:Int)(s:ByteArray):(Au (A9 l dir) s).getD 0=A5 l dir s:=by rw[N0];rfl
theorem Wf.entry_some (h:Wf r K)(dir:Int)(s:ByteArray):(Au (A9 r.nms dir) s).isSome=decide (A5 r.nms dir s≠0):=by
 rw[N0];unfold A5;cases hf:r.nms.find? λn=>decide (n.dir=dir/\n.name=s) with
 | none=>simp
 | some n =>
  have a:=List.mem_of_find?_eq_some hf;obtain⟨_,y,b,e⟩:=h.nmI n a;have:=h.rng y b;simp;omega
theorem B9 {l:List RNm}{dir:Int}{s:ByteArray}(h:A5 l dir s≠0):∃n∈l,n.dir=dir/\n.name=s/\n.id=A5 l dir s:=by
 unfold A5 at h⊢;cases hf:l.find? λn=>decide (n.dir=dir/\n.name=s) with
 | none=>rw[hf] at h;exact dq rfl h
 | some n =>
  have:=List.find?_some hf;simp at this;exact⟨n,List.mem_of_find?_eq_some hf,this.1,this.2,rfl⟩
theorem Ae {hd:Int × Int}(d:An r hd=true):A3 r.ins hd.1∈r.ins/\(A3 r.ins hd.1).id=hd.1/\(A3 r.ins hd.1).gen=hd.2:=by obtain⟨a,c⟩:=of_decide_eq_true d;obtain⟨e,b⟩:=Cp a;exact⟨e,b,c⟩
end
end Go.Proofs.YtmmdikhljefeiaaGreat


import Derived.Test.YtmmdikhljefeiaaGreatSE
import Derived.Test.YtmmdikhljefeiaaGreatYShH
import Derived.Lib.SlBytesConst
import Derived.Test.YtmmdikhljefeiaaGreatBM
namespace Go.Proofs.YtmmdikhljefeiaaGreat
open Go.RowKit Go.MapKept
theorem Gq (bl:List (Nat × List UInt8))(k:Nat):∀j,Cn bl k (j+1)=(if(Az bl k).isNone then 1 else 0)+Cn bl (k+1) j
 | 0=>by rw[Dc];simp[Cn]
 | j+1=>by rw[Dc,Gq bl k j,Dc,show k+(j+1)=k+1+j by omega];omega
theorem Oj {bl bl':List (Nat × List UInt8)}{k j:Nat}(h:∀i,i < j->(Az bl (k+i)).isNone=(Az bl' (k+i)).isNone):Cn bl k j=Cn bl' k j:=by unfold Cn;exact List.countP_congr λi a=>by rw[h i (by simpa using a)]
theorem Z0q (bl:List (Nat × List UInt8))(a:Nat)(b:List UInt8):(wr1 bl a b).length=bl.length+if(Az bl (a / 16)).isNone then 1 else 0:=by unfold wr1;rw[Z97];cases Az bl (a / 16)<;>simp
theorem Z0k:∀(f:Nat) (bl:List (Nat × List UInt8)) (a:Nat) (b:List UInt8),b.length<=f->0 < b.length ->
  (wrL f bl a b).length=bl.length+Cn bl (a / 16) ((a+b.length - 1) / 16 - a / 16+1)
 | 0,_,_,b,h,h0=>by omega
 | f+1,bl,a,b,h,h0=>by
  rw[wrL,dp (by omega)];have hd:=bm (i:=16 - a % 16) (l:=b);by_cases c:b.length<=16 - a % 16
  .have d:(b.drop (16 - a % 16))=[]:=dl c;rw[d];have g:wrL f (wr1 bl a b) (a+min b.length (16 - a % 16)) []=wr1 bl a b:=by cases f<;>simp[wrL]
   rw[g,Z0q,show(a+b.length - 1) / 16 - a / 16+1=0+1 by omega,Gq];simp[Cn]
  .rw[Z0k f _ _ _ (by omega) (by omega),Z0q,hd];obtain⟨J,e⟩:∃J,(a+b.length - 1) / 16 - a / 16=J+1:=⟨(a+b.length - 1) / 16 - a / 16 - 1,by omega⟩;rw[e,Gq bl (a / 16) (J+1),show(a+min b.length (16 - a % 16)) / 16=a / 16+1 by omega,
    show(a+min b.length (16 - a % 16)+(b.length - (16 - a % 16)) - 1) / 16 - (a / 16+1)+1=J+1 by omega,
    Oj (bl:=wr1 bl a b) (bl':=bl) (λi _=>by unfold wr1;rw[D0,dp (by omega)])]
   omega
theorem Ws {bl:List (Nat × List UInt8)}(a:Int)(b:List UInt8):(Ms bl a b).length=bl.length+S1 bl a b.length:=by
 unfold Ms S1;by_cases c:D9 a b.length=true
 .rw[dq c];rcases ak b.length with d | d
  .rw[dp (by omega),d];rfl
  .rw[dq ⟨c,d⟩];exact Z0k _ _ _ _ (av _) d
 .rw[dp c,dp (λh=>c h.1)];rfl
def Inv (size:Nat)(bl:List (Nat × List UInt8)):Prop:=∀p∈bl,p.1 * 16 < size
theorem Vs (P:Nat->Prop):∀(f:Nat) (bl:List (Nat × List UInt8)) (a:Nat) (b:List UInt8),(∀p∈bl,P p.1)->(∀k,k * 16 < a+b.length->P k)->∀p∈wrL f bl a b,P p.1
 | 0,_,_,_,h,_=>h
 | f+1,bl,a,b,h,hk=>by
  rw[wrL];split
  .exact h
  .refine Vs P f _ _ _ (λp c=>?_) (λk d=>hk k ?_)
   .rcases I5 c with c | rfl
    .exact h p c
    .exact hk _ (by show a / 16 * 16 < _;omega)
   .rw[bm] at d;omega
theorem Z0d {size:Nat}{bl:List (Nat × List UInt8)}(h:Inv size bl)(a:Int)(b:List UInt8):Inv (Ez size a b.length) (Ms bl a b):=by
 unfold Ez Ms;by_cases c:D9 a b.length=true
 .rcases ak b.length with d | d
  .rw[dp (by omega),dq c,d];exact h
  .rw[dq ⟨c,d⟩,dq c];exact Vs (λk=>k * 16 < max size (a.toNat+b.length)) _ _ _ _ (λp e=>by have:=h p e;omega) (λk f=>by omega)
 .rw[dp (λh=>c h.1),dp c];exact h
theorem Z9h {bl:List (Nat × List UInt8)}{k f t:Nat}{p:Nat × List UInt8}(h:p∈zr1 bl k f t):∃q∈bl,q.1=p.1:=by
 unfold zr1 at h;cases hg:Az bl k with
 | none=>rw[hg] at h;exact⟨p,h,rfl⟩
 | some v =>
  rw[hg] at h;simp only at h;split at h
  .exact⟨p,h,rfl⟩
  .split at h
   .exact⟨p,(af.1 h).1,rfl⟩
   .rcases I5 h with h | rfl
    .exact⟨p,h,rfl⟩
    .exact⟨(k,v),Ee hg,rfl⟩
theorem Z8s {bl:List (Nat × List UInt8)}{k f t:Nat}{p:Nat × List UInt8}(h:p∈wp1 f t bl k):∃q∈bl,q.1=p.1:=by
 unfold wp1 at h;split at h
 .exact Z9h h
 .exact⟨p,h,rfl⟩
theorem P2 {f t:Nat}:∀(ks:List Nat) (bl:List (Nat × List UInt8)) {p:Nat × List UInt8},p∈ks.foldl (wp1 f t) bl->∃q∈bl,q.1=p.1
 | [],_,p,h=>⟨p,h,rfl⟩
 | k::ks,bl,p,h=>by obtain⟨q,a,e⟩:=P2 ks _ h;obtain⟨r,hr,b⟩:=Z8s a;exact⟨r,hr,b.trans e⟩
theorem Z5j {bl:List (Nat × List UInt8)}{k f t:Nat}(c:f<=k * 16)(b:k * 16+16<=t):∀p∈wp1 f t bl k,p.1≠k:=by
 intro p a;unfold wp1 at a;rw[dq ⟨by omega,by omega⟩] at a;unfold zr1 at a;cases hg:Az bl k with
 | none=>rw[hg] at a;exact Cy.1 hg p a
 | some v =>
  rw[hg] at a;simp only at a;rw[dp (by omega),dq ⟨by omega,by omega⟩] at a;have:=(af.1 a).2;simpa using this
theorem R1 {f t:Nat}:∀(ks:List Nat) (bl:List (Nat × List UInt8)) {k:Nat},k∈ks->f<=k * 16->k * 16+16<=t->∀p∈ks.foldl (wp1 f t) bl,p.1≠k
 | [],_,k,h,_,_=>by simp at h
 | j::ks,bl,k,h,h1,h2=>by
  intro p a;rcases bq.1 h with rfl | h
  .obtain⟨q,b,e⟩:=P2 ks _ a;rw[<-e];exact Z5j h1 h2 q b
  .exact R1 ks _ h h1 h2 p a
theorem Z9e {size:Nat}{bl:List (Nat × List UInt8)}(h:Inv size bl)(n:Int):Inv (Ds size n) (Gs size bl n):=by
 unfold Ds Gs;by_cases c:G7 n=true
 .rw[dq c];by_cases a:n.toNat < size
  .rw[dq ⟨c,a⟩];intro p b;obtain⟨q,d,e⟩:=P2 _ _ b;apply Decidable.byContradiction;intro f;refine R1 (Fj bl) bl (k:=p.1) ?_ (by omega) ?_ p b rfl
   .rw[(Cg bl).mem_iff,<-e];exact bk.2 ⟨q,d,rfl⟩
   .have:=h q d;rw[e] at this;unfold G4;omega
  .rw[dp (λh=>a h.2)];intro p b;have:=h p b;omega
 .rw[dp c,dp (λh=>c h.1)];exact h
theorem Ue (bl:List (Nat × List UInt8))(k:Nat)(v:List UInt8)(j:Nat):Do (Gy bl k v) j=if j=k then v else Do bl j:=by unfold Do;rw[D0];split<;>rfl
theorem Z5o (bl:List (Nat × List UInt8))(k j:Nat):Do (Hq bl k) j=if j=k then List.replicate 16 0 else Do bl j:=by unfold Do;rw[Iz];split<;>rfl
theorem Ir (n i:Nat):(List.replicate n (0:UInt8)).getD i 0=0:=by rw[List.getD_eq_getElem?_getD,List.getElem?_replicate];split<;>rfl
theorem Hu (L:List UInt8)(o:Nat)(cs:List UInt8)(h:o+cs.length<=L.length)(j:Nat) :
  (splice L o cs).getD j 0=if o<=j/\j < o+cs.length then cs.getD (j - o) 0 else L.getD j 0:=by
 unfold splice;simp only[List.getD_eq_getElem?_getD];by_cases b:j < o
 .rw[dp (by omega),bu (by rw[bf];omega),br,dq b]
 .rw[bp (by rw[bf];omega),bf,show min o L.length=o by omega];by_cases a:j < o+cs.length
  .rw[dq ⟨by omega,a⟩,bu (by omega)]
  .rw[dp (by omega),bp (by omega),ce,show o+cs.length+(j - o - cs.length)=j by omega]
theorem X5 {bl:List (Nat × List UInt8)}(e:∀p∈bl,p.2.length=16)(a:Nat)(b:List UInt8)(i:Nat) :
  Cj (wr1 bl a b) i=if a<=i/\i < a+min b.length (16 - a % 16) then b.getD (i - a) 0 else Cj bl i:=by
 have f:=Fu e (a / 16);unfold Cj wr1;rw[Ue];by_cases c:i / 16=a / 16
 .rw[dq c,Hu _ _ _ (by rw[f,bf];omega),bf,c];by_cases d:a<=i/\i < a+min b.length (16 - a % 16)
  .rw[dq d,dq ⟨by omega,by omega⟩,List.getD_eq_getElem?_getD,br,dq (by omega),<-List.getD_eq_getElem?_getD,show i % 16 - a % 16=i - a by omega]
  .rw[dp d,dp (by omega)]
 .rw[dp c,dp (by omega)]
theorem Nb:∀(f:Nat) {bl:List (Nat × List UInt8)} (a:Nat) (b:List UInt8),(∀p∈bl,p.2.length=16)->b.length<=f->∀i,
  Cj (wrL f bl a b) i=if a<=i/\i < a+b.length then b.getD (i - a) 0 else Cj bl i
 | 0,bl,a,b,_,h,i=>by rw[dp (by omega)];rfl
 | f+1,bl,a,b,hf,h,i=>by
  rw[wrL];by_cases d:b.length=0
  .rw[dq d,dp (by omega)]
  .rw[dp d,Nb f _ _ (P1 hf a b) (by rw[bm];omega),bm,X5 hf];by_cases c:a<=i/\i < a+b.length
   .rw[dq c];by_cases e:i < a+min b.length (16 - a % 16)
    .rw[dp (by omega),dq ⟨c.1,e⟩]
    .rw[dq ⟨by omega,by omega⟩,List.getD_eq_getElem?_getD,ce,<-List.getD_eq_getElem?_getD,show 16 - a % 16+(i - (a+min b.length (16 - a % 16)))=i - a by omega]
   .rw[dp c,dp (by omega),dp (by omega)]
def Mw (bl:List (Nat × List UInt8))(k:Nat):Bool:=(Az bl k).isSome
theorem Z2u (bl:List (Nat × List UInt8))(a:Nat)(b:List UInt8)(k:Nat):Mw (wr1 bl a b) k=(decide (k=a / 16)||Mw bl k):=by unfold Mw wr1;rw[D0];by_cases h:k=a / 16<;>simp[h]
theorem Uf:∀(f:Nat) (bl:List (Nat × List UInt8)) (a:Nat) (b:List UInt8),b.length<=f->∀k,
  Mw (wrL f bl a b) k=(decide (0 < b.length/\a / 16<=k/\k<=(a+b.length - 1) / 16)||Mw bl k)
 | 0,bl,a,b,h,k=>by rw[decide_eq_false (by omega)];rfl
 | f+1,bl,a,b,h,k=>by
  rw[wrL];by_cases c:b.length=0
  .rw[dq c,decide_eq_false (by omega)];rfl
  .rw[dp c,Uf f _ _ _ (by rw[bm];omega),bm,Z2u,<-Bool.or_assoc,<-Bool.decide_or]
   congr 1
   rw[decide_eq_decide];omega
theorem Xp {bl:List (Nat × List UInt8)}(e:∀p∈bl,p.2.length=16)(k f t:Nat)(j:t<=16)(i:Nat) :
  Cj (zr1 bl k f t) i=if i / 16=k/\f<=i % 16/\i % 16 < t then 0 else Cj bl i:=by
 unfold zr1;cases hg:Az bl k with
 | none =>
  simp only;split
  .rename_i h
   unfold Cj Do;rw[h.1,hg];exact Ir _ _
  .rfl
 | some v =>
  have g:v.length=16:=e _ (Ee hg);simp only;by_cases d:t<=f
  .rw[dq d,dp (by omega)]
  .rw[dp d];by_cases c:f=0/\t=16
   .rw[dq c];unfold Cj;rw[Z5o];by_cases a:i / 16=k
    .rw[dq a,dq ⟨a,by omega,by omega⟩];exact Ir _ _
    .rw[dp a,dp (by omega)]
   .rw[dp c];unfold Cj;rw[Ue];by_cases a:i / 16=k
    .rw[dq a,Hu _ _ _ (by rw[List.length_replicate];omega),List.length_replicate,show f+(t - f)=t by omega];by_cases b:f<=i % 16/\i % 16 < t
     .rw[dq b,dq ⟨a,b⟩];exact Ir _ _
     .rw[dp b,dp (by omega),a];unfold Do;rw[hg];rfl
    .rw[dp a,dp (by omega)]
theorem Z4d (bl:List (Nat × List UInt8))(k f t:Nat)(b:f < t)(j:Nat):Mw (zr1 bl k f t) j=(Mw bl j&&!decide (j=k/\f=0/\t=16)):=by
 unfold zr1 Mw;cases hg:Az bl k with
 | none =>
  simp only;by_cases h:j=k
  .subst h;rw[hg];rfl
  .simp[h]
 | some v =>
  simp only;rw[dp (by omega)];split
  .rename_i h
   rw[Iz];by_cases a:j=k
   .simp[a,h]
   .simp[a]
  .rename_i h
   rw[D0];by_cases a:j=k
   .subst a;rw[hg];simp[h]
   .simp[a]
theorem Vq {bl:List (Nat × List UInt8)}(b:∀p∈bl,p.2.length=16)(f t k:Nat):∀p∈wp1 f t bl k,p.2.length=16:=by
 intro p a;unfold wp1 at a;split at a
 .unfold zr1 at a;cases hg:Az bl k with
  | none=>rw[hg] at a;exact b p a
  | some v =>
   rw[hg] at a;simp only at a;split at a
   .exact b p a
   .split at a
    .exact b p (af.1 a).1
    .rcases I5 a with a | rfl
     .exact b p a
     .have c:v.length=16:=b _ (Ee hg);show(splice _ _ _).length=16;rw[length_splice _ _ _ (by rw[List.length_replicate];omega),c]
 .exact b p a
theorem Xj {bl:List (Nat × List UInt8)}(a:∀p∈bl,p.2.length=16)(f t k i:Nat) :
  Cj (wp1 f t bl k) i=if i / 16=k/\f<=i/\i < t then 0 else Cj bl i:=by
 unfold wp1;split
 .rw[Xp a _ _ _ (by omega)];by_cases h:i / 16=k/\f<=i/\i < t
  .rw[dq h,dq (by omega)]
  .rw[dp h,dp (by omega)]
 .rw[dp (by omega)]
theorem Z64 (bl:List (Nat × List UInt8))(f t k j:Nat)(a:f < t):Mw (wp1 f t bl k) j=(Mw bl j&&!decide (j=k/\f<=j * 16/\j * 16+16<=t)):=by
 unfold wp1;split
 .rw[Z4d _ _ _ _ (by omega)]
  congr 2
  rw[decide_eq_decide];omega
 .rw[decide_eq_false (by omega)];simp
theorem Rv {f t:Nat}:∀(ks:List Nat) {bl:List (Nat × List UInt8)},(∀p∈bl,p.2.length=16)->∀p∈ks.foldl (wp1 f t) bl,p.2.length=16
 | [],_,h=>h
 | k::ks,_,h=>Rv ks (Vq h f t k)
theorem M7 {f t:Nat}:∀(ks:List Nat) {bl:List (Nat × List UInt8)},(∀p∈bl,p.2.length=16)->∀i,Cj (ks.foldl (wp1 f t) bl) i=if i / 16∈ks/\f<=i/\i < t then 0 else Cj bl i
 | [],bl,_,i=>by simp
 | k::ks,bl,h,i=>by
  rw[List.foldl_cons,M7 ks (Vq h f t k),Xj h];by_cases a:f<=i/\i < t
  .by_cases b:i / 16∈ks
   .rw[dq ⟨b,a⟩,dq ⟨List.mem_cons_of_mem _ b,a⟩]
   .rw[dp (λh=>b h.1)];by_cases c:i / 16=k
    .rw[dq ⟨c,a⟩,dq ⟨by rw[c];exact List.mem_cons_self,a⟩]
    .rw[dp (λh=>c h.1),dp (λh=>by rcases bq.1 h.1 with h | h<;>contradiction)]
  .rw[dp (λh=>a h.2),dp (λh=>a h.2),dp (λh=>a h.2)]
theorem Qe {f t:Nat}(b:f < t):∀(ks:List Nat) (bl:List (Nat × List UInt8)) (j:Nat),Mw (ks.foldl (wp1 f t) bl) j=(Mw bl j&&!decide (j∈ks/\f<=j * 16/\j * 16+16<=t))
 | [],bl,j=>by simp
 | k::ks,bl,j=>by
  rw[List.foldl_cons,Qe b ks,Z64 _ _ _ _ _ b,Bool.and_assoc,<-Bool.not_or,<-Bool.decide_or]
  congr 2
  rw[decide_eq_decide,bq];constructor
  .rintro(⟨a,h2⟩ | ⟨a,h2⟩)
   .exact⟨.inl a,h2⟩
   .exact⟨.inr a,h2⟩
  .rintro⟨a | a,h2⟩
   .exact .inl ⟨a,h2⟩
   .exact .inr ⟨a,h2⟩
theorem Eo (bl:List (Nat × List UInt8))(k:Nat):k∈Fj bl↔Mw bl k=true:=by
 rw[(Cg bl).mem_iff];unfold Mw;constructor
 .intro h;obtain⟨p,a,rfl⟩:=bk.1 h;rw[Option.isSome_iff_ne_none];intro b;exact Cy.1 b p a rfl
 .intro h;obtain⟨v,c⟩:=Option.isSome_iff_exists.1 h;exact bk.2 ⟨_,Ee c,rfl⟩
theorem Se {bl:List (Nat × List UInt8)}{i:Nat}(h:Mw bl (i / 16)=false):Cj bl i=0:=by unfold Mw at h;unfold Cj Do;rw[Option.isSome_eq_false_iff,Option.isNone_iff_eq_none] at h;rw[h];exact Ir _ _
theorem Sj {bl:List (Nat × List UInt8)}(b:∀p∈bl,p.2.length=16)(f t i:Nat):Cj (Mh bl f t) i=if f<=i/\i < t then 0 else Cj bl i:=by
 unfold Mh;rw[M7 _ b];by_cases h:f<=i/\i < t
 .rw[dq h];by_cases a:i / 16∈Fj bl
  .rw[dq ⟨a,h⟩]
  .rw[dp (λh=>a h.1)];exact Se (Bool.eq_false_iff.2 λd=>a ((Eo _ _).2 d))
 .rw[dp h,dp (λc=>h c.2)]
theorem Z0j (bl:List (Nat × List UInt8))(f t k:Nat)(a:f < t):Mw (Mh bl f t) k=(Mw bl k&&!decide (f<=k * 16/\k * 16+16<=t)):=by
 unfold Mh;rw[Qe a];cases hb:Mw bl k
 .rfl
 .rw[Bool.true_and,Bool.true_and]
  congr 1
  rw[decide_eq_decide];exact⟨λh=>h.2,λh=>⟨(Eo _ _).2 hb,h⟩⟩
theorem Nm {l m:List Nat}(c:l.Pairwise (· < ·))(d:m.Pairwise (· < ·))(h:∀x,x∈l↔x∈m):l=m:=by refine List.Perm.eq_of_pairwise (le:=λa b:Nat=>a < b) (λa b _ _ f e=>by omega) c d ?_;exact(List.perm_ext_iff_of_nodup (c.imp λh=>by omega) (d.imp λh=>by omega)).2 h
theorem Et {bl:List (Nat × List UInt8)}(e:(bl.map (·.1)).Nodup):(Fj bl).Pairwise (· < ·):=by have d:=Kn bl;have c:(Fj bl).Nodup:=(Cg bl).nodup_iff.2 e;exact d.imp₂ (λa b d c=>Nat.lt_of_le_of_ne d c) c
def O2 (k:Nat):List Nat->List Nat
 | []=>[k]
 | x::l=>if k<=x then k::(x::l).filter (·≠k) else x::O2 k l
theorem Ok (k x:Nat):∀l,x∈O2 k l↔x=k\/x∈l
 | []=>by simp[O2]
 | y::l=>by
  unfold O2;split
  .rw[bq,af];by_cases h:x=k<;>simp[h]
  .rw[bq,Ok k x l,bq];constructor
   .rintro(h | h | h)<;>simp[h]
   .rintro(h | h | h)<;>simp[h]
theorem M4 (k:Nat):∀{l:List Nat},l.Pairwise (· < ·)->(O2 k l).Pairwise (· < ·)
 | [],_=>by simp[O2]
 | y::l,h=>by
  obtain⟨c,d⟩:=List.pairwise_cons.1 h;unfold O2;split
  .rename_i hk
   refine List.pairwise_cons.2 ⟨λx a=>?_,h.filter _⟩;obtain⟨b,e⟩:=af.1 a;have f:x≠k:=by simpa using e
   rcases bq.1 b with rfl | b
   .omega
   .have:=c x b;omega
  .refine List.pairwise_cons.2 ⟨λx a=>?_,M4 k d⟩;rcases(Ok k x l).1 a with rfl | a
   .omega
   .exact c x a
def wst (k:Nat)(s:List Nat × Bool)(x:Nat):List Nat × Bool :=
 (s.1++(if s.2=false/\k<=x then [k] else [])++(if x=k then [] else [x]),s.2||decide (k<=x))
theorem W4 (k:Nat):∀(l out:List Nat),l.foldl (wst k) (out,true)=(out++l.filter (·≠k),true)
 | [],out=>by simp
 | x::l,out=>by
  rw[List.foldl_cons];show l.foldl (wst k) (out++(if true=false/\k<=x then [k] else [])++(if x=k then [] else [x]),true||decide (k<=x))=_;rw[dp (by simp),Bool.true_or,W4 k l];by_cases h:x=k
  .subst h;simp
  .simp[h]
def Z7k (k:Nat)(s:List Nat × Bool):List Nat:=if s.2=true then s.1 else s.1++[k]
theorem Rs (k:Nat):∀(l out:List Nat),Z7k k (l.foldl (wst k) (out,false))=out++O2 k l
 | [],out=>by simp[Z7k,O2]
 | x::l,out=>by
  rw[List.foldl_cons];by_cases h:k<=x
  .show Z7k k (l.foldl (wst k) (out++(if false=false/\k<=x then [k] else [])++(if x=k then [] else [x]),false||decide (k<=x)))=_;rw[dq ⟨rfl,h⟩,decide_eq_true h,Bool.or_true,W4,O2,dq h];unfold Z7k;rw[dq rfl,List.filter_cons];by_cases a:x=k<;>simp[a]
  .show Z7k k (l.foldl (wst k) (out++(if false=false/\k<=x then [k] else [])++(if x=k then [] else [x]),false||decide (k<=x)))=_;rw[dp (by omega),dp (by omega),decide_eq_false h,Bool.or_false,Rs k l,O2,dp h];simp
def Gz (a i:Nat):Bool:=decide (i=0\/(a+i) % 16=0)
def Fw (On:List Nat)(a n:Nat):List Nat:=(List.range n).foldl (λl i=>if Gz a i=true then O2 ((a+i) / 16) l else l) On
theorem Hc (On:List Nat)(a n:Nat):Fw On a (n+1)=if Gz a n=true then O2 ((a+n) / 16) (Fw On a n) else Fw On a n:=by unfold Fw;rw[List.range_succ,List.foldl_append];rfl
theorem Ge {On:List Nat}(h:On.Pairwise (· < ·))(a:Nat):∀n,(Fw On a n).Pairwise (· < ·)
 | 0=>h
 | n+1=>by
  rw[Hc];split
  .exact M4 _ (Ge h a n)
  .exact Ge h a n
theorem Md (On:List Nat)(a k:Nat):∀n,k∈Fw On a n↔(0 < n/\a / 16<=k/\k<=(a+n - 1) / 16)\/k∈On
 | 0=>by simp[Fw]
 | n+1=>by
  rw[Hc];unfold Gz;by_cases h:n=0\/(a+n) % 16=0
  .rw[dq (by simpa using h),Ok,Md On a k n,<-or_assoc];refine or_congr_left ?_;omega
  .rw[dp (by simpa using h),Md On a k n];refine or_congr_left ?_;omega
def Hz (B:List UInt8)(n:Nat):List UInt8:=B++List.replicate (n - B.length) 0
theorem Fl (B:List UInt8)(n:Nat):(Hz B n).length=max B.length n:=by simp[Hz];omega
theorem Jm (B:List UInt8)(n i:Nat):(Hz B n).getD i 0=B.getD i 0:=by
 unfold Hz;simp only[List.getD_eq_getElem?_getD];by_cases h:i < B.length
 .rw[bu h]
 .rw[bp (by omega),List.getElem?_replicate,cm (l:=B) (by omega)];split<;>rfl
def rwB (B:List UInt8)(a:Int)(b:List UInt8):List UInt8:=if D9 a b.length=true/\0 < b.length then splice (Hz B (a.toNat+b.length)) a.toNat b else B
def Z2j (On:List Nat)(a:Int)(n:Nat):List Nat:=if D9 a n=true then Fw On a.toNat n else On
def Gt (On:List Nat)(a:Int)(n:Nat):Nat:=if D9 a n=true then(List.range n).countP λi=>Gz a.toNat i&&!decide ((a.toNat+i) / 16∈On) else 0
def rcB (B:List UInt8)(n:Int):List UInt8:=if G7 n=true then(Hz B n.toNat).take n.toNat else B
def Un (B:List UInt8)(On:List Nat)(n:Int):List Nat:=if G7 n=true then On.filter (λk=>decide (16 * k < n.toNat\/B.length<=n.toNat)) else On
structure Kz (size:Nat)(bl:List (Nat × List UInt8))(B:List UInt8)(On:List Nat):Prop where
 len:B.length=size
 bytes:∀i,B.getD i 0=Cj bl i
 on:On=Fj bl
 inv:Inv size bl
 full:∀p∈bl,p.2.length=16
 nodup:(bl.map (·.1)).Nodup
theorem Z18:Kz 0 [] [] []:=⟨rfl,λi=>(Ir 16 (i % 16)).symm,by simp[Fj],by intro p a;simp at a,by intro p a;simp at a,by simp⟩
theorem Ru:∀(f:Nat) (bl:List (Nat × List UInt8)) (a:Nat) (b:List UInt8),(bl.map (·.1)).Nodup->((wrL f bl a b).map (·.1)).Nodup
 | 0,_,_,_,h=>h
 | f+1,bl,a,b,h=>by
  rw[wrL];split
  .exact h
  .exact Ru f _ _ _ (Rr h _ _)
theorem Z6 {bl:List (Nat × List UInt8)}(h:(bl.map (·.1)).Nodup)(f t k:Nat):((wp1 f t bl k).map (·.1)).Nodup:=by
 unfold wp1;split
 .unfold zr1;cases Az bl k with
  | none=>exact h
  | some v =>
   simp only;split
   .exact h
   .split
    .exact Z0w h _
    .exact Rr h _ _
 .exact h
theorem Nv {f t:Nat}:∀(ks:List Nat) {bl:List (Nat × List UInt8)},(bl.map (·.1)).Nodup->((ks.foldl (wp1 f t) bl).map (·.1)).Nodup
 | [],_,h=>h
 | k::ks,_,h=>Nv ks (Z6 h f t k)
theorem Uv:∀(f:Nat) {bl:List (Nat × List UInt8)} (a:Nat) (b:List UInt8),(∀p∈bl,p.2.length=16)->∀p∈wrL f bl a b,p.2.length=16
 | 0,_,_,_,h=>h
 | f+1,bl,a,b,h=>by
  rw[wrL];split
  .exact h
  .exact Uv f _ _ (P1 h a b)
theorem Nc {size:Nat}{bl:List (Nat × List UInt8)}{B:List UInt8}{On:List Nat}(h:Kz size bl B On)(a:Int)(b:List UInt8) :
  Kz (Ez size a b.length) (Ms bl a b) (rwB B a b) (Z2j On a b.length):=by
 have m:=Z0d h.inv a b;by_cases c:D9 a b.length=true
 .have e:((Ms bl a b).map (·.1)).Nodup:=by unfold Ms;rw[dq c];exact Ru _ _ _ _ h.nodup
  have f:∀p∈Ms bl a b,p.2.length=16:=by unfold Ms;rw[dq c];exact Uv _ _ _ h.full
  refine⟨?_,λi=>?_,?_,m,f,e⟩
  .unfold rwB Ez;by_cases d:0 < b.length
   .rw[dq ⟨c,d⟩,dq ⟨c,d⟩,length_splice _ _ _ (by rw[Fl];omega),Fl,h.len]
   .rw[dp (λh=>d h.2),dp (λh=>d h.2)];exact h.len
  .unfold rwB Ms;rw[dq c,Nb _ _ _ h.full (av _)];by_cases d:0 < b.length
   .rw[dq ⟨c,d⟩,Hu _ _ _ (by rw[Fl];omega),Jm,h.bytes]
   .rw[dp (λh=>d h.2),dp (by omega),h.bytes]
  .refine Nm ?_ (Et e) (λk=>?_)
   .unfold Z2j;rw[dq c];exact Ge (by rw[h.on];exact Et h.nodup) _ _
   .unfold Z2j;rw[dq c,Md,Eo];unfold Ms;rw[dq c,Uf _ _ _ _ (av _),h.on,Eo,Bool.or_eq_true,decide_eq_true_eq]
 .have n:Ez size a b.length=size:=by unfold Ez;rw[dp (λh=>c h.1)]
  have g:Ms bl a b=bl:=by unfold Ms;rw[dp c]
  have l:rwB B a b=B:=by unfold rwB;rw[dp (λh=>c h.1)]
  have j:Z2j On a b.length=On:=by unfold Z2j;rw[dp c]
  rw[n,g,l,j];exact h
theorem Qt {size:Nat}{bl:List (Nat × List UInt8)}{B:List UInt8}{On:List Nat}(h:Kz size bl B On)(a:Int)(n:Nat):Gt On a n=S1 bl a n:=by
 unfold Gt S1;by_cases c:D9 a n=true
 .rw[dq c];have key:∀m,(List.range m).countP (λi=>Gz a.toNat i&&!decide ((a.toNat+i) / 16∈On))=if 0 < m then Cn bl (a.toNat / 16) ((a.toNat+m - 1) / 16 - a.toNat / 16+1) else 0:=by
   intro m
   induction m with
   | zero=>rfl
   | succ m ih =>
    rw[List.range_succ,List.countP_append,ih,dq (Nat.succ_pos m)];have f:∀k,decide (k∈On)=(Az bl k).isSome:=λk=>by rw[Bool.eq_iff_iff,decide_eq_true_eq,h.on,Eo];rfl
    simp only[List.countP_cons,List.countP_nil,Nat.zero_add,f,Option.not_isSome];unfold Gz;rcases ak m with rfl | e
    .rw[dp (Nat.lt_irrefl 0),show(a.toNat+(0+1) - 1) / 16 - a.toNat / 16+1=0+1 by omega,Dc];simp[Cn]
    .rw[dq e];by_cases d:(a.toNat+m) % 16=0
     .rw[show(a.toNat+(m+1) - 1) / 16 - a.toNat / 16+1=(a.toNat+m - 1) / 16 - a.toNat / 16+1+1 by omega,Dc bl (a.toNat / 16) ((a.toNat+m - 1) / 16 - a.toNat / 16+1),
       show a.toNat / 16+((a.toNat+m - 1) / 16 - a.toNat / 16+1)=(a.toNat+m) / 16 by omega]
      simp[d]
     .rw[show(a.toNat+(m+1) - 1) / 16 - a.toNat / 16+1=(a.toNat+m - 1) / 16 - a.toNat / 16+1 by omega];simp[d,show ¬m=0 by omega]
  rw[key];by_cases b:0 < n
  .rw[dq b,dq ⟨c,b⟩]
  .rw[dp b,dp (λh=>b h.2)]
 .rw[dp c,dp (λh=>c h.1)]
theorem Nz {bl:List (Nat × List UInt8)}(h:(bl.map (·.1)).Nodup)(f t:Nat):((Mh bl f t).map (·.1)).Nodup:=Nv _ h
theorem Zm {bl:List (Nat × List UInt8)}(h:∀p∈bl,p.2.length=16)(f t:Nat):∀p∈Mh bl f t,p.2.length=16:=Rv _ h
theorem Yr {B:List UInt8}{i:Nat}(h:B.length<=i):B.getD i 0=0:=by rw[List.getD_eq_getElem?_getD,cm h];rfl
theorem Z9x {size:Nat}{bl:List (Nat × List UInt8)}(h:Inv size bl){k:Nat}(c:Mw bl k=true):k * 16 < size:=by obtain⟨v,a⟩:=Option.isSome_iff_exists.1 c;have b:(k,v)∈bl:=Ee a;exact h (k,v) b
set_option maxHeartbeats 1000000 in
theorem Z5n {size:Nat}{bl:List (Nat × List UInt8)}{B:List UInt8}{On:List Nat}(h:Kz size bl B On)(n:Int) :
  Kz (Ds size n) (Gs size bl n) (rcB B n) (Un B On n):=by
 have c:=Z9e h.inv n;by_cases a:G7 n=true
 .have es:Ds size n=n.toNat:=by unfold Ds;rw[dq a]
  rw[es] at c⊢;by_cases d:n.toNat < size
  .have e:Gs size bl n=Mh bl n.toNat (G4 size):=by unfold Gs;rw[dq ⟨a,d⟩]
   rw[e] at c⊢;refine⟨?_,λi=>?_,?_,c,Zm h.full _ _,Nz h.nodup _ _⟩
   .unfold rcB;rw[dq a,bf,Fl];omega
   .unfold rcB;rw[dq a,Sj h.full,<-h.bytes,List.getD_eq_getElem?_getD,br];by_cases b:i < n.toNat
    .rw[dq b,dp (by omega),<-List.getD_eq_getElem?_getD,Jm]
    .rw[dp b];by_cases f:i < G4 size
     .rw[dq ⟨by omega,f⟩];rfl
     .rw[dp (by omega),Yr (by rw[h.len];unfold G4 at f;omega)];rfl
   .refine Nm ?_ (Et (Nz h.nodup _ _)) (λk=>?_)
    .unfold Un;rw[dq a,h.on];exact(Et h.nodup).filter _
    .unfold Un;rw[dq a,af,Eo,Z0j _ _ _ _ (by unfold G4;omega),h.on,Eo,h.len];cases hb:Mw bl k
     .simp
     .have:=Z9x h.inv hb;simp only[true_and,decide_eq_true_eq,Bool.true_and,Bool.not_eq_true',decide_eq_false_iff_not];unfold G4;omega
  .have e:Gs size bl n=bl:=by unfold Gs;rw[dp (λh=>d h.2)]
   rw[e] at c⊢;refine⟨?_,λi=>?_,?_,c,h.full,h.nodup⟩
   .unfold rcB;rw[dq a,bf,Fl];have:=h.len;omega
   .unfold rcB;rw[dq a,<-h.bytes,List.getD_eq_getElem?_getD,br];by_cases b:i < n.toNat
    .rw[dq b,<-List.getD_eq_getElem?_getD,Jm]
    .rw[dp b,Yr (by rw[h.len];omega)];rfl
   .unfold Un;rw[dq a,<-h.on];exact List.filter_eq_self.2 λk _=>by simp;right;rw[h.len];omega
 .have m:Ds size n=size:=by unfold Ds;rw[dp a]
  have g:Gs size bl n=bl:=by unfold Gs;rw[dp (λh=>a h.1)]
  have l:rcB B n=B:=by unfold rcB;rw[dp a]
  have j:Un B On n=On:=by unfold Un;rw[dp a]
  rw[m,g,l,j];exact h
theorem Yj {size:Nat}{bl:List (Nat × List UInt8)}{B:List UInt8}{On:List Nat}(h:Kz size bl B On)(a n:Nat)(d:a+n<=size):Iw bl a n=(B.drop a).take n:=by
 apply cy;intro i;unfold Iw;rw[ay,br];by_cases b:i < n
 .have:=h.len;rw[cz b,dq b,ce,aq (by omega)];have c:=h.bytes (a+i);rw[List.getD_eq_getElem?_getD,aq (by omega)] at c;simp only[Option.map_some,Option.getD_some] at c⊢;rw[c]
 .rw[dp b,cm (by simp;omega)];rfl
theorem Er {size:Nat}{bl:List (Nat × List UInt8)}{B:List UInt8}{On:List Nat}(h:Kz size bl B On):On.length=bl.length:=by rw[h.on,(Cg bl).length_eq,ap]
def Ej (B:List UInt8)(a n:Int):List UInt8:=if N8 B.length a n=true then(B.drop a.toNat).take n.toNat else []
structure RIn where
 id:Int
 gen:Int
 kind:Int
 mode:Int
 time:Int
 parent:Int
 target:ByteArray
 B:List UInt8
 On:List Nat
structure RNm where
 dir:Int
 name:ByteArray
 id:Int
structure RFs where
 room:Int
 ins:List RIn
 nms:List RNm
 gens:List Int
structure RMk where
 kind:Int
 mode:Int
 time:Int
 target:ByteArray
def Jr:ByteArray:=⟨#[]⟩
def Mu:ByteArray:=⟨#[46]⟩
def dot2S:ByteArray:=⟨#[46,46]⟩
def Z71:RIn:=⟨0,0,0,0,0,0,Jr,[],[]⟩
def A3 (l:List RIn)(id:Int):RIn:=(l.find? λx=>decide (x.id=id)).getD Z71
def Aj (r:RFs)(h:Int × Int):Bool:=decide ((A3 r.ins h.1).id≠0/\(A3 r.ins h.1).gen=h.2)
def Bu (r:RFs)(h:Int × Int):Int:=if Aj r h=true then 0 else 175
def Ab (r:RFs)(h:Int × Int):Int:=if Aj r h=true then(if(A3 r.ins h.1).kind=2 then 0 else 173) else 175
def Ae (s:ByteArray):Bool:=decide (1<=s.size/\s.size<=60/\s≠Mu/\s≠dot2S)&&s.data.toList.all λc=>decide (c≠47/\c≠0)
def A2 (l:List RNm)(dir:Int)(name:ByteArray):Int:=((l.find? λn=>decide (n.dir=dir/\n.name=name)).map (·.id)).getD 0
def Aa (l:List RNm)(dir:Int):List (ByteArray × Int):=(l.filter λn=>decide (n.dir=dir)).map λn=>(n.name,n.id)
def Dz (l:List RNm)(dir:Int):Nat:=l.countP λn=>decide (n.dir=dir)
def A5 (r:RFs)(x:RIn):Nat :=
 if x.kind=2 then(r.nms.countP λn=>decide (n.dir=x.id/\(A3 r.ins n.id).kind=2))+2 else r.nms.countP λn=>decide (n.id=x.id)
def Aq (l:List Int)(id:Int):Int:=if 0<=id then l.getD id.toNat 0 else 0
def B2 (r:RFs)(h:Int × Int)(s:ByteArray)(free:Bool):Int :=
 if Ab r h≠0 then Ab r h else if free=true/\(s=Mu\/s=dot2S) then 0 else if Ae s=true then 0 else 176
structure Wf (r:RFs)(K:Nat):Prop where
 ids:(r.ins.map (·.id)).Nodup
 rng:∀x∈r.ins,1<=x.id/\x.id<=200
 gen:∀x∈r.ins,x.gen=Aq r.gens x.id/\1<=x.gen
 genK:∀g∈r.gens,0<=g/\g<=(K:Int)+1
 genL:r.gens.length<=201
 kind:∀x∈r.ins,x.kind=1\/x.kind=2\/x.kind=3
 root:∃x∈r.ins,x.id=1/\x.gen=1/\x.kind=2/\x.parent=1
 nmD:∀n∈r.nms,∃d∈r.ins,d.id=n.dir/\d.kind=2
 nmI:∀n∈r.nms,n.id≠1/\∃x∈r.ins,x.id=n.id
 nmV:∀n∈r.nms,Ae n.name=true
 uniq:r.nms.Pairwise λa b=>¬(a.dir=b.dir/\a.name=b.name)
 one:∀x∈r.ins,x.kind=2->x.id≠1->(r.nms.filter λn=>decide (n.id=x.id)).map (·.dir)=[x.parent]
 some:∀x∈r.ins,x.kind≠2->∃n∈r.nms,n.id=x.id
 par:∀x∈r.ins,x.kind=2->∃p∈r.ins,p.id=x.parent/\p.kind=2
 tree:∃ρ:Int->Nat,∀x∈r.ins,x.kind=2->x.id≠1->ρ x.parent < ρ x.id
 nmK:r.nms.length<=K
 lim:∀x∈r.ins,A5 r x<=20
 file:∀x∈r.ins,x.kind≠1->x.B=[]/\x.On=[]
 link:∀x∈r.ins,x.kind≠3->x.target=Jr
 rm:r.room<=9223372036854775807
 sp:(((r.ins.map λx=>x.On.length).sum:Nat):Int)<=r.room
section
variable {r:RFs} {K:Nat} {id:Int} {x:RIn}
theorem Cx {l:List RIn}(h:(A3 l id).id≠0):A3 l id∈l/\(A3 l id).id=id:=by
 unfold A3 at h⊢;cases hf:l.find? λx=>decide (x.id=id) with
 | none=>rw[hf] at h;exact dt rfl h
 | some y =>
  rw[Option.getD_some];exact⟨List.mem_of_find?_eq_some hf,by simpa using List.find?_some hf⟩
theorem Z6f {l:List RIn}(b:(l.map (·.id)).Nodup)(a:x∈l):A3 l x.id=x:=by
 unfold A3
 induction l with
 | nil=>simp at a
 | cons y l ih =>
  simp only[List.map_cons,List.nodup_cons] at b;rw[List.find?_cons];rcases bq.1 a with rfl | a
  .simp
  .have:y.id≠x.id:=λe=>b.1 (by rw[e];exact bk.2 ⟨x,a,rfl⟩);simp only[this,decide_false];exact ih b.2 a
theorem Jz {l:List RIn}(h:∀x∈l,x.id≠id):A3 l id=Z71:=by unfold A3;rw[List.find?_eq_none.2 (λx a=>by simpa using h x a)];rfl
theorem Wf.byId (h:Wf r K)(a:x∈r.ins):A3 r.ins x.id=x:=Z6f h.ids a
theorem Wf.ne0 (h:Wf r K)(a:x∈r.ins):x.id≠0:=by have:=h.rng x a;omega
theorem Wf.cnt (h:Wf r K):r.ins.length<=200:=by
 have b:=C1 (l:=r.ins.map (·.id)) (m:=(List.range 200).map λi=>((i:Nat):Int)+1) h.ids (λk a=>by obtain⟨x,c,rfl⟩:=bk.1 a;have:=h.rng x c;exact bk.2 ⟨(x.id - 1).toNat,by simp;omega,by simp;omega⟩)
 simpa using b
theorem Jn (l:List RNm)(dir:Int):(Aa l dir).length=Dz l dir:=by unfold Aa Dz;rw[ap,List.countP_eq_length_filter]
theorem N4 {l:List RNm}(dir:Int)(s:ByteArray):Az (Aa l dir) s=(l.find? λn=>decide (n.dir=dir/\n.name=s)).map (·.id):=by
 unfold Aa
 induction l with
 | nil=>rfl
 | cons n l ih =>
  rw[List.filter_cons,List.find?_cons];by_cases h:n.dir=dir
  .simp only[h,decide_true,if_true,List.map_cons,C6];by_cases a:n.name=s
   .simp[a]
   .simp only[a,if_false,and_false,decide_false];exact ih
  .simp only[h,decide_false,false_and];exact ih
theorem Rn {l:List RNm}(dir:Int)(s:ByteArray):(Az (Aa l dir) s).getD 0=A2 l dir s:=by rw[N4];rfl
theorem Wf.entry_some (h:Wf r K)(dir:Int)(s:ByteArray):(Az (Aa r.nms dir) s).isSome=decide (A2 r.nms dir s≠0):=by
 rw[N4];unfold A2;cases hf:r.nms.find? λn=>decide (n.dir=dir/\n.name=s) with
 | none=>simp
 | some n =>
  have b:=List.mem_of_find?_eq_some hf;obtain⟨_,y,a,e⟩:=h.nmI n b;have:=h.rng y a;simp;omega
theorem B4 {l:List RNm}{dir:Int}{s:ByteArray}(h:A2 l dir s≠0):∃n∈l,n.dir=dir/\n.name=s/\n.id=A2 l dir s:=by
 unfold A2 at h⊢;cases hf:l.find? λn=>decide (n.dir=dir/\n.name=s) with
 | none=>rw[hf] at h;exact dt rfl h
 | some n =>
  have:=List.find?_some hf;simp at this;exact⟨n,List.mem_of_find?_eq_some hf,this.1,this.2,rfl⟩
theorem Ac {hd:Int × Int}(d:Aj r hd=true):A3 r.ins hd.1∈r.ins/\(A3 r.ins hd.1).id=hd.1/\(A3 r.ins hd.1).gen=hd.2:=by obtain⟨c,b⟩:=of_decide_eq_true d;obtain⟨a,e⟩:=Cx c;exact⟨a,e,b⟩
end
end Go.Proofs.YtmmdikhljefeiaaGreat


import Derived.Test.YtmmdikhljefeiaaGreatFcM1
import Derived.Test.YtmmdikhljefeiaaGreatPKN
import Derived.Test.YtmmdikhljefeiaaGreatPKM
namespace Go.Proofs.YtmmdikhljefeiaaGreat
open Go.RowKit
set_option maxRecDepth 100000
abbrev tCl:Nat:=34
abbrev tPl:Nat:=96
abbrev noP:G:=.v (.pointer none)
def plT (x:Nat):Nat:=([0,0,3,0,0,0,0,1,1,0,0,0,1,2,0,0,0,1]:List Nat).getD x 0
def plG (p:G)(t:Nat):List G:=match t with
 | 1=>[noP,p,noP,gI 0]
 | 2=>[noP,noP,p,gI 0]
 | 3=>[p,noP,noP,gI 1]
 | _=>[p,noP,noP,gI 0]
def fdC (c:RCl)(x:Nat):RFd:=([wF c.client,wF c.number,⟨1,c.kind,eS⟩,wF c.h.1,wF c.h.2,wF c.g.1,wF c.g.2,tF c.name,tF c.other,wF c.m.kind,wF c.m.mode,wF c.m.time,tF c.m.target,⟨4,bI c.fo,eS⟩,wF c.pos,wF c.n,wF c.time,tF c.b]:List RFd).getD x ⟨0,0,eS⟩
theorem Jg {x:Nat}(h:x < 18):x=0\/x=1\/x=2\/x=3\/x=4\/x=5\/x=6\/x=7\/x=8\/x=9\/x=10\/x=11\/x=12\/x=13\/x=14\/x=15\/x=16\/x=17:=by omega
theorem Z0y (c:RCl)(x:Nat)(h:x < 18):FnO Tryz.prog 35 [.oag (plG (.ptr 0 x) (plT x))] [.blk (enC c) tCl] λg rs=>g=.agg (N1 (fdC c x))/\rs=[.blk (enC c) tCl]:=by
 rcases Jg h with rfl | rfl | rfl | rfl | rfl | rfl | rfl | rfl | rfl | rfl | rfl | rfl | rfl | rfl | rfl | rfl | rfl | rfl
 all_goals
  refine Zbn Tryz.func35 (Ea _ _) ?_
  try refine Md (c:=true) (by decide +kernel) ?_
  try refine Md (c:=false) (by decide +kernel) ?_
  first | exact⟨itL [(0,.blk (enC c) tCl)],_,⟨⟨⟨_,rfl,rfl,rfl⟩,trivial⟩,rfl,⟨_,rfl⟩,rfl,rfl,⟨rfl,rfl⟩⟩⟩ | refine⟨λh=>?_,λh=>?_⟩
 .exact⟨itL [(0,.blk (enC c) tCl)],_,⟨⟨⟨_,rfl,rfl,rfl⟩,trivial⟩,rfl,⟨_,rfl⟩,rfl,rfl,⟨by unfold fdC;rw[show bI c.fo=1 from by rw[show c.fo=true from h];rfl],rfl⟩⟩⟩
 .exact⟨itL [(0,.blk (enC c) tCl)],_,⟨⟨⟨_,rfl,rfl,rfl⟩,trivial⟩,rfl,⟨_,rfl⟩,rfl,rfl,⟨by unfold fdC;rw[show bI c.fo=0 from by rw[show c.fo=false from h];rfl],rfl⟩⟩⟩
def setC (c:RCl)(x:Nat)(f:RFd):RCl:=match x with
 | 0=>{c with client:=f.n}
 | 1=>{c with number:=f.n}
 | 2=>{c with kind:=f.n}
 | 3=>{c with h:=(f.n,c.h.2)}
 | 4=>{c with h:=(c.h.1,f.n)}
 | 5=>{c with g:=(f.n,c.g.2)}
 | 6=>{c with g:=(c.g.1,f.n)}
 | 7=>{c with name:=f.s}
 | 8=>{c with other:=f.s}
 | 9=>{c with m:={c.m with kind:=f.n}}
 | 10=>{c with m:={c.m with mode:=f.n}}
 | 11=>{c with m:={c.m with time:=f.n}}
 | 12=>{c with m:={c.m with target:=f.s}}
 | 13=>{c with fo:=decide (f.n=1)}
 | 14=>{c with pos:=f.n}
 | 15=>{c with n:=f.n}
 | 16=>{c with time:=f.n}
 | _=>{c with b:=f.s}
theorem Zd6 (c:RCl)(x:Nat)(h:x < 18)(f:RFd):FnO Tryz.prog 41 [.oag (plG (.ptr 0 x) (plT x)),.agg (N1 f)] [.blk (enC c) tCl] λg rs=>g=.tup []/\rs=[.blk (enC (setC c x f)) tCl]:=by
 rcases Jg h with rfl | rfl | rfl | rfl | rfl | rfl | rfl | rfl | rfl | rfl | rfl | rfl | rfl | rfl | rfl | rfl | rfl | rfl
 all_goals
  refine Zbn Tryz.func41 (Ea _ _) ?_;exact⟨itL [(0,.blk (enC (setC c _ f)) tCl)],.tup [],⟨⟨⟨_,rfl,rfl,rfl⟩,trivial⟩,rfl,⟨_,rfl⟩,rfl,rfl,⟨rfl,rfl⟩⟩⟩
def Eg (k:Int):List Nat :=
 [0,1,2,3,4]++((if k=2\/k=4 then [5,6] else [])++((if k=1\/k=2\/k=3\/k=4\/k=7 then [7] else [])++((if k=4 then [8] else [])++((if k=1 then [9,10,11,12] else [])++((if k=3 then [13] else [])++((if k=5\/k=8 then [14] else [])++((if k=6\/k=8 then [15] else [])++((if k=5\/k=6 then [16] else [])++(if k=5 then [17] else [])))))))))
theorem Hz (c:RCl):Fu c=(Eg c.kind).map (fdC c):=by unfold Fu Eg;simp only[List.map_append,apply_ite (List.map (fdC c))];rfl
def N5:List Int:=[2,2,1]
def kdP (x:Nat):Int:=([2,2,1,2,2,2,2,3,3,2,2,2,3,4,2,2,2,3]:List Int).getD x 0
theorem Us (c:RCl){x:Nat}(h:x < 18):(fdC c x).kind=kdP x:=by rcases Jg h with rfl | rfl | rfl | rfl | rfl | rfl | rfl | rfl | rfl | rfl | rfl | rfl | rfl | rfl | rfl | rfl | rfl | rfl<;>rfl
def c00:RCl:=⟨0,0,0,(0,0),(0,0),eS,eS,mk0,false,0,0,0,eS⟩
def kC0 (k:Int):RCl:={c00 with kind:=k}
def F0 (c:RCl):List Nat->List RFd->RCl
 | x::xs,f::fs=>F0 (setC c x f) xs fs
 | _,_=>c
def ksC (k:Int):List Int:=(Eg k).map kdP
def hdK (b:Bs):Int:=match(Ay N5 b).l with
 | [_,_,f]=>f.n
 | _=>0
def okH (b:Bs):Prop:=(Ay N5 b).e=0/\1<=hdK b/\hdK b<=11
def reC (b:Bs):RCl:=F0 (kC0 (hdK b)) (Eg (hdK b)) (Hr (ksC (hdK b)) b).l
def okR (b:Bs):Prop:=okH b/\(Hr (ksC (hdK b)) b).e=0/\b.length<=200/\okC (reC b)
open Classical in
noncomputable def dC (b:Bs):RCl:=if okR b then reC b else c00
open Classical in
noncomputable def edC (b:Bs):Int:=if okR b then 0 else 180
theorem Z6y (c:RCl)(f:RFd){x:Nat}(g:x < 18)(a:f.kind=kdP x)(b:fdE f=0):fdC (setC c x f) x=f:=by
 rcases Jg g with rfl | rfl | rfl | rfl | rfl | rfl | rfl | rfl | rfl | rfl | rfl | rfl | rfl | rfl | rfl | rfl | rfl | rfl
 case inr.inr.inr.inr.inr.inr.inr.inr.inr.inr.inr.inr.inr.inl =>
  have a:f.kind=4:=a;have e:=Zae b a (by omega);rcases Lx b with⟨h,-⟩ | ⟨h,-,hn⟩
  .omega
  .have:f.n=0\/f.n=1:=by omega
   show(⟨4,bI (decide (f.n=1)),eS⟩:RFd)=f;have d:bI (decide (f.n=1))=f.n:=by rcases this with h | h<;>rw[h]<;>rfl
   rw[d,e]
 all_goals first | exact Zae b a (by decide) | exact Zaw b a
theorem Yp (c:RCl)(f:RFd){x y:Nat}(a:x < 18)(b:y < 18)(h:y≠x):fdC (setC c x f) y=fdC c y:=by rcases Jg a with rfl | rfl | rfl | rfl | rfl | rfl | rfl | rfl | rfl | rfl | rfl | rfl | rfl | rfl | rfl | rfl | rfl | rfl<;>rcases Jg b with rfl | rfl | rfl | rfl | rfl | rfl | rfl | rfl | rfl | rfl | rfl | rfl | rfl | rfl | rfl | rfl | rfl | rfl<;>first | rfl | exact dq rfl h
theorem Mz {y:Nat}(b:y < 18):∀{xs:List Nat} {d:List RFd} {c:RCl},(∀x∈xs,x < 18)->y ∉ xs->fdC (F0 c xs d) y=fdC c y
 | [],_,_,_,_=>by unfold F0;rfl
 | x::xs,[],_,_,_=>by unfold F0;rfl
 | x::xs,f::d,c,h,hn=>by unfold F0;rw[Mz b (λz a=>h z (List.mem_cons_of_mem _ a)) (λa=>hn (List.mem_cons_of_mem _ a)),Yp c f (h x List.mem_cons_self) b (λe=>hn (by rw[e];exact List.mem_cons_self))]
theorem Un:∀{xs:List Nat} {a:List RFd} {c:RCl},xs.Nodup->(∀x∈xs,x < 18)->a.map RFd.kind=xs.map kdP->(∀f∈a,fdE f=0)->xs.map (fdC (F0 c xs a))=a
 | [],a,_,_,_,h,_=>by
  have:a=[]:=by simpa using h
  rw[this];rfl
 | x::xs,[],_,_,_,h,_=>by cases h
 | x::xs,f::a,c,hn,hl,hk,h0=>by rw[cu,cu,List.cons.injEq] at hk;have d:=hl x List.mem_cons_self;rw[List.nodup_cons] at hn;unfold F0;rw[cu,Un hn.2 (λz b=>hl z (List.mem_cons_of_mem _ b)) hk.2 λz b=>h0 z (List.mem_cons_of_mem _ b),Mz d (λz b=>hl z (List.mem_cons_of_mem _ b)) hn.1,Z6y c f d hk.1 (h0 f List.mem_cons_self)]
theorem O0 {k:Int}(h:1<=k/\k<=11):(Eg k).Nodup/\(∀x∈Eg k,x < 18)/\(Eg k).take 5=[0,1,2,3,4]:=by rcases Er h with rfl | rfl | rfl | rfl | rfl | rfl | rfl | rfl | rfl | rfl | rfl<;>decide +kernel
theorem Z7w (k:Int):∃l,Eg k=0::1::2::l:=⟨_,rfl⟩
theorem Z9r (k:Int):∃l,ksC k=N5++l:=⟨_,rfl⟩
theorem Oc {b:Bs}(h:okH b)(D:(Hr (ksC (hdK b)) b).e=0):Fu (reC b)=(Hr (ksC (hdK b)) b).l/\(reC b).kind=hdK b/\Jl (Fu (reC b))=0/\Fp (Fu (reC b))=b:=by
 obtain⟨j,u,o⟩:=Sq D;obtain⟨g,r,B⟩:=T9 _ _ j;obtain⟨C,w,-⟩:=O0 h.2;have k:=Un (c:=kC0 (hdK b)) C w B (I8 g);rw[<-o] at k g r;have q:(reC b).kind=hdK b:=by
  obtain⟨ks,f⟩:=Z9r (hdK b);have ha:=Uy N5 ks b h.1;rw[<-f] at ha;have v:∃m,(Ay (ksC (hdK b)) b).l=(Ay N5 b).l++m:=by
   rw[ha];split
   .next d =>
    rw[ha,dp d] at j;exact dq j d
   .exact⟨_,rfl⟩
  obtain⟨m,A⟩:=v;have s:=(Hs N5 b).2 h.1;obtain⟨p,t⟩:=Z7w (hdK b);have a:(Ay (ksC (hdK b)) b).l=(Eg (hdK b)).map (fdC (reC b)):=by rw[<-o];exact k.symm
  rw[t,A] at a;unfold hdK;generalize (Ay N5 b).l=l at s a⊢
  match l,s,a with
  | [x,y,z],_,a =>
   have a:x::y::z::m=fdC (reC b) 0::fdC (reC b) 1::fdC (reC b) 2::p.map (fdC (reC b)):=a;simp only[List.cons.injEq] at a;show _=z.n;rw[a.2.2.1];rfl
 have i:Fu (reC b)=(Hr (ksC (hdK b)) b).l:=by rw[Hz,q];exact k
 refine⟨i,q,by rw[i];exact g,?_⟩;rw[i,r,o,u,List.take_length]
theorem Z7f {b:Bs}(h:okH b)(c:(Hr (ksC (hdK b)) b).e=0):okW (reC b)↔okR b:=by obtain⟨g,i,f,d⟩:=Oc h c;unfold okW okR;rw[d];exact⟨λa=>⟨h,c,a.2.2,a.1⟩,λa=>⟨a.2.2.2,f,a.2.2.1⟩⟩
theorem Zdc {b:Bs}(h:okR b):okW (dC b)/\bC (dC b)=b:=by have a:=(Z7f h.1 h.2.1).2 h;have e:dC b=reC b:=dp h;rw[e];exact⟨a,by unfold bC;rw[dp a];exact(Oc h.1 h.2.1).2.2.2⟩
theorem Z1m (c:RCl)(h:1<=c.kind/\c.kind<=11):F0 (kC0 c.kind) (Eg c.kind) (Fu c)=R1 c:=by obtain⟨client,number,kind,a,g,name,other,m,fo,pos,n,time,b⟩:=c;dsimp only at h;rcases Er h with rfl | rfl | rfl | rfl | rfl | rfl | rfl | rfl | rfl | rfl | rfl<;>first | rfl | (cases fo<;>rfl)
theorem Qf (c:RCl)(h:1<=c.kind/\c.kind<=11):(Fu c).map RFd.kind=ksC c.kind:=by rw[Hz,List.map_map];exact List.map_congr_left λx a=>Us c ((O0 h).2.1 x a)
theorem Z88 {c:RCl}(h:okW c):okR (bC c)/\dC (bC c)=c:=by
 have hr:1<=c.kind/\c.kind<=11:=h.1.1.2.2.2.2;have b:bC c=Fp (Fu c):=dp h;have hd:∃m,Fu c=[wF c.client,wF c.number,⟨1,c.kind,eS⟩]++m:=⟨_,rfl⟩;obtain⟨m,d⟩:=hd;have e:=h.2.1;rw[d] at e;have g:Ay N5 (bC c)=⟨0,[wF c.client,wF c.number,⟨1,c.kind,eS⟩],(Fp [wF c.client,wF c.number,⟨1,c.kind,eS⟩]).length⟩:=by rw[b,d,Z1k];exact Rt [wF c.client,wF c.number,⟨1,c.kind,eS⟩] _ (Zx e)
 have a:hdK (bC c)=c.kind:=by unfold hdK;rw[g]
 have eD:Hr (ksC (hdK (bC c))) (bC c)=⟨0,Fu c,(Fp (Fu c)).length⟩:=by rw[a,b,<-Qf c hr];exact Z3l h.2.1
 have hH:okH (bC c):=⟨by rw[g],by rw[a];exact hr⟩;have f:reC (bC c)=c:=by unfold reC;rw[eD,a];exact(Z1m c hr).trans h.1.2.symm
 have ok:okR (bC c):=⟨hH,by rw[eD],by rw[b];exact h.2.2,by rw[f];exact h.1⟩;exact⟨ok,by unfold dC;rw[dp ok,f]⟩
theorem Z0q {b:Bs}(h:okH b)(c:(Hr (ksC (hdK b)) b).e=0):okR b↔okW (reC b)/\bC (reC b)=b:=by rw[<-Z7f h c];exact⟨λa=>⟨a,by unfold bC;rw[dp a];exact(Oc h c).2.2.2⟩,λa=>a.1⟩
abbrev adV (b x:Nat):G:=.v (.pointer (some ⟨b,x,none⟩))
def plR (b x:Nat):List G:=plG (adV b x) (plT x)
def grC:List (Int × List Nat):=[(1,[3,4]),(2,[5,6]),(4,[7]),(8,[8]),(16,[9,10,11,12]),(32,[13]),(64,[14]),(128,[15]),(256,[16]),(512,[17])]
def grR (b:Nat)(p:Int × List Nat):List G:=[gI p.1,.sl (p.2.map (plR b))]
def Z8z (k u:Int):Bool:=IntKind.i64.wrap ((BitVec.ofInt 64 (Z9k k) &&& BitVec.ofInt 64 u).toNat:Nat) != 0
def PL (k:Int)(i:Nat):List Nat:=[0,1,2]++(grC.take i).flatMap λp=>if Z8z k p.1=true then p.2 else []
theorem Uh {k:Int}(h:1<=k/\k<=11):PL k 10=Eg k:=by rcases Er h with rfl | rfl | rfl | rfl | rfl | rfl | rfl | rfl | rfl | rfl | rfl<;>decide +kernel
theorem Z7q {k:Int}{i:Nat}{p:Int × List Nat}(a:grC[i]?=some p):PL k (i+1)=PL k i++if Z8z k p.1=true then p.2 else []:=by unfold PL;rw[Bu a,List.flatMap_append,ce];simp
theorem Qb (k:Int)(i:Nat):(PL k i).length<=18:=by
 have e:∀(l:List (Int × List Nat)),(l.flatMap λp=>if Z8z k p.1=true then p.2 else []).length<=(l.flatMap λp=>p.2).length:=λl=>by
  induction l with
  | nil=>exact au _
  | cons p l ih =>
   rw[List.flatMap_cons,List.flatMap_cons,bf,bf];split
   .omega
   .have:([]:List Nat).length=0:=rfl;omega
 have a:((grC.take i).flatMap λp=>p.2).length<=(grC.flatMap λp=>p.2).length:=by
  conv=>rhs;rw[<-de i grC,List.flatMap_append,bf]
  omega
 have:=e (grC.take i);have b:(grC.flatMap λp=>p.2).length=15:=by decide
 unfold PL;rw[bf];show 3+_<=18;omega
theorem Z3b (b:Nat)(l:List Nat):∀r∈l.map (plR b),r.length=4/\r.all G.one=true:=λr hr=>by obtain⟨x,-,rfl⟩:=bi.1 hr;unfold plR plG;split<;>exact⟨rfl,rfl⟩
theorem Tz (c:RCl)(h:1<=c.kind/\c.kind<=11):FnO Tryz.prog 34 [.ptr 0 0] [.blk (enC c) tCl] λg rs=>∃b,g=.osl 1/\rs=[.blk (enC c) tCl,.slc ((Eg c.kind).map (plR b)) tPl 4,.adr 0 b]:=by
 refine Z3e Tryz.func34 (Ea _ _) ?_;refine dv (.adr 0 _ rfl λb=>.done (.same ((Z5n c.kind h).toO.cal λq rs m=>?_)));obtain⟨rfl,rfl⟩:=m;refine .done ?_
 repeat refine⟨_,λn r=>(by first | exact rfl | exact⟨_,_,_,⟨rfl,rfl⟩,rfl,rfl⟩),?_⟩
 refine Dt [3] [0,2] (λi:Nat=>[(115,gI i),(4,.osl 3),(113,.sl (grC.map (grR b))),(114,gI 10)]) (λi=>[(3,.slc ((PL c.kind i).map (plR b)) tPl 4)]) (λi=>i<=10) (λi=>10 - i) 0 (by omega) ⟨⟨rfl,rfl⟩,⟨rfl,rfl⟩,⟨rfl,rfl⟩,⟨rfl,rfl⟩,trivial⟩ ⟨RL1,trivial⟩ rfl λi f=>?_;refine du (λd=>?_) (λd=>?_)
 .refine EvIdx.of (by show i < 10;have h:(i:Int) < 10:=d;omega) λp l=>?_;have e:=Z7q (k:=c.kind) l;have o:=Qb c.kind i;have f:=Ek l;have f:i < 10:=f;refine dy (λa=>?_) λa=>?_
  .have a:Z8z c.kind p.1=true:=a;rw[dp a] at e;refine⟨Z3b b _,?_⟩;have j:=Qb c.kind (i+1);rw[e,bf] at j;refine⟨by rw[ao,ao];omega,?_⟩;refine⟨by omega,i+1,by omega,(by dsimp only;omega),?_⟩;refine⟨?_,?_,rfl⟩<;>repeat' (first|exact trivial|with_reducible rfl|exact rfl|refine And.intro ?_ ?_)
   exact eqR (by rw[e,az])
  .have a:Z8z c.kind p.1=false:=a;rw[a,dn (by decide),dj] at e;refine⟨by omega,i+1,by omega,(by dsimp only;omega),?_⟩;refine⟨?_,?_,rfl⟩<;>repeat' (first|exact trivial|with_reducible rfl|exact rfl|refine And.intro ?_ ?_)
   exact eqR (by rw[e])
 .have f:i=10:=by simp at d;omega
  subst f;exact .inl ⟨[⟨[(0,.blk (enC c) tCl)],[(0,0)],false⟩,⟨[(0,.slc ((PL c.kind 10).map (plR b)) tPl 4)],[(0,3)],false⟩,⟨[(0,.adr 0 b)],[(0,2)],false⟩],.osl 1,⟨⟨⟨_,rfl,rfl,rfl⟩,⟨_,rfl,rfl,rfl⟩,⟨_,rfl,rfl,rfl⟩,trivial⟩,rfl,⟨_,rfl⟩,rfl,rfl,⟨b,rfl,by rw[Uh h];rfl⟩⟩⟩
theorem Lw (b k x:Nat):(plR b x=[noP,adV b x,noP,gI 0]/\plG (.ptr k x) (plT x)=[noP,.ptr k x,noP,gI 0])\/(plR b x=[noP,noP,adV b x,gI 0]/\plG (.ptr k x) (plT x)=[noP,noP,.ptr k x,gI 0])\/(plR b x=[adV b x,noP,noP,gI 1]/\plG (.ptr k x) (plT x)=[.ptr k x,noP,noP,gI 1])\/(plR b x=[adV b x,noP,noP,gI 0]/\plG (.ptr k x) (plT x)=[.ptr k x,noP,noP,gI 0]):=by
 unfold plR plG;split
 .exact .inl ⟨rfl,rfl⟩
 .exact .inr (.inl ⟨rfl,rfl⟩)
 .exact .inr (.inr (.inl ⟨rfl,rfl⟩))
 .exact .inr (.inr (.inr ⟨rfl,rfl⟩))
noncomputable def wrC (c:RCl):G:=.tup [.v (.string ⟨(bC c).toArray⟩),gI (eC c)]
theorem J4 {c:RCl}(h:¬okW c):G.tup [.v (.string ⟨#[]⟩),gI 180]=wrC c:=by unfold wrC bC eC;rw[dn h,dn h]
theorem L7 (c:RCl):FnV Tryz.prog 10 [.agg (enC c)] λg=>g=wrC c:=by
 refine fnG Tryz.func10 ?_;refine(Ou c).cal λq d=>?_;subst d;refine dy (λf=>?_) λf=>?_
 .have f:okB c=false:=by simpa using f
  exact J4 λh=>Hx.1 f h.1
 have f:okB c=true:=by simpa using f
 have l:=Hj.1 f;have hr:=l.1.2.2.2.2;refine dv (.done (.same ((Tz c hr).cal λq rs d=>?_)));obtain⟨b,rfl,rfl⟩:=d;refine .done ?_;refine Dt [12,13] [0,2,3] (λi:Nat=>[(14,gI i),(4,.osl 1)]) (λi=>[(1,.slc ((((Eg c.kind).take i).map (fdC c)).map N1) tFd 3)]) (λi=>i<=(Eg c.kind).length) (λi=>(Eg c.kind).length - i) 0 (av _) ⟨⟨rfl,rfl⟩,⟨rfl,rfl⟩,trivial⟩ ⟨RL1,trivial⟩ rfl λi s=>?_;have r:=(O0 hr).2.1;have k:(Eg c.kind).length<=18:=by rw[<-Uh hr];exact Qb _ _
 refine du (λa=>?_) (λa=>?_)
 .have a:i < (Eg c.kind).length:=by simpa using a
  obtain⟨x,o⟩:∃x,(Eg c.kind)[i]?=some x:=⟨_,ap a⟩;refine⟨⟨by omega,by rw[ao];omega⟩,dz o ?_⟩;have n:=Z0y c x (r x (ar o));have u:(((Eg c.kind).take i).map (fdC c)).map N1++[N1 (fdC c x)]=(((Eg c.kind).take (i+1)).map (fdC c)).map N1:=by rw[Bu o,az,az];rfl
  rcases Lw b 0 x with⟨m,e2⟩ | ⟨m,e2⟩ | ⟨m,e2⟩ | ⟨m,e2⟩
  all_goals
   rw[m];rw[e2] at n
  all_goals
   first
   | refine dv (.done (.rawA (p:=[noP]) 3 0 rfl (.same (n.cal ?_))))
   | refine dv (.done (.rawA (p:=[noP,noP]) 3 0 rfl (.same (n.cal ?_))))
   | refine dv (.done (.rawA (p:=[]) 3 0 rfl (.same (n.cal ?_))))
   intro q rs d;obtain⟨rfl,rfl⟩:=d;refine .done ?_;refine⟨by simp;omega,⟨by omega,i+1,by omega,(by dsimp only;omega),?_⟩⟩;refine⟨?_,?_,rfl⟩<;>repeat' (first|exact trivial|with_reducible rfl|exact rfl|refine And.intro ?_ ?_)
   exact eqR u
 .have s:i=(Eg c.kind).length:=by simp at a;omega
  subst s;rw[List.take_length,<-Hz];have w:(Fu c).length<=18:=by rw[Hz,ao];exact k
  refine(Z3a (Fu c) (by omega)).cal λq rs d=>?_;obtain⟨rfl,rfl⟩:=d;refine dx (fun(j:Jl (Fu c)≠0)=>J4 λh=>j h.2.1) λj=>?_;have j:Jl (Fu c)=0:=j;have v:Z60 (Fu c)=Fp (Fu c):=dp j;rw[v];refine du (λe=>J4 λh=>?_) λe=>?_
  .have:=h.2.2;have e:(((Fp (Fu c)).map gBy).length:Int) > 200:=e;rw[ao] at e;omega
  .have e:¬(((Fp (Fu c)).map gBy).length:Int) > 200:=e;rw[ao] at e;have t:okW c:=⟨l,j,by omega⟩;refine⟨_,rfl,?_⟩;unfold wrC bC eC;rw[dp t,dp t];exact rfl
noncomputable def rdC (b:Bs):G:=.tup [.agg (enC (dC b)),gI (edC b)]
theorem E5 {b:Bs}(h:¬okR b):G.tup [.agg (enC c00),gI 180]=rdC b:=by unfold rdC dC edC;rw[dn h,dn h]
theorem Pe:∀{xs:List Nat} {a:List RFd} {c:RCl} {x:Nat} {f:RFd},xs.length=a.length->F0 c (xs++[x]) (a++[f])=setC (F0 c xs a) x f
 | [],[],_,_,_,_=>rfl
 | y::xs,g::a,c,x,f,h=>by show F0 (setC c y g) (xs++[x]) (a++[f])=setC (F0 (setC c y g) xs a) x f;exact Pe (by simpa using h)
 | [],_::_,_,_,_,h=>by cases h
 | _::_,[],_,_,_,h=>by cases h
theorem Z54 {b:Bs}(h:(Ay N5 b).e=0):∃x y z,(Ay N5 b).l=[x,y,z]/\hdK b=z.n:=by
 have a:=(Hs N5 b).2 h;unfold hdK;generalize (Ay N5 b).l=l at a⊢
 match l,a with
 | [x,y,z],_=>exact⟨x,y,z,rfl,rfl⟩
theorem Lr (s:ByteArray)(S:s.size<=2000000):FnV Tryz.prog 13 [gS s] λg=>g=rdC s.data.toList:=by
 refine fnG Tryz.func13 ?_;have O:s.data.toList.length=s.size:=rfl;refine(Z5b N5 s.data.toList (by decide) (by omega)).cal λq d=>?_;subst d;unfold smG;refine dx (fun(y:(Ay N5 s.data.toList).e≠0)=>E5 λh=>y h.1.1) λy=>?_;have y:(Ay N5 s.data.toList).e=0:=y;obtain⟨U,V,a,M,w⟩:=Z54 y;have r:(Ay N5 s.data.toList).l[2]?=some a:=by rw[M];rfl
 refine dz r (du (λE=>E5 λh=>?_) λE=>?_)
 .have:=h.1.2.1;rw[w] at this;have E:a.n < 1:=E;omega
 refine dz r (du (λz=>E5 λh=>?_) λz=>?_)
 .have:=h.1.2.2;rw[w] at this;have z:a.n > 11:=z;omega
 have E:¬a.n < 1:=E;have z:¬a.n > 11:=z;refine du (λB=>E5 λh=>?_) λB=>?_
 .have:=h.2.2.1;have B:(s.size:Int) > 200:=B;omega
 have B:¬(s.size:Int) > 200:=B;refine dz r ?_;have hr:1<=a.n/\a.n<=11:=by omega
 have R:FnO Tryz.prog 34 [.ptr 0 0] [.blk (enC (kC0 a.n)) tCl] λg rs=>∃b,g=.osl 1/\rs=[.blk (enC (kC0 a.n)) tCl,.slc ((Eg a.n).map (plR b)) tPl 4,.adr 0 b]:=Tz (kC0 a.n) hr;have F:=(O0 hr).2.1;have J:(Eg a.n).length<=18:=by have:=Qb a.n 10;rw[Uh hr] at this;exact this
 refine dv (.seen 2 _ _ rfl (.done (.same (R.cal λq rs d=>?_))));obtain⟨b,rfl,rfl⟩:=d;refine .done ?_;refine Dt [0,2,3,6,7,8,51,52] [0,2,3,4] (λi:Nat=>[(53,gI i),(9,.osl 5)]) (λi=>[(5,.slc ((((Eg a.n).take i).map kdP).map gNi) 3 1)]) (λi=>i<=(Eg a.n).length) (λi=>(Eg a.n).length - i) 0 (av _) ⟨⟨rfl,rfl⟩,⟨rfl,rfl⟩,trivial⟩ ⟨RL1,trivial⟩ rfl λi D=>?_;refine du (λc=>?_) (λc=>?_)
 .have c:i < (Eg a.n).length:=by simpa using c
  obtain⟨x,t⟩:∃x,(Eg a.n)[i]?=some x:=⟨_,ap c⟩;refine⟨⟨by omega,by rw[ao];omega⟩,dz t ?_⟩;have k:=F x (ar t);have j:=Z0y (kC0 a.n) x k;have H:(((Eg a.n).take i).map kdP).map gNi++[gNi (fdC (kC0 a.n) x).kind]=(((Eg a.n).take (i+1)).map kdP).map gNi:=by rw[Bu t,az,az,Us _ k];rfl
  rcases Lw b 0 x with⟨m,e2⟩ | ⟨m,e2⟩ | ⟨m,e2⟩ | ⟨m,e2⟩
  all_goals
   rw[m];rw[e2] at j
  all_goals
   first
   | refine dv (.done (.rawA (p:=[noP]) 4 2 rfl (.same (j.cal ?_))))
   | refine dv (.done (.rawA (p:=[noP,noP]) 4 2 rfl (.same (j.cal ?_))))
   | refine dv (.done (.rawA (p:=[]) 4 2 rfl (.same (j.cal ?_))))
   intro q rs d;obtain⟨rfl,rfl⟩:=d;refine .done ?_;refine⟨by simp;omega,⟨by omega,i+1,by omega,(by dsimp only;omega),?_⟩⟩;refine⟨?_,?_,rfl⟩<;>repeat' (first|exact trivial|with_reducible rfl|exact rfl|refine And.intro ?_ ?_)
   exact eqR H
 have D:i=(Eg a.n).length:=by simp at c;omega
 subst D;rw[List.take_length];refine(Z40 (ksC a.n) s.data.toList (by unfold ksC;rw[ao];omega) (by omega)).cal λq d=>?_;subst d;have bad:∀h:(Hr (ksC a.n) s.data.toList).e≠0,¬okR s.data.toList:=λh Q=>by have:=Q.2.1;rw[w] at this;exact h this
 refine dx (fun(v:(Hr (ksC a.n) s.data.toList).e≠0)=>E5 (bad v)) λv=>?_;have v:(Hr (ksC a.n) s.data.toList).e=0:=v;have I:(Hr (ksC a.n) s.data.toList).l.length=(Eg a.n).length:=by obtain⟨N,T,L⟩:=Sq v;rw[L,(Hs _ _).2 N];unfold ksC;rw[ao]
 obtain⟨o,C⟩:∃o,o=(Hr (ksC a.n) s.data.toList).l:=⟨_,rfl⟩;rw[<-C] at I⊢;refine Dt [0,2,7,12,74,75] [0,3,4] (λi:Nat=>[(76,gI i)]) (λi=>[(2,.blk (enC (F0 (kC0 a.n) ((Eg a.n).take i) (o.take i))) tCl)]) (λi=>i<=(Eg a.n).length) (λi=>(Eg a.n).length - i) 0 (av _) ⟨⟨rfl,rfl⟩,trivial⟩ ⟨RL1,trivial⟩ rfl λi D=>?_;refine du (λc=>?_) (λc=>?_)
 .have c:i < (Eg a.n).length:=by simpa using c
  obtain⟨x,t⟩:∃x,(Eg a.n)[i]?=some x:=⟨_,ap c⟩;obtain⟨f,A⟩:∃f,o[i]?=some f:=⟨_,ap (by omega)⟩;refine⟨⟨by omega,by rw[ao];omega⟩,dz t ?_⟩;have k:=F x (ar t);have j:=Zd6 (F0 (kC0 a.n) ((Eg a.n).take i) (o.take i)) x k f;have H:setC (F0 (kC0 a.n) ((Eg a.n).take i) (o.take i)) x f=F0 (kC0 a.n) ((Eg a.n).take (i+1)) (o.take (i+1)):=by rw[Bu t,Bu A,Pe (by rw[be,be];omega)]
  rw[H] at j;rcases Lw b 0 x with⟨m,e2⟩ | ⟨m,e2⟩ | ⟨m,e2⟩ | ⟨m,e2⟩
  all_goals
   rw[m];rw[e2] at j
  all_goals
   refine dz A ?_
   first
   | refine dv (.done (.rawA (p:=[noP]) 4 2 rfl (.same (j.cal ?_))))
   | refine dv (.done (.rawA (p:=[noP,noP]) 4 2 rfl (.same (j.cal ?_))))
   | refine dv (.done (.rawA (p:=[]) 4 2 rfl (.same (j.cal ?_))))
   intro q rs d;obtain⟨rfl,rfl⟩:=d;refine .done ?_;refine⟨by omega,i+1,by omega,(by dsimp only;omega),?_⟩;refine⟨?_,?_,rfl⟩<;>repeat' (first|exact trivial|with_reducible rfl|exact rfl|refine And.intro ?_ ?_)
 have D:i=(Eg a.n).length:=by simp at c;omega
 subst D;rw[List.take_length,ba (by omega:o.length<=(Eg a.n).length)];have P:F0 (kC0 a.n) (Eg a.n) o=reC s.data.toList:=by unfold reC;rw[w,C]
 rw[P];have G:okR s.data.toList↔okC (reC s.data.toList):=⟨λh=>h.2.2.2,λh=>⟨⟨y,by rw[w];exact hr⟩,by rw[w];exact v,by omega,h⟩⟩;refine(Ou (reC s.data.toList)).cal λq d=>?_;subst d;refine dy (λu=>?_) λu=>?_
 .have u:okB (reC s.data.toList)=false:=by simpa using u
  exact E5 λh=>Hx.1 u (G.1 h)
 .have u:okB (reC s.data.toList)=true:=by simpa using u
  have K:=G.2 (Hj.1 u);unfold rdC dC edC;rw[dp K,dp K];exact rfl
end Go.Proofs.YtmmdikhljefeiaaGreat

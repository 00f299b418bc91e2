
import Derived.Test.YtmmdikhljefeiaaGreatFcM1
import Derived.Test.YtmmdikhljefeiaaGreatPKN
import Derived.Test.YtmmdikhljefeiaaGreatPKM
namespace Go.Proofs.YtmmdikhljefeiaaGreat
open Go.RowKit
set_option maxRecDepth 100000
abbrev tCl:Nat:=34
abbrev tPl:Nat:=96
abbrev noP:G:=.v (.pointer none)
def plT (x:Nat):Nat:=([0,0,3,0,0,0,0,1,1,0,0,0,1,2,0,0,0,1]:List Nat).getD x 0
def plG (p:G)(t:Nat):List G:=match t with
 | 1=>[noP,p,noP,gI 0]
 | 2=>[noP,noP,p,gI 0]
 | 3=>[p,noP,noP,gI 1]
 | _=>[p,noP,noP,gI 0]
def fdC (c:RCl)(x:Nat):RFd:=([wF c.client,wF c.number,⟨1,c.kind,eS⟩,wF c.h.1,wF c.h.2,wF c.g.1,wF c.g.2,tF c.name,tF c.other,wF c.m.kind,wF c.m.mode,wF c.m.time,tF c.m.target,⟨4,bI c.fo,eS⟩,wF c.pos,wF c.n,wF c.time,tF c.b]:List RFd).getD x ⟨0,0,eS⟩
theorem Tn {x:Nat}(h:x < 18):x=0\/x=1\/x=2\/x=3\/x=4\/x=5\/x=6\/x=7\/x=8\/x=9\/x=10\/x=11\/x=12\/x=13\/x=14\/x=15\/x=16\/x=17:=by omega
theorem Z2g (c:RCl)(x:Nat)(h:x < 18):FnO Tryz.prog 35 [.oag (plG (.ptr 0 x) (plT x))] [.blk (enC c) tCl] λg rs=>g=.agg (Yh (fdC c x))/\rs=[.blk (enC c) tCl]:=by
 rcases Tn h with rfl | rfl | rfl | rfl | rfl | rfl | rfl | rfl | rfl | rfl | rfl | rfl | rfl | rfl | rfl | rfl | rfl | rfl
 all_goals
  refine Z4u Tryz.func35 (Cj _ _) ?_
  try refine Xt (c:=true) (by decide +kernel) ?_
  try refine Xt (c:=false) (by decide +kernel) ?_
  first | exact⟨itL [(0,.blk (enC c) tCl)],_,⟨⟨⟨_,rfl,rfl,rfl⟩,trivial⟩,rfl,⟨_,rfl⟩,rfl,rfl,⟨rfl,rfl⟩⟩⟩ | refine⟨λh=>?_,λh=>?_⟩
 .exact⟨itL [(0,.blk (enC c) tCl)],_,⟨⟨⟨_,rfl,rfl,rfl⟩,trivial⟩,rfl,⟨_,rfl⟩,rfl,rfl,⟨by unfold fdC;rw[show bI c.fo=1 from by rw[show c.fo=true from h];rfl],rfl⟩⟩⟩
 .exact⟨itL [(0,.blk (enC c) tCl)],_,⟨⟨⟨_,rfl,rfl,rfl⟩,trivial⟩,rfl,⟨_,rfl⟩,rfl,rfl,⟨by unfold fdC;rw[show bI c.fo=0 from by rw[show c.fo=false from h];rfl],rfl⟩⟩⟩
def setC (c:RCl)(x:Nat)(f:RFd):RCl:=match x with
 | 0=>{c with client:=f.n}
 | 1=>{c with number:=f.n}
 | 2=>{c with kind:=f.n}
 | 3=>{c with h:=(f.n,c.h.2)}
 | 4=>{c with h:=(c.h.1,f.n)}
 | 5=>{c with g:=(f.n,c.g.2)}
 | 6=>{c with g:=(c.g.1,f.n)}
 | 7=>{c with name:=f.s}
 | 8=>{c with other:=f.s}
 | 9=>{c with m:={c.m with kind:=f.n}}
 | 10=>{c with m:={c.m with mode:=f.n}}
 | 11=>{c with m:={c.m with time:=f.n}}
 | 12=>{c with m:={c.m with target:=f.s}}
 | 13=>{c with fo:=decide (f.n=1)}
 | 14=>{c with pos:=f.n}
 | 15=>{c with n:=f.n}
 | 16=>{c with time:=f.n}
 | _=>{c with b:=f.s}
theorem Zfd (c:RCl)(x:Nat)(h:x < 18)(f:RFd):FnO Tryz.prog 41 [.oag (plG (.ptr 0 x) (plT x)),.agg (Yh f)] [.blk (enC c) tCl] λg rs=>g=.tup []/\rs=[.blk (enC (setC c x f)) tCl]:=by
 rcases Tn h with rfl | rfl | rfl | rfl | rfl | rfl | rfl | rfl | rfl | rfl | rfl | rfl | rfl | rfl | rfl | rfl | rfl | rfl
 all_goals
  refine Z4u Tryz.func41 (Cj _ _) ?_;exact⟨itL [(0,.blk (enC (setC c _ f)) tCl)],.tup [],⟨⟨⟨_,rfl,rfl,rfl⟩,trivial⟩,rfl,⟨_,rfl⟩,rfl,rfl,⟨rfl,rfl⟩⟩⟩
def Fj (k:Int):List Nat :=
 [0,1,2,3,4]++((if k=2\/k=4 then [5,6] else [])++((if k=1\/k=2\/k=3\/k=4\/k=7 then [7] else [])++((if k=4 then [8] else [])++((if k=1 then [9,10,11,12] else [])++((if k=3 then [13] else [])++((if k=5\/k=8 then [14] else [])++((if k=6\/k=8 then [15] else [])++((if k=5\/k=6 then [16] else [])++(if k=5 then [17] else [])))))))))
theorem Pm (c:RCl):Po c=(Fj c.kind).map (fdC c):=by unfold Po Fj;simp only[List.map_append,apply_ite (List.map (fdC c))];rfl
def Z0v:List Int:=[2,2,1]
def kdP (x:Nat):Int:=([2,2,1,2,2,2,2,3,3,2,2,2,3,4,2,2,2,3]:List Int).getD x 0
theorem Vr (c:RCl){x:Nat}(h:x < 18):(fdC c x).kind=kdP x:=by rcases Tn h with rfl | rfl | rfl | rfl | rfl | rfl | rfl | rfl | rfl | rfl | rfl | rfl | rfl | rfl | rfl | rfl | rfl | rfl<;>rfl
def c00:RCl:=⟨0,0,0,(0,0),(0,0),eS,eS,mk0,false,0,0,0,eS⟩
def kC0 (k:Int):RCl:={c00 with kind:=k}
def Kz (c:RCl):List Nat->List RFd->RCl
 | x::xs,f::fs=>Kz (setC c x f) xs fs
 | _,_=>c
def ksC (k:Int):List Int:=(Fj k).map kdP
def hdK (b:Bs):Int:=match(Cf Z0v b).l with
 | [_,_,f]=>f.n
 | _=>0
def okH (b:Bs):Prop:=(Cf Z0v b).e=0/\1<=hdK b/\hdK b<=11
def reC (b:Bs):RCl:=Kz (kC0 (hdK b)) (Fj (hdK b)) (S9 (ksC (hdK b)) b).l
def okR (b:Bs):Prop:=okH b/\(S9 (ksC (hdK b)) b).e=0/\b.length<=200/\okC (reC b)
open Classical in
noncomputable def dC (b:Bs):RCl:=if okR b then reC b else c00
open Classical in
noncomputable def edC (b:Bs):Int:=if okR b then 0 else 180
theorem Ti {k:Int}(h:1<=k/\k<=11):(Fj k).Nodup/\(∀x∈Fj k,x < 18)/\(Fj k).take 5=[0,1,2,3,4]:=by rcases Hn h with rfl | rfl | rfl | rfl | rfl | rfl | rfl | rfl | rfl | rfl | rfl<;>decide +kernel
theorem Z5h (c:RCl)(h:1<=c.kind/\c.kind<=11):Kz (kC0 c.kind) (Fj c.kind) (Po c)=Qz c:=by obtain⟨client,number,kind,a,g,name,other,m,fo,pos,n,time,b⟩:=c;dsimp only at h;rcases Hn h with rfl | rfl | rfl | rfl | rfl | rfl | rfl | rfl | rfl | rfl | rfl<;>first | rfl | (cases fo<;>rfl)
theorem Z2x (c:RCl)(h:1<=c.kind/\c.kind<=11):(Po c).map RFd.kind=ksC c.kind:=by rw[Pm,List.map_map];exact List.map_congr_left λx a=>Vr c ((Ti h).2.1 x a)
theorem Zaz {c:RCl}(h:okW c):okR (bC c)/\dC (bC c)=c:=by
 have hr:1<=c.kind/\c.kind<=11:=h.1.1.2.2.2.2;have a:bC c=Il (Po c):=dt h;have hd:∃m,Po c=[wF c.client,wF c.number,⟨1,c.kind,eS⟩]++m:=⟨_,rfl⟩;obtain⟨m,d⟩:=hd;have f:=h.2.1;rw[d] at f;have g:Cf Z0v (bC c)=⟨0,[wF c.client,wF c.number,⟨1,c.kind,eS⟩],(Il [wF c.client,wF c.number,⟨1,c.kind,eS⟩]).length⟩:=by rw[a,d,Z3w];exact Tw [wF c.client,wF c.number,⟨1,c.kind,eS⟩] _ (Z24 f)
 have b:hdK (bC c)=c.kind:=by unfold hdK;rw[g]
 have eD:S9 (ksC (hdK (bC c))) (bC c)=⟨0,Po c,(Il (Po c)).length⟩:=by rw[b,a,<-Z2x c hr];exact Z6s h.2.1
 have hH:okH (bC c):=⟨by rw[g],by rw[b];exact hr⟩;have e:reC (bC c)=c:=by unfold reC;rw[eD,b];exact(Z5h c hr).trans h.1.2.symm
 have ok:okR (bC c):=⟨hH,by rw[eD],by rw[a];exact h.2.2,by rw[e];exact h.1⟩;exact⟨ok,by unfold dC;rw[dt ok,e]⟩
abbrev adV (b x:Nat):G:=.v (.pointer (some ⟨b,x,none⟩))
def plR (b x:Nat):List G:=plG (adV b x) (plT x)
def grC:List (Int × List Nat):=[(1,[3,4]),(2,[5,6]),(4,[7]),(8,[8]),(16,[9,10,11,12]),(32,[13]),(64,[14]),(128,[15]),(256,[16]),(512,[17])]
def grR (b:Nat)(p:Int × List Nat):List G:=[gI p.1,.sl (p.2.map (plR b))]
def Zd0 (k u:Int):Bool:=IntKind.i64.wrap ((BitVec.ofInt 64 (Zdq k) &&& BitVec.ofInt 64 u).toNat:Nat) != 0
def PL (k:Int)(i:Nat):List Nat:=[0,1,2]++(grC.take i).flatMap λp=>if Zd0 k p.1=true then p.2 else []
theorem Z15 {k:Int}(h:1<=k/\k<=11):PL k 10=Fj k:=by rcases Hn h with rfl | rfl | rfl | rfl | rfl | rfl | rfl | rfl | rfl | rfl | rfl<;>decide +kernel
theorem Zan {k:Int}{i:Nat}{p:Int × List Nat}(a:grC[i]?=some p):PL k (i+1)=PL k i++if Zd0 k p.1=true then p.2 else []:=by unfold PL;rw[Bb a,List.flatMap_append,cg];simp
theorem Vc (k:Int)(i:Nat):(PL k i).length<=18:=by
 have e:∀(l:List (Int × List Nat)),(l.flatMap λp=>if Zd0 k p.1=true then p.2 else []).length<=(l.flatMap λp=>p.2).length:=λl=>by
  induction l with
  | nil=>exact au _
  | cons p l ih =>
   rw[List.flatMap_cons,List.flatMap_cons,bf,bf];split
   .omega
   .have:([]:List Nat).length=0:=rfl;omega
 have b:((grC.take i).flatMap λp=>p.2).length<=(grC.flatMap λp=>p.2).length:=by
  conv=>rhs;rw[<-dj i grC,List.flatMap_append,bf]
  omega
 have:=e (grC.take i);have a:(grC.flatMap λp=>p.2).length=15:=by decide
 unfold PL;rw[bf];show 3+_<=18;omega
theorem Z4h (b:Nat)(l:List Nat):∀r∈l.map (plR b),r.length=4/\r.all G.one=true:=λr hr=>by obtain⟨x,-,rfl⟩:=bj.1 hr;unfold plR plG;split<;>exact⟨rfl,rfl⟩
theorem W6 (c:RCl)(h:1<=c.kind/\c.kind<=11):FnO Tryz.prog 34 [.ptr 0 0] [.blk (enC c) tCl] λg rs=>∃b,g=.osl 1/\rs=[.blk (enC c) tCl,.slc ((Fj c.kind).map (plR b)) tPl 4,.adr 0 b]:=by
 refine Z5 Tryz.func34 (Cj _ _) ?_;refine dx (.adr 0 _ rfl λb=>.done (.same ((Z7j c.kind h).toO.cal λq rs m=>?_)));obtain⟨rfl,rfl⟩:=m;refine .done ?_
 repeat refine⟨_,λn r=>(by first | exact rfl | exact⟨_,_,_,⟨rfl,rfl⟩,rfl,rfl⟩),?_⟩
 refine As [3] [0,2] (λi:Nat=>[(115,gI i),(4,.osl 3),(113,.sl (grC.map (grR b))),(114,gI 10)]) (λi=>[(3,.slc ((PL c.kind i).map (plR b)) tPl 4)]) (λi=>i<=10) (λi=>10 - i) 0 (by omega) ⟨⟨rfl,rfl⟩,⟨rfl,rfl⟩,⟨rfl,rfl⟩,⟨rfl,rfl⟩,trivial⟩ ⟨RL1,trivial⟩ rfl λi f=>?_;refine dw (λd=>?_) (λd=>?_)
 .refine ef (by show i < 10;have h:(i:Int) < 10:=d;omega) λp l=>?_;have e:=Zan (k:=c.kind) l;have o:=Vc c.kind i;have f:=B8 l;have f:i < 10:=f;refine ec (λa=>?_) λa=>?_
  .have a:Zd0 c.kind p.1=true:=a;rw[dt a] at e;refine⟨Z4h b _,?_⟩;have j:=Vc c.kind (i+1);rw[e,bf] at j;refine⟨by rw[ao,ao];omega,?_⟩;refine⟨by omega,i+1,by omega,(by dsimp only;omega),?_⟩;refine⟨?_,?_,rfl⟩<;>repeat' (first|exact trivial|with_reducible rfl|exact rfl|refine And.intro ?_ ?_)
   exact eqR (by rw[e,az])
  .have a:Zd0 c.kind p.1=false:=a;rw[a,dq (by decide),dl] at e;refine⟨by omega,i+1,by omega,(by dsimp only;omega),?_⟩;refine⟨?_,?_,rfl⟩<;>repeat' (first|exact trivial|with_reducible rfl|exact rfl|refine And.intro ?_ ?_)
   exact eqR (by rw[e])
 .have f:i=10:=by simp at d;omega
  subst f;exact .inl ⟨[⟨[(0,.blk (enC c) tCl)],[(0,0)],false⟩,⟨[(0,.slc ((PL c.kind 10).map (plR b)) tPl 4)],[(0,3)],false⟩,⟨[(0,.adr 0 b)],[(0,2)],false⟩],.osl 1,⟨⟨⟨_,rfl,rfl,rfl⟩,⟨_,rfl,rfl,rfl⟩,⟨_,rfl,rfl,rfl⟩,trivial⟩,rfl,⟨_,rfl⟩,rfl,rfl,⟨b,rfl,by rw[Z15 h];rfl⟩⟩⟩
theorem Ms (b k x:Nat):(plR b x=[noP,adV b x,noP,gI 0]/\plG (.ptr k x) (plT x)=[noP,.ptr k x,noP,gI 0])\/(plR b x=[noP,noP,adV b x,gI 0]/\plG (.ptr k x) (plT x)=[noP,noP,.ptr k x,gI 0])\/(plR b x=[adV b x,noP,noP,gI 1]/\plG (.ptr k x) (plT x)=[.ptr k x,noP,noP,gI 1])\/(plR b x=[adV b x,noP,noP,gI 0]/\plG (.ptr k x) (plT x)=[.ptr k x,noP,noP,gI 0]):=by
 unfold plR plG;split
 .exact .inl ⟨rfl,rfl⟩
 .exact .inr (.inl ⟨rfl,rfl⟩)
 .exact .inr (.inr (.inl ⟨rfl,rfl⟩))
 .exact .inr (.inr (.inr ⟨rfl,rfl⟩))
noncomputable def wrC (c:RCl):G:=.tup [.v (.string ⟨(bC c).toArray⟩),gI (eC c)]
theorem U6 {c:RCl}(h:¬okW c):G.tup [.v (.string ⟨#[]⟩),gI 180]=wrC c:=by unfold wrC bC eC;rw[dq h,dq h]
theorem Z29 (c:RCl):FnV Tryz.prog 10 [.agg (enC c)] λg=>g=wrC c:=by
 refine fnG Tryz.func10 ?_;refine(Ph c).cal λq f=>?_;subst f;refine ec (λd=>?_) λd=>?_
 .have d:okB c=false:=by simpa using d
  exact U6 λh=>Jm.1 d h.1
 have d:okB c=true:=by simpa using d
 have l:=Ie.1 d;have hr:=l.1.2.2.2.2;refine dx (.done (.same ((W6 c hr).cal λq rs f=>?_)));obtain⟨b,rfl,rfl⟩:=f;refine .done ?_;refine As [12,13] [0,2,3] (λi:Nat=>[(14,gI i),(4,.osl 1)]) (λi=>[(1,.slc ((((Fj c.kind).take i).map (fdC c)).map Yh) tFd 3)]) (λi=>i<=(Fj c.kind).length) (λi=>(Fj c.kind).length - i) 0 (av _) ⟨⟨rfl,rfl⟩,⟨rfl,rfl⟩,trivial⟩ ⟨RL1,trivial⟩ rfl λi t=>?_;have r:=(Ti hr).2.1;have k:(Fj c.kind).length<=18:=by rw[<-Z15 hr];exact Vc _ _
 refine dw (λa=>?_) (λa=>?_)
 .have a:i < (Fj c.kind).length:=by simpa using a
  obtain⟨x,o⟩:∃x,(Fj c.kind)[i]?=some x:=⟨_,ap a⟩;refine⟨⟨by omega,by rw[ao];omega⟩,ee o ?_⟩;have n:=Z2g c x (r x (ar o));have v:(((Fj c.kind).take i).map (fdC c)).map Yh++[Yh (fdC c x)]=(((Fj c.kind).take (i+1)).map (fdC c)).map Yh:=by rw[Bb o,az,az];rfl
  rcases Ms b 0 x with⟨m,e2⟩ | ⟨m,e2⟩ | ⟨m,e2⟩ | ⟨m,e2⟩
  all_goals
   rw[m];rw[e2] at n
  all_goals
   first
   | refine dx (.done (.rawA (p:=[noP]) 3 0 rfl (.same (n.cal ?_))))
   | refine dx (.done (.rawA (p:=[noP,noP]) 3 0 rfl (.same (n.cal ?_))))
   | refine dx (.done (.rawA (p:=[]) 3 0 rfl (.same (n.cal ?_))))
   intro q rs f;obtain⟨rfl,rfl⟩:=f;refine .done ?_;refine⟨by simp;omega,⟨by omega,i+1,by omega,(by dsimp only;omega),?_⟩⟩;refine⟨?_,?_,rfl⟩<;>repeat' (first|exact trivial|with_reducible rfl|exact rfl|refine And.intro ?_ ?_)
   exact eqR v
 .have t:i=(Fj c.kind).length:=by simp at a;omega
  subst t;rw[List.take_length,<-Pm];have w:(Po c).length<=18:=by rw[Pm,ao];exact k
  refine(Z4o (Po c) (by omega)).cal λq rs f=>?_;obtain⟨rfl,rfl⟩:=f;refine dz (fun(j:O0 (Po c)≠0)=>U6 λh=>j h.2.1) λj=>?_;have j:O0 (Po c)=0:=j;have u:Ze3 (Po c)=Il (Po c):=dt j;rw[u];refine dw (λe=>U6 λh=>?_) λe=>?_
  .have:=h.2.2;have e:(((Il (Po c)).map gBy).length:Int) > 200:=e;rw[ao] at e;omega
  .have e:¬(((Il (Po c)).map gBy).length:Int) > 200:=e;rw[ao] at e;have s:okW c:=⟨l,j,by omega⟩;refine⟨_,rfl,?_⟩;unfold wrC bC eC;rw[dt s,dt s];exact rfl
noncomputable def rdC (b:Bs):G:=.tup [.agg (enC (dC b)),gI (edC b)]
theorem Jv {b:Bs}(h:¬okR b):G.tup [.agg (enC c00),gI 180]=rdC b:=by unfold rdC dC edC;rw[dq h,dq h]
theorem Qy:∀{xs:List Nat} {a:List RFd} {c:RCl} {x:Nat} {f:RFd},xs.length=a.length->Kz c (xs++[x]) (a++[f])=setC (Kz c xs a) x f
 | [],[],_,_,_,_=>rfl
 | y::xs,g::a,c,x,f,h=>by show Kz (setC c y g) (xs++[x]) (a++[f])=setC (Kz (setC c y g) xs a) x f;exact Qy (by simpa using h)
 | [],_::_,_,_,_,h=>by cases h
 | _::_,[],_,_,_,h=>by cases h
theorem Zc1 {b:Bs}(h:(Cf Z0v b).e=0):∃x y z,(Cf Z0v b).l=[x,y,z]/\hdK b=z.n:=by
 have a:=(Lk Z0v b).2 h;unfold hdK;generalize (Cf Z0v b).l=l at a⊢
 match l,a with
 | [x,y,z],_=>exact⟨x,y,z,rfl,rfl⟩
theorem Z0q (s:ByteArray)(T:s.size<=2000000):FnV Tryz.prog 13 [gS s] λg=>g=rdC s.data.toList:=by
 refine fnG Tryz.func13 ?_;have R:s.data.toList.length=s.size:=rfl;refine(Z7u Z0v s.data.toList (by decide) (by omega)).cal λq d=>?_;subst d;unfold smG;refine dz (fun(y:(Cf Z0v s.data.toList).e≠0)=>Jv λh=>y h.1.1) λy=>?_;have y:(Cf Z0v s.data.toList).e=0:=y;obtain⟨U,V,a,N,w⟩:=Zc1 y;have u:(Cf Z0v s.data.toList).l[2]?=some a:=by rw[N];rfl
 refine ee u (dw (λz=>Jv λh=>?_) λz=>?_)
 .have:=h.1.2.1;rw[w] at this;have z:a.n < 1:=z;omega
 refine ee u (dw (λA=>Jv λh=>?_) λA=>?_)
 .have:=h.1.2.2;rw[w] at this;have A:a.n > 11:=A;omega
 have z:¬a.n < 1:=z;have A:¬a.n > 11:=A;refine dw (λE=>Jv λh=>?_) λE=>?_
 .have:=h.2.2.1;have E:(s.size:Int) > 200:=E;omega
 have E:¬(s.size:Int) > 200:=E;refine ee u ?_;have hr:1<=a.n/\a.n<=11:=by omega
 have L:FnO Tryz.prog 34 [.ptr 0 0] [.blk (enC (kC0 a.n)) tCl] λg rs=>∃b,g=.osl 1/\rs=[.blk (enC (kC0 a.n)) tCl,.slc ((Fj a.n).map (plR b)) tPl 4,.adr 0 b]:=W6 (kC0 a.n) hr;have F:=(Ti hr).2.1;have K:(Fj a.n).length<=18:=by have:=Vc a.n 10;rw[Z15 hr] at this;exact this
 refine dx (.seen 2 _ _ rfl (.done (.same (L.cal λq rs d=>?_))));obtain⟨b,rfl,rfl⟩:=d;refine .done ?_;refine As [0,2,3,6,7,8,51,52] [0,2,3,4] (λi:Nat=>[(53,gI i),(9,.osl 5)]) (λi=>[(5,.slc ((((Fj a.n).take i).map kdP).map gNi) 3 1)]) (λi=>i<=(Fj a.n).length) (λi=>(Fj a.n).length - i) 0 (av _) ⟨⟨rfl,rfl⟩,⟨rfl,rfl⟩,trivial⟩ ⟨RL1,trivial⟩ rfl λi G=>?_;refine dw (λc=>?_) (λc=>?_)
 .have c:i < (Fj a.n).length:=by simpa using c
  obtain⟨x,r⟩:∃x,(Fj a.n)[i]?=some x:=⟨_,ap c⟩;refine⟨⟨by omega,by rw[ao];omega⟩,ee r ?_⟩;have m:=F x (ar r);have j:=Z2g (kC0 a.n) x m;have I:(((Fj a.n).take i).map kdP).map gNi++[gNi (fdC (kC0 a.n) x).kind]=(((Fj a.n).take (i+1)).map kdP).map gNi:=by rw[Bb r,az,az,Vr _ m];rfl
  rcases Ms b 0 x with⟨k,e2⟩ | ⟨k,e2⟩ | ⟨k,e2⟩ | ⟨k,e2⟩
  all_goals
   rw[k];rw[e2] at j
  all_goals
   first
   | refine dx (.done (.rawA (p:=[noP]) 4 2 rfl (.same (j.cal ?_))))
   | refine dx (.done (.rawA (p:=[noP,noP]) 4 2 rfl (.same (j.cal ?_))))
   | refine dx (.done (.rawA (p:=[]) 4 2 rfl (.same (j.cal ?_))))
   intro q rs d;obtain⟨rfl,rfl⟩:=d;refine .done ?_;refine⟨by simp;omega,⟨by omega,i+1,by omega,(by dsimp only;omega),?_⟩⟩;refine⟨?_,?_,rfl⟩<;>repeat' (first|exact trivial|with_reducible rfl|exact rfl|refine And.intro ?_ ?_)
   exact eqR I
 have G:i=(Fj a.n).length:=by simp at c;omega
 subst G;rw[List.take_length];refine(Z5l (ksC a.n) s.data.toList (by unfold ksC;rw[ao];omega) (by omega)).cal λq d=>?_;subst d;have bad:∀h:(S9 (ksC a.n) s.data.toList).e≠0,¬okR s.data.toList:=λh M=>by have:=M.2.1;rw[w] at this;exact h this
 refine dz (fun(v:(S9 (ksC a.n) s.data.toList).e≠0)=>Jv (bad v)) λv=>?_;have v:(S9 (ksC a.n) s.data.toList).e=0:=v;have H:(S9 (ksC a.n) s.data.toList).l.length=(Fj a.n).length:=by obtain⟨O,S,Q⟩:=Zak v;rw[Q,(Lk _ _).2 O];unfold ksC;rw[ao]
 obtain⟨o,D⟩:∃o,o=(S9 (ksC a.n) s.data.toList).l:=⟨_,rfl⟩;rw[<-D] at H⊢;refine As [0,2,7,12,74,75] [0,3,4] (λi:Nat=>[(76,gI i)]) (λi=>[(2,.blk (enC (Kz (kC0 a.n) ((Fj a.n).take i) (o.take i))) tCl)]) (λi=>i<=(Fj a.n).length) (λi=>(Fj a.n).length - i) 0 (av _) ⟨⟨rfl,rfl⟩,trivial⟩ ⟨RL1,trivial⟩ rfl λi G=>?_;refine dw (λc=>?_) (λc=>?_)
 .have c:i < (Fj a.n).length:=by simpa using c
  obtain⟨x,r⟩:∃x,(Fj a.n)[i]?=some x:=⟨_,ap c⟩;obtain⟨f,C⟩:∃f,o[i]?=some f:=⟨_,ap (by omega)⟩;refine⟨⟨by omega,by rw[ao];omega⟩,ee r ?_⟩;have m:=F x (ar r);have j:=Zfd (Kz (kC0 a.n) ((Fj a.n).take i) (o.take i)) x m f;have I:setC (Kz (kC0 a.n) ((Fj a.n).take i) (o.take i)) x f=Kz (kC0 a.n) ((Fj a.n).take (i+1)) (o.take (i+1)):=by rw[Bb r,Bb C,Qy (by rw[be,be];omega)]
  rw[I] at j;rcases Ms b 0 x with⟨k,e2⟩ | ⟨k,e2⟩ | ⟨k,e2⟩ | ⟨k,e2⟩
  all_goals
   rw[k];rw[e2] at j
  all_goals
   refine ee C ?_
   first
   | refine dx (.done (.rawA (p:=[noP]) 4 2 rfl (.same (j.cal ?_))))
   | refine dx (.done (.rawA (p:=[noP,noP]) 4 2 rfl (.same (j.cal ?_))))
   | refine dx (.done (.rawA (p:=[]) 4 2 rfl (.same (j.cal ?_))))
   intro q rs d;obtain⟨rfl,rfl⟩:=d;refine .done ?_;refine⟨by omega,i+1,by omega,(by dsimp only;omega),?_⟩;refine⟨?_,?_,rfl⟩<;>repeat' (first|exact trivial|with_reducible rfl|exact rfl|refine And.intro ?_ ?_)
 have G:i=(Fj a.n).length:=by simp at c;omega
 subst G;rw[List.take_length,ba (by omega:o.length<=(Fj a.n).length)];have P:Kz (kC0 a.n) (Fj a.n) o=reC s.data.toList:=by unfold reC;rw[w,D]
 rw[P];have B:okR s.data.toList↔okC (reC s.data.toList):=⟨λh=>h.2.2.2,λh=>⟨⟨y,by rw[w];exact hr⟩,by rw[w];exact v,by omega,h⟩⟩;refine(Ph (reC s.data.toList)).cal λq d=>?_;subst d;refine ec (λt=>?_) λt=>?_
 .have t:okB (reC s.data.toList)=false:=by simpa using t
  exact Jv λh=>Jm.1 t (B.1 h)
 .have t:okB (reC s.data.toList)=true:=by simpa using t
  have J:=B.2 (Ie.1 t);unfold rdC dC edC;rw[dt J,dt J];exact rfl
end Go.Proofs.YtmmdikhljefeiaaGreat

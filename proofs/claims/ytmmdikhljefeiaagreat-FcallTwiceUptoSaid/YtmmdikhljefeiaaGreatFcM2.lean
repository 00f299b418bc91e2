
import Derived.Test.YtmmdikhljefeiaaGreatFcM1
import Derived.Test.YtmmdikhljefeiaaGreatPKN
import Derived.Test.YtmmdikhljefeiaaGreatPKM
namespace Go.Proofs.YtmmdikhljefeiaaGreat
open Go.RowKit
set_option maxRecDepth 100000
abbrev tCl:Nat:=34
abbrev tPl:Nat:=96
abbrev noP:G:=.v (.pointer none)
def plT (x:Nat):Nat:=([0,0,3,0,0,0,0,1,1,0,0,0,1,2,0,0,0,1]:List Nat).getD x 0
def plG (p:G)(t:Nat):List G:=match t with
 | 1=>[noP,p,noP,gI 0]
 | 2=>[noP,noP,p,gI 0]
 | 3=>[p,noP,noP,gI 1]
 | _=>[p,noP,noP,gI 0]
def fdC (c:RCl)(x:Nat):RFd:=([wF c.client,wF c.number,⟨1,c.kind,eS⟩,wF c.h.1,wF c.h.2,wF c.g.1,wF c.g.2,tF c.name,tF c.other,wF c.m.kind,wF c.m.mode,wF c.m.time,tF c.m.target,⟨4,bI c.fo,eS⟩,wF c.pos,wF c.n,wF c.time,tF c.b]:List RFd).getD x ⟨0,0,eS⟩
theorem Sf {x:Nat}(h:x < 18):x=0\/x=1\/x=2\/x=3\/x=4\/x=5\/x=6\/x=7\/x=8\/x=9\/x=10\/x=11\/x=12\/x=13\/x=14\/x=15\/x=16\/x=17:=by omega
theorem Z1z (c:RCl)(x:Nat)(h:x < 18):FnO Tryz.prog 35 [.oag (plG (.ptr 0 x) (plT x))] [.blk (enC c) tCl] λg rs=>g=.agg (Y4 (fdC c x))/\rs=[.blk (enC c) tCl]:=by
 rcases Sf h with rfl | rfl | rfl | rfl | rfl | rfl | rfl | rfl | rfl | rfl | rfl | rfl | rfl | rfl | rfl | rfl | rfl | rfl
 all_goals
  refine Z8l Tryz.func35 (Dh _ _) ?_
  try refine Ww (c:=true) (by decide +kernel) ?_
  try refine Ww (c:=false) (by decide +kernel) ?_
  first | exact⟨itL [(0,.blk (enC c) tCl)],_,⟨⟨⟨_,rfl,rfl,rfl⟩,trivial⟩,rfl,⟨_,rfl⟩,rfl,rfl,⟨rfl,rfl⟩⟩⟩ | refine⟨λh=>?_,λh=>?_⟩
 .exact⟨itL [(0,.blk (enC c) tCl)],_,⟨⟨⟨_,rfl,rfl,rfl⟩,trivial⟩,rfl,⟨_,rfl⟩,rfl,rfl,⟨by unfold fdC;rw[show bI c.fo=1 from by rw[show c.fo=true from h];rfl],rfl⟩⟩⟩
 .exact⟨itL [(0,.blk (enC c) tCl)],_,⟨⟨⟨_,rfl,rfl,rfl⟩,trivial⟩,rfl,⟨_,rfl⟩,rfl,rfl,⟨by unfold fdC;rw[show bI c.fo=0 from by rw[show c.fo=false from h];rfl],rfl⟩⟩⟩
def setC (c:RCl)(x:Nat)(f:RFd):RCl:=match x with
 | 0=>{c with client:=f.n}
 | 1=>{c with number:=f.n}
 | 2=>{c with kind:=f.n}
 | 3=>{c with h:=(f.n,c.h.2)}
 | 4=>{c with h:=(c.h.1,f.n)}
 | 5=>{c with g:=(f.n,c.g.2)}
 | 6=>{c with g:=(c.g.1,f.n)}
 | 7=>{c with name:=f.s}
 | 8=>{c with other:=f.s}
 | 9=>{c with m:={c.m with kind:=f.n}}
 | 10=>{c with m:={c.m with mode:=f.n}}
 | 11=>{c with m:={c.m with time:=f.n}}
 | 12=>{c with m:={c.m with target:=f.s}}
 | 13=>{c with fo:=decide (f.n=1)}
 | 14=>{c with pos:=f.n}
 | 15=>{c with n:=f.n}
 | 16=>{c with time:=f.n}
 | _=>{c with b:=f.s}
theorem Zfd (c:RCl)(x:Nat)(h:x < 18)(f:RFd):FnO Tryz.prog 41 [.oag (plG (.ptr 0 x) (plT x)),.agg (Y4 f)] [.blk (enC c) tCl] λg rs=>g=.tup []/\rs=[.blk (enC (setC c x f)) tCl]:=by
 rcases Sf h with rfl | rfl | rfl | rfl | rfl | rfl | rfl | rfl | rfl | rfl | rfl | rfl | rfl | rfl | rfl | rfl | rfl | rfl
 all_goals
  refine Z8l Tryz.func41 (Dh _ _) ?_;exact⟨itL [(0,.blk (enC (setC c _ f)) tCl)],.tup [],⟨⟨⟨_,rfl,rfl,rfl⟩,trivial⟩,rfl,⟨_,rfl⟩,rfl,rfl,⟨rfl,rfl⟩⟩⟩
def Ff (k:Int):List Nat :=
 [0,1,2,3,4]++((if k=2\/k=4 then [5,6] else [])++((if k=1\/k=2\/k=3\/k=4\/k=7 then [7] else [])++((if k=4 then [8] else [])++((if k=1 then [9,10,11,12] else [])++((if k=3 then [13] else [])++((if k=5\/k=8 then [14] else [])++((if k=6\/k=8 then [15] else [])++((if k=5\/k=6 then [16] else [])++(if k=5 then [17] else [])))))))))
theorem Pe (c:RCl):Ox c=(Ff c.kind).map (fdC c):=by unfold Ox Ff;simp only[List.map_append,apply_ite (List.map (fdC c))];rfl
def Z1n:List Int:=[2,2,1]
def kdP (x:Nat):Int:=([2,2,1,2,2,2,2,3,3,2,2,2,3,4,2,2,2,3]:List Int).getD x 0
theorem Ul (c:RCl){x:Nat}(h:x < 18):(fdC c x).kind=kdP x:=by rcases Sf h with rfl | rfl | rfl | rfl | rfl | rfl | rfl | rfl | rfl | rfl | rfl | rfl | rfl | rfl | rfl | rfl | rfl | rfl<;>rfl
def c00:RCl:=⟨0,0,0,(0,0),(0,0),eS,eS,mk0,false,0,0,0,eS⟩
def kC0 (k:Int):RCl:={c00 with kind:=k}
def Kx (c:RCl):List Nat->List RFd->RCl
 | x::xs,f::fs=>Kx (setC c x f) xs fs
 | _,_=>c
def ksC (k:Int):List Int:=(Ff k).map kdP
def hdK (b:Bs):Int:=match(Ce Z1n b).l with
 | [_,_,f]=>f.n
 | _=>0
def okH (b:Bs):Prop:=(Ce Z1n b).e=0/\1<=hdK b/\hdK b<=11
def reC (b:Bs):RCl:=Kx (kC0 (hdK b)) (Ff (hdK b)) (Rf (ksC (hdK b)) b).l
def okR (b:Bs):Prop:=okH b/\(Rf (ksC (hdK b)) b).e=0/\b.length<=200/\okC (reC b)
open Classical in
noncomputable def dC (b:Bs):RCl:=if okR b then reC b else c00
open Classical in
noncomputable def edC (b:Bs):Int:=if okR b then 0 else 180
theorem Th {k:Int}(h:1<=k/\k<=11):(Ff k).Nodup/\(∀x∈Ff k,x < 18)/\(Ff k).take 5=[0,1,2,3,4]:=by rcases Ha h with rfl | rfl | rfl | rfl | rfl | rfl | rfl | rfl | rfl | rfl | rfl<;>decide +kernel
theorem Z3p (c:RCl)(h:1<=c.kind/\c.kind<=11):Kx (kC0 c.kind) (Ff c.kind) (Ox c)=Qr c:=by obtain⟨client,number,kind,a,g,name,other,m,fo,pos,n,time,b⟩:=c;dsimp only at h;rcases Ha h with rfl | rfl | rfl | rfl | rfl | rfl | rfl | rfl | rfl | rfl | rfl<;>first | rfl | (cases fo<;>rfl)
theorem Z0f (c:RCl)(h:1<=c.kind/\c.kind<=11):(Ox c).map RFd.kind=ksC c.kind:=by rw[Pe,List.map_map];exact List.map_congr_left λx a=>Ul c ((Th h).2.1 x a)
theorem Zas {c:RCl}(h:okW c):okR (bC c)/\dC (bC c)=c:=by
 have hr:1<=c.kind/\c.kind<=11:=h.1.1.2.2.2.2;have a:bC c=Ic (Ox c):=dq h;have hd:∃m,Ox c=[wF c.client,wF c.number,⟨1,c.kind,eS⟩]++m:=⟨_,rfl⟩;obtain⟨m,f⟩:=hd;have d:=h.2.1;rw[f] at d;have e:Ce Z1n (bC c)=⟨0,[wF c.client,wF c.number,⟨1,c.kind,eS⟩],(Ic [wF c.client,wF c.number,⟨1,c.kind,eS⟩]).length⟩:=by rw[a,f,Z5k];exact Sn [wF c.client,wF c.number,⟨1,c.kind,eS⟩] _ (Z24 d)
 have b:hdK (bC c)=c.kind:=by unfold hdK;rw[e]
 have eD:Rf (ksC (hdK (bC c))) (bC c)=⟨0,Ox c,(Ic (Ox c)).length⟩:=by rw[b,a,<-Z0f c hr];exact Z6a h.2.1
 have hH:okH (bC c):=⟨by rw[e],by rw[b];exact hr⟩;have g:reC (bC c)=c:=by unfold reC;rw[eD,b];exact(Z3p c hr).trans h.1.2.symm
 have ok:okR (bC c):=⟨hH,by rw[eD],by rw[a];exact h.2.2,by rw[g];exact h.1⟩;exact⟨ok,by unfold dC;rw[dq ok,g]⟩
abbrev adV (b x:Nat):G:=.v (.pointer (some ⟨b,x,none⟩))
def plR (b x:Nat):List G:=plG (adV b x) (plT x)
def grC:List (Int × List Nat):=[(1,[3,4]),(2,[5,6]),(4,[7]),(8,[8]),(16,[9,10,11,12]),(32,[13]),(64,[14]),(128,[15]),(256,[16]),(512,[17])]
def grR (b:Nat)(p:Int × List Nat):List G:=[gI p.1,.sl (p.2.map (plR b))]
def Zb9 (k u:Int):Bool:=IntKind.i64.wrap ((BitVec.ofInt 64 (Zcz k) &&& BitVec.ofInt 64 u).toNat:Nat) != 0
def PL (k:Int)(i:Nat):List Nat:=[0,1,2]++(grC.take i).flatMap λp=>if Zb9 k p.1=true then p.2 else []
theorem Z19 {k:Int}(h:1<=k/\k<=11):PL k 10=Ff k:=by rcases Ha h with rfl | rfl | rfl | rfl | rfl | rfl | rfl | rfl | rfl | rfl | rfl<;>decide +kernel
theorem Za7 {k:Int}{i:Nat}{p:Int × List Nat}(a:grC[i]?=some p):PL k (i+1)=PL k i++if Zb9 k p.1=true then p.2 else []:=by unfold PL;rw[B9 a,List.flatMap_append,cf];simp
theorem Uj (k:Int)(i:Nat):(PL k i).length<=18:=by
 have e:∀(l:List (Int × List Nat)),(l.flatMap λp=>if Zb9 k p.1=true then p.2 else []).length<=(l.flatMap λp=>p.2).length:=λl=>by
  induction l with
  | nil=>exact av _
  | cons p l ih =>
   rw[List.flatMap_cons,List.flatMap_cons,bg,bg];split
   .omega
   .have:([]:List Nat).length=0:=rfl;omega
 have a:((grC.take i).flatMap λp=>p.2).length<=(grC.flatMap λp=>p.2).length:=by
  conv=>rhs;rw[<-dh i grC,List.flatMap_append,bg]
  omega
 have:=e (grC.take i);have b:(grC.flatMap λp=>p.2).length=15:=by decide
 unfold PL;rw[bg];show 3+_<=18;omega
theorem Z2r (b:Nat)(l:List Nat):∀r∈l.map (plR b),r.length=4/\r.all G.one=true:=λr hr=>by obtain⟨x,-,rfl⟩:=bk.1 hr;unfold plR plG;split<;>exact⟨rfl,rfl⟩
theorem Ub (c:RCl)(h:1<=c.kind/\c.kind<=11):FnO Tryz.prog 34 [.ptr 0 0] [.blk (enC c) tCl] λg rs=>∃b,g=.osl 1/\rs=[.blk (enC c) tCl,.slc ((Ff c.kind).map (plR b)) tPl 4,.adr 0 b]:=by
 refine Z5u Tryz.func34 (Dh _ _) ?_;refine dw (.adr 0 _ rfl λb=>.done (.same ((Z73 c.kind h).toO.cal λq rs m=>?_)));obtain⟨rfl,rfl⟩:=m;refine .done ?_
 repeat refine⟨_,λn r=>(by first | exact rfl | exact⟨_,_,_,⟨rfl,rfl⟩,rfl,rfl⟩),?_⟩
 refine Ax [3] [0,2] (λi:Nat=>[(115,gI i),(4,.osl 3),(113,.sl (grC.map (grR b))),(114,gI 10)]) (λi=>[(3,.slc ((PL c.kind i).map (plR b)) tPl 4)]) (λi=>i<=10) (λi=>10 - i) 0 (by omega) ⟨⟨rfl,rfl⟩,⟨rfl,rfl⟩,⟨rfl,rfl⟩,⟨rfl,rfl⟩,trivial⟩ ⟨RL1,trivial⟩ rfl λi f=>?_;refine dv (λd=>?_) (λd=>?_)
 .refine ee (by show i < 10;have h:(i:Int) < 10:=d;omega) λp l=>?_;have e:=Za7 (k:=c.kind) l;have o:=Uj c.kind i;have f:=Bd l;have f:i < 10:=f;refine dz (λa=>?_) λa=>?_
  .have a:Zb9 c.kind p.1=true:=a;rw[dq a] at e;refine⟨Z2r b _,?_⟩;have j:=Uj c.kind (i+1);rw[e,bg] at j;refine⟨by rw[ap,ap];omega,?_⟩;refine⟨by omega,i+1,by omega,(by dsimp only;omega),?_⟩;refine⟨?_,?_,rfl⟩<;>repeat' (first|exact trivial|with_reducible rfl|exact rfl|refine And.intro ?_ ?_)
   exact eqR (by rw[e,ba])
  .have a:Zb9 c.kind p.1=false:=a;rw[a,dp (by decide),dk] at e;refine⟨by omega,i+1,by omega,(by dsimp only;omega),?_⟩;refine⟨?_,?_,rfl⟩<;>repeat' (first|exact trivial|with_reducible rfl|exact rfl|refine And.intro ?_ ?_)
   exact eqR (by rw[e])
 .have f:i=10:=by simp at d;omega
  subst f;exact .inl ⟨[⟨[(0,.blk (enC c) tCl)],[(0,0)],false⟩,⟨[(0,.slc ((PL c.kind 10).map (plR b)) tPl 4)],[(0,3)],false⟩,⟨[(0,.adr 0 b)],[(0,2)],false⟩],.osl 1,⟨⟨⟨_,rfl,rfl,rfl⟩,⟨_,rfl,rfl,rfl⟩,⟨_,rfl,rfl,rfl⟩,trivial⟩,rfl,⟨_,rfl⟩,rfl,rfl,⟨b,rfl,by rw[Z19 h];rfl⟩⟩⟩
theorem M5 (b k x:Nat):(plR b x=[noP,adV b x,noP,gI 0]/\plG (.ptr k x) (plT x)=[noP,.ptr k x,noP,gI 0])\/(plR b x=[noP,noP,adV b x,gI 0]/\plG (.ptr k x) (plT x)=[noP,noP,.ptr k x,gI 0])\/(plR b x=[adV b x,noP,noP,gI 1]/\plG (.ptr k x) (plT x)=[.ptr k x,noP,noP,gI 1])\/(plR b x=[adV b x,noP,noP,gI 0]/\plG (.ptr k x) (plT x)=[.ptr k x,noP,noP,gI 0]):=by
 unfold plR plG;split
 .exact .inl ⟨rfl,rfl⟩
 .exact .inr (.inl ⟨rfl,rfl⟩)
 .exact .inr (.inr (.inl ⟨rfl,rfl⟩))
 .exact .inr (.inr (.inr ⟨rfl,rfl⟩))
noncomputable def wrC (c:RCl):G:=.tup [.v (.string ⟨(bC c).toArray⟩),gI (eC c)]
theorem Sg {c:RCl}(h:¬okW c):G.tup [.v (.string ⟨#[]⟩),gI 180]=wrC c:=by unfold wrC bC eC;rw[dp h,dp h]
theorem Z29 (c:RCl):FnV Tryz.prog 10 [.agg (enC c)] λg=>g=wrC c:=by
 refine fnG Tryz.func10 ?_;refine(Od c).cal λq f=>?_;subst f;refine dz (λd=>?_) λd=>?_
 .have d:okB c=false:=by simpa using d
  exact Sg λh=>J7.1 d h.1
 have d:okB c=true:=by simpa using d
 have k:=Gj.1 d;have hr:=k.1.2.2.2.2;refine dw (.done (.same ((Ub c hr).cal λq rs f=>?_)));obtain⟨b,rfl,rfl⟩:=f;refine .done ?_;refine Ax [12,13] [0,2,3] (λi:Nat=>[(14,gI i),(4,.osl 1)]) (λi=>[(1,.slc ((((Ff c.kind).take i).map (fdC c)).map Y4) tFd 3)]) (λi=>i<=(Ff c.kind).length) (λi=>(Ff c.kind).length - i) 0 (aw _) ⟨⟨rfl,rfl⟩,⟨rfl,rfl⟩,trivial⟩ ⟨RL1,trivial⟩ rfl λi t=>?_;have o:=(Th hr).2.1;have l:(Ff c.kind).length<=18:=by rw[<-Z19 hr];exact Uj _ _
 refine dv (λa=>?_) (λa=>?_)
 .have a:i < (Ff c.kind).length:=by simpa using a
  obtain⟨x,r⟩:∃x,(Ff c.kind)[i]?=some x:=⟨_,aq a⟩;refine⟨⟨by omega,by rw[ap];omega⟩,ec r ?_⟩;have m:=Z1z c x (o x (au r));have u:(((Ff c.kind).take i).map (fdC c)).map Y4++[Y4 (fdC c x)]=(((Ff c.kind).take (i+1)).map (fdC c)).map Y4:=by rw[B9 r,ba,ba];rfl
  rcases M5 b 0 x with⟨n,e2⟩ | ⟨n,e2⟩ | ⟨n,e2⟩ | ⟨n,e2⟩
  all_goals
   rw[n];rw[e2] at m
  all_goals
   first
   | refine dw (.done (.rawA (p:=[noP]) 3 0 rfl (.same (m.cal ?_))))
   | refine dw (.done (.rawA (p:=[noP,noP]) 3 0 rfl (.same (m.cal ?_))))
   | refine dw (.done (.rawA (p:=[]) 3 0 rfl (.same (m.cal ?_))))
   intro q rs f;obtain⟨rfl,rfl⟩:=f;refine .done ?_;refine⟨by simp;omega,⟨by omega,i+1,by omega,(by dsimp only;omega),?_⟩⟩;refine⟨?_,?_,rfl⟩<;>repeat' (first|exact trivial|with_reducible rfl|exact rfl|refine And.intro ?_ ?_)
   exact eqR u
 .have t:i=(Ff c.kind).length:=by simp at a;omega
  subst t;rw[List.take_length,<-Pe];have w:(Ox c).length<=18:=by rw[Pe,ap];exact l
  refine(Z3b (Ox c) (by omega)).cal λq rs f=>?_;obtain⟨rfl,rfl⟩:=f;refine dy (fun(j:Ny (Ox c)≠0)=>Sg λh=>j h.2.1) λj=>?_;have j:Ny (Ox c)=0:=j;have v:Zdt (Ox c)=Ic (Ox c):=dq j;rw[v];refine dv (λe=>Sg λh=>?_) λe=>?_
  .have:=h.2.2;have e:(((Ic (Ox c)).map gBy).length:Int) > 200:=e;rw[ap] at e;omega
  .have e:¬(((Ic (Ox c)).map gBy).length:Int) > 200:=e;rw[ap] at e;have s:okW c:=⟨k,j,by omega⟩;refine⟨_,rfl,?_⟩;unfold wrC bC eC;rw[dq s,dq s];exact rfl
noncomputable def rdC (b:Bs):G:=.tup [.agg (enC (dC b)),gI (edC b)]
theorem Jt {b:Bs}(h:¬okR b):G.tup [.agg (enC c00),gI 180]=rdC b:=by unfold rdC dC edC;rw[dp h,dp h]
theorem R9:∀{xs:List Nat} {a:List RFd} {c:RCl} {x:Nat} {f:RFd},xs.length=a.length->Kx c (xs++[x]) (a++[f])=setC (Kx c xs a) x f
 | [],[],_,_,_,_=>rfl
 | y::xs,g::a,c,x,f,h=>by show Kx (setC c y g) (xs++[x]) (a++[f])=setC (Kx (setC c y g) xs a) x f;exact R9 (by simpa using h)
 | [],_::_,_,_,_,h=>by cases h
 | _::_,[],_,_,_,h=>by cases h
theorem Zay {b:Bs}(h:(Ce Z1n b).e=0):∃x y z,(Ce Z1n b).l=[x,y,z]/\hdK b=z.n:=by
 have a:=(Ma Z1n b).2 h;unfold hdK;generalize (Ce Z1n b).l=l at a⊢
 match l,a with
 | [x,y,z],_=>exact⟨x,y,z,rfl,rfl⟩
theorem Z17 (s:ByteArray)(S:s.size<=2000000):FnV Tryz.prog 13 [gS s] λg=>g=rdC s.data.toList:=by
 refine fnG Tryz.func13 ?_;have R:s.data.toList.length=s.size:=rfl;refine(Z7d Z1n s.data.toList (by decide) (by omega)).cal λq d=>?_;subst d;unfold smG;refine dy (fun(y:(Ce Z1n s.data.toList).e≠0)=>Jt λh=>y h.1.1) λy=>?_;have y:(Ce Z1n s.data.toList).e=0:=y;obtain⟨U,T,a,M,v⟩:=Zay y;have r:(Ce Z1n s.data.toList).l[2]?=some a:=by rw[M];rfl
 refine ec r (dv (λE=>Jt λh=>?_) λE=>?_)
 .have:=h.1.2.1;rw[v] at this;have E:a.n < 1:=E;omega
 refine ec r (dv (λC=>Jt λh=>?_) λC=>?_)
 .have:=h.1.2.2;rw[v] at this;have C:a.n > 11:=C;omega
 have E:¬a.n < 1:=E;have C:¬a.n > 11:=C;refine dv (λG=>Jt λh=>?_) λG=>?_
 .have:=h.2.2.1;have G:(s.size:Int) > 200:=G;omega
 have G:¬(s.size:Int) > 200:=G;refine ec r ?_;have hr:1<=a.n/\a.n<=11:=by omega
 have Q:FnO Tryz.prog 34 [.ptr 0 0] [.blk (enC (kC0 a.n)) tCl] λg rs=>∃b,g=.osl 1/\rs=[.blk (enC (kC0 a.n)) tCl,.slc ((Ff a.n).map (plR b)) tPl 4,.adr 0 b]:=Ub (kC0 a.n) hr;have A:=(Th hr).2.1;have J:(Ff a.n).length<=18:=by have:=Uj a.n 10;rw[Z19 hr] at this;exact this
 refine dw (.seen 2 _ _ rfl (.done (.same (Q.cal λq rs d=>?_))));obtain⟨b,rfl,rfl⟩:=d;refine .done ?_;refine Ax [0,2,3,6,7,8,51,52] [0,2,3,4] (λi:Nat=>[(53,gI i),(9,.osl 5)]) (λi=>[(5,.slc ((((Ff a.n).take i).map kdP).map gNi) 3 1)]) (λi=>i<=(Ff a.n).length) (λi=>(Ff a.n).length - i) 0 (aw _) ⟨⟨rfl,rfl⟩,⟨rfl,rfl⟩,trivial⟩ ⟨RL1,trivial⟩ rfl λi F=>?_;refine dv (λc=>?_) (λc=>?_)
 .have c:i < (Ff a.n).length:=by simpa using c
  obtain⟨x,u⟩:∃x,(Ff a.n)[i]?=some x:=⟨_,aq c⟩;refine⟨⟨by omega,by rw[ap];omega⟩,ec u ?_⟩;have m:=A x (au u);have j:=Z1z (kC0 a.n) x m;have I:(((Ff a.n).take i).map kdP).map gNi++[gNi (fdC (kC0 a.n) x).kind]=(((Ff a.n).take (i+1)).map kdP).map gNi:=by rw[B9 u,ba,ba,Ul _ m];rfl
  rcases M5 b 0 x with⟨o,e2⟩ | ⟨o,e2⟩ | ⟨o,e2⟩ | ⟨o,e2⟩
  all_goals
   rw[o];rw[e2] at j
  all_goals
   first
   | refine dw (.done (.rawA (p:=[noP]) 4 2 rfl (.same (j.cal ?_))))
   | refine dw (.done (.rawA (p:=[noP,noP]) 4 2 rfl (.same (j.cal ?_))))
   | refine dw (.done (.rawA (p:=[]) 4 2 rfl (.same (j.cal ?_))))
   intro q rs d;obtain⟨rfl,rfl⟩:=d;refine .done ?_;refine⟨by simp;omega,⟨by omega,i+1,by omega,(by dsimp only;omega),?_⟩⟩;refine⟨?_,?_,rfl⟩<;>repeat' (first|exact trivial|with_reducible rfl|exact rfl|refine And.intro ?_ ?_)
   exact eqR I
 have F:i=(Ff a.n).length:=by simp at c;omega
 subst F;rw[List.take_length];refine(Z4j (ksC a.n) s.data.toList (by unfold ksC;rw[ap];omega) (by omega)).cal λq d=>?_;subst d;have bad:∀h:(Rf (ksC a.n) s.data.toList).e≠0,¬okR s.data.toList:=λh L=>by have:=L.2.1;rw[v] at this;exact h this
 refine dy (fun(w:(Rf (ksC a.n) s.data.toList).e≠0)=>Jt (bad w)) λw=>?_;have w:(Rf (ksC a.n) s.data.toList).e=0:=w;have H:(Rf (ksC a.n) s.data.toList).l.length=(Ff a.n).length:=by obtain⟨N,V,O⟩:=Z8h w;rw[O,(Ma _ _).2 N];unfold ksC;rw[ap]
 obtain⟨k,D⟩:∃k,k=(Rf (ksC a.n) s.data.toList).l:=⟨_,rfl⟩;rw[<-D] at H⊢;refine Ax [0,2,7,12,74,75] [0,3,4] (λi:Nat=>[(76,gI i)]) (λi=>[(2,.blk (enC (Kx (kC0 a.n) ((Ff a.n).take i) (k.take i))) tCl)]) (λi=>i<=(Ff a.n).length) (λi=>(Ff a.n).length - i) 0 (aw _) ⟨⟨rfl,rfl⟩,trivial⟩ ⟨RL1,trivial⟩ rfl λi F=>?_;refine dv (λc=>?_) (λc=>?_)
 .have c:i < (Ff a.n).length:=by simpa using c
  obtain⟨x,u⟩:∃x,(Ff a.n)[i]?=some x:=⟨_,aq c⟩;obtain⟨f,B⟩:∃f,k[i]?=some f:=⟨_,aq (by omega)⟩;refine⟨⟨by omega,by rw[ap];omega⟩,ec u ?_⟩;have m:=A x (au u);have j:=Zfd (Kx (kC0 a.n) ((Ff a.n).take i) (k.take i)) x m f;have I:setC (Kx (kC0 a.n) ((Ff a.n).take i) (k.take i)) x f=Kx (kC0 a.n) ((Ff a.n).take (i+1)) (k.take (i+1)):=by rw[B9 u,B9 B,R9 (by rw[bf,bf];omega)]
  rw[I] at j;rcases M5 b 0 x with⟨o,e2⟩ | ⟨o,e2⟩ | ⟨o,e2⟩ | ⟨o,e2⟩
  all_goals
   rw[o];rw[e2] at j
  all_goals
   refine ec B ?_
   first
   | refine dw (.done (.rawA (p:=[noP]) 4 2 rfl (.same (j.cal ?_))))
   | refine dw (.done (.rawA (p:=[noP,noP]) 4 2 rfl (.same (j.cal ?_))))
   | refine dw (.done (.rawA (p:=[]) 4 2 rfl (.same (j.cal ?_))))
   intro q rs d;obtain⟨rfl,rfl⟩:=d;refine .done ?_;refine⟨by omega,i+1,by omega,(by dsimp only;omega),?_⟩;refine⟨?_,?_,rfl⟩<;>repeat' (first|exact trivial|with_reducible rfl|exact rfl|refine And.intro ?_ ?_)
 have F:i=(Ff a.n).length:=by simp at c;omega
 subst F;rw[List.take_length,bc (by omega:k.length<=(Ff a.n).length)];have P:Kx (kC0 a.n) (Ff a.n) k=reC s.data.toList:=by unfold reC;rw[v,D]
 rw[P];have z:okR s.data.toList↔okC (reC s.data.toList):=⟨λh=>h.2.2.2,λh=>⟨⟨y,by rw[v];exact hr⟩,by rw[v];exact w,by omega,h⟩⟩;refine(Od (reC s.data.toList)).cal λq d=>?_;subst d;refine dz (λt=>?_) λt=>?_
 .have t:okB (reC s.data.toList)=false:=by simpa using t
  exact Jt λh=>J7.1 t (z.1 h)
 .have t:okB (reC s.data.toList)=true:=by simpa using t
  have K:=z.2 (Gj.1 t);unfold rdC dC edC;rw[dq K,dq K];exact rfl
end Go.Proofs.YtmmdikhljefeiaaGreat

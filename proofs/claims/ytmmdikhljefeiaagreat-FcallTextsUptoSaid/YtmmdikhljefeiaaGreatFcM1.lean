
import Derived.Test.YtmmdikhljefeiaaGreatYQp
import Derived.Test.YtmmdikhljefeiaaGreatQM1
import Derived.Test.YtmmdikhljefeiaaGreatPKM
import Derived.Test.YtmmdikhljefeiaaGreatYFnu
import Derived.Test.YtmmdikhljefeiaaGreatSxMc
import Derived.Test.YtmmdikhljefeiaaGreatYFtT
import Derived.Test.YtmmdikhljefeiaaGreatYFtU
namespace Go.Proofs.YtmmdikhljefeiaaGreat
open Go.RowKit
structure RCl where
 client:Int
 number:Int
 kind:Int
 h:Int × Int
 g:Int × Int
 name:ByteArray
 other:ByteArray
 m:RMk
 fo:Bool
 pos:Int
 n:Int
 time:Int
 b:ByteArray
structure RNf where
 id:Int
 gen:Int
 kind:Int
 mode:Int
 links:Int
 size:Int
 blocks:Int
 time:Int
structure RAn where
 code:Int
 h:Int × Int
 b:ByteArray
 i:RNf
 names:List ByteArray
def nf0:RNf:=⟨0,0,0,0,0,0,0,0⟩
def an0:RAn:=⟨0,(0,0),eS,nf0,[]⟩
def mk0:RMk:=⟨0,0,0,eS⟩
def R1 (c:RCl):RCl where
 client:=c.client
 number:=c.number
 kind:=c.kind
 h:=c.h
 g:=if c.kind=2\/c.kind=4 then c.g else(0,0)
 name:=if c.kind=1\/c.kind=2\/c.kind=3\/c.kind=4\/c.kind=7 then c.name else eS
 other:=if c.kind=4 then c.other else eS
 m:=if c.kind=1 then c.m else mk0
 fo:=if c.kind=3 then c.fo else false
 pos:=if c.kind=5\/c.kind=8 then c.pos else 0
 n:=if c.kind=6\/c.kind=8 then c.n else 0
 time:=if c.kind=5\/c.kind=6 then c.time else 0
 b:=if c.kind=5 then c.b else eS
def Zbv (c:RCl):Prop:=1<=c.client/\c.client<=1000000/\1<=c.number/\c.number<=big/\1<=c.kind/\c.kind<=11
def okC (c:RCl):Prop:=Zbv c/\c=R1 c
open Classical in
noncomputable def okB (c:RCl):Bool:=decide (okC c)
open Classical in
theorem Hj {c:RCl}:okB c=true↔okC c:=by unfold okB;exact decide_eq_true_iff
open Classical in
theorem Hx {c:RCl}:okB c=false↔¬okC c:=by unfold okB;exact decide_eq_false_iff_not
def wF (n:Int):RFd:=⟨2,n,eS⟩
def tF (s:ByteArray):RFd:=⟨3,0,s⟩
def Fu (c:RCl):List RFd :=
 [wF c.client,wF c.number,⟨1,c.kind,eS⟩,wF c.h.1,wF c.h.2]
 ++ ((if c.kind=2\/c.kind=4 then [wF c.g.1,wF c.g.2] else [])
 ++ ((if c.kind=1\/c.kind=2\/c.kind=3\/c.kind=4\/c.kind=7 then [tF c.name] else [])
 ++ ((if c.kind=4 then [tF c.other] else [])
 ++ ((if c.kind=1 then [wF c.m.kind,wF c.m.mode,wF c.m.time,tF c.m.target] else [])
 ++ ((if c.kind=3 then [⟨4,bI c.fo,eS⟩] else [])
 ++ ((if c.kind=5\/c.kind=8 then [wF c.pos] else [])
 ++ ((if c.kind=6\/c.kind=8 then [wF c.n] else [])
 ++ ((if c.kind=5\/c.kind=6 then [wF c.time] else [])
 ++ (if c.kind=5 then [tF c.b] else [])))))))))
def okW (c:RCl):Prop:=okC c/\Jl (Fu c)=0/\(Fp (Fu c)).length<=200
open Classical in
noncomputable def bC (c:RCl):Bs:=if okW c then Fp (Fu c) else []
open Classical in
noncomputable def eC (c:RCl):Int:=if okW c then 0 else 180
def Z2v (r:RFs)(h:Int × Int):RNf:=if An r h=true then⟨h.1,h.2,(A3 r.ins h.1).kind,(A3 r.ins h.1).mode,(A4 r (A3 r.ins h.1):Int),M8 r (A3 r.ins h.1),((A3 r.ins h.1).On.length:Int),(A3 r.ins h.1).time⟩ else nf0
noncomputable def Ev (r:RFs) (c:RCl):RFs × RAn :=
 if c.kind=1 then((D9 r c.h c.name c.m).1,{an0 with h:=(D9 r c.h c.name c.m).2.1,code:=(D9 r c.h c.name c.m).2.2})
 else if c.kind=2 then((Ee r c.h c.g c.name).1,{an0 with code:=(Ee r c.h c.g c.name).2})
 else if c.kind=3 then((Cb r c.h c.name c.fo).1,{an0 with code:=(Cb r c.h c.name c.fo).2})
 else if c.kind=4 then((E6 r c.h c.name c.g c.other).1,{an0 with code:=(E6 r c.h c.name c.g c.other).2})
 else if c.kind=5 then((Bz r c.h c.pos c.b.data.toList c.time).1,{an0 with code:=(Bz r c.h c.pos c.b.data.toList c.time).2})
 else if c.kind=6 then((Fs r c.h c.n c.time).1,{an0 with code:=(Fs r c.h c.n c.time).2})
 else if c.kind=7 then(r,{an0 with h:=(Fz r c.h c.name).1,code:=(Fz r c.h c.name).2})
 else if c.kind=8 then(r,{an0 with b:=⟨((Da r c.h c.pos c.n).1.take 1000).toArray⟩,code:=(Da r c.h c.pos c.n).2})
 else if c.kind=9 then(r,{an0 with i:=Z2v r c.h,code:=C2 r c.h})
 else if c.kind=10 then(r,{an0 with names:=(Jb r c.h).take 50,code:=Az r c.h})
 else(r,{an0 with b:=(Ds r c.h).1,code:=(Ds r c.h).2})
structure RLs where
 client:Int
 number:Int
 a:RAn
structure RTb where
 r:RFs
 l:List RLs
def Fa (l:List RLs)(client:Int):RLs:=(l.find? λx=>decide (x.client=client)).getD ⟨0,0,an0⟩
def Mc (e:Int):RAn:={an0 with code:=e}
open Classical in
noncomputable def Dw (t:RTb) (c:RCl):RTb × RAn :=
 if ¬okC c then(t,Mc 180)
 else if c.number < (Fa t.l c.client).number\/((Fa t.l c.client).number=0/\t.l.length >= 100) then(t,Mc 1)
 else if c.number=(Fa t.l c.client).number then(t,(Fa t.l c.client).a)
 else(⟨(Ev t.r c).1,t.l.filter (λx=>decide (x.client≠c.client))++[⟨c.client,c.number,(Ev t.r c).2⟩]⟩,(Ev t.r c).2)
set_option maxRecDepth 100000
abbrev Zdt:Nat:=9
def enC (c:RCl):List G:=[gI c.client,gI c.number,gI c.kind,gI c.h.1,gI c.h.2,gI c.g.1,gI c.g.2,gS c.name,gS c.other,gI c.m.kind,gI c.m.mode,gI c.m.time,gS c.m.target,.v (.bool c.fo),gI c.pos,gI c.n,gI c.time,gS c.b]
def Zdm (i:RNf):List G:=[gI i.id,gI i.gen,gI i.kind,gI i.mode,gI i.links,gI i.size,gI i.blocks,gI i.time]
def Iy (a:RAn):List G:=[gI a.code,gI a.h.1,gI a.h.2,gS a.b]++(Zdm a.i++[.sl (a.names.map gSt)])
theorem Z2m (r:RFs)(h:Int × Int):Z4v r h=.tup [.agg (Zdm (Z2v r h)),gI (C2 r h)]:=by unfold Z4v Z2v C2;split<;>rfl
def Z9k (k:Int):Int:=if k=1 then 21 else if k=2 then 7 else if k=3 then 37 else if k=4 then 15 else if k=5 then 833 else if k=6 then 385 else if k=7 then 5 else if k=8 then 193 else if k=9 then 1 else if k=10 then 1 else if k=11 then 1 else 0
theorem Er {k:Int}(h:1<=k/\k<=11):k=1\/k=2\/k=3\/k=4\/k=5\/k=6\/k=7\/k=8\/k=9\/k=10\/k=11:=by omega
theorem Zm (k:Int):FnV Tryz.prog 28 [gI k] λg=>g=.v (.bool (decide (7<=k/\k<=11))):=by
 refine fnG Tryz.func28 ?_;refine du (λa=>?_) λa=>?_
 .exact congrArg (λb=>G.v (.bool b)) (decide_eq_decide.2 ⟨λh=>⟨a,h⟩,λh=>h.2⟩)
 .rw[decide_eq_false (λh:7<=k/\k<=11=>a h.1)];exact rfl
theorem Z5n (k:Int)(h:1<=k/\k<=11):FnV Tryz.prog 63 [gI k] λg=>g=gI (Z9k k):=by
 rcases Er h with rfl | rfl | rfl | rfl | rfl | rfl | rfl | rfl | rfl | rfl | rfl
 all_goals
  refine fnG Tryz.func63 ?_;exact⟨by decide,rfl⟩
theorem Md {b c:Bool}{A B:Prop}(e:b=c)(h:bif c then A else B):EvIf b A B:=by
 subst e;cases b
 .exact⟨λe=>(by cases e),λ_=>h⟩
 .exact⟨λ_=>h,λe=>(by cases e)⟩
theorem Zb6 (c:RCl)(h:1<=c.kind/\c.kind<=11):FnV Tryz.prog 62 [.agg (enC c)] λg=>g=.agg (enC (R1 c)):=by
 refine fnG Tryz.func62 ?_;obtain⟨client,number,kind,d,g,name,other,m,fo,pos,n,time,b⟩:=c;dsimp only at h;rcases Er h with rfl | rfl | rfl | rfl | rfl | rfl | rfl | rfl | rfl | rfl | rfl
 all_goals
  refine(Z5n _ h).cal λq a=>?_;subst a
  iterate 10 first | refine Md (c:=true) (by decide +kernel) ?_ | refine Md (c:=false) (by decide +kernel) ?_
  exact rfl
def Ka (c:RCl):List Value:=[.int .i64 c.client,.int .i64 c.number,.int .i64 c.kind,.int .i64 c.h.1,.int .i64 c.h.2,.int .i64 c.g.1,.int .i64 c.g.2,.string c.name,.string c.other,.int .i64 c.m.kind,.int .i64 c.m.mode,.int .i64 c.m.time,.string c.m.target,.bool c.fo,.int .i64 c.pos,.int .i64 c.n,.int .i64 c.time,.string c.b]
def shC:List Sh:=[.i .i64,.i .i64,.i .i64,.i .i64,.i .i64,.i .i64,.i .i64,.s,.s,.i .i64,.i .i64,.i .i64,.s,.b,.i .i64,.i .i64,.i .i64,.s]
theorem Yb {c d:RCl}(h:enC c=enC d):c=d:=by obtain⟨F,z,s,⟨a,J⟩,⟨n,g⟩,C,x,⟨q,L,N,I⟩,E,j,m,k,w⟩:=c;obtain⟨c1,b,e,⟨i,D⟩,⟨t,A⟩,M,f,⟨B,r,o,p⟩,K,l,H,y,u⟩:=d;simp only[enC,List.cons.injEq,G.v.injEq,Value.int.injEq,Value.string.injEq,Value.bool.injEq,true_and,and_true] at h;obtain⟨rfl,rfl,rfl,rfl,rfl,rfl,rfl,rfl,rfl,rfl,rfl,rfl,rfl,rfl,rfl,rfl,rfl,rfl⟩:=h;rfl
theorem Ou (c:RCl):FnV Tryz.prog 33 [.agg (enC c)] λg=>g=.v (.bool (okB c)):=by
 refine fnG Tryz.func33 ?_;have no:¬Zbv c->G.v (.bool false)=G.v (.bool (okB c)):=λh=>by rw[Hx.2 λl=>h l.1]
 refine du (λd=>?_) λd=>no λh=>d h.1;refine du (λf=>?_) λf=>no λh=>f h.2.1;refine du (λj=>?_) λj=>no λh=>j h.2.2.1;refine du (λi=>?_) λi=>no λh=>i h.2.2.2.1;refine du (λa=>?_) λa=>no λh=>a h.2.2.2.2.1;refine du (λb=>?_) λb=>no λh=>b h.2.2.2.2.2;refine(Zb6 c ⟨a,b⟩).cal λq k=>?_;subst k;refine EvEq.flat shC (Ka c) (Ka (R1 c)) (by kernel_rfl) (by kernel_rfl) (by kernel_rfl) rfl rfl rfl rfl (λe=>?_) λe=>?_
 .have e:enC c=enC (R1 c):=congrArg (List.map G.v) e;have:okB c=true:=Hj.2 ⟨⟨d,f,j,i,a,b⟩,Yb e⟩;rw[this];exact rfl
 .have:okB c=false:=Hx.2 λh=>e (congrArg Ka h.2);rw[this];exact rfl
theorem Z1u (l:List ByteArray):∀r∈l.map gSt,r.length=1/\r.all G.one=true:=λr hr=>by obtain⟨c,-,rfl⟩:=bi.1 hr;exact⟨rfl,rfl⟩
theorem Z3 {own:Os}{n k:Nat}{a b:List (List G)}{e sz:Nat}(h:look k own=some (.slc a e sz))(c:a=b):Z8o [] own n (.osl k) (λg rs=>g=.osl 0/\rs=[.slc b e sz]):=by subst c;exact .inl ⟨[⟨[(0,.slc a e sz)],[(0,k)],false⟩],.osl 0,⟨⟨⟨_,rfl,h,rfl⟩,trivial⟩,rfl,⟨_,rfl⟩,rfl,rfl,⟨rfl,rfl⟩⟩⟩
theorem Zp (l:List ByteArray)(d:l.length<=1000000):FnO Tryz.prog 70 [.sl (l.map gSt)] [] λg rs=>g=.osl 0/\rs=[.slc (l.map gSt) Zdt 1]:=by
 refine Z3e Tryz.func70 (Z84 _) ?_;refine⟨λb c=>?_⟩;refine dy (λh=>?_) λh=>?_
 .have e:l.map gSt=[]:=cf λa=>by rw[c a] at h;cases h
  exact Z3 (k:=1) rfl e.symm
 .refine⟨Z1u l,by simp;omega,?_⟩;exact Z3 (k:=2) rfl (dh _)
theorem Xn (a:RAn)(c:a.names.length<=1000000):FnV Tryz.prog 46 [.agg (Iy a)] λg=>g=.agg (Iy a):=by refine fnG Tryz.func46 ?_;refine(Zp a.names c).cal λq rs b=>?_;obtain⟨rfl,rfl⟩:=b;exact rfl
theorem Z27 {r:RFs}{K:Nat}(h:Int × Int):FnO Tryz.prog 79 [.ptr 0 0,gH h] (fP r K) λg rs=>g=.tup [gS (Ds r h).1,gI (Ds r h).2]/\rs=fP r K :=
 Lt ⟨_,Tryz.func79,by kernel_rfl,by kernel_rfl⟩ rfl λI w b j k N vs l c i a=>by obtain⟨m,vs,rfl,f,a⟩:=a.uncons;obtain rfl:=a.of_nil;rw[F4 f];exact(Vf c i h.1 h.2).mono λe w' ⟨d,hb⟩=>⟨_,d,Gi (.v _) (.v _),hb⟩
theorem Z8e {I:Imm}{V:Va}{w:World}{p d:Ob}(q:V.n=2)(j:Mem I w)(i:Loc p/\p I (V.b 0) (V.f 0) w)(e:Loc d/\d I (V.b 1) (V.f 1) w)(g:∀k b,V.f k b->k < 2->b < w.heap.size/\∀o,I b o=none)(hd:∀b,V.f 0 b->¬V.f 1 b):Has I V (Ep [.abs p,.abs d] 0) w:=by
 have lk:∀k r,look k (Ep [.abs p,.abs d] 0)=some r->k=0/\r=.abs p\/k=1/\r=.abs d:=λk r h=>by
  rw[Bf] at h
  match k,h with
  | 0,h=>simp at h;exact .inl ⟨rfl,h.symm⟩
  | 1,h=>simp at h;exact .inr ⟨rfl,h.symm⟩
  | k+2,h=>simp at h
 refine⟨j,λk r h=>?_,λk r h=>?_,λk r b h a=>?_,λk m r r' b h l a c=>?_⟩
 .rcases lk k r h with⟨rfl,-⟩ | ⟨rfl,-⟩<;>omega
 .rcases lk k r h with⟨rfl,rfl⟩ | ⟨rfl,rfl⟩
  .exact i
  .exact e
 .rcases lk k r h with⟨rfl,-⟩ | ⟨rfl,-⟩
  .exact g 0 b a (by omega)
  .exact g 1 b a (by omega)
 .rcases lk k r h with⟨rfl,-⟩ | ⟨rfl,-⟩<;>rcases lk m r' l with⟨rfl,-⟩ | ⟨rfl,-⟩
  .rfl
  .exact dq c (hd b a)
  .exact dq a (hd b c)
  .rfl
theorem Z7x {r:RFs}{K:Nat}(_:Gd r K):FnO Tryz.prog 56 [.ptr 0 0] (fP r K) λg rs=>g=.ptr 1 0/\rs=[.abs (fsP r K),.abs (fsP r K)] :=
 ⟨⟨_,Tryz.func56,by kernel_rfl,by kernel_rfl⟩,λI V w vs hH p u=>by
  obtain⟨x,L,rfl,m,v⟩:=u.uncons;obtain rfl:=v.of_nil;obtain⟨-,rfl⟩:=(show 0 < V.n/\x=.pointer (some ⟨V.b 0,0,none⟩) from m);obtain⟨-,A,C,N,t,l,y⟩:=hH.each 0 (.abs (fsP r K)) rfl;have c:=λb a=>hH.foot 0 (.abs (fsP r K)) b rfl a;have B:V.n=1:=p;refine(Wn t l).mono λe w' ⟨j,mi',mg',N',he,hF,hB,hnew⟩=>?_;have D:Mem I w':=hH.mem.keep λb o x m=>hB.block b (hH.mem.lt m);refine⟨_,.ptr 1 0,_,I,⟨2,λk=>if k=0 then V.b 0 else j,V.s,λk b=>if k=0 then V.f 0 b else b∈fpL j mi' mg' N'⟩,he,⟨rfl,rfl⟩,rfl,Z8e rfl D ⟨Hf _ _,?_⟩ ⟨Hf _ _,mi',mg',N',hF,l,λk=>Iff.rfl⟩ (λk b a i=>?_) (λb F q=>?_),⟨da _,rfl⟩,⟨hB.os,hB.tape,hB.output,hB.size,λb a _=>⟨hB.block b a,λ_=>rfl⟩,λ_ _ _ h=>h,λk r' b i a E=>?_⟩,⟨by show V.n<=2;omega,λk i=>?_⟩⟩
  .exact Hf r K _ _ _ _ _ _ ⟨A,C,N,t,l,y⟩ (λ_ _ _ h=>h) hB.os hB.size λk i=>hB.block k (c k i).1
  .match k,a,i with
   | 0,a,_=>exact⟨bc (c b a).1 hB.size,(c b a).2⟩
   | 1,a,_ =>
    have a:b∈fpL j mi' mg' N':=a;refine⟨?_,λo=>?_⟩
    .obtain⟨z,J,G,H⟩:=hF.lt l;rcases Fy.1 a with rfl | rfl | rfl | ⟨n,p,i⟩
     .exact z
     .exact J
     .exact G
     .exact H n p b i
    .cases hI:I b o with
     | none=>rfl
     | some x=>exact dq (hH.mem.lt hI) (by have:=hnew b a;omega)
  .have q:b∈fpL j mi' mg' N':=q;have:=hnew b q;have:=(c b F).1;omega
  .by_cases d:k=0
   .have a:V.f 0 b:=by have:=a;dsimp only at this;rw[dp d] at this;exact this
    exact⟨0,_,rfl,a⟩
   .have a:b∈fpL j mi' mg' N':=by have:=a;dsimp only at this;rw[dn d] at this;exact this
    have:=hnew b a;omega
  .have d:k=0:=by omega
   subst d;exact⟨rfl,rfl⟩⟩
abbrev tTb:Nat:=113
abbrev oT (r:RFs)(K:Nat)(L:List (Int × G)):List R:=[.blk [.ptr 1 0,.mp 2] tTb,.abs (fsP r K),.mpI L]
def gLs (x:RLs):G:=.agg (gI x.number::Iy x.a)
structure SmC (c:RCl):Prop where
 nm:c.name.size<=maxLen
 ot:c.other.size<=maxLen
 tg:c.m.target.size<=maxLen
 b:c.b.size<=maxLen
def itT (r:RFs)(K:Nat)(L:List (Int × G)):List It:=[⟨[(0,.blk [.ptr 1 0,.mp 2] tTb)],[(0,0)],false⟩,⟨[(0,.abs (fsP r K))],[(0,1)],false⟩,⟨[(0,.mpI L)],[(0,2)],false⟩]
theorem Cy {own:Os}{n:Nat}{g:G}{Q:G->List R->Prop}(r:RFs)(K:Nat)(L:List (Int × G))(a:G)(d:look 0 own=some (.blk [.ptr 1 0,.mp 2] tTb))(c:look 1 own=some (.abs (fsP r K)))(e:look 2 own=some (.mpI L))(hr:Qp (Dy (itT r K L) 0) a=g)(h:(Z1g 3 a&&Zdr a&&Zdv 3 a)=true)(f:Q a (oT r K L)):∃b a,X0 [0,1,2] own n g Q b a :=
 ⟨itT r K L,a,⟨⟨⟨_,rfl,d,rfl⟩,⟨_,rfl,c,rfl⟩,⟨_,rfl,e,rfl⟩,trivial⟩,rfl,⟨[],rfl⟩,hr,h,f⟩⟩
def Zc6 (r:RFs)(K:Nat)(L:List (Int × G))(c:RCl)(g:G)(rs:List R):Prop:=∃a,a<=K+1/\Gd (Ev r c).1 a/\g=.agg (Iy (Ev r c).2)/\rs=oT (Ev r c).1 a L
theorem Ec {r r':RFs}{K b:Nat}{L:List (Int × G)}{c:RCl}{a:RAn}(h:Ev r c=(r',a))(e:b<=K+1)(d:Gd r' b):Zc6 r K L c (.agg (Iy a)) (oT r' b L):=by unfold Zc6;rw[h];exact⟨b,e,d,rfl,rfl⟩
theorem Z16 (r:RFs){K:Nat}(o:K<=1000000)(L:List (Int × G))(c:RCl)(f:SmC c)(s:1<=c.kind/\c.kind<=6):FnO Tryz.prog 47 [.ptr 0 0,.agg (enC c)] (oT r K L) (Zc6 r K L c):=by
 refine Z3e Tryz.func47 (Ea _ _) ?_;refine dt (fun(e:c.kind=1)=>?_) (fun(e:¬c.kind=1)=>?_)
 .refine(Zb1 o c.h c.name f.nm c.m f.tg).cal λq rs d=>?_;obtain⟨rfl,rfl,a⟩:=d;exact .gh (.done (Cy _ _ _ (.agg (Iy {an0 with h:=(D9 r c.h c.name c.m).2.1,code:=(D9 r c.h c.name c.m).2.2})) rfl rfl rfl rfl rfl (Ec (by unfold Ev;rw[dp e]) (au _) a)))
 refine dt (fun(i:c.kind=2)=>?_) (fun(i:¬c.kind=2)=>?_)
 .refine(Za3 c.h c.g c.name f.nm).cal λq rs d=>?_;obtain⟨rfl,rfl,a⟩:=d;exact .gh (.done (Cy _ _ _ (.agg (Iy {an0 with code:=(Ee r c.h c.g c.name).2})) rfl rfl rfl rfl rfl (Ec (by unfold Ev;rw[dn e,dp i]) (au _) a)))
 refine dt (fun(j:c.kind=3)=>?_) (fun(j:¬c.kind=3)=>?_)
 .refine(Z2w c.h c.name f.nm c.fo).cal λq rs d=>?_;obtain⟨rfl,rfl,a⟩:=d;exact .gh (.done (Cy _ _ _ (.agg (Iy {an0 with code:=(Cb r c.h c.name c.fo).2})) rfl rfl rfl rfl rfl (Ec (by unfold Ev;rw[dn e,dn i,dp j]) (Nat.le_succ _) a)))
 refine dt (fun(k:c.kind=4)=>?_) (fun(k:¬c.kind=4)=>?_)
 .refine(Z2z c.h c.name f.nm c.g c.other f.ot).cal λq rs d=>?_;obtain⟨rfl,rfl,a⟩:=d;exact .gh (.done (Cy _ _ _ (.agg (Iy {an0 with code:=(E6 r c.h c.name c.g c.other).2})) rfl rfl rfl rfl rfl (Ec (by unfold Ev;rw[dn e,dn i,dn j,dp k]) (Nat.le_succ _) a)))
 refine dt (fun(l:c.kind=5)=>?_) (fun(l:¬c.kind=5)=>?_)
 .refine(Z6r c.h c.pos c.b.data.toList (by have:=f.b;exact this) c.time).cal λq rs d=>?_;obtain⟨rfl,rfl,a⟩:=d;exact .gh (.done (Cy _ _ _ (.agg (Iy {an0 with code:=(Bz r c.h c.pos c.b.data.toList c.time).2})) rfl rfl rfl rfl rfl (Ec (by unfold Ev;rw[dn e,dn i,dn j,dn k,dp l]) (Nat.le_succ _) a)))
 have p:c.kind=6:=by omega
 refine(Zcy c.h c.n c.time).cal λq rs d=>?_;obtain⟨rfl,rfl,a⟩:=d;exact .gh (.done (Cy _ _ _ (.agg (Iy {an0 with code:=(Fs r c.h c.n c.time).2})) rfl rfl rfl rfl rfl (Ec (by unfold Ev;rw[dn e,dn i,dn j,dn k,dn l,dp p]) (Nat.le_succ _) a)))
theorem Tt {α:Type}(f:α->List G)(l:List α)(k:Nat):Fo (l.map f) (Int.toNat 0) (min ((l.map f).length:Int) (k:Int)).toNat=(l.take k).map f:=by
 unfold Fo;rw[show(Int.toNat 0)=0 from rfl,List.drop_zero,<-dc,ao]
 congr 1
 by_cases h:l.length<=k
 .rw[ba (by omega),ba h]
 .congr 1;omega
theorem Z5c (r:RFs){K:Nat}(f:Gd r K)(t:K<=1000000)(L:List (Int × G))(c:RCl)(u:SmC c)(w:7<=c.kind/\c.kind<=11):FnO Tryz.prog 48 [.ptr 0 0,.agg (enC c)] (oT r K L) (Zc6 r K L c):=by
 refine Z3e Tryz.func48 (Ea _ _) ?_;have j:¬c.kind=1:=by omega
 have l:¬c.kind=2:=by omega
 have o:¬c.kind=3:=by omega
 have m:¬c.kind=4:=by omega
 have n5:¬c.kind=5:=by omega
 have n6:¬c.kind=6:=by omega
 refine dt (fun(d:c.kind=7)=>?_) (fun(d:¬c.kind=7)=>?_)
 .refine(Z9q c.h c.name u.nm).cal λq rs a=>?_;obtain⟨rfl,rfl⟩:=a;exact .gh (.done (Cy _ _ _ (.agg (Iy {an0 with h:=(Fz r c.h c.name).1,code:=(Fz r c.h c.name).2})) rfl rfl rfl rfl rfl (Ec (by unfold Ev;rw[dn j,dn l,dn o,dn m,dn n5,dn n6,dp d]) (Nat.le_succ _) f)))
 refine dt (fun(k:c.kind=8)=>?_) (fun(k:¬c.kind=8)=>?_)
 .refine(Z8c c.h c.pos c.n).cal λq rs a=>?_;obtain⟨rfl,rfl⟩:=a;refine⟨⟨Int.le_refl _,by omega,by omega⟩,⟨λr hr=>(by obtain⟨x,-,rfl⟩:=bi.1 hr;rfl),?_⟩⟩;refine EvBytes.mk ⟨(Da r c.h c.pos c.n).1.take 1000,Tt gBy _ 1000,?_⟩;exact .gh (.done (Cy _ _ _ (.agg (Iy {an0 with b:=⟨((Da r c.h c.pos c.n).1.take 1000).toArray⟩,code:=(Da r c.h c.pos c.n).2})) rfl rfl rfl rfl rfl (Ec (by unfold Ev;rw[dn j,dn l,dn o,dn m,dn n5,dn n6,dn d,dp k]) (Nat.le_succ _) f)))
 refine dt (fun(p:c.kind=9)=>?_) (fun(p:¬c.kind=9)=>?_)
 .refine(Zap c.h).cal λq rs a=>?_;obtain⟨rfl,rfl⟩:=a;rw[Z2m];exact .gh (.done (Cy _ _ _ (.agg (Iy {an0 with i:=Z2v r c.h,code:=C2 r c.h})) rfl rfl rfl rfl rfl (Ec (by unfold Ev;rw[dn j,dn l,dn o,dn m,dn n5,dn n6,dn d,dn k,dp p]) (Nat.le_succ _) f)))
 refine dt (fun(s:c.kind=10)=>?_) (fun(s:¬c.kind=10)=>?_)
 .refine(Z94 t c.h).cal λq rs a=>?_;obtain⟨rfl,rfl⟩:=a;refine⟨⟨Int.le_refl _,by omega,by omega⟩,⟨λr hr=>(by obtain⟨x,-,rfl⟩:=bi.1 hr;rfl),?_⟩⟩;have v:FnO Tryz.prog 70 [.sl (Fo ((Jb r c.h).map gSt) (Int.toNat 0) (min (((Jb r c.h).map gSt).length:Int) 50).toNat)] [] λg rs=>g=.osl 0/\rs=[.slc (((Jb r c.h).take 50).map gSt) Zdt 1]:=by
   have e:=Tt gSt (Jb r c.h) 50;rw[show(((50:Nat):Int))=50 from rfl] at e;rw[e];exact Zp _ (by rw[be];omega)
  refine v.cal λq rs a=>?_;obtain⟨rfl,rfl⟩:=a;have e:Ev r c=(r,{an0 with names:=(Jb r c.h).take 50,code:=Az r c.h}):=by unfold Ev;rw[dn j,dn l,dn o,dn m,dn n5,dn n6,dn d,dn k,dn p,dp s]
  exact .gh (.frz 6 _ _ _ rfl (.done (Cy r K L (.agg (Iy {an0 with names:=(Jb r c.h).take 50,code:=Az r c.h})) rfl rfl rfl rfl rfl (Ec e (Nat.le_succ _) f))))
 refine(Z27 c.h).cal λq rs a=>?_;obtain⟨rfl,rfl⟩:=a;exact .gh (.done (Cy _ _ _ (.agg (Iy {an0 with b:=(Ds r c.h).1,code:=(Ds r c.h).2})) rfl rfl rfl rfl rfl (Ec (by unfold Ev;rw[dn j,dn l,dn o,dn m,dn n5,dn n6,dn d,dn k,dn p,dn s]) (Nat.le_succ _) f)))
structure FM (t:RTb)(K:Nat)(L:List (Int × G)):Prop where
 gd:Gd t.r K
 lk:∀id,Au L id=(t.l.find? λx=>decide (x.client=id)).map gLs
 len:L.length=t.l.length
 nm:∀x∈t.l,x.a.names.length<=1000000
 nu:∀x∈t.l,1<=x.number
 nd:(t.l.map RLs.client).Nodup
def ApP (t:RTb)(K:Nat)(c:RCl)(g:G)(rs:List R):Prop:=g=.agg (Iy (Dw t c).2)/\∃a b,a<=K+1/\FM (Dw t c).1 a b/\rs=oT (Dw t c).1.r a b
theorem Zy {l:List RLs}{id:Int}(h:l.find? (λx=>decide (x.client=id))=none):Fa l id=⟨0,0,an0⟩:=by unfold Fa;rw[h];rfl
theorem Z1a {l:List RLs}{id:Int}{x:RLs}(h:l.find? (λx=>decide (x.client=id))=some x):Fa l id=x/\x∈l/\x.client=id:=by refine⟨by unfold Fa;rw[h];rfl,List.mem_of_find?_eq_some h,by simpa using List.find?_some h⟩
theorem Sl {t:RTb}{c:RCl}(h:okC c)(a:¬(c.number < (Fa t.l c.client).number\/((Fa t.l c.client).number=0/\t.l.length >= 100)))(b:¬c.number=(Fa t.l c.client).number):Dw t c=(⟨(Ev t.r c).1,t.l.filter (λx=>decide (x.client≠c.client))++[⟨c.client,c.number,(Ev t.r c).2⟩]⟩,(Ev t.r c).2):=by unfold Dw;rw[dn (λe=>e h),dn a,dn b]
theorem Zs {t:RTb}{c:RCl}(h:okC c)(b:¬(c.number < (Fa t.l c.client).number\/((Fa t.l c.client).number=0/\t.l.length >= 100)))(d:c.number=(Fa t.l c.client).number):Dw t c=(t,(Fa t.l c.client).a):=by unfold Dw;rw[dn (λe=>e h),dn b,dp d]
theorem Ye {t:RTb}{c:RCl}(h:okC c)(a:c.number < (Fa t.l c.client).number\/((Fa t.l c.client).number=0/\t.l.length >= 100)):Dw t c=(t,Mc 1):=by unfold Dw;rw[dn (λe=>e h),dp a]
theorem Xi {t:RTb}{c:RCl}(h:¬okC c):Dw t c=(t,Mc 180):=by unfold Dw;rw[dp h]
theorem Z3q {l:List RLs}{y:RLs}(id:Int):(l.filter (λx=>decide (x.client≠y.client))++[y]).find? (λx=>decide (x.client=id))=if y.client=id then some y else l.find? (λx=>decide (x.client=id)):=by
 rw[List.find?_append];by_cases h:y.client=id
 .have e:(l.filter (λx=>decide (x.client≠y.client))).find? (λx=>decide (x.client=id))=none:=by
   rw[List.find?_eq_none];intro x b;have:=(af.1 b).2;simp at this⊢;omega
  rw[e,dp h,List.find?_cons_of_pos (by simpa using h)];rfl
 .rw[dn h,List.find?_cons_of_neg (by simpa using h),List.find?_nil,Option.or_none]
  induction l with
  | nil=>rfl
  | cons x l ih =>
   by_cases b:x.client=y.client
   .rw[List.filter_cons_of_neg (by simpa using b),List.find?_cons_of_neg (by simp;omega),ih]
   .rw[List.filter_cons_of_pos (by simpa using b)];by_cases a:x.client=id
    .rw[List.find?_cons_of_pos (by simpa using a),List.find?_cons_of_pos (by simpa using a)]
    .rw[List.find?_cons_of_neg (by simpa using a),List.find?_cons_of_neg (by simpa using a),ih]
theorem Z4p {l:List RLs}(a:(l.map RLs.client).Nodup)(id:Int):(l.filter (λx=>decide (x.client≠id))).length+(if(l.find? (λx=>decide (x.client=id))).isSome=true then 1 else 0)=l.length:=by
 induction l with
 | nil=>rfl
 | cons x l ih =>
  rw[cu,List.nodup_cons] at a;by_cases h:x.client=id
  .rw[List.filter_cons_of_neg (by simpa using h),List.find?_cons_of_pos (by simpa using h),bk];have e:l.filter (λx=>decide (x.client≠id))=l:=List.filter_eq_self.2 λy b=>by
    have:y.client≠x.client:=λe=>a.1 (by rw[<-e];exact bi.2 ⟨y,b,rfl⟩);simp;omega
   rw[e];rfl
  .rw[List.filter_cons_of_pos (by simpa using h),List.find?_cons_of_neg (by simpa using h),bk,bk,<-ih a.2];omega
theorem Z51 {κ β:Type}[DecidableEq κ](L:List (κ × β))(k:κ)(v:β):(Gn L k v).length=L.length+(if(Au L k).isSome=true then 0 else 1):=by
 unfold Gn;split
 .rw[ao];rfl
 .rw[bf];rfl
theorem FM.put {t:RTb}{K f:Nat}{L:List (Int × G)}(h:FM t K L){r':RFs}(i:Gd r' f)(y:RLs)(m:y.a.names.length<=1000000)(j:1<=y.number):FM ⟨r',t.l.filter (λx=>decide (x.client≠y.client))++[y]⟩ f (Gn L y.client (gLs y)):=by
 refine⟨i,λid=>?_,?_,λx c=>?_,λx c=>?_,?_⟩
 .show _=((t.l.filter (λx=>decide (x.client≠y.client))++[y]).find? _).map gLs;rw[Cs,Z3q,h.lk];by_cases e:y.client=id
  .rw[dp e,dp (by omega)];rfl
  .rw[dn e,dn (by omega)]
 .have d:=Z4p h.nd y.client;have g:=h.lk y.client;have n:=h.len;show _=(t.l.filter (λx=>decide (x.client≠y.client))++[y]).length;rw[bf,Z51,g];cases hf:t.l.find? (λx=>decide (x.client=y.client)) with
  | none =>
   rw[hf] at d;have d:(t.l.filter (λx=>decide (x.client≠y.client))).length+0=t.l.length:=d;show L.length+1=(t.l.filter (λx=>decide (x.client≠y.client))).length+1;omega
  | some z =>
   rw[hf] at d;have d:(t.l.filter (λx=>decide (x.client≠y.client))).length+1=t.l.length:=d;show L.length+0=(t.l.filter (λx=>decide (x.client≠y.client))).length+1;omega
 .rcases bz.1 c with c | c
  .exact h.nm x (af.1 c).1
  .rw[bw.1 c];exact m
 .rcases bz.1 c with c | c
  .exact h.nu x (af.1 c).1
  .rw[bw.1 c];exact j
 .show((t.l.filter (λx=>decide (x.client≠y.client))++[y]).map RLs.client).Nodup;rw[az,List.nodup_append];refine⟨h.nd.sublist (List.filter_sublist.map _),by simp,λa ha b k=>?_⟩;obtain⟨x,c,rfl⟩:=bi.1 ha;have:=(af.1 c).2;simp at this k;omega
theorem Yt (r:RFs)(c:RCl):(Ev r c).2.names.length<=1000000:=by
 unfold Ev;split;exact av _;split;exact av _;split;exact av _;split;exact av _;split;exact av _;split;exact av _;split;exact av _;split;exact av _;split;exact av _;split
 .show((Jb r c.h).take 50).length<=_;rw[be];omega
 .exact av _
theorem Xk {t:RTb}{K:Nat}{L:List (Int × G)}(s:FM t K L)(B:K<=1000000)(c:RCl)(C:SmC c):FnO Tryz.prog 20 [.ptr 0 0,.agg (enC c)] (oT t.r K L) (ApP t K c):=by
 refine Z3e Tryz.func20 (Ea _ _) ?_;have p:=s.lk c.client;have F:=s.len;have bad:∀e,Dw t c=(t,Mc e)->ApP t K c (.agg (Iy (Mc e))) (oT t.r K L):=λe h=>by unfold ApP;rw[h];exact⟨rfl,K,L,Nat.le_succ _,s,rfl⟩
 have n:=Yt t.r c;have fin:Dw t c=(⟨(Ev t.r c).1,t.l.filter (λx=>decide (x.client≠c.client))++[⟨c.client,c.number,(Ev t.r c).2⟩]⟩,(Ev t.r c).2)->1<=c.number->∀m,m<=K+1->Gd (Ev t.r c).1 m->ApP t K c (.agg (Iy (Ev t.r c).2)) (oT (Ev t.r c).1 m (Gn L c.client (gLs ⟨c.client,c.number,(Ev t.r c).2⟩))):=by intro j E m i f;unfold ApP;rw[j];exact⟨rfl,m,_,i,s.put f ⟨c.client,c.number,(Ev t.r c).2⟩ n E,rfl⟩
 cases hf:t.l.find? (λx=>decide (x.client=c.client)) with
 | none =>
  rw[hf] at p;have v:=Zy hf;refine⟨λg e=>(by rw[p] at e;cases e),λ_=>?_⟩;refine(Ou c).cal λq d=>?_;subst d;refine dy (λh=>?_) λh=>?_
  .have h:okB c=false:=by simpa using h
   exact .gh (.done (Cy _ _ _ (.agg (Iy (Mc 180))) rfl rfl rfl rfl rfl (bad 180 (Xi (Hx.1 h)))))
  have h:okB c=true:=by simpa using h
  have k:=Hj.1 h;have b:=k.1;refine du (λw=>dq w (by have:=b.2.2.1;show ¬c.number < 0;omega)) λ_=>?_;refine du (λu=>?_) λu=>?_
  .refine .gh (.done (Cy _ _ _ (.agg (Iy (Mc 1))) rfl rfl rfl rfl rfl (bad 1 (Ye k (.inr ⟨by rw[v],by have u:(L.length:Int) >= 100:=u;omega⟩)))))
  have u:¬(L.length:Int) >= 100:=u;refine dt (fun(A:c.number=0)=>dq A (by have:=b.2.2.1;omega)) λ_=>?_;have j:=Sl (t:=t) k (by rw[v];have:=b.2.2.1;show ¬(c.number < 0\/((0:Int)=0/\_));omega) (by rw[v];have:=b.2.2.1;show ¬c.number=0;omega);refine(Zm c.kind).cal λq d=>?_;subst d;refine du (λhr=>?_) λhr=>?_
  .refine(Z5c t.r s.gd B L c C hr).cal λq rs d=>?_;obtain⟨m,i,f,rfl,rfl⟩:=d;refine(Xn (Ev t.r c).2 n).cal λq d=>?_;subst d;exact .gh (.done (Cy _ _ _ (.agg (Iy (Ev t.r c).2)) rfl rfl rfl rfl rfl (fin j b.2.2.1 m i f)))
  .refine(Z16 t.r B L c C ⟨b.2.2.2.2.1,by have:=b.2.2.2.2.2;omega⟩).cal λq rs d=>?_;obtain⟨m,i,f,rfl,rfl⟩:=d;refine(Xn (Ev t.r c).2 n).cal λq d=>?_;subst d;exact .gh (.done (Cy _ _ _ (.agg (Iy (Ev t.r c).2)) rfl rfl rfl rfl rfl (fin j b.2.2.1 m i f)))
 | some x =>
  rw[hf] at p;obtain⟨o,y,I⟩:=Z1a hf;have D:=s.nm x y;have H:=s.nu x y;refine⟨λg e=>?_,λe=>by rw[p] at e;cases e⟩;rw[p] at e;cases e;refine(Ou c).cal λq d=>?_;subst d;refine dy (λh=>?_) λh=>?_
  .have h:okB c=false:=by simpa using h
   exact .gh (.done (Cy _ _ _ (.agg (Iy (Mc 180))) rfl rfl rfl rfl rfl (bad 180 (Xi (Hx.1 h)))))
  have h:okB c=true:=by simpa using h
  have k:=Hj.1 h;have b:=k.1;refine du (fun(w:c.number < x.number)=>?_) fun(w:¬c.number < x.number)=>?_
  .refine du (λ_=>?_) λu=>dq w u;exact .gh (.done (Cy _ _ _ (.agg (Iy (Mc 1))) rfl rfl rfl rfl rfl (bad 1 (Ye k (.inl (by rw[o];exact w))))))
  have z:¬(c.number < (Fa t.l c.client).number\/((Fa t.l c.client).number=0/\t.l.length >= 100)):=by rw[o];omega
  refine dt (fun(A:c.number=x.number)=>?_) fun(A:¬c.number=x.number)=>?_
  .have j:=Zs (t:=t) k z (by rw[o];exact A);refine(Xn x.a D).cal λq d=>?_;subst d;refine .gh (.done (Cy _ _ _ (.agg (Iy x.a)) rfl rfl rfl rfl rfl ?_));unfold ApP;rw[j,o];exact⟨rfl,K,L,Nat.le_succ _,s,rfl⟩
  have j:=Sl (t:=t) k z (by rw[o];exact A);refine(Zm c.kind).cal λq d=>?_;subst d;refine du (λhr=>?_) λhr=>?_
  .refine(Z5c t.r s.gd B L c C hr).cal λq rs d=>?_;obtain⟨m,i,f,rfl,rfl⟩:=d;refine(Xn (Ev t.r c).2 n).cal λq d=>?_;subst d;exact .gh (.done (Cy _ _ _ (.agg (Iy (Ev t.r c).2)) rfl rfl rfl rfl rfl (fin j b.2.2.1 m i f)))
  .refine(Z16 t.r B L c C ⟨b.2.2.2.2.1,by have:=b.2.2.2.2.2;omega⟩).cal λq rs d=>?_;obtain⟨m,i,f,rfl,rfl⟩:=d;refine(Xn (Ev t.r c).2 n).cal λq d=>?_;subst d;exact .gh (.done (Cy _ _ _ (.agg (Iy (Ev t.r c).2)) rfl rfl rfl rfl rfl (fin j b.2.2.1 m i f)))
open Go.RowKit Go.Shelf
theorem Zb5 (room:Int)(hr:room<=9223372036854775807):FnO Tryz.prog 17 [gI room] [] λg rs=>g=.ptr 0 0/\rs=oT (Hv room) 0 []/\FM ⟨Hv room,[]⟩ 0 []:=by refine Zbn Tryz.func17 (Z84 _) ?_;refine(Zcw room hr).cal λq rs b=>?_;obtain⟨rfl,rfl,c⟩:=b;exact⟨itL [(2,.blk [.ptr 1 0,.mp 2] tTb),(0,.abs (fsP (Hv room) 0)),(1,.mpI [])],.ptr 0 0,⟨⟨⟨_,rfl,rfl,rfl⟩,⟨_,rfl,rfl,rfl⟩,⟨_,rfl,rfl,rfl⟩,trivial⟩,rfl,⟨_,rfl⟩,rfl,rfl,⟨rfl,rfl,⟨c,λ_=>rfl,rfl,λx a=>(by cases a),λx a=>(by cases a),List.nodup_nil⟩⟩⟩⟩
theorem Zek {t:RTb}{K:Nat}{L:List (Int × G)}(b:FM t K L):FnO Tryz.prog 30 [.ptr 0 0] (oT t.r K L) λg rs=>g=.ptr 3 0/\rs=oT t.r K L++[.abs (fsP t.r K)]:=by refine Zbn Tryz.func30 (Ea _ _) ?_;refine(Z7x b.gd).cal λq rs a=>?_;obtain⟨rfl,rfl⟩:=a;exact⟨itL [(0,.blk [.ptr 1 0,.mp 2] tTb),(1,.abs (fsP t.r K)),(2,.mpI L),(3,.abs (fsP t.r K))],.ptr 3 0,⟨⟨⟨_,rfl,rfl,rfl⟩,⟨_,rfl,rfl,rfl⟩,⟨_,rfl,rfl,rfl⟩,⟨_,rfl,rfl,rfl⟩,trivial⟩,rfl,⟨_,rfl⟩,rfl,rfl,⟨rfl,rfl⟩⟩⟩
end Go.Proofs.YtmmdikhljefeiaaGreat


import Derived.Test.YtmmdikhljefeiaaGreatYQp
import Derived.Test.YtmmdikhljefeiaaGreatQM1
import Derived.Test.YtmmdikhljefeiaaGreatPKM
import Derived.Test.YtmmdikhljefeiaaGreatYFnu
import Derived.Test.YtmmdikhljefeiaaGreatSxMc
import Derived.Test.YtmmdikhljefeiaaGreatYFtT
import Derived.Test.YtmmdikhljefeiaaGreatYFtU
namespace Go.Proofs.YtmmdikhljefeiaaGreat
open Go.RowKit
structure RCl where
 client:Int
 number:Int
 kind:Int
 h:Int × Int
 g:Int × Int
 name:ByteArray
 other:ByteArray
 m:RMk
 fo:Bool
 pos:Int
 n:Int
 time:Int
 b:ByteArray
structure RNf where
 id:Int
 gen:Int
 kind:Int
 mode:Int
 links:Int
 size:Int
 blocks:Int
 time:Int
structure RAn where
 code:Int
 h:Int × Int
 b:ByteArray
 i:RNf
 names:List ByteArray
def nf0:RNf:=⟨0,0,0,0,0,0,0,0⟩
def an0:RAn:=⟨0,(0,0),eS,nf0,[]⟩
def mk0:RMk:=⟨0,0,0,eS⟩
def Qr (c:RCl):RCl where
 client:=c.client
 number:=c.number
 kind:=c.kind
 h:=c.h
 g:=if c.kind=2\/c.kind=4 then c.g else(0,0)
 name:=if c.kind=1\/c.kind=2\/c.kind=3\/c.kind=4\/c.kind=7 then c.name else eS
 other:=if c.kind=4 then c.other else eS
 m:=if c.kind=1 then c.m else mk0
 fo:=if c.kind=3 then c.fo else false
 pos:=if c.kind=5\/c.kind=8 then c.pos else 0
 n:=if c.kind=6\/c.kind=8 then c.n else 0
 time:=if c.kind=5\/c.kind=6 then c.time else 0
 b:=if c.kind=5 then c.b else eS
def Ze3 (c:RCl):Prop:=1<=c.client/\c.client<=1000000/\1<=c.number/\c.number<=big/\1<=c.kind/\c.kind<=11
def okC (c:RCl):Prop:=Ze3 c/\c=Qr c
open Classical in
noncomputable def okB (c:RCl):Bool:=decide (okC c)
open Classical in
theorem Gj {c:RCl}:okB c=true↔okC c:=by unfold okB;exact decide_eq_true_iff
open Classical in
theorem J7 {c:RCl}:okB c=false↔¬okC c:=by unfold okB;exact decide_eq_false_iff_not
def wF (n:Int):RFd:=⟨2,n,eS⟩
def tF (s:ByteArray):RFd:=⟨3,0,s⟩
def Ox (c:RCl):List RFd :=
 [wF c.client,wF c.number,⟨1,c.kind,eS⟩,wF c.h.1,wF c.h.2]
 ++ ((if c.kind=2\/c.kind=4 then [wF c.g.1,wF c.g.2] else [])
 ++ ((if c.kind=1\/c.kind=2\/c.kind=3\/c.kind=4\/c.kind=7 then [tF c.name] else [])
 ++ ((if c.kind=4 then [tF c.other] else [])
 ++ ((if c.kind=1 then [wF c.m.kind,wF c.m.mode,wF c.m.time,tF c.m.target] else [])
 ++ ((if c.kind=3 then [⟨4,bI c.fo,eS⟩] else [])
 ++ ((if c.kind=5\/c.kind=8 then [wF c.pos] else [])
 ++ ((if c.kind=6\/c.kind=8 then [wF c.n] else [])
 ++ ((if c.kind=5\/c.kind=6 then [wF c.time] else [])
 ++ (if c.kind=5 then [tF c.b] else [])))))))))
def okW (c:RCl):Prop:=okC c/\Ny (Ox c)=0/\(Ic (Ox c)).length<=200
open Classical in
noncomputable def bC (c:RCl):Bs:=if okW c then Ic (Ox c) else []
open Classical in
noncomputable def eC (c:RCl):Int:=if okW c then 0 else 180
def Zw (r:RFs)(h:Int × Int):RNf:=if Aj r h=true then⟨h.1,h.2,(A3 r.ins h.1).kind,(A3 r.ins h.1).mode,(A5 r (A3 r.ins h.1):Int),G9 r (A3 r.ins h.1),((A3 r.ins h.1).On.length:Int),(A3 r.ins h.1).time⟩ else nf0
noncomputable def E9 (r:RFs) (c:RCl):RFs × RAn :=
 if c.kind=1 then((Db r c.h c.name c.m).1,{an0 with h:=(Db r c.h c.name c.m).2.1,code:=(Db r c.h c.name c.m).2.2})
 else if c.kind=2 then((E7 r c.h c.g c.name).1,{an0 with code:=(E7 r c.h c.g c.name).2})
 else if c.kind=3 then((C4 r c.h c.name c.fo).1,{an0 with code:=(C4 r c.h c.name c.fo).2})
 else if c.kind=4 then((D5 r c.h c.name c.g c.other).1,{an0 with code:=(D5 r c.h c.name c.g c.other).2})
 else if c.kind=5 then((Bz r c.h c.pos c.b.data.toList c.time).1,{an0 with code:=(Bz r c.h c.pos c.b.data.toList c.time).2})
 else if c.kind=6 then((Fk r c.h c.n c.time).1,{an0 with code:=(Fk r c.h c.n c.time).2})
 else if c.kind=7 then(r,{an0 with h:=(Fe r c.h c.name).1,code:=(Fe r c.h c.name).2})
 else if c.kind=8 then(r,{an0 with b:=⟨((Ct r c.h c.pos c.n).1.take 1000).toArray⟩,code:=(Ct r c.h c.pos c.n).2})
 else if c.kind=9 then(r,{an0 with i:=Zw r c.h,code:=Bu r c.h})
 else if c.kind=10 then(r,{an0 with names:=(Fb r c.h).take 50,code:=Ab r c.h})
 else(r,{an0 with b:=(D4 r c.h).1,code:=(D4 r c.h).2})
structure RLs where
 client:Int
 number:Int
 a:RAn
structure RTb where
 r:RFs
 l:List RLs
def Bo (l:List RLs)(client:Int):RLs:=(l.find? λx=>decide (x.client=client)).getD ⟨0,0,an0⟩
def Kd (e:Int):RAn:={an0 with code:=e}
open Classical in
noncomputable def Bi (t:RTb) (c:RCl):RTb × RAn :=
 if ¬okC c then(t,Kd 180)
 else if c.number < (Bo t.l c.client).number\/((Bo t.l c.client).number=0/\t.l.length >= 100) then(t,Kd 1)
 else if c.number=(Bo t.l c.client).number then(t,(Bo t.l c.client).a)
 else(⟨(E9 t.r c).1,t.l.filter (λx=>decide (x.client≠c.client))++[⟨c.client,c.number,(E9 t.r c).2⟩]⟩,(E9 t.r c).2)
set_option maxRecDepth 100000
abbrev Zfn:Nat:=9
def enC (c:RCl):List G:=[gI c.client,gI c.number,gI c.kind,gI c.h.1,gI c.h.2,gI c.g.1,gI c.g.2,gS c.name,gS c.other,gI c.m.kind,gI c.m.mode,gI c.m.time,gS c.m.target,.v (.bool c.fo),gI c.pos,gI c.n,gI c.time,gS c.b]
def Zfq (i:RNf):List G:=[gI i.id,gI i.gen,gI i.kind,gI i.mode,gI i.links,gI i.size,gI i.blocks,gI i.time]
def Fv (a:RAn):List G:=[gI a.code,gI a.h.1,gI a.h.2,gS a.b]++(Zfq a.i++[.sl (a.names.map gSt)])
theorem Oa (r:RFs)(h:Int × Int):Xa r h=.tup [.agg (Zfq (Zw r h)),gI (Bu r h)]:=by unfold Xa Zw Bu;split<;>rfl
def Zcz (k:Int):Int:=if k=1 then 21 else if k=2 then 7 else if k=3 then 37 else if k=4 then 15 else if k=5 then 833 else if k=6 then 385 else if k=7 then 5 else if k=8 then 193 else if k=9 then 1 else if k=10 then 1 else if k=11 then 1 else 0
theorem Ha {k:Int}(h:1<=k/\k<=11):k=1\/k=2\/k=3\/k=4\/k=5\/k=6\/k=7\/k=8\/k=9\/k=10\/k=11:=by omega
theorem Z2h (k:Int):FnV Tryz.prog 28 [gI k] λg=>g=.v (.bool (decide (7<=k/\k<=11))):=by
 refine fnG Tryz.func28 ?_;refine dv (λa=>?_) λa=>?_
 .exact congrArg (λb=>G.v (.bool b)) (decide_eq_decide.2 ⟨λh=>⟨a,h⟩,λh=>h.2⟩)
 .rw[decide_eq_false (λh:7<=k/\k<=11=>a h.1)];exact rfl
theorem Z73 (k:Int)(h:1<=k/\k<=11):FnV Tryz.prog 63 [gI k] λg=>g=gI (Zcz k):=by
 rcases Ha h with rfl | rfl | rfl | rfl | rfl | rfl | rfl | rfl | rfl | rfl | rfl
 all_goals
  refine fnG Tryz.func63 ?_;exact⟨by decide,rfl⟩
theorem Ww {b c:Bool}{A B:Prop}(e:b=c)(h:bif c then A else B):EvIf b A B:=by
 subst e;cases b
 .exact⟨λe=>(by cases e),λ_=>h⟩
 .exact⟨λ_=>h,λe=>(by cases e)⟩
theorem Zd4 (c:RCl)(h:1<=c.kind/\c.kind<=11):FnV Tryz.prog 62 [.agg (enC c)] λg=>g=.agg (enC (Qr c)):=by
 refine fnG Tryz.func62 ?_;obtain⟨client,number,kind,d,g,name,other,m,fo,pos,n,time,b⟩:=c;dsimp only at h;rcases Ha h with rfl | rfl | rfl | rfl | rfl | rfl | rfl | rfl | rfl | rfl | rfl
 all_goals
  refine(Z73 _ h).cal λq a=>?_;subst a
  iterate 10 first | refine Ww (c:=true) (by decide +kernel) ?_ | refine Ww (c:=false) (by decide +kernel) ?_
  exact rfl
def Qc (c:RCl):List Value:=[.int .i64 c.client,.int .i64 c.number,.int .i64 c.kind,.int .i64 c.h.1,.int .i64 c.h.2,.int .i64 c.g.1,.int .i64 c.g.2,.string c.name,.string c.other,.int .i64 c.m.kind,.int .i64 c.m.mode,.int .i64 c.m.time,.string c.m.target,.bool c.fo,.int .i64 c.pos,.int .i64 c.n,.int .i64 c.time,.string c.b]
def shC:List Sh:=[.i .i64,.i .i64,.i .i64,.i .i64,.i .i64,.i .i64,.i .i64,.s,.s,.i .i64,.i .i64,.i .i64,.s,.b,.i .i64,.i .i64,.i .i64,.s]
theorem Z26 {c d:RCl}(h:enC c=enC d):c=d:=by obtain⟨a1,a2,y,⟨A,t⟩,⟨b,r⟩,u,n,⟨b1,b2,b3,b4⟩,b5,b6,b7,b8,b9⟩:=c;obtain⟨c1,g,e,⟨k,m⟩,⟨o,l⟩,w,c9,⟨z,a,s,x⟩,j,f,i,p,q⟩:=d;simp only[enC,List.cons.injEq,G.v.injEq,Value.int.injEq,Value.string.injEq,Value.bool.injEq,true_and,and_true] at h;obtain⟨rfl,rfl,rfl,rfl,rfl,rfl,rfl,rfl,rfl,rfl,rfl,rfl,rfl,rfl,rfl,rfl,rfl,rfl⟩:=h;rfl
theorem Od (c:RCl):FnV Tryz.prog 33 [.agg (enC c)] λg=>g=.v (.bool (okB c)):=by
 refine fnG Tryz.func33 ?_;have no:¬Ze3 c->G.v (.bool false)=G.v (.bool (okB c)):=λh=>by rw[J7.2 λk=>h k.1]
 refine dv (λf=>?_) λf=>no λh=>f h.1;refine dv (λd=>?_) λd=>no λh=>d h.2.1;refine dv (λj=>?_) λj=>no λh=>j h.2.2.1;refine dv (λi=>?_) λi=>no λh=>i h.2.2.2.1;refine dv (λa=>?_) λa=>no λh=>a h.2.2.2.2.1;refine dv (λb=>?_) λb=>no λh=>b h.2.2.2.2.2;refine(Zd4 c ⟨a,b⟩).cal λq l=>?_;subst l;refine EvEq.flat shC (Qc c) (Qc (Qr c)) (by kernel_rfl) (by kernel_rfl) (by kernel_rfl) rfl rfl rfl rfl (λe=>?_) λe=>?_
 .have e:enC c=enC (Qr c):=congrArg (List.map G.v) e;have:okB c=true:=Gj.2 ⟨⟨f,d,j,i,a,b⟩,Z26 e⟩;rw[this];exact rfl
 .have:okB c=false:=J7.2 λh=>e (congrArg Qc h.2);rw[this];exact rfl
theorem Z3g (l:List ByteArray):∀r∈l.map gSt,r.length=1/\r.all G.one=true:=λr hr=>by obtain⟨c,-,rfl⟩:=bk.1 hr;exact⟨rfl,rfl⟩
theorem Yl {own:Os}{n k:Nat}{b a:List (List G)}{e sz:Nat}(h:look k own=some (.slc b e sz))(c:b=a):Zah [] own n (.osl k) (λg rs=>g=.osl 0/\rs=[.slc a e sz]):=by subst c;exact .inl ⟨[⟨[(0,.slc b e sz)],[(0,k)],false⟩],.osl 0,⟨⟨⟨_,rfl,h,rfl⟩,trivial⟩,rfl,⟨_,rfl⟩,rfl,rfl,⟨rfl,rfl⟩⟩⟩
theorem Zg (l:List ByteArray)(d:l.length<=1000000):FnO Tryz.prog 70 [.sl (l.map gSt)] [] λg rs=>g=.osl 0/\rs=[.slc (l.map gSt) Zfn 1]:=by
 refine Z5u Tryz.func70 (Z8k _) ?_;refine⟨λb c=>?_⟩;refine dz (λh=>?_) λh=>?_
 .have e:l.map gSt=[]:=cg λa=>by rw[c a] at h;cases h
  exact Yl (k:=1) rfl e.symm
 .refine⟨Z3g l,by simp;omega,?_⟩;exact Yl (k:=2) rfl (dj _)
theorem S5 (a:RAn)(c:a.names.length<=1000000):FnV Tryz.prog 46 [.agg (Fv a)] λg=>g=.agg (Fv a):=by refine fnG Tryz.func46 ?_;refine(Zg a.names c).cal λq rs b=>?_;obtain⟨rfl,rfl⟩:=b;exact rfl
theorem Z4z {r:RFs}{K:Nat}(h:Int × Int):FnO Tryz.prog 79 [.ptr 0 0,gH h] (fP r K) λg rs=>g=.tup [gS (D4 r h).1,gI (D4 r h).2]/\rs=fP r K :=
 Ki ⟨_,Tryz.func79,by kernel_rfl,by kernel_rfl⟩ rfl λI w b m j N vs k i c a=>by obtain⟨l,vs,rfl,d,a⟩:=a.uncons;obtain rfl:=a.of_nil;rw[Fm d];exact(Xc i c h.1 h.2).mono λe w' ⟨f,hb⟩=>⟨_,f,G0 (.v _) (.v _),hb⟩
theorem Z8r {I:Imm}{V:Va}{w:World}{p a:Ob}(q:V.n=2)(l:Mem I w)(i:Loc p/\p I (V.b 0) (V.f 0) w)(e:Loc a/\a I (V.b 1) (V.f 1) w)(g:∀k b,V.f k b->k < 2->b < w.heap.size/\∀o,I b o=none)(hd:∀b,V.f 0 b->¬V.f 1 b):Has I V (Ev [.abs p,.abs a] 0) w:=by
 have lk:∀k r,look k (Ev [.abs p,.abs a] 0)=some r->k=0/\r=.abs p\/k=1/\r=.abs a:=λk r h=>by
  rw[Bl] at h
  match k,h with
  | 0,h=>simp at h;exact .inl ⟨rfl,h.symm⟩
  | 1,h=>simp at h;exact .inr ⟨rfl,h.symm⟩
  | k+2,h=>simp at h
 refine⟨l,λk r h=>?_,λk r h=>?_,λk r b h c=>?_,λk m r r' b h j c d=>?_⟩
 .rcases lk k r h with⟨rfl,-⟩ | ⟨rfl,-⟩<;>omega
 .rcases lk k r h with⟨rfl,rfl⟩ | ⟨rfl,rfl⟩
  .exact i
  .exact e
 .rcases lk k r h with⟨rfl,-⟩ | ⟨rfl,-⟩
  .exact g 0 b c (by omega)
  .exact g 1 b c (by omega)
 .rcases lk k r h with⟨rfl,-⟩ | ⟨rfl,-⟩<;>rcases lk m r' j with⟨rfl,-⟩ | ⟨rfl,-⟩
  .rfl
  .exact dt d (hd b c)
  .exact dt c (hd b d)
  .rfl
theorem Z9k {r:RFs}{K:Nat}(_:Gd r K):FnO Tryz.prog 56 [.ptr 0 0] (fP r K) λg rs=>g=.ptr 1 0/\rs=[.abs (fsP r K),.abs (fsP r K)] :=
 ⟨⟨_,Tryz.func56,by kernel_rfl,by kernel_rfl⟩,λI V w vs hH m D=>by
  obtain⟨x,L,rfl,q,H⟩:=D.uncons;obtain rfl:=H.of_nil;obtain⟨-,rfl⟩:=(show 0 < V.n/\x=.pointer (some ⟨V.b 0,0,none⟩) from q);obtain⟨-,F,u,N,t,l,G⟩:=hH.each 0 (.abs (fsP r K)) rfl;have c:=λb a=>hH.foot 0 (.abs (fsP r K)) b rfl a;have E:V.n=1:=m;refine(Wg t l).mono λe w' ⟨j,mi',mg',N',he,hF,hB,hnew⟩=>?_;have v:Mem I w':=hH.mem.keep λb o x q=>hB.block b (hH.mem.lt q);refine⟨_,.ptr 1 0,_,I,⟨2,λk=>if k=0 then V.b 0 else j,V.s,λk b=>if k=0 then V.f 0 b else b∈fpL j mi' mg' N'⟩,he,⟨rfl,rfl⟩,rfl,Z8r rfl v ⟨I9 _ _,?_⟩ ⟨I9 _ _,mi',mg',N',hF,l,λk=>Iff.rfl⟩ (λk b a i=>?_) (λb A p=>?_),⟨db _,rfl⟩,⟨hB.os,hB.tape,hB.output,hB.size,λb a _=>⟨hB.block b a,λ_=>rfl⟩,λ_ _ _ h=>h,λk r' b i a J=>?_⟩,⟨by show V.n<=2;omega,λk i=>?_⟩⟩
  .exact I9 r K _ _ _ _ _ _ ⟨F,u,N,t,l,G⟩ (λ_ _ _ h=>h) hB.os hB.size λk i=>hB.block k (c k i).1
  .match k,a,i with
   | 0,a,_=>exact⟨bd (c b a).1 hB.size,(c b a).2⟩
   | 1,a,_ =>
    have a:b∈fpL j mi' mg' N':=a;refine⟨?_,λo=>?_⟩
    .obtain⟨y,z,C,B⟩:=hF.lt l;rcases Gg.1 a with rfl | rfl | rfl | ⟨n,m,i⟩
     .exact y
     .exact z
     .exact C
     .exact B n m b i
    .cases hI:I b o with
     | none=>rfl
     | some x=>exact dt (hH.mem.lt hI) (by have:=hnew b a;omega)
  .have p:b∈fpL j mi' mg' N':=p;have:=hnew b p;have:=(c b A).1;omega
  .by_cases d:k=0
   .have a:V.f 0 b:=by have:=a;dsimp only at this;rw[dq d] at this;exact this
    exact⟨0,_,rfl,a⟩
   .have a:b∈fpL j mi' mg' N':=by have:=a;dsimp only at this;rw[dp d] at this;exact this
    have:=hnew b a;omega
  .have d:k=0:=by omega
   subst d;exact⟨rfl,rfl⟩⟩
abbrev tTb:Nat:=113
abbrev oT (r:RFs)(K:Nat)(L:List (Int × G)):List R:=[.blk [.ptr 1 0,.mp 2] tTb,.abs (fsP r K),.mpI L]
def gLs (x:RLs):G:=.agg (gI x.number::Fv x.a)
structure SmC (c:RCl):Prop where
 nm:c.name.size<=maxLen
 ot:c.other.size<=maxLen
 tg:c.m.target.size<=maxLen
 b:c.b.size<=maxLen
def itT (r:RFs)(K:Nat)(L:List (Int × G)):List It:=[⟨[(0,.blk [.ptr 1 0,.mp 2] tTb)],[(0,0)],false⟩,⟨[(0,.abs (fsP r K))],[(0,1)],false⟩,⟨[(0,.mpI L)],[(0,2)],false⟩]
theorem Cs {own:Os}{n:Nat}{g:G}{Q:G->List R->Prop}(r:RFs)(K:Nat)(L:List (Int × G))(a:G)(h:look 0 own=some (.blk [.ptr 1 0,.mp 2] tTb))(f:look 1 own=some (.abs (fsP r K)))(d:look 2 own=some (.mpI L))(hr:Q1 (Ef (itT r K L) 0) a=g)(c:(Z3e 3 a&&Zfk a&&Zfl 3 a)=true)(e:Q a (oT r K L)):∃b a,Y2 [0,1,2] own n g Q b a :=
 ⟨itT r K L,a,⟨⟨⟨_,rfl,h,rfl⟩,⟨_,rfl,f,rfl⟩,⟨_,rfl,d,rfl⟩,trivial⟩,rfl,⟨[],rfl⟩,hr,c,e⟩⟩
def Zdu (r:RFs)(K:Nat)(L:List (Int × G))(c:RCl)(g:G)(rs:List R):Prop:=∃a,a<=K+1/\Gd (E9 r c).1 a/\g=.agg (Fv (E9 r c).2)/\rs=oT (E9 r c).1 a L
theorem El {r r':RFs}{K b:Nat}{L:List (Int × G)}{c:RCl}{a:RAn}(h:E9 r c=(r',a))(d:b<=K+1)(e:Gd r' b):Zdu r K L c (.agg (Fv a)) (oT r' b L):=by unfold Zdu;rw[h];exact⟨b,d,e,rfl,rfl⟩
theorem Z0o (r:RFs){K:Nat}(o:K<=1000000)(L:List (Int × G))(c:RCl)(f:SmC c)(s:1<=c.kind/\c.kind<=6):FnO Tryz.prog 47 [.ptr 0 0,.agg (enC c)] (oT r K L) (Zdu r K L c):=by
 refine Z5u Tryz.func47 (Dh _ _) ?_;refine du (fun(e:c.kind=1)=>?_) (fun(e:¬c.kind=1)=>?_)
 .refine(Zcd o c.h c.name f.nm c.m f.tg).cal λq rs d=>?_;obtain⟨rfl,rfl,a⟩:=d;exact .gh (.done (Cs _ _ _ (.agg (Fv {an0 with h:=(Db r c.h c.name c.m).2.1,code:=(Db r c.h c.name c.m).2.2})) rfl rfl rfl rfl rfl (El (by unfold E9;rw[dq e]) (av _) a)))
 refine du (fun(i:c.kind=2)=>?_) (fun(i:¬c.kind=2)=>?_)
 .refine(Zd5 c.h c.g c.name f.nm).cal λq rs d=>?_;obtain⟨rfl,rfl,a⟩:=d;exact .gh (.done (Cs _ _ _ (.agg (Fv {an0 with code:=(E7 r c.h c.g c.name).2})) rfl rfl rfl rfl rfl (El (by unfold E9;rw[dp e,dq i]) (av _) a)))
 refine du (fun(j:c.kind=3)=>?_) (fun(j:¬c.kind=3)=>?_)
 .refine(Z5g c.h c.name f.nm c.fo).cal λq rs d=>?_;obtain⟨rfl,rfl,a⟩:=d;exact .gh (.done (Cs _ _ _ (.agg (Fv {an0 with code:=(C4 r c.h c.name c.fo).2})) rfl rfl rfl rfl rfl (El (by unfold E9;rw[dp e,dp i,dq j]) (Nat.le_succ _) a)))
 refine du (fun(k:c.kind=4)=>?_) (fun(k:¬c.kind=4)=>?_)
 .refine(Z5m c.h c.name f.nm c.g c.other f.ot).cal λq rs d=>?_;obtain⟨rfl,rfl,a⟩:=d;exact .gh (.done (Cs _ _ _ (.agg (Fv {an0 with code:=(D5 r c.h c.name c.g c.other).2})) rfl rfl rfl rfl rfl (El (by unfold E9;rw[dp e,dp i,dp j,dq k]) (Nat.le_succ _) a)))
 refine du (fun(l:c.kind=5)=>?_) (fun(l:¬c.kind=5)=>?_)
 .refine(Z8e c.h c.pos c.b.data.toList (by have:=f.b;exact this) c.time).cal λq rs d=>?_;obtain⟨rfl,rfl,a⟩:=d;exact .gh (.done (Cs _ _ _ (.agg (Fv {an0 with code:=(Bz r c.h c.pos c.b.data.toList c.time).2})) rfl rfl rfl rfl rfl (El (by unfold E9;rw[dp e,dp i,dp j,dp k,dq l]) (Nat.le_succ _) a)))
 have p:c.kind=6:=by omega
 refine(Zei c.h c.n c.time).cal λq rs d=>?_;obtain⟨rfl,rfl,a⟩:=d;exact .gh (.done (Cs _ _ _ (.agg (Fv {an0 with code:=(Fk r c.h c.n c.time).2})) rfl rfl rfl rfl rfl (El (by unfold E9;rw[dp e,dp i,dp j,dp k,dp l,dq p]) (Nat.le_succ _) a)))
theorem L6 {α:Type}(f:α->List G)(l:List α)(k:Nat):Fo (l.map f) (Int.toNat 0) (min ((l.map f).length:Int) (k:Int)).toNat=(l.take k).map f:=by
 unfold Fo;rw[show(Int.toNat 0)=0 from rfl,List.drop_zero,<-de,ap]
 congr 1
 by_cases h:l.length<=k
 .rw[bc (by omega),bc h]
 .congr 1;omega
theorem Z77 (r:RFs){K:Nat}(k:Gd r K)(u:K<=1000000)(L:List (Int × G))(c:RCl)(v:SmC c)(w:7<=c.kind/\c.kind<=11):FnO Tryz.prog 48 [.ptr 0 0,.agg (enC c)] (oT r K L) (Zdu r K L c):=by
 refine Z5u Tryz.func48 (Dh _ _) ?_;have j:¬c.kind=1:=by omega
 have l:¬c.kind=2:=by omega
 have o:¬c.kind=3:=by omega
 have m:¬c.kind=4:=by omega
 have n5:¬c.kind=5:=by omega
 have n6:¬c.kind=6:=by omega
 refine du (fun(d:c.kind=7)=>?_) (fun(d:¬c.kind=7)=>?_)
 .refine(Zbe c.h c.name v.nm).cal λq rs a=>?_;obtain⟨rfl,rfl⟩:=a;exact .gh (.done (Cs _ _ _ (.agg (Fv {an0 with h:=(Fe r c.h c.name).1,code:=(Fe r c.h c.name).2})) rfl rfl rfl rfl rfl (El (by unfold E9;rw[dp j,dp l,dp o,dp m,dp n5,dp n6,dq d]) (Nat.le_succ _) k)))
 refine du (fun(f:c.kind=8)=>?_) (fun(f:¬c.kind=8)=>?_)
 .refine(Z8g c.h c.pos c.n).cal λq rs a=>?_;obtain⟨rfl,rfl⟩:=a;refine⟨⟨Int.le_refl _,by omega,by omega⟩,⟨λr hr=>(by obtain⟨x,-,rfl⟩:=bk.1 hr;rfl),?_⟩⟩;refine EvBytes.mk ⟨(Ct r c.h c.pos c.n).1.take 1000,L6 gBy _ 1000,?_⟩;exact .gh (.done (Cs _ _ _ (.agg (Fv {an0 with b:=⟨((Ct r c.h c.pos c.n).1.take 1000).toArray⟩,code:=(Ct r c.h c.pos c.n).2})) rfl rfl rfl rfl rfl (El (by unfold E9;rw[dp j,dp l,dp o,dp m,dp n5,dp n6,dp d,dq f]) (Nat.le_succ _) k)))
 refine du (fun(p:c.kind=9)=>?_) (fun(p:¬c.kind=9)=>?_)
 .refine(Z7c c.h).cal λq rs a=>?_;obtain⟨rfl,rfl⟩:=a;rw[Oa];exact .gh (.done (Cs _ _ _ (.agg (Fv {an0 with i:=Zw r c.h,code:=Bu r c.h})) rfl rfl rfl rfl rfl (El (by unfold E9;rw[dp j,dp l,dp o,dp m,dp n5,dp n6,dp d,dp f,dq p]) (Nat.le_succ _) k)))
 refine du (fun(s:c.kind=10)=>?_) (fun(s:¬c.kind=10)=>?_)
 .refine(Zb6 u c.h).cal λq rs a=>?_;obtain⟨rfl,rfl⟩:=a;refine⟨⟨Int.le_refl _,by omega,by omega⟩,⟨λr hr=>(by obtain⟨x,-,rfl⟩:=bk.1 hr;rfl),?_⟩⟩;have t:FnO Tryz.prog 70 [.sl (Fo ((Fb r c.h).map gSt) (Int.toNat 0) (min (((Fb r c.h).map gSt).length:Int) 50).toNat)] [] λg rs=>g=.osl 0/\rs=[.slc (((Fb r c.h).take 50).map gSt) Zfn 1]:=by
   have e:=L6 gSt (Fb r c.h) 50;rw[show(((50:Nat):Int))=50 from rfl] at e;rw[e];exact Zg _ (by rw[bf];omega)
  refine t.cal λq rs a=>?_;obtain⟨rfl,rfl⟩:=a;have e:E9 r c=(r,{an0 with names:=(Fb r c.h).take 50,code:=Ab r c.h}):=by unfold E9;rw[dp j,dp l,dp o,dp m,dp n5,dp n6,dp d,dp f,dp p,dq s]
  exact .gh (.frz 6 _ _ _ rfl (.done (Cs r K L (.agg (Fv {an0 with names:=(Fb r c.h).take 50,code:=Ab r c.h})) rfl rfl rfl rfl rfl (El e (Nat.le_succ _) k))))
 refine(Z4z c.h).cal λq rs a=>?_;obtain⟨rfl,rfl⟩:=a;exact .gh (.done (Cs _ _ _ (.agg (Fv {an0 with b:=(D4 r c.h).1,code:=(D4 r c.h).2})) rfl rfl rfl rfl rfl (El (by unfold E9;rw[dp j,dp l,dp o,dp m,dp n5,dp n6,dp d,dp f,dp p,dp s]) (Nat.le_succ _) k)))
structure FM (t:RTb)(K:Nat)(L:List (Int × G)):Prop where
 gd:Gd t.r K
 lk:∀id,Az L id=(t.l.find? λx=>decide (x.client=id)).map gLs
 len:L.length=t.l.length
 nm:∀x∈t.l,x.a.names.length<=1000000
 nu:∀x∈t.l,1<=x.number
 nd:(t.l.map RLs.client).Nodup
def ApP (t:RTb)(K:Nat)(c:RCl)(g:G)(rs:List R):Prop:=g=.agg (Fv (Bi t c).2)/\∃a b,a<=K+1/\FM (Bi t c).1 a b/\rs=oT (Bi t c).1.r a b
theorem J4 {l:List RLs}{id:Int}(h:l.find? (λx=>decide (x.client=id))=none):Bo l id=⟨0,0,an0⟩:=by unfold Bo;rw[h];rfl
theorem En {l:List RLs}{id:Int}{x:RLs}(h:l.find? (λx=>decide (x.client=id))=some x):Bo l id=x/\x∈l/\x.client=id:=by refine⟨by unfold Bo;rw[h];rfl,List.mem_of_find?_eq_some h,by simpa using List.find?_some h⟩
theorem Lg {t:RTb}{c:RCl}(h:okC c)(b:¬(c.number < (Bo t.l c.client).number\/((Bo t.l c.client).number=0/\t.l.length >= 100)))(a:¬c.number=(Bo t.l c.client).number):Bi t c=(⟨(E9 t.r c).1,t.l.filter (λx=>decide (x.client≠c.client))++[⟨c.client,c.number,(E9 t.r c).2⟩]⟩,(E9 t.r c).2):=by unfold Bi;rw[dp (λe=>e h),dp b,dp a]
theorem Me {t:RTb}{c:RCl}(h:okC c)(d:¬(c.number < (Bo t.l c.client).number\/((Bo t.l c.client).number=0/\t.l.length >= 100)))(b:c.number=(Bo t.l c.client).number):Bi t c=(t,(Bo t.l c.client).a):=by unfold Bi;rw[dp (λe=>e h),dp d,dq b]
theorem Oz {t:RTb}{c:RCl}(h:okC c)(a:c.number < (Bo t.l c.client).number\/((Bo t.l c.client).number=0/\t.l.length >= 100)):Bi t c=(t,Kd 1):=by unfold Bi;rw[dp (λe=>e h),dq a]
theorem Tf {t:RTb}{c:RCl}(h:¬okC c):Bi t c=(t,Kd 180):=by unfold Bi;rw[dq h]
theorem Vk {l:List RLs}{y:RLs}(id:Int):(l.filter (λx=>decide (x.client≠y.client))++[y]).find? (λx=>decide (x.client=id))=if y.client=id then some y else l.find? (λx=>decide (x.client=id)):=by
 rw[List.find?_append];by_cases h:y.client=id
 .have e:(l.filter (λx=>decide (x.client≠y.client))).find? (λx=>decide (x.client=id))=none:=by
   rw[List.find?_eq_none];intro x b;have:=(af.1 b).2;simp at this⊢;omega
  rw[e,dq h,List.find?_cons_of_pos (by simpa using h)];rfl
 .rw[dp h,List.find?_cons_of_neg (by simpa using h),List.find?_nil,Option.or_none]
  induction l with
  | nil=>rfl
  | cons x l ih =>
   by_cases b:x.client=y.client
   .rw[List.filter_cons_of_neg (by simpa using b),List.find?_cons_of_neg (by simp;omega),ih]
   .rw[List.filter_cons_of_pos (by simpa using b)];by_cases a:x.client=id
    .rw[List.find?_cons_of_pos (by simpa using a),List.find?_cons_of_pos (by simpa using a)]
    .rw[List.find?_cons_of_neg (by simpa using a),List.find?_cons_of_neg (by simpa using a),ih]
theorem Z40 {l:List RLs}(a:(l.map RLs.client).Nodup)(id:Int):(l.filter (λx=>decide (x.client≠id))).length+(if(l.find? (λx=>decide (x.client=id))).isSome=true then 1 else 0)=l.length:=by
 induction l with
 | nil=>rfl
 | cons x l ih =>
  rw[cv,List.nodup_cons] at a;by_cases h:x.client=id
  .rw[List.filter_cons_of_neg (by simpa using h),List.find?_cons_of_pos (by simpa using h),bn];have e:l.filter (λx=>decide (x.client≠id))=l:=List.filter_eq_self.2 λy b=>by
    have:y.client≠x.client:=λe=>a.1 (by rw[<-e];exact bk.2 ⟨y,b,rfl⟩);simp;omega
   rw[e];rfl
  .rw[List.filter_cons_of_pos (by simpa using h),List.find?_cons_of_neg (by simpa using h),bn,bn,<-ih a.2];omega
theorem Z5i {κ β:Type}[DecidableEq κ](L:List (κ × β))(k:κ)(v:β):(Gy L k v).length=L.length+(if(Az L k).isSome=true then 0 else 1):=by
 unfold Gy;split
 .rw[ap];rfl
 .rw[bg];rfl
theorem FM.put {t:RTb}{K f:Nat}{L:List (Int × G)}(h:FM t K L){r':RFs}(k:Gd r' f)(y:RLs)(g:y.a.names.length<=1000000)(m:1<=y.number):FM ⟨r',t.l.filter (λx=>decide (x.client≠y.client))++[y]⟩ f (Gy L y.client (gLs y)):=by
 refine⟨k,λid=>?_,?_,λx c=>?_,λx c=>?_,?_⟩
 .show _=((t.l.filter (λx=>decide (x.client≠y.client))++[y]).find? _).map gLs;rw[D0,Vk,h.lk];by_cases e:y.client=id
  .rw[dq e,dq (by omega)];rfl
  .rw[dp e,dp (by omega)]
 .have d:=Z40 h.nd y.client;have i:=h.lk y.client;have n:=h.len;show _=(t.l.filter (λx=>decide (x.client≠y.client))++[y]).length;rw[bg,Z5i,i];cases hf:t.l.find? (λx=>decide (x.client=y.client)) with
  | none =>
   rw[hf] at d;have d:(t.l.filter (λx=>decide (x.client≠y.client))).length+0=t.l.length:=d;show L.length+1=(t.l.filter (λx=>decide (x.client≠y.client))).length+1;omega
  | some z =>
   rw[hf] at d;have d:(t.l.filter (λx=>decide (x.client≠y.client))).length+1=t.l.length:=d;show L.length+0=(t.l.filter (λx=>decide (x.client≠y.client))).length+1;omega
 .rcases cd.1 c with c | c
  .exact h.nm x (af.1 c).1
  .rw[bx.1 c];exact g
 .rcases cd.1 c with c | c
  .exact h.nu x (af.1 c).1
  .rw[bx.1 c];exact m
 .show((t.l.filter (λx=>decide (x.client≠y.client))++[y]).map RLs.client).Nodup;rw[ba,List.nodup_append];refine⟨h.nd.sublist (List.filter_sublist.map _),by simp,λa ha b j=>?_⟩;obtain⟨x,c,rfl⟩:=bk.1 ha;have:=(af.1 c).2;simp at this j;omega
theorem Qj (r:RFs)(c:RCl):(E9 r c).2.names.length<=1000000:=by
 unfold E9;split;exact aw _;split;exact aw _;split;exact aw _;split;exact aw _;split;exact aw _;split;exact aw _;split;exact aw _;split;exact aw _;split;exact aw _;split
 .show((Fb r c.h).take 50).length<=_;rw[bf];omega
 .exact aw _
theorem Jw {t:RTb}{K:Nat}{L:List (Int × G)}(s:FM t K L)(B:K<=1000000)(c:RCl)(C:SmC c):FnO Tryz.prog 20 [.ptr 0 0,.agg (enC c)] (oT t.r K L) (ApP t K c):=by
 refine Z5u Tryz.func20 (Dh _ _) ?_;have n:=s.lk c.client;have F:=s.len;have bad:∀e,Bi t c=(t,Kd e)->ApP t K c (.agg (Fv (Kd e))) (oT t.r K L):=λe h=>by unfold ApP;rw[h];exact⟨rfl,K,L,Nat.le_succ _,s,rfl⟩
 have p:=Qj t.r c;have fin:Bi t c=(⟨(E9 t.r c).1,t.l.filter (λx=>decide (x.client≠c.client))++[⟨c.client,c.number,(E9 t.r c).2⟩]⟩,(E9 t.r c).2)->1<=c.number->∀m,m<=K+1->Gd (E9 t.r c).1 m->ApP t K c (.agg (Fv (E9 t.r c).2)) (oT (E9 t.r c).1 m (Gy L c.client (gLs ⟨c.client,c.number,(E9 t.r c).2⟩))):=by intro j E m f i;unfold ApP;rw[j];exact⟨rfl,m,_,f,s.put i ⟨c.client,c.number,(E9 t.r c).2⟩ p E,rfl⟩
 cases hf:t.l.find? (λx=>decide (x.client=c.client)) with
 | none =>
  rw[hf] at n;have u:=J4 hf;refine⟨λg e=>(by rw[n] at e;cases e),λ_=>?_⟩;refine(Od c).cal λq d=>?_;subst d;refine dz (λh=>?_) λh=>?_
  .have h:okB c=false:=by simpa using h
   exact .gh (.done (Cs _ _ _ (.agg (Fv (Kd 180))) rfl rfl rfl rfl rfl (bad 180 (Tf (J7.1 h)))))
  have h:okB c=true:=by simpa using h
  have k:=Gj.1 h;have b:=k.1;refine dv (λw=>dt w (by have:=b.2.2.1;show ¬c.number < 0;omega)) λ_=>?_;refine dv (λv=>?_) λv=>?_
  .refine .gh (.done (Cs _ _ _ (.agg (Fv (Kd 1))) rfl rfl rfl rfl rfl (bad 1 (Oz k (.inr ⟨by rw[u],by have v:(L.length:Int) >= 100:=v;omega⟩)))))
  have v:¬(L.length:Int) >= 100:=v;refine du (fun(A:c.number=0)=>dt A (by have:=b.2.2.1;omega)) λ_=>?_;have j:=Lg (t:=t) k (by rw[u];have:=b.2.2.1;show ¬(c.number < 0\/((0:Int)=0/\_));omega) (by rw[u];have:=b.2.2.1;show ¬c.number=0;omega);refine(Z2h c.kind).cal λq d=>?_;subst d;refine dv (λhr=>?_) λhr=>?_
  .refine(Z77 t.r s.gd B L c C hr).cal λq rs d=>?_;obtain⟨m,f,i,rfl,rfl⟩:=d;refine(S5 (E9 t.r c).2 p).cal λq d=>?_;subst d;exact .gh (.done (Cs _ _ _ (.agg (Fv (E9 t.r c).2)) rfl rfl rfl rfl rfl (fin j b.2.2.1 m f i)))
  .refine(Z0o t.r B L c C ⟨b.2.2.2.2.1,by have:=b.2.2.2.2.2;omega⟩).cal λq rs d=>?_;obtain⟨m,f,i,rfl,rfl⟩:=d;refine(S5 (E9 t.r c).2 p).cal λq d=>?_;subst d;exact .gh (.done (Cs _ _ _ (.agg (Fv (E9 t.r c).2)) rfl rfl rfl rfl rfl (fin j b.2.2.1 m f i)))
 | some x =>
  rw[hf] at n;obtain⟨o,y,I⟩:=En hf;have D:=s.nm x y;have H:=s.nu x y;refine⟨λg e=>?_,λe=>by rw[n] at e;cases e⟩;rw[n] at e;cases e;refine(Od c).cal λq d=>?_;subst d;refine dz (λh=>?_) λh=>?_
  .have h:okB c=false:=by simpa using h
   exact .gh (.done (Cs _ _ _ (.agg (Fv (Kd 180))) rfl rfl rfl rfl rfl (bad 180 (Tf (J7.1 h)))))
  have h:okB c=true:=by simpa using h
  have k:=Gj.1 h;have b:=k.1;refine dv (fun(w:c.number < x.number)=>?_) fun(w:¬c.number < x.number)=>?_
  .refine dv (λ_=>?_) λv=>dt w v;exact .gh (.done (Cs _ _ _ (.agg (Fv (Kd 1))) rfl rfl rfl rfl rfl (bad 1 (Oz k (.inl (by rw[o];exact w))))))
  have z:¬(c.number < (Bo t.l c.client).number\/((Bo t.l c.client).number=0/\t.l.length >= 100)):=by rw[o];omega
  refine du (fun(A:c.number=x.number)=>?_) fun(A:¬c.number=x.number)=>?_
  .have j:=Me (t:=t) k z (by rw[o];exact A);refine(S5 x.a D).cal λq d=>?_;subst d;refine .gh (.done (Cs _ _ _ (.agg (Fv x.a)) rfl rfl rfl rfl rfl ?_));unfold ApP;rw[j,o];exact⟨rfl,K,L,Nat.le_succ _,s,rfl⟩
  have j:=Lg (t:=t) k z (by rw[o];exact A);refine(Z2h c.kind).cal λq d=>?_;subst d;refine dv (λhr=>?_) λhr=>?_
  .refine(Z77 t.r s.gd B L c C hr).cal λq rs d=>?_;obtain⟨m,f,i,rfl,rfl⟩:=d;refine(S5 (E9 t.r c).2 p).cal λq d=>?_;subst d;exact .gh (.done (Cs _ _ _ (.agg (Fv (E9 t.r c).2)) rfl rfl rfl rfl rfl (fin j b.2.2.1 m f i)))
  .refine(Z0o t.r B L c C ⟨b.2.2.2.2.1,by have:=b.2.2.2.2.2;omega⟩).cal λq rs d=>?_;obtain⟨m,f,i,rfl,rfl⟩:=d;refine(S5 (E9 t.r c).2 p).cal λq d=>?_;subst d;exact .gh (.done (Cs _ _ _ (.agg (Fv (E9 t.r c).2)) rfl rfl rfl rfl rfl (fin j b.2.2.1 m f i)))
open Go.RowKit Go.Shelf
theorem Z79 (room:Int)(hr:room<=9223372036854775807):FnO Tryz.prog 17 [gI room] [] λg rs=>g=.ptr 0 0/\rs=oT (Fc room) 0 []/\FM ⟨Fc room,[]⟩ 0 []:=by refine Z8l Tryz.func17 (Z8k _) ?_;refine(Zel room hr).cal λq rs b=>?_;obtain⟨rfl,rfl,c⟩:=b;exact⟨itL [(2,.blk [.ptr 1 0,.mp 2] tTb),(0,.abs (fsP (Fc room) 0)),(1,.mpI [])],.ptr 0 0,⟨⟨⟨_,rfl,rfl,rfl⟩,⟨_,rfl,rfl,rfl⟩,⟨_,rfl,rfl,rfl⟩,trivial⟩,rfl,⟨_,rfl⟩,rfl,rfl,⟨rfl,rfl,⟨c,λ_=>rfl,rfl,λx a=>(by cases a),λx a=>(by cases a),List.nodup_nil⟩⟩⟩⟩
theorem Zg5 {t:RTb}{K:Nat}{L:List (Int × G)}(b:FM t K L):FnO Tryz.prog 30 [.ptr 0 0] (oT t.r K L) λg rs=>g=.ptr 3 0/\rs=oT t.r K L++[.abs (fsP t.r K)]:=by refine Z8l Tryz.func30 (Dh _ _) ?_;refine(Z9k b.gd).cal λq rs a=>?_;obtain⟨rfl,rfl⟩:=a;exact⟨itL [(0,.blk [.ptr 1 0,.mp 2] tTb),(1,.abs (fsP t.r K)),(2,.mpI L),(3,.abs (fsP t.r K))],.ptr 3 0,⟨⟨⟨_,rfl,rfl,rfl⟩,⟨_,rfl,rfl,rfl⟩,⟨_,rfl,rfl,rfl⟩,⟨_,rfl,rfl,rfl⟩,trivial⟩,rfl,⟨_,rfl⟩,rfl,rfl,⟨rfl,rfl⟩⟩⟩
theorem Zc3 {t:RTb}{K:Nat}{L:List (Int × G)}(i:FM t K L)(id:Int):FnO Tryz.prog 19 [.ptr 0 0,gI id] (oT t.r K L) λg rs=>g=.tup [gI (Bo t.l id).number,.agg (Fv (Bo t.l id).a)]/\rs=oT t.r K L:=by
 refine Z8l Tryz.func19 (Dh _ _) ?_;have b:=i.lk id;cases hf:t.l.find? (λx=>decide (x.client=id)) with
 | none =>
  rw[hf] at b;have h:=J4 hf;refine⟨λg e=>(by rw[b] at e;cases e),λ_=>?_⟩;refine(S5 an0 (aw _)).cal λq c=>?_;subst c;exact⟨itL [(0,.blk [.ptr 1 0,.mp 2] tTb),(1,.abs (fsP t.r K)),(2,.mpI L)],.tup [gI 0,.agg (Fv an0)],⟨⟨⟨_,rfl,rfl,rfl⟩,⟨_,rfl,rfl,rfl⟩,⟨_,rfl,rfl,rfl⟩,trivial⟩,rfl,⟨_,rfl⟩,rfl,rfl,⟨by rw[h],rfl⟩⟩⟩
 | some x =>
  rw[hf] at b;obtain⟨d,f,j⟩:=En hf;refine⟨λg e=>?_,λe=>by rw[b] at e;cases e⟩;rw[b] at e;cases e;refine(S5 x.a (i.nm x f)).cal λq c=>?_;subst c;exact⟨itL [(0,.blk [.ptr 1 0,.mp 2] tTb),(1,.abs (fsP t.r K)),(2,.mpI L)],.tup [gI x.number,.agg (Fv x.a)],⟨⟨⟨_,rfl,rfl,rfl⟩,⟨_,rfl,rfl,rfl⟩,⟨_,rfl,rfl,rfl⟩,trivial⟩,rfl,⟨_,rfl⟩,rfl,rfl,⟨by rw[d],rfl⟩⟩⟩
end Go.Proofs.YtmmdikhljefeiaaGreat

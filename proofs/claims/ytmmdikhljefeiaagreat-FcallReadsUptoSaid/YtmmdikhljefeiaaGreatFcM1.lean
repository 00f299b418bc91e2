
import Derived.Test.YtmmdikhljefeiaaGreatYQp
import Derived.Test.YtmmdikhljefeiaaGreatQM1
import Derived.Test.YtmmdikhljefeiaaGreatPKM
import Derived.Test.YtmmdikhljefeiaaGreatYFnu
import Derived.Test.YtmmdikhljefeiaaGreatSxMc
import Derived.Test.YtmmdikhljefeiaaGreatYFtT
import Derived.Test.YtmmdikhljefeiaaGreatYFtU
namespace Go.Proofs.YtmmdikhljefeiaaGreat
open Go.RowKit
structure RCl where
 client:Int
 number:Int
 kind:Int
 h:Int × Int
 g:Int × Int
 name:ByteArray
 other:ByteArray
 m:RMk
 fo:Bool
 pos:Int
 n:Int
 time:Int
 b:ByteArray
structure RNf where
 id:Int
 gen:Int
 kind:Int
 mode:Int
 links:Int
 size:Int
 blocks:Int
 time:Int
structure RAn where
 code:Int
 h:Int × Int
 b:ByteArray
 i:RNf
 names:List ByteArray
def nf0:RNf:=⟨0,0,0,0,0,0,0,0⟩
def an0:RAn:=⟨0,(0,0),eS,nf0,[]⟩
def mk0:RMk:=⟨0,0,0,eS⟩
def Qz (c:RCl):RCl where
 client:=c.client
 number:=c.number
 kind:=c.kind
 h:=c.h
 g:=if c.kind=2\/c.kind=4 then c.g else(0,0)
 name:=if c.kind=1\/c.kind=2\/c.kind=3\/c.kind=4\/c.kind=7 then c.name else eS
 other:=if c.kind=4 then c.other else eS
 m:=if c.kind=1 then c.m else mk0
 fo:=if c.kind=3 then c.fo else false
 pos:=if c.kind=5\/c.kind=8 then c.pos else 0
 n:=if c.kind=6\/c.kind=8 then c.n else 0
 time:=if c.kind=5\/c.kind=6 then c.time else 0
 b:=if c.kind=5 then c.b else eS
def Zdy (c:RCl):Prop:=1<=c.client/\c.client<=1000000/\1<=c.number/\c.number<=big/\1<=c.kind/\c.kind<=11
def okC (c:RCl):Prop:=Zdy c/\c=Qz c
open Classical in
noncomputable def okB (c:RCl):Bool:=decide (okC c)
open Classical in
theorem Ie {c:RCl}:okB c=true↔okC c:=by unfold okB;exact decide_eq_true_iff
open Classical in
theorem Jm {c:RCl}:okB c=false↔¬okC c:=by unfold okB;exact decide_eq_false_iff_not
def wF (n:Int):RFd:=⟨2,n,eS⟩
def tF (s:ByteArray):RFd:=⟨3,0,s⟩
def Po (c:RCl):List RFd :=
 [wF c.client,wF c.number,⟨1,c.kind,eS⟩,wF c.h.1,wF c.h.2]
 ++ ((if c.kind=2\/c.kind=4 then [wF c.g.1,wF c.g.2] else [])
 ++ ((if c.kind=1\/c.kind=2\/c.kind=3\/c.kind=4\/c.kind=7 then [tF c.name] else [])
 ++ ((if c.kind=4 then [tF c.other] else [])
 ++ ((if c.kind=1 then [wF c.m.kind,wF c.m.mode,wF c.m.time,tF c.m.target] else [])
 ++ ((if c.kind=3 then [⟨4,bI c.fo,eS⟩] else [])
 ++ ((if c.kind=5\/c.kind=8 then [wF c.pos] else [])
 ++ ((if c.kind=6\/c.kind=8 then [wF c.n] else [])
 ++ ((if c.kind=5\/c.kind=6 then [wF c.time] else [])
 ++ (if c.kind=5 then [tF c.b] else [])))))))))
def okW (c:RCl):Prop:=okC c/\O0 (Po c)=0/\(Il (Po c)).length<=200
open Classical in
noncomputable def bC (c:RCl):Bs:=if okW c then Il (Po c) else []
open Classical in
noncomputable def eC (c:RCl):Int:=if okW c then 0 else 180
def Z02 (r:RFs)(h:Int × Int):RNf:=if Aj r h=true then⟨h.1,h.2,(A3 r.ins h.1).kind,(A3 r.ins h.1).mode,(A5 r (A3 r.ins h.1):Int),Gs r (A3 r.ins h.1),((A3 r.ins h.1).On.length:Int),(A3 r.ins h.1).time⟩ else nf0
noncomputable def Eb (r:RFs) (c:RCl):RFs × RAn :=
 if c.kind=1 then((D7 r c.h c.name c.m).1,{an0 with h:=(D7 r c.h c.name c.m).2.1,code:=(D7 r c.h c.name c.m).2.2})
 else if c.kind=2 then((E9 r c.h c.g c.name).1,{an0 with code:=(E9 r c.h c.g c.name).2})
 else if c.kind=3 then((C3 r c.h c.name c.fo).1,{an0 with code:=(C3 r c.h c.name c.fo).2})
 else if c.kind=4 then((Da r c.h c.name c.g c.other).1,{an0 with code:=(Da r c.h c.name c.g c.other).2})
 else if c.kind=5 then((Bz r c.h c.pos c.b.data.toList c.time).1,{an0 with code:=(Bz r c.h c.pos c.b.data.toList c.time).2})
 else if c.kind=6 then((Fm r c.h c.n c.time).1,{an0 with code:=(Fm r c.h c.n c.time).2})
 else if c.kind=7 then(r,{an0 with h:=(Fk r c.h c.name).1,code:=(Fk r c.h c.name).2})
 else if c.kind=8 then(r,{an0 with b:=⟨((Ct r c.h c.pos c.n).1.take 1000).toArray⟩,code:=(Ct r c.h c.pos c.n).2})
 else if c.kind=9 then(r,{an0 with i:=Z02 r c.h,code:=Bv r c.h})
 else if c.kind=10 then(r,{an0 with names:=(Fd r c.h).take 50,code:=Ab r c.h})
 else(r,{an0 with b:=(D9 r c.h).1,code:=(D9 r c.h).2})
structure RLs where
 client:Int
 number:Int
 a:RAn
structure RTb where
 r:RFs
 l:List RLs
def B4 (l:List RLs)(client:Int):RLs:=(l.find? λx=>decide (x.client=client)).getD ⟨0,0,an0⟩
def Mp (e:Int):RAn:={an0 with code:=e}
open Classical in
noncomputable def By (t:RTb) (c:RCl):RTb × RAn :=
 if ¬okC c then(t,Mp 180)
 else if c.number < (B4 t.l c.client).number\/((B4 t.l c.client).number=0/\t.l.length >= 100) then(t,Mp 1)
 else if c.number=(B4 t.l c.client).number then(t,(B4 t.l c.client).a)
 else(⟨(Eb t.r c).1,t.l.filter (λx=>decide (x.client≠c.client))++[⟨c.client,c.number,(Eb t.r c).2⟩]⟩,(Eb t.r c).2)
set_option maxRecDepth 100000
abbrev Z72:Nat:=9
def enC (c:RCl):List G:=[gI c.client,gI c.number,gI c.kind,gI c.h.1,gI c.h.2,gI c.g.1,gI c.g.2,gS c.name,gS c.other,gI c.m.kind,gI c.m.mode,gI c.m.time,gS c.m.target,.v (.bool c.fo),gI c.pos,gI c.n,gI c.time,gS c.b]
def Zga (i:RNf):List G:=[gI i.id,gI i.gen,gI i.kind,gI i.mode,gI i.links,gI i.size,gI i.blocks,gI i.time]
def Fq (a:RAn):List G:=[gI a.code,gI a.h.1,gI a.h.2,gS a.b]++(Zga a.i++[.sl (a.names.map gSt)])
theorem P2 (r:RFs)(h:Int × Int):Ya r h=.tup [.agg (Zga (Z02 r h)),gI (Bv r h)]:=by unfold Ya Z02 Bv;split<;>rfl
def Zdq (k:Int):Int:=if k=1 then 21 else if k=2 then 7 else if k=3 then 37 else if k=4 then 15 else if k=5 then 833 else if k=6 then 385 else if k=7 then 5 else if k=8 then 193 else if k=9 then 1 else if k=10 then 1 else if k=11 then 1 else 0
theorem Hn {k:Int}(h:1<=k/\k<=11):k=1\/k=2\/k=3\/k=4\/k=5\/k=6\/k=7\/k=8\/k=9\/k=10\/k=11:=by omega
theorem Ov (k:Int):FnV Tryz.prog 28 [gI k] λg=>g=.v (.bool (decide (7<=k/\k<=11))):=by
 refine fnG Tryz.func28 ?_;refine dw (λa=>?_) λa=>?_
 .exact congrArg (λb=>G.v (.bool b)) (decide_eq_decide.2 ⟨λh=>⟨a,h⟩,λh=>h.2⟩)
 .rw[decide_eq_false (λh:7<=k/\k<=11=>a h.1)];exact rfl
theorem Z7j (k:Int)(h:1<=k/\k<=11):FnV Tryz.prog 63 [gI k] λg=>g=gI (Zdq k):=by
 rcases Hn h with rfl | rfl | rfl | rfl | rfl | rfl | rfl | rfl | rfl | rfl | rfl
 all_goals
  refine fnG Tryz.func63 ?_;exact⟨by decide,rfl⟩
theorem Xt {b c:Bool}{A B:Prop}(e:b=c)(h:bif c then A else B):EvIf b A B:=by
 subst e;cases b
 .exact⟨λe=>(by cases e),λ_=>h⟩
 .exact⟨λ_=>h,λe=>(by cases e)⟩
theorem Zb9 (c:RCl)(h:1<=c.kind/\c.kind<=11):FnV Tryz.prog 62 [.agg (enC c)] λg=>g=.agg (enC (Qz c)):=by
 refine fnG Tryz.func62 ?_;obtain⟨client,number,kind,d,g,name,other,m,fo,pos,n,time,b⟩:=c;dsimp only at h;rcases Hn h with rfl | rfl | rfl | rfl | rfl | rfl | rfl | rfl | rfl | rfl | rfl
 all_goals
  refine(Z7j _ h).cal λq a=>?_;subst a
  iterate 10 first | refine Xt (c:=true) (by decide +kernel) ?_ | refine Xt (c:=false) (by decide +kernel) ?_
  exact rfl
def S2 (c:RCl):List Value:=[.int .i64 c.client,.int .i64 c.number,.int .i64 c.kind,.int .i64 c.h.1,.int .i64 c.h.2,.int .i64 c.g.1,.int .i64 c.g.2,.string c.name,.string c.other,.int .i64 c.m.kind,.int .i64 c.m.mode,.int .i64 c.m.time,.string c.m.target,.bool c.fo,.int .i64 c.pos,.int .i64 c.n,.int .i64 c.time,.string c.b]
def shC:List Sh:=[.i .i64,.i .i64,.i .i64,.i .i64,.i .i64,.i .i64,.i .i64,.s,.s,.i .i64,.i .i64,.i .i64,.s,.b,.i .i64,.i .i64,.i .i64,.s]
theorem Zp {c d:RCl}(h:enC c=enC d):c=d:=by obtain⟨a1,a2,j,⟨s,q⟩,⟨A,a⟩,C,J,⟨e,g,D,z⟩,i,m,H,B,y⟩:=c;obtain⟨c1,I,n,⟨u,k⟩,⟨F,f⟩,r,K,⟨o,l,E,L⟩,x,p,w,b,t⟩:=d;simp only[enC,List.cons.injEq,G.v.injEq,Value.int.injEq,Value.string.injEq,Value.bool.injEq,true_and,and_true] at h;obtain⟨rfl,rfl,rfl,rfl,rfl,rfl,rfl,rfl,rfl,rfl,rfl,rfl,rfl,rfl,rfl,rfl,rfl,rfl⟩:=h;rfl
theorem Ph (c:RCl):FnV Tryz.prog 33 [.agg (enC c)] λg=>g=.v (.bool (okB c)):=by
 refine fnG Tryz.func33 ?_;have no:¬Zdy c->G.v (.bool false)=G.v (.bool (okB c)):=λh=>by rw[Jm.2 λk=>h k.1]
 refine dw (λd=>?_) λd=>no λh=>d h.1;refine dw (λf=>?_) λf=>no λh=>f h.2.1;refine dw (λi=>?_) λi=>no λh=>i h.2.2.1;refine dw (λj=>?_) λj=>no λh=>j h.2.2.2.1;refine dw (λa=>?_) λa=>no λh=>a h.2.2.2.2.1;refine dw (λb=>?_) λb=>no λh=>b h.2.2.2.2.2;refine(Zb9 c ⟨a,b⟩).cal λq l=>?_;subst l;refine EvEq.flat shC (S2 c) (S2 (Qz c)) (by kernel_rfl) (by kernel_rfl) (by kernel_rfl) rfl rfl rfl rfl (λe=>?_) λe=>?_
 .have e:enC c=enC (Qz c):=congrArg (List.map G.v) e;have:okB c=true:=Ie.2 ⟨⟨d,f,i,j,a,b⟩,Zp e⟩;rw[this];exact rfl
 .have:okB c=false:=Jm.2 λh=>e (congrArg S2 h.2);rw[this];exact rfl
theorem Z6c (l:List ByteArray):∀r∈l.map gSt,r.length=1/\r.all G.one=true:=λr hr=>by obtain⟨c,-,rfl⟩:=bj.1 hr;exact⟨rfl,rfl⟩
theorem Z1 {own:Os}{n k:Nat}{a b:List (List G)}{e sz:Nat}(h:look k own=some (.slc a e sz))(c:a=b):Zau [] own n (.osl k) (λg rs=>g=.osl 0/\rs=[.slc b e sz]):=by subst c;exact .inl ⟨[⟨[(0,.slc a e sz)],[(0,k)],false⟩],.osl 0,⟨⟨⟨_,rfl,h,rfl⟩,trivial⟩,rfl,⟨_,rfl⟩,rfl,rfl,⟨rfl,rfl⟩⟩⟩
theorem Uk (l:List ByteArray)(d:l.length<=1000000):FnO Tryz.prog 70 [.sl (l.map gSt)] [] λg rs=>g=.osl 0/\rs=[.slc (l.map gSt) Z72 1]:=by
 refine Z5 Tryz.func70 (Z3m _) ?_;refine⟨λb c=>?_⟩;refine ec (λh=>?_) λh=>?_
 .have e:l.map gSt=[]:=cj λa=>by rw[c a] at h;cases h
  exact Z1 (k:=1) rfl e.symm
 .refine⟨Z6c l,by simp;omega,?_⟩;exact Z1 (k:=2) rfl (dk _)
theorem Ta (a:RAn)(b:a.names.length<=1000000):FnV Tryz.prog 46 [.agg (Fq a)] λg=>g=.agg (Fq a):=by refine fnG Tryz.func46 ?_;refine(Uk a.names b).cal λq rs c=>?_;obtain⟨rfl,rfl⟩:=c;exact rfl
theorem Z4i {r:RFs}{K:Nat}(h:Int × Int):FnO Tryz.prog 79 [.ptr 0 0,gH h] (fP r K) λg rs=>g=.tup [gS (D9 r h).1,gI (D9 r h).2]/\rs=fP r K :=
 Kk ⟨_,Tryz.func79,by kernel_rfl,by kernel_rfl⟩ rfl λI w b j k N vs m d f a=>by obtain⟨l,vs,rfl,c,a⟩:=a.uncons;obtain rfl:=a.of_nil;rw[Fe c];exact(Xu d f h.1 h.2).mono λe w' ⟨i,hb⟩=>⟨_,i,Fw (.v _) (.v _),hb⟩
theorem Z95 {I:Imm}{V:Va}{w:World}{p a:Ob}(q:V.n=2)(l:Mem I w)(i:Loc p/\p I (V.b 0) (V.f 0) w)(e:Loc a/\a I (V.b 1) (V.f 1) w)(g:∀k b,V.f k b->k < 2->b < w.heap.size/\∀o,I b o=none)(hd:∀b,V.f 0 b->¬V.f 1 b):Has I V (Ev [.abs p,.abs a] 0) w:=by
 have lk:∀k r,look k (Ev [.abs p,.abs a] 0)=some r->k=0/\r=.abs p\/k=1/\r=.abs a:=λk r h=>by
  rw[Bi] at h
  match k,h with
  | 0,h=>simp at h;exact .inl ⟨rfl,h.symm⟩
  | 1,h=>simp at h;exact .inr ⟨rfl,h.symm⟩
  | k+2,h=>simp at h
 refine⟨l,λk r h=>?_,λk r h=>?_,λk r b h c=>?_,λk j r r' b h m c d=>?_⟩
 .rcases lk k r h with⟨rfl,-⟩ | ⟨rfl,-⟩<;>omega
 .rcases lk k r h with⟨rfl,rfl⟩ | ⟨rfl,rfl⟩
  .exact i
  .exact e
 .rcases lk k r h with⟨rfl,-⟩ | ⟨rfl,-⟩
  .exact g 0 b c (by omega)
  .exact g 1 b c (by omega)
 .rcases lk k r h with⟨rfl,-⟩ | ⟨rfl,-⟩<;>rcases lk j r' m with⟨rfl,-⟩ | ⟨rfl,-⟩
  .rfl
  .exact du d (hd b c)
  .exact du c (hd b d)
  .rfl
theorem Ze {r:RFs}{K:Nat}(_:Gd r K):FnO Tryz.prog 56 [.ptr 0 0] (fP r K) λg rs=>g=.ptr 1 0/\rs=[.abs (fsP r K),.abs (fsP r K)] :=
 ⟨⟨_,Tryz.func56,by kernel_rfl,by kernel_rfl⟩,λI V w vs hH q E=>by
  obtain⟨x,L,rfl,p,B⟩:=E.uncons;obtain rfl:=B.of_nil;obtain⟨-,rfl⟩:=(show 0 < V.n/\x=.pointer (some ⟨V.b 0,0,none⟩) from p);obtain⟨-,D,G,N,t,l,y⟩:=hH.each 0 (.abs (fsP r K)) rfl;have c:=λb a=>hH.foot 0 (.abs (fsP r K)) b rfl a;have F:V.n=1:=q;refine(Yc t l).mono λe w' ⟨j,mi',mg',N',he,hF,hB,hnew⟩=>?_;have A:Mem I w':=hH.mem.keep λb o x p=>hB.block b (hH.mem.lt p);refine⟨_,.ptr 1 0,_,I,⟨2,λk=>if k=0 then V.b 0 else j,V.s,λk b=>if k=0 then V.f 0 b else b∈fpL j mi' mg' N'⟩,he,⟨rfl,rfl⟩,rfl,Z95 rfl A ⟨I4 _ _,?_⟩ ⟨I4 _ _,mi',mg',N',hF,l,λk=>Iff.rfl⟩ (λk b a i=>?_) (λb H m=>?_),⟨dc _,rfl⟩,⟨hB.os,hB.tape,hB.output,hB.size,λb a _=>⟨hB.block b a,λ_=>rfl⟩,λ_ _ _ h=>h,λk r' b i a C=>?_⟩,⟨by show V.n<=2;omega,λk i=>?_⟩⟩
  .exact I4 r K _ _ _ _ _ _ ⟨D,G,N,t,l,y⟩ (λ_ _ _ h=>h) hB.os hB.size λk i=>hB.block k (c k i).1
  .match k,a,i with
   | 0,a,_=>exact⟨bc (c b a).1 hB.size,(c b a).2⟩
   | 1,a,_ =>
    have a:b∈fpL j mi' mg' N':=a;refine⟨?_,λo=>?_⟩
    .obtain⟨u,z,J,v⟩:=hF.lt l;rcases Hc.1 a with rfl | rfl | rfl | ⟨n,q,i⟩
     .exact u
     .exact z
     .exact J
     .exact v n q b i
    .cases hI:I b o with
     | none=>rfl
     | some x=>exact du (hH.mem.lt hI) (by have:=hnew b a;omega)
  .have m:b∈fpL j mi' mg' N':=m;have:=hnew b m;have:=(c b H).1;omega
  .by_cases d:k=0
   .have a:V.f 0 b:=by have:=a;dsimp only at this;rw[dt d] at this;exact this
    exact⟨0,_,rfl,a⟩
   .have a:b∈fpL j mi' mg' N':=by have:=a;dsimp only at this;rw[dq d] at this;exact this
    have:=hnew b a;omega
  .have d:k=0:=by omega
   subst d;exact⟨rfl,rfl⟩⟩
abbrev tTb:Nat:=113
abbrev oT (r:RFs)(K:Nat)(L:List (Int × G)):List R:=[.blk [.ptr 1 0,.mp 2] tTb,.abs (fsP r K),.mpI L]
def gLs (x:RLs):G:=.agg (gI x.number::Fq x.a)
structure SmC (c:RCl):Prop where
 nm:c.name.size<=maxLen
 ot:c.other.size<=maxLen
 tg:c.m.target.size<=maxLen
 b:c.b.size<=maxLen
def Zd7 (a:RAn)(nm:G):List G:=[gI a.code,gI a.h.1,gI a.h.2,gS a.b,gI a.i.id,gI a.i.gen,gI a.i.kind,gI a.i.mode,gI a.i.links,gI a.i.size,gI a.i.blocks,gI a.i.time,nm]
def itT (r:RFs)(K:Nat)(L:List (Int × G)):List It:=[⟨[(0,.blk [.ptr 1 0,.mp 2] tTb)],[(0,0)],false⟩,⟨[(0,.abs (fsP r K))],[(0,1)],false⟩,⟨[(0,.mpI L)],[(0,2)],false⟩]
theorem Cu {own:Os}{n:Nat}{g:G}{Q:G->List R->Prop}(r:RFs)(K:Nat)(L:List (Int × G))(a:G)(f:look 0 own=some (.blk [.ptr 1 0,.mp 2] tTb))(c:look 1 own=some (.abs (fsP r K)))(e:look 2 own=some (.mpI L))(hr:R3 (Eh (itT r K L) 0) a=g)(d:(Z38 3 a&&Zet a&&Zfv 3 a)=true)(h:Q a (oT r K L)):∃b a,Wu [0,1,2] own n g Q b a :=
 ⟨itT r K L,a,⟨⟨⟨_,rfl,f,rfl⟩,⟨_,rfl,c,rfl⟩,⟨_,rfl,e,rfl⟩,trivial⟩,rfl,⟨[],rfl⟩,hr,d,h⟩⟩
def Zea (r:RFs)(K:Nat)(L:List (Int × G))(c:RCl)(g:G)(rs:List R):Prop:=∃a,a<=K+1/\Gd (Eb r c).1 a/\g=.agg (Fq (Eb r c).2)/\rs=oT (Eb r c).1 a L
theorem Es {r r':RFs}{K b:Nat}{L:List (Int × G)}{c:RCl}{a:RAn}(h:Eb r c=(r',a))(d:b<=K+1)(e:Gd r' b):Zea r K L c (.agg (Fq a)) (oT r' b L):=by unfold Zea;rw[h];exact⟨b,d,e,rfl,rfl⟩
theorem Z2a (r:RFs){K:Nat}(p:K<=1000000)(L:List (Int × G))(c:RCl)(e:SmC c)(s:1<=c.kind/\c.kind<=6):FnO Tryz.prog 47 [.ptr 0 0,.agg (enC c)] (oT r K L) (Zea r K L c):=by
 refine Z5 Tryz.func47 (Cj _ _) ?_;refine dv (fun(f:c.kind=1)=>?_) (fun(f:¬c.kind=1)=>?_)
 .refine(Z7r p c.h c.name e.nm c.m e.tg).cal λq rs d=>?_;obtain⟨rfl,rfl,a⟩:=d;exact .gh (.done (Cu _ _ _ (.agg (Fq {an0 with h:=(D7 r c.h c.name c.m).2.1,code:=(D7 r c.h c.name c.m).2.2})) rfl rfl rfl rfl rfl (Es (by unfold Eb;rw[dt f]) (au _) a)))
 refine dv (fun(i:c.kind=2)=>?_) (fun(i:¬c.kind=2)=>?_)
 .refine(Zbr c.h c.g c.name e.nm).cal λq rs d=>?_;obtain⟨rfl,rfl,a⟩:=d;exact .gh (.done (Cu _ _ _ (.agg (Fq {an0 with code:=(E9 r c.h c.g c.name).2})) rfl rfl rfl rfl rfl (Es (by unfold Eb;rw[dq f,dt i]) (au _) a)))
 refine dv (fun(j:c.kind=3)=>?_) (fun(j:¬c.kind=3)=>?_)
 .refine(Z42 c.h c.name e.nm c.fo).cal λq rs d=>?_;obtain⟨rfl,rfl,a⟩:=d;exact .gh (.done (Cu _ _ _ (.agg (Fq {an0 with code:=(C3 r c.h c.name c.fo).2})) rfl rfl rfl rfl rfl (Es (by unfold Eb;rw[dq f,dq i,dt j]) (Nat.le_succ _) a)))
 refine dv (fun(k:c.kind=4)=>?_) (fun(k:¬c.kind=4)=>?_)
 .refine(Z3e c.h c.name e.nm c.g c.other e.ot).cal λq rs d=>?_;obtain⟨rfl,rfl,a⟩:=d;exact .gh (.done (Cu _ _ _ (.agg (Fq {an0 with code:=(Da r c.h c.name c.g c.other).2})) rfl rfl rfl rfl rfl (Es (by unfold Eb;rw[dq f,dq i,dq j,dt k]) (Nat.le_succ _) a)))
 refine dv (fun(l:c.kind=5)=>?_) (fun(l:¬c.kind=5)=>?_)
 .refine(Z94 c.h c.pos c.b.data.toList (by have:=e.b;exact this) c.time).cal λq rs d=>?_;obtain⟨rfl,rfl,a⟩:=d;exact .gh (.done (Cu _ _ _ (.agg (Fq {an0 with code:=(Bz r c.h c.pos c.b.data.toList c.time).2})) rfl rfl rfl rfl rfl (Es (by unfold Eb;rw[dq f,dq i,dq j,dq k,dt l]) (Nat.le_succ _) a)))
 have o:c.kind=6:=by omega
 refine(Zft c.h c.n c.time).cal λq rs d=>?_;obtain⟨rfl,rfl,a⟩:=d;exact .gh (.done (Cu _ _ _ (.agg (Fq {an0 with code:=(Fm r c.h c.n c.time).2})) rfl rfl rfl rfl rfl (Es (by unfold Eb;rw[dq f,dq i,dq j,dq k,dq l,dt o]) (Nat.le_succ _) a)))
theorem Lb {α:Type}(f:α->List G)(l:List α)(k:Nat):Fr (l.map f) (Int.toNat 0) (min ((l.map f).length:Int) (k:Int)).toNat=(l.take k).map f:=by
 unfold Fr;rw[show(Int.toNat 0)=0 from rfl,List.drop_zero,<-dh,ao]
 congr 1
 by_cases h:l.length<=k
 .rw[ba (by omega),ba h]
 .congr 1;omega
theorem Z7e (r:RFs){K:Nat}(k:Gd r K)(u:K<=1000000)(L:List (Int × G))(c:RCl)(t:SmC c)(w:7<=c.kind/\c.kind<=11):FnO Tryz.prog 48 [.ptr 0 0,.agg (enC c)] (oT r K L) (Zea r K L c):=by
 refine Z5 Tryz.func48 (Cj _ _) ?_;have j:¬c.kind=1:=by omega
 have o:¬c.kind=2:=by omega
 have l:¬c.kind=3:=by omega
 have m:¬c.kind=4:=by omega
 have n5:¬c.kind=5:=by omega
 have n6:¬c.kind=6:=by omega
 refine dv (fun(d:c.kind=7)=>?_) (fun(d:¬c.kind=7)=>?_)
 .refine(Zc4 c.h c.name t.nm).cal λq rs a=>?_;obtain⟨rfl,rfl⟩:=a;exact .gh (.done (Cu _ _ _ (.agg (Fq {an0 with h:=(Fk r c.h c.name).1,code:=(Fk r c.h c.name).2})) rfl rfl rfl rfl rfl (Es (by unfold Eb;rw[dq j,dq o,dq l,dq m,dq n5,dq n6,dt d]) (Nat.le_succ _) k)))
 refine dv (fun(f:c.kind=8)=>?_) (fun(f:¬c.kind=8)=>?_)
 .refine(Z9v c.h c.pos c.n).cal λq rs a=>?_;obtain⟨rfl,rfl⟩:=a;refine⟨⟨cd _,by omega,by omega⟩,⟨λr hr=>(by obtain⟨x,-,rfl⟩:=bj.1 hr;rfl),?_⟩⟩;refine EvBytes.mk ⟨(Ct r c.h c.pos c.n).1.take 1000,Lb gBy _ 1000,?_⟩;exact .gh (.done (Cu _ _ _ (.agg (Fq {an0 with b:=⟨((Ct r c.h c.pos c.n).1.take 1000).toArray⟩,code:=(Ct r c.h c.pos c.n).2})) rfl rfl rfl rfl rfl (Es (by unfold Eb;rw[dq j,dq o,dq l,dq m,dq n5,dq n6,dq d,dt f]) (Nat.le_succ _) k)))
 refine dv (fun(p:c.kind=9)=>?_) (fun(p:¬c.kind=9)=>?_)
 .refine(Z7t c.h).cal λq rs a=>?_;obtain⟨rfl,rfl⟩:=a;rw[P2];exact .gh (.done (Cu _ _ _ (.agg (Fq {an0 with i:=Z02 r c.h,code:=Bv r c.h})) rfl rfl rfl rfl rfl (Es (by unfold Eb;rw[dq j,dq o,dq l,dq m,dq n5,dq n6,dq d,dq f,dt p]) (Nat.le_succ _) k)))
 refine dv (fun(s:c.kind=10)=>?_) (fun(s:¬c.kind=10)=>?_)
 .refine(Zbb u c.h).cal λq rs a=>?_;obtain⟨rfl,rfl⟩:=a;refine⟨⟨cd _,by omega,by omega⟩,⟨λr hr=>(by obtain⟨x,-,rfl⟩:=bj.1 hr;rfl),?_⟩⟩;have v:FnO Tryz.prog 70 [.sl (Fr ((Fd r c.h).map gSt) (Int.toNat 0) (min (((Fd r c.h).map gSt).length:Int) 50).toNat)] [] λg rs=>g=.osl 0/\rs=[.slc (((Fd r c.h).take 50).map gSt) Z72 1]:=by
   have e:=Lb gSt (Fd r c.h) 50;rw[show(((50:Nat):Int))=50 from rfl] at e;rw[e];exact Uk _ (by rw[be];omega)
  refine v.cal λq rs a=>?_;obtain⟨rfl,rfl⟩:=a;have e:Eb r c=(r,{an0 with names:=(Fd r c.h).take 50,code:=Ab r c.h}):=by unfold Eb;rw[dq j,dq o,dq l,dq m,dq n5,dq n6,dq d,dq f,dq p,dt s]
  exact .gh (.frz 6 _ _ _ rfl (.done (Cu r K L (.agg (Fq {an0 with names:=(Fd r c.h).take 50,code:=Ab r c.h})) rfl rfl rfl rfl rfl (Es e (Nat.le_succ _) k))))
 refine(Z4i c.h).cal λq rs a=>?_;obtain⟨rfl,rfl⟩:=a;exact .gh (.done (Cu _ _ _ (.agg (Fq {an0 with b:=(D9 r c.h).1,code:=(D9 r c.h).2})) rfl rfl rfl rfl rfl (Es (by unfold Eb;rw[dq j,dq o,dq l,dq m,dq n5,dq n6,dq d,dq f,dq p,dq s]) (Nat.le_succ _) k)))
structure FM (t:RTb)(K:Nat)(L:List (Int × G)):Prop where
 gd:Gd t.r K
 lk:∀id,Az L id=(t.l.find? λx=>decide (x.client=id)).map gLs
 len:L.length=t.l.length
 nm:∀x∈t.l,x.a.names.length<=1000000
 nu:∀x∈t.l,1<=x.number
 nd:(t.l.map RLs.client).Nodup
def ApP (t:RTb)(K:Nat)(c:RCl)(g:G)(rs:List R):Prop:=g=.agg (Fq (By t c).2)/\∃a b,a<=K+1/\FM (By t c).1 a b/\rs=oT (By t c).1.r a b
theorem Ff {l:List RLs}{id:Int}(h:l.find? (λx=>decide (x.client=id))=none):B4 l id=⟨0,0,an0⟩:=by unfold B4;rw[h];rfl
theorem Dk {l:List RLs}{id:Int}{x:RLs}(h:l.find? (λx=>decide (x.client=id))=some x):B4 l id=x/\x∈l/\x.client=id:=by refine⟨by unfold B4;rw[h];rfl,List.mem_of_find?_eq_some h,by simpa using List.find?_some h⟩
theorem Lu {t:RTb}{c:RCl}(h:okC c)(a:¬(c.number < (B4 t.l c.client).number\/((B4 t.l c.client).number=0/\t.l.length >= 100)))(b:¬c.number=(B4 t.l c.client).number):By t c=(⟨(Eb t.r c).1,t.l.filter (λx=>decide (x.client≠c.client))++[⟨c.client,c.number,(Eb t.r c).2⟩]⟩,(Eb t.r c).2):=by unfold By;rw[dq (λe=>e h),dq a,dq b]
theorem Pr {t:RTb}{c:RCl}(h:okC c)(b:¬(c.number < (B4 t.l c.client).number\/((B4 t.l c.client).number=0/\t.l.length >= 100)))(d:c.number=(B4 t.l c.client).number):By t c=(t,(B4 t.l c.client).a):=by unfold By;rw[dq (λe=>e h),dq b,dt d]
theorem Pn {t:RTb}{c:RCl}(h:okC c)(a:c.number < (B4 t.l c.client).number\/((B4 t.l c.client).number=0/\t.l.length >= 100)):By t c=(t,Mp 1):=by unfold By;rw[dq (λe=>e h),dt a]
theorem Qf {t:RTb}{c:RCl}(h:¬okC c):By t c=(t,Mp 180):=by unfold By;rw[dt h]
theorem Vk {l:List RLs}{y:RLs}(id:Int):(l.filter (λx=>decide (x.client≠y.client))++[y]).find? (λx=>decide (x.client=id))=if y.client=id then some y else l.find? (λx=>decide (x.client=id)):=by
 rw[List.find?_append];by_cases h:y.client=id
 .have e:(l.filter (λx=>decide (x.client≠y.client))).find? (λx=>decide (x.client=id))=none:=by
   rw[List.find?_eq_none];intro x a;have:=(af.1 a).2;simp at this⊢;omega
  rw[e,dt h,List.find?_cons_of_pos (by simpa using h)];rfl
 .rw[dq h,List.find?_cons_of_neg (by simpa using h),List.find?_nil,Option.or_none]
  induction l with
  | nil=>rfl
  | cons x l ih =>
   by_cases a:x.client=y.client
   .rw[List.filter_cons_of_neg (by simpa using a),List.find?_cons_of_neg (by simp;omega),ih]
   .rw[List.filter_cons_of_pos (by simpa using a)];by_cases b:x.client=id
    .rw[List.find?_cons_of_pos (by simpa using b),List.find?_cons_of_pos (by simpa using b)]
    .rw[List.find?_cons_of_neg (by simpa using b),List.find?_cons_of_neg (by simpa using b),ih]
theorem Z3j {l:List RLs}(a:(l.map RLs.client).Nodup)(id:Int):(l.filter (λx=>decide (x.client≠id))).length+(if(l.find? (λx=>decide (x.client=id))).isSome=true then 1 else 0)=l.length:=by
 induction l with
 | nil=>rfl
 | cons x l ih =>
  rw[cw,List.nodup_cons] at a;by_cases h:x.client=id
  .rw[List.filter_cons_of_neg (by simpa using h),List.find?_cons_of_pos (by simpa using h),bm];have e:l.filter (λx=>decide (x.client≠id))=l:=List.filter_eq_self.2 λy b=>by
    have:y.client≠x.client:=λe=>a.1 (by rw[<-e];exact bj.2 ⟨y,b,rfl⟩);simp;omega
   rw[e];rfl
  .rw[List.filter_cons_of_pos (by simpa using h),List.find?_cons_of_neg (by simpa using h),bm,bm,<-ih a.2];omega
theorem Z5x {κ β:Type}[DecidableEq κ](L:List (κ × β))(k:κ)(v:β):(Gq L k v).length=L.length+(if(Az L k).isSome=true then 0 else 1):=by
 unfold Gq;split
 .rw[ao];rfl
 .rw[bf];rfl
theorem FM.put {t:RTb}{K f:Nat}{L:List (Int × G)}(h:FM t K L){r':RFs}(i:Gd r' f)(y:RLs)(k:y.a.names.length<=1000000)(m:1<=y.number):FM ⟨r',t.l.filter (λx=>decide (x.client≠y.client))++[y]⟩ f (Gq L y.client (gLs y)):=by
 refine⟨i,λid=>?_,?_,λx c=>?_,λx c=>?_,?_⟩
 .show _=((t.l.filter (λx=>decide (x.client≠y.client))++[y]).find? _).map gLs;rw[D4,Vk,h.lk];by_cases e:y.client=id
  .rw[dt e,dt (by omega)];rfl
  .rw[dq e,dq (by omega)]
 .have d:=Z3j h.nd y.client;have g:=h.lk y.client;have n:=h.len;show _=(t.l.filter (λx=>decide (x.client≠y.client))++[y]).length;rw[bf,Z5x,g];cases hf:t.l.find? (λx=>decide (x.client=y.client)) with
  | none =>
   rw[hf] at d;have d:(t.l.filter (λx=>decide (x.client≠y.client))).length+0=t.l.length:=d;show L.length+1=(t.l.filter (λx=>decide (x.client≠y.client))).length+1;omega
  | some z =>
   rw[hf] at d;have d:(t.l.filter (λx=>decide (x.client≠y.client))).length+1=t.l.length:=d;show L.length+0=(t.l.filter (λx=>decide (x.client≠y.client))).length+1;omega
 .rcases ce.1 c with c | c
  .exact h.nm x (af.1 c).1
  .rw[bx.1 c];exact k
 .rcases ce.1 c with c | c
  .exact h.nu x (af.1 c).1
  .rw[bx.1 c];exact m
 .show((t.l.filter (λx=>decide (x.client≠y.client))++[y]).map RLs.client).Nodup;rw[az,List.nodup_append];refine⟨h.nd.sublist (List.filter_sublist.map _),by simp,λa ha b j=>?_⟩;obtain⟨x,c,rfl⟩:=bj.1 ha;have:=(af.1 c).2;simp at this j;omega
theorem Qk (r:RFs)(c:RCl):(Eb r c).2.names.length<=1000000:=by
 unfold Eb;split;exact av _;split;exact av _;split;exact av _;split;exact av _;split;exact av _;split;exact av _;split;exact av _;split;exact av _;split;exact av _;split
 .show((Fd r c.h).take 50).length<=_;rw[be];omega
 .exact av _
theorem Q7 {t:RTb}{K:Nat}{L:List (Int × G)}(s:FM t K L)(C:K<=1000000)(c:RCl)(B:SmC c):FnO Tryz.prog 20 [.ptr 0 0,.agg (enC c)] (oT t.r K L) (ApP t K c):=by
 refine Z5 Tryz.func20 (Cj _ _) ?_;have p:=s.lk c.client;have F:=s.len;have bad:∀e,By t c=(t,Mp e)->ApP t K c (.agg (Fq (Mp e))) (oT t.r K L):=λe h=>by unfold ApP;rw[h];exact⟨rfl,K,L,Nat.le_succ _,s,rfl⟩
 have n:=Qk t.r c;have fin:By t c=(⟨(Eb t.r c).1,t.l.filter (λx=>decide (x.client≠c.client))++[⟨c.client,c.number,(Eb t.r c).2⟩]⟩,(Eb t.r c).2)->1<=c.number->∀m,m<=K+1->Gd (Eb t.r c).1 m->ApP t K c (.agg (Fq (Eb t.r c).2)) (oT (Eb t.r c).1 m (Gq L c.client (gLs ⟨c.client,c.number,(Eb t.r c).2⟩))):=by intro j E m f i;unfold ApP;rw[j];exact⟨rfl,m,_,f,s.put i ⟨c.client,c.number,(Eb t.r c).2⟩ n E,rfl⟩
 cases hf:t.l.find? (λx=>decide (x.client=c.client)) with
 | none =>
  rw[hf] at p;have v:=Ff hf;refine⟨λg e=>(by rw[p] at e;cases e),λ_=>?_⟩;refine(Ph c).cal λq d=>?_;subst d;refine ec (λh=>?_) λh=>?_
  .have h:okB c=false:=by simpa using h
   exact .gh (.done (Cu _ _ _ (.agg (Fq (Mp 180))) rfl rfl rfl rfl rfl (bad 180 (Qf (Jm.1 h)))))
  have h:okB c=true:=by simpa using h
  have k:=Ie.1 h;have b:=k.1;refine dw (λw=>du w (by have:=b.2.2.1;show ¬c.number < 0;omega)) λ_=>?_;refine dw (λu=>?_) λu=>?_
  .refine .gh (.done (Cu _ _ _ (.agg (Fq (Mp 1))) rfl rfl rfl rfl rfl (bad 1 (Pn k (.inr ⟨by rw[v],by have u:(L.length:Int) >= 100:=u;omega⟩)))))
  have u:¬(L.length:Int) >= 100:=u;refine dv (fun(A:c.number=0)=>du A (by have:=b.2.2.1;omega)) λ_=>?_;have j:=Lu (t:=t) k (by rw[v];have:=b.2.2.1;show ¬(c.number < 0\/((0:Int)=0/\_));omega) (by rw[v];have:=b.2.2.1;show ¬c.number=0;omega);refine(Ov c.kind).cal λq d=>?_;subst d;refine dw (λhr=>?_) λhr=>?_
  .refine(Z7e t.r s.gd C L c B hr).cal λq rs d=>?_;obtain⟨m,f,i,rfl,rfl⟩:=d;refine(Ta (Eb t.r c).2 n).cal λq d=>?_;subst d;exact .gh (.done (Cu _ _ _ (.agg (Fq (Eb t.r c).2)) rfl rfl rfl rfl rfl (fin j b.2.2.1 m f i)))
  .refine(Z2a t.r C L c B ⟨b.2.2.2.2.1,by have:=b.2.2.2.2.2;omega⟩).cal λq rs d=>?_;obtain⟨m,f,i,rfl,rfl⟩:=d;refine(Ta (Eb t.r c).2 n).cal λq d=>?_;subst d;exact .gh (.done (Cu _ _ _ (.agg (Fq (Eb t.r c).2)) rfl rfl rfl rfl rfl (fin j b.2.2.1 m f i)))
 | some x =>
  rw[hf] at p;obtain⟨o,z,I⟩:=Dk hf;have D:=s.nm x z;have H:=s.nu x z;refine⟨λg e=>?_,λe=>by rw[p] at e;cases e⟩;rw[p] at e;cases e;refine(Ph c).cal λq d=>?_;subst d;refine ec (λh=>?_) λh=>?_
  .have h:okB c=false:=by simpa using h
   exact .gh (.done (Cu _ _ _ (.agg (Fq (Mp 180))) rfl rfl rfl rfl rfl (bad 180 (Qf (Jm.1 h)))))
  have h:okB c=true:=by simpa using h
  have k:=Ie.1 h;have b:=k.1;refine dw (fun(w:c.number < x.number)=>?_) fun(w:¬c.number < x.number)=>?_
  .refine dw (λ_=>?_) λu=>du w u;exact .gh (.done (Cu _ _ _ (.agg (Fq (Mp 1))) rfl rfl rfl rfl rfl (bad 1 (Pn k (.inl (by rw[o];exact w))))))
  have y:¬(c.number < (B4 t.l c.client).number\/((B4 t.l c.client).number=0/\t.l.length >= 100)):=by rw[o];omega
  refine dv (fun(A:c.number=x.number)=>?_) fun(A:¬c.number=x.number)=>?_
  .have j:=Pr (t:=t) k y (by rw[o];exact A);refine(Ta x.a D).cal λq d=>?_;subst d;refine .gh (.done (Cu _ _ _ (.agg (Fq x.a)) rfl rfl rfl rfl rfl ?_));unfold ApP;rw[j,o];exact⟨rfl,K,L,Nat.le_succ _,s,rfl⟩
  have j:=Lu (t:=t) k y (by rw[o];exact A);refine(Ov c.kind).cal λq d=>?_;subst d;refine dw (λhr=>?_) λhr=>?_
  .refine(Z7e t.r s.gd C L c B hr).cal λq rs d=>?_;obtain⟨m,f,i,rfl,rfl⟩:=d;refine(Ta (Eb t.r c).2 n).cal λq d=>?_;subst d;exact .gh (.done (Cu _ _ _ (.agg (Fq (Eb t.r c).2)) rfl rfl rfl rfl rfl (fin j b.2.2.1 m f i)))
  .refine(Z2a t.r C L c B ⟨b.2.2.2.2.1,by have:=b.2.2.2.2.2;omega⟩).cal λq rs d=>?_;obtain⟨m,f,i,rfl,rfl⟩:=d;refine(Ta (Eb t.r c).2 n).cal λq d=>?_;subst d;exact .gh (.done (Cu _ _ _ (.agg (Fq (Eb t.r c).2)) rfl rfl rfl rfl rfl (fin j b.2.2.1 m f i)))
open Go.RowKit Go.Shelf
theorem Zb {κ β:Type}{a:κ->Value}{b:β->Value}{w:World}{m:Nat}{L:List (κ × β)}(h:MapB w m a b L):∃es clock,w.heap[m]?=some (.map es clock)/\MapB (w.alloc (.map es clock)) w.heap.size a b L:=by obtain⟨es,clock,c,r⟩:=h;exact⟨es,clock,c,es,clock,(Go.MapKept.heap_alloc w _).1,r⟩
theorem Z27 (l:List (Int × G)):FnO Tryz.prog 57 [.mp 0] [.mpI l] λg rs=>g=.mp 1/\rs=[.mpI l,.mpI l] :=
 ⟨⟨_,Tryz.func57,by kernel_rfl,by kernel_rfl⟩,λI V w vs hH v D=>by
  obtain⟨x,H,rfl,m,C⟩:=D.uncons;obtain rfl:=C.of_nil;obtain⟨-,rfl⟩:=(show 0 < V.n/\x=.map (some (V.b 0)) from m);have v:V.n=1:=v;obtain⟨y,L,q,u⟩:=hH.each 0 _ rfl;have j:=λb a=>hH.foot 0 _ b rfl a;obtain⟨es,clock,a,p⟩:=Zb q;refine(AnyW.maps_Clone Tryz.cloneF (V.b 0) es clock w a).mono λe w' ⟨E,hw⟩=>?_;subst hw;have c:Below w.heap.size w (w.alloc (.map es clock)):=(ab _ w).alloc (au _) _;have B:Mem I (w.alloc (.map es clock)):=hH.mem.keep λb o x m=>c.block b (hH.mem.lt m);have i:=q.lt;have lk:∀k r,look k (Ev [R.mpI l,R.mpI l] 0)=some r->(k=0\/k=1)/\r=R.mpI l:=λk r h=>by
   rw[Bi] at h
   match k,h with
   | 0,h=>simp at h;exact⟨.inl rfl,h.symm⟩
   | 1,h=>simp at h;exact⟨.inr rfl,h.symm⟩
   | k+2,h=>simp at h
  refine⟨_,.mp 1,_,I,⟨2,λk=>if k=0 then V.b 0 else w.heap.size,V.s,λk b=>b=if k=0 then V.b 0 else w.heap.size⟩,E,⟨rfl,rfl⟩,rfl,⟨B,λk r h=>?_,λk r h=>?_,λk r b h a=>?_,λk A r r' b h F a d=>?_⟩,⟨dc _,rfl⟩,⟨c.os,c.tape,c.output,c.size,λb a _=>⟨c.block b a,λ_=>rfl⟩,λ_ _ _ h=>h,λk r b t a i=>?_⟩,⟨by show V.n<=2;omega,λk t=>?_⟩⟩
  .obtain⟨f,-⟩:=lk k r h;show k < 2;omega
  .obtain⟨f,rfl⟩:=lk k r h;rcases f with rfl | rfl
   .exact⟨λb=>Iff.rfl,L,q.of_block (c.block _ i),u⟩
   .exact⟨λb=>Iff.rfl,L,p,u⟩
  .obtain⟨f,rfl⟩:=lk k r h;rcases f with rfl | rfl
   .have a:b=V.b 0:=a;subst a;exact⟨bc i c.size,(j _ ((y _).2 rfl)).2⟩
   .have a:b=w.heap.size:=a;subst a;refine⟨by simp,λo=>?_⟩;cases hI:I w.heap.size o with
    | none=>rfl
    | some x=>exact du (hH.mem.lt hI) (by omega)
  .obtain⟨f,-⟩:=lk k r h;obtain⟨z,-⟩:=lk A r' F;rcases f with rfl | rfl<;>rcases z with rfl | rfl
   .rfl
   .have a:b=V.b 0:=a;have d:b=w.heap.size:=d;omega
   .have a:b=w.heap.size:=a;have d:b=V.b 0:=d;omega
   .rfl
  .obtain⟨f,-⟩:=lk k r t;rcases f with rfl | rfl
   .have a:b=V.b 0:=a;exact⟨0,_,rfl,(y b).2 a⟩
   .have a:b=w.heap.size:=a;omega
  .have:k=0:=by omega
   subst this;exact⟨rfl,rfl⟩⟩
theorem Qq (room:Int)(hr:room<=9223372036854775807):FnO Tryz.prog 17 [gI room] [] λg rs=>g=.ptr 0 0/\rs=oT (Et room) 0 []/\FM ⟨Et room,[]⟩ 0 []:=by refine Z4u Tryz.func17 (Z3m _) ?_;refine(Zf2 room hr).cal λq rs c=>?_;obtain⟨rfl,rfl,b⟩:=c;exact⟨itL [(2,.blk [.ptr 1 0,.mp 2] tTb),(0,.abs (fsP (Et room) 0)),(1,.mpI [])],.ptr 0 0,⟨⟨⟨_,rfl,rfl,rfl⟩,⟨_,rfl,rfl,rfl⟩,⟨_,rfl,rfl,rfl⟩,trivial⟩,rfl,⟨_,rfl⟩,rfl,rfl,⟨rfl,rfl,⟨b,λ_=>rfl,rfl,λx a=>(by cases a),λx a=>(by cases a),List.nodup_nil⟩⟩⟩⟩
theorem Z3d {t:RTb}{K:Nat}{L:List (Int × G)}(b:FM t K L):FnO Tryz.prog 29 [.ptr 0 0] (oT t.r K L) λg rs=>g=.ptr 3 0/\rs=oT t.r K L++[.blk [.ptr 4 0,.mp 5] tTb,.abs (fsP t.r K),.mpI L]:=by refine Z4u Tryz.func29 (Cj _ _) ?_;refine(Ze b.gd).cal λq rs a=>?_;obtain⟨rfl,rfl⟩:=a;refine(Z27 L).cal λq rs a=>?_;obtain⟨rfl,rfl⟩:=a;exact⟨itL [(0,.blk [.ptr 1 0,.mp 2] tTb),(1,.abs (fsP t.r K)),(2,.mpI L),(5,.blk [.ptr 4 0,.mp 5] tTb),(3,.abs (fsP t.r K)),(4,.mpI L)],.ptr 3 0,⟨⟨⟨_,rfl,rfl,rfl⟩,⟨_,rfl,rfl,rfl⟩,⟨_,rfl,rfl,rfl⟩,⟨_,rfl,rfl,rfl⟩,⟨_,rfl,rfl,rfl⟩,⟨_,rfl,rfl,rfl⟩,trivial⟩,rfl,⟨_,rfl⟩,rfl,rfl,⟨rfl,rfl⟩⟩⟩
theorem Zfm {t:RTb}{K:Nat}{L:List (Int × G)}(a:FM t K L):FnO Tryz.prog 30 [.ptr 0 0] (oT t.r K L) λg rs=>g=.ptr 3 0/\rs=oT t.r K L++[.abs (fsP t.r K)]:=by refine Z4u Tryz.func30 (Cj _ _) ?_;refine(Ze a.gd).cal λq rs b=>?_;obtain⟨rfl,rfl⟩:=b;exact⟨itL [(0,.blk [.ptr 1 0,.mp 2] tTb),(1,.abs (fsP t.r K)),(2,.mpI L),(3,.abs (fsP t.r K))],.ptr 3 0,⟨⟨⟨_,rfl,rfl,rfl⟩,⟨_,rfl,rfl,rfl⟩,⟨_,rfl,rfl,rfl⟩,⟨_,rfl,rfl,rfl⟩,trivial⟩,rfl,⟨_,rfl⟩,rfl,rfl,⟨rfl,rfl⟩⟩⟩
theorem Ve {t:RTb}{K:Nat}{L:List (Int × G)}(i:FM t K L)(id:Int):FnO Tryz.prog 19 [.ptr 0 0,gI id] (oT t.r K L) λg rs=>g=.tup [gI (B4 t.l id).number,.agg (Fq (B4 t.l id).a)]/\rs=oT t.r K L:=by
 refine Z4u Tryz.func19 (Cj _ _) ?_;have b:=i.lk id;cases hf:t.l.find? (λx=>decide (x.client=id)) with
 | none =>
  rw[hf] at b;have d:=Ff hf;refine⟨λg e=>(by rw[b] at e;cases e),λ_=>?_⟩;refine(Ta an0 (av _)).cal λq h=>?_;subst h;exact⟨itL [(0,.blk [.ptr 1 0,.mp 2] tTb),(1,.abs (fsP t.r K)),(2,.mpI L)],.tup [gI 0,.agg (Fq an0)],⟨⟨⟨_,rfl,rfl,rfl⟩,⟨_,rfl,rfl,rfl⟩,⟨_,rfl,rfl,rfl⟩,trivial⟩,rfl,⟨_,rfl⟩,rfl,rfl,⟨by rw[d],rfl⟩⟩⟩
 | some x =>
  rw[hf] at b;obtain⟨c,f,j⟩:=Dk hf;refine⟨λg e=>?_,λe=>by rw[b] at e;cases e⟩;rw[b] at e;cases e;refine(Ta x.a (i.nm x f)).cal λq h=>?_;subst h;exact⟨itL [(0,.blk [.ptr 1 0,.mp 2] tTb),(1,.abs (fsP t.r K)),(2,.mpI L)],.tup [gI x.number,.agg (Fq x.a)],⟨⟨⟨_,rfl,rfl,rfl⟩,⟨_,rfl,rfl,rfl⟩,⟨_,rfl,rfl,rfl⟩,trivial⟩,rfl,⟨_,rfl⟩,rfl,rfl,⟨by rw[c],rfl⟩⟩⟩
end Go.Proofs.YtmmdikhljefeiaaGreat

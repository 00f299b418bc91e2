
import Derived.Test.YtihfaocdpmmooaaGreatPKM
import Derived.Test.YtihfaocdpmmooaaGreatFn1
import Derived.Test.YtihfaocdpmmooaaGreatSxMc
import Derived.Test.YtihfaocdpmmooaaGreatZM1
namespace Go.Proofs.YtihfaocdpmmooaaGreat
open Go.RowKit
set_option maxRecDepth 100000
abbrev tU8:Nat:=5
def F1 (f:RFd):List G:=[gI f.kind,gI f.n,gS f.s]
theorem Gk (n:Int):gBy (byI n)=[.v (.int .u8 (n % 256))]:=by unfold gBy;rw[Cy]
theorem Zk7 (a b:Bs)(ha:a.length+b.length≤1000000000):FnO Tryz.prog 123 [.osl 0,.osl 1] [.slc (a.map gBy) tU8 1,.slc (b.map gBy) tU8 1] fun g rs=>g=.osl 2∧rs=[.gone,.gone,.slc ((a++b).map gBy) tU8 1]:=by refine Bq Tryz.func123 (Ci _ _) ?_;refine⟨by simp;omega,?_⟩;refine .inr ⟨1,_,itL [(0,.gone),(1,.gone),(3,.slc ((a++b).map gBy) tU8 1)],.osl 2,rfl,⟨⟨⟨_,rfl,rfl,rfl⟩,⟨_,rfl,rfl,rfl⟩,⟨_,rfl,?_,rfl⟩,trivial⟩,rfl,⟨_,rfl⟩,rfl,rfl,⟨rfl,rfl⟩⟩⟩;exact eqR (by rw[ao])
theorem Zhq (a:Bs)(b:Bs)(ha:a.length+b.length≤1000000000):FnO Tryz.prog 123 [.osl 0,.sl (b.map gBy)] [.slc (a.map gBy) tU8 1] fun g rs=>g=.osl 1∧rs=[.gone,.slc ((a++b).map gBy) tU8 1]:=by refine Bq Tryz.func123 (Ci _ _) ?_;refine⟨fun r hr=>by obtain⟨c,-,rfl⟩:=ba.1 hr;exact⟨rfl,rfl⟩,⟨by simp;omega,?_⟩⟩;refine .inl ⟨itL [(0,.gone),(2,.slc ((a++b).map gBy) tU8 1)],.osl 1,⟨⟨⟨_,rfl,rfl,rfl⟩,⟨_,rfl,?_,rfl⟩,trivial⟩,rfl,⟨_,rfl⟩,rfl,rfl,⟨rfl,rfl⟩⟩⟩;exact eqR (by rw[ao])
theorem Zdo (a b:Bs){rows:List (List G)}(hr:rows=b.map gBy)(ha:a.length+b.length≤1000000000):FnO Tryz.prog 123 [.osl 0,.osl 1] [.slc (a.map gBy) tU8 1,.slc rows tU8 1] fun g rs=>g=.osl 2∧rs=[.gone,.gone,.slc ((a++b).map gBy) tU8 1]:=by subst hr;exact Zk7 a b ha
theorem Od (a b:Bs){rows:List (List G)}(hr:rows=b.map gBy)(ha:a.length+b.length≤1000000000):FnO Tryz.prog 123 [.osl 0,.sl rows] [.slc (a.map gBy) tU8 1] fun g rs=>g=.osl 1∧rs=[.gone,.slc ((a++b).map gBy) tU8 1]:=by subst hr;exact Zhq a b ha
theorem Fh (n m:Int)(j k:Nat)(b:min j 64=k)(a:(2:Int) ^ k=m)(c:0≤m):n.fdiv (2 ^ min j 64)=n / m:=by rw[b,a];exact Int.fdiv_eq_ediv_of_nonneg _ c
def FdP (b:Bs)(f:RFd)(g:G)(rs:List R):Prop:=g=.tup [.osl 1,gI (fdE f)]∧rs=[.gone,.slc ((if fdE f=0 then b++fdB f else []).map gBy) tU8 1]
theorem FdP.bad {b:Bs}{f:RFd}{e:Int}(h:fdE f=e)(a:e≠0):FdP b f (.tup [.osl 1,gI e]) [.gone,.slc [] tU8 1]:=by unfold FdP;rw[h,db a];exact⟨rfl,rfl⟩
theorem FdP.ok {b x:Bs}{f:RFd}(h:fdE f=0)(a:fdB f=x):FdP b f (.tup [.osl 1,gI 0]) [.gone,.slc ((b++x).map gBy) tU8 1]:=by unfold FdP;rw[h,dc rfl,a];exact⟨rfl,rfl⟩
theorem Pi (n:Int):IntKind.u8.wrap n=n % 256:=by simp[IntKind.wrap,IntKind.bits,IntKind.signed]
theorem Z4r (n:Nat):[[G.v (.int .u8 (IntKind.u8.wrap (((n:Nat):Int).fdiv (2 ^ min (8:Int).toNat 64))))],[G.v (.int .u8 (IntKind.u8.wrap ((n:Nat):Int)))]]=[[G.v (.int .u8 ((((n:Nat):Int) / 256) % 256))],[G.v (.int .u8 (((n:Nat):Int) % 256))]]:=by rw[Pi,Pi,Fh n 256 _ 8 rfl (by decide) (by decide)]
theorem Z6e (n:Int):[[G.v (.int .u8 (IntKind.u8.wrap (n.fdiv (2 ^ min (56:Int).toNat 64))))],[G.v (.int .u8 (IntKind.u8.wrap (n.fdiv (2 ^ min (48:Int).toNat 64))))],[G.v (.int .u8 (IntKind.u8.wrap (n.fdiv (2 ^ min (40:Int).toNat 64))))],[G.v (.int .u8 (IntKind.u8.wrap (n.fdiv (2 ^ min (32:Int).toNat 64))))],[G.v (.int .u8 (IntKind.u8.wrap (n.fdiv (2 ^ min (24:Int).toNat 64))))],[G.v (.int .u8 (IntKind.u8.wrap (n.fdiv (2 ^ min (16:Int).toNat 64))))],[G.v (.int .u8 (IntKind.u8.wrap (n.fdiv (2 ^ min (8:Int).toNat 64))))],[G.v (.int .u8 (IntKind.u8.wrap n))]]=[[G.v (.int .u8 (n / 72057594037927936 % 256))],[G.v (.int .u8 (n / 281474976710656 % 256))],[G.v (.int .u8 (n / 1099511627776 % 256))],[G.v (.int .u8 (n / 4294967296 % 256))],[G.v (.int .u8 (n / 16777216 % 256))],[G.v (.int .u8 (n / 65536 % 256))],[G.v (.int .u8 (n / 256 % 256))],[G.v (.int .u8 (n % 256))]]:=by simp only[Pi];rw[Fh n 72057594037927936 _ 56 rfl (by decide) (by decide),Fh n 281474976710656 _ 48 rfl (by decide) (by decide),Fh n 1099511627776 _ 40 rfl (by decide) (by decide),Fh n 4294967296 _ 32 rfl (by decide) (by decide),Fh n 16777216 _ 24 rfl (by decide) (by decide),Fh n 65536 _ 16 rfl (by decide) (by decide),Fh n 256 _ 8 rfl (by decide) (by decide)]
set_option maxHeartbeats 2000000 in
theorem Zh5 (b:Bs)(f:RFd)(l:b.length≤900000000):FnO Tryz.prog 85 [.osl 0,.agg (F1 f)] [.slc (b.map gBy) tU8 1] (FdP b f):=by
 obtain⟨kd,n,s⟩:=f;refine Bq Tryz.func85 (Ci _ _) ?_;refine df (fun(d:kd=3)=>?_) (fun(d:¬kd=3)=>?_)
 ·subst d;refine dj (fun g=>?_) (fun g=>?_)
  ·refine .inr ⟨0,_,itL [(0,.gone),(3,.slc [] tU8 1)],.tup [.osl 1,gI 21],rfl,⟨⟨⟨_,rfl,rfl,rfl⟩,⟨_,rfl,rfl,rfl⟩,trivial⟩,rfl,⟨_,rfl⟩,rfl,rfl,.bad (e:=21) ?_ (by decide)⟩⟩;unfold fdE;rw[dc rfl,dc g]
  ·have g:n=0:=g;subst g;refine dj (fun h=>de rfl h) fun _=>?_;refine dg (fun h=>de h (show ¬(0:Int) < 0 by decide)) fun _=>?_;refine df (fun h=>de h (show ¬(3:Int)=1 by decide)) fun _=>?_;refine df (fun h=>de h (show ¬(3:Int)=4 by decide)) fun _=>?_;refine df (fun h=>de h (show ¬(3:Int)=2 by decide)) fun _=>?_;refine df (fun _=>?_) fun h=>de rfl h;refine dg (fun h=>?_) fun h=>?_
   ·refine .inr ⟨0,_,itL [(0,.gone),(3,.slc [] tU8 1)],.tup [.osl 1,gI 22],rfl,⟨⟨⟨_,rfl,rfl,rfl⟩,⟨_,rfl,rfl,rfl⟩,trivial⟩,rfl,⟨_,rfl⟩,rfl,rfl,.bad (e:=22) ?_ (by decide)⟩⟩;have h:((s.size:Nat):Int) > 1024:=h;unfold fdE;rw[dc rfl,db (fun h=>h rfl),dc (by show s.size > 1024;omega)]
   ·refine⟨by decide,?_⟩;have h:¬((s.size:Nat):Int) > 1024:=h;have i:fdE ⟨3,0,s⟩=0:=by
     unfold fdE;rw[dc rfl,db (fun h=>h rfl),db (by show ¬s.size > 1024;omega)]
    have j:(b++[byI ((s.size:Int) / 256),byI s.size]).length+s.data.toList.length≤1000000000:=by
     have:s.data.toList.length=s.size:=by rw[cd];rfl
     simp only[List.length_append,List.length_cons,List.length_nil,this];omega
    have o:fdB ⟨3,0,s⟩=[byI ((s.size:Int) / 256),byI s.size]++s.data.toList:=by unfold fdB;rw[dc rfl];rfl
    refine⟨?_,?_⟩
    ·refine⟨?_,?_⟩
     ·refine di ((Od b [byI ((s.size:Int) / 256),byI s.size] ?hr (by simp;omega)).cal fun q rs a=>?_)
      case hr =>
       simp only[List.map,Gk];exact Z4r s.size
      obtain⟨rfl,rfl⟩:=a;refine di ((Od (b++[byI ((s.size:Int) / 256),byI s.size]) s.data.toList rfl j).cal fun q rs a=>?_);obtain⟨rfl,rfl⟩:=a;refine .inl ⟨itL [(0,.gone),(5,.slc ((b++fdB ⟨3,0,s⟩).map gBy) tU8 1)],.tup [.osl 1,gI 0],⟨⟨⟨_,rfl,rfl,rfl⟩,⟨_,rfl,?_,rfl⟩,trivial⟩,rfl,⟨_,rfl⟩,rfl,rfl,.ok i rfl⟩⟩;exact eqR (by rw[o,←bx])
     ·refine di ((Od b [byI ((s.size:Int) / 256),byI s.size] ?hr (by simp;omega)).cal fun q rs a=>?_)
      case hr =>
       simp only[List.map,Gk];exact Z4r s.size
      obtain⟨rfl,rfl⟩:=a;refine di ((Od (b++[byI ((s.size:Int) / 256),byI s.size]) s.data.toList rfl j).cal fun q rs a=>?_);obtain⟨rfl,rfl⟩:=a;refine .inl ⟨itL [(0,.gone),(5,.slc ((b++fdB ⟨3,0,s⟩).map gBy) tU8 1)],.tup [.osl 1,gI 0],⟨⟨⟨_,rfl,rfl,rfl⟩,⟨_,rfl,?_,rfl⟩,trivial⟩,rfl,⟨_,rfl⟩,rfl,rfl,.ok i rfl⟩⟩;exact eqR (by rw[o,←bx])
    ·refine di ((Od b [byI ((s.size:Int) / 256),byI s.size] ?hr (by simp;omega)).cal fun q rs a=>?_)
     case hr =>
      simp only[List.map,Gk];exact Z4r s.size
     obtain⟨rfl,rfl⟩:=a;refine di ((Od (b++[byI ((s.size:Int) / 256),byI s.size]) s.data.toList rfl j).cal fun q rs a=>?_);obtain⟨rfl,rfl⟩:=a;refine .inl ⟨itL [(0,.gone),(5,.slc ((b++fdB ⟨3,0,s⟩).map gBy) tU8 1)],.tup [.osl 1,gI 0],⟨⟨⟨_,rfl,rfl,rfl⟩,⟨_,rfl,?_,rfl⟩,trivial⟩,rfl,⟨_,rfl⟩,rfl,rfl,.ok i rfl⟩⟩;exact eqR (by rw[o,←bx])
 ·refine dj (fun _=>?_) (fun h=>de h d);refine EvIf.bneS (fun(t:s≠⟨#[]⟩)=>?_) (fun(t:s=⟨#[]⟩)=>?_)
  ·refine .inr ⟨0,_,itL [(0,.gone),(3,.slc [] tU8 1)],.tup [.osl 1,gI 21],rfl,⟨⟨⟨_,rfl,rfl,rfl⟩,⟨_,rfl,rfl,rfl⟩,trivial⟩,rfl,⟨_,rfl⟩,rfl,rfl,.bad (e:=21) (by unfold fdE;rw[db d,dc (.inl t)]) (by decide)⟩⟩
  refine dg (fun(g:n < 0)=>?_) (fun(g:¬n < 0)=>?_)
  ·refine .inr ⟨0,_,itL [(0,.gone),(3,.slc [] tU8 1)],.tup [.osl 1,gI 21],rfl,⟨⟨⟨_,rfl,rfl,rfl⟩,⟨_,rfl,rfl,rfl⟩,trivial⟩,rfl,⟨_,rfl⟩,rfl,rfl,.bad (e:=21) (by unfold fdE;rw[db d,dc (.inr g)]) (by decide)⟩⟩
  have c:¬(s≠⟨#[]⟩∨n < 0):=fun h=>h.elim (fun h=>h t) g;refine df (fun(m:kd=1)=>?_) (fun(m:¬kd=1)=>?_)
  ·subst m;refine dg (fun(h:n < 256)=>?_) (fun(h:¬n < 256)=>?_)
   ·have i:fdE ⟨1,n,s⟩=0:=by unfold fdE;rw[db d,db c,dc ⟨rfl,by show n≤255;omega⟩]
    refine di ((Zdo b [byI n] (by simp only[List.map,Gk]) (by have:=l;simp only[List.length_cons,List.length_nil];omega)).cal fun q rs a=>?_);obtain⟨rfl,rfl⟩:=a;refine .inl ⟨itL [(0,.gone),(4,.slc ((b++fdB ⟨1,n,s⟩).map gBy) tU8 1)],.tup [.osl 1,gI 0],⟨⟨⟨_,rfl,rfl,rfl⟩,⟨_,rfl,rfl,rfl⟩,trivial⟩,rfl,⟨_,rfl⟩,rfl,rfl,.ok i rfl⟩⟩
   ·refine .inr ⟨0,_,itL [(0,.gone),(3,.slc [] tU8 1)],.tup [.osl 1,gI 21],rfl,⟨⟨⟨_,rfl,rfl,rfl⟩,⟨_,rfl,rfl,rfl⟩,trivial⟩,rfl,⟨_,rfl⟩,rfl,rfl,.bad (e:=21) (by unfold fdE;rw[db d,db c,db (fun k=>h (by have:n≤255:=k.2;omega)),db (by rintro⟨h,-⟩;cases h),db (by rintro⟨h,-⟩;cases h)]) (by decide)⟩⟩
  refine df (fun(p:kd=4)=>?_) (fun(p:¬kd=4)=>?_)
  ·subst p;refine dg (fun(h:n < 2)=>?_) (fun(h:¬n < 2)=>?_)
   ·have i:fdE ⟨4,n,s⟩=0:=by unfold fdE;rw[db d,db c,db (by rintro⟨h,-⟩;cases h),dc ⟨rfl,by show n≤1;omega⟩]
    refine di ((Zdo b [byI n] (by simp only[List.map,Gk]) (by have:=l;simp only[List.length_cons,List.length_nil];omega)).cal fun q rs a=>?_);obtain⟨rfl,rfl⟩:=a;refine .inl ⟨itL [(0,.gone),(4,.slc ((b++fdB ⟨4,n,s⟩).map gBy) tU8 1)],.tup [.osl 1,gI 0],⟨⟨⟨_,rfl,rfl,rfl⟩,⟨_,rfl,rfl,rfl⟩,trivial⟩,rfl,⟨_,rfl⟩,rfl,rfl,.ok i rfl⟩⟩
   ·refine .inr ⟨0,_,itL [(0,.gone),(3,.slc [] tU8 1)],.tup [.osl 1,gI 21],rfl,⟨⟨⟨_,rfl,rfl,rfl⟩,⟨_,rfl,rfl,rfl⟩,trivial⟩,rfl,⟨_,rfl⟩,rfl,rfl,.bad (e:=21) (by unfold fdE;rw[db d,db c,db (by rintro⟨h,-⟩;cases h),db (fun k=>h (by have:n≤1:=k.2;omega)),db (by rintro⟨h,-⟩;cases h)]) (by decide)⟩⟩
  refine df (fun(r:kd=2)=>?_) (fun(r:¬kd=2)=>?_)
  ·subst r;refine dg (fun(h:n≤4611686018427387904)=>?_) (fun(h:¬n≤4611686018427387904)=>?_)
   ·have i:fdE ⟨2,n,s⟩=0:=by unfold fdE;rw[db d,db c,db (by rintro⟨h,-⟩;cases h),db (by rintro⟨h,-⟩;cases h),dc ⟨rfl,h⟩]
    refine⟨by decide,⟨by decide,⟨by decide,⟨by decide,⟨by decide,⟨by decide,⟨by decide,?_⟩⟩⟩⟩⟩⟩⟩;refine di ((Zdo b (be8 n) (by unfold be8;simp only[List.map,Gk];exact Z6e n) (by have:=l;simp only[be8,List.length_cons,List.length_nil];omega)).cal fun q rs a=>?_);obtain⟨rfl,rfl⟩:=a;refine .inl ⟨itL [(0,.gone),(4,.slc ((b++fdB ⟨2,n,s⟩).map gBy) tU8 1)],.tup [.osl 1,gI 0],⟨⟨⟨_,rfl,rfl,rfl⟩,⟨_,rfl,rfl,rfl⟩,trivial⟩,rfl,⟨_,rfl⟩,rfl,rfl,.ok i rfl⟩⟩
   ·refine .inr ⟨0,_,itL [(0,.gone),(3,.slc [] tU8 1)],.tup [.osl 1,gI 21],rfl,⟨⟨⟨_,rfl,rfl,rfl⟩,⟨_,rfl,rfl,rfl⟩,trivial⟩,rfl,⟨_,rfl⟩,rfl,rfl,.bad (e:=21) (by unfold fdE;rw[db d,db c,db (by rintro⟨h,-⟩;cases h),db (by rintro⟨h,-⟩;cases h),db (fun k=>h k.2)]) (by decide)⟩⟩
  refine df (fun h=>de h d) fun _=>?_;refine .inr ⟨0,_,itL [(0,.gone),(3,.slc [] tU8 1)],.tup [.osl 1,gI 21],rfl,⟨⟨⟨_,rfl,rfl,rfl⟩,⟨_,rfl,rfl,rfl⟩,trivial⟩,rfl,⟨_,rfl⟩,rfl,rfl,.bad (e:=21) (by unfold fdE;rw[db d,db c,db (fun h=>m h.1),db (fun h=>p h.1),db (fun h=>r h.1)]) (by decide)⟩⟩
theorem S1 (l:List RFd)(x:RFd):Gv (l++[x])=Gv l++fdB x:=by unfold Gv;rw[List.flatMap_append];simp
theorem Vp (l:List RFd)(k:l.length≤800000):FnO Tryz.prog 46 [.sl (l.map F1)] [] fun g rs=>g=.tup [.osl 0,gI (Ie l)]∧rs=[.slc ((Sv l).map gBy) tU8 1]:=by
 refine Bq Tryz.func46 (S4 _) ?_;refine As [0,2,3,9,10] [0] (fun x:Nat=>[(11,gI x),(4,.osl 1)]) (fun x=>[(1,.slc ((Gv (l.take x)).map gBy) tU8 1)]) (fun x=>x≤l.length∧∀y∈l.take x,fdE y=0) (fun x=>l.length - x) 0 ⟨by omega,by simp⟩ ⟨⟨rfl,rfl⟩,⟨rfl,rfl⟩,trivial⟩ ⟨RL1,trivial⟩ rfl fun i hi=>?_;obtain⟨hi,b⟩:=hi;refine dg (fun h=>?_) (fun h=>?_)
 ·refine dp (by simpa using h) fun x d=>?_;have j:=C1 d;have m:=Li b;have hT:(l.take i).length≤800000:=by rw[aw];omega
  refine di ((Zh5 (Gv (l.take i)) x (by omega)).cal fun q rs f=>?_);unfold FdP at f;obtain⟨rfl,rfl⟩:=f;refine dj (fun(c:fdE x≠0)=>?_) (fun(c:fdE x=0)=>?_)
  ·have a:=Z3c d b c;refine .inl ⟨itL [(4,.slc [] tU8 1)],.tup [.osl 0,gI (fdE x)],⟨⟨⟨_,rfl,rfl,rfl⟩,trivial⟩,rfl,⟨_,rfl⟩,rfl,rfl,?_,?_⟩⟩
   ·rw[a]
   ·unfold Sv;rw[db (by rw[a];exact c)];rfl
  ·refine⟨by omega,i+1,⟨by omega,fun y hy=>?_⟩,(by dsimp only;omega),?_⟩
   ·rw[Ar d] at hy;rcases bu.1 hy with hy | hy
    ·exact b y hy
    ·rw[bo.1 hy];exact c
   refine⟨?_,?_,rfl⟩<;>repeat' (first|exact trivial|with_reducible rfl|exact rfl|refine And.intro ?_ ?_)
   exact eqR (by rw[dc c,Ar d,S1])
 ·have e:l.take i=l:=ap (by simp at h;omega);rw[e] at b;have a:=Hu b;refine .inl ⟨itL [(1,.slc ((Gv (l.take i)).map gBy) tU8 1)],.tup [.osl 0,gI 0],⟨⟨⟨_,rfl,rfl,rfl⟩,trivial⟩,rfl,⟨_,rfl⟩,rfl,rfl,?_,?_⟩⟩
  ·rw[a]
  ·unfold Sv;rw[dc a,e];rfl
def szI (k:Int):Int:=if 1≤k∧k≤4 then(szN k:Int) else -1
theorem Zfb (k:Int):FnV Tryz.prog 124 [gI k] fun g=>g=gI (szI k):=by
 refine fnG Tryz.func124 ?_;refine df (fun(h:k=1)=>?_) (fun(a:¬k=1)=>?_)
 ·subst h;exact df (fun _=>rfl) (fun h=>de rfl h)
 refine df (fun(h:k=4)=>?_) (fun(d:¬k=4)=>?_)
 ·subst h;exact rfl
 refine df (fun(h:k=2)=>?_) (fun(c:¬k=2)=>?_)
 ·subst h;exact rfl
 refine df (fun(h:k=3)=>?_) (fun(b:¬k=3)=>?_)
 ·subst h;exact rfl
 refine(show gI (-1)=gI (szI k) from ?_);unfold szI;rw[db (by omega)]
theorem Za8 (v x:Nat)(h:v < 2 ^ 56)(f:x < 256):IntKind.wrap .u64 ((BitVec.ofInt 64 (IntKind.wrap .u64 ((v:Int) * 2 ^ min (Int.toNat 8) 64)) ||| BitVec.ofInt 64 (IntKind.wrap .u64 (x:Int))).toNat:Nat)=((v * 256+x:Nat):Int):=by
 have d:IntKind.wrap .u64 ((v:Int) * 2 ^ min (Int.toNat 8) 64)=((v * 256:Nat):Int):=by
  have:(v:Int) * 2 ^ min (Int.toNat 8) 64=((v * 256:Nat):Int):=by rw[show(2:Int) ^ min (Int.toNat 8) 64=256 from rfl];omega
  rw[this];simp only[IntKind.wrap,IntKind.bits,IntKind.signed,Bool.false_and,if_false,Bool.false_eq_true];omega
 have a:IntKind.wrap .u64 (x:Int)=(x:Int):=by simp only[IntKind.wrap,IntKind.bits,IntKind.signed,Bool.false_and,if_false,Bool.false_eq_true];omega
 have e:∀n:Nat,n < 2 ^ 64→(BitVec.ofInt 64 (n:Int)).toNat=n:=fun n g=>by rw[BitVec.toNat_ofInt];omega
 rw[d,a,BitVec.toNat_or,e _ (by omega),e _ (by omega)];have c:v * 256 ||| x=v * 256+x:=by have:=Nat.shiftLeft_add_eq_or_of_lt (i:=8) (b:=x) f v;rw[Nat.shiftLeft_eq] at this;exact this.symm
 rw[c];simp only[IntKind.wrap,IntKind.bits,IntKind.signed,Bool.false_and,if_false,Bool.false_eq_true];omega
def nxR (k:Int)(b:Bs):G:=.tup [.agg (F1 (if nxE k b=0 then nxF k b else fd0)),gI (if nxE k b=0 then(nxN k b:Int) else 0),gI (nxE k b)]
theorem Zet (k:Int)(b:Bs)(L:b.length≤1000000000):FnV Tryz.prog 88 [gI k,.sl (b.map gBy)] fun g=>g=nxR k b:=by
 refine fnG Tryz.func88 ?_;refine(Zfb k).cal fun q K=>?_;subst K;unfold nxR;refine dg (fun(h:szI k < 0)=>?_) (fun(h:¬szI k < 0)=>?_)
 ·have e:nxE k b=21:=by
   unfold nxE;rw[dc (fun j=>by unfold szI at h;rw[dc j] at h;omega)]
  rw[e];exact rfl
 have j:1≤k∧k≤4:=Decidable.byContradiction fun j=>h (by unfold szI;rw[db j];decide);have I:szI k=szN k:=by unfold szI;rw[dc j]
 rw[I];have C:=Za1 k;refine dg (fun h=>?_) (fun h=>?_)
 ·have h:((b.length:Nat):Int) < szN k:=by simpa using h
  have e:nxE k b=20:=by unfold nxE;rw[db (fun h=>h j),dc (by omega)]
  rw[e];exact rfl
 have h:¬((b.length:Nat):Int) < szN k:=by simpa using h
 have s:=h;have f:∀r∈b.map gBy,r.length=1:=fun r hr=>by obtain⟨x,-,rfl⟩:=ba.1 hr;rfl
 refine⟨⟨by omega,by omega,by rw[aa];omega⟩,⟨f,?_⟩⟩;have eS:Es (b.map gBy) (0:Int).toNat ((szN k:Nat):Int).toNat=(b.take (szN k)).map gBy:=by unfold Es;simp[List.map_take]
 rw[eS];have w:(b.take (szN k)).length=szN k:=by rw[aw];omega
 refine As [0,1,4,5,6,7,8,28,29] [0,1] (fun i:Nat=>[(30,gI i),(9,.v (.int .u64 (Dc ((b.take (szN k)).take i))))]) (fun _=>[]) (fun i=>i≤szN k) (fun i=>szN k - i) 0 (by omega) ⟨⟨rfl,rfl⟩,⟨rfl,rfl⟩,trivial⟩ trivial rfl fun i hi=>?_;refine dg (fun h=>?_) (fun h=>?_)
 ·have h:i < (b.take (szN k)).length:=by simpa using h
  refine dp (by simpa using h) fun x E=>?_;refine⟨by decide,⟨by omega,i+1,by omega,(by dsimp only;omega),?_⟩⟩;refine⟨?_,?_,rfl⟩<;>repeat' (first|exact trivial|with_reducible rfl|exact rfl|refine And.intro ?_ ?_)
  have t:Dc ((b.take (szN k)).take i) < 2 ^ 56:=by have B:=Hf ((b.take (szN k)).take i);refine aq B ?_;rw[show(2:Nat) ^ 56=256 ^ 7 by decide];exact Nat.pow_le_pow_right (by decide) (by rw[aw];omega)
  rw[Ar E,Mn];exact congrArg (fun n=>some (G.v (.int .u64 n))) (Za8 _ _ t x.toNat_lt)
 ·have H:(b.take (szN k)).take i=b.take (szN k):=ap (by simp at h;omega);rw[H];have a:nxE k b=if(k=2∧big < nxV k b)∨(k=4∧1 < nxV k b) then 21 else if k≠3 then 0 else if 1024 < nxV k b then 22 else if b.length < 2+nxV k b then 20 else 0:=by
   unfold nxE;rw[db (fun h=>h j),db (by omega)]
  have F:Dc (b.take (szN k))=nxV k b:=rfl;rw[F];generalize l:nxV k b=v at *;have hN:nxN k b=if k=3 then 2+v else szN k:=by unfold nxN;rw[l]
  have p:nxF k b=if k=3 then⟨3,0,⟨((b.drop 2).take v).toArray⟩⟩ else⟨k,v,⟨#[]⟩⟩:=by unfold nxF;rw[l]
  refine df (fun(A:k=2)=>?_) (fun(A:¬k=2)=>?_)
  ·refine dg (fun(h:(v:Int) > big)=>?_) (fun(h:¬(v:Int) > big)=>?_)
   ·rw[dc (.inl ⟨A,h⟩)] at a;rw[a];exact rfl
   ·rw[db (by rintro(o | o)<;>omega),dc (by omega)] at a;refine df (fun J=>de J (show ¬k=4 by omega)) fun _=>?_;refine dj (fun _=>?_) (fun m=>de m (show ¬k=3 by omega));rw[a,dc rfl,dc rfl,hN,p,db (by omega),db (by omega)];exact⟨by unfold big at h;omega,rfl⟩
  ·refine df (fun(z:k=4)=>?_) (fun(z:¬k=4)=>?_)
   ·refine dg (fun(h:(v:Int) > 1)=>?_) (fun(h:¬(v:Int) > 1)=>?_)
    ·rw[dc (.inr ⟨z,by omega⟩)] at a;rw[a];exact rfl
    ·rw[db (by rintro(o | o)<;>omega),dc (by omega)] at a;refine dj (fun _=>?_) (fun m=>de m (show ¬k=3 by omega));rw[a,dc rfl,dc rfl,hN,p,db (by omega),db (by omega)];exact⟨by omega,rfl⟩
   ·rw[db (by rintro(o | o)<;>omega)] at a;have c:v < 256 ^ szN k:=by
     have:=Hf (b.take (szN k));rw[w] at this;rw[←l];exact this
    refine dj (fun(m:k≠3)=>?_) (fun(m:k=3)=>?_)
    ·have D:k=1:=by omega
     subst D;have c:v < 256:=c;rw[dc (by decide)] at a;rw[a,dc rfl,dc rfl,hN,p,db (by decide),db (by decide)];exact⟨by omega,rfl⟩
    ·subst m;have c:v < 65536:=c;rw[db (fun h=>h rfl)] at a;refine dg (fun(h:(v:Int) > 1024)=>?_) (fun(h:¬(v:Int) > 1024)=>?_)
     ·rw[dc (by omega)] at a;rw[a];exact rfl
     ·rw[db (by omega)] at a;have y:szN 3=2:=rfl;rw[y];have d:(b.map gBy).length=b.length:=aa _;rw[y] at s w;refine⟨by rw[d];omega,⟨by omega,?_⟩⟩;refine dg (fun(u:(((b.map gBy).length:Nat):Int) - (2:Nat) < v)=>?_) (fun(u:¬(((b.map gBy).length:Nat):Int) - (2:Nat) < v)=>?_)
      ·rw[d] at u;rw[dc (by omega)] at a;rw[a];exact rfl
      ·rw[d] at u;rw[db (by omega)] at a;rw[a,dc rfl,dc rfl,hN,p,dc rfl,dc rfl];refine⟨by omega,⟨by omega,⟨⟨by omega,by omega,by rw[d];omega⟩,⟨f,EvBytes.mk ⟨(b.drop 2).take v,?_,⟨by omega,⟨by omega,rfl⟩⟩⟩⟩⟩⟩⟩;unfold Es;rw[show(((2:Nat):Int)+(v:Int)).toNat=v+2 by omega,show(((2:Nat):Int)).toNat=2 from rfl,←cw,←List.map_drop,List.drop_take];rfl
abbrev tFd:Nat:=94
def gNi (k:Int):List G:=[gI k]
theorem Lg (b:Bs)(n:Nat):Es (b.map gBy) (n:Int).toNat (((b.map gBy).length:Nat):Int).toNat=(b.drop n).map gBy:=by unfold Es;rw[az,az,ap (by simp),List.map_drop]
theorem Kw (b:Bs):∀r∈b.map gBy,r.length=1:=fun r hr=>by obtain⟨x,-,rfl⟩:=ba.1 hr;rfl
def smG (s:Sm):G:=.tup [.sl (s.l.map F1),gI s.n,gI s.e]
theorem Xp (ks:List Int)(b:Bs)(u:ks.length≤1000000)(t:b.length≤1000000000):FnV Tryz.prog 49 [.sl (ks.map gNi),.sl (b.map gBy)] fun g=>g=smG (Aj ks b):=by
 refine fnG Tryz.func49 ?_;refine As [0,1,5,6,14,15] [0] (fun i:Nat=>[(16,gI i),(8,gI ((Aj (ks.take i) b).n:Int)),(7,.osl 1)]) (fun i=>[(1,.slc ((Aj (ks.take i) b).l.map F1) tFd 3)]) (fun i=>i≤ks.length∧(Aj (ks.take i) b).e=0) (fun i=>ks.length - i) 0 ⟨by omega,rfl⟩ ⟨⟨rfl,rfl⟩,⟨rfl,rfl⟩,⟨rfl,rfl⟩,trivial⟩ ⟨RL1,trivial⟩ rfl fun i hi=>?_;obtain⟨hi,c⟩:=hi;refine dg (fun h=>?_) (fun h=>?_)
 ·refine dp (by simpa using h) fun k j=>?_;have r:=C1 j;have m:=Cu (ks.take i) b;refine⟨⟨by omega,by rw[aa];omega,by omega⟩,⟨Kw b,?_⟩⟩;rw[Lg];refine(Zet k (b.drop (Aj (ks.take i) b).n) (by rw[bc];omega)).cal fun q p=>?_;subst p;unfold nxR;refine dj (fun a=>?_) (fun a=>?_)
  ·rw[Oy ks b i k j c a];exact rfl
  ·have a:nxE k (b.drop (Aj (ks.take i) b).n)=0:=a;have d:=My (ks.take i) b k c;rw[←Ar j,db (fun h=>h a)] at d;have s:=m.2 c;rw[aw] at s;have f:=Zaz a;rw[bc] at f;rw[dc a,dc a];refine⟨by simp;omega,⟨by omega,⟨by omega,i+1,⟨by omega,by rw[d]⟩,(by dsimp only;omega),?_⟩⟩⟩;refine⟨?_,?_,rfl⟩<;>repeat' (first|exact trivial|with_reducible rfl|exact rfl|refine And.intro ?_ ?_)
   ·exact eqI (by rw[d];simp only;omega)
   ·exact eqR (by rw[d,ao];rfl)
 ·have o:ks.take i=ks:=ap (by simp at h;omega);rw[o] at c⊢;unfold smG;rw[c];exact rfl
theorem Z94 (ks:List Int)(b:Bs)(i:ks.length≤1000000)(f:b.length≤1000000000):FnV Tryz.prog 94 [.sl (ks.map gNi),.sl (b.map gBy)] fun g=>g=.tup [.sl ((K2 ks b).l.map F1),gI (K2 ks b).e]:=by
 refine fnG Tryz.func94 ?_;refine(Xp ks b i f).cal fun q d=>?_;subst d;unfold smG K2;have c:=(Cu ks b).1;refine dj (fun a=>?_) (fun a=>?_)
 ·rw[dc a];exact rfl
 ·have a:(Aj ks b).e=0:=a;rw[db (fun h=>h a)];refine dg (fun h=>?_) (fun h=>?_)
  ·have h:(((Aj ks b).n:Nat):Int) < b.length:=by simpa using h
   rw[dc (by omega)];exact rfl
  ·have h:¬(((Aj ks b).n:Nat):Int) < b.length:=by simpa using h
   rw[db (by omega),a];exact rfl
def X1 (n:Int)(r:Nat):Bs:=List.replicate (8 - r) 0++(be8 n).drop (8 - r)
theorem Z7n (n:Int)(r:Nat)(hr:r < 8):(X1 n r)[7 - r]?=some 0∧(X1 n r).set (7 - r) (byI (n / (256 ^ r:Nat)))=X1 n (r+1):=by
 match r,hr with
 | 0,_=>exact⟨rfl,by simp[X1,be8,List.replicate]⟩
 | 1,_=>exact⟨rfl,by simp[X1,be8,List.replicate]⟩
 | 2,_=>exact⟨rfl,by simp[X1,be8,List.replicate]⟩
 | 3,_=>exact⟨rfl,by simp[X1,be8,List.replicate]⟩
 | 4,_=>exact⟨rfl,by simp[X1,be8,List.replicate]⟩
 | 5,_=>exact⟨rfl,by simp[X1,be8,List.replicate]⟩
 | 6,_=>exact⟨rfl,by simp[X1,be8,List.replicate]⟩
 | 7,_=>exact⟨rfl,by simp[X1,be8]⟩
def Zbe (f:RFd):G:=.tup [.sl ((if fdE f=0 then fdB f else []).map gBy),gI (fdE f)]
theorem Fo {f:RFd}{e:Int}(h:fdE f=e)(a:e≠0):G.tup [.sl [],gI e]=Zbe f:=by unfold Zbe;rw[h,db a];rfl
theorem U0 {f:RFd}{rows:List (List G)}(h:fdE f=0)(hr:rows=(fdB f).map gBy):G.tup [.sl rows,gI 0]=Zbe f:=by unfold Zbe;rw[h,dc rfl,hr]
theorem Zk6 (f:RFd):FnV Tryz.prog 87 [.agg (F1 f)] fun g=>g=Zbe f:=by
 obtain⟨kd,n,s⟩:=f;refine fnG Tryz.func87 ?_;refine df (fun(b:kd=3)=>?_) (fun(b:¬kd=3)=>?_)
 ·subst b;refine dj (fun a=>?_) (fun a=>?_)
  ·exact Fo (e:=21) (by unfold fdE;rw[dc rfl,dc a]) (by decide)
  ·have a:n=0:=a;subst a;refine dg (fun h=>?_) (fun h=>?_)
   ·have h:((s.size:Nat):Int) > 1024:=h;exact Fo (e:=22) (by unfold fdE;rw[dc rfl,db (fun h=>h rfl),dc (by show s.size > 1024;omega)]) (by decide)
   ·have h:¬((s.size:Nat):Int) > 1024:=h;have A:fdE ⟨3,0,s⟩=0:=by
     unfold fdE;rw[dc rfl,db (fun h=>h rfl),db (by show ¬s.size > 1024;omega)]
    have D:((s.size:Nat):Int).tdiv 256=((s.size / 256:Nat):Int):=rfl;have M:((s.size:Nat):Int).tmod 256=((s.size % 256:Nat):Int):=rfl;refine⟨by decide,⟨by show _≤((s.size:Nat):Int).tdiv 256∧((s.size:Nat):Int).tdiv 256≤_;rw[D];omega,⟨by decide,?_⟩⟩⟩;have t:s.data.toList.length=s.size:=by rw[cd];rfl
    refine⟨by rw[aa];show 2+s.data.toList.length≤_;rw[t];omega,U0 A ?_⟩;unfold fdB;rw[dc rfl];show [[G.v (.int .u8 (((s.size:Nat):Int).tdiv 256 % 256))],[G.v (.int .u8 (((s.size:Nat):Int).tmod 256 % 256))]]++_=_;simp only[List.map,Gk];rw[D,M];have a1:((s.size / 256:Nat):Int) % 256=((s.size:Nat):Int) / 256 % 256:=by omega
    have a2:((s.size % 256:Nat):Int) % 256=((s.size:Nat):Int) % 256:=by omega
    rw[a1,a2];rfl
 ·refine EvIf.bneS (fun(u:s≠⟨#[]⟩)=>?_) (fun(u:s=⟨#[]⟩)=>?_)
  ·exact Fo (e:=21) (by unfold fdE;rw[db b,dc (.inl u)]) (by decide)
  refine dg (fun(a:n < 0)=>?_) (fun(a:¬n < 0)=>?_)
  ·exact Fo (e:=21) (by unfold fdE;rw[db b,dc (.inr a)]) (by decide)
  have c:¬(s≠⟨#[]⟩∨n < 0):=fun h=>h.elim (fun h=>h u) a;have d:∀{k:Int} {m:Int},0≤n→n≤m→(k=1∧m=255∨k=4∧m=1)→kd=k→G.tup [.sl [[.v (.int .u8 (IntKind.u8.wrap n))]],gI 0]=Zbe ⟨kd,n,s⟩:=fun {k m} N C E e=>by
   refine U0 ?_ ?_
   ·unfold fdE;rw[db b,db c];show(if kd=1∧n≤255 then(0:Int) else if kd=4∧n≤1 then 0 else if kd=2∧n≤big then 0 else 21)=0;by_cases l:kd=1∧n≤255
    ·rw[dc l]
    ·rw[db l];rw[dc (by omega)]
   ·unfold fdB;rw[db b,db (by show ¬kd=2;omega)];simp only[List.map,Gk,Pi]
  have n0:0≤n:=by omega
  have O:∀h:kd=1,¬n≤255→fdE ⟨kd,n,s⟩=21:=fun h a=>by unfold fdE;rw[db b,db c];show(if kd=1∧n≤255 then(0:Int) else if kd=4∧n≤1 then 0 else if kd=2∧n≤big then 0 else 21)=21;rw[db (by omega),db (by omega),db (by omega)]
  have p:¬(kd=1∧n≤255)→¬(kd=4∧n≤1)→¬(kd=2∧n≤big)→fdE ⟨kd,n,s⟩=21:=fun C E J=>by unfold fdE;rw[db b,db c,db C,db E,db J]
  refine df (fun(q:kd=1)=>?_) (fun(q:¬kd=1)=>?_)
  ·refine dg (fun(h:n≤255)=>?_) (fun(h:¬n≤255)=>?_)
   ·exact d n0 h (.inl ⟨rfl,rfl⟩) q
   ·refine df (fun o=>de o (show ¬kd=4 by omega)) fun _=>?_;refine df (fun o=>de o (show ¬kd=2 by omega)) fun _=>?_;exact Fo (p (by omega) (by omega) (by omega)) (by decide)
  refine df (fun(w:kd=4)=>?_) (fun(w:¬kd=4)=>?_)
  ·refine dg (fun(h:n≤1)=>?_) (fun(h:¬n≤1)=>?_)
   ·exact d n0 h (.inr ⟨rfl,rfl⟩) w
   ·refine df (fun o=>de o (show ¬kd=2 by omega)) fun _=>?_;exact Fo (p (by omega) (by omega) (by omega)) (by decide)
  refine df (fun(z:kd=2)=>?_) (fun(z:¬kd=2)=>?_)
  ·refine dg (fun(i:n≤big)=>?_) (fun(h:¬n≤big)=>?_)
   ·have A:fdE ⟨kd,n,s⟩=0:=by
     unfold fdE;rw[db b,db c,db (fun h=>q h.1),db (fun h=>w h.1),dc ⟨z,i⟩]
    refine⟨by decide,?_⟩;refine As [1,2,3] [0,1] (fun r:Nat=>[(6,gI (7 - r)),(5,gI (n / (256 ^ r:Nat))),(4,.osl 2)]) (fun r=>[(2,.slc ((X1 n r).map gBy) tU8 1)]) (fun r=>r≤8) (fun r=>8 - r) 0 (by omega) ⟨⟨rfl,rfl⟩,⟨rfl,eqI (by simp)⟩,⟨rfl,rfl⟩,trivial⟩ ⟨RL1,trivial⟩ rfl fun r hr=>?_;refine dg (fun(h:(7:Int) - r ≥ 0)=>?_) (fun(h:¬(7:Int) - r ≥ 0)=>?_)
    ·have j:((X1 n r).map gBy).length=8:=by rw[aa];unfold X1 be8;simp<;>omega
     refine⟨by decide,⟨⟨by omega,by rw[j];omega⟩,?_⟩⟩;obtain⟨I,B⟩:=Z7n n r (by omega);have H:((7:Int) - r).toNat=7 - r:=by omega
     refine dn (f:=gBy) (x:=0) (y:=byI (n / (256 ^ r:Nat))) (by rw[H]<;>exact I) (fun k l=>?_) (by rw[H]<;>exact B) ?_
     ·have e:gBy (byI (n / (256 ^ r:Nat)))=[.v (.int .u8 ((n / (256 ^ r:Nat)).tmod 256 % 256))]:=by
       rw[Gk,Int.tmod_eq_emod_of_nonneg (Int.ediv_nonneg n0 (by exact bk _)),Int.emod_emod]
      rw[e] at l;exact l
     ·have F:(n / (256 ^ r:Nat)).tdiv 256=n / (256 ^ (r+1):Nat):=by
       rw[Int.tdiv_eq_ediv_of_nonneg (Int.ediv_nonneg n0 (by exact bk _)),Nat.pow_succ,Int.natCast_mul,Int.ediv_ediv_of_nonneg (by exact bk _)];rfl
      have L:n / (256 ^ (r+1):Nat)≤n:=Int.ediv_le_self _ n0;have K:0≤n / (256 ^ (r+1):Nat):=Int.ediv_nonneg n0 (by exact bk _);refine⟨by decide,⟨by rw[F];unfold big at i;omega,⟨by omega,r+1,by omega,(by dsimp only;omega),?_⟩⟩⟩;refine⟨?_,?_,rfl⟩<;>repeat' (first|exact trivial|with_reducible rfl|exact rfl|refine And.intro ?_ ?_)
      ·exact eqI (by omega)
      ·exact eqI F
      ·exact eqR (by rw[B])
    ·have:r=8:=by omega
     subst this;exact U0 A (by unfold fdB;rw[db b,dc z];rfl)
   ·exact Fo (p (by omega) (by omega) (by omega)) (by decide)
  exact Fo (p (by omega) (by omega) (by omega)) (by decide)
theorem Z7a (l:List RFd)(o:l.length≤800000):FnV Tryz.prog 48 [.sl (l.map F1)] fun g=>g=.tup [.sl ((Sv l).map gBy),gI (Ie l)]:=by
 refine fnG Tryz.func48 ?_;refine As [0,2,3] [0] (fun x:Nat=>[(5,gI x),(4,.osl 1)]) (fun x=>[(1,.slc ((Gv (l.take x)).map gBy) tU8 1)]) (fun x=>x≤l.length∧∀y∈l.take x,fdE y=0) (fun x=>l.length - x) 0 ⟨by omega,by simp⟩ ⟨⟨rfl,rfl⟩,⟨rfl,rfl⟩,trivial⟩ ⟨RL1,trivial⟩ rfl fun i hi=>?_;obtain⟨hi,b⟩:=hi;refine dg (fun h=>?_) (fun h=>?_)
 ·refine dp (by simpa using h) fun x d=>?_;have m:=C1 d;have n:=Li b;have hT:(l.take i).length≤800000:=by rw[aw];omega
  refine(Zk6 x).cal fun q k=>?_;subst k;unfold Zbe;refine dj (fun(a:fdE x≠0)=>?_) (fun(a:fdE x=0)=>?_)
  ·have e:=Z3c d b a;unfold Sv;rw[e,db a,db a];exact rfl
  ·rw[dc a];have f:=Z2v a;refine⟨fun r hr=>by obtain⟨c,-,rfl⟩:=ba.1 hr;exact⟨rfl,rfl⟩,⟨by simp;omega,⟨by omega,i+1,⟨by omega,fun y hy=>?_⟩,(by dsimp only;omega),?_⟩⟩⟩
   ·rw[Ar d] at hy;rcases bu.1 hy with hy | hy
    ·exact b y hy
    ·rw[bo.1 hy];exact a
   refine⟨?_,?_,rfl⟩<;>repeat' (first|exact trivial|with_reducible rfl|exact rfl|refine And.intro ?_ ?_)
   exact eqR (by rw[Ar d,S1,ao])
 ·have j:l.take i=l:=ap (by simp at h;omega);rw[j] at b⊢;have e:=Hu b;unfold Sv;rw[e,dc rfl];exact rfl
theorem Zbz (v x:Nat)(a:v * 256+x < 2 ^ 64)(b:x < 256):IntKind.wrap .u64 (IntKind.wrap .u64 ((v:Int) * 256)+IntKind.wrap .u64 (x:Int))=((v * 256+x:Nat):Int):=by simp only[IntKind.wrap,IntKind.bits,IntKind.signed,Bool.false_and,if_false,Bool.false_eq_true];omega
theorem Z6o (b:Bs)(f:b.length≤8):FnV Tryz.prog 89 [.sl (b.map gBy)] fun g=>g=.v (.int .u64 (Dc b)):=by
 refine fnG Tryz.func89 ?_;refine As [0] [] (fun i:Nat=>[(4,gI i),(3,.v (.int .u64 (Dc (b.take i))))]) (fun _=>[]) (fun i=>i≤b.length) (fun i=>b.length - i) 0 (by omega) ⟨⟨rfl,rfl⟩,⟨rfl,rfl⟩,trivial⟩ trivial rfl fun i hi=>?_;refine dg (fun h=>?_) (fun h=>?_)
 ·refine dp (by simpa using h) fun x c=>?_;have e:=C1 c;refine⟨by omega,i+1,by omega,(by dsimp only;omega),?_⟩;refine⟨?_,?_,rfl⟩<;>repeat' (first|exact trivial|with_reducible rfl|exact rfl|refine And.intro ?_ ?_)
  have a:Dc (b.take (i+1)) < 2 ^ 64:=by refine aq (Hf _) ?_;rw[show(2:Nat) ^ 64=256 ^ 8 by decide];exact Nat.pow_le_pow_right (by decide) (by rw[aw];omega)
  rw[Ar c,Mn] at a⊢;exact congrArg (fun n=>some (G.v (.int .u64 n))) (Zbz _ _ a x.toNat_lt)
 ·have d:b.take i=b:=ap (by simp at h;omega);rw[d];exact rfl
theorem Zdq (b:Bs)(n m:Nat):Es (b.map gBy) (n:Int).toNat ((n:Int)+(m:Int)).toNat=((b.drop n).take m).map gBy:=by
 unfold Es;rw[show((n:Int)+(m:Int)).toNat=n+m by omega,az,cw,List.map_drop,List.drop_take]
 congr 1;omega
set_option maxHeartbeats 1000000 in
theorem Zaf (ks:List Int)(b:Bs)(O:ks.length≤1000000)(N:b.length≤1000000000):FnV Tryz.prog 50 [.sl (ks.map gNi),.sl (b.map gBy)] fun g=>g=smG (Aj ks b):=by
 refine fnG Tryz.func50 ?_;refine As [0,1,5,6] [0] (fun i:Nat=>[(9,gI i),(8,gI ((Aj (ks.take i) b).n:Int)),(7,.osl 1)]) (fun i=>[(1,.slc ((Aj (ks.take i) b).l.map F1) tFd 3)]) (fun i=>i≤ks.length∧(Aj (ks.take i) b).e=0) (fun i=>ks.length - i) 0 ⟨by omega,rfl⟩ ⟨⟨rfl,rfl⟩,⟨rfl,rfl⟩,⟨rfl,rfl⟩,trivial⟩ ⟨RL1,trivial⟩ rfl fun i hi=>?_;obtain⟨hi,r⟩:=hi;refine dg (fun h=>?_) (fun h=>?_)
 ·refine dp (by simpa using h) fun k w=>?_;have K:=C1 w;have x:=Cu (ks.take i) b;have E:=Oy ks b i k w r;have c:=My (ks.take i) b k r;rw[←Ar w] at c;have D:=x.2 r;rw[aw] at D;have bad:∀e:Int,e≠0→nxE k (b.drop (Aj (ks.take i) b).n)=e→smG ⟨e,[],0⟩=smG (Aj ks b):=fun e t f=>by
   rw[E (by rw[f];exact t),f]
  generalize (Aj (ks.take i) b).n=at_ at *;generalize hd:b.drop at_=d at *;refine dg (fun(t:k < 1)=>?_) (fun(t:¬k < 1)=>?_)
  ·exact bad 21 (by decide) (by unfold nxE;rw[dc (by omega)])
  refine dg (fun(f:k > 4)=>?_) (fun(f:¬k > 4)=>?_)
  ·exact bad 21 (by decide) (by unfold nxE;rw[dc (by omega)])
  refine⟨⟨by omega,by show k < 5;omega⟩,?_⟩;have p:∀row:List G,[[G.v (.int .i64 0)],[.v (.int .i64 1)],[.v (.int .i64 8)],[.v (.int .i64 2)],[.v (.int .i64 1)]][((k.toNat:Nat):Int).toNat]?=some row→row=[gI (szN k)]:=fun row h=>by
   have hk4:k=1∨k=2∨k=3∨k=4:=by omega
   rcases hk4 with e | e | e | e<;>(rw[e] at h⊢;exact(cj h).symm)
  have o:1≤k∧k≤4:=by omega
  have u:=Za1 k;have H:d.length=b.length - at_:=by rw[←hd,bc]
  refine EvIdx.mk ⟨by omega,by show((k.toNat:Nat):Int) < 5;omega⟩ fun row hr=>?_;obtain rfl:=p row hr;refine⟨by omega,?_⟩;refine dg (fun(m:(at_:Int)+szN k > (b.map gBy).length)=>?_) (fun(m:¬(at_:Int)+szN k > (b.map gBy).length)=>?_)
  ·rw[aa] at m;exact bad 20 (by decide) (by unfold nxE;rw[db (fun h=>h o),dc (by omega)])
  rw[aa] at m;refine⟨by omega,⟨⟨by omega,by omega,by rw[aa];omega⟩,⟨Kw b,?_⟩⟩⟩;rw[Zdq,hd];refine(Z6o (d.take (szN k)) (by rw[aw];omega)).cal fun q M=>?_;subst M;have j:nxV k d < 256 ^ szN k:=by have:=Hf (d.take (szN k));rw[aw,cf (by omega)] at this;exact this
  have hN:nxN k d=if k=3 then 2+nxV k d else szN k:=rfl;have s:nxF k d=if k=3 then⟨3,0,⟨((d.drop 2).take (nxV k d)).toArray⟩⟩ else⟨k,nxV k d,⟨#[]⟩⟩:=rfl;have a:nxE k d=if(k=2∧big < nxV k d)∨(k=4∧1 < nxV k d) then 21 else if k≠3 then 0 else if 1024 < nxV k d then 22 else if d.length < 2+nxV k d then 20 else 0:=by unfold nxE;rw[db (fun h=>h o),db (by omega)]
  have I:Dc (d.take (szN k))=nxV k d:=rfl;rw[I];generalize nxV k d=v at *;refine⟨by omega,?_⟩;refine df (fun(A:k=2)=>?_) (fun(A:¬k=2)=>?_)
  ·refine dg (fun(h:(v:Int) > big)=>?_) (fun(h:¬(v:Int) > big)=>?_)
   ·rw[dc (.inl ⟨A,h⟩)] at a;exact bad 21 (by decide) a
   ·rw[db (by rintro(f | f)<;>omega),dc (by omega)] at a;refine df (fun L=>de L (show ¬k=4 by omega)) fun _=>?_;refine dj (fun _=>?_) (fun m=>de m (show ¬k=3 by omega));rw[db (fun h=>h a),hN,s,db (by omega),db (by omega)] at c;refine⟨by unfold big at h;omega,⟨by simp;omega,⟨by omega,i+1,⟨by omega,by rw[c]⟩,(by dsimp only;omega),?_⟩⟩⟩;refine⟨?_,?_,rfl⟩<;>repeat' (first|exact trivial|with_reducible rfl|exact rfl|refine And.intro ?_ ?_)
    ·exact eqI (by rw[c];simp only;omega)
    ·exact eqR (by rw[c,ao];rfl)
  ·refine df (fun(z:k=4)=>?_) (fun(z:¬k=4)=>?_)
   ·refine dg (fun(h:(v:Int) > 1)=>?_) (fun(h:¬(v:Int) > 1)=>?_)
    ·rw[dc (.inr ⟨z,by omega⟩)] at a;exact bad 21 (by decide) a
    ·rw[db (by rintro(f | f)<;>omega),dc (by omega)] at a;refine dj (fun _=>?_) (fun m=>de m (show ¬k=3 by omega));rw[db (fun h=>h a),hN,s,db (by omega),db (by omega)] at c;refine⟨by omega,⟨by simp;omega,⟨by omega,i+1,⟨by omega,by rw[c]⟩,(by dsimp only;omega),?_⟩⟩⟩;refine⟨?_,?_,rfl⟩<;>repeat' (first|exact trivial|with_reducible rfl|exact rfl|refine And.intro ?_ ?_)
     ·exact eqI (by rw[c];simp only;omega)
     ·exact eqR (by rw[c,ao];rfl)
   ·rw[db (by rintro(f | f)<;>omega)] at a;refine dj (fun(B:k≠3)=>?_) (fun(B:k=3)=>?_)
    ·have C:k=1:=by omega
     subst C;have j:v < 256:=j;rw[dc (by decide)] at a;rw[db (fun h=>h a),hN,s,db (by decide),db (by decide)] at c;refine⟨by omega,⟨by simp;omega,⟨by omega,i+1,⟨by omega,by rw[c]⟩,(by dsimp only;omega),?_⟩⟩⟩;refine⟨?_,?_,rfl⟩<;>repeat' (first|exact trivial|with_reducible rfl|exact rfl|refine And.intro ?_ ?_)
     ·exact eqI (by rw[c];simp only;omega)
     ·exact eqR (by rw[c,ao];rfl)
    ·subst B;have j:v < 65536:=j;have F:szN 3=2:=rfl;rw[F] at m u⊢;rw[db (fun h=>h rfl)] at a;refine dg (fun(h:(v:Int) > 1024)=>?_) (fun(h:¬(v:Int) > 1024)=>?_)
     ·rw[dc (by omega)] at a;exact bad 22 (by decide) a
     ·rw[db (by omega)] at a;refine⟨by omega,⟨by omega,?_⟩⟩;refine dg (fun(y:(at_:Int)+(2:Nat)+v > (b.map gBy).length)=>?_) (fun(y:¬(at_:Int)+(2:Nat)+v > (b.map gBy).length)=>?_)
      ·rw[aa] at y;rw[dc (by omega)] at a;exact bad 20 (by decide) a
      ·rw[aa] at y;rw[db (by omega)] at a;rw[db (fun h=>h a),hN,s,dc rfl,dc rfl] at c;refine⟨by omega,⟨by omega,⟨⟨by omega,by omega,by rw[aa];omega⟩,⟨Kw b,EvBytes.mk ⟨(d.drop 2).take v,?_,?_⟩⟩⟩⟩⟩
       ·unfold Es;rw[show((at_:Int)+(2:Nat)+(v:Int)).toNat=at_+2+v by omega,show((at_:Int)+(2:Nat)).toNat=at_+2 by omega,←hd,List.drop_drop,cw,List.map_drop,List.drop_take]
        congr 1
        omega
       ·refine⟨by simp;omega,⟨by omega,⟨by omega,⟨by omega,i+1,⟨by omega,by rw[c]⟩,(by dsimp only;omega),?_⟩⟩⟩⟩;refine⟨?_,?_,rfl⟩<;>repeat' (first|exact trivial|with_reducible rfl|exact rfl|refine And.intro ?_ ?_)
        ·exact eqI (by rw[c];simp only;omega)
        ·exact eqR (by rw[c,ao];rfl)
 ·have J:ks.take i=ks:=ap (by simp at h;omega);rw[J] at r⊢;unfold smG;rw[r];exact rfl
theorem Z6d (ks:List Int)(b:Bs)(i:ks.length≤1000000)(d:b.length≤1000000000):FnV Tryz.prog 51 [.sl (ks.map gNi),.sl (b.map gBy)] fun g=>g=.tup [.sl ((K2 ks b).l.map F1),gI (K2 ks b).e]:=by
 refine fnG Tryz.func51 ?_;refine(Zaf ks b i d).cal fun q f=>?_;subst f;unfold smG K2;refine dj (fun a=>?_) (fun a=>?_)
 ·rw[dc a];exact rfl
 ·have a:(Aj ks b).e=0:=a;rw[db (fun h=>h a)];have c:(b.map gBy).length=b.length:=aa _;refine dj (fun h=>?_) (fun h=>?_)
  ·have h:(((Aj ks b).n:Nat):Int)≠(b.map gBy).length:=h;rw[c] at h;rw[dc (by omega)];exact rfl
  ·have h:(((Aj ks b).n:Nat):Int)=(b.map gBy).length:=h;rw[c] at h;rw[db (by omega),a];exact rfl
end Go.Proofs.YtihfaocdpmmooaaGreat

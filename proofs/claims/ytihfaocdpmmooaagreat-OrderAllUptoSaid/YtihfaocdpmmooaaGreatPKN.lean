
import Derived.Test.YtihfaocdpmmooaaGreatPKM
import Derived.Test.YtihfaocdpmmooaaGreatFn1
import Derived.Test.YtihfaocdpmmooaaGreatSxMc
import Derived.Test.YtihfaocdpmmooaaGreatZM1
namespace Go.Proofs.YtihfaocdpmmooaaGreat
open Go.RowKit
set_option maxRecDepth 100000
abbrev tU8:Nat:=5
def Ed (f:RFd):List G:=[gI f.kind,gI f.n,gS f.s]
theorem Fs (n:Int):gBy (byI n)=[.v (.int .u8 (n % 256))]:=by unfold gBy;rw[Ci]
theorem Zgb (a b:Bs)(ha:a.length+b.length≤1000000000):FnO Tryz.prog 123 [.osl 0,.osl 1] [.slc (a.map gBy) tU8 1,.slc (b.map gBy) tU8 1] fun g rs=>g=.osl 2∧rs=[.gone,.gone,.slc ((a++b).map gBy) tU8 1]:=by
 refine Ba Tryz.func123 (C3 _ _) ?_
 refine⟨by simp;omega,?_⟩
 refine .inr ⟨1,_,itL [(0,.gone),(1,.gone),(3,.slc ((a++b).map gBy) tU8 1)],.osl 2,rfl,⟨⟨⟨_,rfl,rfl,rfl⟩,⟨_,rfl,rfl,rfl⟩,⟨_,rfl,?_,rfl⟩,trivial⟩,rfl,⟨_,rfl⟩,rfl,rfl,⟨rfl,rfl⟩⟩⟩
 exact eqR (by rw[am])
theorem Zem (a:Bs)(b:Bs)(ha:a.length+b.length≤1000000000):FnO Tryz.prog 123 [.osl 0,.sl (b.map gBy)] [.slc (a.map gBy) tU8 1] fun g rs=>g=.osl 1∧rs=[.gone,.slc ((a++b).map gBy) tU8 1]:=by
 refine Ba Tryz.func123 (C3 _ _) ?_
 refine⟨fun r hr=>by obtain⟨c,-,rfl⟩:=az.1 hr;exact⟨rfl,rfl⟩,⟨by simp;omega,?_⟩⟩
 refine .inl ⟨itL [(0,.gone),(2,.slc ((a++b).map gBy) tU8 1)],.osl 1,⟨⟨⟨_,rfl,rfl,rfl⟩,⟨_,rfl,?_,rfl⟩,trivial⟩,rfl,⟨_,rfl⟩,rfl,rfl,⟨rfl,rfl⟩⟩⟩
 exact eqR (by rw[am])
theorem Zaq (a b:Bs){rows:List (List G)}(hr:rows=b.map gBy)(ha:a.length+b.length≤1000000000):FnO Tryz.prog 123 [.osl 0,.osl 1] [.slc (a.map gBy) tU8 1,.slc rows tU8 1] fun g rs=>g=.osl 2∧rs=[.gone,.gone,.slc ((a++b).map gBy) tU8 1]:=by
 subst hr;exact Zgb a b ha
theorem Mz (a b:Bs){rows:List (List G)}(hr:rows=b.map gBy)(ha:a.length+b.length≤1000000000):FnO Tryz.prog 123 [.osl 0,.sl rows] [.slc (a.map gBy) tU8 1] fun g rs=>g=.osl 1∧rs=[.gone,.slc ((a++b).map gBy) tU8 1]:=by
 subst hr;exact Zem a b ha
theorem Ez (n m:Int)(j k:Nat)(hj:min j 64=k)(hm:(2:Int) ^ k=m)(h0:0≤m):n.fdiv (2 ^ min j 64)=n / m:=by
 rw[hj,hm];exact Int.fdiv_eq_ediv_of_nonneg _ h0
def FdP (b:Bs)(f:RFd)(g:G)(rs:List R):Prop:=g=.tup [.osl 1,gI (fdE f)]∧rs=[.gone,.slc ((if fdE f=0 then b++fdB f else []).map gBy) tU8 1]
theorem FdP.bad {b:Bs}{f:RFd}{e:Int}(h:fdE f=e)(h0:e≠0):FdP b f (.tup [.osl 1,gI e]) [.gone,.slc [] tU8 1]:=by
 unfold FdP;rw[h,da h0];exact⟨rfl,rfl⟩
theorem FdP.ok {b x:Bs}{f:RFd}(h:fdE f=0)(hx:fdB f=x):FdP b f (.tup [.osl 1,gI 0]) [.gone,.slc ((b++x).map gBy) tU8 1]:=by
 unfold FdP;rw[h,db rfl,hx];exact⟨rfl,rfl⟩
theorem Nr (n:Int):IntKind.u8.wrap n=n % 256:=by
 simp[IntKind.wrap,IntKind.bits,IntKind.signed]
theorem Z01 (n:Nat):[[G.v (.int .u8 (IntKind.u8.wrap (((n:Nat):Int).fdiv (2 ^ min (8:Int).toNat 64))))],[G.v (.int .u8 (IntKind.u8.wrap ((n:Nat):Int)))]]=[[G.v (.int .u8 ((((n:Nat):Int) / 256) % 256))],[G.v (.int .u8 (((n:Nat):Int) % 256))]]:=by
 rw[Nr,Nr,Ez n 256 _ 8 rfl (by decide) (by decide)]
theorem Z4d (n:Int):[[G.v (.int .u8 (IntKind.u8.wrap (n.fdiv (2 ^ min (56:Int).toNat 64))))],[G.v (.int .u8 (IntKind.u8.wrap (n.fdiv (2 ^ min (48:Int).toNat 64))))],[G.v (.int .u8 (IntKind.u8.wrap (n.fdiv (2 ^ min (40:Int).toNat 64))))],[G.v (.int .u8 (IntKind.u8.wrap (n.fdiv (2 ^ min (32:Int).toNat 64))))],[G.v (.int .u8 (IntKind.u8.wrap (n.fdiv (2 ^ min (24:Int).toNat 64))))],[G.v (.int .u8 (IntKind.u8.wrap (n.fdiv (2 ^ min (16:Int).toNat 64))))],[G.v (.int .u8 (IntKind.u8.wrap (n.fdiv (2 ^ min (8:Int).toNat 64))))],[G.v (.int .u8 (IntKind.u8.wrap n))]]=[[G.v (.int .u8 (n / 72057594037927936 % 256))],[G.v (.int .u8 (n / 281474976710656 % 256))],[G.v (.int .u8 (n / 1099511627776 % 256))],[G.v (.int .u8 (n / 4294967296 % 256))],[G.v (.int .u8 (n / 16777216 % 256))],[G.v (.int .u8 (n / 65536 % 256))],[G.v (.int .u8 (n / 256 % 256))],[G.v (.int .u8 (n % 256))]]:=by
 simp only[Nr]
 rw[Ez n 72057594037927936 _ 56 rfl (by decide) (by decide),Ez n 281474976710656 _ 48 rfl (by decide) (by decide),Ez n 1099511627776 _ 40 rfl (by decide) (by decide),Ez n 4294967296 _ 32 rfl (by decide) (by decide),Ez n 16777216 _ 24 rfl (by decide) (by decide),Ez n 65536 _ 16 rfl (by decide) (by decide),Ez n 256 _ 8 rfl (by decide) (by decide)]
set_option maxHeartbeats 2000000 in
theorem Zdt (b:Bs)(f:RFd)(hb:b.length≤900000000):FnO Tryz.prog 85 [.osl 0,.agg (Ed f)] [.slc (b.map gBy) tU8 1] (FdP b f):=by
 obtain⟨kd,n,s⟩:=f
 refine Ba Tryz.func85 (C3 _ _) ?_
 refine de (fun(k3:kd=3)=>?_) (fun(k3:¬kd=3)=>?_)
 ·subst k3
  refine di (fun hn=>?_) (fun hn=>?_)
  ·refine .inr ⟨0,_,itL [(0,.gone),(3,.slc [] tU8 1)],.tup [.osl 1,gI 21],rfl,⟨⟨⟨_,rfl,rfl,rfl⟩,⟨_,rfl,rfl,rfl⟩,trivial⟩,rfl,⟨_,rfl⟩,rfl,rfl,.bad (e:=21) ?_ (by decide)⟩⟩
   unfold fdE
   rw[db rfl,db hn]
  ·have hn:n=0:=hn
   subst hn
   refine di (fun h=>dc rfl h) fun _=>?_
   refine df (fun h=>dc h (show ¬(0:Int) < 0 by decide)) fun _=>?_
   refine de (fun h=>dc h (show ¬(3:Int)=1 by decide)) fun _=>?_
   refine de (fun h=>dc h (show ¬(3:Int)=4 by decide)) fun _=>?_
   refine de (fun h=>dc h (show ¬(3:Int)=2 by decide)) fun _=>?_
   refine de (fun _=>?_) fun h=>dc rfl h
   refine df (fun h=>?_) fun h=>?_
   ·refine .inr ⟨0,_,itL [(0,.gone),(3,.slc [] tU8 1)],.tup [.osl 1,gI 22],rfl,⟨⟨⟨_,rfl,rfl,rfl⟩,⟨_,rfl,rfl,rfl⟩,trivial⟩,rfl,⟨_,rfl⟩,rfl,rfl,.bad (e:=22) ?_ (by decide)⟩⟩
    have h:((s.size:Nat):Int) > 1024:=h
    unfold fdE
    rw[db rfl,da (fun h=>h rfl),db (by show s.size > 1024;omega)]
   ·refine⟨by decide,?_⟩
    have h:¬((s.size:Nat):Int) > 1024:=h
    have he:fdE ⟨3,0,s⟩=0:=by
     unfold fdE
     rw[db rfl,da (fun h=>h rfl),da (by show ¬s.size > 1024;omega)]
    have hl2:(b++[byI ((s.size:Int) / 256),byI s.size]).length+s.data.toList.length≤1000000000:=by
     have:s.data.toList.length=s.size:=by rw[cb];rfl
     simp only[List.length_append,List.length_cons,List.length_nil,this]
     omega
    have eB:fdB ⟨3,0,s⟩=[byI ((s.size:Int) / 256),byI s.size]++s.data.toList:=by unfold fdB;rw[db rfl];rfl
    refine⟨?_,?_⟩
    ·refine⟨?_,?_⟩
     ·refine dh ((Mz b [byI ((s.size:Int) / 256),byI s.size] ?hr (by simp;omega)).cal fun q rs hq=>?_)
      case hr =>
       simp only[List.map,Fs]
       exact Z01 s.size
      obtain⟨rfl,rfl⟩:=hq
      refine dh ((Mz (b++[byI ((s.size:Int) / 256),byI s.size]) s.data.toList rfl hl2).cal fun q rs hq=>?_)
      obtain⟨rfl,rfl⟩:=hq
      refine .inl ⟨itL [(0,.gone),(5,.slc ((b++fdB ⟨3,0,s⟩).map gBy) tU8 1)],.tup [.osl 1,gI 0],⟨⟨⟨_,rfl,rfl,rfl⟩,⟨_,rfl,?_,rfl⟩,trivial⟩,rfl,⟨_,rfl⟩,rfl,rfl,.ok he rfl⟩⟩
      exact eqR (by rw[eB,←bw])
     ·refine dh ((Mz b [byI ((s.size:Int) / 256),byI s.size] ?hr (by simp;omega)).cal fun q rs hq=>?_)
      case hr =>
       simp only[List.map,Fs]
       exact Z01 s.size
      obtain⟨rfl,rfl⟩:=hq
      refine dh ((Mz (b++[byI ((s.size:Int) / 256),byI s.size]) s.data.toList rfl hl2).cal fun q rs hq=>?_)
      obtain⟨rfl,rfl⟩:=hq
      refine .inl ⟨itL [(0,.gone),(5,.slc ((b++fdB ⟨3,0,s⟩).map gBy) tU8 1)],.tup [.osl 1,gI 0],⟨⟨⟨_,rfl,rfl,rfl⟩,⟨_,rfl,?_,rfl⟩,trivial⟩,rfl,⟨_,rfl⟩,rfl,rfl,.ok he rfl⟩⟩
      exact eqR (by rw[eB,←bw])
    ·refine dh ((Mz b [byI ((s.size:Int) / 256),byI s.size] ?hr (by simp;omega)).cal fun q rs hq=>?_)
     case hr =>
      simp only[List.map,Fs]
      exact Z01 s.size
     obtain⟨rfl,rfl⟩:=hq
     refine dh ((Mz (b++[byI ((s.size:Int) / 256),byI s.size]) s.data.toList rfl hl2).cal fun q rs hq=>?_)
     obtain⟨rfl,rfl⟩:=hq
     refine .inl ⟨itL [(0,.gone),(5,.slc ((b++fdB ⟨3,0,s⟩).map gBy) tU8 1)],.tup [.osl 1,gI 0],⟨⟨⟨_,rfl,rfl,rfl⟩,⟨_,rfl,?_,rfl⟩,trivial⟩,rfl,⟨_,rfl⟩,rfl,rfl,.ok he rfl⟩⟩
     exact eqR (by rw[eB,←bw])
 ·refine di (fun _=>?_) (fun h=>dc h k3)
  refine EvIf.bneS (fun(hs:s≠⟨#[]⟩)=>?_) (fun(hs:s=⟨#[]⟩)=>?_)
  ·refine .inr ⟨0,_,itL [(0,.gone),(3,.slc [] tU8 1)],.tup [.osl 1,gI 21],rfl,⟨⟨⟨_,rfl,rfl,rfl⟩,⟨_,rfl,rfl,rfl⟩,trivial⟩,rfl,⟨_,rfl⟩,rfl,rfl,.bad (e:=21) (by unfold fdE;rw[da k3,db (.inl hs)]) (by decide)⟩⟩
  refine df (fun(hn:n < 0)=>?_) (fun(hn:¬n < 0)=>?_)
  ·refine .inr ⟨0,_,itL [(0,.gone),(3,.slc [] tU8 1)],.tup [.osl 1,gI 21],rfl,⟨⟨⟨_,rfl,rfl,rfl⟩,⟨_,rfl,rfl,rfl⟩,trivial⟩,rfl,⟨_,rfl⟩,rfl,rfl,.bad (e:=21) (by unfold fdE;rw[da k3,db (.inr hn)]) (by decide)⟩⟩
  have hng:¬(s≠⟨#[]⟩∨n < 0):=fun h=>h.elim (fun h=>h hs) hn
  refine de (fun(k1:kd=1)=>?_) (fun(k1:¬kd=1)=>?_)
  ·subst k1
   refine df (fun(h:n < 256)=>?_) (fun(h:¬n < 256)=>?_)
   ·have he:fdE ⟨1,n,s⟩=0:=by unfold fdE;rw[da k3,da hng,db ⟨rfl,by show n≤255;omega⟩]
    refine dh ((Zaq b [byI n] (by simp only[List.map,Fs]) (by have:=hb;simp only[List.length_cons,List.length_nil];omega)).cal fun q rs hq=>?_)
    obtain⟨rfl,rfl⟩:=hq
    refine .inl ⟨itL [(0,.gone),(4,.slc ((b++fdB ⟨1,n,s⟩).map gBy) tU8 1)],.tup [.osl 1,gI 0],⟨⟨⟨_,rfl,rfl,rfl⟩,⟨_,rfl,rfl,rfl⟩,trivial⟩,rfl,⟨_,rfl⟩,rfl,rfl,.ok he rfl⟩⟩
   ·refine .inr ⟨0,_,itL [(0,.gone),(3,.slc [] tU8 1)],.tup [.osl 1,gI 21],rfl,⟨⟨⟨_,rfl,rfl,rfl⟩,⟨_,rfl,rfl,rfl⟩,trivial⟩,rfl,⟨_,rfl⟩,rfl,rfl,.bad (e:=21) (by unfold fdE;rw[da k3,da hng,da (fun h2=>h (by have:n≤255:=h2.2;omega)),da (by rintro⟨h,-⟩;cases h),da (by rintro⟨h,-⟩;cases h)]) (by decide)⟩⟩
  refine de (fun(k4:kd=4)=>?_) (fun(k4:¬kd=4)=>?_)
  ·subst k4
   refine df (fun(h:n < 2)=>?_) (fun(h:¬n < 2)=>?_)
   ·have he:fdE ⟨4,n,s⟩=0:=by unfold fdE;rw[da k3,da hng,da (by rintro⟨h,-⟩;cases h),db ⟨rfl,by show n≤1;omega⟩]
    refine dh ((Zaq b [byI n] (by simp only[List.map,Fs]) (by have:=hb;simp only[List.length_cons,List.length_nil];omega)).cal fun q rs hq=>?_)
    obtain⟨rfl,rfl⟩:=hq
    refine .inl ⟨itL [(0,.gone),(4,.slc ((b++fdB ⟨4,n,s⟩).map gBy) tU8 1)],.tup [.osl 1,gI 0],⟨⟨⟨_,rfl,rfl,rfl⟩,⟨_,rfl,rfl,rfl⟩,trivial⟩,rfl,⟨_,rfl⟩,rfl,rfl,.ok he rfl⟩⟩
   ·refine .inr ⟨0,_,itL [(0,.gone),(3,.slc [] tU8 1)],.tup [.osl 1,gI 21],rfl,⟨⟨⟨_,rfl,rfl,rfl⟩,⟨_,rfl,rfl,rfl⟩,trivial⟩,rfl,⟨_,rfl⟩,rfl,rfl,.bad (e:=21) (by unfold fdE;rw[da k3,da hng,da (by rintro⟨h,-⟩;cases h),da (fun h2=>h (by have:n≤1:=h2.2;omega)),da (by rintro⟨h,-⟩;cases h)]) (by decide)⟩⟩
  refine de (fun(k2:kd=2)=>?_) (fun(k2:¬kd=2)=>?_)
  ·subst k2
   refine df (fun(h:n≤4611686018427387904)=>?_) (fun(h:¬n≤4611686018427387904)=>?_)
   ·have he:fdE ⟨2,n,s⟩=0:=by unfold fdE;rw[da k3,da hng,da (by rintro⟨h,-⟩;cases h),da (by rintro⟨h,-⟩;cases h),db ⟨rfl,h⟩]
    refine⟨by decide,⟨by decide,⟨by decide,⟨by decide,⟨by decide,⟨by decide,⟨by decide,?_⟩⟩⟩⟩⟩⟩⟩
    refine dh ((Zaq b (be8 n) (by unfold be8;simp only[List.map,Fs];exact Z4d n) (by have:=hb;simp only[be8,List.length_cons,List.length_nil];omega)).cal fun q rs hq=>?_)
    obtain⟨rfl,rfl⟩:=hq
    refine .inl ⟨itL [(0,.gone),(4,.slc ((b++fdB ⟨2,n,s⟩).map gBy) tU8 1)],.tup [.osl 1,gI 0],⟨⟨⟨_,rfl,rfl,rfl⟩,⟨_,rfl,rfl,rfl⟩,trivial⟩,rfl,⟨_,rfl⟩,rfl,rfl,.ok he rfl⟩⟩
   ·refine .inr ⟨0,_,itL [(0,.gone),(3,.slc [] tU8 1)],.tup [.osl 1,gI 21],rfl,⟨⟨⟨_,rfl,rfl,rfl⟩,⟨_,rfl,rfl,rfl⟩,trivial⟩,rfl,⟨_,rfl⟩,rfl,rfl,.bad (e:=21) (by unfold fdE;rw[da k3,da hng,da (by rintro⟨h,-⟩;cases h),da (by rintro⟨h,-⟩;cases h),da (fun h2=>h h2.2)]) (by decide)⟩⟩
  refine de (fun h=>dc h k3) fun _=>?_
  refine .inr ⟨0,_,itL [(0,.gone),(3,.slc [] tU8 1)],.tup [.osl 1,gI 21],rfl,⟨⟨⟨_,rfl,rfl,rfl⟩,⟨_,rfl,rfl,rfl⟩,trivial⟩,rfl,⟨_,rfl⟩,rfl,rfl,.bad (e:=21) (by unfold fdE;rw[da k3,da hng,da (fun h=>k1 h.1),da (fun h=>k4 h.1),da (fun h=>k2 h.1)]) (by decide)⟩⟩
theorem Re (l:List RFd)(x:RFd):Hv (l++[x])=Hv l++fdB x:=by unfold Hv;rw[List.flatMap_append];simp
theorem Ue (l:List RFd)(hl:l.length≤800000):FnO Tryz.prog 46 [.sl (l.map Ed)] [] fun g rs=>g=.tup [.osl 0,gI (M7 l)]∧rs=[.slc ((Q4 l).map gBy) tU8 1]:=by
 refine Ba Tryz.func46 (Q3 _) ?_
 refine Ap [0,2,3,9,10] [0] (fun x:Nat=>[(11,gI x),(4,.osl 1)]) (fun x=>[(1,.slc ((Hv (l.take x)).map gBy) tU8 1)]) (fun x=>x≤l.length∧∀y∈l.take x,fdE y=0) (fun x=>l.length - x) 0 ⟨by omega,by simp⟩ ⟨⟨rfl,rfl⟩,⟨rfl,rfl⟩,trivial⟩ ⟨RL1,trivial⟩ rfl fun i hi=>?_
 obtain⟨hi,hz⟩:=hi
 refine df (fun h=>?_) (fun h=>?_)
 ·refine dn (by simpa using h) fun x hx=>?_
  have hlt:=Bl hx
  have hB:=L4 hz
  have hT:(l.take i).length≤800000:=by rw[au];omega
  refine dh ((Zdt (Hv (l.take i)) x (by omega)).cal fun q rs hq=>?_)
  unfold FdP at hq
  obtain⟨rfl,rfl⟩:=hq
  refine di (fun(he:fdE x≠0)=>?_) (fun(he:fdE x=0)=>?_)
  ·have e1:=Yv hx hz he
   refine .inl ⟨itL [(4,.slc [] tU8 1)],.tup [.osl 0,gI (fdE x)],⟨⟨⟨_,rfl,rfl,rfl⟩,trivial⟩,rfl,⟨_,rfl⟩,rfl,rfl,?_,?_⟩⟩
   ·rw[e1]
   ·unfold Q4;rw[da (by rw[e1];exact he)];rfl
  ·refine⟨by omega,i+1,⟨by omega,fun y hy=>?_⟩,(by dsimp only;omega),?_⟩
   ·rw[An hx] at hy
    rcases br.1 hy with hy | hy
    ·exact hz y hy
    ·rw[bm.1 hy];exact he
   refine⟨?_,?_,rfl⟩<;>repeat' (first|exact trivial|with_reducible rfl|exact rfl|refine And.intro ?_ ?_)
   exact eqR (by rw[db he,An hx,Re])
 ·have ht:l.take i=l:=ao (by simp at h;omega)
  rw[ht] at hz
  have e1:=J1 hz
  refine .inl ⟨itL [(1,.slc ((Hv (l.take i)).map gBy) tU8 1)],.tup [.osl 0,gI 0],⟨⟨⟨_,rfl,rfl,rfl⟩,trivial⟩,rfl,⟨_,rfl⟩,rfl,rfl,?_,?_⟩⟩
  ·rw[e1]
  ·unfold Q4;rw[db e1,ht];rfl
def szI (k:Int):Int:=if 1≤k∧k≤4 then(szN k:Int) else -1
theorem Zf4 (k:Int):FnV Tryz.prog 124 [gI k] fun g=>g=gI (szI k):=by
 refine fnG Tryz.func124 ?_
 refine de (fun(h:k=1)=>?_) (fun(h1:¬k=1)=>?_)
 ·subst h;exact de (fun _=>rfl) (fun h=>dc rfl h)
 refine de (fun(h:k=4)=>?_) (fun(h4:¬k=4)=>?_)
 ·subst h;exact rfl
 refine de (fun(h:k=2)=>?_) (fun(h2:¬k=2)=>?_)
 ·subst h;exact rfl
 refine de (fun(h:k=3)=>?_) (fun(h3:¬k=3)=>?_)
 ·subst h;exact rfl
 refine(show gI (-1)=gI (szI k) from ?_)
 unfold szI
 rw[da (by omega)]
theorem Z7d (v x:Nat)(hv:v < 2 ^ 56)(hx:x < 256):IntKind.wrap .u64 ((BitVec.ofInt 64 (IntKind.wrap .u64 ((v:Int) * 2 ^ min (Int.toNat 8) 64)) ||| BitVec.ofInt 64 (IntKind.wrap .u64 (x:Int))).toNat:Nat)=((v * 256+x:Nat):Int):=by
 have w1:IntKind.wrap .u64 ((v:Int) * 2 ^ min (Int.toNat 8) 64)=((v * 256:Nat):Int):=by
  have:(v:Int) * 2 ^ min (Int.toNat 8) 64=((v * 256:Nat):Int):=by
   rw[show(2:Int) ^ min (Int.toNat 8) 64=256 from rfl];omega
  rw[this]
  simp only[IntKind.wrap,IntKind.bits,IntKind.signed,Bool.false_and,if_false,Bool.false_eq_true]
  omega
 have w2:IntKind.wrap .u64 (x:Int)=(x:Int):=by
  simp only[IntKind.wrap,IntKind.bits,IntKind.signed,Bool.false_and,if_false,Bool.false_eq_true]
  omega
 have e:∀n:Nat,n < 2 ^ 64→(BitVec.ofInt 64 (n:Int)).toNat=n:=fun n hn=>by
  rw[BitVec.toNat_ofInt];omega
 rw[w1,w2,BitVec.toNat_or,e _ (by omega),e _ (by omega)]
 have h3:v * 256 ||| x=v * 256+x:=by
  have:=Nat.shiftLeft_add_eq_or_of_lt (i:=8) (b:=x) hx v
  rw[Nat.shiftLeft_eq] at this
  exact this.symm
 rw[h3]
 simp only[IntKind.wrap,IntKind.bits,IntKind.signed,Bool.false_and,if_false,Bool.false_eq_true]
 omega
def nxR (k:Int)(b:Bs):G:=.tup [.agg (Ed (if nxE k b=0 then nxF k b else fd0)),gI (if nxE k b=0 then(nxN k b:Int) else 0),gI (nxE k b)]
theorem Zd3 (k:Int)(b:Bs)(hb:b.length≤1000000000):FnV Tryz.prog 88 [gI k,.sl (b.map gBy)] fun g=>g=nxR k b:=by
 refine fnG Tryz.func88 ?_
 refine(Zf4 k).cal fun q hq=>?_
 subst hq
 unfold nxR
 refine df (fun(h:szI k < 0)=>?_) (fun(h:¬szI k < 0)=>?_)
 ·have e:nxE k b=21:=by
   unfold nxE
   rw[db (fun hk=>by unfold szI at h;rw[db hk] at h;omega)]
  rw[e]
  exact rfl
 have hk:1≤k∧k≤4:=Decidable.byContradiction fun hk=>h (by unfold szI;rw[da hk];decide)
 have hz:szI k=szN k:=by unfold szI;rw[db hk]
 rw[hz]
 have hz8:=Z7a k
 refine df (fun h=>?_) (fun h=>?_)
 ·have h:((b.length:Nat):Int) < szN k:=by simpa using h
  have e:nxE k b=20:=by
   unfold nxE
   rw[da (fun h=>h hk),db (by omega)]
  rw[e]
  exact rfl
 have h:¬((b.length:Nat):Int) < szN k:=by simpa using h
 have hbz:=h
 have hlen:∀r∈b.map gBy,r.length=1:=fun r hr=>by
  obtain⟨x,-,rfl⟩:=az.1 hr
  rfl
 refine⟨⟨by omega,by omega,by rw[aa];omega⟩,⟨hlen,?_⟩⟩
 have eS:E6 (b.map gBy) (0:Int).toNat ((szN k:Nat):Int).toNat=(b.take (szN k)).map gBy:=by
  unfold E6;simp[List.map_take]
 rw[eS]
 have hL:(b.take (szN k)).length=szN k:=by rw[au];omega
 refine Ap [0,1,4,5,6,7,8,28,29] [0,1] (fun i:Nat=>[(30,gI i),(9,.v (.int .u64 (D0 ((b.take (szN k)).take i))))]) (fun _=>[]) (fun i=>i≤szN k) (fun i=>szN k - i) 0 (by omega) ⟨⟨rfl,rfl⟩,⟨rfl,rfl⟩,trivial⟩ trivial rfl fun i hi=>?_
 refine df (fun h=>?_) (fun h=>?_)
 ·have h:i < (b.take (szN k)).length:=by simpa using h
  refine dn (by simpa using h) fun x hx=>?_
  refine⟨by decide,⟨by omega,i+1,by omega,(by dsimp only;omega),?_⟩⟩
  refine⟨?_,?_,rfl⟩<;>repeat' (first|exact trivial|with_reducible rfl|exact rfl|refine And.intro ?_ ?_)
  have hlt:D0 ((b.take (szN k)).take i) < 2 ^ 56:=by
   have h1:=Gk ((b.take (szN k)).take i)
   refine ap h1 ?_
   rw[show(2:Nat) ^ 56=256 ^ 7 by decide]
   exact Nat.pow_le_pow_right (by decide) (by rw[au];omega)
  rw[An hx,Lo]
  exact congrArg (fun n=>some (G.v (.int .u64 n))) (Z7d _ _ hlt x.toNat_lt)
 ·have ht:(b.take (szN k)).take i=b.take (szN k):=ao (by simp at h;omega)
  rw[ht]
  have e1:nxE k b=if(k=2∧big < nxV k b)∨(k=4∧1 < nxV k b) then 21 else if k≠3 then 0 else if 1024 < nxV k b then 22 else if b.length < 2+nxV k b then 20 else 0:=by
   unfold nxE
   rw[da (fun h=>h hk),da (by omega)]
  have hv:D0 (b.take (szN k))=nxV k b:=rfl
  rw[hv]
  generalize hvv:nxV k b=v at *
  have hN:nxN k b=if k=3 then 2+v else szN k:=by unfold nxN;rw[hvv]
  have hF:nxF k b=if k=3 then⟨3,0,⟨((b.drop 2).take v).toArray⟩⟩ else⟨k,v,⟨#[]⟩⟩:=by unfold nxF;rw[hvv]
  refine de (fun(k2:k=2)=>?_) (fun(k2:¬k=2)=>?_)
  ·refine df (fun(h:(v:Int) > big)=>?_) (fun(h:¬(v:Int) > big)=>?_)
   ·rw[db (.inl ⟨k2,h⟩)] at e1
    rw[e1]
    exact rfl
   ·rw[da (by rintro(h2 | h2)<;>omega),db (by omega)] at e1
    refine de (fun h4=>dc h4 (show ¬k=4 by omega)) fun _=>?_
    refine di (fun _=>?_) (fun h3=>dc h3 (show ¬k=3 by omega))
    rw[e1,db rfl,db rfl,hN,hF,da (by omega),da (by omega)]
    exact⟨by unfold big at h;omega,rfl⟩
  ·refine de (fun(k4:k=4)=>?_) (fun(k4:¬k=4)=>?_)
   ·refine df (fun(h:(v:Int) > 1)=>?_) (fun(h:¬(v:Int) > 1)=>?_)
    ·rw[db (.inr ⟨k4,by omega⟩)] at e1
     rw[e1]
     exact rfl
    ·rw[da (by rintro(h2 | h2)<;>omega),db (by omega)] at e1
     refine di (fun _=>?_) (fun h3=>dc h3 (show ¬k=3 by omega))
     rw[e1,db rfl,db rfl,hN,hF,da (by omega),da (by omega)]
     exact⟨by omega,rfl⟩
   ·rw[da (by rintro(h2 | h2)<;>omega)] at e1
    have hvl:v < 256 ^ szN k:=by
     have:=Gk (b.take (szN k))
     rw[hL] at this
     rw[←hvv];exact this
    refine di (fun(h3:k≠3)=>?_) (fun(h3:k=3)=>?_)
    ·have k1:k=1:=by omega
     subst k1
     have hvl:v < 256:=hvl
     rw[db (by decide)] at e1
     rw[e1,db rfl,db rfl,hN,hF,da (by decide),da (by decide)]
     exact⟨by omega,rfl⟩
    ·subst h3
     have hvl:v < 65536:=hvl
     rw[da (fun h=>h rfl)] at e1
     refine df (fun(h:(v:Int) > 1024)=>?_) (fun(h:¬(v:Int) > 1024)=>?_)
     ·rw[db (by omega)] at e1
      rw[e1]
      exact rfl
     ·rw[da (by omega)] at e1
      have z2:szN 3=2:=rfl
      rw[z2]
      have hbl:(b.map gBy).length=b.length:=aa _
      rw[z2] at hbz hL
      refine⟨by rw[hbl];omega,⟨by omega,?_⟩⟩
      refine df (fun(h5:(((b.map gBy).length:Nat):Int) - (2:Nat) < v)=>?_) (fun(h5:¬(((b.map gBy).length:Nat):Int) - (2:Nat) < v)=>?_)
      ·rw[hbl] at h5
       rw[db (by omega)] at e1
       rw[e1]
       exact rfl
      ·rw[hbl] at h5
       rw[da (by omega)] at e1
       rw[e1,db rfl,db rfl,hN,hF,db rfl,db rfl]
       refine⟨by omega,⟨by omega,⟨⟨by omega,by omega,by rw[hbl];omega⟩,⟨hlen,EvBytes.mk ⟨(b.drop 2).take v,?_,⟨by omega,⟨by omega,rfl⟩⟩⟩⟩⟩⟩⟩
       unfold E6
       rw[show(((2:Nat):Int)+(v:Int)).toNat=v+2 by omega,show(((2:Nat):Int)).toNat=2 from rfl,←cv,←List.map_drop,List.drop_take]
       rfl
abbrev tFd:Nat:=94
def gNi (k:Int):List G:=[gI k]
theorem L1 (b:Bs)(n:Nat):E6 (b.map gBy) (n:Int).toNat (((b.map gBy).length:Nat):Int).toNat=(b.drop n).map gBy:=by
 unfold E6
 rw[ay,ay,ao (by simp),List.map_drop]
theorem Jm (b:Bs):∀r∈b.map gBy,r.length=1:=fun r hr=>by
 obtain⟨x,-,rfl⟩:=az.1 hr
 rfl
def smG (s:Sm):G:=.tup [.sl (s.l.map Ed),gI s.n,gI s.e]
theorem W4 (ks:List Int)(b:Bs)(hk:ks.length≤1000000)(hb:b.length≤1000000000):FnV Tryz.prog 49 [.sl (ks.map gNi),.sl (b.map gBy)] fun g=>g=smG (Ah ks b):=by
 refine fnG Tryz.func49 ?_
 refine Ap [0,1,5,6,14,15] [0] (fun i:Nat=>[(16,gI i),(8,gI ((Ah (ks.take i) b).n:Int)),(7,.osl 1)]) (fun i=>[(1,.slc ((Ah (ks.take i) b).l.map Ed) tFd 3)]) (fun i=>i≤ks.length∧(Ah (ks.take i) b).e=0) (fun i=>ks.length - i) 0 ⟨by omega,rfl⟩ ⟨⟨rfl,rfl⟩,⟨rfl,rfl⟩,⟨rfl,rfl⟩,trivial⟩ ⟨RL1,trivial⟩ rfl fun i hi=>?_
 obtain⟨hi,h0⟩:=hi
 refine df (fun h=>?_) (fun h=>?_)
 ·refine dn (by simpa using h) fun k hx=>?_
  have hlt:=Bl hx
  have hle:=Cg (ks.take i) b
  refine⟨⟨by omega,by rw[aa];omega,by omega⟩,⟨Jm b,?_⟩⟩
  rw[L1]
  refine(Zd3 k (b.drop (Ah (ks.take i) b).n) (by rw[ba];omega)).cal fun q hq=>?_
  subst hq
  unfold nxR
  refine di (fun he=>?_) (fun he=>?_)
  ·rw[Nv ks b i k hx h0 he]
   exact rfl
  ·have he:nxE k (b.drop (Ah (ks.take i) b).n)=0:=he
   have hs:=Lg (ks.take i) b k h0
   rw[←An hx,da (fun h=>h he)] at hs
   have hl:=hle.2 h0
   rw[au] at hl
   have hn2:=Z7t he
   rw[ba] at hn2
   rw[db he,db he]
   refine⟨by simp;omega,⟨by omega,⟨by omega,i+1,⟨by omega,by rw[hs]⟩,(by dsimp only;omega),?_⟩⟩⟩
   refine⟨?_,?_,rfl⟩<;>repeat' (first|exact trivial|with_reducible rfl|exact rfl|refine And.intro ?_ ?_)
   ·exact eqI (by rw[hs];simp only;omega)
   ·exact eqR (by rw[hs,am];rfl)
 ·have ht:ks.take i=ks:=ao (by simp at h;omega)
  rw[ht] at h0⊢
  unfold smG
  rw[h0]
  exact rfl
theorem Z6a (ks:List Int)(b:Bs)(hk:ks.length≤1000000)(hb:b.length≤1000000000):FnV Tryz.prog 94 [.sl (ks.map gNi),.sl (b.map gBy)] fun g=>g=.tup [.sl ((Jy ks b).l.map Ed),gI (Jy ks b).e]:=by
 refine fnG Tryz.func94 ?_
 refine(W4 ks b hk hb).cal fun q hq=>?_
 subst hq
 unfold smG Jy
 have hle:=(Cg ks b).1
 refine di (fun he=>?_) (fun he=>?_)
 ·rw[db he];exact rfl
 ·have he:(Ah ks b).e=0:=he
  rw[da (fun h=>h he)]
  refine df (fun h=>?_) (fun h=>?_)
  ·have h:(((Ah ks b).n:Nat):Int) < b.length:=by simpa using h
   rw[db (by omega)];exact rfl
  ·have h:¬(((Ah ks b).n:Nat):Int) < b.length:=by simpa using h
   rw[da (by omega),he];exact rfl
def W5 (n:Int)(r:Nat):Bs:=List.replicate (8 - r) 0++(be8 n).drop (8 - r)
theorem Z75 (n:Int)(r:Nat)(hr:r < 8):(W5 n r)[7 - r]?=some 0∧(W5 n r).set (7 - r) (byI (n / (256 ^ r:Nat)))=W5 n (r+1):=by
 match r,hr with
 | 0,_=>exact⟨rfl,by simp[W5,be8,List.replicate]⟩
 | 1,_=>exact⟨rfl,by simp[W5,be8,List.replicate]⟩
 | 2,_=>exact⟨rfl,by simp[W5,be8,List.replicate]⟩
 | 3,_=>exact⟨rfl,by simp[W5,be8,List.replicate]⟩
 | 4,_=>exact⟨rfl,by simp[W5,be8,List.replicate]⟩
 | 5,_=>exact⟨rfl,by simp[W5,be8,List.replicate]⟩
 | 6,_=>exact⟨rfl,by simp[W5,be8,List.replicate]⟩
 | 7,_=>exact⟨rfl,by simp[W5,be8]⟩
def Zb5 (f:RFd):G:=.tup [.sl ((if fdE f=0 then fdB f else []).map gBy),gI (fdE f)]
theorem F2 {f:RFd}{e:Int}(h:fdE f=e)(h0:e≠0):G.tup [.sl [],gI e]=Zb5 f:=by
 unfold Zb5;rw[h,da h0];rfl
theorem Sf {f:RFd}{rows:List (List G)}(h:fdE f=0)(hr:rows=(fdB f).map gBy):G.tup [.sl rows,gI 0]=Zb5 f:=by
 unfold Zb5;rw[h,db rfl,hr]
theorem Zgg (f:RFd):FnV Tryz.prog 87 [.agg (Ed f)] fun g=>g=Zb5 f:=by
 obtain⟨kd,n,s⟩:=f
 refine fnG Tryz.func87 ?_
 refine de (fun(k3:kd=3)=>?_) (fun(k3:¬kd=3)=>?_)
 ·subst k3
  refine di (fun hn=>?_) (fun hn=>?_)
  ·exact F2 (e:=21) (by unfold fdE;rw[db rfl,db hn]) (by decide)
  ·have hn:n=0:=hn
   subst hn
   refine df (fun h=>?_) (fun h=>?_)
   ·have h:((s.size:Nat):Int) > 1024:=h
    exact F2 (e:=22) (by unfold fdE;rw[db rfl,da (fun h=>h rfl),db (by show s.size > 1024;omega)]) (by decide)
   ·have h:¬((s.size:Nat):Int) > 1024:=h
    have he:fdE ⟨3,0,s⟩=0:=by
     unfold fdE
     rw[db rfl,da (fun h=>h rfl),da (by show ¬s.size > 1024;omega)]
    have t1:((s.size:Nat):Int).tdiv 256=((s.size / 256:Nat):Int):=rfl
    have t2:((s.size:Nat):Int).tmod 256=((s.size % 256:Nat):Int):=rfl
    refine⟨by decide,⟨by show _≤((s.size:Nat):Int).tdiv 256∧((s.size:Nat):Int).tdiv 256≤_;rw[t1];omega,⟨by decide,?_⟩⟩⟩
    have hsz:s.data.toList.length=s.size:=by rw[cb];rfl
    refine⟨by rw[aa];show 2+s.data.toList.length≤_;rw[hsz];omega,Sf he ?_⟩
    unfold fdB
    rw[db rfl]
    show [[G.v (.int .u8 (((s.size:Nat):Int).tdiv 256 % 256))],[G.v (.int .u8 (((s.size:Nat):Int).tmod 256 % 256))]]++_=_
    simp only[List.map,Fs]
    rw[t1,t2]
    have a1:((s.size / 256:Nat):Int) % 256=((s.size:Nat):Int) / 256 % 256:=by omega
    have a2:((s.size % 256:Nat):Int) % 256=((s.size:Nat):Int) % 256:=by omega
    rw[a1,a2]
    rfl
 ·refine EvIf.bneS (fun(hs:s≠⟨#[]⟩)=>?_) (fun(hs:s=⟨#[]⟩)=>?_)
  ·exact F2 (e:=21) (by unfold fdE;rw[da k3,db (.inl hs)]) (by decide)
  refine df (fun(hn:n < 0)=>?_) (fun(hn:¬n < 0)=>?_)
  ·exact F2 (e:=21) (by unfold fdE;rw[da k3,db (.inr hn)]) (by decide)
  have hng:¬(s≠⟨#[]⟩∨n < 0):=fun h=>h.elim (fun h=>h hs) hn
  have end1:∀{k:Int} {m:Int},0≤n→n≤m→(k=1∧m=255∨k=4∧m=1)→kd=k→G.tup [.sl [[.v (.int .u8 (IntKind.u8.wrap n))]],gI 0]=Zb5 ⟨kd,n,s⟩:=fun {k m} h0 h1 h2 e=>by
   refine Sf ?_ ?_
   ·unfold fdE
    rw[da k3,da hng]
    show(if kd=1∧n≤255 then(0:Int) else if kd=4∧n≤1 then 0 else if kd=2∧n≤big then 0 else 21)=0
    by_cases hk:kd=1∧n≤255
    ·rw[db hk]
    ·rw[da hk]
     rw[db (by omega)]
   ·unfold fdB
    rw[da k3,da (by show ¬kd=2;omega)]
    simp only[List.map,Fs,Nr]
  have n0:0≤n:=by omega
  have m1:∀h:kd=1,¬n≤255→fdE ⟨kd,n,s⟩=21:=fun h hn=>by
   unfold fdE
   rw[da k3,da hng]
   show(if kd=1∧n≤255 then(0:Int) else if kd=4∧n≤1 then 0 else if kd=2∧n≤big then 0 else 21)=21
   rw[da (by omega),da (by omega),da (by omega)]
  have m2:¬(kd=1∧n≤255)→¬(kd=4∧n≤1)→¬(kd=2∧n≤big)→fdE ⟨kd,n,s⟩=21:=fun h1 h2 h3=>by
   unfold fdE
   rw[da k3,da hng,da h1,da h2,da h3]
  refine de (fun(k1:kd=1)=>?_) (fun(k1:¬kd=1)=>?_)
  ·refine df (fun(h:n≤255)=>?_) (fun(h:¬n≤255)=>?_)
   ·exact end1 n0 h (.inl ⟨rfl,rfl⟩) k1
   ·refine de (fun h4=>dc h4 (show ¬kd=4 by omega)) fun _=>?_
    refine de (fun h4=>dc h4 (show ¬kd=2 by omega)) fun _=>?_
    exact F2 (m2 (by omega) (by omega) (by omega)) (by decide)
  refine de (fun(k4:kd=4)=>?_) (fun(k4:¬kd=4)=>?_)
  ·refine df (fun(h:n≤1)=>?_) (fun(h:¬n≤1)=>?_)
   ·exact end1 n0 h (.inr ⟨rfl,rfl⟩) k4
   ·refine de (fun h4=>dc h4 (show ¬kd=2 by omega)) fun _=>?_
    exact F2 (m2 (by omega) (by omega) (by omega)) (by decide)
  refine de (fun(k2:kd=2)=>?_) (fun(k2:¬kd=2)=>?_)
  ·refine df (fun(hnb:n≤big)=>?_) (fun(h:¬n≤big)=>?_)
   ·have he:fdE ⟨kd,n,s⟩=0:=by
     unfold fdE
     rw[da k3,da hng,da (fun h=>k1 h.1),da (fun h=>k4 h.1),db ⟨k2,hnb⟩]
    refine⟨by decide,?_⟩
    refine Ap [1,2,3] [0,1] (fun r:Nat=>[(6,gI (7 - r)),(5,gI (n / (256 ^ r:Nat))),(4,.osl 2)]) (fun r=>[(2,.slc ((W5 n r).map gBy) tU8 1)]) (fun r=>r≤8) (fun r=>8 - r) 0 (by omega) ⟨⟨rfl,rfl⟩,⟨rfl,eqI (by simp)⟩,⟨rfl,rfl⟩,trivial⟩ ⟨RL1,trivial⟩ rfl fun r hr=>?_
    refine df (fun(h:(7:Int) - r ≥ 0)=>?_) (fun(h:¬(7:Int) - r ≥ 0)=>?_)
    ·have hlen:((W5 n r).map gBy).length=8:=by rw[aa];unfold W5 be8;simp<;>omega
     refine⟨by decide,⟨⟨by omega,by rw[hlen];omega⟩,?_⟩⟩
     obtain⟨g1,g2⟩:=Z75 n r (by omega)
     have g3:((7:Int) - r).toNat=7 - r:=by omega
     refine dm (f:=gBy) (x:=0) (y:=byI (n / (256 ^ r:Nat))) (by rw[g3]<;>exact g1) (fun k hk=>?_) (by rw[g3]<;>exact g2) ?_
     ·have e:gBy (byI (n / (256 ^ r:Nat)))=[.v (.int .u8 ((n / (256 ^ r:Nat)).tmod 256 % 256))]:=by
       rw[Fs,Int.tmod_eq_emod_of_nonneg (Int.ediv_nonneg n0 (by exact bj _)),Int.emod_emod]
      rw[e] at hk
      exact hk
     ·have hq:(n / (256 ^ r:Nat)).tdiv 256=n / (256 ^ (r+1):Nat):=by
       rw[Int.tdiv_eq_ediv_of_nonneg (Int.ediv_nonneg n0 (by exact bj _)),Nat.pow_succ,Int.natCast_mul,Int.ediv_ediv_of_nonneg (by exact bj _)]
       rfl
      have hq2:n / (256 ^ (r+1):Nat)≤n:=Int.ediv_le_self _ n0
      have hq3:0≤n / (256 ^ (r+1):Nat):=Int.ediv_nonneg n0 (by exact bj _)
      refine⟨by decide,⟨by rw[hq];unfold big at hnb;omega,⟨by omega,r+1,by omega,(by dsimp only;omega),?_⟩⟩⟩
      refine⟨?_,?_,rfl⟩<;>repeat' (first|exact trivial|with_reducible rfl|exact rfl|refine And.intro ?_ ?_)
      ·exact eqI (by omega)
      ·exact eqI hq
      ·exact eqR (by rw[g2])
    ·have:r=8:=by omega
     subst this
     exact Sf he (by unfold fdB;rw[da k3,db k2];rfl)
   ·exact F2 (m2 (by omega) (by omega) (by omega)) (by decide)
  exact F2 (m2 (by omega) (by omega) (by omega)) (by decide)
theorem Z6f (l:List RFd)(hl:l.length≤800000):FnV Tryz.prog 48 [.sl (l.map Ed)] fun g=>g=.tup [.sl ((Q4 l).map gBy),gI (M7 l)]:=by
 refine fnG Tryz.func48 ?_
 refine Ap [0,2,3] [0] (fun x:Nat=>[(5,gI x),(4,.osl 1)]) (fun x=>[(1,.slc ((Hv (l.take x)).map gBy) tU8 1)]) (fun x=>x≤l.length∧∀y∈l.take x,fdE y=0) (fun x=>l.length - x) 0 ⟨by omega,by simp⟩ ⟨⟨rfl,rfl⟩,⟨rfl,rfl⟩,trivial⟩ ⟨RL1,trivial⟩ rfl fun i hi=>?_
 obtain⟨hi,hz⟩:=hi
 refine df (fun h=>?_) (fun h=>?_)
 ·refine dn (by simpa using h) fun x hx=>?_
  have hlt:=Bl hx
  have hB:=L4 hz
  have hT:(l.take i).length≤800000:=by rw[au];omega
  refine(Zgg x).cal fun q hq=>?_
  subst hq
  unfold Zb5
  refine di (fun(he:fdE x≠0)=>?_) (fun(he:fdE x=0)=>?_)
  ·have e1:=Yv hx hz he
   unfold Q4
   rw[e1,da he,da he]
   exact rfl
  ·rw[db he]
   have hB1:=Z16 he
   refine⟨fun r hr=>by obtain⟨c,-,rfl⟩:=az.1 hr;exact⟨rfl,rfl⟩,⟨by simp;omega,⟨by omega,i+1,⟨by omega,fun y hy=>?_⟩,(by dsimp only;omega),?_⟩⟩⟩
   ·rw[An hx] at hy
    rcases br.1 hy with hy | hy
    ·exact hz y hy
    ·rw[bm.1 hy];exact he
   refine⟨?_,?_,rfl⟩<;>repeat' (first|exact trivial|with_reducible rfl|exact rfl|refine And.intro ?_ ?_)
   exact eqR (by rw[An hx,Re,am])
 ·have ht:l.take i=l:=ao (by simp at h;omega)
  rw[ht] at hz⊢
  have e1:=J1 hz
  unfold Q4
  rw[e1,db rfl]
  exact rfl
theorem Zan (v x:Nat)(hv:v * 256+x < 2 ^ 64)(hx:x < 256):IntKind.wrap .u64 (IntKind.wrap .u64 ((v:Int) * 256)+IntKind.wrap .u64 (x:Int))=((v * 256+x:Nat):Int):=by
 simp only[IntKind.wrap,IntKind.bits,IntKind.signed,Bool.false_and,if_false,Bool.false_eq_true]
 omega
theorem Z5t (b:Bs)(hb:b.length≤8):FnV Tryz.prog 89 [.sl (b.map gBy)] fun g=>g=.v (.int .u64 (D0 b)):=by
 refine fnG Tryz.func89 ?_
 refine Ap [0] [] (fun i:Nat=>[(4,gI i),(3,.v (.int .u64 (D0 (b.take i))))]) (fun _=>[]) (fun i=>i≤b.length) (fun i=>b.length - i) 0 (by omega) ⟨⟨rfl,rfl⟩,⟨rfl,rfl⟩,trivial⟩ trivial rfl fun i hi=>?_
 refine df (fun h=>?_) (fun h=>?_)
 ·refine dn (by simpa using h) fun x hx=>?_
  have hlt:=Bl hx
  refine⟨by omega,i+1,by omega,(by dsimp only;omega),?_⟩
  refine⟨?_,?_,rfl⟩<;>repeat' (first|exact trivial|with_reducible rfl|exact rfl|refine And.intro ?_ ?_)
  have hlt2:D0 (b.take (i+1)) < 2 ^ 64:=by
   refine ap (Gk _) ?_
   rw[show(2:Nat) ^ 64=256 ^ 8 by decide]
   exact Nat.pow_le_pow_right (by decide) (by rw[au];omega)
  rw[An hx,Lo] at hlt2⊢
  exact congrArg (fun n=>some (G.v (.int .u64 n))) (Zan _ _ hlt2 x.toNat_lt)
 ·have ht:b.take i=b:=ao (by simp at h;omega)
  rw[ht]
  exact rfl
theorem Za2 (b:Bs)(n m:Nat):E6 (b.map gBy) (n:Int).toNat ((n:Int)+(m:Int)).toNat=((b.drop n).take m).map gBy:=by
 unfold E6
 rw[show((n:Int)+(m:Int)).toNat=n+m by omega,ay,cv,List.map_drop,List.drop_take]
 congr 1;omega
set_option maxHeartbeats 1000000 in
theorem Z7r (ks:List Int)(b:Bs)(hk:ks.length≤1000000)(hb:b.length≤1000000000):FnV Tryz.prog 50 [.sl (ks.map gNi),.sl (b.map gBy)] fun g=>g=smG (Ah ks b):=by
 refine fnG Tryz.func50 ?_
 refine Ap [0,1,5,6] [0] (fun i:Nat=>[(9,gI i),(8,gI ((Ah (ks.take i) b).n:Int)),(7,.osl 1)]) (fun i=>[(1,.slc ((Ah (ks.take i) b).l.map Ed) tFd 3)]) (fun i=>i≤ks.length∧(Ah (ks.take i) b).e=0) (fun i=>ks.length - i) 0 ⟨by omega,rfl⟩ ⟨⟨rfl,rfl⟩,⟨rfl,rfl⟩,⟨rfl,rfl⟩,trivial⟩ ⟨RL1,trivial⟩ rfl fun i hi=>?_
 obtain⟨hi,h0⟩:=hi
 refine df (fun h=>?_) (fun h=>?_)
 ·refine dn (by simpa using h) fun k hx=>?_
  have hlt:=Bl hx
  have hle:=Cg (ks.take i) b
  have hE:=Nv ks b i k hx h0
  have hs:=Lg (ks.take i) b k h0
  rw[←An hx] at hs
  have hl:=hle.2 h0
  rw[au] at hl
  have bad:∀e:Int,e≠0→nxE k (b.drop (Ah (ks.take i) b).n)=e→smG ⟨e,[],0⟩=smG (Ah ks b):=fun e h1 h2=>by
   rw[hE (by rw[h2];exact h1),h2]
  generalize (Ah (ks.take i) b).n=at_ at *
  generalize hd:b.drop at_=d at *
  refine df (fun(h1:k < 1)=>?_) (fun(h1:¬k < 1)=>?_)
  ·exact bad 21 (by decide) (by unfold nxE;rw[db (by omega)])
  refine df (fun(h2:k > 4)=>?_) (fun(h2:¬k > 4)=>?_)
  ·exact bad 21 (by decide) (by unfold nxE;rw[db (by omega)])
  refine⟨⟨by omega,by show k < 5;omega⟩,?_⟩
  have hrow:∀row:List G,[[G.v (.int .i64 0)],[.v (.int .i64 1)],[.v (.int .i64 8)],[.v (.int .i64 2)],[.v (.int .i64 1)]][((k.toNat:Nat):Int).toNat]?=some row→row=[gI (szN k)]:=fun row h=>by
   have hk4:k=1∨k=2∨k=3∨k=4:=by omega
   rcases hk4 with e | e | e | e<;>(rw[e] at h⊢;exact(cg h).symm)
  have hk14:1≤k∧k≤4:=by omega
  have hz8:=Z7a k
  have hdl:d.length=b.length - at_:=by rw[←hd,ba]
  refine EvIdx.mk ⟨by omega,by show((k.toNat:Nat):Int) < 5;omega⟩ fun row hr=>?_
  obtain rfl:=hrow row hr
  refine⟨by omega,?_⟩
  refine df (fun(h3:(at_:Int)+szN k > (b.map gBy).length)=>?_) (fun(h3:¬(at_:Int)+szN k > (b.map gBy).length)=>?_)
  ·rw[aa] at h3
   exact bad 20 (by decide) (by unfold nxE;rw[da (fun h=>h hk14),db (by omega)])
  rw[aa] at h3
  refine⟨by omega,⟨⟨by omega,by omega,by rw[aa];omega⟩,⟨Jm b,?_⟩⟩⟩
  rw[Za2,hd]
  refine(Z5t (d.take (szN k)) (by rw[au];omega)).cal fun q hq=>?_
  subst hq
  have hvl:nxV k d < 256 ^ szN k:=by
   have:=Gk (d.take (szN k))
   rw[au,ce (by omega)] at this
   exact this
  have hN:nxN k d=if k=3 then 2+nxV k d else szN k:=rfl
  have hF:nxF k d=if k=3 then⟨3,0,⟨((d.drop 2).take (nxV k d)).toArray⟩⟩ else⟨k,nxV k d,⟨#[]⟩⟩:=rfl
  have e1:nxE k d=if(k=2∧big < nxV k d)∨(k=4∧1 < nxV k d) then 21 else if k≠3 then 0 else if 1024 < nxV k d then 22 else if d.length < 2+nxV k d then 20 else 0:=by
   unfold nxE
   rw[da (fun h=>h hk14),da (by omega)]
  have hv:D0 (d.take (szN k))=nxV k d:=rfl
  rw[hv]
  generalize nxV k d=v at *
  refine⟨by omega,?_⟩
  refine de (fun(k2:k=2)=>?_) (fun(k2:¬k=2)=>?_)
  ·refine df (fun(h:(v:Int) > big)=>?_) (fun(h:¬(v:Int) > big)=>?_)
   ·rw[db (.inl ⟨k2,h⟩)] at e1
    exact bad 21 (by decide) e1
   ·rw[da (by rintro(h2 | h2)<;>omega),db (by omega)] at e1
    refine de (fun h4=>dc h4 (show ¬k=4 by omega)) fun _=>?_
    refine di (fun _=>?_) (fun h3=>dc h3 (show ¬k=3 by omega))
    rw[da (fun h=>h e1),hN,hF,da (by omega),da (by omega)] at hs
    refine⟨by unfold big at h;omega,⟨by simp;omega,⟨by omega,i+1,⟨by omega,by rw[hs]⟩,(by dsimp only;omega),?_⟩⟩⟩
    refine⟨?_,?_,rfl⟩<;>repeat' (first|exact trivial|with_reducible rfl|exact rfl|refine And.intro ?_ ?_)
    ·exact eqI (by rw[hs];simp only;omega)
    ·exact eqR (by rw[hs,am];rfl)
  ·refine de (fun(k4:k=4)=>?_) (fun(k4:¬k=4)=>?_)
   ·refine df (fun(h:(v:Int) > 1)=>?_) (fun(h:¬(v:Int) > 1)=>?_)
    ·rw[db (.inr ⟨k4,by omega⟩)] at e1
     exact bad 21 (by decide) e1
    ·rw[da (by rintro(h2 | h2)<;>omega),db (by omega)] at e1
     refine di (fun _=>?_) (fun h3=>dc h3 (show ¬k=3 by omega))
     rw[da (fun h=>h e1),hN,hF,da (by omega),da (by omega)] at hs
     refine⟨by omega,⟨by simp;omega,⟨by omega,i+1,⟨by omega,by rw[hs]⟩,(by dsimp only;omega),?_⟩⟩⟩
     refine⟨?_,?_,rfl⟩<;>repeat' (first|exact trivial|with_reducible rfl|exact rfl|refine And.intro ?_ ?_)
     ·exact eqI (by rw[hs];simp only;omega)
     ·exact eqR (by rw[hs,am];rfl)
   ·rw[da (by rintro(h2 | h2)<;>omega)] at e1
    refine di (fun(k3:k≠3)=>?_) (fun(k3:k=3)=>?_)
    ·have k1:k=1:=by omega
     subst k1
     have hvl:v < 256:=hvl
     rw[db (by decide)] at e1
     rw[da (fun h=>h e1),hN,hF,da (by decide),da (by decide)] at hs
     refine⟨by omega,⟨by simp;omega,⟨by omega,i+1,⟨by omega,by rw[hs]⟩,(by dsimp only;omega),?_⟩⟩⟩
     refine⟨?_,?_,rfl⟩<;>repeat' (first|exact trivial|with_reducible rfl|exact rfl|refine And.intro ?_ ?_)
     ·exact eqI (by rw[hs];simp only;omega)
     ·exact eqR (by rw[hs,am];rfl)
    ·subst k3
     have hvl:v < 65536:=hvl
     have z2:szN 3=2:=rfl
     rw[z2] at h3 hz8⊢
     rw[da (fun h=>h rfl)] at e1
     refine df (fun(h:(v:Int) > 1024)=>?_) (fun(h:¬(v:Int) > 1024)=>?_)
     ·rw[db (by omega)] at e1
      exact bad 22 (by decide) e1
     ·rw[da (by omega)] at e1
      refine⟨by omega,⟨by omega,?_⟩⟩
      refine df (fun(h5:(at_:Int)+(2:Nat)+v > (b.map gBy).length)=>?_) (fun(h5:¬(at_:Int)+(2:Nat)+v > (b.map gBy).length)=>?_)
      ·rw[aa] at h5
       rw[db (by omega)] at e1
       exact bad 20 (by decide) e1
      ·rw[aa] at h5
       rw[da (by omega)] at e1
       rw[da (fun h=>h e1),hN,hF,db rfl,db rfl] at hs
       refine⟨by omega,⟨by omega,⟨⟨by omega,by omega,by rw[aa];omega⟩,⟨Jm b,EvBytes.mk ⟨(d.drop 2).take v,?_,?_⟩⟩⟩⟩⟩
       ·unfold E6
        rw[show((at_:Int)+(2:Nat)+(v:Int)).toNat=at_+2+v by omega,show((at_:Int)+(2:Nat)).toNat=at_+2 by omega,←hd,List.drop_drop,cv,List.map_drop,List.drop_take]
        congr 1
        omega
       ·refine⟨by simp;omega,⟨by omega,⟨by omega,⟨by omega,i+1,⟨by omega,by rw[hs]⟩,(by dsimp only;omega),?_⟩⟩⟩⟩
        refine⟨?_,?_,rfl⟩<;>repeat' (first|exact trivial|with_reducible rfl|exact rfl|refine And.intro ?_ ?_)
        ·exact eqI (by rw[hs];simp only;omega)
        ·exact eqR (by rw[hs,am];rfl)
 ·have ht:ks.take i=ks:=ao (by simp at h;omega)
  rw[ht] at h0⊢
  unfold smG
  rw[h0]
  exact rfl
theorem Z45 (ks:List Int)(b:Bs)(hk:ks.length≤1000000)(hb:b.length≤1000000000):FnV Tryz.prog 51 [.sl (ks.map gNi),.sl (b.map gBy)] fun g=>g=.tup [.sl ((Jy ks b).l.map Ed),gI (Jy ks b).e]:=by
 refine fnG Tryz.func51 ?_
 refine(Z7r ks b hk hb).cal fun q hq=>?_
 subst hq
 unfold smG Jy
 refine di (fun he=>?_) (fun he=>?_)
 ·rw[db he];exact rfl
 ·have he:(Ah ks b).e=0:=he
  rw[da (fun h=>h he)]
  have hL:(b.map gBy).length=b.length:=aa _
  refine di (fun h=>?_) (fun h=>?_)
  ·have h:(((Ah ks b).n:Nat):Int)≠(b.map gBy).length:=h
   rw[hL] at h
   rw[db (by omega)];exact rfl
  ·have h:(((Ah ks b).n:Nat):Int)=(b.map gBy).length:=h
   rw[hL] at h
   rw[da (by omega),he];exact rfl
end Go.Proofs.YtihfaocdpmmooaaGreat

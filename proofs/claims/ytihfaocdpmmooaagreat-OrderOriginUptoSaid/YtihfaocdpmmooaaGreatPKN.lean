
import Derived.Test.YtihfaocdpmmooaaGreatPKM
import Derived.Test.YtihfaocdpmmooaaGreatFn1
import Derived.Test.YtihfaocdpmmooaaGreatSxMc
import Derived.Test.YtihfaocdpmmooaaGreatZM1
namespace Go.Proofs.YtihfaocdpmmooaaGreat
open Go.RowKit
set_option maxRecDepth 100000
abbrev tU8:Nat:=5
def I6 (f:RFd):List G:=[gI f.kind,gI f.n,gS f.s]
theorem Ju (n:Int):gBy (byI n)=[.v (.int .u8 (n % 256))]:=by unfold gBy;rw[C9]
theorem Zfk (a b:Bs)(ha:a.length+b.length≤1000000000):FnO Tryz.prog 123 [.osl 0,.osl 1] [.slc (a.map gBy) tU8 1,.slc (b.map gBy) tU8 1] fun g rs=>g=.osl 2∧rs=[.gone,.gone,.slc ((a++b).map gBy) tU8 1]:=by
 refine Bd Tryz.func123 (by kernel_rfl) rfl (Nat.le_of_ble_eq_true (by kernel_rfl)) (by kernel_rfl) (C1 _ _) ?_
 refine⟨by simp;omega,?_⟩
 refine .inr ⟨1,_,itL [(0,.gone),(1,.gone),(3,.slc ((a++b).map gBy) tU8 1)],.osl 2,rfl,⟨⟨⟨_,rfl,rfl,rfl⟩,⟨_,rfl,rfl,rfl⟩,⟨_,rfl,?_,rfl⟩,trivial⟩,rfl,⟨_,rfl⟩,rfl,rfl,⟨rfl,rfl⟩⟩⟩
 exact eqR (by rw[List.map_append])
theorem Zdg (a:Bs)(b:Bs)(ha:a.length+b.length≤1000000000):FnO Tryz.prog 123 [.osl 0,.sl (b.map gBy)] [.slc (a.map gBy) tU8 1] fun g rs=>g=.osl 1∧rs=[.gone,.slc ((a++b).map gBy) tU8 1]:=by
 refine Bd Tryz.func123 (by kernel_rfl) rfl (Nat.le_of_ble_eq_true (by kernel_rfl)) (by kernel_rfl) (C1 _ _) ?_
 refine⟨fun r hr=>by obtain⟨c,-,rfl⟩:=List.mem_map.1 hr;exact⟨rfl,rfl⟩,⟨by simp;omega,?_⟩⟩
 refine .inl ⟨itL [(0,.gone),(2,.slc ((a++b).map gBy) tU8 1)],.osl 1,⟨⟨⟨_,rfl,rfl,rfl⟩,⟨_,rfl,?_,rfl⟩,trivial⟩,rfl,⟨_,rfl⟩,rfl,rfl,⟨rfl,rfl⟩⟩⟩
 exact eqR (by rw[List.map_append])
theorem Z9g (a b:Bs){rows:List (List G)}(hr:rows=b.map gBy)(ha:a.length+b.length≤1000000000):FnO Tryz.prog 123 [.osl 0,.osl 1] [.slc (a.map gBy) tU8 1,.slc rows tU8 1] fun g rs=>g=.osl 2∧rs=[.gone,.gone,.slc ((a++b).map gBy) tU8 1]:=by
 subst hr;exact Zfk a b ha
theorem Mv (a b:Bs){rows:List (List G)}(hr:rows=b.map gBy)(ha:a.length+b.length≤1000000000):FnO Tryz.prog 123 [.osl 0,.sl rows] [.slc (a.map gBy) tU8 1] fun g rs=>g=.osl 1∧rs=[.gone,.slc ((a++b).map gBy) tU8 1]:=by
 subst hr;exact Zdg a b ha
theorem Es (n m:Int)(j k:Nat)(hj:min j 64=k)(hm:(2:Int) ^ k=m)(h0:0≤m):n.fdiv (2 ^ min j 64)=n / m:=by
 rw[hj,hm];exact Int.fdiv_eq_ediv_of_nonneg _ h0
def FdP (b:Bs)(f:RFd)(g:G)(rs:List R):Prop:=g=.tup [.osl 1,gI (fdE f)]∧rs=[.gone,.slc ((if fdE f=0 then b++fdB f else []).map gBy) tU8 1]
theorem FdP.bad {b:Bs}{f:RFd}{e:Int}(h:fdE f=e)(h0:e≠0):FdP b f (.tup [.osl 1,gI e]) [.gone,.slc [] tU8 1]:=by
 unfold FdP;rw[h,if_neg h0];exact⟨rfl,rfl⟩
theorem FdP.ok {b x:Bs}{f:RFd}(h:fdE f=0)(hx:fdB f=x):FdP b f (.tup [.osl 1,gI 0]) [.gone,.slc ((b++x).map gBy) tU8 1]:=by
 unfold FdP;rw[h,if_pos rfl,hx];exact⟨rfl,rfl⟩
theorem S5 (n:Int):IntKind.u8.wrap n=n % 256:=by
 simp[IntKind.wrap,IntKind.bits,IntKind.signed]
theorem Z21 (n:Nat):[[G.v (.int .u8 (IntKind.u8.wrap (((n:Nat):Int).fdiv (2 ^ min (8:Int).toNat 64))))],[G.v (.int .u8 (IntKind.u8.wrap ((n:Nat):Int)))]]=[[G.v (.int .u8 ((((n:Nat):Int) / 256) % 256))],[G.v (.int .u8 (((n:Nat):Int) % 256))]]:=by
 rw[S5,S5,Es n 256 _ 8 rfl (by decide) (by decide)]
theorem Z4m (n:Int):[[G.v (.int .u8 (IntKind.u8.wrap (n.fdiv (2 ^ min (56:Int).toNat 64))))],[G.v (.int .u8 (IntKind.u8.wrap (n.fdiv (2 ^ min (48:Int).toNat 64))))],[G.v (.int .u8 (IntKind.u8.wrap (n.fdiv (2 ^ min (40:Int).toNat 64))))],[G.v (.int .u8 (IntKind.u8.wrap (n.fdiv (2 ^ min (32:Int).toNat 64))))],[G.v (.int .u8 (IntKind.u8.wrap (n.fdiv (2 ^ min (24:Int).toNat 64))))],[G.v (.int .u8 (IntKind.u8.wrap (n.fdiv (2 ^ min (16:Int).toNat 64))))],[G.v (.int .u8 (IntKind.u8.wrap (n.fdiv (2 ^ min (8:Int).toNat 64))))],[G.v (.int .u8 (IntKind.u8.wrap n))]]=[[G.v (.int .u8 (n / 72057594037927936 % 256))],[G.v (.int .u8 (n / 281474976710656 % 256))],[G.v (.int .u8 (n / 1099511627776 % 256))],[G.v (.int .u8 (n / 4294967296 % 256))],[G.v (.int .u8 (n / 16777216 % 256))],[G.v (.int .u8 (n / 65536 % 256))],[G.v (.int .u8 (n / 256 % 256))],[G.v (.int .u8 (n % 256))]]:=by
 simp only[S5]
 rw[Es n 72057594037927936 _ 56 rfl (by decide) (by decide),Es n 281474976710656 _ 48 rfl (by decide) (by decide),Es n 1099511627776 _ 40 rfl (by decide) (by decide),Es n 4294967296 _ 32 rfl (by decide) (by decide),Es n 16777216 _ 24 rfl (by decide) (by decide),Es n 65536 _ 16 rfl (by decide) (by decide),Es n 256 _ 8 rfl (by decide) (by decide)]
set_option maxHeartbeats 2000000 in
theorem Zba (b:Bs)(f:RFd)(hb:b.length≤900000000):FnO Tryz.prog 85 [.osl 0,.agg (I6 f)] [.slc (b.map gBy) tU8 1] (FdP b f):=by
 obtain⟨kd,n,s⟩:=f
 refine Bd Tryz.func85 (by kernel_rfl) rfl (Nat.le_of_ble_eq_true (by kernel_rfl)) (by kernel_rfl) (C1 _ _) ?_
 refine EvIf.beq (fun(k3:kd=3)=>?_) (fun(k3:¬kd=3)=>?_)
 ·subst k3
  refine EvIf.bne (fun hn=>?_) (fun hn=>?_)
  ·refine .inr ⟨0,_,itL [(0,.gone),(3,.slc [] tU8 1)],.tup [.osl 1,gI 21],rfl,⟨⟨⟨_,rfl,rfl,rfl⟩,⟨_,rfl,rfl,rfl⟩,trivial⟩,rfl,⟨_,rfl⟩,rfl,rfl,.bad (e:=21) ?_ (by decide)⟩⟩
   unfold fdE
   rw[if_pos rfl,if_pos hn]
  ·have hn:n=0:=hn
   subst hn
   refine EvIf.bne (fun h=>absurd rfl h) fun _=>?_
   refine EvIf.dec (fun h=>absurd h (show ¬(0:Int) < 0 by decide)) fun _=>?_
   refine EvIf.beq (fun h=>absurd h (show ¬(3:Int)=1 by decide)) fun _=>?_
   refine EvIf.beq (fun h=>absurd h (show ¬(3:Int)=4 by decide)) fun _=>?_
   refine EvIf.beq (fun h=>absurd h (show ¬(3:Int)=2 by decide)) fun _=>?_
   refine EvIf.beq (fun _=>?_) fun h=>absurd rfl h
   refine EvIf.dec (fun h=>?_) fun h=>?_
   ·refine .inr ⟨0,_,itL [(0,.gone),(3,.slc [] tU8 1)],.tup [.osl 1,gI 22],rfl,⟨⟨⟨_,rfl,rfl,rfl⟩,⟨_,rfl,rfl,rfl⟩,trivial⟩,rfl,⟨_,rfl⟩,rfl,rfl,.bad (e:=22) ?_ (by decide)⟩⟩
    have h:((s.size:Nat):Int) > 1024:=h
    unfold fdE
    rw[if_pos rfl,if_neg (fun h=>h rfl),if_pos (by show s.size > 1024;omega)]
   ·refine⟨by decide,?_⟩
    have h:¬((s.size:Nat):Int) > 1024:=h
    have he:fdE ⟨3,0,s⟩=0:=by
     unfold fdE
     rw[if_pos rfl,if_neg (fun h=>h rfl),if_neg (by show ¬s.size > 1024;omega)]
    have hl2:(b++[byI ((s.size:Int) / 256),byI s.size]).length+s.data.toList.length≤1000000000:=by
     have:s.data.toList.length=s.size:=by rw[Array.length_toList];rfl
     simp only[List.length_append,List.length_cons,List.length_nil,this]
     omega
    have eB:fdB ⟨3,0,s⟩=[byI ((s.size:Int) / 256),byI s.size]++s.data.toList:=by unfold fdB;rw[if_pos rfl];rfl
    refine⟨?_,?_⟩
    ·refine⟨?_,?_⟩
     ·refine EvCall.lend ((Mv b [byI ((s.size:Int) / 256),byI s.size] ?hr (by simp;omega)).cal fun q rs hq=>?_)
      case hr =>
       simp only[List.map,Ju]
       exact Z21 s.size
      obtain⟨rfl,rfl⟩:=hq
      refine EvCall.lend ((Mv (b++[byI ((s.size:Int) / 256),byI s.size]) s.data.toList rfl hl2).cal fun q rs hq=>?_)
      obtain⟨rfl,rfl⟩:=hq
      refine .inl ⟨itL [(0,.gone),(5,.slc ((b++fdB ⟨3,0,s⟩).map gBy) tU8 1)],.tup [.osl 1,gI 0],⟨⟨⟨_,rfl,rfl,rfl⟩,⟨_,rfl,?_,rfl⟩,trivial⟩,rfl,⟨_,rfl⟩,rfl,rfl,.ok he rfl⟩⟩
      exact eqR (by rw[eB,←List.append_assoc])
     ·refine EvCall.lend ((Mv b [byI ((s.size:Int) / 256),byI s.size] ?hr (by simp;omega)).cal fun q rs hq=>?_)
      case hr =>
       simp only[List.map,Ju]
       exact Z21 s.size
      obtain⟨rfl,rfl⟩:=hq
      refine EvCall.lend ((Mv (b++[byI ((s.size:Int) / 256),byI s.size]) s.data.toList rfl hl2).cal fun q rs hq=>?_)
      obtain⟨rfl,rfl⟩:=hq
      refine .inl ⟨itL [(0,.gone),(5,.slc ((b++fdB ⟨3,0,s⟩).map gBy) tU8 1)],.tup [.osl 1,gI 0],⟨⟨⟨_,rfl,rfl,rfl⟩,⟨_,rfl,?_,rfl⟩,trivial⟩,rfl,⟨_,rfl⟩,rfl,rfl,.ok he rfl⟩⟩
      exact eqR (by rw[eB,←List.append_assoc])
    ·refine EvCall.lend ((Mv b [byI ((s.size:Int) / 256),byI s.size] ?hr (by simp;omega)).cal fun q rs hq=>?_)
     case hr =>
      simp only[List.map,Ju]
      exact Z21 s.size
     obtain⟨rfl,rfl⟩:=hq
     refine EvCall.lend ((Mv (b++[byI ((s.size:Int) / 256),byI s.size]) s.data.toList rfl hl2).cal fun q rs hq=>?_)
     obtain⟨rfl,rfl⟩:=hq
     refine .inl ⟨itL [(0,.gone),(5,.slc ((b++fdB ⟨3,0,s⟩).map gBy) tU8 1)],.tup [.osl 1,gI 0],⟨⟨⟨_,rfl,rfl,rfl⟩,⟨_,rfl,?_,rfl⟩,trivial⟩,rfl,⟨_,rfl⟩,rfl,rfl,.ok he rfl⟩⟩
     exact eqR (by rw[eB,←List.append_assoc])
 ·refine EvIf.bne (fun _=>?_) (fun h=>absurd h k3)
  refine EvIf.bneS (fun(hs:s≠⟨#[]⟩)=>?_) (fun(hs:s=⟨#[]⟩)=>?_)
  ·refine .inr ⟨0,_,itL [(0,.gone),(3,.slc [] tU8 1)],.tup [.osl 1,gI 21],rfl,⟨⟨⟨_,rfl,rfl,rfl⟩,⟨_,rfl,rfl,rfl⟩,trivial⟩,rfl,⟨_,rfl⟩,rfl,rfl,.bad (e:=21) (by unfold fdE;rw[if_neg k3,if_pos (.inl hs)]) (by decide)⟩⟩
  refine EvIf.dec (fun(hn:n < 0)=>?_) (fun(hn:¬n < 0)=>?_)
  ·refine .inr ⟨0,_,itL [(0,.gone),(3,.slc [] tU8 1)],.tup [.osl 1,gI 21],rfl,⟨⟨⟨_,rfl,rfl,rfl⟩,⟨_,rfl,rfl,rfl⟩,trivial⟩,rfl,⟨_,rfl⟩,rfl,rfl,.bad (e:=21) (by unfold fdE;rw[if_neg k3,if_pos (.inr hn)]) (by decide)⟩⟩
  have hng:¬(s≠⟨#[]⟩∨n < 0):=fun h=>h.elim (fun h=>h hs) hn
  refine EvIf.beq (fun(k1:kd=1)=>?_) (fun(k1:¬kd=1)=>?_)
  ·subst k1
   refine EvIf.dec (fun(h:n < 256)=>?_) (fun(h:¬n < 256)=>?_)
   ·have he:fdE ⟨1,n,s⟩=0:=by unfold fdE;rw[if_neg k3,if_neg hng,if_pos ⟨rfl,by show n≤255;omega⟩]
    refine EvCall.lend ((Z9g b [byI n] (by simp only[List.map,Ju]) (by have:=hb;simp only[List.length_cons,List.length_nil];omega)).cal fun q rs hq=>?_)
    obtain⟨rfl,rfl⟩:=hq
    refine .inl ⟨itL [(0,.gone),(4,.slc ((b++fdB ⟨1,n,s⟩).map gBy) tU8 1)],.tup [.osl 1,gI 0],⟨⟨⟨_,rfl,rfl,rfl⟩,⟨_,rfl,rfl,rfl⟩,trivial⟩,rfl,⟨_,rfl⟩,rfl,rfl,.ok he rfl⟩⟩
   ·refine .inr ⟨0,_,itL [(0,.gone),(3,.slc [] tU8 1)],.tup [.osl 1,gI 21],rfl,⟨⟨⟨_,rfl,rfl,rfl⟩,⟨_,rfl,rfl,rfl⟩,trivial⟩,rfl,⟨_,rfl⟩,rfl,rfl,.bad (e:=21) (by unfold fdE;rw[if_neg k3,if_neg hng,if_neg (fun h2=>h (by have:n≤255:=h2.2;omega)),if_neg (by rintro⟨h,-⟩;cases h),if_neg (by rintro⟨h,-⟩;cases h)]) (by decide)⟩⟩
  refine EvIf.beq (fun(k4:kd=4)=>?_) (fun(k4:¬kd=4)=>?_)
  ·subst k4
   refine EvIf.dec (fun(h:n < 2)=>?_) (fun(h:¬n < 2)=>?_)
   ·have he:fdE ⟨4,n,s⟩=0:=by unfold fdE;rw[if_neg k3,if_neg hng,if_neg (by rintro⟨h,-⟩;cases h),if_pos ⟨rfl,by show n≤1;omega⟩]
    refine EvCall.lend ((Z9g b [byI n] (by simp only[List.map,Ju]) (by have:=hb;simp only[List.length_cons,List.length_nil];omega)).cal fun q rs hq=>?_)
    obtain⟨rfl,rfl⟩:=hq
    refine .inl ⟨itL [(0,.gone),(4,.slc ((b++fdB ⟨4,n,s⟩).map gBy) tU8 1)],.tup [.osl 1,gI 0],⟨⟨⟨_,rfl,rfl,rfl⟩,⟨_,rfl,rfl,rfl⟩,trivial⟩,rfl,⟨_,rfl⟩,rfl,rfl,.ok he rfl⟩⟩
   ·refine .inr ⟨0,_,itL [(0,.gone),(3,.slc [] tU8 1)],.tup [.osl 1,gI 21],rfl,⟨⟨⟨_,rfl,rfl,rfl⟩,⟨_,rfl,rfl,rfl⟩,trivial⟩,rfl,⟨_,rfl⟩,rfl,rfl,.bad (e:=21) (by unfold fdE;rw[if_neg k3,if_neg hng,if_neg (by rintro⟨h,-⟩;cases h),if_neg (fun h2=>h (by have:n≤1:=h2.2;omega)),if_neg (by rintro⟨h,-⟩;cases h)]) (by decide)⟩⟩
  refine EvIf.beq (fun(k2:kd=2)=>?_) (fun(k2:¬kd=2)=>?_)
  ·subst k2
   refine EvIf.dec (fun(h:n≤4611686018427387904)=>?_) (fun(h:¬n≤4611686018427387904)=>?_)
   ·have he:fdE ⟨2,n,s⟩=0:=by unfold fdE;rw[if_neg k3,if_neg hng,if_neg (by rintro⟨h,-⟩;cases h),if_neg (by rintro⟨h,-⟩;cases h),if_pos ⟨rfl,h⟩]
    refine⟨by decide,⟨by decide,⟨by decide,⟨by decide,⟨by decide,⟨by decide,⟨by decide,?_⟩⟩⟩⟩⟩⟩⟩
    refine EvCall.lend ((Z9g b (be8 n) (by unfold be8;simp only[List.map,Ju];exact Z4m n) (by have:=hb;simp only[be8,List.length_cons,List.length_nil];omega)).cal fun q rs hq=>?_)
    obtain⟨rfl,rfl⟩:=hq
    refine .inl ⟨itL [(0,.gone),(4,.slc ((b++fdB ⟨2,n,s⟩).map gBy) tU8 1)],.tup [.osl 1,gI 0],⟨⟨⟨_,rfl,rfl,rfl⟩,⟨_,rfl,rfl,rfl⟩,trivial⟩,rfl,⟨_,rfl⟩,rfl,rfl,.ok he rfl⟩⟩
   ·refine .inr ⟨0,_,itL [(0,.gone),(3,.slc [] tU8 1)],.tup [.osl 1,gI 21],rfl,⟨⟨⟨_,rfl,rfl,rfl⟩,⟨_,rfl,rfl,rfl⟩,trivial⟩,rfl,⟨_,rfl⟩,rfl,rfl,.bad (e:=21) (by unfold fdE;rw[if_neg k3,if_neg hng,if_neg (by rintro⟨h,-⟩;cases h),if_neg (by rintro⟨h,-⟩;cases h),if_neg (fun h2=>h h2.2)]) (by decide)⟩⟩
  refine EvIf.beq (fun h=>absurd h k3) fun _=>?_
  refine .inr ⟨0,_,itL [(0,.gone),(3,.slc [] tU8 1)],.tup [.osl 1,gI 21],rfl,⟨⟨⟨_,rfl,rfl,rfl⟩,⟨_,rfl,rfl,rfl⟩,trivial⟩,rfl,⟨_,rfl⟩,rfl,rfl,.bad (e:=21) (by unfold fdE;rw[if_neg k3,if_neg hng,if_neg (fun h=>k1 h.1),if_neg (fun h=>k4 h.1),if_neg (fun h=>k2 h.1)]) (by decide)⟩⟩
end Go.Proofs.YtihfaocdpmmooaaGreat
namespace Go.Proofs.YtihfaocdpmmooaaGreat
open Go.RowKit
set_option maxRecDepth 100000
theorem Z0h (l:List RFd)(x:RFd):G4 (l++[x])=G4 l++fdB x:=by unfold G4;rw[List.flatMap_append];simp
theorem Vs (l:List RFd)(hl:l.length≤800000):FnO Tryz.prog 46 [.sl (l.map I6)] [] fun g rs=>g=.tup [.osl 0,gI (Hh l)]∧rs=[.slc ((Xv l).map gBy) tU8 1]:=by
 refine Bd Tryz.func46 (by kernel_rfl) rfl (Nat.le_of_ble_eq_true (by kernel_rfl)) (by kernel_rfl) (Qy _) ?_
 refine Bo [0,2,3,9,10] [0] (fun x:Nat=>[(11,gI x),(4,.osl 1)]) (fun x=>[(1,.slc ((G4 (l.take x)).map gBy) tU8 1)]) (fun x=>x≤l.length∧∀y∈l.take x,fdE y=0) (fun x=>l.length - x) 0 ⟨by omega,by simp⟩ ⟨⟨rfl,rfl⟩,⟨rfl,rfl⟩,trivial⟩ ⟨RL1,trivial⟩ rfl fun i hi=>?_
 obtain⟨hi,hz⟩:=hi
 refine EvIf.dec (fun h=>?_) (fun h=>?_)
 ·refine EvIdx.of (by simpa using h) fun x hx=>?_
  have hlt:=Dy hx
  have hB:=Ok hz
  have hT:(l.take i).length≤800000:=by rw[List.length_take];omega
  refine EvCall.lend ((Zba (G4 (l.take i)) x (by omega)).cal fun q rs hq=>?_)
  unfold FdP at hq
  obtain⟨rfl,rfl⟩:=hq
  refine EvIf.bne (fun(he:fdE x≠0)=>?_) (fun(he:fdE x=0)=>?_)
  ·have e1:=Z85 hx hz he
   refine .inl ⟨itL [(4,.slc [] tU8 1)],.tup [.osl 0,gI (fdE x)],⟨⟨⟨_,rfl,rfl,rfl⟩,trivial⟩,rfl,⟨_,rfl⟩,rfl,rfl,?_,?_⟩⟩
   ·rw[e1]
   ·unfold Xv;rw[if_neg (by rw[e1];exact he)];rfl
  ·refine⟨by omega,i+1,⟨by omega,fun y hy=>?_⟩,(by dsimp only;omega),?_⟩
   ·rw[D0 hx] at hy
    rcases List.mem_append.1 hy with hy | hy
    ·exact hz y hy
    ·rw[List.mem_singleton.1 hy];exact he
   refine⟨?_,?_,rfl⟩<;>repeat' (first | exact True.intro | with_reducible rfl | exact rfl | refine And.intro ?_ ?_)
   exact eqR (by rw[if_pos he,D0 hx,Z0h])
 ·have ht:l.take i=l:=List.take_of_length_le (by simp at h;omega)
  rw[ht] at hz
  have e1:=Iv hz
  refine .inl ⟨itL [(1,.slc ((G4 (l.take i)).map gBy) tU8 1)],.tup [.osl 0,gI 0],⟨⟨⟨_,rfl,rfl,rfl⟩,trivial⟩,rfl,⟨_,rfl⟩,rfl,rfl,?_,?_⟩⟩
  ·rw[e1]
  ·unfold Xv;rw[if_pos e1,ht];rfl
end Go.Proofs.YtihfaocdpmmooaaGreat
namespace Go.Proofs.YtihfaocdpmmooaaGreat
open Go.RowKit
set_option maxRecDepth 100000
def szI (k:Int):Int:=if 1≤k∧k≤4 then(szN k:Int) else -1
theorem Zd9 (k:Int):FnV Tryz.prog 124 [gI k] fun g=>g=gI (szI k):=by
 refine fnG Tryz.func124 (by kernel_rfl) rfl (Nat.le_of_ble_eq_true (by kernel_rfl)) (by kernel_rfl) ?_
 refine EvIf.beq (fun(h:k=1)=>?_) (fun(h1:¬k=1)=>?_)
 ·subst h;exact EvIf.beq (fun _=>rfl) (fun h=>absurd rfl h)
 refine EvIf.beq (fun(h:k=4)=>?_) (fun(h4:¬k=4)=>?_)
 ·subst h;exact rfl
 refine EvIf.beq (fun(h:k=2)=>?_) (fun(h2:¬k=2)=>?_)
 ·subst h;exact rfl
 refine EvIf.beq (fun(h:k=3)=>?_) (fun(h3:¬k=3)=>?_)
 ·subst h;exact rfl
 refine(show gI (-1)=gI (szI k) from ?_)
 unfold szI
 rw[if_neg (by omega)]
theorem Z6g (v x:Nat)(hv:v < 2 ^ 56)(hx:x < 256):IntKind.wrap .u64 ((BitVec.ofInt 64 (IntKind.wrap .u64 ((v:Int) * 2 ^ min (Int.toNat 8) 64)) ||| BitVec.ofInt 64 (IntKind.wrap .u64 (x:Int))).toNat:Nat)=((v * 256+x:Nat):Int):=by
 have w1:IntKind.wrap .u64 ((v:Int) * 2 ^ min (Int.toNat 8) 64)=((v * 256:Nat):Int):=by
  have:(v:Int) * 2 ^ min (Int.toNat 8) 64=((v * 256:Nat):Int):=by
   rw[show(2:Int) ^ min (Int.toNat 8) 64=256 from rfl];omega
  rw[this]
  simp only[IntKind.wrap,IntKind.bits,IntKind.signed,Bool.false_and,if_false,Bool.false_eq_true]
  omega
 have w2:IntKind.wrap .u64 (x:Int)=(x:Int):=by
  simp only[IntKind.wrap,IntKind.bits,IntKind.signed,Bool.false_and,if_false,Bool.false_eq_true]
  omega
 have e:∀n:Nat,n < 2 ^ 64→(BitVec.ofInt 64 (n:Int)).toNat=n:=fun n hn=>by
  rw[BitVec.toNat_ofInt];omega
 rw[w1,w2,BitVec.toNat_or,e _ (by omega),e _ (by omega)]
 have h3:v * 256 ||| x=v * 256+x:=by
  have:=Nat.shiftLeft_add_eq_or_of_lt (i:=8) (b:=x) hx v
  rw[Nat.shiftLeft_eq] at this
  exact this.symm
 rw[h3]
 simp only[IntKind.wrap,IntKind.bits,IntKind.signed,Bool.false_and,if_false,Bool.false_eq_true]
 omega
def nxR (k:Int)(b:Bs):G:=.tup [.agg (I6 (if nxE k b=0 then nxF k b else fd0)),gI (if nxE k b=0 then(nxN k b:Int) else 0),gI (nxE k b)]
theorem Zdh (k:Int)(b:Bs)(hb:b.length≤1000000000):FnV Tryz.prog 88 [gI k,.sl (b.map gBy)] fun g=>g=nxR k b:=by
 refine fnG Tryz.func88 (by kernel_rfl) rfl (Nat.le_of_ble_eq_true (by kernel_rfl)) (by kernel_rfl) ?_
 refine(Zd9 k).cal fun q hq=>?_
 subst hq
 unfold nxR
 refine EvIf.dec (fun(h:szI k < 0)=>?_) (fun(h:¬szI k < 0)=>?_)
 ·have e:nxE k b=21:=by
   unfold nxE
   rw[if_pos (fun hk=>by unfold szI at h;rw[if_pos hk] at h;omega)]
  rw[e]
  exact rfl
 have hk:1≤k∧k≤4:=Decidable.byContradiction fun hk=>h (by unfold szI;rw[if_neg hk];decide)
 have hz:szI k=szN k:=by unfold szI;rw[if_pos hk]
 rw[hz]
 have hz8:=Zca k
 refine EvIf.dec (fun h=>?_) (fun h=>?_)
 ·have h:((b.length:Nat):Int) < szN k:=by simpa using h
  have e:nxE k b=20:=by
   unfold nxE
   rw[if_neg (fun h=>h hk),if_pos (by omega)]
  rw[e]
  exact rfl
 have h:¬((b.length:Nat):Int) < szN k:=by simpa using h
 have hbz:=h
 have hlen:∀r∈b.map gBy,r.length=1:=fun r hr=>by
  obtain⟨x,-,rfl⟩:=List.mem_map.1 hr
  rfl
 refine⟨⟨by omega,by omega,by rw[List.length_map];omega⟩,⟨hlen,?_⟩⟩
 have eS:Ea (b.map gBy) (0:Int).toNat ((szN k:Nat):Int).toNat=(b.take (szN k)).map gBy:=by
  unfold Ea;simp[List.map_take]
 rw[eS]
 have hL:(b.take (szN k)).length=szN k:=by rw[List.length_take];omega
 refine Bo [0,1,4,5,6,7,8,28,29] [0,1] (fun i:Nat=>[(30,gI i),(9,.v (.int .u64 (Ct ((b.take (szN k)).take i))))]) (fun _=>[]) (fun i=>i≤szN k) (fun i=>szN k - i) 0 (by omega) ⟨⟨rfl,rfl⟩,⟨rfl,rfl⟩,trivial⟩ trivial rfl fun i hi=>?_
 refine EvIf.dec (fun h=>?_) (fun h=>?_)
 ·have h:i < (b.take (szN k)).length:=by simpa using h
  refine EvIdx.of (by simpa using h) fun x hx=>?_
  refine⟨by decide,⟨by omega,i+1,by omega,(by dsimp only;omega),?_⟩⟩
  refine⟨?_,?_,rfl⟩<;>repeat' (first | exact True.intro | with_reducible rfl | exact rfl | refine And.intro ?_ ?_)
  have hlt:Ct ((b.take (szN k)).take i) < 2 ^ 56:=by
   have h1:=Ji ((b.take (szN k)).take i)
   refine Nat.lt_of_lt_of_le h1 ?_
   rw[show(2:Nat) ^ 56=256 ^ 7 by decide]
   exact Nat.pow_le_pow_right (by decide) (by rw[List.length_take];omega)
  rw[D0 hx,R7]
  exact congrArg (fun n=>some (G.v (.int .u64 n))) (Z6g _ _ hlt x.toNat_lt)
 ·have ht:(b.take (szN k)).take i=b.take (szN k):=List.take_of_length_le (by simp at h;omega)
  rw[ht]
  have e1:nxE k b=if(k=2∧big < nxV k b)∨(k=4∧1 < nxV k b) then 21 else if k≠3 then 0 else if 1024 < nxV k b then 22 else if b.length < 2+nxV k b then 20 else 0:=by
   unfold nxE
   rw[if_neg (fun h=>h hk),if_neg (by omega)]
  have hv:Ct (b.take (szN k))=nxV k b:=rfl
  rw[hv]
  generalize hvv:nxV k b=v at *
  have hN:nxN k b=if k=3 then 2+v else szN k:=by unfold nxN;rw[hvv]
  have hF:nxF k b=if k=3 then⟨3,0,⟨((b.drop 2).take v).toArray⟩⟩ else⟨k,v,⟨#[]⟩⟩:=by unfold nxF;rw[hvv]
  refine EvIf.beq (fun(k2:k=2)=>?_) (fun(k2:¬k=2)=>?_)
  ·refine EvIf.dec (fun(h:(v:Int) > big)=>?_) (fun(h:¬(v:Int) > big)=>?_)
   ·rw[if_pos (.inl ⟨k2,h⟩)] at e1
    rw[e1]
    exact rfl
   ·rw[if_neg (by rintro(h2 | h2)<;>omega),if_pos (by omega)] at e1
    refine EvIf.beq (fun h4=>absurd h4 (show ¬k=4 by omega)) fun _=>?_
    refine EvIf.bne (fun _=>?_) (fun h3=>absurd h3 (show ¬k=3 by omega))
    rw[e1,if_pos rfl,if_pos rfl,hN,hF,if_neg (by omega),if_neg (by omega)]
    exact⟨by unfold big at h;omega,rfl⟩
  ·refine EvIf.beq (fun(k4:k=4)=>?_) (fun(k4:¬k=4)=>?_)
   ·refine EvIf.dec (fun(h:(v:Int) > 1)=>?_) (fun(h:¬(v:Int) > 1)=>?_)
    ·rw[if_pos (.inr ⟨k4,by omega⟩)] at e1
     rw[e1]
     exact rfl
    ·rw[if_neg (by rintro(h2 | h2)<;>omega),if_pos (by omega)] at e1
     refine EvIf.bne (fun _=>?_) (fun h3=>absurd h3 (show ¬k=3 by omega))
     rw[e1,if_pos rfl,if_pos rfl,hN,hF,if_neg (by omega),if_neg (by omega)]
     exact⟨by omega,rfl⟩
   ·rw[if_neg (by rintro(h2 | h2)<;>omega)] at e1
    have hvl:v < 256 ^ szN k:=by
     have:=Ji (b.take (szN k))
     rw[hL] at this
     rw[←hvv];exact this
    refine EvIf.bne (fun(h3:k≠3)=>?_) (fun(h3:k=3)=>?_)
    ·have k1:k=1:=by omega
     subst k1
     have hvl:v < 256:=hvl
     rw[if_pos (by decide)] at e1
     rw[e1,if_pos rfl,if_pos rfl,hN,hF,if_neg (by decide),if_neg (by decide)]
     exact⟨by omega,rfl⟩
    ·subst h3
     have hvl:v < 65536:=hvl
     rw[if_neg (fun h=>h rfl)] at e1
     refine EvIf.dec (fun(h:(v:Int) > 1024)=>?_) (fun(h:¬(v:Int) > 1024)=>?_)
     ·rw[if_pos (by omega)] at e1
      rw[e1]
      exact rfl
     ·rw[if_neg (by omega)] at e1
      have z2:szN 3=2:=rfl
      rw[z2]
      have hbl:(b.map gBy).length=b.length:=List.length_map _
      rw[z2] at hbz hL
      refine⟨by rw[hbl];omega,⟨by omega,?_⟩⟩
      refine EvIf.dec (fun(h5:(((b.map gBy).length:Nat):Int) - (2:Nat) < v)=>?_) (fun(h5:¬(((b.map gBy).length:Nat):Int) - (2:Nat) < v)=>?_)
      ·rw[hbl] at h5
       rw[if_pos (by omega)] at e1
       rw[e1]
       exact rfl
      ·rw[hbl] at h5
       rw[if_neg (by omega)] at e1
       rw[e1,if_pos rfl,if_pos rfl,hN,hF,if_pos rfl,if_pos rfl]
       refine⟨by omega,⟨by omega,⟨⟨by omega,by omega,by rw[hbl];omega⟩,⟨hlen,EvBytes.mk ⟨(b.drop 2).take v,?_,⟨by omega,⟨by omega,rfl⟩⟩⟩⟩⟩⟩⟩
       unfold Ea
       rw[show(((2:Nat):Int)+(v:Int)).toNat=v+2 by omega,show(((2:Nat):Int)).toNat=2 from rfl,←List.map_take,←List.map_drop,List.drop_take]
       rfl
end Go.Proofs.YtihfaocdpmmooaaGreat
namespace Go.Proofs.YtihfaocdpmmooaaGreat
open Go.RowKit
set_option maxRecDepth 100000
abbrev tFd:Nat:=94
def gNi (k:Int):List G:=[gI k]
theorem O7 (b:Bs)(n:Nat):Ea (b.map gBy) (n:Int).toNat (((b.map gBy).length:Nat):Int).toNat=(b.drop n).map gBy:=by
 unfold Ea
 rw[Int.toNat_natCast,Int.toNat_natCast,List.take_of_length_le (by simp),List.map_drop]
theorem Rn (b:Bs):∀r∈b.map gBy,r.length=1:=fun r hr=>by
 obtain⟨x,-,rfl⟩:=List.mem_map.1 hr
 rfl
def smG (s:Sm):G:=.tup [.sl (s.l.map I6),gI s.n,gI s.e]
theorem Uh (ks:List Int)(b:Bs)(hk:ks.length≤1000000)(hb:b.length≤1000000000):FnV Tryz.prog 49 [.sl (ks.map gNi),.sl (b.map gBy)] fun g=>g=smG (Ag ks b):=by
 refine fnG Tryz.func49 (by kernel_rfl) rfl (Nat.le_of_ble_eq_true (by kernel_rfl)) (by kernel_rfl) ?_
 refine Bo [0,1,5,6,14,15] [0] (fun i:Nat=>[(16,gI i),(8,gI ((Ag (ks.take i) b).n:Int)),(7,.osl 1)]) (fun i=>[(1,.slc ((Ag (ks.take i) b).l.map I6) tFd 3)]) (fun i=>i≤ks.length∧(Ag (ks.take i) b).e=0) (fun i=>ks.length - i) 0 ⟨by omega,rfl⟩ ⟨⟨rfl,rfl⟩,⟨rfl,rfl⟩,⟨rfl,rfl⟩,trivial⟩ ⟨RL1,trivial⟩ rfl fun i hi=>?_
 obtain⟨hi,h0⟩:=hi
 refine EvIf.dec (fun h=>?_) (fun h=>?_)
 ·refine EvIdx.of (by simpa using h) fun k hx=>?_
  have hlt:=Dy hx
  have hle:=Cx (ks.take i) b
  refine⟨⟨by omega,by rw[List.length_map];omega,by omega⟩,⟨Rn b,?_⟩⟩
  rw[O7]
  refine(Zdh k (b.drop (Ag (ks.take i) b).n) (by rw[List.length_drop];omega)).cal fun q hq=>?_
  subst hq
  unfold nxR
  refine EvIf.bne (fun he=>?_) (fun he=>?_)
  ·rw[Vy ks b i k hx h0 he]
   exact rfl
  ·have he:nxE k (b.drop (Ag (ks.take i) b).n)=0:=he
   have hs:=Pf (ks.take i) b k h0
   rw[←D0 hx,if_neg (fun h=>h he)] at hs
   have hl:=hle.2 h0
   rw[List.length_take] at hl
   have hn2:=Z62 he
   rw[List.length_drop] at hn2
   rw[if_pos he,if_pos he]
   refine⟨by simp;omega,⟨by omega,⟨by omega,i+1,⟨by omega,by rw[hs]⟩,(by dsimp only;omega),?_⟩⟩⟩
   refine⟨?_,?_,rfl⟩<;>repeat' (first | exact True.intro | with_reducible rfl | exact rfl | refine And.intro ?_ ?_)
   ·exact eqI (by rw[hs];simp only;omega)
   ·exact eqR (by rw[hs,List.map_append];rfl)
 ·have ht:ks.take i=ks:=List.take_of_length_le (by simp at h;omega)
  rw[ht] at h0⊢
  unfold smG
  rw[h0]
  exact rfl
theorem Z3q (ks:List Int)(b:Bs)(hk:ks.length≤1000000)(hb:b.length≤1000000000):FnV Tryz.prog 94 [.sl (ks.map gNi),.sl (b.map gBy)] fun g=>g=.tup [.sl ((L8 ks b).l.map I6),gI (L8 ks b).e]:=by
 refine fnG Tryz.func94 (by kernel_rfl) rfl (Nat.le_of_ble_eq_true (by kernel_rfl)) (by kernel_rfl) ?_
 refine(Uh ks b hk hb).cal fun q hq=>?_
 subst hq
 unfold smG L8
 have hle:=(Cx ks b).1
 refine EvIf.bne (fun he=>?_) (fun he=>?_)
 ·rw[if_pos he];exact rfl
 ·have he:(Ag ks b).e=0:=he
  rw[if_neg (fun h=>h he)]
  refine EvIf.dec (fun h=>?_) (fun h=>?_)
  ·have h:(((Ag ks b).n:Nat):Int) < b.length:=by simpa using h
   rw[if_pos (by omega)];exact rfl
  ·have h:¬(((Ag ks b).n:Nat):Int) < b.length:=by simpa using h
   rw[if_neg (by omega),he];exact rfl
end Go.Proofs.YtihfaocdpmmooaaGreat

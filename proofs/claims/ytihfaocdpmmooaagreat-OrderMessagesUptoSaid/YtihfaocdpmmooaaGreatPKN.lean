
import Derived.Test.YtihfaocdpmmooaaGreatPKM
import Derived.Test.YtihfaocdpmmooaaGreatFn1
import Derived.Test.YtihfaocdpmmooaaGreatSxMc
import Derived.Test.YtihfaocdpmmooaaGreatZM1
namespace Go.Proofs.YtihfaocdpmmooaaGreat
open Go.RowKit
set_option maxRecDepth 100000
abbrev tU8:Nat:=5
def Do (f:RFd):List G:=[gI f.kind,gI f.n,gS f.s]
theorem Ez (n:Int):gBy (byI n)=[.v (.int .u8 (n % 256))]:=by unfold gBy;rw[By]
theorem Zdx (a b:Bs)(ha:a.length+b.length≤1000000000):FnO Tryz.prog 123 [.osl 0,.osl 1] [.slc (a.map gBy) tU8 1,.slc (b.map gBy) tU8 1] fun g rs=>g=.osl 2∧rs=[.gone,.gone,.slc ((a++b).map gBy) tU8 1]:=by
 refine Bo Tryz.func123 (by kernel_rfl) rfl (Nat.le_of_ble_eq_true (by kernel_rfl)) (by kernel_rfl) (Cs _ _) ?_
 refine⟨by simp;omega,?_⟩
 refine .inr ⟨1,_,itL [(0,.gone),(1,.gone),(3,.slc ((a++b).map gBy) tU8 1)],.osl 2,rfl,⟨⟨⟨_,rfl,rfl,rfl⟩,⟨_,rfl,rfl,rfl⟩,⟨_,rfl,?_,rfl⟩,trivial⟩,rfl,⟨_,rfl⟩,rfl,rfl,⟨rfl,rfl⟩⟩⟩
 exact eqR (by rw[List.map_append])
theorem Z9q (a:Bs)(b:Bs)(ha:a.length+b.length≤1000000000):FnO Tryz.prog 123 [.osl 0,.sl (b.map gBy)] [.slc (a.map gBy) tU8 1] fun g rs=>g=.osl 1∧rs=[.gone,.slc ((a++b).map gBy) tU8 1]:=by
 refine Bo Tryz.func123 (by kernel_rfl) rfl (Nat.le_of_ble_eq_true (by kernel_rfl)) (by kernel_rfl) (Cs _ _) ?_
 refine⟨fun r hr=>by obtain⟨c,-,rfl⟩:=List.mem_map.1 hr;exact⟨rfl,rfl⟩,⟨by simp;omega,?_⟩⟩
 refine .inl ⟨itL [(0,.gone),(2,.slc ((a++b).map gBy) tU8 1)],.osl 1,⟨⟨⟨_,rfl,rfl,rfl⟩,⟨_,rfl,?_,rfl⟩,trivial⟩,rfl,⟨_,rfl⟩,rfl,rfl,⟨rfl,rfl⟩⟩⟩
 exact eqR (by rw[List.map_append])
theorem Z65 (a b:Bs){rows:List (List G)}(hr:rows=b.map gBy)(ha:a.length+b.length≤1000000000):FnO Tryz.prog 123 [.osl 0,.osl 1] [.slc (a.map gBy) tU8 1,.slc rows tU8 1] fun g rs=>g=.osl 2∧rs=[.gone,.gone,.slc ((a++b).map gBy) tU8 1]:=by
 subst hr;exact Zdx a b ha
theorem Md (a b:Bs){rows:List (List G)}(hr:rows=b.map gBy)(ha:a.length+b.length≤1000000000):FnO Tryz.prog 123 [.osl 0,.sl rows] [.slc (a.map gBy) tU8 1] fun g rs=>g=.osl 1∧rs=[.gone,.slc ((a++b).map gBy) tU8 1]:=by
 subst hr;exact Z9q a b ha
theorem E5 (n m:Int)(j k:Nat)(hj:min j 64=k)(hm:(2:Int) ^ k=m)(h0:0≤m):n.fdiv (2 ^ min j 64)=n / m:=by
 rw[hj,hm];exact Int.fdiv_eq_ediv_of_nonneg _ h0
def FdP (b:Bs)(f:RFd)(g:G)(rs:List R):Prop:=g=.tup [.osl 1,gI (fdE f)]∧rs=[.gone,.slc ((if fdE f=0 then b++fdB f else []).map gBy) tU8 1]
theorem FdP.bad {b:Bs}{f:RFd}{e:Int}(h:fdE f=e)(h0:e≠0):FdP b f (.tup [.osl 1,gI e]) [.gone,.slc [] tU8 1]:=by
 unfold FdP;rw[h,if_neg h0];exact⟨rfl,rfl⟩
theorem FdP.ok {b x:Bs}{f:RFd}(h:fdE f=0)(hx:fdB f=x):FdP b f (.tup [.osl 1,gI 0]) [.gone,.slc ((b++x).map gBy) tU8 1]:=by
 unfold FdP;rw[h,if_pos rfl,hx];exact⟨rfl,rfl⟩
theorem N6 (n:Int):IntKind.u8.wrap n=n % 256:=by
 simp[IntKind.wrap,IntKind.bits,IntKind.signed]
theorem Z5 (n:Nat):[[G.v (.int .u8 (IntKind.u8.wrap (((n:Nat):Int).fdiv (2 ^ min (8:Int).toNat 64))))],[G.v (.int .u8 (IntKind.u8.wrap ((n:Nat):Int)))]]=[[G.v (.int .u8 ((((n:Nat):Int) / 256) % 256))],[G.v (.int .u8 (((n:Nat):Int) % 256))]]:=by
 rw[N6,N6,E5 n 256 _ 8 rfl (by decide) (by decide)]
theorem Z1s (n:Int):[[G.v (.int .u8 (IntKind.u8.wrap (n.fdiv (2 ^ min (56:Int).toNat 64))))],[G.v (.int .u8 (IntKind.u8.wrap (n.fdiv (2 ^ min (48:Int).toNat 64))))],[G.v (.int .u8 (IntKind.u8.wrap (n.fdiv (2 ^ min (40:Int).toNat 64))))],[G.v (.int .u8 (IntKind.u8.wrap (n.fdiv (2 ^ min (32:Int).toNat 64))))],[G.v (.int .u8 (IntKind.u8.wrap (n.fdiv (2 ^ min (24:Int).toNat 64))))],[G.v (.int .u8 (IntKind.u8.wrap (n.fdiv (2 ^ min (16:Int).toNat 64))))],[G.v (.int .u8 (IntKind.u8.wrap (n.fdiv (2 ^ min (8:Int).toNat 64))))],[G.v (.int .u8 (IntKind.u8.wrap n))]]=[[G.v (.int .u8 (n / 72057594037927936 % 256))],[G.v (.int .u8 (n / 281474976710656 % 256))],[G.v (.int .u8 (n / 1099511627776 % 256))],[G.v (.int .u8 (n / 4294967296 % 256))],[G.v (.int .u8 (n / 16777216 % 256))],[G.v (.int .u8 (n / 65536 % 256))],[G.v (.int .u8 (n / 256 % 256))],[G.v (.int .u8 (n % 256))]]:=by
 simp only[N6]
 rw[E5 n 72057594037927936 _ 56 rfl (by decide) (by decide),E5 n 281474976710656 _ 48 rfl (by decide) (by decide),E5 n 1099511627776 _ 40 rfl (by decide) (by decide),E5 n 4294967296 _ 32 rfl (by decide) (by decide),E5 n 16777216 _ 24 rfl (by decide) (by decide),E5 n 65536 _ 16 rfl (by decide) (by decide),E5 n 256 _ 8 rfl (by decide) (by decide)]
set_option maxHeartbeats 2000000 in
theorem Za2 (b:Bs)(f:RFd)(hb:b.length≤900000000):FnO Tryz.prog 85 [.osl 0,.agg (Do f)] [.slc (b.map gBy) tU8 1] (FdP b f):=by
 obtain⟨kd,n,s⟩:=f
 refine Bo Tryz.func85 (by kernel_rfl) rfl (Nat.le_of_ble_eq_true (by kernel_rfl)) (by kernel_rfl) (Cs _ _) ?_
 refine EvIf.beq (fun(k3:kd=3)=>?_) (fun(k3:¬kd=3)=>?_)
 ·subst k3
  refine EvIf.bne (fun hn=>?_) (fun hn=>?_)
  ·refine .inr ⟨0,_,itL [(0,.gone),(3,.slc [] tU8 1)],.tup [.osl 1,gI 21],rfl,⟨⟨⟨_,rfl,rfl,rfl⟩,⟨_,rfl,rfl,rfl⟩,trivial⟩,rfl,⟨_,rfl⟩,rfl,rfl,.bad (e:=21) ?_ (by decide)⟩⟩
   unfold fdE
   rw[if_pos rfl,if_pos hn]
  ·have hn:n=0:=hn
   subst hn
   refine EvIf.bne (fun h=>absurd rfl h) fun _=>?_
   refine EvIf.dec (fun h=>absurd h (show ¬(0:Int) < 0 by decide)) fun _=>?_
   refine EvIf.beq (fun h=>absurd h (show ¬(3:Int)=1 by decide)) fun _=>?_
   refine EvIf.beq (fun h=>absurd h (show ¬(3:Int)=4 by decide)) fun _=>?_
   refine EvIf.beq (fun h=>absurd h (show ¬(3:Int)=2 by decide)) fun _=>?_
   refine EvIf.beq (fun _=>?_) fun h=>absurd rfl h
   refine EvIf.dec (fun h=>?_) fun h=>?_
   ·refine .inr ⟨0,_,itL [(0,.gone),(3,.slc [] tU8 1)],.tup [.osl 1,gI 22],rfl,⟨⟨⟨_,rfl,rfl,rfl⟩,⟨_,rfl,rfl,rfl⟩,trivial⟩,rfl,⟨_,rfl⟩,rfl,rfl,.bad (e:=22) ?_ (by decide)⟩⟩
    have h:((s.size:Nat):Int) > 1024:=h
    unfold fdE
    rw[if_pos rfl,if_neg (fun h=>h rfl),if_pos (by show s.size > 1024;omega)]
   ·refine⟨by decide,?_⟩
    have h:¬((s.size:Nat):Int) > 1024:=h
    have he:fdE ⟨3,0,s⟩=0:=by
     unfold fdE
     rw[if_pos rfl,if_neg (fun h=>h rfl),if_neg (by show ¬s.size > 1024;omega)]
    have hl2:(b++[byI ((s.size:Int) / 256),byI s.size]).length+s.data.toList.length≤1000000000:=by
     have:s.data.toList.length=s.size:=by rw[Array.length_toList];rfl
     simp only[List.length_append,List.length_cons,List.length_nil,this]
     omega
    have eB:fdB ⟨3,0,s⟩=[byI ((s.size:Int) / 256),byI s.size]++s.data.toList:=by unfold fdB;rw[if_pos rfl];rfl
    refine⟨?_,?_⟩
    ·refine⟨?_,?_⟩
     ·refine EvCall.lend ((Md b [byI ((s.size:Int) / 256),byI s.size] ?hr (by simp;omega)).cal fun q rs hq=>?_)
      case hr =>
       simp only[List.map,Ez]
       exact Z5 s.size
      obtain⟨rfl,rfl⟩:=hq
      refine EvCall.lend ((Md (b++[byI ((s.size:Int) / 256),byI s.size]) s.data.toList rfl hl2).cal fun q rs hq=>?_)
      obtain⟨rfl,rfl⟩:=hq
      refine .inl ⟨itL [(0,.gone),(5,.slc ((b++fdB ⟨3,0,s⟩).map gBy) tU8 1)],.tup [.osl 1,gI 0],⟨⟨⟨_,rfl,rfl,rfl⟩,⟨_,rfl,?_,rfl⟩,trivial⟩,rfl,⟨_,rfl⟩,rfl,rfl,.ok he rfl⟩⟩
      exact eqR (by rw[eB,←List.append_assoc])
     ·refine EvCall.lend ((Md b [byI ((s.size:Int) / 256),byI s.size] ?hr (by simp;omega)).cal fun q rs hq=>?_)
      case hr =>
       simp only[List.map,Ez]
       exact Z5 s.size
      obtain⟨rfl,rfl⟩:=hq
      refine EvCall.lend ((Md (b++[byI ((s.size:Int) / 256),byI s.size]) s.data.toList rfl hl2).cal fun q rs hq=>?_)
      obtain⟨rfl,rfl⟩:=hq
      refine .inl ⟨itL [(0,.gone),(5,.slc ((b++fdB ⟨3,0,s⟩).map gBy) tU8 1)],.tup [.osl 1,gI 0],⟨⟨⟨_,rfl,rfl,rfl⟩,⟨_,rfl,?_,rfl⟩,trivial⟩,rfl,⟨_,rfl⟩,rfl,rfl,.ok he rfl⟩⟩
      exact eqR (by rw[eB,←List.append_assoc])
    ·refine EvCall.lend ((Md b [byI ((s.size:Int) / 256),byI s.size] ?hr (by simp;omega)).cal fun q rs hq=>?_)
     case hr =>
      simp only[List.map,Ez]
      exact Z5 s.size
     obtain⟨rfl,rfl⟩:=hq
     refine EvCall.lend ((Md (b++[byI ((s.size:Int) / 256),byI s.size]) s.data.toList rfl hl2).cal fun q rs hq=>?_)
     obtain⟨rfl,rfl⟩:=hq
     refine .inl ⟨itL [(0,.gone),(5,.slc ((b++fdB ⟨3,0,s⟩).map gBy) tU8 1)],.tup [.osl 1,gI 0],⟨⟨⟨_,rfl,rfl,rfl⟩,⟨_,rfl,?_,rfl⟩,trivial⟩,rfl,⟨_,rfl⟩,rfl,rfl,.ok he rfl⟩⟩
     exact eqR (by rw[eB,←List.append_assoc])
 ·refine EvIf.bne (fun _=>?_) (fun h=>absurd h k3)
  refine EvIf.bneS (fun(hs:s≠⟨#[]⟩)=>?_) (fun(hs:s=⟨#[]⟩)=>?_)
  ·refine .inr ⟨0,_,itL [(0,.gone),(3,.slc [] tU8 1)],.tup [.osl 1,gI 21],rfl,⟨⟨⟨_,rfl,rfl,rfl⟩,⟨_,rfl,rfl,rfl⟩,trivial⟩,rfl,⟨_,rfl⟩,rfl,rfl,.bad (e:=21) (by unfold fdE;rw[if_neg k3,if_pos (.inl hs)]) (by decide)⟩⟩
  refine EvIf.dec (fun(hn:n < 0)=>?_) (fun(hn:¬n < 0)=>?_)
  ·refine .inr ⟨0,_,itL [(0,.gone),(3,.slc [] tU8 1)],.tup [.osl 1,gI 21],rfl,⟨⟨⟨_,rfl,rfl,rfl⟩,⟨_,rfl,rfl,rfl⟩,trivial⟩,rfl,⟨_,rfl⟩,rfl,rfl,.bad (e:=21) (by unfold fdE;rw[if_neg k3,if_pos (.inr hn)]) (by decide)⟩⟩
  have hng:¬(s≠⟨#[]⟩∨n < 0):=fun h=>h.elim (fun h=>h hs) hn
  refine EvIf.beq (fun(k1:kd=1)=>?_) (fun(k1:¬kd=1)=>?_)
  ·subst k1
   refine EvIf.dec (fun(h:n < 256)=>?_) (fun(h:¬n < 256)=>?_)
   ·have he:fdE ⟨1,n,s⟩=0:=by unfold fdE;rw[if_neg k3,if_neg hng,if_pos ⟨rfl,by show n≤255;omega⟩]
    refine EvCall.lend ((Z65 b [byI n] (by simp only[List.map,Ez]) (by have:=hb;simp only[List.length_cons,List.length_nil];omega)).cal fun q rs hq=>?_)
    obtain⟨rfl,rfl⟩:=hq
    refine .inl ⟨itL [(0,.gone),(4,.slc ((b++fdB ⟨1,n,s⟩).map gBy) tU8 1)],.tup [.osl 1,gI 0],⟨⟨⟨_,rfl,rfl,rfl⟩,⟨_,rfl,rfl,rfl⟩,trivial⟩,rfl,⟨_,rfl⟩,rfl,rfl,.ok he rfl⟩⟩
   ·refine .inr ⟨0,_,itL [(0,.gone),(3,.slc [] tU8 1)],.tup [.osl 1,gI 21],rfl,⟨⟨⟨_,rfl,rfl,rfl⟩,⟨_,rfl,rfl,rfl⟩,trivial⟩,rfl,⟨_,rfl⟩,rfl,rfl,.bad (e:=21) (by unfold fdE;rw[if_neg k3,if_neg hng,if_neg (fun h2=>h (by have:n≤255:=h2.2;omega)),if_neg (by rintro⟨h,-⟩;cases h),if_neg (by rintro⟨h,-⟩;cases h)]) (by decide)⟩⟩
  refine EvIf.beq (fun(k4:kd=4)=>?_) (fun(k4:¬kd=4)=>?_)
  ·subst k4
   refine EvIf.dec (fun(h:n < 2)=>?_) (fun(h:¬n < 2)=>?_)
   ·have he:fdE ⟨4,n,s⟩=0:=by unfold fdE;rw[if_neg k3,if_neg hng,if_neg (by rintro⟨h,-⟩;cases h),if_pos ⟨rfl,by show n≤1;omega⟩]
    refine EvCall.lend ((Z65 b [byI n] (by simp only[List.map,Ez]) (by have:=hb;simp only[List.length_cons,List.length_nil];omega)).cal fun q rs hq=>?_)
    obtain⟨rfl,rfl⟩:=hq
    refine .inl ⟨itL [(0,.gone),(4,.slc ((b++fdB ⟨4,n,s⟩).map gBy) tU8 1)],.tup [.osl 1,gI 0],⟨⟨⟨_,rfl,rfl,rfl⟩,⟨_,rfl,rfl,rfl⟩,trivial⟩,rfl,⟨_,rfl⟩,rfl,rfl,.ok he rfl⟩⟩
   ·refine .inr ⟨0,_,itL [(0,.gone),(3,.slc [] tU8 1)],.tup [.osl 1,gI 21],rfl,⟨⟨⟨_,rfl,rfl,rfl⟩,⟨_,rfl,rfl,rfl⟩,trivial⟩,rfl,⟨_,rfl⟩,rfl,rfl,.bad (e:=21) (by unfold fdE;rw[if_neg k3,if_neg hng,if_neg (by rintro⟨h,-⟩;cases h),if_neg (fun h2=>h (by have:n≤1:=h2.2;omega)),if_neg (by rintro⟨h,-⟩;cases h)]) (by decide)⟩⟩
  refine EvIf.beq (fun(k2:kd=2)=>?_) (fun(k2:¬kd=2)=>?_)
  ·subst k2
   refine EvIf.dec (fun(h:n≤4611686018427387904)=>?_) (fun(h:¬n≤4611686018427387904)=>?_)
   ·have he:fdE ⟨2,n,s⟩=0:=by unfold fdE;rw[if_neg k3,if_neg hng,if_neg (by rintro⟨h,-⟩;cases h),if_neg (by rintro⟨h,-⟩;cases h),if_pos ⟨rfl,h⟩]
    refine⟨by decide,⟨by decide,⟨by decide,⟨by decide,⟨by decide,⟨by decide,⟨by decide,?_⟩⟩⟩⟩⟩⟩⟩
    refine EvCall.lend ((Z65 b (be8 n) (by unfold be8;simp only[List.map,Ez];exact Z1s n) (by have:=hb;simp only[be8,List.length_cons,List.length_nil];omega)).cal fun q rs hq=>?_)
    obtain⟨rfl,rfl⟩:=hq
    refine .inl ⟨itL [(0,.gone),(4,.slc ((b++fdB ⟨2,n,s⟩).map gBy) tU8 1)],.tup [.osl 1,gI 0],⟨⟨⟨_,rfl,rfl,rfl⟩,⟨_,rfl,rfl,rfl⟩,trivial⟩,rfl,⟨_,rfl⟩,rfl,rfl,.ok he rfl⟩⟩
   ·refine .inr ⟨0,_,itL [(0,.gone),(3,.slc [] tU8 1)],.tup [.osl 1,gI 21],rfl,⟨⟨⟨_,rfl,rfl,rfl⟩,⟨_,rfl,rfl,rfl⟩,trivial⟩,rfl,⟨_,rfl⟩,rfl,rfl,.bad (e:=21) (by unfold fdE;rw[if_neg k3,if_neg hng,if_neg (by rintro⟨h,-⟩;cases h),if_neg (by rintro⟨h,-⟩;cases h),if_neg (fun h2=>h h2.2)]) (by decide)⟩⟩
  refine EvIf.beq (fun h=>absurd h k3) fun _=>?_
  refine .inr ⟨0,_,itL [(0,.gone),(3,.slc [] tU8 1)],.tup [.osl 1,gI 21],rfl,⟨⟨⟨_,rfl,rfl,rfl⟩,⟨_,rfl,rfl,rfl⟩,trivial⟩,rfl,⟨_,rfl⟩,rfl,rfl,.bad (e:=21) (by unfold fdE;rw[if_neg k3,if_neg hng,if_neg (fun h=>k1 h.1),if_neg (fun h=>k4 h.1),if_neg (fun h=>k2 h.1)]) (by decide)⟩⟩
end Go.Proofs.YtihfaocdpmmooaaGreat
namespace Go.Proofs.YtihfaocdpmmooaaGreat
open Go.RowKit
set_option maxRecDepth 100000
theorem P7 (l:List RFd)(x:RFd):Fa (l++[x])=Fa l++fdB x:=by unfold Fa;rw[List.flatMap_append];simp
theorem Uc (l:List RFd)(hl:l.length≤800000):FnO Tryz.prog 46 [.sl (l.map Do)] [] fun g rs=>g=.tup [.osl 0,gI (Gd l)]∧rs=[.slc ((Q9 l).map gBy) tU8 1]:=by
 refine Bo Tryz.func46 (by kernel_rfl) rfl (Nat.le_of_ble_eq_true (by kernel_rfl)) (by kernel_rfl) (Rl _) ?_
 refine Ay [0,2,3,9,10] [0] (fun x:Nat=>[(11,gI x),(4,.osl 1)]) (fun x=>[(1,.slc ((Fa (l.take x)).map gBy) tU8 1)]) (fun x=>x≤l.length∧∀y∈l.take x,fdE y=0) (fun x=>l.length - x) 0 ⟨by omega,by simp⟩ ⟨⟨rfl,rfl⟩,⟨rfl,rfl⟩,trivial⟩ ⟨⟨rfl,rfl,rfl⟩,trivial⟩ rfl fun i hi=>?_
 obtain⟨hi,hz⟩:=hi
 refine EvIf.dec (fun h=>?_) (fun h=>?_)
 ·refine EvIdx.of (by simpa using h) fun x hx=>?_
  have hlt:=Ch hx
  have hB:=Jo hz
  have hT:(l.take i).length≤800000:=by rw[List.length_take];omega
  refine EvCall.lend ((Za2 (Fa (l.take i)) x (by omega)).cal fun q rs hq=>?_)
  unfold FdP at hq
  obtain⟨rfl,rfl⟩:=hq
  refine EvIf.bne (fun(he:fdE x≠0)=>?_) (fun(he:fdE x=0)=>?_)
  ·have e1:=Zl hx hz he
   refine .inl ⟨itL [(4,.slc [] tU8 1)],.tup [.osl 0,gI (fdE x)],⟨⟨⟨_,rfl,rfl,rfl⟩,trivial⟩,rfl,⟨_,rfl⟩,rfl,rfl,?_,?_⟩⟩
   ·rw[e1]
   ·unfold Q9;rw[if_neg (by rw[e1];exact he)];rfl
  ·refine⟨by omega,i+1,⟨by omega,fun y hy=>?_⟩,(by dsimp only;omega),?_⟩
   ·rw[Ba hx] at hy
    rcases List.mem_append.1 hy with hy | hy
    ·exact hz y hy
    ·rw[List.mem_singleton.1 hy];exact he
   refine⟨?_,?_,rfl⟩<;>repeat' (first | exact True.intro | with_reducible rfl | exact rfl | refine And.intro ?_ ?_)
   exact eqR (by rw[if_pos he,Ba hx,P7])
 ·have ht:l.take i=l:=List.take_of_length_le (by simp at h;omega)
  rw[ht] at hz
  have e1:=G4 hz
  refine .inl ⟨itL [(1,.slc ((Fa (l.take i)).map gBy) tU8 1)],.tup [.osl 0,gI 0],⟨⟨⟨_,rfl,rfl,rfl⟩,trivial⟩,rfl,⟨_,rfl⟩,rfl,rfl,?_,?_⟩⟩
  ·rw[e1]
  ·unfold Q9;rw[if_pos e1,ht];rfl
end Go.Proofs.YtihfaocdpmmooaaGreat
namespace Go.Proofs.YtihfaocdpmmooaaGreat
open Go.RowKit
set_option maxRecDepth 100000
def szI (k:Int):Int:=if 1≤k∧k≤4 then(szN k:Int) else -1
theorem Zc0 (k:Int):FnV Tryz.prog 124 [gI k] fun g=>g=gI (szI k):=by
 refine fnG Tryz.func124 (by kernel_rfl) rfl (Nat.le_of_ble_eq_true (by kernel_rfl)) (by kernel_rfl) ?_
 refine EvIf.beq (fun(h:k=1)=>?_) (fun(h1:¬k=1)=>?_)
 ·subst h;exact EvIf.beq (fun _=>rfl) (fun h=>absurd rfl h)
 refine EvIf.beq (fun(h:k=4)=>?_) (fun(h4:¬k=4)=>?_)
 ·subst h;exact rfl
 refine EvIf.beq (fun(h:k=2)=>?_) (fun(h2:¬k=2)=>?_)
 ·subst h;exact rfl
 refine EvIf.beq (fun(h:k=3)=>?_) (fun(h3:¬k=3)=>?_)
 ·subst h;exact rfl
 refine(show gI (-1)=gI (szI k) from ?_)
 unfold szI
 rw[if_neg (by omega)]
theorem Z4w (v x:Nat)(hv:v < 2 ^ 56)(hx:x < 256):IntKind.wrap .u64 ((BitVec.ofInt 64 (IntKind.wrap .u64 ((v:Int) * 2 ^ min (Int.toNat 8) 64)) ||| BitVec.ofInt 64 (IntKind.wrap .u64 (x:Int))).toNat:Nat)=((v * 256+x:Nat):Int):=by
 have w1:IntKind.wrap .u64 ((v:Int) * 2 ^ min (Int.toNat 8) 64)=((v * 256:Nat):Int):=by
  have:(v:Int) * 2 ^ min (Int.toNat 8) 64=((v * 256:Nat):Int):=by
   rw[show(2:Int) ^ min (Int.toNat 8) 64=256 from rfl];omega
  rw[this]
  simp only[IntKind.wrap,IntKind.bits,IntKind.signed,Bool.false_and,if_false,Bool.false_eq_true]
  omega
 have w2:IntKind.wrap .u64 (x:Int)=(x:Int):=by
  simp only[IntKind.wrap,IntKind.bits,IntKind.signed,Bool.false_and,if_false,Bool.false_eq_true]
  omega
 have e:∀n:Nat,n < 2 ^ 64→(BitVec.ofInt 64 (n:Int)).toNat=n:=fun n hn=>by
  rw[BitVec.toNat_ofInt];omega
 rw[w1,w2,BitVec.toNat_or,e _ (by omega),e _ (by omega)]
 have h3:v * 256 ||| x=v * 256+x:=by
  have:=Nat.shiftLeft_add_eq_or_of_lt (i:=8) (b:=x) hx v
  rw[Nat.shiftLeft_eq] at this
  exact this.symm
 rw[h3]
 simp only[IntKind.wrap,IntKind.bits,IntKind.signed,Bool.false_and,if_false,Bool.false_eq_true]
 omega
def nxR (k:Int)(b:Bs):G:=.tup [.agg (Do (if nxE k b=0 then nxF k b else fd0)),gI (if nxE k b=0 then(nxN k b:Int) else 0),gI (nxE k b)]
theorem Zbf (k:Int)(b:Bs)(hb:b.length≤1000000000):FnV Tryz.prog 88 [gI k,.sl (b.map gBy)] fun g=>g=nxR k b:=by
 refine fnG Tryz.func88 (by kernel_rfl) rfl (Nat.le_of_ble_eq_true (by kernel_rfl)) (by kernel_rfl) ?_
 refine(Zc0 k).cal fun q hq=>?_
 subst hq
 unfold nxR
 refine EvIf.dec (fun(h:szI k < 0)=>?_) (fun(h:¬szI k < 0)=>?_)
 ·have e:nxE k b=21:=by
   unfold nxE
   rw[if_pos (fun hk=>by unfold szI at h;rw[if_pos hk] at h;omega)]
  rw[e]
  exact rfl
 have hk:1≤k∧k≤4:=Decidable.byContradiction fun hk=>h (by unfold szI;rw[if_neg hk];decide)
 have hz:szI k=szN k:=by unfold szI;rw[if_pos hk]
 rw[hz]
 have hz8:=Z57 k
 refine EvIf.dec (fun h=>?_) (fun h=>?_)
 ·have h:((b.length:Nat):Int) < szN k:=by simpa using h
  have e:nxE k b=20:=by
   unfold nxE
   rw[if_neg (fun h=>h hk),if_pos (by omega)]
  rw[e]
  exact rfl
 have h:¬((b.length:Nat):Int) < szN k:=by simpa using h
 have hbz:=h
 have hlen:∀r∈b.map gBy,r.length=1:=fun r hr=>by
  obtain⟨x,-,rfl⟩:=List.mem_map.1 hr
  rfl
 refine⟨⟨by omega,by omega,by rw[List.length_map];omega⟩,⟨hlen,?_⟩⟩
 have eS:E3 (b.map gBy) (0:Int).toNat ((szN k:Nat):Int).toNat=(b.take (szN k)).map gBy:=by
  unfold E3;simp[List.map_take]
 rw[eS]
 have hL:(b.take (szN k)).length=szN k:=by rw[List.length_take];omega
 refine Ay [0,1,4,5,6,7,8,28,29] [0,1] (fun i:Nat=>[(30,gI i),(9,.v (.int .u64 (Cc ((b.take (szN k)).take i))))]) (fun _=>[]) (fun i=>i≤szN k) (fun i=>szN k - i) 0 (by omega) ⟨⟨rfl,rfl⟩,⟨rfl,rfl⟩,trivial⟩ trivial rfl fun i hi=>?_
 refine EvIf.dec (fun h=>?_) (fun h=>?_)
 ·have h:i < (b.take (szN k)).length:=by simpa using h
  refine EvIdx.of (by simpa using h) fun x hx=>?_
  refine⟨by decide,⟨by omega,i+1,by omega,(by dsimp only;omega),?_⟩⟩
  refine⟨?_,?_,rfl⟩<;>repeat' (first | exact True.intro | with_reducible rfl | exact rfl | refine And.intro ?_ ?_)
  have hlt:Cc ((b.take (szN k)).take i) < 2 ^ 56:=by
   have h1:=Fk ((b.take (szN k)).take i)
   refine Nat.lt_of_lt_of_le h1 ?_
   rw[show(2:Nat) ^ 56=256 ^ 7 by decide]
   exact Nat.pow_le_pow_right (by decide) (by rw[List.length_take];omega)
  rw[Ba hx,L4]
  exact congrArg (fun n=>some (G.v (.int .u64 n))) (Z4w _ _ hlt x.toNat_lt)
 ·have ht:(b.take (szN k)).take i=b.take (szN k):=List.take_of_length_le (by simp at h;omega)
  rw[ht]
  have e1:nxE k b=if(k=2∧big < nxV k b)∨(k=4∧1 < nxV k b) then 21 else if k≠3 then 0 else if 1024 < nxV k b then 22 else if b.length < 2+nxV k b then 20 else 0:=by
   unfold nxE
   rw[if_neg (fun h=>h hk),if_neg (by omega)]
  have hv:Cc (b.take (szN k))=nxV k b:=rfl
  rw[hv]
  generalize hvv:nxV k b=v at *
  have hN:nxN k b=if k=3 then 2+v else szN k:=by unfold nxN;rw[hvv]
  have hF:nxF k b=if k=3 then⟨3,0,⟨((b.drop 2).take v).toArray⟩⟩ else⟨k,v,⟨#[]⟩⟩:=by unfold nxF;rw[hvv]
  refine EvIf.beq (fun(k2:k=2)=>?_) (fun(k2:¬k=2)=>?_)
  ·refine EvIf.dec (fun(h:(v:Int) > big)=>?_) (fun(h:¬(v:Int) > big)=>?_)
   ·rw[if_pos (.inl ⟨k2,h⟩)] at e1
    rw[e1]
    exact rfl
   ·rw[if_neg (by rintro(h2 | h2)<;>omega),if_pos (by omega)] at e1
    refine EvIf.beq (fun h4=>absurd h4 (show ¬k=4 by omega)) fun _=>?_
    refine EvIf.bne (fun _=>?_) (fun h3=>absurd h3 (show ¬k=3 by omega))
    rw[e1,if_pos rfl,if_pos rfl,hN,hF,if_neg (by omega),if_neg (by omega)]
    exact⟨by unfold big at h;omega,rfl⟩
  ·refine EvIf.beq (fun(k4:k=4)=>?_) (fun(k4:¬k=4)=>?_)
   ·refine EvIf.dec (fun(h:(v:Int) > 1)=>?_) (fun(h:¬(v:Int) > 1)=>?_)
    ·rw[if_pos (.inr ⟨k4,by omega⟩)] at e1
     rw[e1]
     exact rfl
    ·rw[if_neg (by rintro(h2 | h2)<;>omega),if_pos (by omega)] at e1
     refine EvIf.bne (fun _=>?_) (fun h3=>absurd h3 (show ¬k=3 by omega))
     rw[e1,if_pos rfl,if_pos rfl,hN,hF,if_neg (by omega),if_neg (by omega)]
     exact⟨by omega,rfl⟩
   ·rw[if_neg (by rintro(h2 | h2)<;>omega)] at e1
    have hvl:v < 256 ^ szN k:=by
     have:=Fk (b.take (szN k))
     rw[hL] at this
     rw[←hvv];exact this
    refine EvIf.bne (fun(h3:k≠3)=>?_) (fun(h3:k=3)=>?_)
    ·have k1:k=1:=by omega
     subst k1
     have hvl:v < 256:=hvl
     rw[if_pos (by decide)] at e1
     rw[e1,if_pos rfl,if_pos rfl,hN,hF,if_neg (by decide),if_neg (by decide)]
     exact⟨by omega,rfl⟩
    ·subst h3
     have hvl:v < 65536:=hvl
     rw[if_neg (fun h=>h rfl)] at e1
     refine EvIf.dec (fun(h:(v:Int) > 1024)=>?_) (fun(h:¬(v:Int) > 1024)=>?_)
     ·rw[if_pos (by omega)] at e1
      rw[e1]
      exact rfl
     ·rw[if_neg (by omega)] at e1
      have z2:szN 3=2:=rfl
      rw[z2]
      have hbl:(b.map gBy).length=b.length:=List.length_map _
      rw[z2] at hbz hL
      refine⟨by rw[hbl];omega,⟨by omega,?_⟩⟩
      refine EvIf.dec (fun(h5:(((b.map gBy).length:Nat):Int) - (2:Nat) < v)=>?_) (fun(h5:¬(((b.map gBy).length:Nat):Int) - (2:Nat) < v)=>?_)
      ·rw[hbl] at h5
       rw[if_pos (by omega)] at e1
       rw[e1]
       exact rfl
      ·rw[hbl] at h5
       rw[if_neg (by omega)] at e1
       rw[e1,if_pos rfl,if_pos rfl,hN,hF,if_pos rfl,if_pos rfl]
       refine⟨by omega,⟨by omega,⟨⟨by omega,by omega,by rw[hbl];omega⟩,⟨hlen,EvBytes.mk ⟨(b.drop 2).take v,?_,⟨by omega,⟨by omega,rfl⟩⟩⟩⟩⟩⟩⟩
       unfold E3
       rw[show(((2:Nat):Int)+(v:Int)).toNat=v+2 by omega,show(((2:Nat):Int)).toNat=2 from rfl,←List.map_take,←List.map_drop,List.drop_take]
       rfl
end Go.Proofs.YtihfaocdpmmooaaGreat
namespace Go.Proofs.YtihfaocdpmmooaaGreat
open Go.RowKit
set_option maxRecDepth 100000
abbrev tFd:Nat:=94
def gNi (k:Int):List G:=[gI k]
theorem Jl (b:Bs)(n:Nat):E3 (b.map gBy) (n:Int).toNat (((b.map gBy).length:Nat):Int).toNat=(b.drop n).map gBy:=by
 unfold E3
 rw[Int.toNat_natCast,Int.toNat_natCast,List.take_of_length_le (by simp),List.map_drop]
theorem Ip (b:Bs):∀r∈b.map gBy,r.length=1:=fun r hr=>by
 obtain⟨x,-,rfl⟩:=List.mem_map.1 hr
 rfl
def smG (s:Sm):G:=.tup [.sl (s.l.map Do),gI s.n,gI s.e]
theorem Sk (ks:List Int)(b:Bs)(hk:ks.length≤1000000)(hb:b.length≤1000000000):FnV Tryz.prog 49 [.sl (ks.map gNi),.sl (b.map gBy)] fun g=>g=smG (Ad ks b):=by
 refine fnG Tryz.func49 (by kernel_rfl) rfl (Nat.le_of_ble_eq_true (by kernel_rfl)) (by kernel_rfl) ?_
 refine Ay [0,1,5,6,14,15] [0] (fun i:Nat=>[(16,gI i),(8,gI ((Ad (ks.take i) b).n:Int)),(7,.osl 1)]) (fun i=>[(1,.slc ((Ad (ks.take i) b).l.map Do) tFd 3)]) (fun i=>i≤ks.length∧(Ad (ks.take i) b).e=0) (fun i=>ks.length - i) 0 ⟨by omega,rfl⟩ ⟨⟨rfl,rfl⟩,⟨rfl,rfl⟩,⟨rfl,rfl⟩,trivial⟩ ⟨⟨rfl,rfl,rfl⟩,trivial⟩ rfl fun i hi=>?_
 obtain⟨hi,h0⟩:=hi
 refine EvIf.dec (fun h=>?_) (fun h=>?_)
 ·refine EvIdx.of (by simpa using h) fun k hx=>?_
  have hlt:=Ch hx
  have hle:=Bz (ks.take i) b
  refine⟨⟨by omega,by rw[List.length_map];omega,by omega⟩,⟨Ip b,?_⟩⟩
  rw[Jl]
  refine(Zbf k (b.drop (Ad (ks.take i) b).n) (by rw[List.length_drop];omega)).cal fun q hq=>?_
  subst hq
  unfold nxR
  refine EvIf.bne (fun he=>?_) (fun he=>?_)
  ·rw[Oe ks b i k hx h0 he]
   exact rfl
  ·have he:nxE k (b.drop (Ad (ks.take i) b).n)=0:=he
   have hs:=L5 (ks.take i) b k h0
   rw[←Ba hx,if_neg (fun h=>h he)] at hs
   have hl:=hle.2 h0
   rw[List.length_take] at hl
   have hn2:=Z4y he
   rw[List.length_drop] at hn2
   rw[if_pos he,if_pos he]
   refine⟨by simp;omega,⟨by omega,⟨by omega,i+1,⟨by omega,by rw[hs]⟩,(by dsimp only;omega),?_⟩⟩⟩
   refine⟨?_,?_,rfl⟩<;>repeat' (first | exact True.intro | with_reducible rfl | exact rfl | refine And.intro ?_ ?_)
   ·exact eqI (by rw[hs];simp only;omega)
   ·exact eqR (by rw[hs,List.map_append];rfl)
 ·have ht:ks.take i=ks:=List.take_of_length_le (by simp at h;omega)
  rw[ht] at h0⊢
  unfold smG
  rw[h0]
  exact rfl
theorem Z2x (ks:List Int)(b:Bs)(hk:ks.length≤1000000)(hb:b.length≤1000000000):FnV Tryz.prog 94 [.sl (ks.map gNi),.sl (b.map gBy)] fun g=>g=.tup [.sl ((Hf ks b).l.map Do),gI (Hf ks b).e]:=by
 refine fnG Tryz.func94 (by kernel_rfl) rfl (Nat.le_of_ble_eq_true (by kernel_rfl)) (by kernel_rfl) ?_
 refine(Sk ks b hk hb).cal fun q hq=>?_
 subst hq
 unfold smG Hf
 have hle:=(Bz ks b).1
 refine EvIf.bne (fun he=>?_) (fun he=>?_)
 ·rw[if_pos he];exact rfl
 ·have he:(Ad ks b).e=0:=he
  rw[if_neg (fun h=>h he)]
  refine EvIf.dec (fun h=>?_) (fun h=>?_)
  ·have h:(((Ad ks b).n:Nat):Int) < b.length:=by simpa using h
   rw[if_pos (by omega)];exact rfl
  ·have h:¬(((Ad ks b).n:Nat):Int) < b.length:=by simpa using h
   rw[if_neg (by omega),he];exact rfl
end Go.Proofs.YtihfaocdpmmooaaGreat
namespace Go.Proofs.YtihfaocdpmmooaaGreat
open Go.RowKit
set_option maxRecDepth 100000
def Un (n:Int)(r:Nat):Bs:=List.replicate (8 - r) 0++(be8 n).drop (8 - r)
theorem Z1u (n:Int)(r:Nat)(hr:r < 8):(Un n r)[7 - r]?=some 0∧(Un n r).set (7 - r) (byI (n / (256 ^ r:Nat)))=Un n (r+1):=by
 match r,hr with
 | 0,_=>exact⟨rfl,by simp[Un,be8,List.replicate]⟩
 | 1,_=>exact⟨rfl,by simp[Un,be8,List.replicate]⟩
 | 2,_=>exact⟨rfl,by simp[Un,be8,List.replicate]⟩
 | 3,_=>exact⟨rfl,by simp[Un,be8,List.replicate]⟩
 | 4,_=>exact⟨rfl,by simp[Un,be8,List.replicate]⟩
 | 5,_=>exact⟨rfl,by simp[Un,be8,List.replicate]⟩
 | 6,_=>exact⟨rfl,by simp[Un,be8,List.replicate]⟩
 | 7,_=>exact⟨rfl,by simp[Un,be8]⟩
def Z8v (f:RFd):G:=.tup [.sl ((if fdE f=0 then fdB f else []).map gBy),gI (fdE f)]
theorem E8 {f:RFd}{e:Int}(h:fdE f=e)(h0:e≠0):G.tup [.sl [],gI e]=Z8v f:=by
 unfold Z8v;rw[h,if_neg h0];rfl
theorem Rj {f:RFd}{rows:List (List G)}(h:fdE f=0)(hr:rows=(fdB f).map gBy):G.tup [.sl rows,gI 0]=Z8v f:=by
 unfold Z8v;rw[h,if_pos rfl,hr]
theorem Zdw (f:RFd):FnV Tryz.prog 87 [.agg (Do f)] fun g=>g=Z8v f:=by
 obtain⟨kd,n,s⟩:=f
 refine fnG Tryz.func87 (by kernel_rfl) rfl (Nat.le_of_ble_eq_true (by kernel_rfl)) (by kernel_rfl) ?_
 refine EvIf.beq (fun(k3:kd=3)=>?_) (fun(k3:¬kd=3)=>?_)
 ·subst k3
  refine EvIf.bne (fun hn=>?_) (fun hn=>?_)
  ·exact E8 (e:=21) (by unfold fdE;rw[if_pos rfl,if_pos hn]) (by decide)
  ·have hn:n=0:=hn
   subst hn
   refine EvIf.dec (fun h=>?_) (fun h=>?_)
   ·have h:((s.size:Nat):Int) > 1024:=h
    exact E8 (e:=22) (by unfold fdE;rw[if_pos rfl,if_neg (fun h=>h rfl),if_pos (by show s.size > 1024;omega)]) (by decide)
   ·have h:¬((s.size:Nat):Int) > 1024:=h
    have he:fdE ⟨3,0,s⟩=0:=by
     unfold fdE
     rw[if_pos rfl,if_neg (fun h=>h rfl),if_neg (by show ¬s.size > 1024;omega)]
    have t1:((s.size:Nat):Int).tdiv 256=((s.size / 256:Nat):Int):=rfl
    have t2:((s.size:Nat):Int).tmod 256=((s.size % 256:Nat):Int):=rfl
    refine⟨by decide,⟨by show _≤((s.size:Nat):Int).tdiv 256∧((s.size:Nat):Int).tdiv 256≤_;rw[t1];omega,⟨by decide,?_⟩⟩⟩
    have hsz:s.data.toList.length=s.size:=by rw[Array.length_toList];rfl
    refine⟨by rw[List.length_map];show 2+s.data.toList.length≤_;rw[hsz];omega,Rj he ?_⟩
    unfold fdB
    rw[if_pos rfl]
    show [[G.v (.int .u8 (((s.size:Nat):Int).tdiv 256 % 256))],[G.v (.int .u8 (((s.size:Nat):Int).tmod 256 % 256))]]++_=_
    simp only[List.map,Ez]
    rw[t1,t2]
    have a1:((s.size / 256:Nat):Int) % 256=((s.size:Nat):Int) / 256 % 256:=by omega
    have a2:((s.size % 256:Nat):Int) % 256=((s.size:Nat):Int) % 256:=by omega
    rw[a1,a2]
    rfl
 ·refine EvIf.bneS (fun(hs:s≠⟨#[]⟩)=>?_) (fun(hs:s=⟨#[]⟩)=>?_)
  ·exact E8 (e:=21) (by unfold fdE;rw[if_neg k3,if_pos (.inl hs)]) (by decide)
  refine EvIf.dec (fun(hn:n < 0)=>?_) (fun(hn:¬n < 0)=>?_)
  ·exact E8 (e:=21) (by unfold fdE;rw[if_neg k3,if_pos (.inr hn)]) (by decide)
  have hng:¬(s≠⟨#[]⟩∨n < 0):=fun h=>h.elim (fun h=>h hs) hn
  have end1:∀{k:Int} {m:Int},0≤n→n≤m→(k=1∧m=255∨k=4∧m=1)→kd=k→G.tup [.sl [[.v (.int .u8 (IntKind.u8.wrap n))]],gI 0]=Z8v ⟨kd,n,s⟩:=fun {k m} h0 h1 h2 e=>by
   refine Rj ?_ ?_
   ·unfold fdE
    rw[if_neg k3,if_neg hng]
    show(if kd=1∧n≤255 then(0:Int) else if kd=4∧n≤1 then 0 else if kd=2∧n≤big then 0 else 21)=0
    by_cases hk:kd=1∧n≤255
    ·rw[if_pos hk]
    ·rw[if_neg hk]
     rw[if_pos (by omega)]
   ·unfold fdB
    rw[if_neg k3,if_neg (by show ¬kd=2;omega)]
    simp only[List.map,Ez,N6]
  have n0:0≤n:=by omega
  have m1:∀h:kd=1,¬n≤255→fdE ⟨kd,n,s⟩=21:=fun h hn=>by
   unfold fdE
   rw[if_neg k3,if_neg hng]
   show(if kd=1∧n≤255 then(0:Int) else if kd=4∧n≤1 then 0 else if kd=2∧n≤big then 0 else 21)=21
   rw[if_neg (by omega),if_neg (by omega),if_neg (by omega)]
  have m2:¬(kd=1∧n≤255)→¬(kd=4∧n≤1)→¬(kd=2∧n≤big)→fdE ⟨kd,n,s⟩=21:=fun h1 h2 h3=>by
   unfold fdE
   rw[if_neg k3,if_neg hng,if_neg h1,if_neg h2,if_neg h3]
  refine EvIf.beq (fun(k1:kd=1)=>?_) (fun(k1:¬kd=1)=>?_)
  ·refine EvIf.dec (fun(h:n≤255)=>?_) (fun(h:¬n≤255)=>?_)
   ·exact end1 n0 h (.inl ⟨rfl,rfl⟩) k1
   ·refine EvIf.beq (fun h4=>absurd h4 (show ¬kd=4 by omega)) fun _=>?_
    refine EvIf.beq (fun h4=>absurd h4 (show ¬kd=2 by omega)) fun _=>?_
    exact E8 (m2 (by omega) (by omega) (by omega)) (by decide)
  refine EvIf.beq (fun(k4:kd=4)=>?_) (fun(k4:¬kd=4)=>?_)
  ·refine EvIf.dec (fun(h:n≤1)=>?_) (fun(h:¬n≤1)=>?_)
   ·exact end1 n0 h (.inr ⟨rfl,rfl⟩) k4
   ·refine EvIf.beq (fun h4=>absurd h4 (show ¬kd=2 by omega)) fun _=>?_
    exact E8 (m2 (by omega) (by omega) (by omega)) (by decide)
  refine EvIf.beq (fun(k2:kd=2)=>?_) (fun(k2:¬kd=2)=>?_)
  ·refine EvIf.dec (fun(hnb:n≤big)=>?_) (fun(h:¬n≤big)=>?_)
   ·have he:fdE ⟨kd,n,s⟩=0:=by
     unfold fdE
     rw[if_neg k3,if_neg hng,if_neg (fun h=>k1 h.1),if_neg (fun h=>k4 h.1),if_pos ⟨k2,hnb⟩]
    refine⟨by decide,?_⟩
    refine Ay [1,2,3] [0,1] (fun r:Nat=>[(6,gI (7 - r)),(5,gI (n / (256 ^ r:Nat))),(4,.osl 2)]) (fun r=>[(2,.slc ((Un n r).map gBy) tU8 1)]) (fun r=>r≤8) (fun r=>8 - r) 0 (by omega) ⟨⟨rfl,rfl⟩,⟨rfl,eqI (by simp)⟩,⟨rfl,rfl⟩,trivial⟩ ⟨⟨rfl,rfl,rfl⟩,trivial⟩ rfl fun r hr=>?_
    refine EvIf.dec (fun(h:(7:Int) - r ≥ 0)=>?_) (fun(h:¬(7:Int) - r ≥ 0)=>?_)
    ·have hlen:((Un n r).map gBy).length=8:=by rw[List.length_map];unfold Un be8;simp<;>omega
     refine⟨by decide,⟨⟨by omega,by rw[hlen];omega⟩,?_⟩⟩
     obtain⟨g1,g2⟩:=Z1u n r (by omega)
     have g3:((7:Int) - r).toNat=7 - r:=by omega
     refine EvSet.at (f:=gBy) (x:=0) (y:=byI (n / (256 ^ r:Nat))) (by rw[g3]<;>exact g1) (fun k hk=>?_) (by rw[g3]<;>exact g2) ?_
     ·have e:gBy (byI (n / (256 ^ r:Nat)))=[.v (.int .u8 ((n / (256 ^ r:Nat)).tmod 256 % 256))]:=by
       rw[Ez,Int.tmod_eq_emod_of_nonneg (Int.ediv_nonneg n0 (by exact Int.natCast_nonneg _)),Int.emod_emod]
      rw[e] at hk
      exact hk
     ·have hq:(n / (256 ^ r:Nat)).tdiv 256=n / (256 ^ (r+1):Nat):=by
       rw[Int.tdiv_eq_ediv_of_nonneg (Int.ediv_nonneg n0 (by exact Int.natCast_nonneg _)),Nat.pow_succ,Int.natCast_mul,Int.ediv_ediv_of_nonneg (by exact Int.natCast_nonneg _)]
       rfl
      have hq2:n / (256 ^ (r+1):Nat)≤n:=Int.ediv_le_self _ n0
      have hq3:0≤n / (256 ^ (r+1):Nat):=Int.ediv_nonneg n0 (by exact Int.natCast_nonneg _)
      refine⟨by decide,⟨by rw[hq];unfold big at hnb;omega,⟨by omega,r+1,by omega,(by dsimp only;omega),?_⟩⟩⟩
      refine⟨?_,?_,rfl⟩<;>repeat' (first | exact True.intro | with_reducible rfl | exact rfl | refine And.intro ?_ ?_)
      ·exact eqI (by omega)
      ·exact eqI hq
      ·exact eqR (by rw[g2])
    ·have:r=8:=by omega
     subst this
     exact Rj he (by unfold fdB;rw[if_neg k3,if_pos k2];rfl)
   ·exact E8 (m2 (by omega) (by omega) (by omega)) (by decide)
  exact E8 (m2 (by omega) (by omega) (by omega)) (by decide)
theorem Z43 (l:List RFd)(hl:l.length≤800000):FnV Tryz.prog 48 [.sl (l.map Do)] fun g=>g=.tup [.sl ((Q9 l).map gBy),gI (Gd l)]:=by
 refine fnG Tryz.func48 (by kernel_rfl) rfl (Nat.le_of_ble_eq_true (by kernel_rfl)) (by kernel_rfl) ?_
 refine Ay [0,2,3] [0] (fun x:Nat=>[(5,gI x),(4,.osl 1)]) (fun x=>[(1,.slc ((Fa (l.take x)).map gBy) tU8 1)]) (fun x=>x≤l.length∧∀y∈l.take x,fdE y=0) (fun x=>l.length - x) 0 ⟨by omega,by simp⟩ ⟨⟨rfl,rfl⟩,⟨rfl,rfl⟩,trivial⟩ ⟨⟨rfl,rfl,rfl⟩,trivial⟩ rfl fun i hi=>?_
 obtain⟨hi,hz⟩:=hi
 refine EvIf.dec (fun h=>?_) (fun h=>?_)
 ·refine EvIdx.of (by simpa using h) fun x hx=>?_
  have hlt:=Ch hx
  have hB:=Jo hz
  have hT:(l.take i).length≤800000:=by rw[List.length_take];omega
  refine(Zdw x).cal fun q hq=>?_
  subst hq
  unfold Z8v
  refine EvIf.bne (fun(he:fdE x≠0)=>?_) (fun(he:fdE x=0)=>?_)
  ·have e1:=Zl hx hz he
   unfold Q9
   rw[e1,if_neg he,if_neg he]
   exact rfl
  ·rw[if_pos he]
   have hB1:=Yu he
   refine⟨fun r hr=>by obtain⟨c,-,rfl⟩:=List.mem_map.1 hr;exact⟨rfl,rfl⟩,⟨by simp;omega,⟨by omega,i+1,⟨by omega,fun y hy=>?_⟩,(by dsimp only;omega),?_⟩⟩⟩
   ·rw[Ba hx] at hy
    rcases List.mem_append.1 hy with hy | hy
    ·exact hz y hy
    ·rw[List.mem_singleton.1 hy];exact he
   refine⟨?_,?_,rfl⟩<;>repeat' (first | exact True.intro | with_reducible rfl | exact rfl | refine And.intro ?_ ?_)
   exact eqR (by rw[Ba hx,P7,List.map_append])
 ·have ht:l.take i=l:=List.take_of_length_le (by simp at h;omega)
  rw[ht] at hz⊢
  have e1:=G4 hz
  unfold Q9
  rw[e1,if_pos rfl]
  exact rfl
theorem Z8d (v x:Nat)(hv:v * 256+x < 2 ^ 64)(hx:x < 256):IntKind.wrap .u64 (IntKind.wrap .u64 ((v:Int) * 256)+IntKind.wrap .u64 (x:Int))=((v * 256+x:Nat):Int):=by
 simp only[IntKind.wrap,IntKind.bits,IntKind.signed,Bool.false_and,if_false,Bool.false_eq_true]
 omega
theorem Z3o (b:Bs)(hb:b.length≤8):FnV Tryz.prog 89 [.sl (b.map gBy)] fun g=>g=.v (.int .u64 (Cc b)):=by
 refine fnG Tryz.func89 (by kernel_rfl) rfl (Nat.le_of_ble_eq_true (by kernel_rfl)) (by kernel_rfl) ?_
 refine Ay [0] [] (fun i:Nat=>[(4,gI i),(3,.v (.int .u64 (Cc (b.take i))))]) (fun _=>[]) (fun i=>i≤b.length) (fun i=>b.length - i) 0 (by omega) ⟨⟨rfl,rfl⟩,⟨rfl,rfl⟩,trivial⟩ trivial rfl fun i hi=>?_
 refine EvIf.dec (fun h=>?_) (fun h=>?_)
 ·refine EvIdx.of (by simpa using h) fun x hx=>?_
  have hlt:=Ch hx
  refine⟨by omega,i+1,by omega,(by dsimp only;omega),?_⟩
  refine⟨?_,?_,rfl⟩<;>repeat' (first | exact True.intro | with_reducible rfl | exact rfl | refine And.intro ?_ ?_)
  have hlt2:Cc (b.take (i+1)) < 2 ^ 64:=by
   refine Nat.lt_of_lt_of_le (Fk _) ?_
   rw[show(2:Nat) ^ 64=256 ^ 8 by decide]
   exact Nat.pow_le_pow_right (by decide) (by rw[List.length_take];omega)
  rw[Ba hx,L4] at hlt2⊢
  exact congrArg (fun n=>some (G.v (.int .u64 n))) (Z8d _ _ hlt2 x.toNat_lt)
 ·have ht:b.take i=b:=List.take_of_length_le (by simp at h;omega)
  rw[ht]
  exact rfl
end Go.Proofs.YtihfaocdpmmooaaGreat
namespace Go.Proofs.YtihfaocdpmmooaaGreat
open Go.RowKit
set_option maxRecDepth 100000
theorem Z7c (b:Bs)(n m:Nat):E3 (b.map gBy) (n:Int).toNat ((n:Int)+(m:Int)).toNat=((b.drop n).take m).map gBy:=by
 unfold E3
 rw[show((n:Int)+(m:Int)).toNat=n+m by omega,Int.toNat_natCast,List.map_take,List.map_drop,List.drop_take]
 congr 1;omega
set_option maxHeartbeats 1000000 in
theorem Z5s (ks:List Int)(b:Bs)(hk:ks.length≤1000000)(hb:b.length≤1000000000):FnV Tryz.prog 50 [.sl (ks.map gNi),.sl (b.map gBy)] fun g=>g=smG (Ad ks b):=by
 refine fnG Tryz.func50 (by kernel_rfl) rfl (Nat.le_of_ble_eq_true (by kernel_rfl)) (by kernel_rfl) ?_
 refine Ay [0,1,5,6] [0] (fun i:Nat=>[(9,gI i),(8,gI ((Ad (ks.take i) b).n:Int)),(7,.osl 1)]) (fun i=>[(1,.slc ((Ad (ks.take i) b).l.map Do) tFd 3)]) (fun i=>i≤ks.length∧(Ad (ks.take i) b).e=0) (fun i=>ks.length - i) 0 ⟨by omega,rfl⟩ ⟨⟨rfl,rfl⟩,⟨rfl,rfl⟩,⟨rfl,rfl⟩,trivial⟩ ⟨⟨rfl,rfl,rfl⟩,trivial⟩ rfl fun i hi=>?_
 obtain⟨hi,h0⟩:=hi
 refine EvIf.dec (fun h=>?_) (fun h=>?_)
 ·refine EvIdx.of (by simpa using h) fun k hx=>?_
  have hlt:=Ch hx
  have hle:=Bz (ks.take i) b
  have hE:=Oe ks b i k hx h0
  have hs:=L5 (ks.take i) b k h0
  rw[←Ba hx] at hs
  have hl:=hle.2 h0
  rw[List.length_take] at hl
  have bad:∀e:Int,e≠0→nxE k (b.drop (Ad (ks.take i) b).n)=e→smG ⟨e,[],0⟩=smG (Ad ks b):=fun e h1 h2=>by
   rw[hE (by rw[h2];exact h1),h2]
  generalize (Ad (ks.take i) b).n=at_ at *
  generalize hd:b.drop at_=d at *
  refine EvIf.dec (fun(h1:k < 1)=>?_) (fun(h1:¬k < 1)=>?_)
  ·exact bad 21 (by decide) (by unfold nxE;rw[if_pos (by omega)])
  refine EvIf.dec (fun(h2:k > 4)=>?_) (fun(h2:¬k > 4)=>?_)
  ·exact bad 21 (by decide) (by unfold nxE;rw[if_pos (by omega)])
  refine⟨⟨by omega,by show k < 5;omega⟩,?_⟩
  have hrow:∀row:List G,[[G.v (.int .i64 0)],[.v (.int .i64 1)],[.v (.int .i64 8)],[.v (.int .i64 2)],[.v (.int .i64 1)]][((k.toNat:Nat):Int).toNat]?=some row→row=[gI (szN k)]:=fun row h=>by
   have hk4:k=1∨k=2∨k=3∨k=4:=by omega
   rcases hk4 with e | e | e | e<;>(rw[e] at h⊢;exact(Option.some.inj h).symm)
  have hk14:1≤k∧k≤4:=by omega
  have hz8:=Z57 k
  have hdl:d.length=b.length - at_:=by rw[←hd,List.length_drop]
  refine EvIdx.mk ⟨by omega,by show((k.toNat:Nat):Int) < 5;omega⟩ fun row hr=>?_
  obtain rfl:=hrow row hr
  refine⟨by omega,?_⟩
  refine EvIf.dec (fun(h3:(at_:Int)+szN k > (b.map gBy).length)=>?_) (fun(h3:¬(at_:Int)+szN k > (b.map gBy).length)=>?_)
  ·rw[List.length_map] at h3
   exact bad 20 (by decide) (by unfold nxE;rw[if_neg (fun h=>h hk14),if_pos (by omega)])
  rw[List.length_map] at h3
  refine⟨by omega,⟨⟨by omega,by omega,by rw[List.length_map];omega⟩,⟨Ip b,?_⟩⟩⟩
  rw[Z7c,hd]
  refine(Z3o (d.take (szN k)) (by rw[List.length_take];omega)).cal fun q hq=>?_
  subst hq
  have hvl:nxV k d < 256 ^ szN k:=by
   have:=Fk (d.take (szN k))
   rw[List.length_take,Nat.min_eq_left (by omega)] at this
   exact this
  have hN:nxN k d=if k=3 then 2+nxV k d else szN k:=rfl
  have hF:nxF k d=if k=3 then⟨3,0,⟨((d.drop 2).take (nxV k d)).toArray⟩⟩ else⟨k,nxV k d,⟨#[]⟩⟩:=rfl
  have e1:nxE k d=if(k=2∧big < nxV k d)∨(k=4∧1 < nxV k d) then 21 else if k≠3 then 0 else if 1024 < nxV k d then 22 else if d.length < 2+nxV k d then 20 else 0:=by
   unfold nxE
   rw[if_neg (fun h=>h hk14),if_neg (by omega)]
  have hv:Cc (d.take (szN k))=nxV k d:=rfl
  rw[hv]
  generalize nxV k d=v at *
  refine⟨by omega,?_⟩
  refine EvIf.beq (fun(k2:k=2)=>?_) (fun(k2:¬k=2)=>?_)
  ·refine EvIf.dec (fun(h:(v:Int) > big)=>?_) (fun(h:¬(v:Int) > big)=>?_)
   ·rw[if_pos (.inl ⟨k2,h⟩)] at e1
    exact bad 21 (by decide) e1
   ·rw[if_neg (by rintro(h2 | h2)<;>omega),if_pos (by omega)] at e1
    refine EvIf.beq (fun h4=>absurd h4 (show ¬k=4 by omega)) fun _=>?_
    refine EvIf.bne (fun _=>?_) (fun h3=>absurd h3 (show ¬k=3 by omega))
    rw[if_neg (fun h=>h e1),hN,hF,if_neg (by omega),if_neg (by omega)] at hs
    refine⟨by unfold big at h;omega,⟨by simp;omega,⟨by omega,i+1,⟨by omega,by rw[hs]⟩,(by dsimp only;omega),?_⟩⟩⟩
    refine⟨?_,?_,rfl⟩<;>repeat' (first | exact True.intro | with_reducible rfl | exact rfl | refine And.intro ?_ ?_)
    ·exact eqI (by rw[hs];simp only;omega)
    ·exact eqR (by rw[hs,List.map_append];rfl)
  ·refine EvIf.beq (fun(k4:k=4)=>?_) (fun(k4:¬k=4)=>?_)
   ·refine EvIf.dec (fun(h:(v:Int) > 1)=>?_) (fun(h:¬(v:Int) > 1)=>?_)
    ·rw[if_pos (.inr ⟨k4,by omega⟩)] at e1
     exact bad 21 (by decide) e1
    ·rw[if_neg (by rintro(h2 | h2)<;>omega),if_pos (by omega)] at e1
     refine EvIf.bne (fun _=>?_) (fun h3=>absurd h3 (show ¬k=3 by omega))
     rw[if_neg (fun h=>h e1),hN,hF,if_neg (by omega),if_neg (by omega)] at hs
     refine⟨by omega,⟨by simp;omega,⟨by omega,i+1,⟨by omega,by rw[hs]⟩,(by dsimp only;omega),?_⟩⟩⟩
     refine⟨?_,?_,rfl⟩<;>repeat' (first | exact True.intro | with_reducible rfl | exact rfl | refine And.intro ?_ ?_)
     ·exact eqI (by rw[hs];simp only;omega)
     ·exact eqR (by rw[hs,List.map_append];rfl)
   ·rw[if_neg (by rintro(h2 | h2)<;>omega)] at e1
    refine EvIf.bne (fun(k3:k≠3)=>?_) (fun(k3:k=3)=>?_)
    ·have k1:k=1:=by omega
     subst k1
     have hvl:v < 256:=hvl
     rw[if_pos (by decide)] at e1
     rw[if_neg (fun h=>h e1),hN,hF,if_neg (by decide),if_neg (by decide)] at hs
     refine⟨by omega,⟨by simp;omega,⟨by omega,i+1,⟨by omega,by rw[hs]⟩,(by dsimp only;omega),?_⟩⟩⟩
     refine⟨?_,?_,rfl⟩<;>repeat' (first | exact True.intro | with_reducible rfl | exact rfl | refine And.intro ?_ ?_)
     ·exact eqI (by rw[hs];simp only;omega)
     ·exact eqR (by rw[hs,List.map_append];rfl)
    ·subst k3
     have hvl:v < 65536:=hvl
     have z2:szN 3=2:=rfl
     rw[z2] at h3 hz8⊢
     rw[if_neg (fun h=>h rfl)] at e1
     refine EvIf.dec (fun(h:(v:Int) > 1024)=>?_) (fun(h:¬(v:Int) > 1024)=>?_)
     ·rw[if_pos (by omega)] at e1
      exact bad 22 (by decide) e1
     ·rw[if_neg (by omega)] at e1
      refine⟨by omega,⟨by omega,?_⟩⟩
      refine EvIf.dec (fun(h5:(at_:Int)+(2:Nat)+v > (b.map gBy).length)=>?_) (fun(h5:¬(at_:Int)+(2:Nat)+v > (b.map gBy).length)=>?_)
      ·rw[List.length_map] at h5
       rw[if_pos (by omega)] at e1
       exact bad 20 (by decide) e1
      ·rw[List.length_map] at h5
       rw[if_neg (by omega)] at e1
       rw[if_neg (fun h=>h e1),hN,hF,if_pos rfl,if_pos rfl] at hs
       refine⟨by omega,⟨by omega,⟨⟨by omega,by omega,by rw[List.length_map];omega⟩,⟨Ip b,EvBytes.mk ⟨(d.drop 2).take v,?_,?_⟩⟩⟩⟩⟩
       ·unfold E3
        rw[show((at_:Int)+(2:Nat)+(v:Int)).toNat=at_+2+v by omega,show((at_:Int)+(2:Nat)).toNat=at_+2 by omega,←hd,List.drop_drop,List.map_take,List.map_drop,List.drop_take]
        congr 1
        omega
       ·refine⟨by simp;omega,⟨by omega,⟨by omega,⟨by omega,i+1,⟨by omega,by rw[hs]⟩,(by dsimp only;omega),?_⟩⟩⟩⟩
        refine⟨?_,?_,rfl⟩<;>repeat' (first | exact True.intro | with_reducible rfl | exact rfl | refine And.intro ?_ ?_)
        ·exact eqI (by rw[hs];simp only;omega)
        ·exact eqR (by rw[hs,List.map_append];rfl)
 ·have ht:ks.take i=ks:=List.take_of_length_le (by simp at h;omega)
  rw[ht] at h0⊢
  unfold smG
  rw[h0]
  exact rfl
theorem Z3v (ks:List Int)(b:Bs)(hk:ks.length≤1000000)(hb:b.length≤1000000000):FnV Tryz.prog 51 [.sl (ks.map gNi),.sl (b.map gBy)] fun g=>g=.tup [.sl ((Hf ks b).l.map Do),gI (Hf ks b).e]:=by
 refine fnG Tryz.func51 (by kernel_rfl) rfl (Nat.le_of_ble_eq_true (by kernel_rfl)) (by kernel_rfl) ?_
 refine(Z5s ks b hk hb).cal fun q hq=>?_
 subst hq
 unfold smG Hf
 refine EvIf.bne (fun he=>?_) (fun he=>?_)
 ·rw[if_pos he];exact rfl
 ·have he:(Ad ks b).e=0:=he
  rw[if_neg (fun h=>h he)]
  have hL:(b.map gBy).length=b.length:=List.length_map _
  refine EvIf.bne (fun h=>?_) (fun h=>?_)
  ·have h:(((Ad ks b).n:Nat):Int)≠(b.map gBy).length:=h
   rw[hL] at h
   rw[if_pos (by omega)];exact rfl
  ·have h:(((Ad ks b).n:Nat):Int)=(b.map gBy).length:=h
   rw[hL] at h
   rw[if_neg (by omega),he];exact rfl
end Go.Proofs.YtihfaocdpmmooaaGreat

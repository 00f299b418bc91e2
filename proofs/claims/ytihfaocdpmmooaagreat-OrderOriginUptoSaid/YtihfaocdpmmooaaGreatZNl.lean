
import Derived.Test.YtihfaocdpmmooaaGreatZNk
import Derived.Test.YtihfaocdpmmooaaGreatSxMe
namespace Go.Proofs.YtihfaocdpmmooaaGreat
open Go.RowKit
set_option maxRecDepth 100000
structure WNk (k:Nat)(n:PN):Prop where
 ws:WSt k n.st
 kk:k≤900000000
 m0:1≤n.many
 m7:n.many≤7
 self:n.self < n.many
 log:n.log.length≤150
 out:n.out.length≤700000
 jns:∀i,i < 7→(n.jns i).l.length≤150
 np:n.normal≤n.pmd
 st:n.std=true→(∀i,i < 7→0≤n.aks i∧n.aks i≤n.log.length)∧0≤n.first∧n.first≤n.log.length
theorem WNk.nb {k:Nat}{n:PN}(h:WNk k n):WNb n:=⟨h.ws.wk (by have:=h.kk;omega),h.m0,h.m7,h.self,h.log,h.out,h.jns⟩
structure ShN (s:Bool)(n:PN):Prop where
 b:s=false→n.std=false∧n.normal < n.pmd
 a:s=true→n.dead=false→n.lds=true→n.std=true
abbrev oSs (s:Bool)(n:PN)(b e:Nat):Os:=bif s then oAs n b e else oBs n b e
abbrev cS (s:Bool)(n:PN)(b e:Nat):List R:=[.abs (cl (oSs s n b e))]
theorem Z2 {l:LD}{s:ByteArray}(h:Fx l s=51):Bc l s=l:=by
 unfold Fx at h
 unfold Bc
 split at h
 ·cases h
 ·next h1 =>
  rw[if_neg h1]
  split at h
  ·cases h
  ·next h2 =>
   rw[if_neg h2]
   split at h
   ·next h3=>rw[if_pos h3]
   ·split at h<;>cases h
theorem Jm {k:Nat}{n:PN}(h:WSt k n.st)(r:ByteArray)(hb:Ch n r=true):WSt (k+1) (Bf n r).st∧(Bf n r).dead=n.dead∧(Bf n r).out=n.out:=by
 unfold Ch at hb
 unfold Bf
 split
 ·next h5 =>
  rw[if_pos h5] at hb
  have hb:=of_decide_eq_true hb
  rw[Z2 h5] at hb⊢
  unfold Dp
  rw[if_neg (by rw[hb];decide)]
  exact⟨(Z1y h (Bp n) hb).1,rfl,rfl⟩
 ·next h5 =>
  rw[if_neg h5] at hb
  split
  ·next h0=>rw[if_pos h0] at hb;cases hb
  ·next h0 =>
   rw[if_neg h0] at hb
   have hb:=of_decide_eq_true hb
   unfold Dp
   rw[if_neg (by rw[hb];decide)]
   exact⟨(Z6t h r (Decidable.not_not.1 h0) hb).1,rfl,rfl⟩
theorem Uf {m:Nat}(h0:1≤m)(h:m≤7):1≤Am m:=by unfold Am Bh;rw[if_pos (by simp;omega)];omega
theorem C7 (n:PN):∃c o,Cp n={n with cmt:=c,out:=o}:=by
 unfold Cp
 split
 ·obtain⟨o,h⟩:=(A2 {n with cmt:=Bu (Bm n)} ⟨6,n.pmd,0,Bu (Bm n),[]⟩).to
  exact⟨_,o,h⟩
 ·exact⟨n.cmt,n.out,rfl⟩
theorem J9 {n:PN}{v:Int}{l:List REnt}(h:Do n v l=false):(C8 n v l).dead=true:=by
 unfold Do at h
 have h:=of_decide_eq_false h
 unfold C8 Dp
 rw[if_pos h]
theorem Ax (n:PN)(b e:Nat)(h0:1≤n.many)(h:n.many≤7)(hs:n.self < n.many)(hw:WK n.st)(hj:∀i,i < 7→(n.jns i).l.length≤150)(ho:n.out.length≤800000)(hn:n.std=false∧n.normal < n.pmd):FnO Tryz.prog 83 [.ptr 0 0] (cB n b e) fun g rs=>g=.tup []∧∃s,rs=cS s (Br n) b e∧ShN s (Br n):=by
 refine(Z8x n b e h0 h hs hw hj ho).mono fun g rs hq=>⟨hq.1,?_⟩
 by_cases hl:((B5 n).length:Int) < Am n.many
 ·rw[if_pos hl] at hq
  refine⟨false,hq.2,?_⟩
  unfold Br
  rw[if_pos hl]
  exact⟨fun _=>hn,fun h=>by cases h⟩
 ·rw[if_neg hl] at hq
  refine⟨true,hq.2,?_⟩
  unfold Br
  rw[if_neg hl]
  by_cases ha:Do n n.pmd (F1 n)=true
  ·rw[if_pos ha]
   refine⟨fun h=>(by cases h),fun _ _ _=>?_⟩
   obtain⟨c,o,h1⟩:=C7 (Ao (Dc (C8 n n.pmd (F1 n))) ⟨3,n.pmd,0,0,F1 n⟩)
   obtain⟨o2,h2⟩:=(A2 (Dc (C8 n n.pmd (F1 n))) ⟨3,n.pmd,0,0,F1 n⟩).to
   rw[h1,h2]
   rfl
  ·rw[if_neg ha]
   rw[Bool.not_eq_true] at ha
   exact⟨fun h=>(by cases h),fun _ hd=>by rw[J9 ha] at hd;cases hd⟩
set_option maxHeartbeats 4000000 in
theorem Z65 (n:PN)(b e:Nat)(k:Nat)(h:n.dead=false→WNk k n)(view:Int):FnO Tryz.prog 41 [.ptr 0 0,gI view] (cA n b e) fun g rs=>g=.v (.bool (C3 n view).2)∧∃s,rs=cS s (C3 n view).1 b e∧(ShN true n→ShN s (C3 n view).1):=by
 obtain⟨self,many,pmd,normal,log,cmt,lds,std,jns,first,aks,hrd,out,dead,st⟩:=n
 have no:(dead=true∨view≤pmd∨Aa view many≠self)→C3 ⟨self,many,pmd,normal,log,cmt,lds,std,jns,first,aks,hrd,out,dead,st⟩ view=(⟨self,many,pmd,normal,log,cmt,lds,std,jns,first,aks,hrd,out,dead,st⟩,false):=fun hh=>by
  unfold C3;rw[if_pos hh]
 refine Bd Tryz.func41 (by kernel_rfl) rfl (Nat.le_of_ble_eq_true (by kernel_rfl)) (by kernel_rfl) (A6 (O:=oAs ⟨self,many,pmd,normal,log,cmt,lds,std,jns,first,aks,hrd,out,dead,st⟩ b e) (n0:=5) rfl) ?_
 refine EvIf.mk (fun hd=>?_) fun hd=>?_
 ·rw[no (.inl hd)]
  exact .inl (A1 (oAs ⟨self,many,pmd,normal,log,cmt,lds,std,jns,first,aks,hrd,out,dead,st⟩ b e) [] (by exact RL5) rfl ⟨_,rfl⟩ rfl rfl ⟨rfl,true,rfl,id⟩)
 have hd:dead=false:=hd
 obtain⟨h1,hkk,h2,h3,h4,h5,h6,h7,hnp,-⟩:=h hd
 clear h
 dsimp only at h1 h2 h3 h4 h5 h6 h7
 refine EvIf.dec (fun hv=>?_) fun hv=>?_
 ·rw[no (.inr (.inl hv))]
  exact .inl (A1 (oAs ⟨self,many,pmd,normal,log,cmt,lds,std,jns,first,aks,hrd,out,dead,st⟩ b e) [] (by exact RL5) rfl ⟨_,rfl⟩ rfl rfl ⟨rfl,true,rfl,id⟩)
 have hv:¬view≤pmd:=hv
 have hnp:normal≤pmd:=hnp
 have hnv:normal < view:=by omega
 refine(Cg _ _).cal fun q hq=>?_
 subst hq
 refine EvIf.bne (fun hp=>?_) fun hp=>?_
 ·rw[no (.inr (.inr hp))]
  exact .inl (A1 (oAs ⟨self,many,pmd,normal,log,cmt,lds,std,jns,first,aks,hrd,out,dead,st⟩ b e) [] (by exact RL5) rfl ⟨_,rfl⟩ rfl rfl ⟨rfl,true,rfl,id⟩)
 have hp:Aa view many=self:=hp
 have hno:¬(dead=true∨view≤pmd∨Aa view many≠self):=by
  rw[hd]
  rintro(h | h | h)
  ·cases h
  ·exact hv h
  ·exact h hp
 refine EvCall.gh (.close (oAs ⟨self,many,pmd,normal,log,cmt,lds,std,jns,first,aks,hrd,out,dead,st⟩ b e) [] (by exact RL5) ⟨_,rfl⟩ rfl (.done (.same ((Z6z ⟨self,many,pmd,normal,log,cmt,lds,std,jns,first,aks,hrd,out,dead,st⟩ b e (h1.wk (by omega)) (by show log.length≤_;omega) view).cal fun q rs hq=>?_))))
 obtain⟨rfl,rfl⟩:=hq
 obtain⟨st',out',dead',eA,hol⟩:=By ⟨self,many,view,normal,log,cmt,false,false,jns,first,aks,hrd,out,dead,st⟩ (Cb 1 view 0 eS)
 have eA:Ep ⟨self,many,pmd,normal,log,cmt,lds,std,jns,first,aks,hrd,out,dead,st⟩ view=⟨self,many,view,normal,log,cmt,false,false,jns,first,aks,hrd,out',dead',st'⟩:=eA
 by_cases ha:Jv ⟨self,many,pmd,normal,log,cmt,lds,std,jns,first,aks,hrd,out,dead,st⟩ view=true
 ·have eO:C3 ⟨self,many,pmd,normal,log,cmt,lds,std,jns,first,aks,hrd,out,dead,st⟩ view=(Br (Ao {Ep ⟨self,many,pmd,normal,log,cmt,lds,std,jns,first,aks,hrd,out,dead,st⟩ view with lds:=true,jns:=fun i=>if i=self then⟨true,normal,log⟩ else j0} ⟨1,view,0,0,[]⟩),true):=by
   unfold C3;rw[if_neg hno,if_pos ha]
  obtain⟨w1,w2,w3⟩:=Jm (n:=⟨self,many,view,normal,log,cmt,false,false,jns,first,aks,hrd,out,dead,st⟩) h1 (Cb 1 view 0 eS) ha
  have eS:Bf ⟨self,many,view,normal,log,cmt,false,false,jns,first,aks,hrd,out,dead,st⟩ (Cb 1 view 0 eS)=⟨self,many,view,normal,log,cmt,false,false,jns,first,aks,hrd,out',dead',st'⟩:=eA
  rw[eS] at w1
  dsimp only at w1
  rw[ha,eO,eA]
  dsimp only at hol
  clear eO eA ha no hno hp hv eS w2 w3
  refine .opn 0 _ _ _ rfl rfl rfl (.done ?_)
  refine EvIf.mk (fun h=>absurd h (by decide)) fun _=>?_
  have hs7:self=0∨self=1∨self=2∨self=3∨self=4∨self=5∨self=6:=by omega
  rcases hs7 with rfl | rfl | rfl | rfl | rfl | rfl | rfl
  ·refine⟨⟨Int.natCast_nonneg 0,by show((0:Nat):Int) < ((7:Nat):Int);decide⟩,?_⟩
   have hS:=C4 ⟨0,many,view,normal,log,cmt,true,false,fun i=>if i=0 then⟨true,normal,log⟩ else j0,first,aks,hrd,out',dead',st'⟩ (cl (oLs st' e)) ⟨1,view,0,0,[]⟩ (Nat.zero_le _) (by show many≤100;omega) (by show out'.length≤_;omega)
   have hol2:=A9 ⟨0,many,view,normal,log,cmt,true,false,fun i=>if i=0 then⟨true,normal,log⟩ else j0,first,aks,hrd,out',dead',st'⟩ ⟨1,view,0,0,[]⟩
   obtain⟨o,hs⟩:=(A2 ⟨0,many,view,normal,log,cmt,true,false,fun i=>if i=0 then⟨true,normal,log⟩ else j0,first,aks,hrd,out',dead',st'⟩ ⟨1,view,0,0,[]⟩).to
   rw[hs] at hS hol2⊢
   have hol2:o.length≤out'.length+many:=hol2
   refine FnO.cal (FnO.seenE ?hc0 hS) fun q rs hq=>?hk0
   case hc0=>exact rfl
   obtain⟨rfl,rfl⟩:=hq
   have hjj:∀i,i < 7→((fun i=>if i=0 then(⟨true,normal,log⟩:RJ) else j0) i).l.length≤150:=fun i hi=>by
    dsimp only
    split
    ·exact h5
    ·exact Nat.zero_le _
   refine EvCall.gh (.close (oBs ⟨0,many,view,normal,log,cmt,true,false,fun i=>if i=0 then⟨true,normal,log⟩ else j0,first,aks,hrd,o,dead',st'⟩ b e) [(1,5),(2,6),(3,9),(4,8)] (by exact RL5) ⟨_,rfl⟩ rfl (.done (.same ((Ax _ b e h2 h3 (by show 0 < many;omega) (w1.wk (by omega)) hjj (by show o.length≤_;omega) ⟨rfl,hnv⟩).cal fun q rs hq=>?_))))
   obtain⟨rfl,s,rfl,hsh⟩:=hq
   refine .done ?_
   exact .inl (A7 rfl rfl ⟨rfl,s,rfl,fun _=>hsh⟩)
  ·refine⟨⟨Int.natCast_nonneg 1,by show((1:Nat):Int) < ((7:Nat):Int);decide⟩,?_⟩
   have hS:=C4 ⟨1,many,view,normal,log,cmt,true,false,fun i=>if i=1 then⟨true,normal,log⟩ else j0,first,aks,hrd,out',dead',st'⟩ (cl (oLs st' e)) ⟨1,view,0,0,[]⟩ (Nat.zero_le _) (by show many≤100;omega) (by show out'.length≤_;omega)
   have hol2:=A9 ⟨1,many,view,normal,log,cmt,true,false,fun i=>if i=1 then⟨true,normal,log⟩ else j0,first,aks,hrd,out',dead',st'⟩ ⟨1,view,0,0,[]⟩
   obtain⟨o,hs⟩:=(A2 ⟨1,many,view,normal,log,cmt,true,false,fun i=>if i=1 then⟨true,normal,log⟩ else j0,first,aks,hrd,out',dead',st'⟩ ⟨1,view,0,0,[]⟩).to
   rw[hs] at hS hol2⊢
   have hol2:o.length≤out'.length+many:=hol2
   refine FnO.cal (FnO.seenE ?hc1 hS) fun q rs hq=>?hk1
   case hc1=>exact rfl
   obtain⟨rfl,rfl⟩:=hq
   have hjj:∀i,i < 7→((fun i=>if i=1 then(⟨true,normal,log⟩:RJ) else j0) i).l.length≤150:=fun i hi=>by
    dsimp only
    split
    ·exact h5
    ·exact Nat.zero_le _
   refine EvCall.gh (.close (oBs ⟨1,many,view,normal,log,cmt,true,false,fun i=>if i=1 then⟨true,normal,log⟩ else j0,first,aks,hrd,o,dead',st'⟩ b e) [(1,5),(2,6),(3,9),(4,8)] (by exact RL5) ⟨_,rfl⟩ rfl (.done (.same ((Ax _ b e h2 h3 (by show 1 < many;omega) (w1.wk (by omega)) hjj (by show o.length≤_;omega) ⟨rfl,hnv⟩).cal fun q rs hq=>?_))))
   obtain⟨rfl,s,rfl,hsh⟩:=hq
   refine .done ?_
   exact .inl (A7 rfl rfl ⟨rfl,s,rfl,fun _=>hsh⟩)
  ·refine⟨⟨Int.natCast_nonneg 2,by show((2:Nat):Int) < ((7:Nat):Int);decide⟩,?_⟩
   have hS:=C4 ⟨2,many,view,normal,log,cmt,true,false,fun i=>if i=2 then⟨true,normal,log⟩ else j0,first,aks,hrd,out',dead',st'⟩ (cl (oLs st' e)) ⟨1,view,0,0,[]⟩ (Nat.zero_le _) (by show many≤100;omega) (by show out'.length≤_;omega)
   have hol2:=A9 ⟨2,many,view,normal,log,cmt,true,false,fun i=>if i=2 then⟨true,normal,log⟩ else j0,first,aks,hrd,out',dead',st'⟩ ⟨1,view,0,0,[]⟩
   obtain⟨o,hs⟩:=(A2 ⟨2,many,view,normal,log,cmt,true,false,fun i=>if i=2 then⟨true,normal,log⟩ else j0,first,aks,hrd,out',dead',st'⟩ ⟨1,view,0,0,[]⟩).to
   rw[hs] at hS hol2⊢
   have hol2:o.length≤out'.length+many:=hol2
   refine FnO.cal (FnO.seenE ?hc2 hS) fun q rs hq=>?hk2
   case hc2=>exact rfl
   obtain⟨rfl,rfl⟩:=hq
   have hjj:∀i,i < 7→((fun i=>if i=2 then(⟨true,normal,log⟩:RJ) else j0) i).l.length≤150:=fun i hi=>by
    dsimp only
    split
    ·exact h5
    ·exact Nat.zero_le _
   refine EvCall.gh (.close (oBs ⟨2,many,view,normal,log,cmt,true,false,fun i=>if i=2 then⟨true,normal,log⟩ else j0,first,aks,hrd,o,dead',st'⟩ b e) [(1,5),(2,6),(3,9),(4,8)] (by exact RL5) ⟨_,rfl⟩ rfl (.done (.same ((Ax _ b e h2 h3 (by show 2 < many;omega) (w1.wk (by omega)) hjj (by show o.length≤_;omega) ⟨rfl,hnv⟩).cal fun q rs hq=>?_))))
   obtain⟨rfl,s,rfl,hsh⟩:=hq
   refine .done ?_
   exact .inl (A7 rfl rfl ⟨rfl,s,rfl,fun _=>hsh⟩)
  ·refine⟨⟨Int.natCast_nonneg 3,by show((3:Nat):Int) < ((7:Nat):Int);decide⟩,?_⟩
   have hS:=C4 ⟨3,many,view,normal,log,cmt,true,false,fun i=>if i=3 then⟨true,normal,log⟩ else j0,first,aks,hrd,out',dead',st'⟩ (cl (oLs st' e)) ⟨1,view,0,0,[]⟩ (Nat.zero_le _) (by show many≤100;omega) (by show out'.length≤_;omega)
   have hol2:=A9 ⟨3,many,view,normal,log,cmt,true,false,fun i=>if i=3 then⟨true,normal,log⟩ else j0,first,aks,hrd,out',dead',st'⟩ ⟨1,view,0,0,[]⟩
   obtain⟨o,hs⟩:=(A2 ⟨3,many,view,normal,log,cmt,true,false,fun i=>if i=3 then⟨true,normal,log⟩ else j0,first,aks,hrd,out',dead',st'⟩ ⟨1,view,0,0,[]⟩).to
   rw[hs] at hS hol2⊢
   have hol2:o.length≤out'.length+many:=hol2
   refine FnO.cal (FnO.seenE ?hc3 hS) fun q rs hq=>?hk3
   case hc3=>exact rfl
   obtain⟨rfl,rfl⟩:=hq
   have hjj:∀i,i < 7→((fun i=>if i=3 then(⟨true,normal,log⟩:RJ) else j0) i).l.length≤150:=fun i hi=>by
    dsimp only
    split
    ·exact h5
    ·exact Nat.zero_le _
   refine EvCall.gh (.close (oBs ⟨3,many,view,normal,log,cmt,true,false,fun i=>if i=3 then⟨true,normal,log⟩ else j0,first,aks,hrd,o,dead',st'⟩ b e) [(1,5),(2,6),(3,9),(4,8)] (by exact RL5) ⟨_,rfl⟩ rfl (.done (.same ((Ax _ b e h2 h3 (by show 3 < many;omega) (w1.wk (by omega)) hjj (by show o.length≤_;omega) ⟨rfl,hnv⟩).cal fun q rs hq=>?_))))
   obtain⟨rfl,s,rfl,hsh⟩:=hq
   refine .done ?_
   exact .inl (A7 rfl rfl ⟨rfl,s,rfl,fun _=>hsh⟩)
  ·refine⟨⟨Int.natCast_nonneg 4,by show((4:Nat):Int) < ((7:Nat):Int);decide⟩,?_⟩
   have hS:=C4 ⟨4,many,view,normal,log,cmt,true,false,fun i=>if i=4 then⟨true,normal,log⟩ else j0,first,aks,hrd,out',dead',st'⟩ (cl (oLs st' e)) ⟨1,view,0,0,[]⟩ (Nat.zero_le _) (by show many≤100;omega) (by show out'.length≤_;omega)
   have hol2:=A9 ⟨4,many,view,normal,log,cmt,true,false,fun i=>if i=4 then⟨true,normal,log⟩ else j0,first,aks,hrd,out',dead',st'⟩ ⟨1,view,0,0,[]⟩
   obtain⟨o,hs⟩:=(A2 ⟨4,many,view,normal,log,cmt,true,false,fun i=>if i=4 then⟨true,normal,log⟩ else j0,first,aks,hrd,out',dead',st'⟩ ⟨1,view,0,0,[]⟩).to
   rw[hs] at hS hol2⊢
   have hol2:o.length≤out'.length+many:=hol2
   refine FnO.cal (FnO.seenE ?hc4 hS) fun q rs hq=>?hk4
   case hc4=>exact rfl
   obtain⟨rfl,rfl⟩:=hq
   have hjj:∀i,i < 7→((fun i=>if i=4 then(⟨true,normal,log⟩:RJ) else j0) i).l.length≤150:=fun i hi=>by
    dsimp only
    split
    ·exact h5
    ·exact Nat.zero_le _
   refine EvCall.gh (.close (oBs ⟨4,many,view,normal,log,cmt,true,false,fun i=>if i=4 then⟨true,normal,log⟩ else j0,first,aks,hrd,o,dead',st'⟩ b e) [(1,5),(2,6),(3,9),(4,8)] (by exact RL5) ⟨_,rfl⟩ rfl (.done (.same ((Ax _ b e h2 h3 (by show 4 < many;omega) (w1.wk (by omega)) hjj (by show o.length≤_;omega) ⟨rfl,hnv⟩).cal fun q rs hq=>?_))))
   obtain⟨rfl,s,rfl,hsh⟩:=hq
   refine .done ?_
   exact .inl (A7 rfl rfl ⟨rfl,s,rfl,fun _=>hsh⟩)
  ·refine⟨⟨Int.natCast_nonneg 5,by show((5:Nat):Int) < ((7:Nat):Int);decide⟩,?_⟩
   have hS:=C4 ⟨5,many,view,normal,log,cmt,true,false,fun i=>if i=5 then⟨true,normal,log⟩ else j0,first,aks,hrd,out',dead',st'⟩ (cl (oLs st' e)) ⟨1,view,0,0,[]⟩ (Nat.zero_le _) (by show many≤100;omega) (by show out'.length≤_;omega)
   have hol2:=A9 ⟨5,many,view,normal,log,cmt,true,false,fun i=>if i=5 then⟨true,normal,log⟩ else j0,first,aks,hrd,out',dead',st'⟩ ⟨1,view,0,0,[]⟩
   obtain⟨o,hs⟩:=(A2 ⟨5,many,view,normal,log,cmt,true,false,fun i=>if i=5 then⟨true,normal,log⟩ else j0,first,aks,hrd,out',dead',st'⟩ ⟨1,view,0,0,[]⟩).to
   rw[hs] at hS hol2⊢
   have hol2:o.length≤out'.length+many:=hol2
   refine FnO.cal (FnO.seenE ?hc5 hS) fun q rs hq=>?hk5
   case hc5=>exact rfl
   obtain⟨rfl,rfl⟩:=hq
   have hjj:∀i,i < 7→((fun i=>if i=5 then(⟨true,normal,log⟩:RJ) else j0) i).l.length≤150:=fun i hi=>by
    dsimp only
    split
    ·exact h5
    ·exact Nat.zero_le _
   refine EvCall.gh (.close (oBs ⟨5,many,view,normal,log,cmt,true,false,fun i=>if i=5 then⟨true,normal,log⟩ else j0,first,aks,hrd,o,dead',st'⟩ b e) [(1,5),(2,6),(3,9),(4,8)] (by exact RL5) ⟨_,rfl⟩ rfl (.done (.same ((Ax _ b e h2 h3 (by show 5 < many;omega) (w1.wk (by omega)) hjj (by show o.length≤_;omega) ⟨rfl,hnv⟩).cal fun q rs hq=>?_))))
   obtain⟨rfl,s,rfl,hsh⟩:=hq
   refine .done ?_
   exact .inl (A7 rfl rfl ⟨rfl,s,rfl,fun _=>hsh⟩)
  ·refine⟨⟨Int.natCast_nonneg 6,by show((6:Nat):Int) < ((7:Nat):Int);decide⟩,?_⟩
   have hS:=C4 ⟨6,many,view,normal,log,cmt,true,false,fun i=>if i=6 then⟨true,normal,log⟩ else j0,first,aks,hrd,out',dead',st'⟩ (cl (oLs st' e)) ⟨1,view,0,0,[]⟩ (Nat.zero_le _) (by show many≤100;omega) (by show out'.length≤_;omega)
   have hol2:=A9 ⟨6,many,view,normal,log,cmt,true,false,fun i=>if i=6 then⟨true,normal,log⟩ else j0,first,aks,hrd,out',dead',st'⟩ ⟨1,view,0,0,[]⟩
   obtain⟨o,hs⟩:=(A2 ⟨6,many,view,normal,log,cmt,true,false,fun i=>if i=6 then⟨true,normal,log⟩ else j0,first,aks,hrd,out',dead',st'⟩ ⟨1,view,0,0,[]⟩).to
   rw[hs] at hS hol2⊢
   have hol2:o.length≤out'.length+many:=hol2
   refine FnO.cal (FnO.seenE ?hc6 hS) fun q rs hq=>?hk6
   case hc6=>exact rfl
   obtain⟨rfl,rfl⟩:=hq
   have hjj:∀i,i < 7→((fun i=>if i=6 then(⟨true,normal,log⟩:RJ) else j0) i).l.length≤150:=fun i hi=>by
    dsimp only
    split
    ·exact h5
    ·exact Nat.zero_le _
   refine EvCall.gh (.close (oBs ⟨6,many,view,normal,log,cmt,true,false,fun i=>if i=6 then⟨true,normal,log⟩ else j0,first,aks,hrd,o,dead',st'⟩ b e) [(1,5),(2,6),(3,9),(4,8)] (by exact RL5) ⟨_,rfl⟩ rfl (.done (.same ((Ax _ b e h2 h3 (by show 6 < many;omega) (w1.wk (by omega)) hjj (by show o.length≤_;omega) ⟨rfl,hnv⟩).cal fun q rs hq=>?_))))
   obtain⟨rfl,s,rfl,hsh⟩:=hq
   refine .done ?_
   exact .inl (A7 rfl rfl ⟨rfl,s,rfl,fun _=>hsh⟩)
 ·rw[Bool.not_eq_true] at ha
  have eO:C3 ⟨self,many,pmd,normal,log,cmt,lds,std,jns,first,aks,hrd,out,dead,st⟩ view=(Ep ⟨self,many,pmd,normal,log,cmt,lds,std,jns,first,aks,hrd,out,dead,st⟩ view,true):=by
   unfold C3;rw[if_neg hno,if_neg (by rw[ha];decide)]
  rw[ha,eO]
  refine .done ?_
  refine EvIf.mk (fun _=>?_) fun h=>absurd h (by decide)
  refine .inl (A7 rfl rfl ⟨rfl,false,rfl,fun _=>?_⟩)
  rw[eA]
  exact⟨fun _=>⟨rfl,hnv⟩,fun h=>absurd h (by decide)⟩
set_option maxHeartbeats 4000000 in
theorem Zax (n:PN)(b e:Nat)(k:Nat)(h:n.dead=false→WNk k n)(view:Int):FnO Tryz.prog 41 [.ptr 0 0,gI view] (cB n b e) fun g rs=>g=.v (.bool (C3 n view).2)∧∃s,rs=cS s (C3 n view).1 b e∧(ShN false n→ShN s (C3 n view).1):=by
 obtain⟨self,many,pmd,normal,log,cmt,lds,std,jns,first,aks,hrd,out,dead,st⟩:=n
 have no:(dead=true∨view≤pmd∨Aa view many≠self)→C3 ⟨self,many,pmd,normal,log,cmt,lds,std,jns,first,aks,hrd,out,dead,st⟩ view=(⟨self,many,pmd,normal,log,cmt,lds,std,jns,first,aks,hrd,out,dead,st⟩,false):=fun hh=>by
  unfold C3;rw[if_pos hh]
 refine Bd Tryz.func41 (by kernel_rfl) rfl (Nat.le_of_ble_eq_true (by kernel_rfl)) (by kernel_rfl) (A6 (O:=oBs ⟨self,many,pmd,normal,log,cmt,lds,std,jns,first,aks,hrd,out,dead,st⟩ b e) (n0:=5) rfl) ?_
 refine EvIf.mk (fun hd=>?_) fun hd=>?_
 ·rw[no (.inl hd)]
  exact .inl (A1 (oBs ⟨self,many,pmd,normal,log,cmt,lds,std,jns,first,aks,hrd,out,dead,st⟩ b e) [] (by exact RL5) rfl ⟨_,rfl⟩ rfl rfl ⟨rfl,false,rfl,id⟩)
 have hd:dead=false:=hd
 obtain⟨h1,hkk,h2,h3,h4,h5,h6,h7,hnp,-⟩:=h hd
 clear h
 dsimp only at h1 h2 h3 h4 h5 h6 h7
 refine EvIf.dec (fun hv=>?_) fun hv=>?_
 ·rw[no (.inr (.inl hv))]
  exact .inl (A1 (oBs ⟨self,many,pmd,normal,log,cmt,lds,std,jns,first,aks,hrd,out,dead,st⟩ b e) [] (by exact RL5) rfl ⟨_,rfl⟩ rfl rfl ⟨rfl,false,rfl,id⟩)
 have hv:¬view≤pmd:=hv
 have hnp:normal≤pmd:=hnp
 have hnv:normal < view:=by omega
 refine(Cg _ _).cal fun q hq=>?_
 subst hq
 refine EvIf.bne (fun hp=>?_) fun hp=>?_
 ·rw[no (.inr (.inr hp))]
  exact .inl (A1 (oBs ⟨self,many,pmd,normal,log,cmt,lds,std,jns,first,aks,hrd,out,dead,st⟩ b e) [] (by exact RL5) rfl ⟨_,rfl⟩ rfl rfl ⟨rfl,false,rfl,id⟩)
 have hp:Aa view many=self:=hp
 have hno:¬(dead=true∨view≤pmd∨Aa view many≠self):=by
  rw[hd]
  rintro(h | h | h)
  ·cases h
  ·exact hv h
  ·exact h hp
 refine EvCall.gh (.close (oBs ⟨self,many,pmd,normal,log,cmt,lds,std,jns,first,aks,hrd,out,dead,st⟩ b e) [] (by exact RL5) ⟨_,rfl⟩ rfl (.done (.same ((Z5z ⟨self,many,pmd,normal,log,cmt,lds,std,jns,first,aks,hrd,out,dead,st⟩ b e (h1.wk (by omega)) (by show log.length≤_;omega) view).cal fun q rs hq=>?_))))
 obtain⟨rfl,rfl⟩:=hq
 obtain⟨st',out',dead',eA,hol⟩:=By ⟨self,many,view,normal,log,cmt,false,false,jns,first,aks,hrd,out,dead,st⟩ (Cb 1 view 0 eS)
 have eA:Ep ⟨self,many,pmd,normal,log,cmt,lds,std,jns,first,aks,hrd,out,dead,st⟩ view=⟨self,many,view,normal,log,cmt,false,false,jns,first,aks,hrd,out',dead',st'⟩:=eA
 by_cases ha:Jv ⟨self,many,pmd,normal,log,cmt,lds,std,jns,first,aks,hrd,out,dead,st⟩ view=true
 ·have eO:C3 ⟨self,many,pmd,normal,log,cmt,lds,std,jns,first,aks,hrd,out,dead,st⟩ view=(Br (Ao {Ep ⟨self,many,pmd,normal,log,cmt,lds,std,jns,first,aks,hrd,out,dead,st⟩ view with lds:=true,jns:=fun i=>if i=self then⟨true,normal,log⟩ else j0} ⟨1,view,0,0,[]⟩),true):=by
   unfold C3;rw[if_neg hno,if_pos ha]
  obtain⟨w1,w2,w3⟩:=Jm (n:=⟨self,many,view,normal,log,cmt,false,false,jns,first,aks,hrd,out,dead,st⟩) h1 (Cb 1 view 0 eS) ha
  have eS:Bf ⟨self,many,view,normal,log,cmt,false,false,jns,first,aks,hrd,out,dead,st⟩ (Cb 1 view 0 eS)=⟨self,many,view,normal,log,cmt,false,false,jns,first,aks,hrd,out',dead',st'⟩:=eA
  rw[eS] at w1
  dsimp only at w1
  rw[ha,eO,eA]
  dsimp only at hol
  clear eO eA ha no hno hp hv eS w2 w3
  refine .opn 0 _ _ _ rfl rfl rfl (.done ?_)
  refine EvIf.mk (fun h=>absurd h (by decide)) fun _=>?_
  have hs7:self=0∨self=1∨self=2∨self=3∨self=4∨self=5∨self=6:=by omega
  rcases hs7 with rfl | rfl | rfl | rfl | rfl | rfl | rfl
  ·refine⟨⟨Int.natCast_nonneg 0,by show((0:Nat):Int) < ((7:Nat):Int);decide⟩,?_⟩
   have hS:=C4 ⟨0,many,view,normal,log,cmt,true,false,fun i=>if i=0 then⟨true,normal,log⟩ else j0,first,aks,hrd,out',dead',st'⟩ (cl (oLs st' e)) ⟨1,view,0,0,[]⟩ (Nat.zero_le _) (by show many≤100;omega) (by show out'.length≤_;omega)
   have hol2:=A9 ⟨0,many,view,normal,log,cmt,true,false,fun i=>if i=0 then⟨true,normal,log⟩ else j0,first,aks,hrd,out',dead',st'⟩ ⟨1,view,0,0,[]⟩
   obtain⟨o,hs⟩:=(A2 ⟨0,many,view,normal,log,cmt,true,false,fun i=>if i=0 then⟨true,normal,log⟩ else j0,first,aks,hrd,out',dead',st'⟩ ⟨1,view,0,0,[]⟩).to
   rw[hs] at hS hol2⊢
   have hol2:o.length≤out'.length+many:=hol2
   refine FnO.cal (FnO.seenE ?hc0 hS) fun q rs hq=>?hk0
   case hc0=>exact rfl
   obtain⟨rfl,rfl⟩:=hq
   have hjj:∀i,i < 7→((fun i=>if i=0 then(⟨true,normal,log⟩:RJ) else j0) i).l.length≤150:=fun i hi=>by
    dsimp only
    split
    ·exact h5
    ·exact Nat.zero_le _
   refine EvCall.gh (.close (oBs ⟨0,many,view,normal,log,cmt,true,false,fun i=>if i=0 then⟨true,normal,log⟩ else j0,first,aks,hrd,o,dead',st'⟩ b e) [(1,5),(2,6),(3,9),(4,8)] (by exact RL5) ⟨_,rfl⟩ rfl (.done (.same ((Ax _ b e h2 h3 (by show 0 < many;omega) (w1.wk (by omega)) hjj (by show o.length≤_;omega) ⟨rfl,hnv⟩).cal fun q rs hq=>?_))))
   obtain⟨rfl,s,rfl,hsh⟩:=hq
   refine .done ?_
   exact .inl (A7 rfl rfl ⟨rfl,s,rfl,fun _=>hsh⟩)
  ·refine⟨⟨Int.natCast_nonneg 1,by show((1:Nat):Int) < ((7:Nat):Int);decide⟩,?_⟩
   have hS:=C4 ⟨1,many,view,normal,log,cmt,true,false,fun i=>if i=1 then⟨true,normal,log⟩ else j0,first,aks,hrd,out',dead',st'⟩ (cl (oLs st' e)) ⟨1,view,0,0,[]⟩ (Nat.zero_le _) (by show many≤100;omega) (by show out'.length≤_;omega)
   have hol2:=A9 ⟨1,many,view,normal,log,cmt,true,false,fun i=>if i=1 then⟨true,normal,log⟩ else j0,first,aks,hrd,out',dead',st'⟩ ⟨1,view,0,0,[]⟩
   obtain⟨o,hs⟩:=(A2 ⟨1,many,view,normal,log,cmt,true,false,fun i=>if i=1 then⟨true,normal,log⟩ else j0,first,aks,hrd,out',dead',st'⟩ ⟨1,view,0,0,[]⟩).to
   rw[hs] at hS hol2⊢
   have hol2:o.length≤out'.length+many:=hol2
   refine FnO.cal (FnO.seenE ?hc1 hS) fun q rs hq=>?hk1
   case hc1=>exact rfl
   obtain⟨rfl,rfl⟩:=hq
   have hjj:∀i,i < 7→((fun i=>if i=1 then(⟨true,normal,log⟩:RJ) else j0) i).l.length≤150:=fun i hi=>by
    dsimp only
    split
    ·exact h5
    ·exact Nat.zero_le _
   refine EvCall.gh (.close (oBs ⟨1,many,view,normal,log,cmt,true,false,fun i=>if i=1 then⟨true,normal,log⟩ else j0,first,aks,hrd,o,dead',st'⟩ b e) [(1,5),(2,6),(3,9),(4,8)] (by exact RL5) ⟨_,rfl⟩ rfl (.done (.same ((Ax _ b e h2 h3 (by show 1 < many;omega) (w1.wk (by omega)) hjj (by show o.length≤_;omega) ⟨rfl,hnv⟩).cal fun q rs hq=>?_))))
   obtain⟨rfl,s,rfl,hsh⟩:=hq
   refine .done ?_
   exact .inl (A7 rfl rfl ⟨rfl,s,rfl,fun _=>hsh⟩)
  ·refine⟨⟨Int.natCast_nonneg 2,by show((2:Nat):Int) < ((7:Nat):Int);decide⟩,?_⟩
   have hS:=C4 ⟨2,many,view,normal,log,cmt,true,false,fun i=>if i=2 then⟨true,normal,log⟩ else j0,first,aks,hrd,out',dead',st'⟩ (cl (oLs st' e)) ⟨1,view,0,0,[]⟩ (Nat.zero_le _) (by show many≤100;omega) (by show out'.length≤_;omega)
   have hol2:=A9 ⟨2,many,view,normal,log,cmt,true,false,fun i=>if i=2 then⟨true,normal,log⟩ else j0,first,aks,hrd,out',dead',st'⟩ ⟨1,view,0,0,[]⟩
   obtain⟨o,hs⟩:=(A2 ⟨2,many,view,normal,log,cmt,true,false,fun i=>if i=2 then⟨true,normal,log⟩ else j0,first,aks,hrd,out',dead',st'⟩ ⟨1,view,0,0,[]⟩).to
   rw[hs] at hS hol2⊢
   have hol2:o.length≤out'.length+many:=hol2
   refine FnO.cal (FnO.seenE ?hc2 hS) fun q rs hq=>?hk2
   case hc2=>exact rfl
   obtain⟨rfl,rfl⟩:=hq
   have hjj:∀i,i < 7→((fun i=>if i=2 then(⟨true,normal,log⟩:RJ) else j0) i).l.length≤150:=fun i hi=>by
    dsimp only
    split
    ·exact h5
    ·exact Nat.zero_le _
   refine EvCall.gh (.close (oBs ⟨2,many,view,normal,log,cmt,true,false,fun i=>if i=2 then⟨true,normal,log⟩ else j0,first,aks,hrd,o,dead',st'⟩ b e) [(1,5),(2,6),(3,9),(4,8)] (by exact RL5) ⟨_,rfl⟩ rfl (.done (.same ((Ax _ b e h2 h3 (by show 2 < many;omega) (w1.wk (by omega)) hjj (by show o.length≤_;omega) ⟨rfl,hnv⟩).cal fun q rs hq=>?_))))
   obtain⟨rfl,s,rfl,hsh⟩:=hq
   refine .done ?_
   exact .inl (A7 rfl rfl ⟨rfl,s,rfl,fun _=>hsh⟩)
  ·refine⟨⟨Int.natCast_nonneg 3,by show((3:Nat):Int) < ((7:Nat):Int);decide⟩,?_⟩
   have hS:=C4 ⟨3,many,view,normal,log,cmt,true,false,fun i=>if i=3 then⟨true,normal,log⟩ else j0,first,aks,hrd,out',dead',st'⟩ (cl (oLs st' e)) ⟨1,view,0,0,[]⟩ (Nat.zero_le _) (by show many≤100;omega) (by show out'.length≤_;omega)
   have hol2:=A9 ⟨3,many,view,normal,log,cmt,true,false,fun i=>if i=3 then⟨true,normal,log⟩ else j0,first,aks,hrd,out',dead',st'⟩ ⟨1,view,0,0,[]⟩
   obtain⟨o,hs⟩:=(A2 ⟨3,many,view,normal,log,cmt,true,false,fun i=>if i=3 then⟨true,normal,log⟩ else j0,first,aks,hrd,out',dead',st'⟩ ⟨1,view,0,0,[]⟩).to
   rw[hs] at hS hol2⊢
   have hol2:o.length≤out'.length+many:=hol2
   refine FnO.cal (FnO.seenE ?hc3 hS) fun q rs hq=>?hk3
   case hc3=>exact rfl
   obtain⟨rfl,rfl⟩:=hq
   have hjj:∀i,i < 7→((fun i=>if i=3 then(⟨true,normal,log⟩:RJ) else j0) i).l.length≤150:=fun i hi=>by
    dsimp only
    split
    ·exact h5
    ·exact Nat.zero_le _
   refine EvCall.gh (.close (oBs ⟨3,many,view,normal,log,cmt,true,false,fun i=>if i=3 then⟨true,normal,log⟩ else j0,first,aks,hrd,o,dead',st'⟩ b e) [(1,5),(2,6),(3,9),(4,8)] (by exact RL5) ⟨_,rfl⟩ rfl (.done (.same ((Ax _ b e h2 h3 (by show 3 < many;omega) (w1.wk (by omega)) hjj (by show o.length≤_;omega) ⟨rfl,hnv⟩).cal fun q rs hq=>?_))))
   obtain⟨rfl,s,rfl,hsh⟩:=hq
   refine .done ?_
   exact .inl (A7 rfl rfl ⟨rfl,s,rfl,fun _=>hsh⟩)
  ·refine⟨⟨Int.natCast_nonneg 4,by show((4:Nat):Int) < ((7:Nat):Int);decide⟩,?_⟩
   have hS:=C4 ⟨4,many,view,normal,log,cmt,true,false,fun i=>if i=4 then⟨true,normal,log⟩ else j0,first,aks,hrd,out',dead',st'⟩ (cl (oLs st' e)) ⟨1,view,0,0,[]⟩ (Nat.zero_le _) (by show many≤100;omega) (by show out'.length≤_;omega)
   have hol2:=A9 ⟨4,many,view,normal,log,cmt,true,false,fun i=>if i=4 then⟨true,normal,log⟩ else j0,first,aks,hrd,out',dead',st'⟩ ⟨1,view,0,0,[]⟩
   obtain⟨o,hs⟩:=(A2 ⟨4,many,view,normal,log,cmt,true,false,fun i=>if i=4 then⟨true,normal,log⟩ else j0,first,aks,hrd,out',dead',st'⟩ ⟨1,view,0,0,[]⟩).to
   rw[hs] at hS hol2⊢
   have hol2:o.length≤out'.length+many:=hol2
   refine FnO.cal (FnO.seenE ?hc4 hS) fun q rs hq=>?hk4
   case hc4=>exact rfl
   obtain⟨rfl,rfl⟩:=hq
   have hjj:∀i,i < 7→((fun i=>if i=4 then(⟨true,normal,log⟩:RJ) else j0) i).l.length≤150:=fun i hi=>by
    dsimp only
    split
    ·exact h5
    ·exact Nat.zero_le _
   refine EvCall.gh (.close (oBs ⟨4,many,view,normal,log,cmt,true,false,fun i=>if i=4 then⟨true,normal,log⟩ else j0,first,aks,hrd,o,dead',st'⟩ b e) [(1,5),(2,6),(3,9),(4,8)] (by exact RL5) ⟨_,rfl⟩ rfl (.done (.same ((Ax _ b e h2 h3 (by show 4 < many;omega) (w1.wk (by omega)) hjj (by show o.length≤_;omega) ⟨rfl,hnv⟩).cal fun q rs hq=>?_))))
   obtain⟨rfl,s,rfl,hsh⟩:=hq
   refine .done ?_
   exact .inl (A7 rfl rfl ⟨rfl,s,rfl,fun _=>hsh⟩)
  ·refine⟨⟨Int.natCast_nonneg 5,by show((5:Nat):Int) < ((7:Nat):Int);decide⟩,?_⟩
   have hS:=C4 ⟨5,many,view,normal,log,cmt,true,false,fun i=>if i=5 then⟨true,normal,log⟩ else j0,first,aks,hrd,out',dead',st'⟩ (cl (oLs st' e)) ⟨1,view,0,0,[]⟩ (Nat.zero_le _) (by show many≤100;omega) (by show out'.length≤_;omega)
   have hol2:=A9 ⟨5,many,view,normal,log,cmt,true,false,fun i=>if i=5 then⟨true,normal,log⟩ else j0,first,aks,hrd,out',dead',st'⟩ ⟨1,view,0,0,[]⟩
   obtain⟨o,hs⟩:=(A2 ⟨5,many,view,normal,log,cmt,true,false,fun i=>if i=5 then⟨true,normal,log⟩ else j0,first,aks,hrd,out',dead',st'⟩ ⟨1,view,0,0,[]⟩).to
   rw[hs] at hS hol2⊢
   have hol2:o.length≤out'.length+many:=hol2
   refine FnO.cal (FnO.seenE ?hc5 hS) fun q rs hq=>?hk5
   case hc5=>exact rfl
   obtain⟨rfl,rfl⟩:=hq
   have hjj:∀i,i < 7→((fun i=>if i=5 then(⟨true,normal,log⟩:RJ) else j0) i).l.length≤150:=fun i hi=>by
    dsimp only
    split
    ·exact h5
    ·exact Nat.zero_le _
   refine EvCall.gh (.close (oBs ⟨5,many,view,normal,log,cmt,true,false,fun i=>if i=5 then⟨true,normal,log⟩ else j0,first,aks,hrd,o,dead',st'⟩ b e) [(1,5),(2,6),(3,9),(4,8)] (by exact RL5) ⟨_,rfl⟩ rfl (.done (.same ((Ax _ b e h2 h3 (by show 5 < many;omega) (w1.wk (by omega)) hjj (by show o.length≤_;omega) ⟨rfl,hnv⟩).cal fun q rs hq=>?_))))
   obtain⟨rfl,s,rfl,hsh⟩:=hq
   refine .done ?_
   exact .inl (A7 rfl rfl ⟨rfl,s,rfl,fun _=>hsh⟩)
  ·refine⟨⟨Int.natCast_nonneg 6,by show((6:Nat):Int) < ((7:Nat):Int);decide⟩,?_⟩
   have hS:=C4 ⟨6,many,view,normal,log,cmt,true,false,fun i=>if i=6 then⟨true,normal,log⟩ else j0,first,aks,hrd,out',dead',st'⟩ (cl (oLs st' e)) ⟨1,view,0,0,[]⟩ (Nat.zero_le _) (by show many≤100;omega) (by show out'.length≤_;omega)
   have hol2:=A9 ⟨6,many,view,normal,log,cmt,true,false,fun i=>if i=6 then⟨true,normal,log⟩ else j0,first,aks,hrd,out',dead',st'⟩ ⟨1,view,0,0,[]⟩
   obtain⟨o,hs⟩:=(A2 ⟨6,many,view,normal,log,cmt,true,false,fun i=>if i=6 then⟨true,normal,log⟩ else j0,first,aks,hrd,out',dead',st'⟩ ⟨1,view,0,0,[]⟩).to
   rw[hs] at hS hol2⊢
   have hol2:o.length≤out'.length+many:=hol2
   refine FnO.cal (FnO.seenE ?hc6 hS) fun q rs hq=>?hk6
   case hc6=>exact rfl
   obtain⟨rfl,rfl⟩:=hq
   have hjj:∀i,i < 7→((fun i=>if i=6 then(⟨true,normal,log⟩:RJ) else j0) i).l.length≤150:=fun i hi=>by
    dsimp only
    split
    ·exact h5
    ·exact Nat.zero_le _
   refine EvCall.gh (.close (oBs ⟨6,many,view,normal,log,cmt,true,false,fun i=>if i=6 then⟨true,normal,log⟩ else j0,first,aks,hrd,o,dead',st'⟩ b e) [(1,5),(2,6),(3,9),(4,8)] (by exact RL5) ⟨_,rfl⟩ rfl (.done (.same ((Ax _ b e h2 h3 (by show 6 < many;omega) (w1.wk (by omega)) hjj (by show o.length≤_;omega) ⟨rfl,hnv⟩).cal fun q rs hq=>?_))))
   obtain⟨rfl,s,rfl,hsh⟩:=hq
   refine .done ?_
   exact .inl (A7 rfl rfl ⟨rfl,s,rfl,fun _=>hsh⟩)
 ·rw[Bool.not_eq_true] at ha
  have eO:C3 ⟨self,many,pmd,normal,log,cmt,lds,std,jns,first,aks,hrd,out,dead,st⟩ view=(Ep ⟨self,many,pmd,normal,log,cmt,lds,std,jns,first,aks,hrd,out,dead,st⟩ view,true):=by
   unfold C3;rw[if_neg hno,if_neg (by rw[ha];decide)]
  rw[ha,eO]
  refine .done ?_
  refine EvIf.mk (fun _=>?_) fun h=>absurd h (by decide)
  refine .inl (A7 rfl rfl ⟨rfl,false,rfl,fun _=>?_⟩)
  rw[eA]
  exact⟨fun _=>⟨rfl,hnv⟩,fun h=>absurd h (by decide)⟩
end Go.Proofs.YtihfaocdpmmooaaGreat

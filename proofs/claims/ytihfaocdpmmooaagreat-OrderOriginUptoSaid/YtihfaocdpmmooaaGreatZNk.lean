
import Derived.Test.YtihfaocdpmmooaaGreatZNj
namespace Go.Proofs.YtihfaocdpmmooaaGreat
open Go.RowKit
set_option maxRecDepth 100000
structure WNb (n:PN):Prop where
 st:WK n.st
 m0:1≤n.many
 m7:n.many≤7
 self:n.self < n.many
 log:n.log.length≤150
 out:n.out.length≤700000
 jns:∀i,i < 7→(n.jns i).l.length≤150
theorem By (n:PN)(r:ByteArray):∃st out dead,Bf n r={n with st:=st,out:=out,dead:=dead}∧out.length≤n.out.length:=by
 have key:∀(st:LD) (er:Int),∃st' out dead,Dp {n with st:=st} er={n with st:=st',out:=out,dead:=dead}∧out.length≤n.out.length:=fun st er=>by
  obtain⟨h1,h2⟩:=Le {n with st:=st} er
  exact⟨st,_,_,h1,h2⟩
 unfold Bf
 split
 ·exact key _ _
 ·split
  ·exact key _ _
  ·exact key _ _
set_option maxHeartbeats 4000000 in
theorem Yh (n:PN)(b e:Nat)(h:n.dead=false→WNb n)(s:ByteArray):FnO Tryz.prog 28 [.ptr 0 0,.v (.string s)] (cA n b e) fun g rs=>g=.v (.bool (B3 n s).2)∧rs=cA (B3 n s).1 b e:=by
 obtain⟨self,many,pmd,normal,log,cmt,lds,std,jns,first,aks,hrd,out,dead,st⟩:=n
 have no:(dead=true∨std=false∨log.length ≥ 150∨s.size > 200)→B3 ⟨self,many,pmd,normal,log,cmt,lds,std,jns,first,aks,hrd,out,dead,st⟩ s=(⟨self,many,pmd,normal,log,cmt,lds,std,jns,first,aks,hrd,out,dead,st⟩,false):=fun hh=>by
  unfold B3;rw[if_pos hh]
 refine Bd Tryz.func28 (by kernel_rfl) rfl (Nat.le_of_ble_eq_true (by kernel_rfl)) (by kernel_rfl) (A6 (O:=oAs ⟨self,many,pmd,normal,log,cmt,lds,std,jns,first,aks,hrd,out,dead,st⟩ b e) (n0:=5) rfl) ?_
 refine EvIf.mk (fun hd=>?_) fun hd=>?_
 ·rw[no (.inl hd)]
  exact .inl (A1 (oAs ⟨self,many,pmd,normal,log,cmt,lds,std,jns,first,aks,hrd,out,dead,st⟩ b e) [] (by exact RL5) rfl ⟨_,rfl⟩ rfl rfl ⟨rfl,rfl⟩)
 have hd:dead=false:=hd
 obtain⟨h1,h2,h3,h4,h5,h6,h7⟩:=h hd
 clear h
 dsimp only at h1 h2 h3 h4 h5 h6 h7
 refine EvIf.mk (fun hs=>?_) fun hs=>?_
 ·rw[no (.inr (.inl (by simpa using hs)))]
  exact .inl (A1 (oAs ⟨self,many,pmd,normal,log,cmt,lds,std,jns,first,aks,hrd,out,dead,st⟩ b e) [] (by exact RL5) rfl ⟨_,rfl⟩ rfl rfl ⟨rfl,rfl⟩)
 have hs:std=true:=by simpa using hs
 refine EvIf.dec (fun hl=>?_) fun hl=>?_
 ·rw[no (.inr (.inr (.inl (by rw[List.length_map] at hl;have hl:((log.length:Nat):Int) ≥ 150:=hl;omega))))]
  exact .inl (A1 (oAs ⟨self,many,pmd,normal,log,cmt,lds,std,jns,first,aks,hrd,out,dead,st⟩ b e) [] (by exact RL5) rfl ⟨_,rfl⟩ rfl rfl ⟨rfl,rfl⟩)
 refine EvIf.dec (fun hz=>?_) fun hz=>?_
 ·rw[no (.inr (.inr (.inr (by omega))))]
  exact .inl (A1 (oAs ⟨self,many,pmd,normal,log,cmt,lds,std,jns,first,aks,hrd,out,dead,st⟩ b e) [] (by exact RL5) rfl ⟨_,rfl⟩ rfl rfl ⟨rfl,rfl⟩)
 have hl:¬log.length ≥ 150:=fun h=>hl (by rw[List.length_map];show((log.length:Nat):Int) ≥ 150;omega)
 have hle:0≤A5 log∧A5 log < 150:=by rw[Dg];omega
 have hno:¬(dead=true∨std=false∨log.length ≥ 150∨s.size > 200):=by
  rw[hd,hs]
  rintro(h | h | h | h)
  ·cases h
  ·cases h
  ·omega
  ·omega
 refine⟨by show -9223372036854775808≤A5 log+1∧A5 log+1≤9223372036854775807;omega,?_⟩
 refine EvCall.gh (.close (oAs ⟨self,many,pmd,normal,log,cmt,lds,std,jns,first,aks,hrd,out,dead,st⟩ b e) [] (by exact RL5) ⟨_,rfl⟩ rfl (.done (.same ((Zez ⟨self,many,pmd,normal,log,cmt,lds,std,jns,first,aks,hrd,out,dead,st⟩ b e h1 (by show log.length≤_;omega) ⟨pmd,A5 log+1,s⟩).cal fun q rs hq=>?_))))
 obtain⟨rfl,rfl⟩:=hq
 obtain⟨st',out',dead',eA,hol⟩:=By ⟨self,many,pmd,normal,log++[⟨pmd,A5 log+1,s⟩],cmt,lds,std,jns,first,aks,hrd,out,dead,st⟩ (Cb 3 pmd (A5 log+1) s)
 by_cases ha:Xt ⟨self,many,pmd,normal,log,cmt,lds,std,jns,first,aks,hrd,out,dead,st⟩ ⟨pmd,A5 log+1,s⟩=true
 ·have eO:B3 ⟨self,many,pmd,normal,log,cmt,lds,std,jns,first,aks,hrd,out,dead,st⟩ s=(Cp (Ao {He ⟨self,many,pmd,normal,log,cmt,lds,std,jns,first,aks,hrd,out,dead,st⟩ ⟨pmd,A5 log+1,s⟩ with aks:=fun i=>if i=self then A5 log+1 else aks i} ⟨4,pmd,0,A5 log+1 - 1,[⟨pmd,A5 log+1,s⟩]⟩),true):=by
   unfold B3;rw[if_neg hno];dsimp only;rw[if_pos ha]
  have eA:He ⟨self,many,pmd,normal,log,cmt,lds,std,jns,first,aks,hrd,out,dead,st⟩ ⟨pmd,A5 log+1,s⟩=⟨self,many,pmd,normal,log++[⟨pmd,A5 log+1,s⟩],cmt,lds,std,jns,first,aks,hrd,out',dead',st'⟩:=eA
  rw[ha,eO,eA]
  dsimp only at hol
  clear eO eA ha no hno
  refine .opn 0 _ _ _ rfl rfl rfl (.done ?_)
  refine EvIf.mk (fun h=>absurd h (by decide)) fun _=>?_
  have hs7:self=0∨self=1∨self=2∨self=3∨self=4∨self=5∨self=6:=by omega
  rcases hs7 with rfl | rfl | rfl | rfl | rfl | rfl | rfl
  ·refine⟨⟨Int.natCast_nonneg 0,by show((0:Nat):Int) < ((7:Nat):Int);decide⟩,?_⟩
   refine⟨by show -9223372036854775808≤A5 log+1 - 1∧A5 log+1 - 1≤9223372036854775807;omega,?_⟩
   have hS:=Et ⟨0,many,pmd,normal,log++[⟨pmd,A5 log+1,s⟩],cmt,lds,std,jns,first,fun i=>if i=0 then A5 log+1 else aks i,hrd,out',dead',st'⟩ (cl (oLs st' e)) ⟨4,pmd,0,A5 log+1 - 1,[⟨pmd,A5 log+1,s⟩]⟩ (by show 1≤1000000;decide) (by show many≤100;omega) (by show out'.length≤_;omega)
   have hol2:=A9 ⟨0,many,pmd,normal,log++[⟨pmd,A5 log+1,s⟩],cmt,lds,std,jns,first,fun i=>if i=0 then A5 log+1 else aks i,hrd,out',dead',st'⟩ ⟨4,pmd,0,A5 log+1 - 1,[⟨pmd,A5 log+1,s⟩]⟩
   obtain⟨o,hs⟩:=(A2 ⟨0,many,pmd,normal,log++[⟨pmd,A5 log+1,s⟩],cmt,lds,std,jns,first,fun i=>if i=0 then A5 log+1 else aks i,hrd,out',dead',st'⟩ ⟨4,pmd,0,A5 log+1 - 1,[⟨pmd,A5 log+1,s⟩]⟩).to
   rw[hs] at hS hol2⊢
   have hol2:o.length≤out'.length+many:=hol2
   refine hS.cal fun q rs hq=>?_
   obtain⟨rfl,rfl⟩:=hq
   refine EvCall.gh (.close (oAs ⟨0,many,pmd,normal,log++[⟨pmd,A5 log+1,s⟩],cmt,lds,std,jns,first,fun i=>if i=0 then A5 log+1 else aks i,hrd,o,dead',st'⟩ b e) [(1,6),(2,7),(3,11),(4,9)] (by exact RL5) ⟨_,rfl⟩ rfl (.done (.same ((Cl _ b e h2 h3 (by show o.length≤_;omega)).cal fun q rs hq=>?_))))
   obtain⟨rfl,rfl⟩:=hq
   refine .done ?_
   exact .inl (A7 rfl rfl ⟨rfl,rfl⟩)
  ·refine⟨⟨Int.natCast_nonneg 1,by show((1:Nat):Int) < ((7:Nat):Int);decide⟩,?_⟩
   refine⟨by show -9223372036854775808≤A5 log+1 - 1∧A5 log+1 - 1≤9223372036854775807;omega,?_⟩
   have hS:=Et ⟨1,many,pmd,normal,log++[⟨pmd,A5 log+1,s⟩],cmt,lds,std,jns,first,fun i=>if i=1 then A5 log+1 else aks i,hrd,out',dead',st'⟩ (cl (oLs st' e)) ⟨4,pmd,0,A5 log+1 - 1,[⟨pmd,A5 log+1,s⟩]⟩ (by show 1≤1000000;decide) (by show many≤100;omega) (by show out'.length≤_;omega)
   have hol2:=A9 ⟨1,many,pmd,normal,log++[⟨pmd,A5 log+1,s⟩],cmt,lds,std,jns,first,fun i=>if i=1 then A5 log+1 else aks i,hrd,out',dead',st'⟩ ⟨4,pmd,0,A5 log+1 - 1,[⟨pmd,A5 log+1,s⟩]⟩
   obtain⟨o,hs⟩:=(A2 ⟨1,many,pmd,normal,log++[⟨pmd,A5 log+1,s⟩],cmt,lds,std,jns,first,fun i=>if i=1 then A5 log+1 else aks i,hrd,out',dead',st'⟩ ⟨4,pmd,0,A5 log+1 - 1,[⟨pmd,A5 log+1,s⟩]⟩).to
   rw[hs] at hS hol2⊢
   have hol2:o.length≤out'.length+many:=hol2
   refine hS.cal fun q rs hq=>?_
   obtain⟨rfl,rfl⟩:=hq
   refine EvCall.gh (.close (oAs ⟨1,many,pmd,normal,log++[⟨pmd,A5 log+1,s⟩],cmt,lds,std,jns,first,fun i=>if i=1 then A5 log+1 else aks i,hrd,o,dead',st'⟩ b e) [(1,6),(2,7),(3,11),(4,9)] (by exact RL5) ⟨_,rfl⟩ rfl (.done (.same ((Cl _ b e h2 h3 (by show o.length≤_;omega)).cal fun q rs hq=>?_))))
   obtain⟨rfl,rfl⟩:=hq
   refine .done ?_
   exact .inl (A7 rfl rfl ⟨rfl,rfl⟩)
  ·refine⟨⟨Int.natCast_nonneg 2,by show((2:Nat):Int) < ((7:Nat):Int);decide⟩,?_⟩
   refine⟨by show -9223372036854775808≤A5 log+1 - 1∧A5 log+1 - 1≤9223372036854775807;omega,?_⟩
   have hS:=Et ⟨2,many,pmd,normal,log++[⟨pmd,A5 log+1,s⟩],cmt,lds,std,jns,first,fun i=>if i=2 then A5 log+1 else aks i,hrd,out',dead',st'⟩ (cl (oLs st' e)) ⟨4,pmd,0,A5 log+1 - 1,[⟨pmd,A5 log+1,s⟩]⟩ (by show 1≤1000000;decide) (by show many≤100;omega) (by show out'.length≤_;omega)
   have hol2:=A9 ⟨2,many,pmd,normal,log++[⟨pmd,A5 log+1,s⟩],cmt,lds,std,jns,first,fun i=>if i=2 then A5 log+1 else aks i,hrd,out',dead',st'⟩ ⟨4,pmd,0,A5 log+1 - 1,[⟨pmd,A5 log+1,s⟩]⟩
   obtain⟨o,hs⟩:=(A2 ⟨2,many,pmd,normal,log++[⟨pmd,A5 log+1,s⟩],cmt,lds,std,jns,first,fun i=>if i=2 then A5 log+1 else aks i,hrd,out',dead',st'⟩ ⟨4,pmd,0,A5 log+1 - 1,[⟨pmd,A5 log+1,s⟩]⟩).to
   rw[hs] at hS hol2⊢
   have hol2:o.length≤out'.length+many:=hol2
   refine hS.cal fun q rs hq=>?_
   obtain⟨rfl,rfl⟩:=hq
   refine EvCall.gh (.close (oAs ⟨2,many,pmd,normal,log++[⟨pmd,A5 log+1,s⟩],cmt,lds,std,jns,first,fun i=>if i=2 then A5 log+1 else aks i,hrd,o,dead',st'⟩ b e) [(1,6),(2,7),(3,11),(4,9)] (by exact RL5) ⟨_,rfl⟩ rfl (.done (.same ((Cl _ b e h2 h3 (by show o.length≤_;omega)).cal fun q rs hq=>?_))))
   obtain⟨rfl,rfl⟩:=hq
   refine .done ?_
   exact .inl (A7 rfl rfl ⟨rfl,rfl⟩)
  ·refine⟨⟨Int.natCast_nonneg 3,by show((3:Nat):Int) < ((7:Nat):Int);decide⟩,?_⟩
   refine⟨by show -9223372036854775808≤A5 log+1 - 1∧A5 log+1 - 1≤9223372036854775807;omega,?_⟩
   have hS:=Et ⟨3,many,pmd,normal,log++[⟨pmd,A5 log+1,s⟩],cmt,lds,std,jns,first,fun i=>if i=3 then A5 log+1 else aks i,hrd,out',dead',st'⟩ (cl (oLs st' e)) ⟨4,pmd,0,A5 log+1 - 1,[⟨pmd,A5 log+1,s⟩]⟩ (by show 1≤1000000;decide) (by show many≤100;omega) (by show out'.length≤_;omega)
   have hol2:=A9 ⟨3,many,pmd,normal,log++[⟨pmd,A5 log+1,s⟩],cmt,lds,std,jns,first,fun i=>if i=3 then A5 log+1 else aks i,hrd,out',dead',st'⟩ ⟨4,pmd,0,A5 log+1 - 1,[⟨pmd,A5 log+1,s⟩]⟩
   obtain⟨o,hs⟩:=(A2 ⟨3,many,pmd,normal,log++[⟨pmd,A5 log+1,s⟩],cmt,lds,std,jns,first,fun i=>if i=3 then A5 log+1 else aks i,hrd,out',dead',st'⟩ ⟨4,pmd,0,A5 log+1 - 1,[⟨pmd,A5 log+1,s⟩]⟩).to
   rw[hs] at hS hol2⊢
   have hol2:o.length≤out'.length+many:=hol2
   refine hS.cal fun q rs hq=>?_
   obtain⟨rfl,rfl⟩:=hq
   refine EvCall.gh (.close (oAs ⟨3,many,pmd,normal,log++[⟨pmd,A5 log+1,s⟩],cmt,lds,std,jns,first,fun i=>if i=3 then A5 log+1 else aks i,hrd,o,dead',st'⟩ b e) [(1,6),(2,7),(3,11),(4,9)] (by exact RL5) ⟨_,rfl⟩ rfl (.done (.same ((Cl _ b e h2 h3 (by show o.length≤_;omega)).cal fun q rs hq=>?_))))
   obtain⟨rfl,rfl⟩:=hq
   refine .done ?_
   exact .inl (A7 rfl rfl ⟨rfl,rfl⟩)
  ·refine⟨⟨Int.natCast_nonneg 4,by show((4:Nat):Int) < ((7:Nat):Int);decide⟩,?_⟩
   refine⟨by show -9223372036854775808≤A5 log+1 - 1∧A5 log+1 - 1≤9223372036854775807;omega,?_⟩
   have hS:=Et ⟨4,many,pmd,normal,log++[⟨pmd,A5 log+1,s⟩],cmt,lds,std,jns,first,fun i=>if i=4 then A5 log+1 else aks i,hrd,out',dead',st'⟩ (cl (oLs st' e)) ⟨4,pmd,0,A5 log+1 - 1,[⟨pmd,A5 log+1,s⟩]⟩ (by show 1≤1000000;decide) (by show many≤100;omega) (by show out'.length≤_;omega)
   have hol2:=A9 ⟨4,many,pmd,normal,log++[⟨pmd,A5 log+1,s⟩],cmt,lds,std,jns,first,fun i=>if i=4 then A5 log+1 else aks i,hrd,out',dead',st'⟩ ⟨4,pmd,0,A5 log+1 - 1,[⟨pmd,A5 log+1,s⟩]⟩
   obtain⟨o,hs⟩:=(A2 ⟨4,many,pmd,normal,log++[⟨pmd,A5 log+1,s⟩],cmt,lds,std,jns,first,fun i=>if i=4 then A5 log+1 else aks i,hrd,out',dead',st'⟩ ⟨4,pmd,0,A5 log+1 - 1,[⟨pmd,A5 log+1,s⟩]⟩).to
   rw[hs] at hS hol2⊢
   have hol2:o.length≤out'.length+many:=hol2
   refine hS.cal fun q rs hq=>?_
   obtain⟨rfl,rfl⟩:=hq
   refine EvCall.gh (.close (oAs ⟨4,many,pmd,normal,log++[⟨pmd,A5 log+1,s⟩],cmt,lds,std,jns,first,fun i=>if i=4 then A5 log+1 else aks i,hrd,o,dead',st'⟩ b e) [(1,6),(2,7),(3,11),(4,9)] (by exact RL5) ⟨_,rfl⟩ rfl (.done (.same ((Cl _ b e h2 h3 (by show o.length≤_;omega)).cal fun q rs hq=>?_))))
   obtain⟨rfl,rfl⟩:=hq
   refine .done ?_
   exact .inl (A7 rfl rfl ⟨rfl,rfl⟩)
  ·refine⟨⟨Int.natCast_nonneg 5,by show((5:Nat):Int) < ((7:Nat):Int);decide⟩,?_⟩
   refine⟨by show -9223372036854775808≤A5 log+1 - 1∧A5 log+1 - 1≤9223372036854775807;omega,?_⟩
   have hS:=Et ⟨5,many,pmd,normal,log++[⟨pmd,A5 log+1,s⟩],cmt,lds,std,jns,first,fun i=>if i=5 then A5 log+1 else aks i,hrd,out',dead',st'⟩ (cl (oLs st' e)) ⟨4,pmd,0,A5 log+1 - 1,[⟨pmd,A5 log+1,s⟩]⟩ (by show 1≤1000000;decide) (by show many≤100;omega) (by show out'.length≤_;omega)
   have hol2:=A9 ⟨5,many,pmd,normal,log++[⟨pmd,A5 log+1,s⟩],cmt,lds,std,jns,first,fun i=>if i=5 then A5 log+1 else aks i,hrd,out',dead',st'⟩ ⟨4,pmd,0,A5 log+1 - 1,[⟨pmd,A5 log+1,s⟩]⟩
   obtain⟨o,hs⟩:=(A2 ⟨5,many,pmd,normal,log++[⟨pmd,A5 log+1,s⟩],cmt,lds,std,jns,first,fun i=>if i=5 then A5 log+1 else aks i,hrd,out',dead',st'⟩ ⟨4,pmd,0,A5 log+1 - 1,[⟨pmd,A5 log+1,s⟩]⟩).to
   rw[hs] at hS hol2⊢
   have hol2:o.length≤out'.length+many:=hol2
   refine hS.cal fun q rs hq=>?_
   obtain⟨rfl,rfl⟩:=hq
   refine EvCall.gh (.close (oAs ⟨5,many,pmd,normal,log++[⟨pmd,A5 log+1,s⟩],cmt,lds,std,jns,first,fun i=>if i=5 then A5 log+1 else aks i,hrd,o,dead',st'⟩ b e) [(1,6),(2,7),(3,11),(4,9)] (by exact RL5) ⟨_,rfl⟩ rfl (.done (.same ((Cl _ b e h2 h3 (by show o.length≤_;omega)).cal fun q rs hq=>?_))))
   obtain⟨rfl,rfl⟩:=hq
   refine .done ?_
   exact .inl (A7 rfl rfl ⟨rfl,rfl⟩)
  ·refine⟨⟨Int.natCast_nonneg 6,by show((6:Nat):Int) < ((7:Nat):Int);decide⟩,?_⟩
   refine⟨by show -9223372036854775808≤A5 log+1 - 1∧A5 log+1 - 1≤9223372036854775807;omega,?_⟩
   have hS:=Et ⟨6,many,pmd,normal,log++[⟨pmd,A5 log+1,s⟩],cmt,lds,std,jns,first,fun i=>if i=6 then A5 log+1 else aks i,hrd,out',dead',st'⟩ (cl (oLs st' e)) ⟨4,pmd,0,A5 log+1 - 1,[⟨pmd,A5 log+1,s⟩]⟩ (by show 1≤1000000;decide) (by show many≤100;omega) (by show out'.length≤_;omega)
   have hol2:=A9 ⟨6,many,pmd,normal,log++[⟨pmd,A5 log+1,s⟩],cmt,lds,std,jns,first,fun i=>if i=6 then A5 log+1 else aks i,hrd,out',dead',st'⟩ ⟨4,pmd,0,A5 log+1 - 1,[⟨pmd,A5 log+1,s⟩]⟩
   obtain⟨o,hs⟩:=(A2 ⟨6,many,pmd,normal,log++[⟨pmd,A5 log+1,s⟩],cmt,lds,std,jns,first,fun i=>if i=6 then A5 log+1 else aks i,hrd,out',dead',st'⟩ ⟨4,pmd,0,A5 log+1 - 1,[⟨pmd,A5 log+1,s⟩]⟩).to
   rw[hs] at hS hol2⊢
   have hol2:o.length≤out'.length+many:=hol2
   refine hS.cal fun q rs hq=>?_
   obtain⟨rfl,rfl⟩:=hq
   refine EvCall.gh (.close (oAs ⟨6,many,pmd,normal,log++[⟨pmd,A5 log+1,s⟩],cmt,lds,std,jns,first,fun i=>if i=6 then A5 log+1 else aks i,hrd,o,dead',st'⟩ b e) [(1,6),(2,7),(3,11),(4,9)] (by exact RL5) ⟨_,rfl⟩ rfl (.done (.same ((Cl _ b e h2 h3 (by show o.length≤_;omega)).cal fun q rs hq=>?_))))
   obtain⟨rfl,rfl⟩:=hq
   refine .done ?_
   exact .inl (A7 rfl rfl ⟨rfl,rfl⟩)
 ·rw[Bool.not_eq_true] at ha
  have eO:B3 ⟨self,many,pmd,normal,log,cmt,lds,std,jns,first,aks,hrd,out,dead,st⟩ s=(He ⟨self,many,pmd,normal,log,cmt,lds,std,jns,first,aks,hrd,out,dead,st⟩ ⟨pmd,A5 log+1,s⟩,true):=by
   unfold B3;rw[if_neg hno];dsimp only;rw[if_neg (by rw[ha];decide)]
  rw[ha,eO]
  refine .done ?_
  refine EvIf.mk (fun _=>?_) fun h=>absurd h (by decide)
  exact .inl (A7 rfl rfl ⟨rfl,rfl⟩)
theorem Za0 (n:PN)(b e:Nat)(h:n.dead=false→n.std=false)(s:ByteArray):FnO Tryz.prog 28 [.ptr 0 0,.v (.string s)] (cB n b e) fun g rs=>g=.v (.bool (B3 n s).2)∧rs=cB (B3 n s).1 b e:=by
 have no:(n.dead=true∨n.std=false)→B3 n s=(n,false):=fun hh=>by
  unfold B3;rw[if_pos (by rcases hh with h | h;exact .inl h;exact .inr (.inl h))]
 refine Bd Tryz.func28 (by kernel_rfl) rfl (Nat.le_of_ble_eq_true (by kernel_rfl)) (by kernel_rfl) (A6 (O:=oBs n b e) (n0:=5) rfl) ?_
 refine EvIf.mk (fun hd=>?_) fun hd=>?_
 ·rw[no (.inl hd)]
  exact .inl (A1 (oBs n b e) [] (by exact RL5) rfl ⟨_,rfl⟩ rfl rfl ⟨rfl,rfl⟩)
 rw[no (.inr (h hd))]
 refine EvIf.mk (fun hs=>?_) fun hs=>absurd (h hd) (by simpa using hs)
 exact .inl (A1 (oBs n b e) [] (by exact RL5) rfl ⟨_,rfl⟩ rfl rfl ⟨rfl,rfl⟩)
end Go.Proofs.YtihfaocdpmmooaaGreat

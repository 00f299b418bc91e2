
import Derived.Test.YtihfaocdpmmooaaGreatZNj
namespace Go.Proofs.YtihfaocdpmmooaaGreat
open Go.RowKit
set_option maxRecDepth 100000
structure WNb (n:PN):Prop where
 st:WK n.st
 m0:1≤n.many
 m7:n.many≤7
 self:n.self < n.many
 log:n.log.length≤150
 out:n.out.length≤700000
 jns:∀i,i < 7→(n.jns i).l.length≤150
theorem Cm (n:PN)(r:ByteArray):∃st out dead,Br n r={n with st:=st,out:=out,dead:=dead}∧out.length≤n.out.length:=by
 have key:∀(st:LD) (er:Int),∃st' out dead,E3 {n with st:=st} er={n with st:=st',out:=out,dead:=dead}∧out.length≤n.out.length:=fun st er=>by
  obtain⟨h1,h2⟩:=Lu {n with st:=st} er
  exact⟨st,_,_,h1,h2⟩
 unfold Br
 split
 ·exact key _ _
 ·split
  ·exact key _ _
  ·exact key _ _
set_option maxHeartbeats 4000000 in
theorem Z2h (n:PN)(b e:Nat)(h:n.dead=false→WNb n)(s:ByteArray):FnO Tryz.prog 28 [.ptr 0 0,.v (.string s)] (cA n b e) fun g rs=>g=.v (.bool (C8 n s).2)∧rs=cA (C8 n s).1 b e:=by
 obtain⟨L,E,B,C,A,H,I,F,J,D,G,K,N,M,P⟩:=n
 have no:(M=true∨F=false∨A.length ≥ 150∨s.size > 200)→C8 ⟨L,E,B,C,A,H,I,F,J,D,G,K,N,M,P⟩ s=(⟨L,E,B,C,A,H,I,F,J,D,G,K,N,M,P⟩,false):=fun hh=>by
  unfold C8;rw[db hh]
 refine Ba Tryz.func28 (A5 (O:=oAs ⟨L,E,B,C,A,H,I,F,J,D,G,K,N,M,P⟩ b e) (n0:=5) rfl) ?_
 refine dj (fun hd=>?_) fun hd=>?_
 ·rw[no (.inl hd)]
  exact .inl (A1 (oAs ⟨L,E,B,C,A,H,I,F,J,D,G,K,N,M,P⟩ b e) [] (by exact RL5) rfl ⟨_,rfl⟩ rfl rfl ⟨rfl,rfl⟩)
 have hd:M=false:=hd
 obtain⟨h1,h2,h3,h4,h5,h6,h7⟩:=h hd
 clear h
 dsimp only at h1 h2 h3 h4 h5 h6 h7
 refine dj (fun hs=>?_) fun hs=>?_
 ·rw[no (.inr (.inl (by simpa using hs)))]
  exact .inl (A1 (oAs ⟨L,E,B,C,A,H,I,F,J,D,G,K,N,M,P⟩ b e) [] (by exact RL5) rfl ⟨_,rfl⟩ rfl rfl ⟨rfl,rfl⟩)
 have hs:F=true:=by simpa using hs
 refine df (fun hl=>?_) fun hl=>?_
 ·rw[no (.inr (.inr (.inl (by rw[aa] at hl;have hl:((A.length:Nat):Int) ≥ 150:=hl;omega))))]
  exact .inl (A1 (oAs ⟨L,E,B,C,A,H,I,F,J,D,G,K,N,M,P⟩ b e) [] (by exact RL5) rfl ⟨_,rfl⟩ rfl rfl ⟨rfl,rfl⟩)
 refine df (fun hz=>?_) fun hz=>?_
 ·rw[no (.inr (.inr (.inr (by omega))))]
  exact .inl (A1 (oAs ⟨L,E,B,C,A,H,I,F,J,D,G,K,N,M,P⟩ b e) [] (by exact RL5) rfl ⟨_,rfl⟩ rfl rfl ⟨rfl,rfl⟩)
 have hl:¬A.length ≥ 150:=fun h=>hl (by rw[aa];show((A.length:Nat):Int) ≥ 150;omega)
 have hle:0≤A4 A∧A4 A < 150:=by rw[E1];omega
 have hno:¬(M=true∨F=false∨A.length ≥ 150∨s.size > 200):=by
  rw[hd,hs]
  rintro(h | h | h | h)
  ·cases h
  ·cases h
  ·omega
  ·omega
 refine⟨by show -9223372036854775808≤A4 A+1∧A4 A+1≤9223372036854775807;omega,?_⟩
 refine dg (.close (oAs ⟨L,E,B,C,A,H,I,F,J,D,G,K,N,M,P⟩ b e) [] (by exact RL5) ⟨_,rfl⟩ rfl (.done (.same ((Zg6 ⟨L,E,B,C,A,H,I,F,J,D,G,K,N,M,P⟩ b e h1 (by show A.length≤_;omega) ⟨B,A4 A+1,s⟩).cal fun q rs hq=>?_))))
 obtain⟨rfl,rfl⟩:=hq
 obtain⟨st',out',dead',eA,hol⟩:=Cm ⟨L,E,B,C,A++[⟨B,A4 A+1,s⟩],H,I,F,J,D,G,K,N,M,P⟩ (Cp 3 B (A4 A+1) s)
 by_cases ha:Ye ⟨L,E,B,C,A,H,I,F,J,D,G,K,N,M,P⟩ ⟨B,A4 A+1,s⟩=true
 ·have eO:C8 ⟨L,E,B,C,A,H,I,F,J,D,G,K,N,M,P⟩ s=(Dy (Ax {Kf ⟨L,E,B,C,A,H,I,F,J,D,G,K,N,M,P⟩ ⟨B,A4 A+1,s⟩ with aks:=fun i=>if i=L then A4 A+1 else G i} ⟨4,B,0,A4 A+1 - 1,[⟨B,A4 A+1,s⟩]⟩),true):=by
   unfold C8;rw[da hno];dsimp only;rw[db ha]
  have eA:Kf ⟨L,E,B,C,A,H,I,F,J,D,G,K,N,M,P⟩ ⟨B,A4 A+1,s⟩=⟨L,E,B,C,A++[⟨B,A4 A+1,s⟩],H,I,F,J,D,G,K,out',dead',st'⟩:=eA
  rw[ha,eO,eA]
  dsimp only at hol
  clear eO eA ha no hno
  refine .opn 0 _ _ _ rfl rfl rfl (.done ?_)
  refine dj (fun h=>dc h (by decide)) fun _=>?_
  have hs7:L=0∨L=1∨L=2∨L=3∨L=4∨L=5∨L=6:=by omega
  rcases hs7 with rfl | rfl | rfl | rfl | rfl | rfl | rfl
  ·refine⟨⟨bj 0,by show((0:Nat):Int) < ((7:Nat):Int);decide⟩,?_⟩
   refine⟨by show -9223372036854775808≤A4 A+1 - 1∧A4 A+1 - 1≤9223372036854775807;omega,?_⟩
   have hS:=F7 ⟨0,E,B,C,A++[⟨B,A4 A+1,s⟩],H,I,F,J,D,fun i=>if i=0 then A4 A+1 else G i,K,out',dead',st'⟩ (cl (oLs st' e)) ⟨4,B,0,A4 A+1 - 1,[⟨B,A4 A+1,s⟩]⟩ (by show 1≤1000000;decide) (by show E≤100;omega) (by show out'.length≤_;omega)
   have hol2:=Aa ⟨0,E,B,C,A++[⟨B,A4 A+1,s⟩],H,I,F,J,D,fun i=>if i=0 then A4 A+1 else G i,K,out',dead',st'⟩ ⟨4,B,0,A4 A+1 - 1,[⟨B,A4 A+1,s⟩]⟩
   obtain⟨o,hs⟩:=(A2 ⟨0,E,B,C,A++[⟨B,A4 A+1,s⟩],H,I,F,J,D,fun i=>if i=0 then A4 A+1 else G i,K,out',dead',st'⟩ ⟨4,B,0,A4 A+1 - 1,[⟨B,A4 A+1,s⟩]⟩).to
   rw[hs] at hS hol2⊢
   have hol2:o.length≤out'.length+E:=hol2
   refine hS.cal fun q rs hq=>?_
   obtain⟨rfl,rfl⟩:=hq
   refine dg (.close (oAs ⟨0,E,B,C,A++[⟨B,A4 A+1,s⟩],H,I,F,J,D,fun i=>if i=0 then A4 A+1 else G i,K,o,dead',st'⟩ b e) [(1,6),(2,7),(3,11),(4,9)] (by exact RL5) ⟨_,rfl⟩ rfl (.done (.same ((Cv _ b e h2 h3 (by show o.length≤_;omega)).cal fun q rs hq=>?_))))
   obtain⟨rfl,rfl⟩:=hq
   refine .done ?_
   exact .inl (A7 rfl rfl ⟨rfl,rfl⟩)
  ·refine⟨⟨bj 1,by show((1:Nat):Int) < ((7:Nat):Int);decide⟩,?_⟩
   refine⟨by show -9223372036854775808≤A4 A+1 - 1∧A4 A+1 - 1≤9223372036854775807;omega,?_⟩
   have hS:=F7 ⟨1,E,B,C,A++[⟨B,A4 A+1,s⟩],H,I,F,J,D,fun i=>if i=1 then A4 A+1 else G i,K,out',dead',st'⟩ (cl (oLs st' e)) ⟨4,B,0,A4 A+1 - 1,[⟨B,A4 A+1,s⟩]⟩ (by show 1≤1000000;decide) (by show E≤100;omega) (by show out'.length≤_;omega)
   have hol2:=Aa ⟨1,E,B,C,A++[⟨B,A4 A+1,s⟩],H,I,F,J,D,fun i=>if i=1 then A4 A+1 else G i,K,out',dead',st'⟩ ⟨4,B,0,A4 A+1 - 1,[⟨B,A4 A+1,s⟩]⟩
   obtain⟨o,hs⟩:=(A2 ⟨1,E,B,C,A++[⟨B,A4 A+1,s⟩],H,I,F,J,D,fun i=>if i=1 then A4 A+1 else G i,K,out',dead',st'⟩ ⟨4,B,0,A4 A+1 - 1,[⟨B,A4 A+1,s⟩]⟩).to
   rw[hs] at hS hol2⊢
   have hol2:o.length≤out'.length+E:=hol2
   refine hS.cal fun q rs hq=>?_
   obtain⟨rfl,rfl⟩:=hq
   refine dg (.close (oAs ⟨1,E,B,C,A++[⟨B,A4 A+1,s⟩],H,I,F,J,D,fun i=>if i=1 then A4 A+1 else G i,K,o,dead',st'⟩ b e) [(1,6),(2,7),(3,11),(4,9)] (by exact RL5) ⟨_,rfl⟩ rfl (.done (.same ((Cv _ b e h2 h3 (by show o.length≤_;omega)).cal fun q rs hq=>?_))))
   obtain⟨rfl,rfl⟩:=hq
   refine .done ?_
   exact .inl (A7 rfl rfl ⟨rfl,rfl⟩)
  ·refine⟨⟨bj 2,by show((2:Nat):Int) < ((7:Nat):Int);decide⟩,?_⟩
   refine⟨by show -9223372036854775808≤A4 A+1 - 1∧A4 A+1 - 1≤9223372036854775807;omega,?_⟩
   have hS:=F7 ⟨2,E,B,C,A++[⟨B,A4 A+1,s⟩],H,I,F,J,D,fun i=>if i=2 then A4 A+1 else G i,K,out',dead',st'⟩ (cl (oLs st' e)) ⟨4,B,0,A4 A+1 - 1,[⟨B,A4 A+1,s⟩]⟩ (by show 1≤1000000;decide) (by show E≤100;omega) (by show out'.length≤_;omega)
   have hol2:=Aa ⟨2,E,B,C,A++[⟨B,A4 A+1,s⟩],H,I,F,J,D,fun i=>if i=2 then A4 A+1 else G i,K,out',dead',st'⟩ ⟨4,B,0,A4 A+1 - 1,[⟨B,A4 A+1,s⟩]⟩
   obtain⟨o,hs⟩:=(A2 ⟨2,E,B,C,A++[⟨B,A4 A+1,s⟩],H,I,F,J,D,fun i=>if i=2 then A4 A+1 else G i,K,out',dead',st'⟩ ⟨4,B,0,A4 A+1 - 1,[⟨B,A4 A+1,s⟩]⟩).to
   rw[hs] at hS hol2⊢
   have hol2:o.length≤out'.length+E:=hol2
   refine hS.cal fun q rs hq=>?_
   obtain⟨rfl,rfl⟩:=hq
   refine dg (.close (oAs ⟨2,E,B,C,A++[⟨B,A4 A+1,s⟩],H,I,F,J,D,fun i=>if i=2 then A4 A+1 else G i,K,o,dead',st'⟩ b e) [(1,6),(2,7),(3,11),(4,9)] (by exact RL5) ⟨_,rfl⟩ rfl (.done (.same ((Cv _ b e h2 h3 (by show o.length≤_;omega)).cal fun q rs hq=>?_))))
   obtain⟨rfl,rfl⟩:=hq
   refine .done ?_
   exact .inl (A7 rfl rfl ⟨rfl,rfl⟩)
  ·refine⟨⟨bj 3,by show((3:Nat):Int) < ((7:Nat):Int);decide⟩,?_⟩
   refine⟨by show -9223372036854775808≤A4 A+1 - 1∧A4 A+1 - 1≤9223372036854775807;omega,?_⟩
   have hS:=F7 ⟨3,E,B,C,A++[⟨B,A4 A+1,s⟩],H,I,F,J,D,fun i=>if i=3 then A4 A+1 else G i,K,out',dead',st'⟩ (cl (oLs st' e)) ⟨4,B,0,A4 A+1 - 1,[⟨B,A4 A+1,s⟩]⟩ (by show 1≤1000000;decide) (by show E≤100;omega) (by show out'.length≤_;omega)
   have hol2:=Aa ⟨3,E,B,C,A++[⟨B,A4 A+1,s⟩],H,I,F,J,D,fun i=>if i=3 then A4 A+1 else G i,K,out',dead',st'⟩ ⟨4,B,0,A4 A+1 - 1,[⟨B,A4 A+1,s⟩]⟩
   obtain⟨o,hs⟩:=(A2 ⟨3,E,B,C,A++[⟨B,A4 A+1,s⟩],H,I,F,J,D,fun i=>if i=3 then A4 A+1 else G i,K,out',dead',st'⟩ ⟨4,B,0,A4 A+1 - 1,[⟨B,A4 A+1,s⟩]⟩).to
   rw[hs] at hS hol2⊢
   have hol2:o.length≤out'.length+E:=hol2
   refine hS.cal fun q rs hq=>?_
   obtain⟨rfl,rfl⟩:=hq
   refine dg (.close (oAs ⟨3,E,B,C,A++[⟨B,A4 A+1,s⟩],H,I,F,J,D,fun i=>if i=3 then A4 A+1 else G i,K,o,dead',st'⟩ b e) [(1,6),(2,7),(3,11),(4,9)] (by exact RL5) ⟨_,rfl⟩ rfl (.done (.same ((Cv _ b e h2 h3 (by show o.length≤_;omega)).cal fun q rs hq=>?_))))
   obtain⟨rfl,rfl⟩:=hq
   refine .done ?_
   exact .inl (A7 rfl rfl ⟨rfl,rfl⟩)
  ·refine⟨⟨bj 4,by show((4:Nat):Int) < ((7:Nat):Int);decide⟩,?_⟩
   refine⟨by show -9223372036854775808≤A4 A+1 - 1∧A4 A+1 - 1≤9223372036854775807;omega,?_⟩
   have hS:=F7 ⟨4,E,B,C,A++[⟨B,A4 A+1,s⟩],H,I,F,J,D,fun i=>if i=4 then A4 A+1 else G i,K,out',dead',st'⟩ (cl (oLs st' e)) ⟨4,B,0,A4 A+1 - 1,[⟨B,A4 A+1,s⟩]⟩ (by show 1≤1000000;decide) (by show E≤100;omega) (by show out'.length≤_;omega)
   have hol2:=Aa ⟨4,E,B,C,A++[⟨B,A4 A+1,s⟩],H,I,F,J,D,fun i=>if i=4 then A4 A+1 else G i,K,out',dead',st'⟩ ⟨4,B,0,A4 A+1 - 1,[⟨B,A4 A+1,s⟩]⟩
   obtain⟨o,hs⟩:=(A2 ⟨4,E,B,C,A++[⟨B,A4 A+1,s⟩],H,I,F,J,D,fun i=>if i=4 then A4 A+1 else G i,K,out',dead',st'⟩ ⟨4,B,0,A4 A+1 - 1,[⟨B,A4 A+1,s⟩]⟩).to
   rw[hs] at hS hol2⊢
   have hol2:o.length≤out'.length+E:=hol2
   refine hS.cal fun q rs hq=>?_
   obtain⟨rfl,rfl⟩:=hq
   refine dg (.close (oAs ⟨4,E,B,C,A++[⟨B,A4 A+1,s⟩],H,I,F,J,D,fun i=>if i=4 then A4 A+1 else G i,K,o,dead',st'⟩ b e) [(1,6),(2,7),(3,11),(4,9)] (by exact RL5) ⟨_,rfl⟩ rfl (.done (.same ((Cv _ b e h2 h3 (by show o.length≤_;omega)).cal fun q rs hq=>?_))))
   obtain⟨rfl,rfl⟩:=hq
   refine .done ?_
   exact .inl (A7 rfl rfl ⟨rfl,rfl⟩)
  ·refine⟨⟨bj 5,by show((5:Nat):Int) < ((7:Nat):Int);decide⟩,?_⟩
   refine⟨by show -9223372036854775808≤A4 A+1 - 1∧A4 A+1 - 1≤9223372036854775807;omega,?_⟩
   have hS:=F7 ⟨5,E,B,C,A++[⟨B,A4 A+1,s⟩],H,I,F,J,D,fun i=>if i=5 then A4 A+1 else G i,K,out',dead',st'⟩ (cl (oLs st' e)) ⟨4,B,0,A4 A+1 - 1,[⟨B,A4 A+1,s⟩]⟩ (by show 1≤1000000;decide) (by show E≤100;omega) (by show out'.length≤_;omega)
   have hol2:=Aa ⟨5,E,B,C,A++[⟨B,A4 A+1,s⟩],H,I,F,J,D,fun i=>if i=5 then A4 A+1 else G i,K,out',dead',st'⟩ ⟨4,B,0,A4 A+1 - 1,[⟨B,A4 A+1,s⟩]⟩
   obtain⟨o,hs⟩:=(A2 ⟨5,E,B,C,A++[⟨B,A4 A+1,s⟩],H,I,F,J,D,fun i=>if i=5 then A4 A+1 else G i,K,out',dead',st'⟩ ⟨4,B,0,A4 A+1 - 1,[⟨B,A4 A+1,s⟩]⟩).to
   rw[hs] at hS hol2⊢
   have hol2:o.length≤out'.length+E:=hol2
   refine hS.cal fun q rs hq=>?_
   obtain⟨rfl,rfl⟩:=hq
   refine dg (.close (oAs ⟨5,E,B,C,A++[⟨B,A4 A+1,s⟩],H,I,F,J,D,fun i=>if i=5 then A4 A+1 else G i,K,o,dead',st'⟩ b e) [(1,6),(2,7),(3,11),(4,9)] (by exact RL5) ⟨_,rfl⟩ rfl (.done (.same ((Cv _ b e h2 h3 (by show o.length≤_;omega)).cal fun q rs hq=>?_))))
   obtain⟨rfl,rfl⟩:=hq
   refine .done ?_
   exact .inl (A7 rfl rfl ⟨rfl,rfl⟩)
  ·refine⟨⟨bj 6,by show((6:Nat):Int) < ((7:Nat):Int);decide⟩,?_⟩
   refine⟨by show -9223372036854775808≤A4 A+1 - 1∧A4 A+1 - 1≤9223372036854775807;omega,?_⟩
   have hS:=F7 ⟨6,E,B,C,A++[⟨B,A4 A+1,s⟩],H,I,F,J,D,fun i=>if i=6 then A4 A+1 else G i,K,out',dead',st'⟩ (cl (oLs st' e)) ⟨4,B,0,A4 A+1 - 1,[⟨B,A4 A+1,s⟩]⟩ (by show 1≤1000000;decide) (by show E≤100;omega) (by show out'.length≤_;omega)
   have hol2:=Aa ⟨6,E,B,C,A++[⟨B,A4 A+1,s⟩],H,I,F,J,D,fun i=>if i=6 then A4 A+1 else G i,K,out',dead',st'⟩ ⟨4,B,0,A4 A+1 - 1,[⟨B,A4 A+1,s⟩]⟩
   obtain⟨o,hs⟩:=(A2 ⟨6,E,B,C,A++[⟨B,A4 A+1,s⟩],H,I,F,J,D,fun i=>if i=6 then A4 A+1 else G i,K,out',dead',st'⟩ ⟨4,B,0,A4 A+1 - 1,[⟨B,A4 A+1,s⟩]⟩).to
   rw[hs] at hS hol2⊢
   have hol2:o.length≤out'.length+E:=hol2
   refine hS.cal fun q rs hq=>?_
   obtain⟨rfl,rfl⟩:=hq
   refine dg (.close (oAs ⟨6,E,B,C,A++[⟨B,A4 A+1,s⟩],H,I,F,J,D,fun i=>if i=6 then A4 A+1 else G i,K,o,dead',st'⟩ b e) [(1,6),(2,7),(3,11),(4,9)] (by exact RL5) ⟨_,rfl⟩ rfl (.done (.same ((Cv _ b e h2 h3 (by show o.length≤_;omega)).cal fun q rs hq=>?_))))
   obtain⟨rfl,rfl⟩:=hq
   refine .done ?_
   exact .inl (A7 rfl rfl ⟨rfl,rfl⟩)
 ·rw[Bool.not_eq_true] at ha
  have eO:C8 ⟨L,E,B,C,A,H,I,F,J,D,G,K,N,M,P⟩ s=(Kf ⟨L,E,B,C,A,H,I,F,J,D,G,K,N,M,P⟩ ⟨B,A4 A+1,s⟩,true):=by
   unfold C8;rw[da hno];dsimp only;rw[da (by rw[ha];decide)]
  rw[ha,eO]
  refine .done ?_
  refine dj (fun _=>?_) fun h=>dc h (by decide)
  exact .inl (A7 rfl rfl ⟨rfl,rfl⟩)
theorem Zba (n:PN)(b e:Nat)(h:n.dead=false→n.std=false)(s:ByteArray):FnO Tryz.prog 28 [.ptr 0 0,.v (.string s)] (cB n b e) fun g rs=>g=.v (.bool (C8 n s).2)∧rs=cB (C8 n s).1 b e:=by
 have no:(n.dead=true∨n.std=false)→C8 n s=(n,false):=fun hh=>by
  unfold C8;rw[db (by rcases hh with h | h;exact .inl h;exact .inr (.inl h))]
 refine Ba Tryz.func28 (A5 (O:=oBs n b e) (n0:=5) rfl) ?_
 refine dj (fun hd=>?_) fun hd=>?_
 ·rw[no (.inl hd)]
  exact .inl (A1 (oBs n b e) [] (by exact RL5) rfl ⟨_,rfl⟩ rfl rfl ⟨rfl,rfl⟩)
 rw[no (.inr (h hd))]
 refine dj (fun hs=>?_) fun hs=>dc (h hd) (by simpa using hs)
 exact .inl (A1 (oBs n b e) [] (by exact RL5) rfl ⟨_,rfl⟩ rfl rfl ⟨rfl,rfl⟩)
end Go.Proofs.YtihfaocdpmmooaaGreat

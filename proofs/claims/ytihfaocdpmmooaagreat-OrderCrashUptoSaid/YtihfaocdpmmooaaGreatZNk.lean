
import Derived.Test.YtihfaocdpmmooaaGreatZNj
namespace Go.Proofs.YtihfaocdpmmooaaGreat
open Go.RowKit
set_option maxRecDepth 100000
structure WNb (n:PN):Prop where
 st:WK n.st
 m0:1≤n.many
 m7:n.many≤7
 self:n.self < n.many
 log:n.log.length≤150
 out:n.out.length≤700000
 jns:∀i,i < 7→(n.jns i).l.length≤150
theorem D4 (n:PN)(r:ByteArray):∃st out dead,B3 n r={n with st:=st,out:=out,dead:=dead}∧out.length≤n.out.length:=by
 have key:∀(st:LD) (b:Int),∃a out dead,D8 {n with st:=st} b={n with st:=a,out:=out,dead:=dead}∧out.length≤n.out.length:=fun st b=>by obtain⟨c,d⟩:=Mm {n with st:=st} b;exact⟨st,_,_,c,d⟩
 unfold B3;split
 ·exact key _ _
 ·split
  ·exact key _ _
  ·exact key _ _
set_option maxHeartbeats 4000000 in
theorem Z4o (n:PN)(b e:Nat)(h:n.dead=false→WNb n)(s:ByteArray):FnO Tryz.prog 28 [.ptr 0 0,.v (.string s)] (cA n b e) fun g rs=>g=.v (.bool (Bc n s).2)∧rs=cA (Bc n s).1 b e:=by
 obtain⟨L,E,B,C,A,H,I,F,J,D,G,K,N,M,P⟩:=n;have no:(M=true∨F=false∨A.length ≥ 150∨s.size > 200)→Bc ⟨L,E,B,C,A,H,I,F,J,D,G,K,N,M,P⟩ s=(⟨L,E,B,C,A,H,I,F,J,D,G,K,N,M,P⟩,false):=fun R=>by unfold Bc;rw[dc R]
 refine Bq Tryz.func28 (A6 (O:=oAs ⟨L,E,B,C,A,H,I,F,J,D,G,K,N,M,P⟩ b e) (n0:=5) rfl) ?_;refine dk (fun hd=>?_) fun hd=>?_
 ·rw[no (.inl hd)];exact .inl (A1 (oAs ⟨L,E,B,C,A,H,I,F,J,D,G,K,N,M,P⟩ b e) [] (by exact RL5) rfl ⟨_,rfl⟩ rfl rfl ⟨rfl,rfl⟩)
 have hd:M=false:=hd;obtain⟨z,p,m,T,V,W,Q⟩:=h hd;clear h;dsimp only at z p m T V W Q;refine dk (fun l=>?_) fun l=>?_
 ·rw[no (.inr (.inl (by simpa using l)))];exact .inl (A1 (oAs ⟨L,E,B,C,A,H,I,F,J,D,G,K,N,M,P⟩ b e) [] (by exact RL5) rfl ⟨_,rfl⟩ rfl rfl ⟨rfl,rfl⟩)
 have l:F=true:=by simpa using l
 refine dg (fun t=>?_) fun t=>?_
 ·rw[no (.inr (.inr (.inl (by rw[aa] at t;have t:((A.length:Nat):Int) ≥ 150:=t;omega))))];exact .inl (A1 (oAs ⟨L,E,B,C,A,H,I,F,J,D,G,K,N,M,P⟩ b e) [] (by exact RL5) rfl ⟨_,rfl⟩ rfl rfl ⟨rfl,rfl⟩)
 refine dg (fun S=>?_) fun S=>?_
 ·rw[no (.inr (.inr (.inr (by omega))))];exact .inl (A1 (oAs ⟨L,E,B,C,A,H,I,F,J,D,G,K,N,M,P⟩ b e) [] (by exact RL5) rfl ⟨_,rfl⟩ rfl rfl ⟨rfl,rfl⟩)
 have t:¬A.length ≥ 150:=fun h=>t (by rw[aa];show((A.length:Nat):Int) ≥ 150;omega);have U:0≤A3 A∧A3 A < 150:=by rw[Dy];omega
 have r:¬(M=true∨F=false∨A.length ≥ 150∨s.size > 200):=by
  rw[hd,l];rintro(h | h | h | h)
  ·cases h
  ·cases h
  ·omega
  ·omega
 refine⟨by show -9223372036854775808≤A3 A+1∧A3 A+1≤9223372036854775807;omega,?_⟩;refine dh (.close (oAs ⟨L,E,B,C,A,H,I,F,J,D,G,K,N,M,P⟩ b e) [] (by exact RL5) ⟨_,rfl⟩ rfl (.done (.same ((Zk9 ⟨L,E,B,C,A,H,I,F,J,D,G,K,N,M,P⟩ b e z (by show A.length≤_;omega) ⟨B,A3 A+1,s⟩).cal fun q rs j=>?_))));obtain⟨rfl,rfl⟩:=j;obtain⟨f,c,a,u,y⟩:=D4 ⟨L,E,B,C,A++[⟨B,A3 A+1,s⟩],H,I,F,J,D,G,K,N,M,P⟩ (Ce 3 B (A3 A+1) s);by_cases ha:Lx ⟨L,E,B,C,A,H,I,F,J,D,G,K,N,M,P⟩ ⟨B,A3 A+1,s⟩=true
 ·have w:Bc ⟨L,E,B,C,A,H,I,F,J,D,G,K,N,M,P⟩ s=(Cj (An {F8 ⟨L,E,B,C,A,H,I,F,J,D,G,K,N,M,P⟩ ⟨B,A3 A+1,s⟩ with aks:=fun i=>if i=L then A3 A+1 else G i} ⟨4,B,0,A3 A+1 - 1,[⟨B,A3 A+1,s⟩]⟩),true):=by
   unfold Bc;rw[db r];dsimp only;rw[dc ha]
  have u:F8 ⟨L,E,B,C,A,H,I,F,J,D,G,K,N,M,P⟩ ⟨B,A3 A+1,s⟩=⟨L,E,B,C,A++[⟨B,A3 A+1,s⟩],H,I,F,J,D,G,K,c,a,f⟩:=u;rw[ha,w,u];dsimp only at y;clear w u ha no r;refine .opn 0 _ _ _ rfl rfl rfl (.done ?_);refine dk (fun h=>de h (by decide)) fun _=>?_;have x:L=0∨L=1∨L=2∨L=3∨L=4∨L=5∨L=6:=by omega
  rcases x with rfl | rfl | rfl | rfl | rfl | rfl | rfl
  ·refine⟨⟨bk 0,by show((0:Nat):Int) < ((7:Nat):Int);decide⟩,?_⟩;refine⟨by show -9223372036854775808≤A3 A+1 - 1∧A3 A+1 - 1≤9223372036854775807;omega,?_⟩;have k:=Fm ⟨0,E,B,C,A++[⟨B,A3 A+1,s⟩],H,I,F,J,D,fun i=>if i=0 then A3 A+1 else G i,K,c,a,f⟩ (cl (oLs f e)) ⟨4,B,0,A3 A+1 - 1,[⟨B,A3 A+1,s⟩]⟩ (by show 1≤1000000;decide) (by show E≤100;omega) (by show c.length≤_;omega);have d:=Ab ⟨0,E,B,C,A++[⟨B,A3 A+1,s⟩],H,I,F,J,D,fun i=>if i=0 then A3 A+1 else G i,K,c,a,f⟩ ⟨4,B,0,A3 A+1 - 1,[⟨B,A3 A+1,s⟩]⟩;obtain⟨o,l⟩:=(A2 ⟨0,E,B,C,A++[⟨B,A3 A+1,s⟩],H,I,F,J,D,fun i=>if i=0 then A3 A+1 else G i,K,c,a,f⟩ ⟨4,B,0,A3 A+1 - 1,[⟨B,A3 A+1,s⟩]⟩).to;rw[l] at k d⊢;have d:o.length≤c.length+E:=d;refine k.cal fun q rs j=>?_;obtain⟨rfl,rfl⟩:=j;refine dh (.close (oAs ⟨0,E,B,C,A++[⟨B,A3 A+1,s⟩],H,I,F,J,D,fun i=>if i=0 then A3 A+1 else G i,K,o,a,f⟩ b e) [(1,6),(2,7),(3,11),(4,9)] (by exact RL5) ⟨_,rfl⟩ rfl (.done (.same ((Dg _ b e p m (by show o.length≤_;omega)).cal fun q rs j=>?_))));obtain⟨rfl,rfl⟩:=j;refine .done ?_;exact .inl (A7 rfl rfl ⟨rfl,rfl⟩)
  ·refine⟨⟨bk 1,by show((1:Nat):Int) < ((7:Nat):Int);decide⟩,?_⟩;refine⟨by show -9223372036854775808≤A3 A+1 - 1∧A3 A+1 - 1≤9223372036854775807;omega,?_⟩;have k:=Fm ⟨1,E,B,C,A++[⟨B,A3 A+1,s⟩],H,I,F,J,D,fun i=>if i=1 then A3 A+1 else G i,K,c,a,f⟩ (cl (oLs f e)) ⟨4,B,0,A3 A+1 - 1,[⟨B,A3 A+1,s⟩]⟩ (by show 1≤1000000;decide) (by show E≤100;omega) (by show c.length≤_;omega);have d:=Ab ⟨1,E,B,C,A++[⟨B,A3 A+1,s⟩],H,I,F,J,D,fun i=>if i=1 then A3 A+1 else G i,K,c,a,f⟩ ⟨4,B,0,A3 A+1 - 1,[⟨B,A3 A+1,s⟩]⟩;obtain⟨o,l⟩:=(A2 ⟨1,E,B,C,A++[⟨B,A3 A+1,s⟩],H,I,F,J,D,fun i=>if i=1 then A3 A+1 else G i,K,c,a,f⟩ ⟨4,B,0,A3 A+1 - 1,[⟨B,A3 A+1,s⟩]⟩).to;rw[l] at k d⊢;have d:o.length≤c.length+E:=d;refine k.cal fun q rs j=>?_;obtain⟨rfl,rfl⟩:=j;refine dh (.close (oAs ⟨1,E,B,C,A++[⟨B,A3 A+1,s⟩],H,I,F,J,D,fun i=>if i=1 then A3 A+1 else G i,K,o,a,f⟩ b e) [(1,6),(2,7),(3,11),(4,9)] (by exact RL5) ⟨_,rfl⟩ rfl (.done (.same ((Dg _ b e p m (by show o.length≤_;omega)).cal fun q rs j=>?_))));obtain⟨rfl,rfl⟩:=j;refine .done ?_;exact .inl (A7 rfl rfl ⟨rfl,rfl⟩)
  ·refine⟨⟨bk 2,by show((2:Nat):Int) < ((7:Nat):Int);decide⟩,?_⟩;refine⟨by show -9223372036854775808≤A3 A+1 - 1∧A3 A+1 - 1≤9223372036854775807;omega,?_⟩;have k:=Fm ⟨2,E,B,C,A++[⟨B,A3 A+1,s⟩],H,I,F,J,D,fun i=>if i=2 then A3 A+1 else G i,K,c,a,f⟩ (cl (oLs f e)) ⟨4,B,0,A3 A+1 - 1,[⟨B,A3 A+1,s⟩]⟩ (by show 1≤1000000;decide) (by show E≤100;omega) (by show c.length≤_;omega);have d:=Ab ⟨2,E,B,C,A++[⟨B,A3 A+1,s⟩],H,I,F,J,D,fun i=>if i=2 then A3 A+1 else G i,K,c,a,f⟩ ⟨4,B,0,A3 A+1 - 1,[⟨B,A3 A+1,s⟩]⟩;obtain⟨o,l⟩:=(A2 ⟨2,E,B,C,A++[⟨B,A3 A+1,s⟩],H,I,F,J,D,fun i=>if i=2 then A3 A+1 else G i,K,c,a,f⟩ ⟨4,B,0,A3 A+1 - 1,[⟨B,A3 A+1,s⟩]⟩).to;rw[l] at k d⊢;have d:o.length≤c.length+E:=d;refine k.cal fun q rs j=>?_;obtain⟨rfl,rfl⟩:=j;refine dh (.close (oAs ⟨2,E,B,C,A++[⟨B,A3 A+1,s⟩],H,I,F,J,D,fun i=>if i=2 then A3 A+1 else G i,K,o,a,f⟩ b e) [(1,6),(2,7),(3,11),(4,9)] (by exact RL5) ⟨_,rfl⟩ rfl (.done (.same ((Dg _ b e p m (by show o.length≤_;omega)).cal fun q rs j=>?_))));obtain⟨rfl,rfl⟩:=j;refine .done ?_;exact .inl (A7 rfl rfl ⟨rfl,rfl⟩)
  ·refine⟨⟨bk 3,by show((3:Nat):Int) < ((7:Nat):Int);decide⟩,?_⟩;refine⟨by show -9223372036854775808≤A3 A+1 - 1∧A3 A+1 - 1≤9223372036854775807;omega,?_⟩;have k:=Fm ⟨3,E,B,C,A++[⟨B,A3 A+1,s⟩],H,I,F,J,D,fun i=>if i=3 then A3 A+1 else G i,K,c,a,f⟩ (cl (oLs f e)) ⟨4,B,0,A3 A+1 - 1,[⟨B,A3 A+1,s⟩]⟩ (by show 1≤1000000;decide) (by show E≤100;omega) (by show c.length≤_;omega);have d:=Ab ⟨3,E,B,C,A++[⟨B,A3 A+1,s⟩],H,I,F,J,D,fun i=>if i=3 then A3 A+1 else G i,K,c,a,f⟩ ⟨4,B,0,A3 A+1 - 1,[⟨B,A3 A+1,s⟩]⟩;obtain⟨o,l⟩:=(A2 ⟨3,E,B,C,A++[⟨B,A3 A+1,s⟩],H,I,F,J,D,fun i=>if i=3 then A3 A+1 else G i,K,c,a,f⟩ ⟨4,B,0,A3 A+1 - 1,[⟨B,A3 A+1,s⟩]⟩).to;rw[l] at k d⊢;have d:o.length≤c.length+E:=d;refine k.cal fun q rs j=>?_;obtain⟨rfl,rfl⟩:=j;refine dh (.close (oAs ⟨3,E,B,C,A++[⟨B,A3 A+1,s⟩],H,I,F,J,D,fun i=>if i=3 then A3 A+1 else G i,K,o,a,f⟩ b e) [(1,6),(2,7),(3,11),(4,9)] (by exact RL5) ⟨_,rfl⟩ rfl (.done (.same ((Dg _ b e p m (by show o.length≤_;omega)).cal fun q rs j=>?_))));obtain⟨rfl,rfl⟩:=j;refine .done ?_;exact .inl (A7 rfl rfl ⟨rfl,rfl⟩)
  ·refine⟨⟨bk 4,by show((4:Nat):Int) < ((7:Nat):Int);decide⟩,?_⟩;refine⟨by show -9223372036854775808≤A3 A+1 - 1∧A3 A+1 - 1≤9223372036854775807;omega,?_⟩;have k:=Fm ⟨4,E,B,C,A++[⟨B,A3 A+1,s⟩],H,I,F,J,D,fun i=>if i=4 then A3 A+1 else G i,K,c,a,f⟩ (cl (oLs f e)) ⟨4,B,0,A3 A+1 - 1,[⟨B,A3 A+1,s⟩]⟩ (by show 1≤1000000;decide) (by show E≤100;omega) (by show c.length≤_;omega);have d:=Ab ⟨4,E,B,C,A++[⟨B,A3 A+1,s⟩],H,I,F,J,D,fun i=>if i=4 then A3 A+1 else G i,K,c,a,f⟩ ⟨4,B,0,A3 A+1 - 1,[⟨B,A3 A+1,s⟩]⟩;obtain⟨o,l⟩:=(A2 ⟨4,E,B,C,A++[⟨B,A3 A+1,s⟩],H,I,F,J,D,fun i=>if i=4 then A3 A+1 else G i,K,c,a,f⟩ ⟨4,B,0,A3 A+1 - 1,[⟨B,A3 A+1,s⟩]⟩).to;rw[l] at k d⊢;have d:o.length≤c.length+E:=d;refine k.cal fun q rs j=>?_;obtain⟨rfl,rfl⟩:=j;refine dh (.close (oAs ⟨4,E,B,C,A++[⟨B,A3 A+1,s⟩],H,I,F,J,D,fun i=>if i=4 then A3 A+1 else G i,K,o,a,f⟩ b e) [(1,6),(2,7),(3,11),(4,9)] (by exact RL5) ⟨_,rfl⟩ rfl (.done (.same ((Dg _ b e p m (by show o.length≤_;omega)).cal fun q rs j=>?_))));obtain⟨rfl,rfl⟩:=j;refine .done ?_;exact .inl (A7 rfl rfl ⟨rfl,rfl⟩)
  ·refine⟨⟨bk 5,by show((5:Nat):Int) < ((7:Nat):Int);decide⟩,?_⟩;refine⟨by show -9223372036854775808≤A3 A+1 - 1∧A3 A+1 - 1≤9223372036854775807;omega,?_⟩;have k:=Fm ⟨5,E,B,C,A++[⟨B,A3 A+1,s⟩],H,I,F,J,D,fun i=>if i=5 then A3 A+1 else G i,K,c,a,f⟩ (cl (oLs f e)) ⟨4,B,0,A3 A+1 - 1,[⟨B,A3 A+1,s⟩]⟩ (by show 1≤1000000;decide) (by show E≤100;omega) (by show c.length≤_;omega);have d:=Ab ⟨5,E,B,C,A++[⟨B,A3 A+1,s⟩],H,I,F,J,D,fun i=>if i=5 then A3 A+1 else G i,K,c,a,f⟩ ⟨4,B,0,A3 A+1 - 1,[⟨B,A3 A+1,s⟩]⟩;obtain⟨o,l⟩:=(A2 ⟨5,E,B,C,A++[⟨B,A3 A+1,s⟩],H,I,F,J,D,fun i=>if i=5 then A3 A+1 else G i,K,c,a,f⟩ ⟨4,B,0,A3 A+1 - 1,[⟨B,A3 A+1,s⟩]⟩).to;rw[l] at k d⊢;have d:o.length≤c.length+E:=d;refine k.cal fun q rs j=>?_;obtain⟨rfl,rfl⟩:=j;refine dh (.close (oAs ⟨5,E,B,C,A++[⟨B,A3 A+1,s⟩],H,I,F,J,D,fun i=>if i=5 then A3 A+1 else G i,K,o,a,f⟩ b e) [(1,6),(2,7),(3,11),(4,9)] (by exact RL5) ⟨_,rfl⟩ rfl (.done (.same ((Dg _ b e p m (by show o.length≤_;omega)).cal fun q rs j=>?_))));obtain⟨rfl,rfl⟩:=j;refine .done ?_;exact .inl (A7 rfl rfl ⟨rfl,rfl⟩)
  ·refine⟨⟨bk 6,by show((6:Nat):Int) < ((7:Nat):Int);decide⟩,?_⟩;refine⟨by show -9223372036854775808≤A3 A+1 - 1∧A3 A+1 - 1≤9223372036854775807;omega,?_⟩;have k:=Fm ⟨6,E,B,C,A++[⟨B,A3 A+1,s⟩],H,I,F,J,D,fun i=>if i=6 then A3 A+1 else G i,K,c,a,f⟩ (cl (oLs f e)) ⟨4,B,0,A3 A+1 - 1,[⟨B,A3 A+1,s⟩]⟩ (by show 1≤1000000;decide) (by show E≤100;omega) (by show c.length≤_;omega);have d:=Ab ⟨6,E,B,C,A++[⟨B,A3 A+1,s⟩],H,I,F,J,D,fun i=>if i=6 then A3 A+1 else G i,K,c,a,f⟩ ⟨4,B,0,A3 A+1 - 1,[⟨B,A3 A+1,s⟩]⟩;obtain⟨o,l⟩:=(A2 ⟨6,E,B,C,A++[⟨B,A3 A+1,s⟩],H,I,F,J,D,fun i=>if i=6 then A3 A+1 else G i,K,c,a,f⟩ ⟨4,B,0,A3 A+1 - 1,[⟨B,A3 A+1,s⟩]⟩).to;rw[l] at k d⊢;have d:o.length≤c.length+E:=d;refine k.cal fun q rs j=>?_;obtain⟨rfl,rfl⟩:=j;refine dh (.close (oAs ⟨6,E,B,C,A++[⟨B,A3 A+1,s⟩],H,I,F,J,D,fun i=>if i=6 then A3 A+1 else G i,K,o,a,f⟩ b e) [(1,6),(2,7),(3,11),(4,9)] (by exact RL5) ⟨_,rfl⟩ rfl (.done (.same ((Dg _ b e p m (by show o.length≤_;omega)).cal fun q rs j=>?_))));obtain⟨rfl,rfl⟩:=j;refine .done ?_;exact .inl (A7 rfl rfl ⟨rfl,rfl⟩)
 ·rw[Bool.not_eq_true] at ha;have w:Bc ⟨L,E,B,C,A,H,I,F,J,D,G,K,N,M,P⟩ s=(F8 ⟨L,E,B,C,A,H,I,F,J,D,G,K,N,M,P⟩ ⟨B,A3 A+1,s⟩,true):=by
   unfold Bc;rw[db r];dsimp only;rw[db (by rw[ha];decide)]
  rw[ha,w];refine .done ?_;refine dk (fun _=>?_) fun h=>de h (by decide);exact .inl (A7 rfl rfl ⟨rfl,rfl⟩)
theorem Zc6 (n:PN)(b e:Nat)(h:n.dead=false→n.std=false)(s:ByteArray):FnO Tryz.prog 28 [.ptr 0 0,.v (.string s)] (cB n b e) fun g rs=>g=.v (.bool (Bc n s).2)∧rs=cB (Bc n s).1 b e:=by
 have no:(n.dead=true∨n.std=false)→Bc n s=(n,false):=fun c=>by unfold Bc;rw[dc (by rcases c with h | h;exact .inl h;exact .inr (.inl h))]
 refine Bq Tryz.func28 (A6 (O:=oBs n b e) (n0:=5) rfl) ?_;refine dk (fun hd=>?_) fun hd=>?_
 ·rw[no (.inl hd)];exact .inl (A1 (oBs n b e) [] (by exact RL5) rfl ⟨_,rfl⟩ rfl rfl ⟨rfl,rfl⟩)
 rw[no (.inr (h hd))];refine dk (fun a=>?_) fun a=>de (h hd) (by simpa using a);exact .inl (A1 (oBs n b e) [] (by exact RL5) rfl ⟨_,rfl⟩ rfl rfl ⟨rfl,rfl⟩)
end Go.Proofs.YtihfaocdpmmooaaGreat

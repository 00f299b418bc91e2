
import Derived.Test.YtihfaocdpmmooaaGreatZNk
import Derived.Test.YtihfaocdpmmooaaGreatSxMe
namespace Go.Proofs.YtihfaocdpmmooaaGreat
open Go.RowKit
set_option maxRecDepth 100000
structure WNk (k:Nat)(n:PN):Prop where
 ws:WSt k n.st
 kk:k≤900000000
 m0:1≤n.many
 m7:n.many≤7
 self:n.self < n.many
 log:n.log.length≤150
 out:n.out.length≤700000
 jns:∀i,i < 7→(n.jns i).l.length≤150
 np:n.normal≤n.pmd
 st:n.std=true→(∀i,i < 7→0≤n.aks i∧n.aks i≤n.log.length)∧0≤n.first∧n.first≤n.log.length
theorem WNk.nb {k:Nat}{n:PN}(h:WNk k n):WNb n:=⟨h.ws.wk (by have:=h.kk;omega),h.m0,h.m7,h.self,h.log,h.out,h.jns⟩
structure ShN (s:Bool)(n:PN):Prop where
 b:s=false→n.std=false∧n.normal < n.pmd
 a:s=true→n.dead=false→n.lds=true→n.std=true
abbrev oSs (s:Bool)(n:PN)(b e:Nat):Os:=bif s then oAs n b e else oBs n b e
abbrev cS (s:Bool)(n:PN)(b e:Nat):List R:=[.abs (cl (oSs s n b e))]
theorem Kn {l:LD}{s:ByteArray}(h:Eb l s=51):Bj l s=l:=by
 unfold Eb at h;unfold Bj;split at h
 ·cases h
 ·next a =>
  rw[db a];split at h
  ·cases h
  ·next c =>
   rw[db c];split at h
   ·next b=>rw[dc b]
   ·split at h<;>cases h
theorem Fr {k:Nat}{n:PN}(h:WSt k n.st)(r:ByteArray)(a:C9 n r=true):WSt (k+1) (B3 n r).st∧(B3 n r).dead=n.dead∧(B3 n r).out=n.out:=by
 unfold C9 at a;unfold B3;split
 ·next b =>
  rw[dc b] at a;have a:=of_decide_eq_true a;rw[Kn b] at a⊢;unfold D8;rw[db (by rw[a];decide)];exact⟨(Z53 h (C0 n) a).1,rfl,rfl⟩
 ·next b =>
  rw[db b] at a;split
  ·next c=>rw[dc c] at a;cases a
  ·next c =>
   rw[db c] at a;have a:=of_decide_eq_true a;unfold D8;rw[db (by rw[a];decide)];exact⟨(Zaj h r (Decidable.not_not.1 c) a).1,rfl,rfl⟩
theorem Lj {m:Nat}(a:1≤m)(h:m≤7):1≤Ag m:=by unfold Ag Bw;rw[dc (by simp;omega)];omega
theorem Cb (n:PN):∃c o,Cj n={n with cmt:=c,out:=o}:=by
 unfold Cj;split
 ·obtain⟨o,h⟩:=(A2 {n with cmt:=Bi (By n)} ⟨6,n.pmd,0,Bi (By n),[]⟩).to;exact⟨_,o,h⟩
 ·exact⟨n.cmt,n.out,rfl⟩
theorem G1 {n:PN}{v:Int}{l:List REnt}(h:Bu n v l=false):(Ba n v l).dead=true:=by unfold Bu at h;have h:=of_decide_eq_false h;unfold Ba D8;rw[dc h]
theorem B9 (n:PN)(b e:Nat)(j:1≤n.many)(h:n.many≤7)(t:n.self < n.many)(f:WK n.st)(m:∀i,i < 7→(n.jns i).l.length≤150)(r:n.out.length≤800000)(q:n.std=false∧n.normal < n.pmd):FnO Tryz.prog 83 [.ptr 0 0] (cB n b e) fun g rs=>g=.tup []∧∃s,rs=cS s (B2 n) b e∧ShN s (B2 n):=by
 refine(Zbp n b e j h t f m r).mono fun g rs a=>⟨a.1,?_⟩;by_cases d:((B7 n).length:Int) < Ag n.many
 ·rw[dc d] at a;refine⟨false,a.2,?_⟩;unfold B2;rw[dc d];exact⟨fun _=>q,fun h=>by cases h⟩
 ·rw[db d] at a;refine⟨true,a.2,?_⟩;unfold B2;rw[db d];by_cases ha:Bu n n.pmd (C8 n)=true
  ·rw[dc ha];refine⟨fun h=>(by cases h),fun _ _ _=>?_⟩;obtain⟨c,o,k⟩:=Cb (An (D5 (Ba n n.pmd (C8 n))) ⟨3,n.pmd,0,0,C8 n⟩);obtain⟨u,p⟩:=(A2 (D5 (Ba n n.pmd (C8 n))) ⟨3,n.pmd,0,0,C8 n⟩).to;rw[k,p];rfl
  ·rw[db ha];rw[Bool.not_eq_true] at ha;exact⟨fun h=>(by cases h),fun _ hd=>by rw[G1 ha] at hd;cases hd⟩
set_option maxHeartbeats 4000000 in
theorem Z9j (n:PN)(b e:Nat)(k:Nat)(h:n.dead=false→WNk k n)(view:Int):FnO Tryz.prog 41 [.ptr 0 0,gI view] (cA n b e) fun g rs=>g=.v (.bool (C3 n view).2)∧∃s,rs=cS s (C3 n view).1 b e∧(ShN true n→ShN s (C3 n view).1):=by
 obtain⟨H,B,K,A,D,E,M,N,J,C,F,G,L,I,P⟩:=n;have no:(I=true∨view≤K∨A8 view B≠H)→C3 ⟨H,B,K,A,D,E,M,N,J,C,F,G,L,I,P⟩ view=(⟨H,B,K,A,D,E,M,N,J,C,F,G,L,I,P⟩,false):=fun hh=>by unfold C3;rw[dc hh]
 refine Bq Tryz.func41 (A6 (O:=oAs ⟨H,B,K,A,D,E,M,N,J,C,F,G,L,I,P⟩ b e) (n0:=5) rfl) ?_;refine dk (fun hd=>?_) fun hd=>?_
 ·rw[no (.inl hd)];exact .inl (A1 (oAs ⟨H,B,K,A,D,E,M,N,J,C,F,G,L,I,P⟩ b e) [] (by exact RL5) rfl ⟨_,rfl⟩ rfl rfl ⟨rfl,true,rfl,id⟩)
 have hd:I=false:=hd;obtain⟨X,hkk,y,x,h4,z,h6,Z,U,-⟩:=h hd;clear h;dsimp only at X y x h4 z h6 Z;refine dg (fun T=>?_) fun T=>?_
 ·rw[no (.inr (.inl T))];exact .inl (A1 (oAs ⟨H,B,K,A,D,E,M,N,J,C,F,G,L,I,P⟩ b e) [] (by exact RL5) rfl ⟨_,rfl⟩ rfl rfl ⟨rfl,true,rfl,id⟩)
 have T:¬view≤K:=T;have U:A≤K:=U;have t:A < view:=by omega
 refine(Df _ _).cal fun q j=>?_;subst j;refine dj (fun R=>?_) fun R=>?_
 ·rw[no (.inr (.inr R))];exact .inl (A1 (oAs ⟨H,B,K,A,D,E,M,N,J,C,F,G,L,I,P⟩ b e) [] (by exact RL5) rfl ⟨_,rfl⟩ rfl rfl ⟨rfl,true,rfl,id⟩)
 have R:A8 view B=H:=R;have Q:¬(I=true∨view≤K∨A8 view B≠H):=by
  rw[hd];rintro(h | h | h)
  ·cases h
  ·exact T h
  ·exact h R
 refine dh (.close (oAs ⟨H,B,K,A,D,E,M,N,J,C,F,G,L,I,P⟩ b e) [] (by exact RL5) ⟨_,rfl⟩ rfl (.done (.same ((Zb0 ⟨H,B,K,A,D,E,M,N,J,C,F,G,L,I,P⟩ b e (X.wk (by omega)) (by show D.length≤_;omega) view).cal fun q rs j=>?_))));obtain⟨rfl,rfl⟩:=j;obtain⟨f,c,a,S,Y⟩:=D4 ⟨H,B,view,A,D,E,false,false,J,C,F,G,L,I,P⟩ (Ce 1 view 0 eS);have S:Cq ⟨H,B,K,A,D,E,M,N,J,C,F,G,L,I,P⟩ view=⟨H,B,view,A,D,E,false,false,J,C,F,G,c,a,f⟩:=S;by_cases ha:El ⟨H,B,K,A,D,E,M,N,J,C,F,G,L,I,P⟩ view=true
 ·have V:C3 ⟨H,B,K,A,D,E,M,N,J,C,F,G,L,I,P⟩ view=(B2 (An {Cq ⟨H,B,K,A,D,E,M,N,J,C,F,G,L,I,P⟩ view with lds:=true,jns:=fun i=>if i=H then⟨true,A,D⟩ else j0} ⟨1,view,0,0,[]⟩),true):=by
   unfold C3;rw[db Q,dc ha]
  obtain⟨w,w2,w3⟩:=Fr (n:=⟨H,B,view,A,D,E,false,false,J,C,F,G,L,I,P⟩) X (Ce 1 view 0 eS) ha;have eS:B3 ⟨H,B,view,A,D,E,false,false,J,C,F,G,L,I,P⟩ (Ce 1 view 0 eS)=⟨H,B,view,A,D,E,false,false,J,C,F,G,c,a,f⟩:=S;rw[eS] at w;dsimp only at w;rw[ha,V,S];dsimp only at Y;clear V S ha no Q R T eS w2 w3;refine .opn 0 _ _ _ rfl rfl rfl (.done ?_);refine dk (fun h=>de h (by decide)) fun _=>?_;have W:H=0∨H=1∨H=2∨H=3∨H=4∨H=5∨H=6:=by omega
  rcases W with rfl | rfl | rfl | rfl | rfl | rfl | rfl
  ·refine⟨⟨bk 0,by show((0:Nat):Int) < ((7:Nat):Int);decide⟩,?_⟩;have r:=Cs ⟨0,B,view,A,D,E,true,false,fun i=>if i=0 then⟨true,A,D⟩ else j0,C,F,G,c,a,f⟩ (cl (oLs f e)) ⟨1,view,0,0,[]⟩ (ah _) (by show B≤100;omega) (by show c.length≤_;omega);have d:=Ab ⟨0,B,view,A,D,E,true,false,fun i=>if i=0 then⟨true,A,D⟩ else j0,C,F,G,c,a,f⟩ ⟨1,view,0,0,[]⟩;obtain⟨o,u⟩:=(A2 ⟨0,B,view,A,D,E,true,false,fun i=>if i=0 then⟨true,A,D⟩ else j0,C,F,G,c,a,f⟩ ⟨1,view,0,0,[]⟩).to;rw[u] at r d⊢;have d:o.length≤c.length+B:=d;refine FnO.cal (FnO.seenE ?hc0 r) fun q rs j=>?hk0
   case hc0=>exact rfl
   obtain⟨rfl,rfl⟩:=j;have m:∀i,i < 7→((fun i=>if i=0 then(⟨true,A,D⟩:RJ) else j0) i).l.length≤150:=fun i hi=>by
    dsimp only;split
    ·exact z
    ·exact ah _
   refine dh (.close (oBs ⟨0,B,view,A,D,E,true,false,fun i=>if i=0 then⟨true,A,D⟩ else j0,C,F,G,o,a,f⟩ b e) [(1,5),(2,6),(3,9),(4,8)] (by exact RL5) ⟨_,rfl⟩ rfl (.done (.same ((B9 _ b e y x (by show 0 < B;omega) (w.wk (by omega)) m (by show o.length≤_;omega) ⟨rfl,t⟩).cal fun q rs j=>?_))));obtain⟨rfl,s,rfl,p⟩:=j;refine .done ?_;exact .inl (A7 rfl rfl ⟨rfl,s,rfl,fun _=>p⟩)
  ·refine⟨⟨bk 1,by show((1:Nat):Int) < ((7:Nat):Int);decide⟩,?_⟩;have r:=Cs ⟨1,B,view,A,D,E,true,false,fun i=>if i=1 then⟨true,A,D⟩ else j0,C,F,G,c,a,f⟩ (cl (oLs f e)) ⟨1,view,0,0,[]⟩ (ah _) (by show B≤100;omega) (by show c.length≤_;omega);have d:=Ab ⟨1,B,view,A,D,E,true,false,fun i=>if i=1 then⟨true,A,D⟩ else j0,C,F,G,c,a,f⟩ ⟨1,view,0,0,[]⟩;obtain⟨o,u⟩:=(A2 ⟨1,B,view,A,D,E,true,false,fun i=>if i=1 then⟨true,A,D⟩ else j0,C,F,G,c,a,f⟩ ⟨1,view,0,0,[]⟩).to;rw[u] at r d⊢;have d:o.length≤c.length+B:=d;refine FnO.cal (FnO.seenE ?hc1 r) fun q rs j=>?hk1
   case hc1=>exact rfl
   obtain⟨rfl,rfl⟩:=j;have m:∀i,i < 7→((fun i=>if i=1 then(⟨true,A,D⟩:RJ) else j0) i).l.length≤150:=fun i hi=>by
    dsimp only;split
    ·exact z
    ·exact ah _
   refine dh (.close (oBs ⟨1,B,view,A,D,E,true,false,fun i=>if i=1 then⟨true,A,D⟩ else j0,C,F,G,o,a,f⟩ b e) [(1,5),(2,6),(3,9),(4,8)] (by exact RL5) ⟨_,rfl⟩ rfl (.done (.same ((B9 _ b e y x (by show 1 < B;omega) (w.wk (by omega)) m (by show o.length≤_;omega) ⟨rfl,t⟩).cal fun q rs j=>?_))));obtain⟨rfl,s,rfl,p⟩:=j;refine .done ?_;exact .inl (A7 rfl rfl ⟨rfl,s,rfl,fun _=>p⟩)
  ·refine⟨⟨bk 2,by show((2:Nat):Int) < ((7:Nat):Int);decide⟩,?_⟩;have r:=Cs ⟨2,B,view,A,D,E,true,false,fun i=>if i=2 then⟨true,A,D⟩ else j0,C,F,G,c,a,f⟩ (cl (oLs f e)) ⟨1,view,0,0,[]⟩ (ah _) (by show B≤100;omega) (by show c.length≤_;omega);have d:=Ab ⟨2,B,view,A,D,E,true,false,fun i=>if i=2 then⟨true,A,D⟩ else j0,C,F,G,c,a,f⟩ ⟨1,view,0,0,[]⟩;obtain⟨o,u⟩:=(A2 ⟨2,B,view,A,D,E,true,false,fun i=>if i=2 then⟨true,A,D⟩ else j0,C,F,G,c,a,f⟩ ⟨1,view,0,0,[]⟩).to;rw[u] at r d⊢;have d:o.length≤c.length+B:=d;refine FnO.cal (FnO.seenE ?hc2 r) fun q rs j=>?hk2
   case hc2=>exact rfl
   obtain⟨rfl,rfl⟩:=j;have m:∀i,i < 7→((fun i=>if i=2 then(⟨true,A,D⟩:RJ) else j0) i).l.length≤150:=fun i hi=>by
    dsimp only;split
    ·exact z
    ·exact ah _
   refine dh (.close (oBs ⟨2,B,view,A,D,E,true,false,fun i=>if i=2 then⟨true,A,D⟩ else j0,C,F,G,o,a,f⟩ b e) [(1,5),(2,6),(3,9),(4,8)] (by exact RL5) ⟨_,rfl⟩ rfl (.done (.same ((B9 _ b e y x (by show 2 < B;omega) (w.wk (by omega)) m (by show o.length≤_;omega) ⟨rfl,t⟩).cal fun q rs j=>?_))));obtain⟨rfl,s,rfl,p⟩:=j;refine .done ?_;exact .inl (A7 rfl rfl ⟨rfl,s,rfl,fun _=>p⟩)
  ·refine⟨⟨bk 3,by show((3:Nat):Int) < ((7:Nat):Int);decide⟩,?_⟩;have r:=Cs ⟨3,B,view,A,D,E,true,false,fun i=>if i=3 then⟨true,A,D⟩ else j0,C,F,G,c,a,f⟩ (cl (oLs f e)) ⟨1,view,0,0,[]⟩ (ah _) (by show B≤100;omega) (by show c.length≤_;omega);have d:=Ab ⟨3,B,view,A,D,E,true,false,fun i=>if i=3 then⟨true,A,D⟩ else j0,C,F,G,c,a,f⟩ ⟨1,view,0,0,[]⟩;obtain⟨o,u⟩:=(A2 ⟨3,B,view,A,D,E,true,false,fun i=>if i=3 then⟨true,A,D⟩ else j0,C,F,G,c,a,f⟩ ⟨1,view,0,0,[]⟩).to;rw[u] at r d⊢;have d:o.length≤c.length+B:=d;refine FnO.cal (FnO.seenE ?hc3 r) fun q rs j=>?hk3
   case hc3=>exact rfl
   obtain⟨rfl,rfl⟩:=j;have m:∀i,i < 7→((fun i=>if i=3 then(⟨true,A,D⟩:RJ) else j0) i).l.length≤150:=fun i hi=>by
    dsimp only;split
    ·exact z
    ·exact ah _
   refine dh (.close (oBs ⟨3,B,view,A,D,E,true,false,fun i=>if i=3 then⟨true,A,D⟩ else j0,C,F,G,o,a,f⟩ b e) [(1,5),(2,6),(3,9),(4,8)] (by exact RL5) ⟨_,rfl⟩ rfl (.done (.same ((B9 _ b e y x (by show 3 < B;omega) (w.wk (by omega)) m (by show o.length≤_;omega) ⟨rfl,t⟩).cal fun q rs j=>?_))));obtain⟨rfl,s,rfl,p⟩:=j;refine .done ?_;exact .inl (A7 rfl rfl ⟨rfl,s,rfl,fun _=>p⟩)
  ·refine⟨⟨bk 4,by show((4:Nat):Int) < ((7:Nat):Int);decide⟩,?_⟩;have r:=Cs ⟨4,B,view,A,D,E,true,false,fun i=>if i=4 then⟨true,A,D⟩ else j0,C,F,G,c,a,f⟩ (cl (oLs f e)) ⟨1,view,0,0,[]⟩ (ah _) (by show B≤100;omega) (by show c.length≤_;omega);have d:=Ab ⟨4,B,view,A,D,E,true,false,fun i=>if i=4 then⟨true,A,D⟩ else j0,C,F,G,c,a,f⟩ ⟨1,view,0,0,[]⟩;obtain⟨o,u⟩:=(A2 ⟨4,B,view,A,D,E,true,false,fun i=>if i=4 then⟨true,A,D⟩ else j0,C,F,G,c,a,f⟩ ⟨1,view,0,0,[]⟩).to;rw[u] at r d⊢;have d:o.length≤c.length+B:=d;refine FnO.cal (FnO.seenE ?hc4 r) fun q rs j=>?hk4
   case hc4=>exact rfl
   obtain⟨rfl,rfl⟩:=j;have m:∀i,i < 7→((fun i=>if i=4 then(⟨true,A,D⟩:RJ) else j0) i).l.length≤150:=fun i hi=>by
    dsimp only;split
    ·exact z
    ·exact ah _
   refine dh (.close (oBs ⟨4,B,view,A,D,E,true,false,fun i=>if i=4 then⟨true,A,D⟩ else j0,C,F,G,o,a,f⟩ b e) [(1,5),(2,6),(3,9),(4,8)] (by exact RL5) ⟨_,rfl⟩ rfl (.done (.same ((B9 _ b e y x (by show 4 < B;omega) (w.wk (by omega)) m (by show o.length≤_;omega) ⟨rfl,t⟩).cal fun q rs j=>?_))));obtain⟨rfl,s,rfl,p⟩:=j;refine .done ?_;exact .inl (A7 rfl rfl ⟨rfl,s,rfl,fun _=>p⟩)
  ·refine⟨⟨bk 5,by show((5:Nat):Int) < ((7:Nat):Int);decide⟩,?_⟩;have r:=Cs ⟨5,B,view,A,D,E,true,false,fun i=>if i=5 then⟨true,A,D⟩ else j0,C,F,G,c,a,f⟩ (cl (oLs f e)) ⟨1,view,0,0,[]⟩ (ah _) (by show B≤100;omega) (by show c.length≤_;omega);have d:=Ab ⟨5,B,view,A,D,E,true,false,fun i=>if i=5 then⟨true,A,D⟩ else j0,C,F,G,c,a,f⟩ ⟨1,view,0,0,[]⟩;obtain⟨o,u⟩:=(A2 ⟨5,B,view,A,D,E,true,false,fun i=>if i=5 then⟨true,A,D⟩ else j0,C,F,G,c,a,f⟩ ⟨1,view,0,0,[]⟩).to;rw[u] at r d⊢;have d:o.length≤c.length+B:=d;refine FnO.cal (FnO.seenE ?hc5 r) fun q rs j=>?hk5
   case hc5=>exact rfl
   obtain⟨rfl,rfl⟩:=j;have m:∀i,i < 7→((fun i=>if i=5 then(⟨true,A,D⟩:RJ) else j0) i).l.length≤150:=fun i hi=>by
    dsimp only;split
    ·exact z
    ·exact ah _
   refine dh (.close (oBs ⟨5,B,view,A,D,E,true,false,fun i=>if i=5 then⟨true,A,D⟩ else j0,C,F,G,o,a,f⟩ b e) [(1,5),(2,6),(3,9),(4,8)] (by exact RL5) ⟨_,rfl⟩ rfl (.done (.same ((B9 _ b e y x (by show 5 < B;omega) (w.wk (by omega)) m (by show o.length≤_;omega) ⟨rfl,t⟩).cal fun q rs j=>?_))));obtain⟨rfl,s,rfl,p⟩:=j;refine .done ?_;exact .inl (A7 rfl rfl ⟨rfl,s,rfl,fun _=>p⟩)
  ·refine⟨⟨bk 6,by show((6:Nat):Int) < ((7:Nat):Int);decide⟩,?_⟩;have r:=Cs ⟨6,B,view,A,D,E,true,false,fun i=>if i=6 then⟨true,A,D⟩ else j0,C,F,G,c,a,f⟩ (cl (oLs f e)) ⟨1,view,0,0,[]⟩ (ah _) (by show B≤100;omega) (by show c.length≤_;omega);have d:=Ab ⟨6,B,view,A,D,E,true,false,fun i=>if i=6 then⟨true,A,D⟩ else j0,C,F,G,c,a,f⟩ ⟨1,view,0,0,[]⟩;obtain⟨o,u⟩:=(A2 ⟨6,B,view,A,D,E,true,false,fun i=>if i=6 then⟨true,A,D⟩ else j0,C,F,G,c,a,f⟩ ⟨1,view,0,0,[]⟩).to;rw[u] at r d⊢;have d:o.length≤c.length+B:=d;refine FnO.cal (FnO.seenE ?hc6 r) fun q rs j=>?hk6
   case hc6=>exact rfl
   obtain⟨rfl,rfl⟩:=j;have m:∀i,i < 7→((fun i=>if i=6 then(⟨true,A,D⟩:RJ) else j0) i).l.length≤150:=fun i hi=>by
    dsimp only;split
    ·exact z
    ·exact ah _
   refine dh (.close (oBs ⟨6,B,view,A,D,E,true,false,fun i=>if i=6 then⟨true,A,D⟩ else j0,C,F,G,o,a,f⟩ b e) [(1,5),(2,6),(3,9),(4,8)] (by exact RL5) ⟨_,rfl⟩ rfl (.done (.same ((B9 _ b e y x (by show 6 < B;omega) (w.wk (by omega)) m (by show o.length≤_;omega) ⟨rfl,t⟩).cal fun q rs j=>?_))));obtain⟨rfl,s,rfl,p⟩:=j;refine .done ?_;exact .inl (A7 rfl rfl ⟨rfl,s,rfl,fun _=>p⟩)
 ·rw[Bool.not_eq_true] at ha;have V:C3 ⟨H,B,K,A,D,E,M,N,J,C,F,G,L,I,P⟩ view=(Cq ⟨H,B,K,A,D,E,M,N,J,C,F,G,L,I,P⟩ view,true):=by
   unfold C3;rw[db Q,db (by rw[ha];decide)]
  rw[ha,V];refine .done ?_;refine dk (fun _=>?_) fun h=>de h (by decide);refine .inl (A7 rfl rfl ⟨rfl,false,rfl,fun _=>?_⟩);rw[S];exact⟨fun _=>⟨rfl,t⟩,fun h=>de h (by decide)⟩
set_option maxHeartbeats 4000000 in
theorem Zi1 (n:PN)(b e:Nat)(k:Nat)(h:n.dead=false→WNk k n)(view:Int):FnO Tryz.prog 41 [.ptr 0 0,gI view] (cB n b e) fun g rs=>g=.v (.bool (C3 n view).2)∧∃s,rs=cS s (C3 n view).1 b e∧(ShN false n→ShN s (C3 n view).1):=by
 obtain⟨H,B,K,A,D,E,M,N,J,C,F,G,L,I,P⟩:=n;have no:(I=true∨view≤K∨A8 view B≠H)→C3 ⟨H,B,K,A,D,E,M,N,J,C,F,G,L,I,P⟩ view=(⟨H,B,K,A,D,E,M,N,J,C,F,G,L,I,P⟩,false):=fun hh=>by unfold C3;rw[dc hh]
 refine Bq Tryz.func41 (A6 (O:=oBs ⟨H,B,K,A,D,E,M,N,J,C,F,G,L,I,P⟩ b e) (n0:=5) rfl) ?_;refine dk (fun hd=>?_) fun hd=>?_
 ·rw[no (.inl hd)];exact .inl (A1 (oBs ⟨H,B,K,A,D,E,M,N,J,C,F,G,L,I,P⟩ b e) [] (by exact RL5) rfl ⟨_,rfl⟩ rfl rfl ⟨rfl,false,rfl,id⟩)
 have hd:I=false:=hd;obtain⟨X,hkk,y,x,h4,z,h6,Z,U,-⟩:=h hd;clear h;dsimp only at X y x h4 z h6 Z;refine dg (fun T=>?_) fun T=>?_
 ·rw[no (.inr (.inl T))];exact .inl (A1 (oBs ⟨H,B,K,A,D,E,M,N,J,C,F,G,L,I,P⟩ b e) [] (by exact RL5) rfl ⟨_,rfl⟩ rfl rfl ⟨rfl,false,rfl,id⟩)
 have T:¬view≤K:=T;have U:A≤K:=U;have t:A < view:=by omega
 refine(Df _ _).cal fun q j=>?_;subst j;refine dj (fun R=>?_) fun R=>?_
 ·rw[no (.inr (.inr R))];exact .inl (A1 (oBs ⟨H,B,K,A,D,E,M,N,J,C,F,G,L,I,P⟩ b e) [] (by exact RL5) rfl ⟨_,rfl⟩ rfl rfl ⟨rfl,false,rfl,id⟩)
 have R:A8 view B=H:=R;have Q:¬(I=true∨view≤K∨A8 view B≠H):=by
  rw[hd];rintro(h | h | h)
  ·cases h
  ·exact T h
  ·exact h R
 refine dh (.close (oBs ⟨H,B,K,A,D,E,M,N,J,C,F,G,L,I,P⟩ b e) [] (by exact RL5) ⟨_,rfl⟩ rfl (.done (.same ((Zaq ⟨H,B,K,A,D,E,M,N,J,C,F,G,L,I,P⟩ b e (X.wk (by omega)) (by show D.length≤_;omega) view).cal fun q rs j=>?_))));obtain⟨rfl,rfl⟩:=j;obtain⟨f,c,a,S,Y⟩:=D4 ⟨H,B,view,A,D,E,false,false,J,C,F,G,L,I,P⟩ (Ce 1 view 0 eS);have S:Cq ⟨H,B,K,A,D,E,M,N,J,C,F,G,L,I,P⟩ view=⟨H,B,view,A,D,E,false,false,J,C,F,G,c,a,f⟩:=S;by_cases ha:El ⟨H,B,K,A,D,E,M,N,J,C,F,G,L,I,P⟩ view=true
 ·have V:C3 ⟨H,B,K,A,D,E,M,N,J,C,F,G,L,I,P⟩ view=(B2 (An {Cq ⟨H,B,K,A,D,E,M,N,J,C,F,G,L,I,P⟩ view with lds:=true,jns:=fun i=>if i=H then⟨true,A,D⟩ else j0} ⟨1,view,0,0,[]⟩),true):=by
   unfold C3;rw[db Q,dc ha]
  obtain⟨w,w2,w3⟩:=Fr (n:=⟨H,B,view,A,D,E,false,false,J,C,F,G,L,I,P⟩) X (Ce 1 view 0 eS) ha;have eS:B3 ⟨H,B,view,A,D,E,false,false,J,C,F,G,L,I,P⟩ (Ce 1 view 0 eS)=⟨H,B,view,A,D,E,false,false,J,C,F,G,c,a,f⟩:=S;rw[eS] at w;dsimp only at w;rw[ha,V,S];dsimp only at Y;clear V S ha no Q R T eS w2 w3;refine .opn 0 _ _ _ rfl rfl rfl (.done ?_);refine dk (fun h=>de h (by decide)) fun _=>?_;have W:H=0∨H=1∨H=2∨H=3∨H=4∨H=5∨H=6:=by omega
  rcases W with rfl | rfl | rfl | rfl | rfl | rfl | rfl
  ·refine⟨⟨bk 0,by show((0:Nat):Int) < ((7:Nat):Int);decide⟩,?_⟩;have r:=Cs ⟨0,B,view,A,D,E,true,false,fun i=>if i=0 then⟨true,A,D⟩ else j0,C,F,G,c,a,f⟩ (cl (oLs f e)) ⟨1,view,0,0,[]⟩ (ah _) (by show B≤100;omega) (by show c.length≤_;omega);have d:=Ab ⟨0,B,view,A,D,E,true,false,fun i=>if i=0 then⟨true,A,D⟩ else j0,C,F,G,c,a,f⟩ ⟨1,view,0,0,[]⟩;obtain⟨o,u⟩:=(A2 ⟨0,B,view,A,D,E,true,false,fun i=>if i=0 then⟨true,A,D⟩ else j0,C,F,G,c,a,f⟩ ⟨1,view,0,0,[]⟩).to;rw[u] at r d⊢;have d:o.length≤c.length+B:=d;refine FnO.cal (FnO.seenE ?hc0 r) fun q rs j=>?hk0
   case hc0=>exact rfl
   obtain⟨rfl,rfl⟩:=j;have m:∀i,i < 7→((fun i=>if i=0 then(⟨true,A,D⟩:RJ) else j0) i).l.length≤150:=fun i hi=>by
    dsimp only;split
    ·exact z
    ·exact ah _
   refine dh (.close (oBs ⟨0,B,view,A,D,E,true,false,fun i=>if i=0 then⟨true,A,D⟩ else j0,C,F,G,o,a,f⟩ b e) [(1,5),(2,6),(3,9),(4,8)] (by exact RL5) ⟨_,rfl⟩ rfl (.done (.same ((B9 _ b e y x (by show 0 < B;omega) (w.wk (by omega)) m (by show o.length≤_;omega) ⟨rfl,t⟩).cal fun q rs j=>?_))));obtain⟨rfl,s,rfl,p⟩:=j;refine .done ?_;exact .inl (A7 rfl rfl ⟨rfl,s,rfl,fun _=>p⟩)
  ·refine⟨⟨bk 1,by show((1:Nat):Int) < ((7:Nat):Int);decide⟩,?_⟩;have r:=Cs ⟨1,B,view,A,D,E,true,false,fun i=>if i=1 then⟨true,A,D⟩ else j0,C,F,G,c,a,f⟩ (cl (oLs f e)) ⟨1,view,0,0,[]⟩ (ah _) (by show B≤100;omega) (by show c.length≤_;omega);have d:=Ab ⟨1,B,view,A,D,E,true,false,fun i=>if i=1 then⟨true,A,D⟩ else j0,C,F,G,c,a,f⟩ ⟨1,view,0,0,[]⟩;obtain⟨o,u⟩:=(A2 ⟨1,B,view,A,D,E,true,false,fun i=>if i=1 then⟨true,A,D⟩ else j0,C,F,G,c,a,f⟩ ⟨1,view,0,0,[]⟩).to;rw[u] at r d⊢;have d:o.length≤c.length+B:=d;refine FnO.cal (FnO.seenE ?hc1 r) fun q rs j=>?hk1
   case hc1=>exact rfl
   obtain⟨rfl,rfl⟩:=j;have m:∀i,i < 7→((fun i=>if i=1 then(⟨true,A,D⟩:RJ) else j0) i).l.length≤150:=fun i hi=>by
    dsimp only;split
    ·exact z
    ·exact ah _
   refine dh (.close (oBs ⟨1,B,view,A,D,E,true,false,fun i=>if i=1 then⟨true,A,D⟩ else j0,C,F,G,o,a,f⟩ b e) [(1,5),(2,6),(3,9),(4,8)] (by exact RL5) ⟨_,rfl⟩ rfl (.done (.same ((B9 _ b e y x (by show 1 < B;omega) (w.wk (by omega)) m (by show o.length≤_;omega) ⟨rfl,t⟩).cal fun q rs j=>?_))));obtain⟨rfl,s,rfl,p⟩:=j;refine .done ?_;exact .inl (A7 rfl rfl ⟨rfl,s,rfl,fun _=>p⟩)
  ·refine⟨⟨bk 2,by show((2:Nat):Int) < ((7:Nat):Int);decide⟩,?_⟩;have r:=Cs ⟨2,B,view,A,D,E,true,false,fun i=>if i=2 then⟨true,A,D⟩ else j0,C,F,G,c,a,f⟩ (cl (oLs f e)) ⟨1,view,0,0,[]⟩ (ah _) (by show B≤100;omega) (by show c.length≤_;omega);have d:=Ab ⟨2,B,view,A,D,E,true,false,fun i=>if i=2 then⟨true,A,D⟩ else j0,C,F,G,c,a,f⟩ ⟨1,view,0,0,[]⟩;obtain⟨o,u⟩:=(A2 ⟨2,B,view,A,D,E,true,false,fun i=>if i=2 then⟨true,A,D⟩ else j0,C,F,G,c,a,f⟩ ⟨1,view,0,0,[]⟩).to;rw[u] at r d⊢;have d:o.length≤c.length+B:=d;refine FnO.cal (FnO.seenE ?hc2 r) fun q rs j=>?hk2
   case hc2=>exact rfl
   obtain⟨rfl,rfl⟩:=j;have m:∀i,i < 7→((fun i=>if i=2 then(⟨true,A,D⟩:RJ) else j0) i).l.length≤150:=fun i hi=>by
    dsimp only;split
    ·exact z
    ·exact ah _
   refine dh (.close (oBs ⟨2,B,view,A,D,E,true,false,fun i=>if i=2 then⟨true,A,D⟩ else j0,C,F,G,o,a,f⟩ b e) [(1,5),(2,6),(3,9),(4,8)] (by exact RL5) ⟨_,rfl⟩ rfl (.done (.same ((B9 _ b e y x (by show 2 < B;omega) (w.wk (by omega)) m (by show o.length≤_;omega) ⟨rfl,t⟩).cal fun q rs j=>?_))));obtain⟨rfl,s,rfl,p⟩:=j;refine .done ?_;exact .inl (A7 rfl rfl ⟨rfl,s,rfl,fun _=>p⟩)
  ·refine⟨⟨bk 3,by show((3:Nat):Int) < ((7:Nat):Int);decide⟩,?_⟩;have r:=Cs ⟨3,B,view,A,D,E,true,false,fun i=>if i=3 then⟨true,A,D⟩ else j0,C,F,G,c,a,f⟩ (cl (oLs f e)) ⟨1,view,0,0,[]⟩ (ah _) (by show B≤100;omega) (by show c.length≤_;omega);have d:=Ab ⟨3,B,view,A,D,E,true,false,fun i=>if i=3 then⟨true,A,D⟩ else j0,C,F,G,c,a,f⟩ ⟨1,view,0,0,[]⟩;obtain⟨o,u⟩:=(A2 ⟨3,B,view,A,D,E,true,false,fun i=>if i=3 then⟨true,A,D⟩ else j0,C,F,G,c,a,f⟩ ⟨1,view,0,0,[]⟩).to;rw[u] at r d⊢;have d:o.length≤c.length+B:=d;refine FnO.cal (FnO.seenE ?hc3 r) fun q rs j=>?hk3
   case hc3=>exact rfl
   obtain⟨rfl,rfl⟩:=j;have m:∀i,i < 7→((fun i=>if i=3 then(⟨true,A,D⟩:RJ) else j0) i).l.length≤150:=fun i hi=>by
    dsimp only;split
    ·exact z
    ·exact ah _
   refine dh (.close (oBs ⟨3,B,view,A,D,E,true,false,fun i=>if i=3 then⟨true,A,D⟩ else j0,C,F,G,o,a,f⟩ b e) [(1,5),(2,6),(3,9),(4,8)] (by exact RL5) ⟨_,rfl⟩ rfl (.done (.same ((B9 _ b e y x (by show 3 < B;omega) (w.wk (by omega)) m (by show o.length≤_;omega) ⟨rfl,t⟩).cal fun q rs j=>?_))));obtain⟨rfl,s,rfl,p⟩:=j;refine .done ?_;exact .inl (A7 rfl rfl ⟨rfl,s,rfl,fun _=>p⟩)
  ·refine⟨⟨bk 4,by show((4:Nat):Int) < ((7:Nat):Int);decide⟩,?_⟩;have r:=Cs ⟨4,B,view,A,D,E,true,false,fun i=>if i=4 then⟨true,A,D⟩ else j0,C,F,G,c,a,f⟩ (cl (oLs f e)) ⟨1,view,0,0,[]⟩ (ah _) (by show B≤100;omega) (by show c.length≤_;omega);have d:=Ab ⟨4,B,view,A,D,E,true,false,fun i=>if i=4 then⟨true,A,D⟩ else j0,C,F,G,c,a,f⟩ ⟨1,view,0,0,[]⟩;obtain⟨o,u⟩:=(A2 ⟨4,B,view,A,D,E,true,false,fun i=>if i=4 then⟨true,A,D⟩ else j0,C,F,G,c,a,f⟩ ⟨1,view,0,0,[]⟩).to;rw[u] at r d⊢;have d:o.length≤c.length+B:=d;refine FnO.cal (FnO.seenE ?hc4 r) fun q rs j=>?hk4
   case hc4=>exact rfl
   obtain⟨rfl,rfl⟩:=j;have m:∀i,i < 7→((fun i=>if i=4 then(⟨true,A,D⟩:RJ) else j0) i).l.length≤150:=fun i hi=>by
    dsimp only;split
    ·exact z
    ·exact ah _
   refine dh (.close (oBs ⟨4,B,view,A,D,E,true,false,fun i=>if i=4 then⟨true,A,D⟩ else j0,C,F,G,o,a,f⟩ b e) [(1,5),(2,6),(3,9),(4,8)] (by exact RL5) ⟨_,rfl⟩ rfl (.done (.same ((B9 _ b e y x (by show 4 < B;omega) (w.wk (by omega)) m (by show o.length≤_;omega) ⟨rfl,t⟩).cal fun q rs j=>?_))));obtain⟨rfl,s,rfl,p⟩:=j;refine .done ?_;exact .inl (A7 rfl rfl ⟨rfl,s,rfl,fun _=>p⟩)
  ·refine⟨⟨bk 5,by show((5:Nat):Int) < ((7:Nat):Int);decide⟩,?_⟩;have r:=Cs ⟨5,B,view,A,D,E,true,false,fun i=>if i=5 then⟨true,A,D⟩ else j0,C,F,G,c,a,f⟩ (cl (oLs f e)) ⟨1,view,0,0,[]⟩ (ah _) (by show B≤100;omega) (by show c.length≤_;omega);have d:=Ab ⟨5,B,view,A,D,E,true,false,fun i=>if i=5 then⟨true,A,D⟩ else j0,C,F,G,c,a,f⟩ ⟨1,view,0,0,[]⟩;obtain⟨o,u⟩:=(A2 ⟨5,B,view,A,D,E,true,false,fun i=>if i=5 then⟨true,A,D⟩ else j0,C,F,G,c,a,f⟩ ⟨1,view,0,0,[]⟩).to;rw[u] at r d⊢;have d:o.length≤c.length+B:=d;refine FnO.cal (FnO.seenE ?hc5 r) fun q rs j=>?hk5
   case hc5=>exact rfl
   obtain⟨rfl,rfl⟩:=j;have m:∀i,i < 7→((fun i=>if i=5 then(⟨true,A,D⟩:RJ) else j0) i).l.length≤150:=fun i hi=>by
    dsimp only;split
    ·exact z
    ·exact ah _
   refine dh (.close (oBs ⟨5,B,view,A,D,E,true,false,fun i=>if i=5 then⟨true,A,D⟩ else j0,C,F,G,o,a,f⟩ b e) [(1,5),(2,6),(3,9),(4,8)] (by exact RL5) ⟨_,rfl⟩ rfl (.done (.same ((B9 _ b e y x (by show 5 < B;omega) (w.wk (by omega)) m (by show o.length≤_;omega) ⟨rfl,t⟩).cal fun q rs j=>?_))));obtain⟨rfl,s,rfl,p⟩:=j;refine .done ?_;exact .inl (A7 rfl rfl ⟨rfl,s,rfl,fun _=>p⟩)
  ·refine⟨⟨bk 6,by show((6:Nat):Int) < ((7:Nat):Int);decide⟩,?_⟩;have r:=Cs ⟨6,B,view,A,D,E,true,false,fun i=>if i=6 then⟨true,A,D⟩ else j0,C,F,G,c,a,f⟩ (cl (oLs f e)) ⟨1,view,0,0,[]⟩ (ah _) (by show B≤100;omega) (by show c.length≤_;omega);have d:=Ab ⟨6,B,view,A,D,E,true,false,fun i=>if i=6 then⟨true,A,D⟩ else j0,C,F,G,c,a,f⟩ ⟨1,view,0,0,[]⟩;obtain⟨o,u⟩:=(A2 ⟨6,B,view,A,D,E,true,false,fun i=>if i=6 then⟨true,A,D⟩ else j0,C,F,G,c,a,f⟩ ⟨1,view,0,0,[]⟩).to;rw[u] at r d⊢;have d:o.length≤c.length+B:=d;refine FnO.cal (FnO.seenE ?hc6 r) fun q rs j=>?hk6
   case hc6=>exact rfl
   obtain⟨rfl,rfl⟩:=j;have m:∀i,i < 7→((fun i=>if i=6 then(⟨true,A,D⟩:RJ) else j0) i).l.length≤150:=fun i hi=>by
    dsimp only;split
    ·exact z
    ·exact ah _
   refine dh (.close (oBs ⟨6,B,view,A,D,E,true,false,fun i=>if i=6 then⟨true,A,D⟩ else j0,C,F,G,o,a,f⟩ b e) [(1,5),(2,6),(3,9),(4,8)] (by exact RL5) ⟨_,rfl⟩ rfl (.done (.same ((B9 _ b e y x (by show 6 < B;omega) (w.wk (by omega)) m (by show o.length≤_;omega) ⟨rfl,t⟩).cal fun q rs j=>?_))));obtain⟨rfl,s,rfl,p⟩:=j;refine .done ?_;exact .inl (A7 rfl rfl ⟨rfl,s,rfl,fun _=>p⟩)
 ·rw[Bool.not_eq_true] at ha;have V:C3 ⟨H,B,K,A,D,E,M,N,J,C,F,G,L,I,P⟩ view=(Cq ⟨H,B,K,A,D,E,M,N,J,C,F,G,L,I,P⟩ view,true):=by
   unfold C3;rw[db Q,db (by rw[ha];decide)]
  rw[ha,V];refine .done ?_;refine dk (fun _=>?_) fun h=>de h (by decide);refine .inl (A7 rfl rfl ⟨rfl,false,rfl,fun _=>?_⟩);rw[S];exact⟨fun _=>⟨rfl,t⟩,fun h=>de h (by decide)⟩
end Go.Proofs.YtihfaocdpmmooaaGreat

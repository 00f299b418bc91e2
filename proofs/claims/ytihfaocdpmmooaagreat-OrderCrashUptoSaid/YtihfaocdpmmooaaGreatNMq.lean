
import Derived.Test.YtihfaocdpmmooaaGreatZNl
namespace Go.Proofs.YtihfaocdpmmooaaGreat
open Go.RowKit
set_option maxRecDepth 100000
theorem F9 (n:PN):(Cj n).out.length≤n.out.length+n.many:=by
 unfold Cj;split
 ·exact Ab _ _
 ·exact Nat.le_add_right _ _
theorem Mr {l m:List REnt}{lo hi:Int}(o:Os)(k v x:Int)(h:(l.take hi.toNat).drop lo.toNat=m):Z52 ((1,R.froz (l.map enE) 3)::o) (.oag [gI k,gI v,gI 0,gI x,.osv 1 3 lo.toNat hi.toNat])=.agg (enM ⟨k,v,0,x,m⟩):=by show G.agg [gI k,gI v,gI 0,gI x,.sl (((l.map enE).take hi.toNat).drop lo.toNat)]=G.agg [gI k,gI v,gI 0,gI x,.sl (m.map enE)];rw[←h,List.map_drop,cw]
theorem E8 (l:List REnt)(a:Nat):(l.take (A3 l).toNat).drop a=l.drop a:=by rw[Dy,az,List.take_length]
set_option maxHeartbeats 4000000 in
theorem Z2g (k:Nat)(n:PN)(b e f:Nat)(hf:f < 7)(m:RM)(h:WNk k n)(T:n.lds=true→n.std=true)(hm:okM m=true):FnO Tryz.prog 71 [.ptr 0 0,gI f,.agg (enM m)] (cA n b e) fun g rs=>g=.tup []∧rs=cA (Aq n f m) b e:=by
 obtain⟨F,D,H,A,E,N,I,J,K,B,C,L,M,G,P⟩:=n;obtain⟨kd,w,Z,nu,l⟩:=m;obtain⟨h1,hkk,Q,z,h4,h5,h6,h7,hnp,hst⟩:=h;obtain⟨hm1,-,Y,-⟩:=Az hm;dsimp only at h1 Q z h4 h5 h6 h7 T Y;have no:(I=false∨H≠w)→Aq ⟨F,D,H,A,E,N,I,J,K,B,C,L,M,G,P⟩ f ⟨kd,w,Z,nu,l⟩=⟨F,D,H,A,E,N,I,J,K,B,C,L,M,G,P⟩:=fun hh=>by unfold Aq;rw[dc hh]
 refine Bq Tryz.func71 (A6 (O:=oAs ⟨F,D,H,A,E,N,I,J,K,B,C,L,M,G,P⟩ b e) (n0:=5) rfl) ?_;refine dk (fun S=>?_) fun S=>?_
 ·rw[no (.inl (by simpa using S))];exact .inl (A1 (oAs ⟨F,D,H,A,E,N,I,J,K,B,C,L,M,G,P⟩ b e) [] (by exact RL5) rfl ⟨_,rfl⟩ rfl rfl ⟨rfl,rfl⟩)
 have S:I=true:=by simpa using S
 have W:=T S;refine dj (fun U=>?_) fun U=>?_
 ·rw[no (.inr U)];exact .inl (A1 (oAs ⟨F,D,H,A,E,N,I,J,K,B,C,L,M,G,P⟩ b e) [] (by exact RL5) rfl ⟨_,rfl⟩ rfl rfl ⟨rfl,rfl⟩)
 have U:H=w:=U;have h0:¬(I=false∨H≠w):=by
  rw[S];rintro(h | h)
  ·cases h
  ·exact h U
 have eI:Aq ⟨F,D,H,A,E,N,I,J,K,B,C,L,M,G,P⟩ f ⟨kd,w,Z,nu,l⟩=if kd=5∧J=true∧nu≤E.length then
   (fun V:PN=>if nu < V.log.length then Ao V f ⟨4,V.pmd,0,nu,V.log.drop nu.toNat⟩ else V)
    (Cj ⟨F,D,H,A,E,N,I,J,K,B,(fun i=>if i=f then max (C f) nu else C i),(fun i=>if i=f then true else L i),M,G,P⟩) else⟨F,D,H,A,E,N,I,J,K,B,C,L,M,G,P⟩:=by
  unfold Aq;rw[db h0];dsimp only;rw[db (by rw[W];rintro⟨-,h⟩;cases h)]
 have R:¬(kd=5∧J=true∧nu≤E.length)→Aq ⟨F,D,H,A,E,N,I,J,K,B,C,L,M,G,P⟩ f ⟨kd,w,Z,nu,l⟩=⟨F,D,H,A,E,N,I,J,K,B,C,L,M,G,P⟩:=fun h=>by rw[eI,db h]
 refine df (fun(hk2:kd=2)=>?_) fun(hk2:kd≠2)=>?_
 ·refine dk (fun h=>de W (by simpa using h)) fun _=>?_;refine df (fun(hk5:kd=5)=>de hk2 (by omega)) fun(hk5:kd≠5)=>?_;rw[R (fun h=>hk5 h.1)];exact .inl (A1 (oAs ⟨F,D,H,A,E,N,I,J,K,B,C,L,M,G,P⟩ b e) [] (by exact RL5) rfl ⟨_,rfl⟩ rfl rfl ⟨rfl,rfl⟩)
 refine df (fun(hk5:kd=5)=>?_) fun(hk5:kd≠5)=>?_
 ·refine dk (fun _=>?_) fun h=>de W (by have h:J=false:=h;rw[h];decide);have d:((E.map enE).length:Nat)=E.length:=aa ..;refine dg (fun y=>?_) fun y=>?_
  ·have y:nu≤((E.map enE).length:Int):=y;rw[d] at y;rw[eI,dc ⟨hk5,W,y⟩];have X:f=0∨f=1∨f=2∨f=3∨f=4∨f=5∨f=6:=by omega
   rcases X with rfl | rfl | rfl | rfl | rfl | rfl | rfl
   ·refine⟨⟨by decide,by decide⟩,⟨by decide,by decide⟩,⟨by decide,by decide⟩,?_⟩;have j:=F9 ⟨F,D,H,A,E,N,I,J,K,B,(fun i=>if i=0 then max (C 0) nu else C i),(fun i=>if i=0 then true else L i),M,G,P⟩;obtain⟨c,o,p⟩:=Cb ⟨F,D,H,A,E,N,I,J,K,B,(fun i=>if i=0 then max (C 0) nu else C i),(fun i=>if i=0 then true else L i),M,G,P⟩;rw[p] at j;have v:o.length≤M.length+D:=j;have t:=Dg ⟨F,D,H,A,E,N,I,J,K,B,(fun i=>if i=0 then max (C 0) nu else C i),(fun i=>if i=0 then true else L i),M,G,P⟩ b e Q z (by show M.length≤_;omega);rw[p] at t⊢;refine dh (.seen 0 _ _ rfl (.close (oAs ⟨F,D,H,A,E,N,I,J,K,B,(fun i=>if i=0 then max (C 0) nu else C i),(fun i=>if i=0 then true else L i),M,G,P⟩ b e) [] (by exact RL5) ⟨_,rfl⟩ rfl (.done (.same (t.cal fun q rs s=>?_)))));obtain⟨rfl,rfl⟩:=s;refine .opn 0 _ _ _ rfl rfl rfl (.done ?_);refine dg (fun a=>?_) fun a=>?_
    ·have a:nu < ((E.map enE).length:Int):=a;rw[d] at a;dsimp only;rw[dc a];refine⟨⟨by omega,by rw[d];omega,br _⟩,?_⟩;have u:=Ij ⟨F,D,H,A,E,c,I,J,K,B,(fun i=>if i=0 then max (C 0) nu else C i),(fun i=>if i=0 then true else L i),o,G,P⟩ (cl (oLs P e)) 0 ⟨4,H,0,nu,E.drop nu.toNat⟩ (.oag [gI 4,gI H,gI 0,gI nu,.osv 1 3 nu.toNat (A3 E).toNat]) (Mr _ _ _ _ (E8 _ _)) (by rw[bc];omega) (by show o.length≤_;omega);obtain⟨x,r⟩:=(A9 ⟨F,D,H,A,E,c,I,J,K,B,(fun i=>if i=0 then max (C 0) nu else C i),(fun i=>if i=0 then true else L i),o,G,P⟩ 0 ⟨4,H,0,nu,E.drop nu.toNat⟩).to;rw[r] at u⊢;refine di (u.cal fun q rs s=>?_);obtain⟨rfl,rfl⟩:=s;exact .inl (A1 (oAs ⟨F,D,H,A,E,c,I,J,K,B,(fun i=>if i=0 then max (C 0) nu else C i),(fun i=>if i=0 then true else L i),x,G,P⟩ b e) [(1,6),(2,7),(3,10),(4,9)] (by exact RL5) rfl ⟨_,rfl⟩ rfl rfl ⟨rfl,rfl⟩)
    ·have a:¬nu < ((E.map enE).length:Int):=a;rw[d] at a;dsimp only;rw[db a];exact .inl (A1 (oAs ⟨F,D,H,A,E,c,I,J,K,B,(fun i=>if i=0 then max (C 0) nu else C i),(fun i=>if i=0 then true else L i),o,G,P⟩ b e) [(1,6),(2,7),(3,8),(4,9)] (by exact RL5) rfl ⟨_,rfl⟩ rfl rfl ⟨rfl,rfl⟩)
   ·refine⟨⟨by decide,by decide⟩,⟨by decide,by decide⟩,⟨by decide,by decide⟩,?_⟩;have j:=F9 ⟨F,D,H,A,E,N,I,J,K,B,(fun i=>if i=1 then max (C 1) nu else C i),(fun i=>if i=1 then true else L i),M,G,P⟩;obtain⟨c,o,p⟩:=Cb ⟨F,D,H,A,E,N,I,J,K,B,(fun i=>if i=1 then max (C 1) nu else C i),(fun i=>if i=1 then true else L i),M,G,P⟩;rw[p] at j;have v:o.length≤M.length+D:=j;have t:=Dg ⟨F,D,H,A,E,N,I,J,K,B,(fun i=>if i=1 then max (C 1) nu else C i),(fun i=>if i=1 then true else L i),M,G,P⟩ b e Q z (by show M.length≤_;omega);rw[p] at t⊢;refine dh (.seen 0 _ _ rfl (.close (oAs ⟨F,D,H,A,E,N,I,J,K,B,(fun i=>if i=1 then max (C 1) nu else C i),(fun i=>if i=1 then true else L i),M,G,P⟩ b e) [] (by exact RL5) ⟨_,rfl⟩ rfl (.done (.same (t.cal fun q rs s=>?_)))));obtain⟨rfl,rfl⟩:=s;refine .opn 0 _ _ _ rfl rfl rfl (.done ?_);refine dg (fun a=>?_) fun a=>?_
    ·have a:nu < ((E.map enE).length:Int):=a;rw[d] at a;dsimp only;rw[dc a];refine⟨⟨by omega,by rw[d];omega,br _⟩,?_⟩;have u:=Ij ⟨F,D,H,A,E,c,I,J,K,B,(fun i=>if i=1 then max (C 1) nu else C i),(fun i=>if i=1 then true else L i),o,G,P⟩ (cl (oLs P e)) 1 ⟨4,H,0,nu,E.drop nu.toNat⟩ (.oag [gI 4,gI H,gI 0,gI nu,.osv 1 3 nu.toNat (A3 E).toNat]) (Mr _ _ _ _ (E8 _ _)) (by rw[bc];omega) (by show o.length≤_;omega);obtain⟨x,r⟩:=(A9 ⟨F,D,H,A,E,c,I,J,K,B,(fun i=>if i=1 then max (C 1) nu else C i),(fun i=>if i=1 then true else L i),o,G,P⟩ 1 ⟨4,H,0,nu,E.drop nu.toNat⟩).to;rw[r] at u⊢;refine di (u.cal fun q rs s=>?_);obtain⟨rfl,rfl⟩:=s;exact .inl (A1 (oAs ⟨F,D,H,A,E,c,I,J,K,B,(fun i=>if i=1 then max (C 1) nu else C i),(fun i=>if i=1 then true else L i),x,G,P⟩ b e) [(1,6),(2,7),(3,10),(4,9)] (by exact RL5) rfl ⟨_,rfl⟩ rfl rfl ⟨rfl,rfl⟩)
    ·have a:¬nu < ((E.map enE).length:Int):=a;rw[d] at a;dsimp only;rw[db a];exact .inl (A1 (oAs ⟨F,D,H,A,E,c,I,J,K,B,(fun i=>if i=1 then max (C 1) nu else C i),(fun i=>if i=1 then true else L i),o,G,P⟩ b e) [(1,6),(2,7),(3,8),(4,9)] (by exact RL5) rfl ⟨_,rfl⟩ rfl rfl ⟨rfl,rfl⟩)
   ·refine⟨⟨by decide,by decide⟩,⟨by decide,by decide⟩,⟨by decide,by decide⟩,?_⟩;have j:=F9 ⟨F,D,H,A,E,N,I,J,K,B,(fun i=>if i=2 then max (C 2) nu else C i),(fun i=>if i=2 then true else L i),M,G,P⟩;obtain⟨c,o,p⟩:=Cb ⟨F,D,H,A,E,N,I,J,K,B,(fun i=>if i=2 then max (C 2) nu else C i),(fun i=>if i=2 then true else L i),M,G,P⟩;rw[p] at j;have v:o.length≤M.length+D:=j;have t:=Dg ⟨F,D,H,A,E,N,I,J,K,B,(fun i=>if i=2 then max (C 2) nu else C i),(fun i=>if i=2 then true else L i),M,G,P⟩ b e Q z (by show M.length≤_;omega);rw[p] at t⊢;refine dh (.seen 0 _ _ rfl (.close (oAs ⟨F,D,H,A,E,N,I,J,K,B,(fun i=>if i=2 then max (C 2) nu else C i),(fun i=>if i=2 then true else L i),M,G,P⟩ b e) [] (by exact RL5) ⟨_,rfl⟩ rfl (.done (.same (t.cal fun q rs s=>?_)))));obtain⟨rfl,rfl⟩:=s;refine .opn 0 _ _ _ rfl rfl rfl (.done ?_);refine dg (fun a=>?_) fun a=>?_
    ·have a:nu < ((E.map enE).length:Int):=a;rw[d] at a;dsimp only;rw[dc a];refine⟨⟨by omega,by rw[d];omega,br _⟩,?_⟩;have u:=Ij ⟨F,D,H,A,E,c,I,J,K,B,(fun i=>if i=2 then max (C 2) nu else C i),(fun i=>if i=2 then true else L i),o,G,P⟩ (cl (oLs P e)) 2 ⟨4,H,0,nu,E.drop nu.toNat⟩ (.oag [gI 4,gI H,gI 0,gI nu,.osv 1 3 nu.toNat (A3 E).toNat]) (Mr _ _ _ _ (E8 _ _)) (by rw[bc];omega) (by show o.length≤_;omega);obtain⟨x,r⟩:=(A9 ⟨F,D,H,A,E,c,I,J,K,B,(fun i=>if i=2 then max (C 2) nu else C i),(fun i=>if i=2 then true else L i),o,G,P⟩ 2 ⟨4,H,0,nu,E.drop nu.toNat⟩).to;rw[r] at u⊢;refine di (u.cal fun q rs s=>?_);obtain⟨rfl,rfl⟩:=s;exact .inl (A1 (oAs ⟨F,D,H,A,E,c,I,J,K,B,(fun i=>if i=2 then max (C 2) nu else C i),(fun i=>if i=2 then true else L i),x,G,P⟩ b e) [(1,6),(2,7),(3,10),(4,9)] (by exact RL5) rfl ⟨_,rfl⟩ rfl rfl ⟨rfl,rfl⟩)
    ·have a:¬nu < ((E.map enE).length:Int):=a;rw[d] at a;dsimp only;rw[db a];exact .inl (A1 (oAs ⟨F,D,H,A,E,c,I,J,K,B,(fun i=>if i=2 then max (C 2) nu else C i),(fun i=>if i=2 then true else L i),o,G,P⟩ b e) [(1,6),(2,7),(3,8),(4,9)] (by exact RL5) rfl ⟨_,rfl⟩ rfl rfl ⟨rfl,rfl⟩)
   ·refine⟨⟨by decide,by decide⟩,⟨by decide,by decide⟩,⟨by decide,by decide⟩,?_⟩;have j:=F9 ⟨F,D,H,A,E,N,I,J,K,B,(fun i=>if i=3 then max (C 3) nu else C i),(fun i=>if i=3 then true else L i),M,G,P⟩;obtain⟨c,o,p⟩:=Cb ⟨F,D,H,A,E,N,I,J,K,B,(fun i=>if i=3 then max (C 3) nu else C i),(fun i=>if i=3 then true else L i),M,G,P⟩;rw[p] at j;have v:o.length≤M.length+D:=j;have t:=Dg ⟨F,D,H,A,E,N,I,J,K,B,(fun i=>if i=3 then max (C 3) nu else C i),(fun i=>if i=3 then true else L i),M,G,P⟩ b e Q z (by show M.length≤_;omega);rw[p] at t⊢;refine dh (.seen 0 _ _ rfl (.close (oAs ⟨F,D,H,A,E,N,I,J,K,B,(fun i=>if i=3 then max (C 3) nu else C i),(fun i=>if i=3 then true else L i),M,G,P⟩ b e) [] (by exact RL5) ⟨_,rfl⟩ rfl (.done (.same (t.cal fun q rs s=>?_)))));obtain⟨rfl,rfl⟩:=s;refine .opn 0 _ _ _ rfl rfl rfl (.done ?_);refine dg (fun a=>?_) fun a=>?_
    ·have a:nu < ((E.map enE).length:Int):=a;rw[d] at a;dsimp only;rw[dc a];refine⟨⟨by omega,by rw[d];omega,br _⟩,?_⟩;have u:=Ij ⟨F,D,H,A,E,c,I,J,K,B,(fun i=>if i=3 then max (C 3) nu else C i),(fun i=>if i=3 then true else L i),o,G,P⟩ (cl (oLs P e)) 3 ⟨4,H,0,nu,E.drop nu.toNat⟩ (.oag [gI 4,gI H,gI 0,gI nu,.osv 1 3 nu.toNat (A3 E).toNat]) (Mr _ _ _ _ (E8 _ _)) (by rw[bc];omega) (by show o.length≤_;omega);obtain⟨x,r⟩:=(A9 ⟨F,D,H,A,E,c,I,J,K,B,(fun i=>if i=3 then max (C 3) nu else C i),(fun i=>if i=3 then true else L i),o,G,P⟩ 3 ⟨4,H,0,nu,E.drop nu.toNat⟩).to;rw[r] at u⊢;refine di (u.cal fun q rs s=>?_);obtain⟨rfl,rfl⟩:=s;exact .inl (A1 (oAs ⟨F,D,H,A,E,c,I,J,K,B,(fun i=>if i=3 then max (C 3) nu else C i),(fun i=>if i=3 then true else L i),x,G,P⟩ b e) [(1,6),(2,7),(3,10),(4,9)] (by exact RL5) rfl ⟨_,rfl⟩ rfl rfl ⟨rfl,rfl⟩)
    ·have a:¬nu < ((E.map enE).length:Int):=a;rw[d] at a;dsimp only;rw[db a];exact .inl (A1 (oAs ⟨F,D,H,A,E,c,I,J,K,B,(fun i=>if i=3 then max (C 3) nu else C i),(fun i=>if i=3 then true else L i),o,G,P⟩ b e) [(1,6),(2,7),(3,8),(4,9)] (by exact RL5) rfl ⟨_,rfl⟩ rfl rfl ⟨rfl,rfl⟩)
   ·refine⟨⟨by decide,by decide⟩,⟨by decide,by decide⟩,⟨by decide,by decide⟩,?_⟩;have j:=F9 ⟨F,D,H,A,E,N,I,J,K,B,(fun i=>if i=4 then max (C 4) nu else C i),(fun i=>if i=4 then true else L i),M,G,P⟩;obtain⟨c,o,p⟩:=Cb ⟨F,D,H,A,E,N,I,J,K,B,(fun i=>if i=4 then max (C 4) nu else C i),(fun i=>if i=4 then true else L i),M,G,P⟩;rw[p] at j;have v:o.length≤M.length+D:=j;have t:=Dg ⟨F,D,H,A,E,N,I,J,K,B,(fun i=>if i=4 then max (C 4) nu else C i),(fun i=>if i=4 then true else L i),M,G,P⟩ b e Q z (by show M.length≤_;omega);rw[p] at t⊢;refine dh (.seen 0 _ _ rfl (.close (oAs ⟨F,D,H,A,E,N,I,J,K,B,(fun i=>if i=4 then max (C 4) nu else C i),(fun i=>if i=4 then true else L i),M,G,P⟩ b e) [] (by exact RL5) ⟨_,rfl⟩ rfl (.done (.same (t.cal fun q rs s=>?_)))));obtain⟨rfl,rfl⟩:=s;refine .opn 0 _ _ _ rfl rfl rfl (.done ?_);refine dg (fun a=>?_) fun a=>?_
    ·have a:nu < ((E.map enE).length:Int):=a;rw[d] at a;dsimp only;rw[dc a];refine⟨⟨by omega,by rw[d];omega,br _⟩,?_⟩;have u:=Ij ⟨F,D,H,A,E,c,I,J,K,B,(fun i=>if i=4 then max (C 4) nu else C i),(fun i=>if i=4 then true else L i),o,G,P⟩ (cl (oLs P e)) 4 ⟨4,H,0,nu,E.drop nu.toNat⟩ (.oag [gI 4,gI H,gI 0,gI nu,.osv 1 3 nu.toNat (A3 E).toNat]) (Mr _ _ _ _ (E8 _ _)) (by rw[bc];omega) (by show o.length≤_;omega);obtain⟨x,r⟩:=(A9 ⟨F,D,H,A,E,c,I,J,K,B,(fun i=>if i=4 then max (C 4) nu else C i),(fun i=>if i=4 then true else L i),o,G,P⟩ 4 ⟨4,H,0,nu,E.drop nu.toNat⟩).to;rw[r] at u⊢;refine di (u.cal fun q rs s=>?_);obtain⟨rfl,rfl⟩:=s;exact .inl (A1 (oAs ⟨F,D,H,A,E,c,I,J,K,B,(fun i=>if i=4 then max (C 4) nu else C i),(fun i=>if i=4 then true else L i),x,G,P⟩ b e) [(1,6),(2,7),(3,10),(4,9)] (by exact RL5) rfl ⟨_,rfl⟩ rfl rfl ⟨rfl,rfl⟩)
    ·have a:¬nu < ((E.map enE).length:Int):=a;rw[d] at a;dsimp only;rw[db a];exact .inl (A1 (oAs ⟨F,D,H,A,E,c,I,J,K,B,(fun i=>if i=4 then max (C 4) nu else C i),(fun i=>if i=4 then true else L i),o,G,P⟩ b e) [(1,6),(2,7),(3,8),(4,9)] (by exact RL5) rfl ⟨_,rfl⟩ rfl rfl ⟨rfl,rfl⟩)
   ·refine⟨⟨by decide,by decide⟩,⟨by decide,by decide⟩,⟨by decide,by decide⟩,?_⟩;have j:=F9 ⟨F,D,H,A,E,N,I,J,K,B,(fun i=>if i=5 then max (C 5) nu else C i),(fun i=>if i=5 then true else L i),M,G,P⟩;obtain⟨c,o,p⟩:=Cb ⟨F,D,H,A,E,N,I,J,K,B,(fun i=>if i=5 then max (C 5) nu else C i),(fun i=>if i=5 then true else L i),M,G,P⟩;rw[p] at j;have v:o.length≤M.length+D:=j;have t:=Dg ⟨F,D,H,A,E,N,I,J,K,B,(fun i=>if i=5 then max (C 5) nu else C i),(fun i=>if i=5 then true else L i),M,G,P⟩ b e Q z (by show M.length≤_;omega);rw[p] at t⊢;refine dh (.seen 0 _ _ rfl (.close (oAs ⟨F,D,H,A,E,N,I,J,K,B,(fun i=>if i=5 then max (C 5) nu else C i),(fun i=>if i=5 then true else L i),M,G,P⟩ b e) [] (by exact RL5) ⟨_,rfl⟩ rfl (.done (.same (t.cal fun q rs s=>?_)))));obtain⟨rfl,rfl⟩:=s;refine .opn 0 _ _ _ rfl rfl rfl (.done ?_);refine dg (fun a=>?_) fun a=>?_
    ·have a:nu < ((E.map enE).length:Int):=a;rw[d] at a;dsimp only;rw[dc a];refine⟨⟨by omega,by rw[d];omega,br _⟩,?_⟩;have u:=Ij ⟨F,D,H,A,E,c,I,J,K,B,(fun i=>if i=5 then max (C 5) nu else C i),(fun i=>if i=5 then true else L i),o,G,P⟩ (cl (oLs P e)) 5 ⟨4,H,0,nu,E.drop nu.toNat⟩ (.oag [gI 4,gI H,gI 0,gI nu,.osv 1 3 nu.toNat (A3 E).toNat]) (Mr _ _ _ _ (E8 _ _)) (by rw[bc];omega) (by show o.length≤_;omega);obtain⟨x,r⟩:=(A9 ⟨F,D,H,A,E,c,I,J,K,B,(fun i=>if i=5 then max (C 5) nu else C i),(fun i=>if i=5 then true else L i),o,G,P⟩ 5 ⟨4,H,0,nu,E.drop nu.toNat⟩).to;rw[r] at u⊢;refine di (u.cal fun q rs s=>?_);obtain⟨rfl,rfl⟩:=s;exact .inl (A1 (oAs ⟨F,D,H,A,E,c,I,J,K,B,(fun i=>if i=5 then max (C 5) nu else C i),(fun i=>if i=5 then true else L i),x,G,P⟩ b e) [(1,6),(2,7),(3,10),(4,9)] (by exact RL5) rfl ⟨_,rfl⟩ rfl rfl ⟨rfl,rfl⟩)
    ·have a:¬nu < ((E.map enE).length:Int):=a;rw[d] at a;dsimp only;rw[db a];exact .inl (A1 (oAs ⟨F,D,H,A,E,c,I,J,K,B,(fun i=>if i=5 then max (C 5) nu else C i),(fun i=>if i=5 then true else L i),o,G,P⟩ b e) [(1,6),(2,7),(3,8),(4,9)] (by exact RL5) rfl ⟨_,rfl⟩ rfl rfl ⟨rfl,rfl⟩)
   ·refine⟨⟨by decide,by decide⟩,⟨by decide,by decide⟩,⟨by decide,by decide⟩,?_⟩;have j:=F9 ⟨F,D,H,A,E,N,I,J,K,B,(fun i=>if i=6 then max (C 6) nu else C i),(fun i=>if i=6 then true else L i),M,G,P⟩;obtain⟨c,o,p⟩:=Cb ⟨F,D,H,A,E,N,I,J,K,B,(fun i=>if i=6 then max (C 6) nu else C i),(fun i=>if i=6 then true else L i),M,G,P⟩;rw[p] at j;have v:o.length≤M.length+D:=j;have t:=Dg ⟨F,D,H,A,E,N,I,J,K,B,(fun i=>if i=6 then max (C 6) nu else C i),(fun i=>if i=6 then true else L i),M,G,P⟩ b e Q z (by show M.length≤_;omega);rw[p] at t⊢;refine dh (.seen 0 _ _ rfl (.close (oAs ⟨F,D,H,A,E,N,I,J,K,B,(fun i=>if i=6 then max (C 6) nu else C i),(fun i=>if i=6 then true else L i),M,G,P⟩ b e) [] (by exact RL5) ⟨_,rfl⟩ rfl (.done (.same (t.cal fun q rs s=>?_)))));obtain⟨rfl,rfl⟩:=s;refine .opn 0 _ _ _ rfl rfl rfl (.done ?_);refine dg (fun a=>?_) fun a=>?_
    ·have a:nu < ((E.map enE).length:Int):=a;rw[d] at a;dsimp only;rw[dc a];refine⟨⟨by omega,by rw[d];omega,br _⟩,?_⟩;have u:=Ij ⟨F,D,H,A,E,c,I,J,K,B,(fun i=>if i=6 then max (C 6) nu else C i),(fun i=>if i=6 then true else L i),o,G,P⟩ (cl (oLs P e)) 6 ⟨4,H,0,nu,E.drop nu.toNat⟩ (.oag [gI 4,gI H,gI 0,gI nu,.osv 1 3 nu.toNat (A3 E).toNat]) (Mr _ _ _ _ (E8 _ _)) (by rw[bc];omega) (by show o.length≤_;omega);obtain⟨x,r⟩:=(A9 ⟨F,D,H,A,E,c,I,J,K,B,(fun i=>if i=6 then max (C 6) nu else C i),(fun i=>if i=6 then true else L i),o,G,P⟩ 6 ⟨4,H,0,nu,E.drop nu.toNat⟩).to;rw[r] at u⊢;refine di (u.cal fun q rs s=>?_);obtain⟨rfl,rfl⟩:=s;exact .inl (A1 (oAs ⟨F,D,H,A,E,c,I,J,K,B,(fun i=>if i=6 then max (C 6) nu else C i),(fun i=>if i=6 then true else L i),x,G,P⟩ b e) [(1,6),(2,7),(3,10),(4,9)] (by exact RL5) rfl ⟨_,rfl⟩ rfl rfl ⟨rfl,rfl⟩)
    ·have a:¬nu < ((E.map enE).length:Int):=a;rw[d] at a;dsimp only;rw[db a];exact .inl (A1 (oAs ⟨F,D,H,A,E,c,I,J,K,B,(fun i=>if i=6 then max (C 6) nu else C i),(fun i=>if i=6 then true else L i),o,G,P⟩ b e) [(1,6),(2,7),(3,8),(4,9)] (by exact RL5) rfl ⟨_,rfl⟩ rfl rfl ⟨rfl,rfl⟩)
  ·have y:¬nu≤((E.map enE).length:Int):=y;rw[d] at y;rw[R (fun h=>y h.2.2)];exact .inl (A1 (oAs ⟨F,D,H,A,E,N,I,J,K,B,C,L,M,G,P⟩ b e) [] (by exact RL5) rfl ⟨_,rfl⟩ rfl rfl ⟨rfl,rfl⟩)
 ·rw[R (fun h=>hk5 h.1)];exact .inl (A1 (oAs ⟨F,D,H,A,E,N,I,J,K,B,C,L,M,G,P⟩ b e) [] (by exact RL5) rfl ⟨_,rfl⟩ rfl rfl ⟨rfl,rfl⟩)
set_option maxHeartbeats 4000000 in
theorem Z3j (k:Nat)(n:PN)(b e f:Nat)(hf:f < 7)(m:RM)(h:WNk k n)(R:n.std=false∧n.normal < n.pmd)(hm:okM m=true):FnO Tryz.prog 71 [.ptr 0 0,gI f,.agg (enM m)] (cB n b e) fun g rs=>g=.tup []∧∃s,rs=cS s (Aq n f m) b e∧ShN s (Aq n f m):=by
 obtain⟨D,E,H,A,K,L,I,J,C,B,M,N,G,F,P⟩:=n;obtain⟨kd,y,o,nu,l⟩:=m;obtain⟨u,X,w,v,x,h5,h6,t,Z,hst⟩:=h;obtain⟨Y,-,r,-⟩:=Az hm;dsimp only at u w v x h5 h6 t R r;obtain⟨p,d⟩:=R;have z:ShN false ⟨D,E,H,A,K,L,I,J,C,B,M,N,G,F,P⟩:=⟨fun _=>⟨p,d⟩,fun h=>by cases h⟩;have no:(I=false∨H≠y)→Aq ⟨D,E,H,A,K,L,I,J,C,B,M,N,G,F,P⟩ f ⟨kd,y,o,nu,l⟩=⟨D,E,H,A,K,L,I,J,C,B,M,N,G,F,P⟩:=fun V=>by unfold Aq;rw[dc V]
 refine Bq Tryz.func71 (A6 (O:=oBs ⟨D,E,H,A,K,L,I,J,C,B,M,N,G,F,P⟩ b e) (n0:=5) rfl) ?_;refine dk (fun Q=>?_) fun Q=>?_
 ·rw[no (.inl (by simpa using Q))];exact .inl (A1 (oBs ⟨D,E,H,A,K,L,I,J,C,B,M,N,G,F,P⟩ b e) [] (by exact RL5) rfl ⟨_,rfl⟩ rfl rfl ⟨rfl,false,rfl,z⟩)
 have Q:I=true:=by simpa using Q
 refine dj (fun S=>?_) fun S=>?_
 ·rw[no (.inr S)];exact .inl (A1 (oBs ⟨D,E,H,A,K,L,I,J,C,B,M,N,G,F,P⟩ b e) [] (by exact RL5) rfl ⟨_,rfl⟩ rfl rfl ⟨rfl,false,rfl,z⟩)
 have S:H=y:=S;have U:¬(I=false∨H≠y):=by
  rw[Q];rintro(h | h)
  ·cases h
  ·exact h S
 refine df (fun(hk2:kd=2)=>?_) fun(hk2:kd≠2)=>?_
 ·refine dk (fun _=>?_) fun h=>de p (by simpa using h);have W:Aq ⟨D,E,H,A,K,L,I,J,C,B,M,N,G,F,P⟩ f ⟨kd,y,o,nu,l⟩=B2 (if(C f).is=true then⟨D,E,H,A,K,L,I,J,C,B,M,N,G,F,P⟩ else(⟨D,E,H,A,K,L,I,J,(fun i=>if i=f then⟨true,o,l⟩ else C i),B,M,N,G,F,P⟩:PN)):=by
   unfold Aq;rw[db U];dsimp only;rw[dc ⟨hk2,p⟩]
  rw[W];have T:f=0∨f=1∨f=2∨f=3∨f=4∨f=5∨f=6:=by omega
  rcases T with rfl | rfl | rfl | rfl | rfl | rfl | rfl
  ·refine⟨⟨by decide,by decide⟩,?_⟩;refine dk (fun a=>?_) fun a=>?_
   ·have a:(C 0).is=false:=by simpa using a
    rw[db (by rw[a];decide)];have j:∀i,i < 7→((fun i=>if i=0 then(⟨true,o,l⟩:RJ) else C i) i).l.length≤150:=fun i hi=>by
     dsimp only;split
     ·exact r
     ·exact t i hi
    refine⟨⟨by decide,by decide⟩,?_⟩;refine dh (.seen 0 _ _ rfl (.close (oBs ⟨D,E,H,A,K,L,I,J,(fun i=>if i=0 then⟨true,o,l⟩ else C i),B,M,N,G,F,P⟩ b e) [] (by exact RL5) ⟨_,rfl⟩ rfl (.done (.same ((B9 ⟨D,E,H,A,K,L,I,J,(fun i=>if i=0 then⟨true,o,l⟩ else C i),B,M,N,G,F,P⟩ b e w v x (u.wk (by omega)) j (by show G.length≤_;omega) ⟨p,d⟩).cal fun q rs c=>?_)))));obtain⟨rfl,s,rfl,c⟩:=c;refine .done ?_;exact .inl (A7 rfl rfl ⟨rfl,s,rfl,c⟩)
   ·have a:(C 0).is=true:=by simpa using a
    rw[dc a];refine dh (.close (oBs ⟨D,E,H,A,K,L,I,J,C,B,M,N,G,F,P⟩ b e) [] (by exact RL5) ⟨_,rfl⟩ rfl (.done (.same ((B9 ⟨D,E,H,A,K,L,I,J,C,B,M,N,G,F,P⟩ b e w v x (u.wk (by omega)) t (by show G.length≤_;omega) ⟨p,d⟩).cal fun q rs c=>?_))));obtain⟨rfl,s,rfl,c⟩:=c;refine .done ?_;exact .inl (A7 rfl rfl ⟨rfl,s,rfl,c⟩)
  ·refine⟨⟨by decide,by decide⟩,?_⟩;refine dk (fun a=>?_) fun a=>?_
   ·have a:(C 1).is=false:=by simpa using a
    rw[db (by rw[a];decide)];have j:∀i,i < 7→((fun i=>if i=1 then(⟨true,o,l⟩:RJ) else C i) i).l.length≤150:=fun i hi=>by
     dsimp only;split
     ·exact r
     ·exact t i hi
    refine⟨⟨by decide,by decide⟩,?_⟩;refine dh (.seen 0 _ _ rfl (.close (oBs ⟨D,E,H,A,K,L,I,J,(fun i=>if i=1 then⟨true,o,l⟩ else C i),B,M,N,G,F,P⟩ b e) [] (by exact RL5) ⟨_,rfl⟩ rfl (.done (.same ((B9 ⟨D,E,H,A,K,L,I,J,(fun i=>if i=1 then⟨true,o,l⟩ else C i),B,M,N,G,F,P⟩ b e w v x (u.wk (by omega)) j (by show G.length≤_;omega) ⟨p,d⟩).cal fun q rs c=>?_)))));obtain⟨rfl,s,rfl,c⟩:=c;refine .done ?_;exact .inl (A7 rfl rfl ⟨rfl,s,rfl,c⟩)
   ·have a:(C 1).is=true:=by simpa using a
    rw[dc a];refine dh (.close (oBs ⟨D,E,H,A,K,L,I,J,C,B,M,N,G,F,P⟩ b e) [] (by exact RL5) ⟨_,rfl⟩ rfl (.done (.same ((B9 ⟨D,E,H,A,K,L,I,J,C,B,M,N,G,F,P⟩ b e w v x (u.wk (by omega)) t (by show G.length≤_;omega) ⟨p,d⟩).cal fun q rs c=>?_))));obtain⟨rfl,s,rfl,c⟩:=c;refine .done ?_;exact .inl (A7 rfl rfl ⟨rfl,s,rfl,c⟩)
  ·refine⟨⟨by decide,by decide⟩,?_⟩;refine dk (fun a=>?_) fun a=>?_
   ·have a:(C 2).is=false:=by simpa using a
    rw[db (by rw[a];decide)];have j:∀i,i < 7→((fun i=>if i=2 then(⟨true,o,l⟩:RJ) else C i) i).l.length≤150:=fun i hi=>by
     dsimp only;split
     ·exact r
     ·exact t i hi
    refine⟨⟨by decide,by decide⟩,?_⟩;refine dh (.seen 0 _ _ rfl (.close (oBs ⟨D,E,H,A,K,L,I,J,(fun i=>if i=2 then⟨true,o,l⟩ else C i),B,M,N,G,F,P⟩ b e) [] (by exact RL5) ⟨_,rfl⟩ rfl (.done (.same ((B9 ⟨D,E,H,A,K,L,I,J,(fun i=>if i=2 then⟨true,o,l⟩ else C i),B,M,N,G,F,P⟩ b e w v x (u.wk (by omega)) j (by show G.length≤_;omega) ⟨p,d⟩).cal fun q rs c=>?_)))));obtain⟨rfl,s,rfl,c⟩:=c;refine .done ?_;exact .inl (A7 rfl rfl ⟨rfl,s,rfl,c⟩)
   ·have a:(C 2).is=true:=by simpa using a
    rw[dc a];refine dh (.close (oBs ⟨D,E,H,A,K,L,I,J,C,B,M,N,G,F,P⟩ b e) [] (by exact RL5) ⟨_,rfl⟩ rfl (.done (.same ((B9 ⟨D,E,H,A,K,L,I,J,C,B,M,N,G,F,P⟩ b e w v x (u.wk (by omega)) t (by show G.length≤_;omega) ⟨p,d⟩).cal fun q rs c=>?_))));obtain⟨rfl,s,rfl,c⟩:=c;refine .done ?_;exact .inl (A7 rfl rfl ⟨rfl,s,rfl,c⟩)
  ·refine⟨⟨by decide,by decide⟩,?_⟩;refine dk (fun a=>?_) fun a=>?_
   ·have a:(C 3).is=false:=by simpa using a
    rw[db (by rw[a];decide)];have j:∀i,i < 7→((fun i=>if i=3 then(⟨true,o,l⟩:RJ) else C i) i).l.length≤150:=fun i hi=>by
     dsimp only;split
     ·exact r
     ·exact t i hi
    refine⟨⟨by decide,by decide⟩,?_⟩;refine dh (.seen 0 _ _ rfl (.close (oBs ⟨D,E,H,A,K,L,I,J,(fun i=>if i=3 then⟨true,o,l⟩ else C i),B,M,N,G,F,P⟩ b e) [] (by exact RL5) ⟨_,rfl⟩ rfl (.done (.same ((B9 ⟨D,E,H,A,K,L,I,J,(fun i=>if i=3 then⟨true,o,l⟩ else C i),B,M,N,G,F,P⟩ b e w v x (u.wk (by omega)) j (by show G.length≤_;omega) ⟨p,d⟩).cal fun q rs c=>?_)))));obtain⟨rfl,s,rfl,c⟩:=c;refine .done ?_;exact .inl (A7 rfl rfl ⟨rfl,s,rfl,c⟩)
   ·have a:(C 3).is=true:=by simpa using a
    rw[dc a];refine dh (.close (oBs ⟨D,E,H,A,K,L,I,J,C,B,M,N,G,F,P⟩ b e) [] (by exact RL5) ⟨_,rfl⟩ rfl (.done (.same ((B9 ⟨D,E,H,A,K,L,I,J,C,B,M,N,G,F,P⟩ b e w v x (u.wk (by omega)) t (by show G.length≤_;omega) ⟨p,d⟩).cal fun q rs c=>?_))));obtain⟨rfl,s,rfl,c⟩:=c;refine .done ?_;exact .inl (A7 rfl rfl ⟨rfl,s,rfl,c⟩)
  ·refine⟨⟨by decide,by decide⟩,?_⟩;refine dk (fun a=>?_) fun a=>?_
   ·have a:(C 4).is=false:=by simpa using a
    rw[db (by rw[a];decide)];have j:∀i,i < 7→((fun i=>if i=4 then(⟨true,o,l⟩:RJ) else C i) i).l.length≤150:=fun i hi=>by
     dsimp only;split
     ·exact r
     ·exact t i hi
    refine⟨⟨by decide,by decide⟩,?_⟩;refine dh (.seen 0 _ _ rfl (.close (oBs ⟨D,E,H,A,K,L,I,J,(fun i=>if i=4 then⟨true,o,l⟩ else C i),B,M,N,G,F,P⟩ b e) [] (by exact RL5) ⟨_,rfl⟩ rfl (.done (.same ((B9 ⟨D,E,H,A,K,L,I,J,(fun i=>if i=4 then⟨true,o,l⟩ else C i),B,M,N,G,F,P⟩ b e w v x (u.wk (by omega)) j (by show G.length≤_;omega) ⟨p,d⟩).cal fun q rs c=>?_)))));obtain⟨rfl,s,rfl,c⟩:=c;refine .done ?_;exact .inl (A7 rfl rfl ⟨rfl,s,rfl,c⟩)
   ·have a:(C 4).is=true:=by simpa using a
    rw[dc a];refine dh (.close (oBs ⟨D,E,H,A,K,L,I,J,C,B,M,N,G,F,P⟩ b e) [] (by exact RL5) ⟨_,rfl⟩ rfl (.done (.same ((B9 ⟨D,E,H,A,K,L,I,J,C,B,M,N,G,F,P⟩ b e w v x (u.wk (by omega)) t (by show G.length≤_;omega) ⟨p,d⟩).cal fun q rs c=>?_))));obtain⟨rfl,s,rfl,c⟩:=c;refine .done ?_;exact .inl (A7 rfl rfl ⟨rfl,s,rfl,c⟩)
  ·refine⟨⟨by decide,by decide⟩,?_⟩;refine dk (fun a=>?_) fun a=>?_
   ·have a:(C 5).is=false:=by simpa using a
    rw[db (by rw[a];decide)];have j:∀i,i < 7→((fun i=>if i=5 then(⟨true,o,l⟩:RJ) else C i) i).l.length≤150:=fun i hi=>by
     dsimp only;split
     ·exact r
     ·exact t i hi
    refine⟨⟨by decide,by decide⟩,?_⟩;refine dh (.seen 0 _ _ rfl (.close (oBs ⟨D,E,H,A,K,L,I,J,(fun i=>if i=5 then⟨true,o,l⟩ else C i),B,M,N,G,F,P⟩ b e) [] (by exact RL5) ⟨_,rfl⟩ rfl (.done (.same ((B9 ⟨D,E,H,A,K,L,I,J,(fun i=>if i=5 then⟨true,o,l⟩ else C i),B,M,N,G,F,P⟩ b e w v x (u.wk (by omega)) j (by show G.length≤_;omega) ⟨p,d⟩).cal fun q rs c=>?_)))));obtain⟨rfl,s,rfl,c⟩:=c;refine .done ?_;exact .inl (A7 rfl rfl ⟨rfl,s,rfl,c⟩)
   ·have a:(C 5).is=true:=by simpa using a
    rw[dc a];refine dh (.close (oBs ⟨D,E,H,A,K,L,I,J,C,B,M,N,G,F,P⟩ b e) [] (by exact RL5) ⟨_,rfl⟩ rfl (.done (.same ((B9 ⟨D,E,H,A,K,L,I,J,C,B,M,N,G,F,P⟩ b e w v x (u.wk (by omega)) t (by show G.length≤_;omega) ⟨p,d⟩).cal fun q rs c=>?_))));obtain⟨rfl,s,rfl,c⟩:=c;refine .done ?_;exact .inl (A7 rfl rfl ⟨rfl,s,rfl,c⟩)
  ·refine⟨⟨by decide,by decide⟩,?_⟩;refine dk (fun a=>?_) fun a=>?_
   ·have a:(C 6).is=false:=by simpa using a
    rw[db (by rw[a];decide)];have j:∀i,i < 7→((fun i=>if i=6 then(⟨true,o,l⟩:RJ) else C i) i).l.length≤150:=fun i hi=>by
     dsimp only;split
     ·exact r
     ·exact t i hi
    refine⟨⟨by decide,by decide⟩,?_⟩;refine dh (.seen 0 _ _ rfl (.close (oBs ⟨D,E,H,A,K,L,I,J,(fun i=>if i=6 then⟨true,o,l⟩ else C i),B,M,N,G,F,P⟩ b e) [] (by exact RL5) ⟨_,rfl⟩ rfl (.done (.same ((B9 ⟨D,E,H,A,K,L,I,J,(fun i=>if i=6 then⟨true,o,l⟩ else C i),B,M,N,G,F,P⟩ b e w v x (u.wk (by omega)) j (by show G.length≤_;omega) ⟨p,d⟩).cal fun q rs c=>?_)))));obtain⟨rfl,s,rfl,c⟩:=c;refine .done ?_;exact .inl (A7 rfl rfl ⟨rfl,s,rfl,c⟩)
   ·have a:(C 6).is=true:=by simpa using a
    rw[dc a];refine dh (.close (oBs ⟨D,E,H,A,K,L,I,J,C,B,M,N,G,F,P⟩ b e) [] (by exact RL5) ⟨_,rfl⟩ rfl (.done (.same ((B9 ⟨D,E,H,A,K,L,I,J,C,B,M,N,G,F,P⟩ b e w v x (u.wk (by omega)) t (by show G.length≤_;omega) ⟨p,d⟩).cal fun q rs c=>?_))));obtain⟨rfl,s,rfl,c⟩:=c;refine .done ?_;exact .inl (A7 rfl rfl ⟨rfl,s,rfl,c⟩)
 have ne:Aq ⟨D,E,H,A,K,L,I,J,C,B,M,N,G,F,P⟩ f ⟨kd,y,o,nu,l⟩=⟨D,E,H,A,K,L,I,J,C,B,M,N,G,F,P⟩:=by unfold Aq;rw[db U];dsimp only;rw[db (fun h=>hk2 h.1),db (by rw[p];rintro⟨-,h,-⟩;cases h)]
 rw[ne];refine df (fun(hk5:kd=5)=>?_) fun(hk5:kd≠5)=>?_
 ·refine dk (fun h=>de p (by have h:J=true:=h;rw[h];decide)) fun _=>?_;exact .inl (A1 (oBs ⟨D,E,H,A,K,L,I,J,C,B,M,N,G,F,P⟩ b e) [] (by exact RL5) rfl ⟨_,rfl⟩ rfl rfl ⟨rfl,false,rfl,z⟩)
 ·exact .inl (A1 (oBs ⟨D,E,H,A,K,L,I,J,C,B,M,N,G,F,P⟩ b e) [] (by exact RL5) rfl ⟨_,rfl⟩ rfl rfl ⟨rfl,false,rfl,z⟩)
end Go.Proofs.YtihfaocdpmmooaaGreat

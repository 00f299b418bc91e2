
import Derived.Test.YtihfaocdpmmooaaGreatZNl
namespace Go.Proofs.YtihfaocdpmmooaaGreat
open Go.RowKit
set_option maxRecDepth 100000
theorem Es (n:PN):(Dy n).out.length≤n.out.length+n.many:=by
 unfold Dy
 split
 ·exact Aa _ _
 ·exact Nat.le_add_right _ _
theorem Lm {l m:List REnt}{lo hi:Int}(o:Os)(k v x:Int)(h:(l.take hi.toNat).drop lo.toNat=m):Z17 ((1,R.froz (l.map enE) 3)::o) (.oag [gI k,gI v,gI 0,gI x,.osv 1 3 lo.toNat hi.toNat])=.agg (enM ⟨k,v,0,x,m⟩):=by
 show G.agg [gI k,gI v,gI 0,gI x,.sl (((l.map enE).take hi.toNat).drop lo.toNat)]=G.agg [gI k,gI v,gI 0,gI x,.sl (m.map enE)]
 rw[←h,List.map_drop,cv]
theorem Do (l:List REnt)(a:Nat):(l.take (A4 l).toNat).drop a=l.drop a:=by rw[E1,ay,List.take_length]
set_option maxHeartbeats 4000000 in
theorem Z1r (k:Nat)(n:PN)(b e f:Nat)(hf:f < 7)(m:RM)(h:WNk k n)(hsh:n.lds=true→n.std=true)(hm:okM m=true):FnO Tryz.prog 71 [.ptr 0 0,gI f,.agg (enM m)] (cA n b e) fun g rs=>g=.tup []∧rs=cA (B4 n f m) b e:=by
 obtain⟨F,D,H,A,E,N,I,J,K,B,C,L,M,G,P⟩:=n
 obtain⟨kd,vw0,nm,nu,l⟩:=m
 obtain⟨h1,hkk,h2,h3,h4,h5,h6,h7,hnp,hst⟩:=h
 obtain⟨hm1,-,hml,-⟩:=Aw hm
 dsimp only at h1 h2 h3 h4 h5 h6 h7 hsh hml
 have no:(I=false∨H≠vw0)→B4 ⟨F,D,H,A,E,N,I,J,K,B,C,L,M,G,P⟩ f ⟨kd,vw0,nm,nu,l⟩=⟨F,D,H,A,E,N,I,J,K,B,C,L,M,G,P⟩:=fun hh=>by unfold B4;rw[db hh]
 refine Ba Tryz.func71 (A5 (O:=oAs ⟨F,D,H,A,E,N,I,J,K,B,C,L,M,G,P⟩ b e) (n0:=5) rfl) ?_
 refine dj (fun hl=>?_) fun hl=>?_
 ·rw[no (.inl (by simpa using hl))]
  exact .inl (A1 (oAs ⟨F,D,H,A,E,N,I,J,K,B,C,L,M,G,P⟩ b e) [] (by exact RL5) rfl ⟨_,rfl⟩ rfl rfl ⟨rfl,rfl⟩)
 have hl:I=true:=by simpa using hl
 have hs:=hsh hl
 refine di (fun hv=>?_) fun hv=>?_
 ·rw[no (.inr hv)]
  exact .inl (A1 (oAs ⟨F,D,H,A,E,N,I,J,K,B,C,L,M,G,P⟩ b e) [] (by exact RL5) rfl ⟨_,rfl⟩ rfl rfl ⟨rfl,rfl⟩)
 have hv:H=vw0:=hv
 have h0:¬(I=false∨H≠vw0):=by
  rw[hl]
  rintro(h | h)
  ·cases h
  ·exact h hv
 have eI:B4 ⟨F,D,H,A,E,N,I,J,K,B,C,L,M,G,P⟩ f ⟨kd,vw0,nm,nu,l⟩=if kd=5∧J=true∧nu≤E.length then
   (fun n2:PN=>if nu < n2.log.length then Ay n2 f ⟨4,n2.pmd,0,nu,n2.log.drop nu.toNat⟩ else n2)
    (Dy ⟨F,D,H,A,E,N,I,J,K,B,(fun i=>if i=f then max (C f) nu else C i),(fun i=>if i=f then true else L i),M,G,P⟩) else⟨F,D,H,A,E,N,I,J,K,B,C,L,M,G,P⟩:=by
  unfold B4
  rw[da h0]
  dsimp only
  rw[da (by rw[hs];rintro⟨-,h⟩;cases h)]
 have ne5:¬(kd=5∧J=true∧nu≤E.length)→B4 ⟨F,D,H,A,E,N,I,J,K,B,C,L,M,G,P⟩ f ⟨kd,vw0,nm,nu,l⟩=⟨F,D,H,A,E,N,I,J,K,B,C,L,M,G,P⟩:=fun h=>by rw[eI,da h]
 refine de (fun(hk2:kd=2)=>?_) fun(hk2:kd≠2)=>?_
 ·refine dj (fun h=>dc hs (by simpa using h)) fun _=>?_
  refine de (fun(hk5:kd=5)=>dc hk2 (by omega)) fun(hk5:kd≠5)=>?_
  rw[ne5 (fun h=>hk5 h.1)]
  exact .inl (A1 (oAs ⟨F,D,H,A,E,N,I,J,K,B,C,L,M,G,P⟩ b e) [] (by exact RL5) rfl ⟨_,rfl⟩ rfl rfl ⟨rfl,rfl⟩)
 refine de (fun(hk5:kd=5)=>?_) fun(hk5:kd≠5)=>?_
 ·refine dj (fun _=>?_) fun h=>dc hs (by have h:J=false:=h;rw[h];decide)
  have hlen:((E.map enE).length:Nat)=E.length:=aa ..
  refine df (fun hn=>?_) fun hn=>?_
  ·have hn:nu≤((E.map enE).length:Int):=hn
   rw[hlen] at hn
   rw[eI,db ⟨hk5,hs,hn⟩]
   have hf7:f=0∨f=1∨f=2∨f=3∨f=4∨f=5∨f=6:=by omega
   rcases hf7 with rfl | rfl | rfl | rfl | rfl | rfl | rfl
   ·refine⟨⟨by decide,by decide⟩,⟨by decide,by decide⟩,⟨by decide,by decide⟩,?_⟩
    have hlk0:=Es ⟨F,D,H,A,E,N,I,J,K,B,(fun i=>if i=0 then max (C 0) nu else C i),(fun i=>if i=0 then true else L i),M,G,P⟩
    obtain⟨c,o,hlk⟩:=Cz ⟨F,D,H,A,E,N,I,J,K,B,(fun i=>if i=0 then max (C 0) nu else C i),(fun i=>if i=0 then true else L i),M,G,P⟩
    rw[hlk] at hlk0
    have hol:o.length≤M.length+D:=hlk0
    have hL:=Cv ⟨F,D,H,A,E,N,I,J,K,B,(fun i=>if i=0 then max (C 0) nu else C i),(fun i=>if i=0 then true else L i),M,G,P⟩ b e h2 h3 (by show M.length≤_;omega)
    rw[hlk] at hL⊢
    refine dg (.seen 0 _ _ rfl (.close (oAs ⟨F,D,H,A,E,N,I,J,K,B,(fun i=>if i=0 then max (C 0) nu else C i),(fun i=>if i=0 then true else L i),M,G,P⟩ b e) [] (by exact RL5) ⟨_,rfl⟩ rfl (.done (.same (hL.cal fun q rs hq=>?_)))))
    obtain⟨rfl,rfl⟩:=hq
    refine .opn 0 _ _ _ rfl rfl rfl (.done ?_)
    refine df (fun hn2=>?_) fun hn2=>?_
    ·have hn2:nu < ((E.map enE).length:Int):=hn2
     rw[hlen] at hn2
     dsimp only
     rw[db hn2]
     refine⟨⟨by omega,by rw[hlen];omega,bp _⟩,?_⟩
     have hS:=Hp ⟨F,D,H,A,E,c,I,J,K,B,(fun i=>if i=0 then max (C 0) nu else C i),(fun i=>if i=0 then true else L i),o,G,P⟩ (cl (oLs P e)) 0 ⟨4,H,0,nu,E.drop nu.toNat⟩ (.oag [gI 4,gI H,gI 0,gI nu,.osv 1 3 nu.toNat (A4 E).toNat]) (Lm _ _ _ _ (Do _ _)) (by rw[ba];omega) (by show o.length≤_;omega)
     obtain⟨o2,hs2⟩:=(A8 ⟨F,D,H,A,E,c,I,J,K,B,(fun i=>if i=0 then max (C 0) nu else C i),(fun i=>if i=0 then true else L i),o,G,P⟩ 0 ⟨4,H,0,nu,E.drop nu.toNat⟩).to
     rw[hs2] at hS⊢
     refine dh (hS.cal fun q rs hq=>?_)
     obtain⟨rfl,rfl⟩:=hq
     exact .inl (A1 (oAs ⟨F,D,H,A,E,c,I,J,K,B,(fun i=>if i=0 then max (C 0) nu else C i),(fun i=>if i=0 then true else L i),o2,G,P⟩ b e) [(1,6),(2,7),(3,10),(4,9)] (by exact RL5) rfl ⟨_,rfl⟩ rfl rfl ⟨rfl,rfl⟩)
    ·have hn2:¬nu < ((E.map enE).length:Int):=hn2
     rw[hlen] at hn2
     dsimp only
     rw[da hn2]
     exact .inl (A1 (oAs ⟨F,D,H,A,E,c,I,J,K,B,(fun i=>if i=0 then max (C 0) nu else C i),(fun i=>if i=0 then true else L i),o,G,P⟩ b e) [(1,6),(2,7),(3,8),(4,9)] (by exact RL5) rfl ⟨_,rfl⟩ rfl rfl ⟨rfl,rfl⟩)
   ·refine⟨⟨by decide,by decide⟩,⟨by decide,by decide⟩,⟨by decide,by decide⟩,?_⟩
    have hlk0:=Es ⟨F,D,H,A,E,N,I,J,K,B,(fun i=>if i=1 then max (C 1) nu else C i),(fun i=>if i=1 then true else L i),M,G,P⟩
    obtain⟨c,o,hlk⟩:=Cz ⟨F,D,H,A,E,N,I,J,K,B,(fun i=>if i=1 then max (C 1) nu else C i),(fun i=>if i=1 then true else L i),M,G,P⟩
    rw[hlk] at hlk0
    have hol:o.length≤M.length+D:=hlk0
    have hL:=Cv ⟨F,D,H,A,E,N,I,J,K,B,(fun i=>if i=1 then max (C 1) nu else C i),(fun i=>if i=1 then true else L i),M,G,P⟩ b e h2 h3 (by show M.length≤_;omega)
    rw[hlk] at hL⊢
    refine dg (.seen 0 _ _ rfl (.close (oAs ⟨F,D,H,A,E,N,I,J,K,B,(fun i=>if i=1 then max (C 1) nu else C i),(fun i=>if i=1 then true else L i),M,G,P⟩ b e) [] (by exact RL5) ⟨_,rfl⟩ rfl (.done (.same (hL.cal fun q rs hq=>?_)))))
    obtain⟨rfl,rfl⟩:=hq
    refine .opn 0 _ _ _ rfl rfl rfl (.done ?_)
    refine df (fun hn2=>?_) fun hn2=>?_
    ·have hn2:nu < ((E.map enE).length:Int):=hn2
     rw[hlen] at hn2
     dsimp only
     rw[db hn2]
     refine⟨⟨by omega,by rw[hlen];omega,bp _⟩,?_⟩
     have hS:=Hp ⟨F,D,H,A,E,c,I,J,K,B,(fun i=>if i=1 then max (C 1) nu else C i),(fun i=>if i=1 then true else L i),o,G,P⟩ (cl (oLs P e)) 1 ⟨4,H,0,nu,E.drop nu.toNat⟩ (.oag [gI 4,gI H,gI 0,gI nu,.osv 1 3 nu.toNat (A4 E).toNat]) (Lm _ _ _ _ (Do _ _)) (by rw[ba];omega) (by show o.length≤_;omega)
     obtain⟨o2,hs2⟩:=(A8 ⟨F,D,H,A,E,c,I,J,K,B,(fun i=>if i=1 then max (C 1) nu else C i),(fun i=>if i=1 then true else L i),o,G,P⟩ 1 ⟨4,H,0,nu,E.drop nu.toNat⟩).to
     rw[hs2] at hS⊢
     refine dh (hS.cal fun q rs hq=>?_)
     obtain⟨rfl,rfl⟩:=hq
     exact .inl (A1 (oAs ⟨F,D,H,A,E,c,I,J,K,B,(fun i=>if i=1 then max (C 1) nu else C i),(fun i=>if i=1 then true else L i),o2,G,P⟩ b e) [(1,6),(2,7),(3,10),(4,9)] (by exact RL5) rfl ⟨_,rfl⟩ rfl rfl ⟨rfl,rfl⟩)
    ·have hn2:¬nu < ((E.map enE).length:Int):=hn2
     rw[hlen] at hn2
     dsimp only
     rw[da hn2]
     exact .inl (A1 (oAs ⟨F,D,H,A,E,c,I,J,K,B,(fun i=>if i=1 then max (C 1) nu else C i),(fun i=>if i=1 then true else L i),o,G,P⟩ b e) [(1,6),(2,7),(3,8),(4,9)] (by exact RL5) rfl ⟨_,rfl⟩ rfl rfl ⟨rfl,rfl⟩)
   ·refine⟨⟨by decide,by decide⟩,⟨by decide,by decide⟩,⟨by decide,by decide⟩,?_⟩
    have hlk0:=Es ⟨F,D,H,A,E,N,I,J,K,B,(fun i=>if i=2 then max (C 2) nu else C i),(fun i=>if i=2 then true else L i),M,G,P⟩
    obtain⟨c,o,hlk⟩:=Cz ⟨F,D,H,A,E,N,I,J,K,B,(fun i=>if i=2 then max (C 2) nu else C i),(fun i=>if i=2 then true else L i),M,G,P⟩
    rw[hlk] at hlk0
    have hol:o.length≤M.length+D:=hlk0
    have hL:=Cv ⟨F,D,H,A,E,N,I,J,K,B,(fun i=>if i=2 then max (C 2) nu else C i),(fun i=>if i=2 then true else L i),M,G,P⟩ b e h2 h3 (by show M.length≤_;omega)
    rw[hlk] at hL⊢
    refine dg (.seen 0 _ _ rfl (.close (oAs ⟨F,D,H,A,E,N,I,J,K,B,(fun i=>if i=2 then max (C 2) nu else C i),(fun i=>if i=2 then true else L i),M,G,P⟩ b e) [] (by exact RL5) ⟨_,rfl⟩ rfl (.done (.same (hL.cal fun q rs hq=>?_)))))
    obtain⟨rfl,rfl⟩:=hq
    refine .opn 0 _ _ _ rfl rfl rfl (.done ?_)
    refine df (fun hn2=>?_) fun hn2=>?_
    ·have hn2:nu < ((E.map enE).length:Int):=hn2
     rw[hlen] at hn2
     dsimp only
     rw[db hn2]
     refine⟨⟨by omega,by rw[hlen];omega,bp _⟩,?_⟩
     have hS:=Hp ⟨F,D,H,A,E,c,I,J,K,B,(fun i=>if i=2 then max (C 2) nu else C i),(fun i=>if i=2 then true else L i),o,G,P⟩ (cl (oLs P e)) 2 ⟨4,H,0,nu,E.drop nu.toNat⟩ (.oag [gI 4,gI H,gI 0,gI nu,.osv 1 3 nu.toNat (A4 E).toNat]) (Lm _ _ _ _ (Do _ _)) (by rw[ba];omega) (by show o.length≤_;omega)
     obtain⟨o2,hs2⟩:=(A8 ⟨F,D,H,A,E,c,I,J,K,B,(fun i=>if i=2 then max (C 2) nu else C i),(fun i=>if i=2 then true else L i),o,G,P⟩ 2 ⟨4,H,0,nu,E.drop nu.toNat⟩).to
     rw[hs2] at hS⊢
     refine dh (hS.cal fun q rs hq=>?_)
     obtain⟨rfl,rfl⟩:=hq
     exact .inl (A1 (oAs ⟨F,D,H,A,E,c,I,J,K,B,(fun i=>if i=2 then max (C 2) nu else C i),(fun i=>if i=2 then true else L i),o2,G,P⟩ b e) [(1,6),(2,7),(3,10),(4,9)] (by exact RL5) rfl ⟨_,rfl⟩ rfl rfl ⟨rfl,rfl⟩)
    ·have hn2:¬nu < ((E.map enE).length:Int):=hn2
     rw[hlen] at hn2
     dsimp only
     rw[da hn2]
     exact .inl (A1 (oAs ⟨F,D,H,A,E,c,I,J,K,B,(fun i=>if i=2 then max (C 2) nu else C i),(fun i=>if i=2 then true else L i),o,G,P⟩ b e) [(1,6),(2,7),(3,8),(4,9)] (by exact RL5) rfl ⟨_,rfl⟩ rfl rfl ⟨rfl,rfl⟩)
   ·refine⟨⟨by decide,by decide⟩,⟨by decide,by decide⟩,⟨by decide,by decide⟩,?_⟩
    have hlk0:=Es ⟨F,D,H,A,E,N,I,J,K,B,(fun i=>if i=3 then max (C 3) nu else C i),(fun i=>if i=3 then true else L i),M,G,P⟩
    obtain⟨c,o,hlk⟩:=Cz ⟨F,D,H,A,E,N,I,J,K,B,(fun i=>if i=3 then max (C 3) nu else C i),(fun i=>if i=3 then true else L i),M,G,P⟩
    rw[hlk] at hlk0
    have hol:o.length≤M.length+D:=hlk0
    have hL:=Cv ⟨F,D,H,A,E,N,I,J,K,B,(fun i=>if i=3 then max (C 3) nu else C i),(fun i=>if i=3 then true else L i),M,G,P⟩ b e h2 h3 (by show M.length≤_;omega)
    rw[hlk] at hL⊢
    refine dg (.seen 0 _ _ rfl (.close (oAs ⟨F,D,H,A,E,N,I,J,K,B,(fun i=>if i=3 then max (C 3) nu else C i),(fun i=>if i=3 then true else L i),M,G,P⟩ b e) [] (by exact RL5) ⟨_,rfl⟩ rfl (.done (.same (hL.cal fun q rs hq=>?_)))))
    obtain⟨rfl,rfl⟩:=hq
    refine .opn 0 _ _ _ rfl rfl rfl (.done ?_)
    refine df (fun hn2=>?_) fun hn2=>?_
    ·have hn2:nu < ((E.map enE).length:Int):=hn2
     rw[hlen] at hn2
     dsimp only
     rw[db hn2]
     refine⟨⟨by omega,by rw[hlen];omega,bp _⟩,?_⟩
     have hS:=Hp ⟨F,D,H,A,E,c,I,J,K,B,(fun i=>if i=3 then max (C 3) nu else C i),(fun i=>if i=3 then true else L i),o,G,P⟩ (cl (oLs P e)) 3 ⟨4,H,0,nu,E.drop nu.toNat⟩ (.oag [gI 4,gI H,gI 0,gI nu,.osv 1 3 nu.toNat (A4 E).toNat]) (Lm _ _ _ _ (Do _ _)) (by rw[ba];omega) (by show o.length≤_;omega)
     obtain⟨o2,hs2⟩:=(A8 ⟨F,D,H,A,E,c,I,J,K,B,(fun i=>if i=3 then max (C 3) nu else C i),(fun i=>if i=3 then true else L i),o,G,P⟩ 3 ⟨4,H,0,nu,E.drop nu.toNat⟩).to
     rw[hs2] at hS⊢
     refine dh (hS.cal fun q rs hq=>?_)
     obtain⟨rfl,rfl⟩:=hq
     exact .inl (A1 (oAs ⟨F,D,H,A,E,c,I,J,K,B,(fun i=>if i=3 then max (C 3) nu else C i),(fun i=>if i=3 then true else L i),o2,G,P⟩ b e) [(1,6),(2,7),(3,10),(4,9)] (by exact RL5) rfl ⟨_,rfl⟩ rfl rfl ⟨rfl,rfl⟩)
    ·have hn2:¬nu < ((E.map enE).length:Int):=hn2
     rw[hlen] at hn2
     dsimp only
     rw[da hn2]
     exact .inl (A1 (oAs ⟨F,D,H,A,E,c,I,J,K,B,(fun i=>if i=3 then max (C 3) nu else C i),(fun i=>if i=3 then true else L i),o,G,P⟩ b e) [(1,6),(2,7),(3,8),(4,9)] (by exact RL5) rfl ⟨_,rfl⟩ rfl rfl ⟨rfl,rfl⟩)
   ·refine⟨⟨by decide,by decide⟩,⟨by decide,by decide⟩,⟨by decide,by decide⟩,?_⟩
    have hlk0:=Es ⟨F,D,H,A,E,N,I,J,K,B,(fun i=>if i=4 then max (C 4) nu else C i),(fun i=>if i=4 then true else L i),M,G,P⟩
    obtain⟨c,o,hlk⟩:=Cz ⟨F,D,H,A,E,N,I,J,K,B,(fun i=>if i=4 then max (C 4) nu else C i),(fun i=>if i=4 then true else L i),M,G,P⟩
    rw[hlk] at hlk0
    have hol:o.length≤M.length+D:=hlk0
    have hL:=Cv ⟨F,D,H,A,E,N,I,J,K,B,(fun i=>if i=4 then max (C 4) nu else C i),(fun i=>if i=4 then true else L i),M,G,P⟩ b e h2 h3 (by show M.length≤_;omega)
    rw[hlk] at hL⊢
    refine dg (.seen 0 _ _ rfl (.close (oAs ⟨F,D,H,A,E,N,I,J,K,B,(fun i=>if i=4 then max (C 4) nu else C i),(fun i=>if i=4 then true else L i),M,G,P⟩ b e) [] (by exact RL5) ⟨_,rfl⟩ rfl (.done (.same (hL.cal fun q rs hq=>?_)))))
    obtain⟨rfl,rfl⟩:=hq
    refine .opn 0 _ _ _ rfl rfl rfl (.done ?_)
    refine df (fun hn2=>?_) fun hn2=>?_
    ·have hn2:nu < ((E.map enE).length:Int):=hn2
     rw[hlen] at hn2
     dsimp only
     rw[db hn2]
     refine⟨⟨by omega,by rw[hlen];omega,bp _⟩,?_⟩
     have hS:=Hp ⟨F,D,H,A,E,c,I,J,K,B,(fun i=>if i=4 then max (C 4) nu else C i),(fun i=>if i=4 then true else L i),o,G,P⟩ (cl (oLs P e)) 4 ⟨4,H,0,nu,E.drop nu.toNat⟩ (.oag [gI 4,gI H,gI 0,gI nu,.osv 1 3 nu.toNat (A4 E).toNat]) (Lm _ _ _ _ (Do _ _)) (by rw[ba];omega) (by show o.length≤_;omega)
     obtain⟨o2,hs2⟩:=(A8 ⟨F,D,H,A,E,c,I,J,K,B,(fun i=>if i=4 then max (C 4) nu else C i),(fun i=>if i=4 then true else L i),o,G,P⟩ 4 ⟨4,H,0,nu,E.drop nu.toNat⟩).to
     rw[hs2] at hS⊢
     refine dh (hS.cal fun q rs hq=>?_)
     obtain⟨rfl,rfl⟩:=hq
     exact .inl (A1 (oAs ⟨F,D,H,A,E,c,I,J,K,B,(fun i=>if i=4 then max (C 4) nu else C i),(fun i=>if i=4 then true else L i),o2,G,P⟩ b e) [(1,6),(2,7),(3,10),(4,9)] (by exact RL5) rfl ⟨_,rfl⟩ rfl rfl ⟨rfl,rfl⟩)
    ·have hn2:¬nu < ((E.map enE).length:Int):=hn2
     rw[hlen] at hn2
     dsimp only
     rw[da hn2]
     exact .inl (A1 (oAs ⟨F,D,H,A,E,c,I,J,K,B,(fun i=>if i=4 then max (C 4) nu else C i),(fun i=>if i=4 then true else L i),o,G,P⟩ b e) [(1,6),(2,7),(3,8),(4,9)] (by exact RL5) rfl ⟨_,rfl⟩ rfl rfl ⟨rfl,rfl⟩)
   ·refine⟨⟨by decide,by decide⟩,⟨by decide,by decide⟩,⟨by decide,by decide⟩,?_⟩
    have hlk0:=Es ⟨F,D,H,A,E,N,I,J,K,B,(fun i=>if i=5 then max (C 5) nu else C i),(fun i=>if i=5 then true else L i),M,G,P⟩
    obtain⟨c,o,hlk⟩:=Cz ⟨F,D,H,A,E,N,I,J,K,B,(fun i=>if i=5 then max (C 5) nu else C i),(fun i=>if i=5 then true else L i),M,G,P⟩
    rw[hlk] at hlk0
    have hol:o.length≤M.length+D:=hlk0
    have hL:=Cv ⟨F,D,H,A,E,N,I,J,K,B,(fun i=>if i=5 then max (C 5) nu else C i),(fun i=>if i=5 then true else L i),M,G,P⟩ b e h2 h3 (by show M.length≤_;omega)
    rw[hlk] at hL⊢
    refine dg (.seen 0 _ _ rfl (.close (oAs ⟨F,D,H,A,E,N,I,J,K,B,(fun i=>if i=5 then max (C 5) nu else C i),(fun i=>if i=5 then true else L i),M,G,P⟩ b e) [] (by exact RL5) ⟨_,rfl⟩ rfl (.done (.same (hL.cal fun q rs hq=>?_)))))
    obtain⟨rfl,rfl⟩:=hq
    refine .opn 0 _ _ _ rfl rfl rfl (.done ?_)
    refine df (fun hn2=>?_) fun hn2=>?_
    ·have hn2:nu < ((E.map enE).length:Int):=hn2
     rw[hlen] at hn2
     dsimp only
     rw[db hn2]
     refine⟨⟨by omega,by rw[hlen];omega,bp _⟩,?_⟩
     have hS:=Hp ⟨F,D,H,A,E,c,I,J,K,B,(fun i=>if i=5 then max (C 5) nu else C i),(fun i=>if i=5 then true else L i),o,G,P⟩ (cl (oLs P e)) 5 ⟨4,H,0,nu,E.drop nu.toNat⟩ (.oag [gI 4,gI H,gI 0,gI nu,.osv 1 3 nu.toNat (A4 E).toNat]) (Lm _ _ _ _ (Do _ _)) (by rw[ba];omega) (by show o.length≤_;omega)
     obtain⟨o2,hs2⟩:=(A8 ⟨F,D,H,A,E,c,I,J,K,B,(fun i=>if i=5 then max (C 5) nu else C i),(fun i=>if i=5 then true else L i),o,G,P⟩ 5 ⟨4,H,0,nu,E.drop nu.toNat⟩).to
     rw[hs2] at hS⊢
     refine dh (hS.cal fun q rs hq=>?_)
     obtain⟨rfl,rfl⟩:=hq
     exact .inl (A1 (oAs ⟨F,D,H,A,E,c,I,J,K,B,(fun i=>if i=5 then max (C 5) nu else C i),(fun i=>if i=5 then true else L i),o2,G,P⟩ b e) [(1,6),(2,7),(3,10),(4,9)] (by exact RL5) rfl ⟨_,rfl⟩ rfl rfl ⟨rfl,rfl⟩)
    ·have hn2:¬nu < ((E.map enE).length:Int):=hn2
     rw[hlen] at hn2
     dsimp only
     rw[da hn2]
     exact .inl (A1 (oAs ⟨F,D,H,A,E,c,I,J,K,B,(fun i=>if i=5 then max (C 5) nu else C i),(fun i=>if i=5 then true else L i),o,G,P⟩ b e) [(1,6),(2,7),(3,8),(4,9)] (by exact RL5) rfl ⟨_,rfl⟩ rfl rfl ⟨rfl,rfl⟩)
   ·refine⟨⟨by decide,by decide⟩,⟨by decide,by decide⟩,⟨by decide,by decide⟩,?_⟩
    have hlk0:=Es ⟨F,D,H,A,E,N,I,J,K,B,(fun i=>if i=6 then max (C 6) nu else C i),(fun i=>if i=6 then true else L i),M,G,P⟩
    obtain⟨c,o,hlk⟩:=Cz ⟨F,D,H,A,E,N,I,J,K,B,(fun i=>if i=6 then max (C 6) nu else C i),(fun i=>if i=6 then true else L i),M,G,P⟩
    rw[hlk] at hlk0
    have hol:o.length≤M.length+D:=hlk0
    have hL:=Cv ⟨F,D,H,A,E,N,I,J,K,B,(fun i=>if i=6 then max (C 6) nu else C i),(fun i=>if i=6 then true else L i),M,G,P⟩ b e h2 h3 (by show M.length≤_;omega)
    rw[hlk] at hL⊢
    refine dg (.seen 0 _ _ rfl (.close (oAs ⟨F,D,H,A,E,N,I,J,K,B,(fun i=>if i=6 then max (C 6) nu else C i),(fun i=>if i=6 then true else L i),M,G,P⟩ b e) [] (by exact RL5) ⟨_,rfl⟩ rfl (.done (.same (hL.cal fun q rs hq=>?_)))))
    obtain⟨rfl,rfl⟩:=hq
    refine .opn 0 _ _ _ rfl rfl rfl (.done ?_)
    refine df (fun hn2=>?_) fun hn2=>?_
    ·have hn2:nu < ((E.map enE).length:Int):=hn2
     rw[hlen] at hn2
     dsimp only
     rw[db hn2]
     refine⟨⟨by omega,by rw[hlen];omega,bp _⟩,?_⟩
     have hS:=Hp ⟨F,D,H,A,E,c,I,J,K,B,(fun i=>if i=6 then max (C 6) nu else C i),(fun i=>if i=6 then true else L i),o,G,P⟩ (cl (oLs P e)) 6 ⟨4,H,0,nu,E.drop nu.toNat⟩ (.oag [gI 4,gI H,gI 0,gI nu,.osv 1 3 nu.toNat (A4 E).toNat]) (Lm _ _ _ _ (Do _ _)) (by rw[ba];omega) (by show o.length≤_;omega)
     obtain⟨o2,hs2⟩:=(A8 ⟨F,D,H,A,E,c,I,J,K,B,(fun i=>if i=6 then max (C 6) nu else C i),(fun i=>if i=6 then true else L i),o,G,P⟩ 6 ⟨4,H,0,nu,E.drop nu.toNat⟩).to
     rw[hs2] at hS⊢
     refine dh (hS.cal fun q rs hq=>?_)
     obtain⟨rfl,rfl⟩:=hq
     exact .inl (A1 (oAs ⟨F,D,H,A,E,c,I,J,K,B,(fun i=>if i=6 then max (C 6) nu else C i),(fun i=>if i=6 then true else L i),o2,G,P⟩ b e) [(1,6),(2,7),(3,10),(4,9)] (by exact RL5) rfl ⟨_,rfl⟩ rfl rfl ⟨rfl,rfl⟩)
    ·have hn2:¬nu < ((E.map enE).length:Int):=hn2
     rw[hlen] at hn2
     dsimp only
     rw[da hn2]
     exact .inl (A1 (oAs ⟨F,D,H,A,E,c,I,J,K,B,(fun i=>if i=6 then max (C 6) nu else C i),(fun i=>if i=6 then true else L i),o,G,P⟩ b e) [(1,6),(2,7),(3,8),(4,9)] (by exact RL5) rfl ⟨_,rfl⟩ rfl rfl ⟨rfl,rfl⟩)
  ·have hn:¬nu≤((E.map enE).length:Int):=hn
   rw[hlen] at hn
   rw[ne5 (fun h=>hn h.2.2)]
   exact .inl (A1 (oAs ⟨F,D,H,A,E,N,I,J,K,B,C,L,M,G,P⟩ b e) [] (by exact RL5) rfl ⟨_,rfl⟩ rfl rfl ⟨rfl,rfl⟩)
 ·rw[ne5 (fun h=>hk5 h.1)]
  exact .inl (A1 (oAs ⟨F,D,H,A,E,N,I,J,K,B,C,L,M,G,P⟩ b e) [] (by exact RL5) rfl ⟨_,rfl⟩ rfl rfl ⟨rfl,rfl⟩)
set_option maxHeartbeats 4000000 in
theorem Z1t (k:Nat)(n:PN)(b e f:Nat)(hf:f < 7)(m:RM)(h:WNk k n)(hsh:n.std=false∧n.normal < n.pmd)(hm:okM m=true):FnO Tryz.prog 71 [.ptr 0 0,gI f,.agg (enM m)] (cB n b e) fun g rs=>g=.tup []∧∃s,rs=cS s (B4 n f m) b e∧ShN s (B4 n f m):=by
 obtain⟨D,E,H,A,K,L,I,J,C,B,M,N,G,F,P⟩:=n
 obtain⟨kd,vw0,nm,nu,l⟩:=m
 obtain⟨h1,hkk,h2,h3,h4,h5,h6,h7,hnp,hst⟩:=h
 obtain⟨hm1,-,hml,-⟩:=Aw hm
 dsimp only at h1 h2 h3 h4 h5 h6 h7 hsh hml
 obtain⟨hs,hnv⟩:=hsh
 have hsB:ShN false ⟨D,E,H,A,K,L,I,J,C,B,M,N,G,F,P⟩:=⟨fun _=>⟨hs,hnv⟩,fun h=>by cases h⟩
 have no:(I=false∨H≠vw0)→B4 ⟨D,E,H,A,K,L,I,J,C,B,M,N,G,F,P⟩ f ⟨kd,vw0,nm,nu,l⟩=⟨D,E,H,A,K,L,I,J,C,B,M,N,G,F,P⟩:=fun hh=>by unfold B4;rw[db hh]
 refine Ba Tryz.func71 (A5 (O:=oBs ⟨D,E,H,A,K,L,I,J,C,B,M,N,G,F,P⟩ b e) (n0:=5) rfl) ?_
 refine dj (fun hl=>?_) fun hl=>?_
 ·rw[no (.inl (by simpa using hl))]
  exact .inl (A1 (oBs ⟨D,E,H,A,K,L,I,J,C,B,M,N,G,F,P⟩ b e) [] (by exact RL5) rfl ⟨_,rfl⟩ rfl rfl ⟨rfl,false,rfl,hsB⟩)
 have hl:I=true:=by simpa using hl
 refine di (fun hv=>?_) fun hv=>?_
 ·rw[no (.inr hv)]
  exact .inl (A1 (oBs ⟨D,E,H,A,K,L,I,J,C,B,M,N,G,F,P⟩ b e) [] (by exact RL5) rfl ⟨_,rfl⟩ rfl rfl ⟨rfl,false,rfl,hsB⟩)
 have hv:H=vw0:=hv
 have h0:¬(I=false∨H≠vw0):=by
  rw[hl]
  rintro(h | h)
  ·cases h
  ·exact h hv
 refine de (fun(hk2:kd=2)=>?_) fun(hk2:kd≠2)=>?_
 ·refine dj (fun _=>?_) fun h=>dc hs (by simpa using h)
  have eI:B4 ⟨D,E,H,A,K,L,I,J,C,B,M,N,G,F,P⟩ f ⟨kd,vw0,nm,nu,l⟩=Cb (if(C f).is=true then⟨D,E,H,A,K,L,I,J,C,B,M,N,G,F,P⟩ else(⟨D,E,H,A,K,L,I,J,(fun i=>if i=f then⟨true,nm,l⟩ else C i),B,M,N,G,F,P⟩:PN)):=by
   unfold B4
   rw[da h0]
   dsimp only
   rw[db ⟨hk2,hs⟩]
  rw[eI]
  have hf7:f=0∨f=1∨f=2∨f=3∨f=4∨f=5∨f=6:=by omega
  rcases hf7 with rfl | rfl | rfl | rfl | rfl | rfl | rfl
  ·refine⟨⟨by decide,by decide⟩,?_⟩
   refine dj (fun hj=>?_) fun hj=>?_
   ·have hj:(C 0).is=false:=by simpa using hj
    rw[da (by rw[hj];decide)]
    have hjj:∀i,i < 7→((fun i=>if i=0 then(⟨true,nm,l⟩:RJ) else C i) i).l.length≤150:=fun i hi=>by
     dsimp only
     split
     ·exact hml
     ·exact h7 i hi
    refine⟨⟨by decide,by decide⟩,?_⟩
    refine dg (.seen 0 _ _ rfl (.close (oBs ⟨D,E,H,A,K,L,I,J,(fun i=>if i=0 then⟨true,nm,l⟩ else C i),B,M,N,G,F,P⟩ b e) [] (by exact RL5) ⟨_,rfl⟩ rfl (.done (.same ((B1 ⟨D,E,H,A,K,L,I,J,(fun i=>if i=0 then⟨true,nm,l⟩ else C i),B,M,N,G,F,P⟩ b e h2 h3 h4 (h1.wk (by omega)) hjj (by show G.length≤_;omega) ⟨hs,hnv⟩).cal fun q rs hq=>?_)))))
    obtain⟨rfl,s,rfl,hq⟩:=hq
    refine .done ?_
    exact .inl (A7 rfl rfl ⟨rfl,s,rfl,hq⟩)
   ·have hj:(C 0).is=true:=by simpa using hj
    rw[db hj]
    refine dg (.close (oBs ⟨D,E,H,A,K,L,I,J,C,B,M,N,G,F,P⟩ b e) [] (by exact RL5) ⟨_,rfl⟩ rfl (.done (.same ((B1 ⟨D,E,H,A,K,L,I,J,C,B,M,N,G,F,P⟩ b e h2 h3 h4 (h1.wk (by omega)) h7 (by show G.length≤_;omega) ⟨hs,hnv⟩).cal fun q rs hq=>?_))))
    obtain⟨rfl,s,rfl,hq⟩:=hq
    refine .done ?_
    exact .inl (A7 rfl rfl ⟨rfl,s,rfl,hq⟩)
  ·refine⟨⟨by decide,by decide⟩,?_⟩
   refine dj (fun hj=>?_) fun hj=>?_
   ·have hj:(C 1).is=false:=by simpa using hj
    rw[da (by rw[hj];decide)]
    have hjj:∀i,i < 7→((fun i=>if i=1 then(⟨true,nm,l⟩:RJ) else C i) i).l.length≤150:=fun i hi=>by
     dsimp only
     split
     ·exact hml
     ·exact h7 i hi
    refine⟨⟨by decide,by decide⟩,?_⟩
    refine dg (.seen 0 _ _ rfl (.close (oBs ⟨D,E,H,A,K,L,I,J,(fun i=>if i=1 then⟨true,nm,l⟩ else C i),B,M,N,G,F,P⟩ b e) [] (by exact RL5) ⟨_,rfl⟩ rfl (.done (.same ((B1 ⟨D,E,H,A,K,L,I,J,(fun i=>if i=1 then⟨true,nm,l⟩ else C i),B,M,N,G,F,P⟩ b e h2 h3 h4 (h1.wk (by omega)) hjj (by show G.length≤_;omega) ⟨hs,hnv⟩).cal fun q rs hq=>?_)))))
    obtain⟨rfl,s,rfl,hq⟩:=hq
    refine .done ?_
    exact .inl (A7 rfl rfl ⟨rfl,s,rfl,hq⟩)
   ·have hj:(C 1).is=true:=by simpa using hj
    rw[db hj]
    refine dg (.close (oBs ⟨D,E,H,A,K,L,I,J,C,B,M,N,G,F,P⟩ b e) [] (by exact RL5) ⟨_,rfl⟩ rfl (.done (.same ((B1 ⟨D,E,H,A,K,L,I,J,C,B,M,N,G,F,P⟩ b e h2 h3 h4 (h1.wk (by omega)) h7 (by show G.length≤_;omega) ⟨hs,hnv⟩).cal fun q rs hq=>?_))))
    obtain⟨rfl,s,rfl,hq⟩:=hq
    refine .done ?_
    exact .inl (A7 rfl rfl ⟨rfl,s,rfl,hq⟩)
  ·refine⟨⟨by decide,by decide⟩,?_⟩
   refine dj (fun hj=>?_) fun hj=>?_
   ·have hj:(C 2).is=false:=by simpa using hj
    rw[da (by rw[hj];decide)]
    have hjj:∀i,i < 7→((fun i=>if i=2 then(⟨true,nm,l⟩:RJ) else C i) i).l.length≤150:=fun i hi=>by
     dsimp only
     split
     ·exact hml
     ·exact h7 i hi
    refine⟨⟨by decide,by decide⟩,?_⟩
    refine dg (.seen 0 _ _ rfl (.close (oBs ⟨D,E,H,A,K,L,I,J,(fun i=>if i=2 then⟨true,nm,l⟩ else C i),B,M,N,G,F,P⟩ b e) [] (by exact RL5) ⟨_,rfl⟩ rfl (.done (.same ((B1 ⟨D,E,H,A,K,L,I,J,(fun i=>if i=2 then⟨true,nm,l⟩ else C i),B,M,N,G,F,P⟩ b e h2 h3 h4 (h1.wk (by omega)) hjj (by show G.length≤_;omega) ⟨hs,hnv⟩).cal fun q rs hq=>?_)))))
    obtain⟨rfl,s,rfl,hq⟩:=hq
    refine .done ?_
    exact .inl (A7 rfl rfl ⟨rfl,s,rfl,hq⟩)
   ·have hj:(C 2).is=true:=by simpa using hj
    rw[db hj]
    refine dg (.close (oBs ⟨D,E,H,A,K,L,I,J,C,B,M,N,G,F,P⟩ b e) [] (by exact RL5) ⟨_,rfl⟩ rfl (.done (.same ((B1 ⟨D,E,H,A,K,L,I,J,C,B,M,N,G,F,P⟩ b e h2 h3 h4 (h1.wk (by omega)) h7 (by show G.length≤_;omega) ⟨hs,hnv⟩).cal fun q rs hq=>?_))))
    obtain⟨rfl,s,rfl,hq⟩:=hq
    refine .done ?_
    exact .inl (A7 rfl rfl ⟨rfl,s,rfl,hq⟩)
  ·refine⟨⟨by decide,by decide⟩,?_⟩
   refine dj (fun hj=>?_) fun hj=>?_
   ·have hj:(C 3).is=false:=by simpa using hj
    rw[da (by rw[hj];decide)]
    have hjj:∀i,i < 7→((fun i=>if i=3 then(⟨true,nm,l⟩:RJ) else C i) i).l.length≤150:=fun i hi=>by
     dsimp only
     split
     ·exact hml
     ·exact h7 i hi
    refine⟨⟨by decide,by decide⟩,?_⟩
    refine dg (.seen 0 _ _ rfl (.close (oBs ⟨D,E,H,A,K,L,I,J,(fun i=>if i=3 then⟨true,nm,l⟩ else C i),B,M,N,G,F,P⟩ b e) [] (by exact RL5) ⟨_,rfl⟩ rfl (.done (.same ((B1 ⟨D,E,H,A,K,L,I,J,(fun i=>if i=3 then⟨true,nm,l⟩ else C i),B,M,N,G,F,P⟩ b e h2 h3 h4 (h1.wk (by omega)) hjj (by show G.length≤_;omega) ⟨hs,hnv⟩).cal fun q rs hq=>?_)))))
    obtain⟨rfl,s,rfl,hq⟩:=hq
    refine .done ?_
    exact .inl (A7 rfl rfl ⟨rfl,s,rfl,hq⟩)
   ·have hj:(C 3).is=true:=by simpa using hj
    rw[db hj]
    refine dg (.close (oBs ⟨D,E,H,A,K,L,I,J,C,B,M,N,G,F,P⟩ b e) [] (by exact RL5) ⟨_,rfl⟩ rfl (.done (.same ((B1 ⟨D,E,H,A,K,L,I,J,C,B,M,N,G,F,P⟩ b e h2 h3 h4 (h1.wk (by omega)) h7 (by show G.length≤_;omega) ⟨hs,hnv⟩).cal fun q rs hq=>?_))))
    obtain⟨rfl,s,rfl,hq⟩:=hq
    refine .done ?_
    exact .inl (A7 rfl rfl ⟨rfl,s,rfl,hq⟩)
  ·refine⟨⟨by decide,by decide⟩,?_⟩
   refine dj (fun hj=>?_) fun hj=>?_
   ·have hj:(C 4).is=false:=by simpa using hj
    rw[da (by rw[hj];decide)]
    have hjj:∀i,i < 7→((fun i=>if i=4 then(⟨true,nm,l⟩:RJ) else C i) i).l.length≤150:=fun i hi=>by
     dsimp only
     split
     ·exact hml
     ·exact h7 i hi
    refine⟨⟨by decide,by decide⟩,?_⟩
    refine dg (.seen 0 _ _ rfl (.close (oBs ⟨D,E,H,A,K,L,I,J,(fun i=>if i=4 then⟨true,nm,l⟩ else C i),B,M,N,G,F,P⟩ b e) [] (by exact RL5) ⟨_,rfl⟩ rfl (.done (.same ((B1 ⟨D,E,H,A,K,L,I,J,(fun i=>if i=4 then⟨true,nm,l⟩ else C i),B,M,N,G,F,P⟩ b e h2 h3 h4 (h1.wk (by omega)) hjj (by show G.length≤_;omega) ⟨hs,hnv⟩).cal fun q rs hq=>?_)))))
    obtain⟨rfl,s,rfl,hq⟩:=hq
    refine .done ?_
    exact .inl (A7 rfl rfl ⟨rfl,s,rfl,hq⟩)
   ·have hj:(C 4).is=true:=by simpa using hj
    rw[db hj]
    refine dg (.close (oBs ⟨D,E,H,A,K,L,I,J,C,B,M,N,G,F,P⟩ b e) [] (by exact RL5) ⟨_,rfl⟩ rfl (.done (.same ((B1 ⟨D,E,H,A,K,L,I,J,C,B,M,N,G,F,P⟩ b e h2 h3 h4 (h1.wk (by omega)) h7 (by show G.length≤_;omega) ⟨hs,hnv⟩).cal fun q rs hq=>?_))))
    obtain⟨rfl,s,rfl,hq⟩:=hq
    refine .done ?_
    exact .inl (A7 rfl rfl ⟨rfl,s,rfl,hq⟩)
  ·refine⟨⟨by decide,by decide⟩,?_⟩
   refine dj (fun hj=>?_) fun hj=>?_
   ·have hj:(C 5).is=false:=by simpa using hj
    rw[da (by rw[hj];decide)]
    have hjj:∀i,i < 7→((fun i=>if i=5 then(⟨true,nm,l⟩:RJ) else C i) i).l.length≤150:=fun i hi=>by
     dsimp only
     split
     ·exact hml
     ·exact h7 i hi
    refine⟨⟨by decide,by decide⟩,?_⟩
    refine dg (.seen 0 _ _ rfl (.close (oBs ⟨D,E,H,A,K,L,I,J,(fun i=>if i=5 then⟨true,nm,l⟩ else C i),B,M,N,G,F,P⟩ b e) [] (by exact RL5) ⟨_,rfl⟩ rfl (.done (.same ((B1 ⟨D,E,H,A,K,L,I,J,(fun i=>if i=5 then⟨true,nm,l⟩ else C i),B,M,N,G,F,P⟩ b e h2 h3 h4 (h1.wk (by omega)) hjj (by show G.length≤_;omega) ⟨hs,hnv⟩).cal fun q rs hq=>?_)))))
    obtain⟨rfl,s,rfl,hq⟩:=hq
    refine .done ?_
    exact .inl (A7 rfl rfl ⟨rfl,s,rfl,hq⟩)
   ·have hj:(C 5).is=true:=by simpa using hj
    rw[db hj]
    refine dg (.close (oBs ⟨D,E,H,A,K,L,I,J,C,B,M,N,G,F,P⟩ b e) [] (by exact RL5) ⟨_,rfl⟩ rfl (.done (.same ((B1 ⟨D,E,H,A,K,L,I,J,C,B,M,N,G,F,P⟩ b e h2 h3 h4 (h1.wk (by omega)) h7 (by show G.length≤_;omega) ⟨hs,hnv⟩).cal fun q rs hq=>?_))))
    obtain⟨rfl,s,rfl,hq⟩:=hq
    refine .done ?_
    exact .inl (A7 rfl rfl ⟨rfl,s,rfl,hq⟩)
  ·refine⟨⟨by decide,by decide⟩,?_⟩
   refine dj (fun hj=>?_) fun hj=>?_
   ·have hj:(C 6).is=false:=by simpa using hj
    rw[da (by rw[hj];decide)]
    have hjj:∀i,i < 7→((fun i=>if i=6 then(⟨true,nm,l⟩:RJ) else C i) i).l.length≤150:=fun i hi=>by
     dsimp only
     split
     ·exact hml
     ·exact h7 i hi
    refine⟨⟨by decide,by decide⟩,?_⟩
    refine dg (.seen 0 _ _ rfl (.close (oBs ⟨D,E,H,A,K,L,I,J,(fun i=>if i=6 then⟨true,nm,l⟩ else C i),B,M,N,G,F,P⟩ b e) [] (by exact RL5) ⟨_,rfl⟩ rfl (.done (.same ((B1 ⟨D,E,H,A,K,L,I,J,(fun i=>if i=6 then⟨true,nm,l⟩ else C i),B,M,N,G,F,P⟩ b e h2 h3 h4 (h1.wk (by omega)) hjj (by show G.length≤_;omega) ⟨hs,hnv⟩).cal fun q rs hq=>?_)))))
    obtain⟨rfl,s,rfl,hq⟩:=hq
    refine .done ?_
    exact .inl (A7 rfl rfl ⟨rfl,s,rfl,hq⟩)
   ·have hj:(C 6).is=true:=by simpa using hj
    rw[db hj]
    refine dg (.close (oBs ⟨D,E,H,A,K,L,I,J,C,B,M,N,G,F,P⟩ b e) [] (by exact RL5) ⟨_,rfl⟩ rfl (.done (.same ((B1 ⟨D,E,H,A,K,L,I,J,C,B,M,N,G,F,P⟩ b e h2 h3 h4 (h1.wk (by omega)) h7 (by show G.length≤_;omega) ⟨hs,hnv⟩).cal fun q rs hq=>?_))))
    obtain⟨rfl,s,rfl,hq⟩:=hq
    refine .done ?_
    exact .inl (A7 rfl rfl ⟨rfl,s,rfl,hq⟩)
 have ne:B4 ⟨D,E,H,A,K,L,I,J,C,B,M,N,G,F,P⟩ f ⟨kd,vw0,nm,nu,l⟩=⟨D,E,H,A,K,L,I,J,C,B,M,N,G,F,P⟩:=by
  unfold B4
  rw[da h0]
  dsimp only
  rw[da (fun h=>hk2 h.1),da (by rw[hs];rintro⟨-,h,-⟩;cases h)]
 rw[ne]
 refine de (fun(hk5:kd=5)=>?_) fun(hk5:kd≠5)=>?_
 ·refine dj (fun h=>dc hs (by have h:J=true:=h;rw[h];decide)) fun _=>?_
  exact .inl (A1 (oBs ⟨D,E,H,A,K,L,I,J,C,B,M,N,G,F,P⟩ b e) [] (by exact RL5) rfl ⟨_,rfl⟩ rfl rfl ⟨rfl,false,rfl,hsB⟩)
 ·exact .inl (A1 (oBs ⟨D,E,H,A,K,L,I,J,C,B,M,N,G,F,P⟩ b e) [] (by exact RL5) rfl ⟨_,rfl⟩ rfl rfl ⟨rfl,false,rfl,hsB⟩)
end Go.Proofs.YtihfaocdpmmooaaGreat

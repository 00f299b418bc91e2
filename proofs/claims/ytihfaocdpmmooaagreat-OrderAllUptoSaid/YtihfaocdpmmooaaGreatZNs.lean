
import Derived.Test.YtihfaocdpmmooaaGreatNMq
import Derived.Test.YtihfaocdpmmooaaGreatNMp
namespace Go.Proofs.YtihfaocdpmmooaaGreat
open Go.RowKit
set_option maxRecDepth 100000
theorem Gp:∀(l:List REnt) (v:Int) (n:PN),∃log st out dead,(Ao l v n).1=⟨n.self,n.many,n.pmd,n.normal,log,n.cmt,n.lds,n.std,n.jns,n.first,n.aks,n.hrd,out,dead,st⟩∧out.length≤n.out.length
 | [],v,n=>⟨n.log,n.st,n.out,n.dead,rfl,af _⟩
 | e::l,v,n=>by
  unfold Ao
  split
  ·exact⟨n.log,n.st,n.out,n.dead,rfl,af _⟩
  ·split
   ·exact Gp l v n
   ·obtain⟨st',out',dead',eA,hol⟩:=Cm {n with log:=n.log++[e]} (Cp 3 e.v e.n e.b)
    have eA:Kf n e=_:=eA
    split
    ·obtain⟨log2,st2,out2,dead2,e2,h2⟩:=Gp l e.v (Kf n e)
     rw[eA] at e2 h2
     rw[eA]
     exact⟨log2,st2,out2,dead2,e2,b9 h2 hol⟩
    ·exact⟨_,st',out',dead',eA,hol⟩
set_option maxHeartbeats 4000000 in
theorem Ws (k:Nat)(n:PN)(b e f:Nat)(m:RM)(h:WNk k n)(hsh:n.lds=true→n.std=true)(hm:okM m=true)(hk:m.kind=1):FnO Tryz.prog 73 [.ptr 0 0,gI f,.agg (enM m)] (cA n b e) fun g rs=>g=.tup []∧∃s,rs=cS s (A6 n f m) b e∧(n.dead=false→ShN s (A6 n f m)):=by
 obtain⟨C,D,G,A,E,H,L,N,I,B,J,K,M,F,P⟩:=n
 obtain⟨kd,vw0,nm,nu,l⟩:=m
 have hk:kd=1:=hk
 subst hk
 obtain⟨h1,hkk,h2,h3,h4,h5,h6,h7,hnp,hst⟩:=h
 obtain⟨hm1,-,hml,hme⟩:=Aw hm
 dsimp only at h1 h2 h3 h4 h5 h6 h7 hsh hml hnp hme
 have hsS:ShN true ⟨C,D,G,A,E,H,L,N,I,B,J,K,M,F,P⟩:=⟨fun h=>(by cases h),fun _ _=>hsh⟩
 have e1:vw0 > G→Jw ⟨C,D,G,A,E,H,L,N,I,B,J,K,M,F,P⟩ vw0=true→A6 ⟨C,D,G,A,E,H,L,N,I,B,J,K,M,F,P⟩ f ⟨1,vw0,nm,nu,l⟩=Ay (Fl ⟨C,D,G,A,E,H,L,N,I,B,J,K,M,F,P⟩ vw0) f ⟨2,vw0,A,0,E⟩:=fun a b=>by unfold A6;rw[db rfl,db a,db b]
 have e2:vw0 > G→Jw ⟨C,D,G,A,E,H,L,N,I,B,J,K,M,F,P⟩ vw0=false→A6 ⟨C,D,G,A,E,H,L,N,I,B,J,K,M,F,P⟩ f ⟨1,vw0,nm,nu,l⟩=Fl ⟨C,D,G,A,E,H,L,N,I,B,J,K,M,F,P⟩ vw0:=fun a b=>by unfold A6;rw[db rfl,db a,da (by rw[b];decide)]
 have e3:¬vw0 > G→(vw0=G∧vw0 > A∧L=false)→A6 ⟨C,D,G,A,E,H,L,N,I,B,J,K,M,F,P⟩ f ⟨1,vw0,nm,nu,l⟩=Ay ⟨C,D,G,A,E,H,L,N,I,B,J,K,M,F,P⟩ f ⟨2,vw0,A,0,E⟩:=fun a b=>by unfold A6;rw[db rfl,da a,db b]
 have e4:¬vw0 > G→¬(vw0=G∧vw0 > A∧L=false)→A6 ⟨C,D,G,A,E,H,L,N,I,B,J,K,M,F,P⟩ f ⟨1,vw0,nm,nu,l⟩=⟨C,D,G,A,E,H,L,N,I,B,J,K,M,F,P⟩:=fun a b=>by unfold A6;rw[db rfl,da a,da b]
 obtain⟨st',out',dead',eA,hol⟩:=Cm ⟨C,D,vw0,A,E,H,false,false,I,B,J,K,M,F,P⟩ (Cp 1 vw0 0 eS)
 have eA:Fl ⟨C,D,G,A,E,H,L,N,I,B,J,K,M,F,P⟩ vw0=⟨C,D,vw0,A,E,H,false,false,I,B,J,K,out',dead',st'⟩:=eA
 dsimp only at hol
 refine Ba Tryz.func73 (A5 (O:=oAs ⟨C,D,G,A,E,H,L,N,I,B,J,K,M,F,P⟩ b e) (n0:=5) rfl) ?_
 refine de (fun(hf1:G=vw0)=>de (fun(hf2:A=vw0)=>?_) fun(hf2:A≠vw0)=>?_) fun(hf1:G≠vw0)=>?_
 all_goals
  refine de (fun _=>?_) fun h=>dc rfl h
  refine df (fun(hv:vw0 > G)=>?_) fun(hv:¬vw0 > G)=>?_
  ·refine dg (.close (oAs ⟨C,D,G,A,E,H,L,N,I,B,J,K,M,F,P⟩ b e) [] (by exact RL5) ⟨_,rfl⟩ rfl (.done (.same ((Z8s ⟨C,D,G,A,E,H,L,N,I,B,J,K,M,F,P⟩ b e (h1.wk (by omega)) (by show E.length≤_;omega) vw0).cal fun q rs hq=>?_))))
   obtain⟨rfl,rfl⟩:=hq
   cases ha:Jw ⟨C,D,G,A,E,H,L,N,I,B,J,K,M,F,P⟩ vw0 with
   | true =>
    rw[e1 hv ha,eA]
    refine .opn 0 _ _ _ rfl rfl rfl (.done ?_)
    refine dj (fun h=>dc h (by decide)) fun _=>?_
    refine de (fun _=>?_) fun h=>dc rfl h
    refine df (fun _=>?_) fun h=>dc (show vw0 > A by omega) h
    refine dj (fun _=>?_) fun h=>(by cases h)
    have hS:=Uc ⟨C,D,vw0,A,E,H,false,false,I,B,J,K,out',dead',st'⟩ (cl (oLs st' e)) f ⟨2,vw0,A,0,E⟩ (by show E.length≤_;omega) (by show out'.length≤_;omega)
    obtain⟨o,hs⟩:=(A8 ⟨C,D,vw0,A,E,H,false,false,I,B,J,K,out',dead',st'⟩ f ⟨2,vw0,A,0,E⟩).to
    rw[hs] at hS⊢
    refine hS.cal fun q rs hq=>?_
    obtain⟨rfl,rfl⟩:=hq
    exact .inl (A1 (oBs ⟨C,D,vw0,A,E,H,false,false,I,B,J,K,o,dead',st'⟩ b e) [(1,6),(2,7),(3,10),(4,9)] (by exact RL5) rfl ⟨_,rfl⟩ rfl rfl ⟨rfl,false,rfl,fun _=>⟨fun _=>⟨rfl,by show A < vw0;omega⟩,fun h=>(by cases h)⟩⟩)
   | false =>
    rw[e2 hv ha,eA]
    refine .done ?_
    refine dj (fun _=>?_) fun h=>dc h (by decide)
    exact .inl (A7 rfl rfl ⟨rfl,false,rfl,fun _=>⟨fun _=>⟨rfl,by show A < vw0;omega⟩,fun h=>(by cases h)⟩⟩)
  refine de (fun(hw:vw0=G)=>?_) fun(hw:vw0≠G)=>?_
  ·refine df (fun(hx:vw0 > A)=>?_) fun(hx:¬vw0 > A)=>?_
   ·refine dj (fun hl=>?_) fun hl=>?_
    ·have hl:L=false:=by simpa using hl
     rw[e3 hv ⟨hw,hx,hl⟩]
     have hS:=Hp ⟨C,D,G,A,E,H,L,N,I,B,J,K,M,F,P⟩ (cl (oLs P e)) f ⟨2,vw0,A,0,E⟩ (.oag [gI 2,gI vw0,gI A,gI 0,.osl 1]) rfl (by show E.length≤_;omega) (by show M.length≤_;omega)
     obtain⟨o,hs⟩:=(A8 ⟨C,D,G,A,E,H,L,N,I,B,J,K,M,F,P⟩ f ⟨2,vw0,A,0,E⟩).to
     rw[hs] at hS⊢
     refine dh (hS.cal fun q rs hq=>?_)
     obtain⟨rfl,rfl⟩:=hq
     exact .inl (A1 (oAs ⟨C,D,G,A,E,H,L,N,I,B,J,K,o,F,P⟩ b e) [(3,6)] (by exact RL5) rfl ⟨_,rfl⟩ rfl rfl ⟨rfl,true,rfl,fun _=>⟨fun h=>(by cases h),fun _ _=>hsh⟩⟩)
    ·rw[e4 hv (fun h=>by rw[h.2.2] at hl;cases hl)]
     exact .inl (A1 (oAs ⟨C,D,G,A,E,H,L,N,I,B,J,K,M,F,P⟩ b e) [] (by exact RL5) rfl ⟨_,rfl⟩ rfl rfl ⟨rfl,true,rfl,fun _=>hsS⟩)
   ·rw[e4 hv (fun h=>hx h.2.1)]
    exact .inl (A1 (oAs ⟨C,D,G,A,E,H,L,N,I,B,J,K,M,F,P⟩ b e) [] (by exact RL5) rfl ⟨_,rfl⟩ rfl rfl ⟨rfl,true,rfl,fun _=>hsS⟩)
  rw[e4 hv (fun h=>hw h.1)]
  exact .inl (A1 (oAs ⟨C,D,G,A,E,H,L,N,I,B,J,K,M,F,P⟩ b e) [] (by exact RL5) rfl ⟨_,rfl⟩ rfl rfl ⟨rfl,true,rfl,fun _=>hsS⟩)
set_option maxHeartbeats 4000000 in
theorem Y0 (k:Nat)(n:PN)(b e f:Nat)(m:RM)(h:WNk k n)(hsh:n.std=false∧n.normal < n.pmd)(hm:okM m=true)(hk:m.kind=1):FnO Tryz.prog 73 [.ptr 0 0,gI f,.agg (enM m)] (cB n b e) fun g rs=>g=.tup []∧∃s,rs=cS s (A6 n f m) b e∧(n.dead=false→ShN s (A6 n f m)):=by
 obtain⟨C,D,G,A,E,H,L,N,I,B,J,K,M,F,P⟩:=n
 obtain⟨kd,vw0,nm,nu,l⟩:=m
 have hk:kd=1:=hk
 subst hk
 obtain⟨h1,hkk,h2,h3,h4,h5,h6,h7,hnp,hst⟩:=h
 obtain⟨hm1,-,hml,hme⟩:=Aw hm
 dsimp only at h1 h2 h3 h4 h5 h6 h7 hsh hml hnp hme
 have hsS:ShN false ⟨C,D,G,A,E,H,L,N,I,B,J,K,M,F,P⟩:=⟨fun _=>hsh,fun h=>(by cases h)⟩
 have e1:vw0 > G→Jw ⟨C,D,G,A,E,H,L,N,I,B,J,K,M,F,P⟩ vw0=true→A6 ⟨C,D,G,A,E,H,L,N,I,B,J,K,M,F,P⟩ f ⟨1,vw0,nm,nu,l⟩=Ay (Fl ⟨C,D,G,A,E,H,L,N,I,B,J,K,M,F,P⟩ vw0) f ⟨2,vw0,A,0,E⟩:=fun a b=>by unfold A6;rw[db rfl,db a,db b]
 have e2:vw0 > G→Jw ⟨C,D,G,A,E,H,L,N,I,B,J,K,M,F,P⟩ vw0=false→A6 ⟨C,D,G,A,E,H,L,N,I,B,J,K,M,F,P⟩ f ⟨1,vw0,nm,nu,l⟩=Fl ⟨C,D,G,A,E,H,L,N,I,B,J,K,M,F,P⟩ vw0:=fun a b=>by unfold A6;rw[db rfl,db a,da (by rw[b];decide)]
 have e3:¬vw0 > G→(vw0=G∧vw0 > A∧L=false)→A6 ⟨C,D,G,A,E,H,L,N,I,B,J,K,M,F,P⟩ f ⟨1,vw0,nm,nu,l⟩=Ay ⟨C,D,G,A,E,H,L,N,I,B,J,K,M,F,P⟩ f ⟨2,vw0,A,0,E⟩:=fun a b=>by unfold A6;rw[db rfl,da a,db b]
 have e4:¬vw0 > G→¬(vw0=G∧vw0 > A∧L=false)→A6 ⟨C,D,G,A,E,H,L,N,I,B,J,K,M,F,P⟩ f ⟨1,vw0,nm,nu,l⟩=⟨C,D,G,A,E,H,L,N,I,B,J,K,M,F,P⟩:=fun a b=>by unfold A6;rw[db rfl,da a,da b]
 obtain⟨st',out',dead',eA,hol⟩:=Cm ⟨C,D,vw0,A,E,H,false,false,I,B,J,K,M,F,P⟩ (Cp 1 vw0 0 eS)
 have eA:Fl ⟨C,D,G,A,E,H,L,N,I,B,J,K,M,F,P⟩ vw0=⟨C,D,vw0,A,E,H,false,false,I,B,J,K,out',dead',st'⟩:=eA
 dsimp only at hol
 refine Ba Tryz.func73 (A5 (O:=oBs ⟨C,D,G,A,E,H,L,N,I,B,J,K,M,F,P⟩ b e) (n0:=5) rfl) ?_
 refine de (fun(hf1:G=vw0)=>de (fun(hf2:A=vw0)=>?_) fun(hf2:A≠vw0)=>?_) fun(hf1:G≠vw0)=>?_
 all_goals
  refine de (fun _=>?_) fun h=>dc rfl h
  refine df (fun(hv:vw0 > G)=>?_) fun(hv:¬vw0 > G)=>?_
  ·refine dg (.close (oBs ⟨C,D,G,A,E,H,L,N,I,B,J,K,M,F,P⟩ b e) [] (by exact RL5) ⟨_,rfl⟩ rfl (.done (.same ((Z8r ⟨C,D,G,A,E,H,L,N,I,B,J,K,M,F,P⟩ b e (h1.wk (by omega)) (by show E.length≤_;omega) vw0).cal fun q rs hq=>?_))))
   obtain⟨rfl,rfl⟩:=hq
   cases ha:Jw ⟨C,D,G,A,E,H,L,N,I,B,J,K,M,F,P⟩ vw0 with
   | true =>
    rw[e1 hv ha,eA]
    refine .opn 0 _ _ _ rfl rfl rfl (.done ?_)
    refine dj (fun h=>dc h (by decide)) fun _=>?_
    refine de (fun _=>?_) fun h=>dc rfl h
    refine df (fun _=>?_) fun h=>dc (show vw0 > A by omega) h
    refine dj (fun _=>?_) fun h=>(by cases h)
    have hS:=Uc ⟨C,D,vw0,A,E,H,false,false,I,B,J,K,out',dead',st'⟩ (cl (oLs st' e)) f ⟨2,vw0,A,0,E⟩ (by show E.length≤_;omega) (by show out'.length≤_;omega)
    obtain⟨o,hs⟩:=(A8 ⟨C,D,vw0,A,E,H,false,false,I,B,J,K,out',dead',st'⟩ f ⟨2,vw0,A,0,E⟩).to
    rw[hs] at hS⊢
    refine hS.cal fun q rs hq=>?_
    obtain⟨rfl,rfl⟩:=hq
    exact .inl (A1 (oBs ⟨C,D,vw0,A,E,H,false,false,I,B,J,K,o,dead',st'⟩ b e) [(1,6),(2,7),(3,10),(4,9)] (by exact RL5) rfl ⟨_,rfl⟩ rfl rfl ⟨rfl,false,rfl,fun _=>⟨fun _=>⟨rfl,by show A < vw0;omega⟩,fun h=>(by cases h)⟩⟩)
   | false =>
    rw[e2 hv ha,eA]
    refine .done ?_
    refine dj (fun _=>?_) fun h=>dc h (by decide)
    exact .inl (A7 rfl rfl ⟨rfl,false,rfl,fun _=>⟨fun _=>⟨rfl,by show A < vw0;omega⟩,fun h=>(by cases h)⟩⟩)
  refine de (fun(hw:vw0=G)=>?_) fun(hw:vw0≠G)=>?_
  ·refine df (fun(hx:vw0 > A)=>?_) fun(hx:¬vw0 > A)=>?_
   ·refine dj (fun hl=>?_) fun hl=>?_
    ·have hl:L=false:=by simpa using hl
     rw[e3 hv ⟨hw,hx,hl⟩]
     have hS:=Uc ⟨C,D,G,A,E,H,L,N,I,B,J,K,M,F,P⟩ (cl (oLs P e)) f ⟨2,vw0,A,0,E⟩ (by show E.length≤_;omega) (by show M.length≤_;omega)
     obtain⟨o,hs⟩:=(A8 ⟨C,D,G,A,E,H,L,N,I,B,J,K,M,F,P⟩ f ⟨2,vw0,A,0,E⟩).to
     rw[hs] at hS⊢
     refine hS.cal fun q rs hq=>?_
     obtain⟨rfl,rfl⟩:=hq
     exact .inl (A1 (oBs ⟨C,D,G,A,E,H,L,N,I,B,J,K,o,F,P⟩ b e) [(3,6)] (by exact RL5) rfl ⟨_,rfl⟩ rfl rfl ⟨rfl,false,rfl,fun _=>⟨fun _=>hsh,fun h=>(by cases h)⟩⟩)
    ·rw[e4 hv (fun h=>by rw[h.2.2] at hl;cases hl)]
     exact .inl (A1 (oBs ⟨C,D,G,A,E,H,L,N,I,B,J,K,M,F,P⟩ b e) [] (by exact RL5) rfl ⟨_,rfl⟩ rfl rfl ⟨rfl,false,rfl,fun _=>hsS⟩)
   ·rw[e4 hv (fun h=>hx h.2.1)]
    exact .inl (A1 (oBs ⟨C,D,G,A,E,H,L,N,I,B,J,K,M,F,P⟩ b e) [] (by exact RL5) rfl ⟨_,rfl⟩ rfl rfl ⟨rfl,false,rfl,fun _=>hsS⟩)
  rw[e4 hv (fun h=>hw h.1)]
  exact .inl (A1 (oBs ⟨C,D,G,A,E,H,L,N,I,B,J,K,M,F,P⟩ b e) [] (by exact RL5) rfl ⟨_,rfl⟩ rfl rfl ⟨rfl,false,rfl,fun _=>hsS⟩)
set_option maxHeartbeats 4000000 in
theorem Xb (k:Nat)(n:PN)(b e f:Nat)(m:RM)(h:WNk k n)(hsh:n.lds=true→n.std=true)(hm:okM m=true)(hk:m.kind=3):FnO Tryz.prog 73 [.ptr 0 0,gI f,.agg (enM m)] (cA n b e) fun g rs=>g=.tup []∧∃s,rs=cS s (A6 n f m) b e∧(n.dead=false→ShN s (A6 n f m)):=by
 obtain⟨C,D,E,A,G,H,M,N,I,B,J,K,L,F,P⟩:=n
 obtain⟨kd,vw0,nm,nu,l⟩:=m
 have hk:kd=3:=hk
 subst hk
 obtain⟨h1,hkk,h2,h3,h4,h5,h6,h7,hnp,hst⟩:=h
 obtain⟨hm1,-,hml,hme⟩:=Aw hm
 dsimp only at h1 h2 h3 h4 h5 h6 h7 hsh hml hnp hme
 have hsS:ShN true ⟨C,D,E,A,G,H,M,N,I,B,J,K,L,F,P⟩:=⟨fun h=>(by cases h),fun _ _=>hsh⟩
 have e1:vw0 ≥ E→vw0 > A→Dw ⟨C,D,E,A,G,H,false,false,I,B,J,K,L,F,P⟩ vw0 l=true→A6 ⟨C,D,E,A,G,H,M,N,I,B,J,K,L,F,P⟩ f ⟨3,vw0,nm,nu,l⟩=Ay (Cy ⟨C,D,E,A,G,H,false,false,I,B,J,K,L,F,P⟩ vw0 l) f ⟨5,vw0,0,A4 l,[]⟩:=fun a b c=>by
  unfold A6;rw[da (show ¬(3:Int)=1 by decide),db rfl,db ⟨a,b⟩,db c]
 have e2:vw0 ≥ E→vw0 > A→Dw ⟨C,D,E,A,G,H,false,false,I,B,J,K,L,F,P⟩ vw0 l=false→A6 ⟨C,D,E,A,G,H,M,N,I,B,J,K,L,F,P⟩ f ⟨3,vw0,nm,nu,l⟩=Cy ⟨C,D,E,A,G,H,false,false,I,B,J,K,L,F,P⟩ vw0 l:=fun a b c=>by
  unfold A6;rw[da (show ¬(3:Int)=1 by decide),db rfl,db ⟨a,b⟩,da (by rw[c];decide)]
 have e3:¬(vw0 ≥ E∧vw0 > A)→(vw0=E∧vw0=A)→A6 ⟨C,D,E,A,G,H,M,N,I,B,J,K,L,F,P⟩ f ⟨3,vw0,nm,nu,l⟩=Ay ⟨C,D,E,A,G,H,M,N,I,B,J,K,L,F,P⟩ f ⟨5,vw0,0,A4 G,[]⟩:=fun a b=>by unfold A6;rw[da (show ¬(3:Int)=1 by decide),db rfl,da a,db b]
 have e4:¬(vw0 ≥ E∧vw0 > A)→¬(vw0=E∧vw0=A)→A6 ⟨C,D,E,A,G,H,M,N,I,B,J,K,L,F,P⟩ f ⟨3,vw0,nm,nu,l⟩=⟨C,D,E,A,G,H,M,N,I,B,J,K,L,F,P⟩:=fun a b=>by unfold A6;rw[da (show ¬(3:Int)=1 by decide),db rfl,da a,da b]
 obtain⟨st',out',dead',eA,hol⟩:=Ic ⟨C,D,E,A,G,H,false,false,I,B,J,K,L,F,P⟩ vw0 l
 have hol:out'.length≤L.length:=hol
 have hdd:Dw ⟨C,D,E,A,G,H,false,false,I,B,J,K,L,F,P⟩ vw0 l=false→dead'=true:=fun h=>by have:=Jj h;rw[eA] at this;exact this
 dsimp only at eA
 refine Ba Tryz.func73 (A5 (O:=oAs ⟨C,D,E,A,G,H,M,N,I,B,J,K,L,F,P⟩ b e) (n0:=5) rfl) ?_
 refine de (fun(hf1:E=vw0)=>de (fun(hf2:A=vw0)=>?_) fun(hf2:A≠vw0)=>?_) fun(hf1:E≠vw0)=>?_
 all_goals
  refine de (fun h=>dc h (by show ¬((3:Int)=1);decide)) fun _=>?_
  refine de (fun _=>?_) fun h=>dc rfl h
  refine df (fun(hv:vw0 ≥ E)=>?_) fun(hv:¬vw0 ≥ E)=>?_
  ·refine df (fun(hn:vw0 > A)=>?_) fun(hn:¬vw0 > A)=>?_
   ·refine dg (.seen 0 _ _ rfl (.close (oAs ⟨C,D,E,A,G,H,false,false,I,B,J,K,L,F,P⟩ b e) [] (by exact RL5) ⟨_,rfl⟩ rfl (.done (.same ((Z9c ⟨C,D,E,A,G,H,false,false,I,B,J,K,L,F,P⟩ b e (h1.wk (by omega)) vw0 l (by omega)).cal fun q rs hq=>?_)))))
    obtain⟨rfl,rfl⟩:=hq
    cases ha:Dw ⟨C,D,E,A,G,H,false,false,I,B,J,K,L,F,P⟩ vw0 l with
    | true =>
     rw[e1 hv hn ha,eA]
     refine .opn 0 _ _ _ rfl rfl rfl (.done ?_)
     refine dj (fun h=>dc h (by decide)) fun _=>?_
     refine de (fun _=>?_) fun h=>dc rfl h
     refine de (fun _=>?_) fun h=>dc rfl h
     have hS:=Lz ⟨C,D,vw0,vw0,l,min H (A4 l),false,false,I,B,J,K,out',dead',st'⟩ (cl (oLs st' e)) f ⟨5,vw0,0,A4 l,[]⟩ (ah _) (by show out'.length≤_;omega)
     obtain⟨o,hs⟩:=(A8 ⟨C,D,vw0,vw0,l,min H (A4 l),false,false,I,B,J,K,out',dead',st'⟩ f ⟨5,vw0,0,A4 l,[]⟩).to
     rw[hs] at hS⊢
     refine hS.cal fun q rs hq=>?_
     obtain⟨rfl,rfl⟩:=hq
     exact .inl (A1 (oAs ⟨C,D,vw0,vw0,l,min H (A4 l),false,false,I,B,J,K,o,dead',st'⟩ b e) [(1,6),(2,7),(3,10),(4,9)] (by exact RL5) rfl ⟨_,rfl⟩ rfl rfl ⟨rfl,true,rfl,fun _=>⟨fun h=>(by cases h),fun _ _ h=>(by cases h)⟩⟩)
    | false =>
     have hd:=hdd ha
     rw[e2 hv hn ha,eA]
     refine .done ?_
     refine dj (fun _=>?_) fun h=>dc h (by decide)
     exact .inl (A7 rfl rfl ⟨rfl,true,rfl,fun _=>⟨fun h=>(by cases h),fun _ h=>dc (show dead'=false from h) (by rw[hd];decide)⟩⟩)
   ·have hab:¬(vw0 ≥ E∧vw0 > A):=fun h=>hn h.2
    refine de (fun(hw:vw0=E)=>?_) fun(hw:vw0≠E)=>?_
    ·refine de (fun(hx:vw0=A)=>?_) fun(hx:vw0≠A)=>?_
     ·rw[e3 hab ⟨hw,hx⟩]
      have hS:=Lz ⟨C,D,E,A,G,H,M,N,I,B,J,K,L,F,P⟩ (cl (oLs P e)) f ⟨5,vw0,0,A4 G,[]⟩ (ah _) (by show L.length≤_;omega)
      obtain⟨o,hs⟩:=(A8 ⟨C,D,E,A,G,H,M,N,I,B,J,K,L,F,P⟩ f ⟨5,vw0,0,A4 G,[]⟩).to
      rw[hs] at hS⊢
      refine hS.cal fun q rs hq=>?_
      obtain⟨rfl,rfl⟩:=hq
      exact .inl (A1 (oAs ⟨C,D,E,A,G,H,M,N,I,B,J,K,o,F,P⟩ b e) [(3,6)] (by exact RL5) rfl ⟨_,rfl⟩ rfl rfl ⟨rfl,true,rfl,fun _=>⟨fun h=>(by cases h),fun _ _=>hsh⟩⟩)
     ·rw[e4 hab (fun h=>hx h.2)]
      exact .inl (A1 (oAs ⟨C,D,E,A,G,H,M,N,I,B,J,K,L,F,P⟩ b e) [] (by exact RL5) rfl ⟨_,rfl⟩ rfl rfl ⟨rfl,true,rfl,fun _=>hsS⟩)
    rw[e4 hab (fun h=>hw h.1)]
    exact .inl (A1 (oAs ⟨C,D,E,A,G,H,M,N,I,B,J,K,L,F,P⟩ b e) [] (by exact RL5) rfl ⟨_,rfl⟩ rfl rfl ⟨rfl,true,rfl,fun _=>hsS⟩)
  have hab:¬(vw0 ≥ E∧vw0 > A):=fun h=>hv h.1
  refine de (fun(hw:vw0=E)=>?_) fun(hw:vw0≠E)=>?_
  ·refine de (fun(hx:vw0=A)=>?_) fun(hx:vw0≠A)=>?_
   ·rw[e3 hab ⟨hw,hx⟩]
    have hS:=Lz ⟨C,D,E,A,G,H,M,N,I,B,J,K,L,F,P⟩ (cl (oLs P e)) f ⟨5,vw0,0,A4 G,[]⟩ (ah _) (by show L.length≤_;omega)
    obtain⟨o,hs⟩:=(A8 ⟨C,D,E,A,G,H,M,N,I,B,J,K,L,F,P⟩ f ⟨5,vw0,0,A4 G,[]⟩).to
    rw[hs] at hS⊢
    refine hS.cal fun q rs hq=>?_
    obtain⟨rfl,rfl⟩:=hq
    exact .inl (A1 (oAs ⟨C,D,E,A,G,H,M,N,I,B,J,K,o,F,P⟩ b e) [(3,6)] (by exact RL5) rfl ⟨_,rfl⟩ rfl rfl ⟨rfl,true,rfl,fun _=>⟨fun h=>(by cases h),fun _ _=>hsh⟩⟩)
   ·rw[e4 hab (fun h=>hx h.2)]
    exact .inl (A1 (oAs ⟨C,D,E,A,G,H,M,N,I,B,J,K,L,F,P⟩ b e) [] (by exact RL5) rfl ⟨_,rfl⟩ rfl rfl ⟨rfl,true,rfl,fun _=>hsS⟩)
  rw[e4 hab (fun h=>hw h.1)]
  exact .inl (A1 (oAs ⟨C,D,E,A,G,H,M,N,I,B,J,K,L,F,P⟩ b e) [] (by exact RL5) rfl ⟨_,rfl⟩ rfl rfl ⟨rfl,true,rfl,fun _=>hsS⟩)
set_option maxHeartbeats 4000000 in
theorem Xf (k:Nat)(n:PN)(b e f:Nat)(m:RM)(h:WNk k n)(hsh:n.std=false∧n.normal < n.pmd)(hm:okM m=true)(hk:m.kind=3):FnO Tryz.prog 73 [.ptr 0 0,gI f,.agg (enM m)] (cB n b e) fun g rs=>g=.tup []∧∃s,rs=cS s (A6 n f m) b e∧(n.dead=false→ShN s (A6 n f m)):=by
 obtain⟨D,E,C,A,K,G,M,N,H,B,I,J,L,F,P⟩:=n
 obtain⟨kd,vw0,nm,nu,l⟩:=m
 have hk:kd=3:=hk
 subst hk
 obtain⟨h1,hkk,h2,h3,h4,h5,h6,h7,hnp,hst⟩:=h
 obtain⟨hm1,-,hml,hme⟩:=Aw hm
 dsimp only at h1 h2 h3 h4 h5 h6 h7 hsh hml hnp hme
 have hsS:ShN false ⟨D,E,C,A,K,G,M,N,H,B,I,J,L,F,P⟩:=⟨fun _=>hsh,fun h=>(by cases h)⟩
 have e1:vw0 ≥ C→vw0 > A→Dw ⟨D,E,C,A,K,G,false,false,H,B,I,J,L,F,P⟩ vw0 l=true→A6 ⟨D,E,C,A,K,G,M,N,H,B,I,J,L,F,P⟩ f ⟨3,vw0,nm,nu,l⟩=Ay (Cy ⟨D,E,C,A,K,G,false,false,H,B,I,J,L,F,P⟩ vw0 l) f ⟨5,vw0,0,A4 l,[]⟩:=fun a b c=>by
  unfold A6;rw[da (show ¬(3:Int)=1 by decide),db rfl,db ⟨a,b⟩,db c]
 have e2:vw0 ≥ C→vw0 > A→Dw ⟨D,E,C,A,K,G,false,false,H,B,I,J,L,F,P⟩ vw0 l=false→A6 ⟨D,E,C,A,K,G,M,N,H,B,I,J,L,F,P⟩ f ⟨3,vw0,nm,nu,l⟩=Cy ⟨D,E,C,A,K,G,false,false,H,B,I,J,L,F,P⟩ vw0 l:=fun a b c=>by
  unfold A6;rw[da (show ¬(3:Int)=1 by decide),db rfl,db ⟨a,b⟩,da (by rw[c];decide)]
 have e3:¬(vw0 ≥ C∧vw0 > A)→(vw0=C∧vw0=A)→A6 ⟨D,E,C,A,K,G,M,N,H,B,I,J,L,F,P⟩ f ⟨3,vw0,nm,nu,l⟩=Ay ⟨D,E,C,A,K,G,M,N,H,B,I,J,L,F,P⟩ f ⟨5,vw0,0,A4 K,[]⟩:=fun a b=>by unfold A6;rw[da (show ¬(3:Int)=1 by decide),db rfl,da a,db b]
 have e4:¬(vw0 ≥ C∧vw0 > A)→¬(vw0=C∧vw0=A)→A6 ⟨D,E,C,A,K,G,M,N,H,B,I,J,L,F,P⟩ f ⟨3,vw0,nm,nu,l⟩=⟨D,E,C,A,K,G,M,N,H,B,I,J,L,F,P⟩:=fun a b=>by unfold A6;rw[da (show ¬(3:Int)=1 by decide),db rfl,da a,da b]
 obtain⟨st',out',dead',eA,hol⟩:=Ic ⟨D,E,C,A,K,G,false,false,H,B,I,J,L,F,P⟩ vw0 l
 have hol:out'.length≤L.length:=hol
 have hdd:Dw ⟨D,E,C,A,K,G,false,false,H,B,I,J,L,F,P⟩ vw0 l=false→dead'=true:=fun h=>by have:=Jj h;rw[eA] at this;exact this
 dsimp only at eA
 refine Ba Tryz.func73 (A5 (O:=oBs ⟨D,E,C,A,K,G,M,N,H,B,I,J,L,F,P⟩ b e) (n0:=5) rfl) ?_
 refine de (fun(hf1:C=vw0)=>de (fun(hf2:A=vw0)=>?_) fun(hf2:A≠vw0)=>?_) fun(hf1:C≠vw0)=>?_
 all_goals
  refine de (fun h=>dc h (by show ¬((3:Int)=1);decide)) fun _=>?_
  refine de (fun _=>?_) fun h=>dc rfl h
  refine df (fun(hv:vw0 ≥ C)=>?_) fun(hv:¬vw0 ≥ C)=>?_
  ·refine df (fun(hn:vw0 > A)=>?_) fun(hn:¬vw0 > A)=>?_
   ·refine dg (.seen 0 _ _ rfl (.close (oBs ⟨D,E,C,A,K,G,false,false,H,B,I,J,L,F,P⟩ b e) [] (by exact RL5) ⟨_,rfl⟩ rfl (.done (.same ((Yt ⟨D,E,C,A,K,G,false,false,H,B,I,J,L,F,P⟩ b e (h1.wk (by omega)) vw0 l (by omega)).cal fun q rs hq=>?_)))))
    obtain⟨rfl,rfl⟩:=hq
    cases ha:Dw ⟨D,E,C,A,K,G,false,false,H,B,I,J,L,F,P⟩ vw0 l with
    | true =>
     rw[e1 hv hn ha,eA]
     refine .opn 0 _ _ _ rfl rfl rfl (.done ?_)
     refine dj (fun h=>dc h (by decide)) fun _=>?_
     refine de (fun _=>?_) fun h=>dc rfl h
     refine de (fun _=>?_) fun h=>dc rfl h
     have hS:=Lz ⟨D,E,vw0,vw0,l,min G (A4 l),false,false,H,B,I,J,out',dead',st'⟩ (cl (oLs st' e)) f ⟨5,vw0,0,A4 l,[]⟩ (ah _) (by show out'.length≤_;omega)
     obtain⟨o,hs⟩:=(A8 ⟨D,E,vw0,vw0,l,min G (A4 l),false,false,H,B,I,J,out',dead',st'⟩ f ⟨5,vw0,0,A4 l,[]⟩).to
     rw[hs] at hS⊢
     refine hS.cal fun q rs hq=>?_
     obtain⟨rfl,rfl⟩:=hq
     exact .inl (A1 (oAs ⟨D,E,vw0,vw0,l,min G (A4 l),false,false,H,B,I,J,o,dead',st'⟩ b e) [(1,6),(2,7),(3,10),(4,9)] (by exact RL5) rfl ⟨_,rfl⟩ rfl rfl ⟨rfl,true,rfl,fun _=>⟨fun h=>(by cases h),fun _ _ h=>(by cases h)⟩⟩)
    | false =>
     have hd:=hdd ha
     rw[e2 hv hn ha,eA]
     refine .done ?_
     refine dj (fun _=>?_) fun h=>dc h (by decide)
     exact .inl (A7 rfl rfl ⟨rfl,true,rfl,fun _=>⟨fun h=>(by cases h),fun _ h=>dc (show dead'=false from h) (by rw[hd];decide)⟩⟩)
   ·have hab:¬(vw0 ≥ C∧vw0 > A):=fun h=>hn h.2
    refine de (fun(hw:vw0=C)=>?_) fun(hw:vw0≠C)=>?_
    ·refine de (fun(hx:vw0=A)=>dc hsh.2 (by omega)) fun(hx:vw0≠A)=>?_
     rw[e4 hab (fun h=>hx h.2)]
     exact .inl (A1 (oBs ⟨D,E,C,A,K,G,M,N,H,B,I,J,L,F,P⟩ b e) [] (by exact RL5) rfl ⟨_,rfl⟩ rfl rfl ⟨rfl,false,rfl,fun _=>hsS⟩)
    rw[e4 hab (fun h=>hw h.1)]
    exact .inl (A1 (oBs ⟨D,E,C,A,K,G,M,N,H,B,I,J,L,F,P⟩ b e) [] (by exact RL5) rfl ⟨_,rfl⟩ rfl rfl ⟨rfl,false,rfl,fun _=>hsS⟩)
  have hab:¬(vw0 ≥ C∧vw0 > A):=fun h=>hv h.1
  refine de (fun(hw:vw0=C)=>?_) fun(hw:vw0≠C)=>?_
  ·refine de (fun(hx:vw0=A)=>dc hsh.2 (by omega)) fun(hx:vw0≠A)=>?_
   rw[e4 hab (fun h=>hx h.2)]
   exact .inl (A1 (oBs ⟨D,E,C,A,K,G,M,N,H,B,I,J,L,F,P⟩ b e) [] (by exact RL5) rfl ⟨_,rfl⟩ rfl rfl ⟨rfl,false,rfl,fun _=>hsS⟩)
  rw[e4 hab (fun h=>hw h.1)]
  exact .inl (A1 (oBs ⟨D,E,C,A,K,G,M,N,H,B,I,J,L,F,P⟩ b e) [] (by exact RL5) rfl ⟨_,rfl⟩ rfl rfl ⟨rfl,false,rfl,fun _=>hsS⟩)
set_option maxHeartbeats 4000000 in
theorem Xy (k:Nat)(n:PN)(b e f:Nat)(m:RM)(h:WNk k n)(hsh:n.lds=true→n.std=true)(hm:okM m=true)(hk:m.kind=4):FnO Tryz.prog 73 [.ptr 0 0,gI f,.agg (enM m)] (cA n b e) fun g rs=>g=.tup []∧∃s,rs=cS s (A6 n f m) b e∧(n.dead=false→ShN s (A6 n f m)):=by
 obtain⟨C,D,F,A,G,I,H,J,K,B,L,M,N,E,P⟩:=n
 obtain⟨kd,vw0,nm,nu,l⟩:=m
 have hk:kd=4:=hk
 subst hk
 obtain⟨h1,hkk,h2,h3,h4,h5,h6,h7,hnp,hst⟩:=h
 obtain⟨hm1,-,hml,hme⟩:=Aw hm
 dsimp only at h1 h2 h3 h4 h5 h6 h7 hsh hml hnp hme
 have hsS:ShN true ⟨C,D,F,A,G,I,H,J,K,B,L,M,N,E,P⟩:=⟨fun h=>(by cases h),fun _ _=>hsh⟩
 have e1:F=vw0→A=vw0→H=false→(Ao l (vw 1 G) ⟨C,D,F,A,G,I,H,J,K,B,L,M,N,E,P⟩).2=true→A6 ⟨C,D,F,A,G,I,H,J,K,B,L,M,N,E,P⟩ f ⟨4,vw0,nm,nu,l⟩=Ay (Ao l (vw 1 G) ⟨C,D,F,A,G,I,H,J,K,B,L,M,N,E,P⟩).1 f ⟨5,vw0,0,A4 (Ao l (vw 1 G) ⟨C,D,F,A,G,I,H,J,K,B,L,M,N,E,P⟩).1.log,[]⟩:=fun a b c d=>by
  unfold A6;rw[da (show ¬(4:Int)=1 by decide),da (show ¬(4:Int)=3 by decide),db rfl,db ⟨a,b,c⟩];dsimp only;rw[db d]
 have e2:F=vw0→A=vw0→H=false→(Ao l (vw 1 G) ⟨C,D,F,A,G,I,H,J,K,B,L,M,N,E,P⟩).2=false→A6 ⟨C,D,F,A,G,I,H,J,K,B,L,M,N,E,P⟩ f ⟨4,vw0,nm,nu,l⟩=(Ao l (vw 1 G) ⟨C,D,F,A,G,I,H,J,K,B,L,M,N,E,P⟩).1:=fun a b c d=>by
  unfold A6;rw[da (show ¬(4:Int)=1 by decide),da (show ¬(4:Int)=3 by decide),db rfl,db ⟨a,b,c⟩];dsimp only;rw[da (by rw[d];decide)]
 have e4:¬(F=vw0∧A=vw0∧H=false)→A6 ⟨C,D,F,A,G,I,H,J,K,B,L,M,N,E,P⟩ f ⟨4,vw0,nm,nu,l⟩=⟨C,D,F,A,G,I,H,J,K,B,L,M,N,E,P⟩:=fun a=>by unfold A6;rw[da (show ¬(4:Int)=1 by decide),da (show ¬(4:Int)=3 by decide),db rfl,da a]
 obtain⟨log',st',out',dead',eA,hol⟩:=Gp l (vw 1 G) ⟨C,D,F,A,G,I,H,J,K,B,L,M,N,E,P⟩
 have hol:out'.length≤N.length:=hol
 dsimp only at eA
 refine Ba Tryz.func73 (A5 (O:=oAs ⟨C,D,F,A,G,I,H,J,K,B,L,M,N,E,P⟩ b e) (n0:=5) rfl) ?_
 refine de (fun(hf1:F=vw0)=>?_) fun(hf1:F≠vw0)=>?_
 ·refine de (fun(hf2:A=vw0)=>?_) fun(hf2:A≠vw0)=>?_
  ·skip
   refine de (fun h=>dc h (by show ¬((4:Int)=1);decide)) fun _=>?_
   refine de (fun h=>dc h (by show ¬((4:Int)=3);decide)) fun _=>?_
   refine de (fun _=>?_) fun h=>dc rfl h
   refine dj (fun hl=>?_) fun hl=>?_
   ·have hl:H=false:=by simpa using hl
    refine dg (.close (oAs ⟨C,D,F,A,G,I,H,J,K,B,L,M,N,E,P⟩ b e) [] (by exact RL5) ⟨_,rfl⟩ rfl (.done (.same ((Z4u k ⟨C,D,F,A,G,I,H,J,K,B,L,M,N,E,P⟩ b e h1 hkk h5 l hml (fun x hx=>(hme x hx).1.2)).cal fun q rs hq=>?_))))
    obtain⟨rfl,rfl⟩:=hq
    cases ha:(Ao l (vw 1 G) ⟨C,D,F,A,G,I,H,J,K,B,L,M,N,E,P⟩).2 with
    | true =>
     rw[e1 hf1 hf2 hl ha,eA]
     refine .opn 0 _ _ _ rfl rfl rfl (.done ?_)
     refine dj (fun _=>?_) fun h=>(by cases h)
     have hS:=Lz ⟨C,D,F,A,log',I,H,J,K,B,L,M,out',dead',st'⟩ (cl (oLs st' e)) f ⟨5,vw0,0,A4 log',[]⟩ (ah _) (by show out'.length≤_;omega)
     obtain⟨o,hs⟩:=(A8 ⟨C,D,F,A,log',I,H,J,K,B,L,M,out',dead',st'⟩ f ⟨5,vw0,0,A4 log',[]⟩).to
     rw[hs] at hS⊢
     refine hS.cal fun q rs hq=>?_
     obtain⟨rfl,rfl⟩:=hq
     exact .inl (A1 (oAs ⟨C,D,F,A,log',I,H,J,K,B,L,M,o,dead',st'⟩ b e) [(1,6),(2,7),(3,10),(4,9)] (by exact RL5) rfl ⟨_,rfl⟩ rfl rfl ⟨rfl,true,rfl,fun _=>⟨fun h=>(by cases h),fun _ _=>hsh⟩⟩)
    | false =>
     rw[e2 hf1 hf2 hl ha,eA]
     refine .done ?_
     refine dj (fun h=>(by cases h)) fun _=>?_
     exact .inl (A7 rfl rfl ⟨rfl,true,rfl,fun _=>⟨fun h=>(by cases h),fun _ _=>hsh⟩⟩)
   rw[e4 (fun h=>by rw[h.2.2] at hl;cases hl)]
   exact .inl (A1 (oAs ⟨C,D,F,A,G,I,H,J,K,B,L,M,N,E,P⟩ b e) [] (by exact RL5) rfl ⟨_,rfl⟩ rfl rfl ⟨rfl,true,rfl,fun _=>hsS⟩)
  ·skip
   refine de (fun h=>dc h (by show ¬((4:Int)=1);decide)) fun _=>?_
   refine de (fun h=>dc h (by show ¬((4:Int)=3);decide)) fun _=>?_
   refine de (fun _=>?_) fun h=>dc rfl h
   rw[e4 (fun h=>hf2 h.2.1)]
   exact .inl (A1 (oAs ⟨C,D,F,A,G,I,H,J,K,B,L,M,N,E,P⟩ b e) [] (by exact RL5) rfl ⟨_,rfl⟩ rfl rfl ⟨rfl,true,rfl,fun _=>hsS⟩)
 ·skip
  refine de (fun h=>dc h (by show ¬((4:Int)=1);decide)) fun _=>?_
  refine de (fun h=>dc h (by show ¬((4:Int)=3);decide)) fun _=>?_
  refine de (fun _=>?_) fun h=>dc rfl h
  rw[e4 (fun h=>hf1 h.1)]
  exact .inl (A1 (oAs ⟨C,D,F,A,G,I,H,J,K,B,L,M,N,E,P⟩ b e) [] (by exact RL5) rfl ⟨_,rfl⟩ rfl rfl ⟨rfl,true,rfl,fun _=>hsS⟩)
set_option maxHeartbeats 4000000 in
theorem Wt (k:Nat)(n:PN)(b e f:Nat)(m:RM)(h:WNk k n)(hsh:n.std=false∧n.normal < n.pmd)(hm:okM m=true)(hk:m.kind=4):FnO Tryz.prog 73 [.ptr 0 0,gI f,.agg (enM m)] (cB n b e) fun g rs=>g=.tup []∧∃s,rs=cS s (A6 n f m) b e∧(n.dead=false→ShN s (A6 n f m)):=by
 obtain⟨C,D,F,A,G,H,I,J,K,B,L,M,N,E,P⟩:=n
 obtain⟨kd,vw0,nm,nu,l⟩:=m
 have hk:kd=4:=hk
 subst hk
 obtain⟨h1,hkk,h2,h3,h4,h5,h6,h7,hnp,hst⟩:=h
 obtain⟨hm1,-,hml,hme⟩:=Aw hm
 dsimp only at h1 h2 h3 h4 h5 h6 h7 hsh hml hnp hme
 have hsS:ShN false ⟨C,D,F,A,G,H,I,J,K,B,L,M,N,E,P⟩:=⟨fun _=>hsh,fun h=>(by cases h)⟩
 have e4:A6 ⟨C,D,F,A,G,H,I,J,K,B,L,M,N,E,P⟩ f ⟨4,vw0,nm,nu,l⟩=⟨C,D,F,A,G,H,I,J,K,B,L,M,N,E,P⟩:=by unfold A6;rw[da (show ¬(4:Int)=1 by decide),da (show ¬(4:Int)=3 by decide),db rfl,da (fun h=>dc hsh.2 (by have h1:F=vw0:=h.1;have h2:A=vw0:=h.2.1;omega))]
 rw[e4]
 refine Ba Tryz.func73 (A5 (O:=oBs ⟨C,D,F,A,G,H,I,J,K,B,L,M,N,E,P⟩ b e) (n0:=5) rfl) ?_
 refine de (fun(hf1:F=vw0)=>?_) fun(hf1:F≠vw0)=>?_
 ·refine de (fun(hf2:A=vw0)=>dc hsh.2 (by omega)) fun(hf2:A≠vw0)=>?_
  refine de (fun h=>dc h (by show ¬((4:Int)=1);decide)) fun _=>?_
  refine de (fun h=>dc h (by show ¬((4:Int)=3);decide)) fun _=>?_
  refine de (fun _=>?_) fun h=>dc rfl h
  exact .inl (A1 (oBs ⟨C,D,F,A,G,H,I,J,K,B,L,M,N,E,P⟩ b e) [] (by exact RL5) rfl ⟨_,rfl⟩ rfl rfl ⟨rfl,false,rfl,fun _=>hsS⟩)
 ·skip
  refine de (fun h=>dc h (by show ¬((4:Int)=1);decide)) fun _=>?_
  refine de (fun h=>dc h (by show ¬((4:Int)=3);decide)) fun _=>?_
  refine de (fun _=>?_) fun h=>dc rfl h
  exact .inl (A1 (oBs ⟨C,D,F,A,G,H,I,J,K,B,L,M,N,E,P⟩ b e) [] (by exact RL5) rfl ⟨_,rfl⟩ rfl rfl ⟨rfl,false,rfl,fun _=>hsS⟩)
set_option maxHeartbeats 4000000 in
theorem Yb (k:Nat)(n:PN)(b e f:Nat)(m:RM)(h:WNk k n)(hsh:n.lds=true→n.std=true)(hm:okM m=true)(hk:m.kind=6):FnO Tryz.prog 73 [.ptr 0 0,gI f,.agg (enM m)] (cA n b e) fun g rs=>g=.tup []∧∃s,rs=cS s (A6 n f m) b e∧(n.dead=false→ShN s (A6 n f m)):=by
 obtain⟨C,D,F,A,H,I,G,J,K,B,L,M,N,E,P⟩:=n
 obtain⟨kd,vw0,nm,nu,l⟩:=m
 have hk:kd=6:=hk
 subst hk
 obtain⟨h1,hkk,h2,h3,h4,h5,h6,h7,hnp,hst⟩:=h
 obtain⟨hm1,-,hml,hme⟩:=Aw hm
 dsimp only at h1 h2 h3 h4 h5 h6 h7 hsh hml hnp hme
 have hsS:ShN true ⟨C,D,F,A,H,I,G,J,K,B,L,M,N,E,P⟩:=⟨fun h=>(by cases h),fun _ _=>hsh⟩
 have e1:F=vw0→A=vw0→G=false→A6 ⟨C,D,F,A,H,I,G,J,K,B,L,M,N,E,P⟩ f ⟨6,vw0,nm,nu,l⟩=⟨C,D,F,A,H,max I (min nu (A4 H)),G,J,K,B,L,M,N,E,P⟩:=fun a b c=>by
  unfold A6;rw[da (show ¬(6:Int)=1 by decide),da (show ¬(6:Int)=3 by decide),da (show ¬(6:Int)=4 by decide),db rfl,db ⟨a,b,c⟩]
 have e4:¬(F=vw0∧A=vw0∧G=false)→A6 ⟨C,D,F,A,H,I,G,J,K,B,L,M,N,E,P⟩ f ⟨6,vw0,nm,nu,l⟩=⟨C,D,F,A,H,I,G,J,K,B,L,M,N,E,P⟩:=fun a=>by unfold A6;rw[da (show ¬(6:Int)=1 by decide),da (show ¬(6:Int)=3 by decide),da (show ¬(6:Int)=4 by decide),db rfl,da a]
 refine Ba Tryz.func73 (A5 (O:=oAs ⟨C,D,F,A,H,I,G,J,K,B,L,M,N,E,P⟩ b e) (n0:=5) rfl) ?_
 refine de (fun(hf1:F=vw0)=>?_) fun(hf1:F≠vw0)=>?_
 ·refine de (fun(hf2:A=vw0)=>?_) fun(hf2:A≠vw0)=>?_
  ·skip
   refine de (fun h=>dc h (by show ¬((6:Int)=1);decide)) fun _=>?_
   refine de (fun h=>dc h (by show ¬((6:Int)=3);decide)) fun _=>?_
   refine de (fun h=>dc h (by show ¬((6:Int)=4);decide)) fun _=>?_
   refine de (fun _=>?_) fun h=>dc rfl h
   refine dj (fun hl=>?_) fun hl=>?_
   ·have hl:G=false:=by simpa using hl
    rw[e1 hf1 hf2 hl]
    exact .inl (A1 (oAs ⟨C,D,F,A,H,max I (min nu (A4 H)),G,J,K,B,L,M,N,E,P⟩ b e) [] (by exact RL5) rfl ⟨_,rfl⟩ rfl rfl ⟨rfl,true,rfl,fun _=>⟨fun h=>(by cases h),fun _ _=>hsh⟩⟩)
   rw[e4 (fun h=>by rw[h.2.2] at hl;cases hl)]
   exact .inl (A1 (oAs ⟨C,D,F,A,H,I,G,J,K,B,L,M,N,E,P⟩ b e) [] (by exact RL5) rfl ⟨_,rfl⟩ rfl rfl ⟨rfl,true,rfl,fun _=>hsS⟩)
  ·skip
   refine de (fun h=>dc h (by show ¬((6:Int)=1);decide)) fun _=>?_
   refine de (fun h=>dc h (by show ¬((6:Int)=3);decide)) fun _=>?_
   refine de (fun h=>dc h (by show ¬((6:Int)=4);decide)) fun _=>?_
   refine de (fun _=>?_) fun h=>dc rfl h
   rw[e4 (fun h=>hf2 h.2.1)]
   exact .inl (A1 (oAs ⟨C,D,F,A,H,I,G,J,K,B,L,M,N,E,P⟩ b e) [] (by exact RL5) rfl ⟨_,rfl⟩ rfl rfl ⟨rfl,true,rfl,fun _=>hsS⟩)
 ·skip
  refine de (fun h=>dc h (by show ¬((6:Int)=1);decide)) fun _=>?_
  refine de (fun h=>dc h (by show ¬((6:Int)=3);decide)) fun _=>?_
  refine de (fun h=>dc h (by show ¬((6:Int)=4);decide)) fun _=>?_
  refine de (fun _=>?_) fun h=>dc rfl h
  rw[e4 (fun h=>hf1 h.1)]
  exact .inl (A1 (oAs ⟨C,D,F,A,H,I,G,J,K,B,L,M,N,E,P⟩ b e) [] (by exact RL5) rfl ⟨_,rfl⟩ rfl rfl ⟨rfl,true,rfl,fun _=>hsS⟩)
set_option maxHeartbeats 4000000 in
theorem Y4 (k:Nat)(n:PN)(b e f:Nat)(m:RM)(h:WNk k n)(hsh:n.std=false∧n.normal < n.pmd)(hm:okM m=true)(hk:m.kind=6):FnO Tryz.prog 73 [.ptr 0 0,gI f,.agg (enM m)] (cB n b e) fun g rs=>g=.tup []∧∃s,rs=cS s (A6 n f m) b e∧(n.dead=false→ShN s (A6 n f m)):=by
 obtain⟨C,D,F,A,G,H,I,J,K,B,L,M,N,E,P⟩:=n
 obtain⟨kd,vw0,nm,nu,l⟩:=m
 have hk:kd=6:=hk
 subst hk
 obtain⟨h1,hkk,h2,h3,h4,h5,h6,h7,hnp,hst⟩:=h
 obtain⟨hm1,-,hml,hme⟩:=Aw hm
 dsimp only at h1 h2 h3 h4 h5 h6 h7 hsh hml hnp hme
 have hsS:ShN false ⟨C,D,F,A,G,H,I,J,K,B,L,M,N,E,P⟩:=⟨fun _=>hsh,fun h=>(by cases h)⟩
 have e4:A6 ⟨C,D,F,A,G,H,I,J,K,B,L,M,N,E,P⟩ f ⟨6,vw0,nm,nu,l⟩=⟨C,D,F,A,G,H,I,J,K,B,L,M,N,E,P⟩:=by unfold A6;rw[da (show ¬(6:Int)=1 by decide),da (show ¬(6:Int)=3 by decide),da (show ¬(6:Int)=4 by decide),db rfl,da (fun h=>dc hsh.2 (by have h1:F=vw0:=h.1;have h2:A=vw0:=h.2.1;omega))]
 rw[e4]
 refine Ba Tryz.func73 (A5 (O:=oBs ⟨C,D,F,A,G,H,I,J,K,B,L,M,N,E,P⟩ b e) (n0:=5) rfl) ?_
 refine de (fun(hf1:F=vw0)=>?_) fun(hf1:F≠vw0)=>?_
 ·refine de (fun(hf2:A=vw0)=>dc hsh.2 (by omega)) fun(hf2:A≠vw0)=>?_
  refine de (fun h=>dc h (by show ¬((6:Int)=1);decide)) fun _=>?_
  refine de (fun h=>dc h (by show ¬((6:Int)=3);decide)) fun _=>?_
  refine de (fun h=>dc h (by show ¬((6:Int)=4);decide)) fun _=>?_
  refine de (fun _=>?_) fun h=>dc rfl h
  exact .inl (A1 (oBs ⟨C,D,F,A,G,H,I,J,K,B,L,M,N,E,P⟩ b e) [] (by exact RL5) rfl ⟨_,rfl⟩ rfl rfl ⟨rfl,false,rfl,fun _=>hsS⟩)
 ·skip
  refine de (fun h=>dc h (by show ¬((6:Int)=1);decide)) fun _=>?_
  refine de (fun h=>dc h (by show ¬((6:Int)=3);decide)) fun _=>?_
  refine de (fun h=>dc h (by show ¬((6:Int)=4);decide)) fun _=>?_
  refine de (fun _=>?_) fun h=>dc rfl h
  exact .inl (A1 (oBs ⟨C,D,F,A,G,H,I,J,K,B,L,M,N,E,P⟩ b e) [] (by exact RL5) rfl ⟨_,rfl⟩ rfl rfl ⟨rfl,false,rfl,fun _=>hsS⟩)
end Go.Proofs.YtihfaocdpmmooaaGreat

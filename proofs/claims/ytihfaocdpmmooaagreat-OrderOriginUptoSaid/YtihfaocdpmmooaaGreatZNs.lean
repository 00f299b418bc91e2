
import Derived.Test.YtihfaocdpmmooaaGreatNMq
import Derived.Test.YtihfaocdpmmooaaGreatNMp
namespace Go.Proofs.YtihfaocdpmmooaaGreat
open Go.RowKit
set_option maxRecDepth 100000
theorem Gj:∀(l:List REnt) (v:Int) (n:PN),∃log st out dead,(Aj l v n).1=⟨n.self,n.many,n.pmd,n.normal,log,n.cmt,n.lds,n.std,n.jns,n.first,n.aks,n.hrd,out,dead,st⟩∧out.length≤n.out.length
 | [],v,n=>⟨n.log,n.st,n.out,n.dead,rfl,Nat.le_refl _⟩
 | e::l,v,n=>by
  unfold Aj
  split
  ·exact⟨n.log,n.st,n.out,n.dead,rfl,Nat.le_refl _⟩
  ·split
   ·exact Gj l v n
   ·obtain⟨st',out',dead',eA,hol⟩:=By {n with log:=n.log++[e]} (Cb 3 e.v e.n e.b)
    have eA:He n e=_:=eA
    split
    ·obtain⟨log2,st2,out2,dead2,e2,h2⟩:=Gj l e.v (He n e)
     rw[eA] at e2 h2
     rw[eA]
     exact⟨log2,st2,out2,dead2,e2,Nat.le_trans h2 hol⟩
    ·exact⟨_,st',out',dead',eA,hol⟩
set_option maxHeartbeats 4000000 in
theorem X3 (k:Nat)(n:PN)(b e f:Nat)(m:RM)(h:WNk k n)(hsh:n.lds=true→n.std=true)(hm:okM m=true)(hk:m.kind=1):FnO Tryz.prog 73 [.ptr 0 0,gI f,.agg (enM m)] (cA n b e) fun g rs=>g=.tup []∧∃s,rs=cS s (A4 n f m) b e∧(n.dead=false→ShN s (A4 n f m)):=by
 obtain⟨self,many,pmd,normal,log,cmt,lds,std,jns,first,aks,hrd,out,dead,st⟩:=n
 obtain⟨kd,vw0,nm,nu,l⟩:=m
 have hk:kd=1:=hk
 subst hk
 obtain⟨h1,hkk,h2,h3,h4,h5,h6,h7,hnp,hst⟩:=h
 obtain⟨hm1,-,hml,hme⟩:=Ay hm
 dsimp only at h1 h2 h3 h4 h5 h6 h7 hsh hml hnp hme
 have hsS:ShN true ⟨self,many,pmd,normal,log,cmt,lds,std,jns,first,aks,hrd,out,dead,st⟩:=⟨fun h=>(by cases h),fun _ _=>hsh⟩
 have e1:vw0 > pmd→Jv ⟨self,many,pmd,normal,log,cmt,lds,std,jns,first,aks,hrd,out,dead,st⟩ vw0=true→A4 ⟨self,many,pmd,normal,log,cmt,lds,std,jns,first,aks,hrd,out,dead,st⟩ f ⟨1,vw0,nm,nu,l⟩=Aq (Ep ⟨self,many,pmd,normal,log,cmt,lds,std,jns,first,aks,hrd,out,dead,st⟩ vw0) f ⟨2,vw0,normal,0,log⟩:=fun a b=>by unfold A4;rw[if_pos rfl,if_pos a,if_pos b]
 have e2:vw0 > pmd→Jv ⟨self,many,pmd,normal,log,cmt,lds,std,jns,first,aks,hrd,out,dead,st⟩ vw0=false→A4 ⟨self,many,pmd,normal,log,cmt,lds,std,jns,first,aks,hrd,out,dead,st⟩ f ⟨1,vw0,nm,nu,l⟩=Ep ⟨self,many,pmd,normal,log,cmt,lds,std,jns,first,aks,hrd,out,dead,st⟩ vw0:=fun a b=>by unfold A4;rw[if_pos rfl,if_pos a,if_neg (by rw[b];decide)]
 have e3:¬vw0 > pmd→(vw0=pmd∧vw0 > normal∧lds=false)→A4 ⟨self,many,pmd,normal,log,cmt,lds,std,jns,first,aks,hrd,out,dead,st⟩ f ⟨1,vw0,nm,nu,l⟩=Aq ⟨self,many,pmd,normal,log,cmt,lds,std,jns,first,aks,hrd,out,dead,st⟩ f ⟨2,vw0,normal,0,log⟩:=fun a b=>by unfold A4;rw[if_pos rfl,if_neg a,if_pos b]
 have e4:¬vw0 > pmd→¬(vw0=pmd∧vw0 > normal∧lds=false)→A4 ⟨self,many,pmd,normal,log,cmt,lds,std,jns,first,aks,hrd,out,dead,st⟩ f ⟨1,vw0,nm,nu,l⟩=⟨self,many,pmd,normal,log,cmt,lds,std,jns,first,aks,hrd,out,dead,st⟩:=fun a b=>by unfold A4;rw[if_pos rfl,if_neg a,if_neg b]
 obtain⟨st',out',dead',eA,hol⟩:=By ⟨self,many,vw0,normal,log,cmt,false,false,jns,first,aks,hrd,out,dead,st⟩ (Cb 1 vw0 0 eS)
 have eA:Ep ⟨self,many,pmd,normal,log,cmt,lds,std,jns,first,aks,hrd,out,dead,st⟩ vw0=⟨self,many,vw0,normal,log,cmt,false,false,jns,first,aks,hrd,out',dead',st'⟩:=eA
 dsimp only at hol
 refine Bd Tryz.func73 (by kernel_rfl) rfl (Nat.le_of_ble_eq_true (by kernel_rfl)) (by kernel_rfl) (A6 (O:=oAs ⟨self,many,pmd,normal,log,cmt,lds,std,jns,first,aks,hrd,out,dead,st⟩ b e) (n0:=5) rfl) ?_
 refine EvIf.beq (fun(hf1:pmd=vw0)=>EvIf.beq (fun(hf2:normal=vw0)=>?_) fun(hf2:normal≠vw0)=>?_) fun(hf1:pmd≠vw0)=>?_
 all_goals
  refine EvIf.beq (fun _=>?_) fun h=>absurd rfl h
  refine EvIf.dec (fun(hv:vw0 > pmd)=>?_) fun(hv:¬vw0 > pmd)=>?_
  ·refine EvCall.gh (.close (oAs ⟨self,many,pmd,normal,log,cmt,lds,std,jns,first,aks,hrd,out,dead,st⟩ b e) [] (by exact RL5) ⟨_,rfl⟩ rfl (.done (.same ((Z6z ⟨self,many,pmd,normal,log,cmt,lds,std,jns,first,aks,hrd,out,dead,st⟩ b e (h1.wk (by omega)) (by show log.length≤_;omega) vw0).cal fun q rs hq=>?_))))
   obtain⟨rfl,rfl⟩:=hq
   cases ha:Jv ⟨self,many,pmd,normal,log,cmt,lds,std,jns,first,aks,hrd,out,dead,st⟩ vw0 with
   | true =>
    rw[e1 hv ha,eA]
    refine .opn 0 _ _ _ rfl rfl rfl (.done ?_)
    refine EvIf.mk (fun h=>absurd h (by decide)) fun _=>?_
    refine EvIf.beq (fun _=>?_) fun h=>absurd rfl h
    refine EvIf.dec (fun _=>?_) fun h=>absurd (show vw0 > normal by omega) h
    refine EvIf.mk (fun _=>?_) fun h=>(by cases h)
    have hS:=Ve ⟨self,many,vw0,normal,log,cmt,false,false,jns,first,aks,hrd,out',dead',st'⟩ (cl (oLs st' e)) f ⟨2,vw0,normal,0,log⟩ (by show log.length≤_;omega) (by show out'.length≤_;omega)
    obtain⟨o,hs⟩:=(A8 ⟨self,many,vw0,normal,log,cmt,false,false,jns,first,aks,hrd,out',dead',st'⟩ f ⟨2,vw0,normal,0,log⟩).to
    rw[hs] at hS⊢
    refine hS.cal fun q rs hq=>?_
    obtain⟨rfl,rfl⟩:=hq
    exact .inl (A1 (oBs ⟨self,many,vw0,normal,log,cmt,false,false,jns,first,aks,hrd,o,dead',st'⟩ b e) [(1,6),(2,7),(3,10),(4,9)] (by exact RL5) rfl ⟨_,rfl⟩ rfl rfl ⟨rfl,false,rfl,fun _=>⟨fun _=>⟨rfl,by show normal < vw0;omega⟩,fun h=>(by cases h)⟩⟩)
   | false =>
    rw[e2 hv ha,eA]
    refine .done ?_
    refine EvIf.mk (fun _=>?_) fun h=>absurd h (by decide)
    exact .inl (A7 rfl rfl ⟨rfl,false,rfl,fun _=>⟨fun _=>⟨rfl,by show normal < vw0;omega⟩,fun h=>(by cases h)⟩⟩)
  refine EvIf.beq (fun(hw:vw0=pmd)=>?_) fun(hw:vw0≠pmd)=>?_
  ·refine EvIf.dec (fun(hx:vw0 > normal)=>?_) fun(hx:¬vw0 > normal)=>?_
   ·refine EvIf.mk (fun hl=>?_) fun hl=>?_
    ·have hl:lds=false:=by simpa using hl
     rw[e3 hv ⟨hw,hx,hl⟩]
     have hS:=Hc ⟨self,many,pmd,normal,log,cmt,lds,std,jns,first,aks,hrd,out,dead,st⟩ (cl (oLs st e)) f ⟨2,vw0,normal,0,log⟩ (.oag [gI 2,gI vw0,gI normal,gI 0,.osl 1]) rfl (by show log.length≤_;omega) (by show out.length≤_;omega)
     obtain⟨o,hs⟩:=(A8 ⟨self,many,pmd,normal,log,cmt,lds,std,jns,first,aks,hrd,out,dead,st⟩ f ⟨2,vw0,normal,0,log⟩).to
     rw[hs] at hS⊢
     refine EvCall.lend (hS.cal fun q rs hq=>?_)
     obtain⟨rfl,rfl⟩:=hq
     exact .inl (A1 (oAs ⟨self,many,pmd,normal,log,cmt,lds,std,jns,first,aks,hrd,o,dead,st⟩ b e) [(3,6)] (by exact RL5) rfl ⟨_,rfl⟩ rfl rfl ⟨rfl,true,rfl,fun _=>⟨fun h=>(by cases h),fun _ _=>hsh⟩⟩)
    ·rw[e4 hv (fun h=>by rw[h.2.2] at hl;cases hl)]
     exact .inl (A1 (oAs ⟨self,many,pmd,normal,log,cmt,lds,std,jns,first,aks,hrd,out,dead,st⟩ b e) [] (by exact RL5) rfl ⟨_,rfl⟩ rfl rfl ⟨rfl,true,rfl,fun _=>hsS⟩)
   ·rw[e4 hv (fun h=>hx h.2.1)]
    exact .inl (A1 (oAs ⟨self,many,pmd,normal,log,cmt,lds,std,jns,first,aks,hrd,out,dead,st⟩ b e) [] (by exact RL5) rfl ⟨_,rfl⟩ rfl rfl ⟨rfl,true,rfl,fun _=>hsS⟩)
  rw[e4 hv (fun h=>hw h.1)]
  exact .inl (A1 (oAs ⟨self,many,pmd,normal,log,cmt,lds,std,jns,first,aks,hrd,out,dead,st⟩ b e) [] (by exact RL5) rfl ⟨_,rfl⟩ rfl rfl ⟨rfl,true,rfl,fun _=>hsS⟩)
set_option maxHeartbeats 4000000 in
theorem Wi (k:Nat)(n:PN)(b e f:Nat)(m:RM)(h:WNk k n)(hsh:n.std=false∧n.normal < n.pmd)(hm:okM m=true)(hk:m.kind=1):FnO Tryz.prog 73 [.ptr 0 0,gI f,.agg (enM m)] (cB n b e) fun g rs=>g=.tup []∧∃s,rs=cS s (A4 n f m) b e∧(n.dead=false→ShN s (A4 n f m)):=by
 obtain⟨self,many,pmd,normal,log,cmt,lds,std,jns,first,aks,hrd,out,dead,st⟩:=n
 obtain⟨kd,vw0,nm,nu,l⟩:=m
 have hk:kd=1:=hk
 subst hk
 obtain⟨h1,hkk,h2,h3,h4,h5,h6,h7,hnp,hst⟩:=h
 obtain⟨hm1,-,hml,hme⟩:=Ay hm
 dsimp only at h1 h2 h3 h4 h5 h6 h7 hsh hml hnp hme
 have hsS:ShN false ⟨self,many,pmd,normal,log,cmt,lds,std,jns,first,aks,hrd,out,dead,st⟩:=⟨fun _=>hsh,fun h=>(by cases h)⟩
 have e1:vw0 > pmd→Jv ⟨self,many,pmd,normal,log,cmt,lds,std,jns,first,aks,hrd,out,dead,st⟩ vw0=true→A4 ⟨self,many,pmd,normal,log,cmt,lds,std,jns,first,aks,hrd,out,dead,st⟩ f ⟨1,vw0,nm,nu,l⟩=Aq (Ep ⟨self,many,pmd,normal,log,cmt,lds,std,jns,first,aks,hrd,out,dead,st⟩ vw0) f ⟨2,vw0,normal,0,log⟩:=fun a b=>by unfold A4;rw[if_pos rfl,if_pos a,if_pos b]
 have e2:vw0 > pmd→Jv ⟨self,many,pmd,normal,log,cmt,lds,std,jns,first,aks,hrd,out,dead,st⟩ vw0=false→A4 ⟨self,many,pmd,normal,log,cmt,lds,std,jns,first,aks,hrd,out,dead,st⟩ f ⟨1,vw0,nm,nu,l⟩=Ep ⟨self,many,pmd,normal,log,cmt,lds,std,jns,first,aks,hrd,out,dead,st⟩ vw0:=fun a b=>by unfold A4;rw[if_pos rfl,if_pos a,if_neg (by rw[b];decide)]
 have e3:¬vw0 > pmd→(vw0=pmd∧vw0 > normal∧lds=false)→A4 ⟨self,many,pmd,normal,log,cmt,lds,std,jns,first,aks,hrd,out,dead,st⟩ f ⟨1,vw0,nm,nu,l⟩=Aq ⟨self,many,pmd,normal,log,cmt,lds,std,jns,first,aks,hrd,out,dead,st⟩ f ⟨2,vw0,normal,0,log⟩:=fun a b=>by unfold A4;rw[if_pos rfl,if_neg a,if_pos b]
 have e4:¬vw0 > pmd→¬(vw0=pmd∧vw0 > normal∧lds=false)→A4 ⟨self,many,pmd,normal,log,cmt,lds,std,jns,first,aks,hrd,out,dead,st⟩ f ⟨1,vw0,nm,nu,l⟩=⟨self,many,pmd,normal,log,cmt,lds,std,jns,first,aks,hrd,out,dead,st⟩:=fun a b=>by unfold A4;rw[if_pos rfl,if_neg a,if_neg b]
 obtain⟨st',out',dead',eA,hol⟩:=By ⟨self,many,vw0,normal,log,cmt,false,false,jns,first,aks,hrd,out,dead,st⟩ (Cb 1 vw0 0 eS)
 have eA:Ep ⟨self,many,pmd,normal,log,cmt,lds,std,jns,first,aks,hrd,out,dead,st⟩ vw0=⟨self,many,vw0,normal,log,cmt,false,false,jns,first,aks,hrd,out',dead',st'⟩:=eA
 dsimp only at hol
 refine Bd Tryz.func73 (by kernel_rfl) rfl (Nat.le_of_ble_eq_true (by kernel_rfl)) (by kernel_rfl) (A6 (O:=oBs ⟨self,many,pmd,normal,log,cmt,lds,std,jns,first,aks,hrd,out,dead,st⟩ b e) (n0:=5) rfl) ?_
 refine EvIf.beq (fun(hf1:pmd=vw0)=>EvIf.beq (fun(hf2:normal=vw0)=>?_) fun(hf2:normal≠vw0)=>?_) fun(hf1:pmd≠vw0)=>?_
 all_goals
  refine EvIf.beq (fun _=>?_) fun h=>absurd rfl h
  refine EvIf.dec (fun(hv:vw0 > pmd)=>?_) fun(hv:¬vw0 > pmd)=>?_
  ·refine EvCall.gh (.close (oBs ⟨self,many,pmd,normal,log,cmt,lds,std,jns,first,aks,hrd,out,dead,st⟩ b e) [] (by exact RL5) ⟨_,rfl⟩ rfl (.done (.same ((Z5z ⟨self,many,pmd,normal,log,cmt,lds,std,jns,first,aks,hrd,out,dead,st⟩ b e (h1.wk (by omega)) (by show log.length≤_;omega) vw0).cal fun q rs hq=>?_))))
   obtain⟨rfl,rfl⟩:=hq
   cases ha:Jv ⟨self,many,pmd,normal,log,cmt,lds,std,jns,first,aks,hrd,out,dead,st⟩ vw0 with
   | true =>
    rw[e1 hv ha,eA]
    refine .opn 0 _ _ _ rfl rfl rfl (.done ?_)
    refine EvIf.mk (fun h=>absurd h (by decide)) fun _=>?_
    refine EvIf.beq (fun _=>?_) fun h=>absurd rfl h
    refine EvIf.dec (fun _=>?_) fun h=>absurd (show vw0 > normal by omega) h
    refine EvIf.mk (fun _=>?_) fun h=>(by cases h)
    have hS:=Ve ⟨self,many,vw0,normal,log,cmt,false,false,jns,first,aks,hrd,out',dead',st'⟩ (cl (oLs st' e)) f ⟨2,vw0,normal,0,log⟩ (by show log.length≤_;omega) (by show out'.length≤_;omega)
    obtain⟨o,hs⟩:=(A8 ⟨self,many,vw0,normal,log,cmt,false,false,jns,first,aks,hrd,out',dead',st'⟩ f ⟨2,vw0,normal,0,log⟩).to
    rw[hs] at hS⊢
    refine hS.cal fun q rs hq=>?_
    obtain⟨rfl,rfl⟩:=hq
    exact .inl (A1 (oBs ⟨self,many,vw0,normal,log,cmt,false,false,jns,first,aks,hrd,o,dead',st'⟩ b e) [(1,6),(2,7),(3,10),(4,9)] (by exact RL5) rfl ⟨_,rfl⟩ rfl rfl ⟨rfl,false,rfl,fun _=>⟨fun _=>⟨rfl,by show normal < vw0;omega⟩,fun h=>(by cases h)⟩⟩)
   | false =>
    rw[e2 hv ha,eA]
    refine .done ?_
    refine EvIf.mk (fun _=>?_) fun h=>absurd h (by decide)
    exact .inl (A7 rfl rfl ⟨rfl,false,rfl,fun _=>⟨fun _=>⟨rfl,by show normal < vw0;omega⟩,fun h=>(by cases h)⟩⟩)
  refine EvIf.beq (fun(hw:vw0=pmd)=>?_) fun(hw:vw0≠pmd)=>?_
  ·refine EvIf.dec (fun(hx:vw0 > normal)=>?_) fun(hx:¬vw0 > normal)=>?_
   ·refine EvIf.mk (fun hl=>?_) fun hl=>?_
    ·have hl:lds=false:=by simpa using hl
     rw[e3 hv ⟨hw,hx,hl⟩]
     have hS:=Ve ⟨self,many,pmd,normal,log,cmt,lds,std,jns,first,aks,hrd,out,dead,st⟩ (cl (oLs st e)) f ⟨2,vw0,normal,0,log⟩ (by show log.length≤_;omega) (by show out.length≤_;omega)
     obtain⟨o,hs⟩:=(A8 ⟨self,many,pmd,normal,log,cmt,lds,std,jns,first,aks,hrd,out,dead,st⟩ f ⟨2,vw0,normal,0,log⟩).to
     rw[hs] at hS⊢
     refine hS.cal fun q rs hq=>?_
     obtain⟨rfl,rfl⟩:=hq
     exact .inl (A1 (oBs ⟨self,many,pmd,normal,log,cmt,lds,std,jns,first,aks,hrd,o,dead,st⟩ b e) [(3,6)] (by exact RL5) rfl ⟨_,rfl⟩ rfl rfl ⟨rfl,false,rfl,fun _=>⟨fun _=>hsh,fun h=>(by cases h)⟩⟩)
    ·rw[e4 hv (fun h=>by rw[h.2.2] at hl;cases hl)]
     exact .inl (A1 (oBs ⟨self,many,pmd,normal,log,cmt,lds,std,jns,first,aks,hrd,out,dead,st⟩ b e) [] (by exact RL5) rfl ⟨_,rfl⟩ rfl rfl ⟨rfl,false,rfl,fun _=>hsS⟩)
   ·rw[e4 hv (fun h=>hx h.2.1)]
    exact .inl (A1 (oBs ⟨self,many,pmd,normal,log,cmt,lds,std,jns,first,aks,hrd,out,dead,st⟩ b e) [] (by exact RL5) rfl ⟨_,rfl⟩ rfl rfl ⟨rfl,false,rfl,fun _=>hsS⟩)
  rw[e4 hv (fun h=>hw h.1)]
  exact .inl (A1 (oBs ⟨self,many,pmd,normal,log,cmt,lds,std,jns,first,aks,hrd,out,dead,st⟩ b e) [] (by exact RL5) rfl ⟨_,rfl⟩ rfl rfl ⟨rfl,false,rfl,fun _=>hsS⟩)
set_option maxHeartbeats 4000000 in
theorem X9 (k:Nat)(n:PN)(b e f:Nat)(m:RM)(h:WNk k n)(hsh:n.lds=true→n.std=true)(hm:okM m=true)(hk:m.kind=3):FnO Tryz.prog 73 [.ptr 0 0,gI f,.agg (enM m)] (cA n b e) fun g rs=>g=.tup []∧∃s,rs=cS s (A4 n f m) b e∧(n.dead=false→ShN s (A4 n f m)):=by
 obtain⟨self,many,pmd,normal,log,cmt,lds,std,jns,first,aks,hrd,out,dead,st⟩:=n
 obtain⟨kd,vw0,nm,nu,l⟩:=m
 have hk:kd=3:=hk
 subst hk
 obtain⟨h1,hkk,h2,h3,h4,h5,h6,h7,hnp,hst⟩:=h
 obtain⟨hm1,-,hml,hme⟩:=Ay hm
 dsimp only at h1 h2 h3 h4 h5 h6 h7 hsh hml hnp hme
 have hsS:ShN true ⟨self,many,pmd,normal,log,cmt,lds,std,jns,first,aks,hrd,out,dead,st⟩:=⟨fun h=>(by cases h),fun _ _=>hsh⟩
 have e1:vw0 ≥ pmd→vw0 > normal→Do ⟨self,many,pmd,normal,log,cmt,false,false,jns,first,aks,hrd,out,dead,st⟩ vw0 l=true→A4 ⟨self,many,pmd,normal,log,cmt,lds,std,jns,first,aks,hrd,out,dead,st⟩ f ⟨3,vw0,nm,nu,l⟩=Aq (C8 ⟨self,many,pmd,normal,log,cmt,false,false,jns,first,aks,hrd,out,dead,st⟩ vw0 l) f ⟨5,vw0,0,A5 l,[]⟩:=fun a b c=>by
  unfold A4;rw[if_neg (show ¬(3:Int)=1 by decide),if_pos rfl,if_pos ⟨a,b⟩,if_pos c]
 have e2:vw0 ≥ pmd→vw0 > normal→Do ⟨self,many,pmd,normal,log,cmt,false,false,jns,first,aks,hrd,out,dead,st⟩ vw0 l=false→A4 ⟨self,many,pmd,normal,log,cmt,lds,std,jns,first,aks,hrd,out,dead,st⟩ f ⟨3,vw0,nm,nu,l⟩=C8 ⟨self,many,pmd,normal,log,cmt,false,false,jns,first,aks,hrd,out,dead,st⟩ vw0 l:=fun a b c=>by
  unfold A4;rw[if_neg (show ¬(3:Int)=1 by decide),if_pos rfl,if_pos ⟨a,b⟩,if_neg (by rw[c];decide)]
 have e3:¬(vw0 ≥ pmd∧vw0 > normal)→(vw0=pmd∧vw0=normal)→A4 ⟨self,many,pmd,normal,log,cmt,lds,std,jns,first,aks,hrd,out,dead,st⟩ f ⟨3,vw0,nm,nu,l⟩=Aq ⟨self,many,pmd,normal,log,cmt,lds,std,jns,first,aks,hrd,out,dead,st⟩ f ⟨5,vw0,0,A5 log,[]⟩:=fun a b=>by unfold A4;rw[if_neg (show ¬(3:Int)=1 by decide),if_pos rfl,if_neg a,if_pos b]
 have e4:¬(vw0 ≥ pmd∧vw0 > normal)→¬(vw0=pmd∧vw0=normal)→A4 ⟨self,many,pmd,normal,log,cmt,lds,std,jns,first,aks,hrd,out,dead,st⟩ f ⟨3,vw0,nm,nu,l⟩=⟨self,many,pmd,normal,log,cmt,lds,std,jns,first,aks,hrd,out,dead,st⟩:=fun a b=>by unfold A4;rw[if_neg (show ¬(3:Int)=1 by decide),if_pos rfl,if_neg a,if_neg b]
 obtain⟨st',out',dead',eA,hol⟩:=Hw ⟨self,many,pmd,normal,log,cmt,false,false,jns,first,aks,hrd,out,dead,st⟩ vw0 l
 have hol:out'.length≤out.length:=hol
 have hdd:Do ⟨self,many,pmd,normal,log,cmt,false,false,jns,first,aks,hrd,out,dead,st⟩ vw0 l=false→dead'=true:=fun h=>by have:=J9 h;rw[eA] at this;exact this
 dsimp only at eA
 refine Bd Tryz.func73 (by kernel_rfl) rfl (Nat.le_of_ble_eq_true (by kernel_rfl)) (by kernel_rfl) (A6 (O:=oAs ⟨self,many,pmd,normal,log,cmt,lds,std,jns,first,aks,hrd,out,dead,st⟩ b e) (n0:=5) rfl) ?_
 refine EvIf.beq (fun(hf1:pmd=vw0)=>EvIf.beq (fun(hf2:normal=vw0)=>?_) fun(hf2:normal≠vw0)=>?_) fun(hf1:pmd≠vw0)=>?_
 all_goals
  refine EvIf.beq (fun h=>absurd h (by show ¬((3:Int)=1);decide)) fun _=>?_
  refine EvIf.beq (fun _=>?_) fun h=>absurd rfl h
  refine EvIf.dec (fun(hv:vw0 ≥ pmd)=>?_) fun(hv:¬vw0 ≥ pmd)=>?_
  ·refine EvIf.dec (fun(hn:vw0 > normal)=>?_) fun(hn:¬vw0 > normal)=>?_
   ·refine EvCall.gh (.seen 0 _ _ rfl (.close (oAs ⟨self,many,pmd,normal,log,cmt,false,false,jns,first,aks,hrd,out,dead,st⟩ b e) [] (by exact RL5) ⟨_,rfl⟩ rfl (.done (.same ((Z99 ⟨self,many,pmd,normal,log,cmt,false,false,jns,first,aks,hrd,out,dead,st⟩ b e (h1.wk (by omega)) vw0 l (by omega)).cal fun q rs hq=>?_)))))
    obtain⟨rfl,rfl⟩:=hq
    cases ha:Do ⟨self,many,pmd,normal,log,cmt,false,false,jns,first,aks,hrd,out,dead,st⟩ vw0 l with
    | true =>
     rw[e1 hv hn ha,eA]
     refine .opn 0 _ _ _ rfl rfl rfl (.done ?_)
     refine EvIf.mk (fun h=>absurd h (by decide)) fun _=>?_
     refine EvIf.beq (fun _=>?_) fun h=>absurd rfl h
     refine EvIf.beq (fun _=>?_) fun h=>absurd rfl h
     have hS:=L9 ⟨self,many,vw0,vw0,l,min cmt (A5 l),false,false,jns,first,aks,hrd,out',dead',st'⟩ (cl (oLs st' e)) f ⟨5,vw0,0,A5 l,[]⟩ (Nat.zero_le _) (by show out'.length≤_;omega)
     obtain⟨o,hs⟩:=(A8 ⟨self,many,vw0,vw0,l,min cmt (A5 l),false,false,jns,first,aks,hrd,out',dead',st'⟩ f ⟨5,vw0,0,A5 l,[]⟩).to
     rw[hs] at hS⊢
     refine hS.cal fun q rs hq=>?_
     obtain⟨rfl,rfl⟩:=hq
     exact .inl (A1 (oAs ⟨self,many,vw0,vw0,l,min cmt (A5 l),false,false,jns,first,aks,hrd,o,dead',st'⟩ b e) [(1,6),(2,7),(3,10),(4,9)] (by exact RL5) rfl ⟨_,rfl⟩ rfl rfl ⟨rfl,true,rfl,fun _=>⟨fun h=>(by cases h),fun _ _ h=>(by cases h)⟩⟩)
    | false =>
     have hd:=hdd ha
     rw[e2 hv hn ha,eA]
     refine .done ?_
     refine EvIf.mk (fun _=>?_) fun h=>absurd h (by decide)
     exact .inl (A7 rfl rfl ⟨rfl,true,rfl,fun _=>⟨fun h=>(by cases h),fun _ h=>absurd (show dead'=false from h) (by rw[hd];decide)⟩⟩)
   ·have hab:¬(vw0 ≥ pmd∧vw0 > normal):=fun h=>hn h.2
    refine EvIf.beq (fun(hw:vw0=pmd)=>?_) fun(hw:vw0≠pmd)=>?_
    ·refine EvIf.beq (fun(hx:vw0=normal)=>?_) fun(hx:vw0≠normal)=>?_
     ·rw[e3 hab ⟨hw,hx⟩]
      have hS:=L9 ⟨self,many,pmd,normal,log,cmt,lds,std,jns,first,aks,hrd,out,dead,st⟩ (cl (oLs st e)) f ⟨5,vw0,0,A5 log,[]⟩ (Nat.zero_le _) (by show out.length≤_;omega)
      obtain⟨o,hs⟩:=(A8 ⟨self,many,pmd,normal,log,cmt,lds,std,jns,first,aks,hrd,out,dead,st⟩ f ⟨5,vw0,0,A5 log,[]⟩).to
      rw[hs] at hS⊢
      refine hS.cal fun q rs hq=>?_
      obtain⟨rfl,rfl⟩:=hq
      exact .inl (A1 (oAs ⟨self,many,pmd,normal,log,cmt,lds,std,jns,first,aks,hrd,o,dead,st⟩ b e) [(3,6)] (by exact RL5) rfl ⟨_,rfl⟩ rfl rfl ⟨rfl,true,rfl,fun _=>⟨fun h=>(by cases h),fun _ _=>hsh⟩⟩)
     ·rw[e4 hab (fun h=>hx h.2)]
      exact .inl (A1 (oAs ⟨self,many,pmd,normal,log,cmt,lds,std,jns,first,aks,hrd,out,dead,st⟩ b e) [] (by exact RL5) rfl ⟨_,rfl⟩ rfl rfl ⟨rfl,true,rfl,fun _=>hsS⟩)
    rw[e4 hab (fun h=>hw h.1)]
    exact .inl (A1 (oAs ⟨self,many,pmd,normal,log,cmt,lds,std,jns,first,aks,hrd,out,dead,st⟩ b e) [] (by exact RL5) rfl ⟨_,rfl⟩ rfl rfl ⟨rfl,true,rfl,fun _=>hsS⟩)
  have hab:¬(vw0 ≥ pmd∧vw0 > normal):=fun h=>hv h.1
  refine EvIf.beq (fun(hw:vw0=pmd)=>?_) fun(hw:vw0≠pmd)=>?_
  ·refine EvIf.beq (fun(hx:vw0=normal)=>?_) fun(hx:vw0≠normal)=>?_
   ·rw[e3 hab ⟨hw,hx⟩]
    have hS:=L9 ⟨self,many,pmd,normal,log,cmt,lds,std,jns,first,aks,hrd,out,dead,st⟩ (cl (oLs st e)) f ⟨5,vw0,0,A5 log,[]⟩ (Nat.zero_le _) (by show out.length≤_;omega)
    obtain⟨o,hs⟩:=(A8 ⟨self,many,pmd,normal,log,cmt,lds,std,jns,first,aks,hrd,out,dead,st⟩ f ⟨5,vw0,0,A5 log,[]⟩).to
    rw[hs] at hS⊢
    refine hS.cal fun q rs hq=>?_
    obtain⟨rfl,rfl⟩:=hq
    exact .inl (A1 (oAs ⟨self,many,pmd,normal,log,cmt,lds,std,jns,first,aks,hrd,o,dead,st⟩ b e) [(3,6)] (by exact RL5) rfl ⟨_,rfl⟩ rfl rfl ⟨rfl,true,rfl,fun _=>⟨fun h=>(by cases h),fun _ _=>hsh⟩⟩)
   ·rw[e4 hab (fun h=>hx h.2)]
    exact .inl (A1 (oAs ⟨self,many,pmd,normal,log,cmt,lds,std,jns,first,aks,hrd,out,dead,st⟩ b e) [] (by exact RL5) rfl ⟨_,rfl⟩ rfl rfl ⟨rfl,true,rfl,fun _=>hsS⟩)
  rw[e4 hab (fun h=>hw h.1)]
  exact .inl (A1 (oAs ⟨self,many,pmd,normal,log,cmt,lds,std,jns,first,aks,hrd,out,dead,st⟩ b e) [] (by exact RL5) rfl ⟨_,rfl⟩ rfl rfl ⟨rfl,true,rfl,fun _=>hsS⟩)
set_option maxHeartbeats 4000000 in
theorem Wx (k:Nat)(n:PN)(b e f:Nat)(m:RM)(h:WNk k n)(hsh:n.std=false∧n.normal < n.pmd)(hm:okM m=true)(hk:m.kind=3):FnO Tryz.prog 73 [.ptr 0 0,gI f,.agg (enM m)] (cB n b e) fun g rs=>g=.tup []∧∃s,rs=cS s (A4 n f m) b e∧(n.dead=false→ShN s (A4 n f m)):=by
 obtain⟨self,many,pmd,normal,log,cmt,lds,std,jns,first,aks,hrd,out,dead,st⟩:=n
 obtain⟨kd,vw0,nm,nu,l⟩:=m
 have hk:kd=3:=hk
 subst hk
 obtain⟨h1,hkk,h2,h3,h4,h5,h6,h7,hnp,hst⟩:=h
 obtain⟨hm1,-,hml,hme⟩:=Ay hm
 dsimp only at h1 h2 h3 h4 h5 h6 h7 hsh hml hnp hme
 have hsS:ShN false ⟨self,many,pmd,normal,log,cmt,lds,std,jns,first,aks,hrd,out,dead,st⟩:=⟨fun _=>hsh,fun h=>(by cases h)⟩
 have e1:vw0 ≥ pmd→vw0 > normal→Do ⟨self,many,pmd,normal,log,cmt,false,false,jns,first,aks,hrd,out,dead,st⟩ vw0 l=true→A4 ⟨self,many,pmd,normal,log,cmt,lds,std,jns,first,aks,hrd,out,dead,st⟩ f ⟨3,vw0,nm,nu,l⟩=Aq (C8 ⟨self,many,pmd,normal,log,cmt,false,false,jns,first,aks,hrd,out,dead,st⟩ vw0 l) f ⟨5,vw0,0,A5 l,[]⟩:=fun a b c=>by
  unfold A4;rw[if_neg (show ¬(3:Int)=1 by decide),if_pos rfl,if_pos ⟨a,b⟩,if_pos c]
 have e2:vw0 ≥ pmd→vw0 > normal→Do ⟨self,many,pmd,normal,log,cmt,false,false,jns,first,aks,hrd,out,dead,st⟩ vw0 l=false→A4 ⟨self,many,pmd,normal,log,cmt,lds,std,jns,first,aks,hrd,out,dead,st⟩ f ⟨3,vw0,nm,nu,l⟩=C8 ⟨self,many,pmd,normal,log,cmt,false,false,jns,first,aks,hrd,out,dead,st⟩ vw0 l:=fun a b c=>by
  unfold A4;rw[if_neg (show ¬(3:Int)=1 by decide),if_pos rfl,if_pos ⟨a,b⟩,if_neg (by rw[c];decide)]
 have e3:¬(vw0 ≥ pmd∧vw0 > normal)→(vw0=pmd∧vw0=normal)→A4 ⟨self,many,pmd,normal,log,cmt,lds,std,jns,first,aks,hrd,out,dead,st⟩ f ⟨3,vw0,nm,nu,l⟩=Aq ⟨self,many,pmd,normal,log,cmt,lds,std,jns,first,aks,hrd,out,dead,st⟩ f ⟨5,vw0,0,A5 log,[]⟩:=fun a b=>by unfold A4;rw[if_neg (show ¬(3:Int)=1 by decide),if_pos rfl,if_neg a,if_pos b]
 have e4:¬(vw0 ≥ pmd∧vw0 > normal)→¬(vw0=pmd∧vw0=normal)→A4 ⟨self,many,pmd,normal,log,cmt,lds,std,jns,first,aks,hrd,out,dead,st⟩ f ⟨3,vw0,nm,nu,l⟩=⟨self,many,pmd,normal,log,cmt,lds,std,jns,first,aks,hrd,out,dead,st⟩:=fun a b=>by unfold A4;rw[if_neg (show ¬(3:Int)=1 by decide),if_pos rfl,if_neg a,if_neg b]
 obtain⟨st',out',dead',eA,hol⟩:=Hw ⟨self,many,pmd,normal,log,cmt,false,false,jns,first,aks,hrd,out,dead,st⟩ vw0 l
 have hol:out'.length≤out.length:=hol
 have hdd:Do ⟨self,many,pmd,normal,log,cmt,false,false,jns,first,aks,hrd,out,dead,st⟩ vw0 l=false→dead'=true:=fun h=>by have:=J9 h;rw[eA] at this;exact this
 dsimp only at eA
 refine Bd Tryz.func73 (by kernel_rfl) rfl (Nat.le_of_ble_eq_true (by kernel_rfl)) (by kernel_rfl) (A6 (O:=oBs ⟨self,many,pmd,normal,log,cmt,lds,std,jns,first,aks,hrd,out,dead,st⟩ b e) (n0:=5) rfl) ?_
 refine EvIf.beq (fun(hf1:pmd=vw0)=>EvIf.beq (fun(hf2:normal=vw0)=>?_) fun(hf2:normal≠vw0)=>?_) fun(hf1:pmd≠vw0)=>?_
 all_goals
  refine EvIf.beq (fun h=>absurd h (by show ¬((3:Int)=1);decide)) fun _=>?_
  refine EvIf.beq (fun _=>?_) fun h=>absurd rfl h
  refine EvIf.dec (fun(hv:vw0 ≥ pmd)=>?_) fun(hv:¬vw0 ≥ pmd)=>?_
  ·refine EvIf.dec (fun(hn:vw0 > normal)=>?_) fun(hn:¬vw0 > normal)=>?_
   ·refine EvCall.gh (.seen 0 _ _ rfl (.close (oBs ⟨self,many,pmd,normal,log,cmt,false,false,jns,first,aks,hrd,out,dead,st⟩ b e) [] (by exact RL5) ⟨_,rfl⟩ rfl (.done (.same ((Z13 ⟨self,many,pmd,normal,log,cmt,false,false,jns,first,aks,hrd,out,dead,st⟩ b e (h1.wk (by omega)) vw0 l (by omega)).cal fun q rs hq=>?_)))))
    obtain⟨rfl,rfl⟩:=hq
    cases ha:Do ⟨self,many,pmd,normal,log,cmt,false,false,jns,first,aks,hrd,out,dead,st⟩ vw0 l with
    | true =>
     rw[e1 hv hn ha,eA]
     refine .opn 0 _ _ _ rfl rfl rfl (.done ?_)
     refine EvIf.mk (fun h=>absurd h (by decide)) fun _=>?_
     refine EvIf.beq (fun _=>?_) fun h=>absurd rfl h
     refine EvIf.beq (fun _=>?_) fun h=>absurd rfl h
     have hS:=L9 ⟨self,many,vw0,vw0,l,min cmt (A5 l),false,false,jns,first,aks,hrd,out',dead',st'⟩ (cl (oLs st' e)) f ⟨5,vw0,0,A5 l,[]⟩ (Nat.zero_le _) (by show out'.length≤_;omega)
     obtain⟨o,hs⟩:=(A8 ⟨self,many,vw0,vw0,l,min cmt (A5 l),false,false,jns,first,aks,hrd,out',dead',st'⟩ f ⟨5,vw0,0,A5 l,[]⟩).to
     rw[hs] at hS⊢
     refine hS.cal fun q rs hq=>?_
     obtain⟨rfl,rfl⟩:=hq
     exact .inl (A1 (oAs ⟨self,many,vw0,vw0,l,min cmt (A5 l),false,false,jns,first,aks,hrd,o,dead',st'⟩ b e) [(1,6),(2,7),(3,10),(4,9)] (by exact RL5) rfl ⟨_,rfl⟩ rfl rfl ⟨rfl,true,rfl,fun _=>⟨fun h=>(by cases h),fun _ _ h=>(by cases h)⟩⟩)
    | false =>
     have hd:=hdd ha
     rw[e2 hv hn ha,eA]
     refine .done ?_
     refine EvIf.mk (fun _=>?_) fun h=>absurd h (by decide)
     exact .inl (A7 rfl rfl ⟨rfl,true,rfl,fun _=>⟨fun h=>(by cases h),fun _ h=>absurd (show dead'=false from h) (by rw[hd];decide)⟩⟩)
   ·have hab:¬(vw0 ≥ pmd∧vw0 > normal):=fun h=>hn h.2
    refine EvIf.beq (fun(hw:vw0=pmd)=>?_) fun(hw:vw0≠pmd)=>?_
    ·refine EvIf.beq (fun(hx:vw0=normal)=>absurd hsh.2 (by omega)) fun(hx:vw0≠normal)=>?_
     rw[e4 hab (fun h=>hx h.2)]
     exact .inl (A1 (oBs ⟨self,many,pmd,normal,log,cmt,lds,std,jns,first,aks,hrd,out,dead,st⟩ b e) [] (by exact RL5) rfl ⟨_,rfl⟩ rfl rfl ⟨rfl,false,rfl,fun _=>hsS⟩)
    rw[e4 hab (fun h=>hw h.1)]
    exact .inl (A1 (oBs ⟨self,many,pmd,normal,log,cmt,lds,std,jns,first,aks,hrd,out,dead,st⟩ b e) [] (by exact RL5) rfl ⟨_,rfl⟩ rfl rfl ⟨rfl,false,rfl,fun _=>hsS⟩)
  have hab:¬(vw0 ≥ pmd∧vw0 > normal):=fun h=>hv h.1
  refine EvIf.beq (fun(hw:vw0=pmd)=>?_) fun(hw:vw0≠pmd)=>?_
  ·refine EvIf.beq (fun(hx:vw0=normal)=>absurd hsh.2 (by omega)) fun(hx:vw0≠normal)=>?_
   rw[e4 hab (fun h=>hx h.2)]
   exact .inl (A1 (oBs ⟨self,many,pmd,normal,log,cmt,lds,std,jns,first,aks,hrd,out,dead,st⟩ b e) [] (by exact RL5) rfl ⟨_,rfl⟩ rfl rfl ⟨rfl,false,rfl,fun _=>hsS⟩)
  rw[e4 hab (fun h=>hw h.1)]
  exact .inl (A1 (oBs ⟨self,many,pmd,normal,log,cmt,lds,std,jns,first,aks,hrd,out,dead,st⟩ b e) [] (by exact RL5) rfl ⟨_,rfl⟩ rfl rfl ⟨rfl,false,rfl,fun _=>hsS⟩)
set_option maxHeartbeats 4000000 in
theorem Wy (k:Nat)(n:PN)(b e f:Nat)(m:RM)(h:WNk k n)(hsh:n.lds=true→n.std=true)(hm:okM m=true)(hk:m.kind=4):FnO Tryz.prog 73 [.ptr 0 0,gI f,.agg (enM m)] (cA n b e) fun g rs=>g=.tup []∧∃s,rs=cS s (A4 n f m) b e∧(n.dead=false→ShN s (A4 n f m)):=by
 obtain⟨self,many,pmd,normal,log,cmt,lds,std,jns,first,aks,hrd,out,dead,st⟩:=n
 obtain⟨kd,vw0,nm,nu,l⟩:=m
 have hk:kd=4:=hk
 subst hk
 obtain⟨h1,hkk,h2,h3,h4,h5,h6,h7,hnp,hst⟩:=h
 obtain⟨hm1,-,hml,hme⟩:=Ay hm
 dsimp only at h1 h2 h3 h4 h5 h6 h7 hsh hml hnp hme
 have hsS:ShN true ⟨self,many,pmd,normal,log,cmt,lds,std,jns,first,aks,hrd,out,dead,st⟩:=⟨fun h=>(by cases h),fun _ _=>hsh⟩
 have e1:pmd=vw0→normal=vw0→lds=false→(Aj l (vw 1 log) ⟨self,many,pmd,normal,log,cmt,lds,std,jns,first,aks,hrd,out,dead,st⟩).2=true→A4 ⟨self,many,pmd,normal,log,cmt,lds,std,jns,first,aks,hrd,out,dead,st⟩ f ⟨4,vw0,nm,nu,l⟩=Aq (Aj l (vw 1 log) ⟨self,many,pmd,normal,log,cmt,lds,std,jns,first,aks,hrd,out,dead,st⟩).1 f ⟨5,vw0,0,A5 (Aj l (vw 1 log) ⟨self,many,pmd,normal,log,cmt,lds,std,jns,first,aks,hrd,out,dead,st⟩).1.log,[]⟩:=fun a b c d=>by
  unfold A4;rw[if_neg (show ¬(4:Int)=1 by decide),if_neg (show ¬(4:Int)=3 by decide),if_pos rfl,if_pos ⟨a,b,c⟩];dsimp only;rw[if_pos d]
 have e2:pmd=vw0→normal=vw0→lds=false→(Aj l (vw 1 log) ⟨self,many,pmd,normal,log,cmt,lds,std,jns,first,aks,hrd,out,dead,st⟩).2=false→A4 ⟨self,many,pmd,normal,log,cmt,lds,std,jns,first,aks,hrd,out,dead,st⟩ f ⟨4,vw0,nm,nu,l⟩=(Aj l (vw 1 log) ⟨self,many,pmd,normal,log,cmt,lds,std,jns,first,aks,hrd,out,dead,st⟩).1:=fun a b c d=>by
  unfold A4;rw[if_neg (show ¬(4:Int)=1 by decide),if_neg (show ¬(4:Int)=3 by decide),if_pos rfl,if_pos ⟨a,b,c⟩];dsimp only;rw[if_neg (by rw[d];decide)]
 have e4:¬(pmd=vw0∧normal=vw0∧lds=false)→A4 ⟨self,many,pmd,normal,log,cmt,lds,std,jns,first,aks,hrd,out,dead,st⟩ f ⟨4,vw0,nm,nu,l⟩=⟨self,many,pmd,normal,log,cmt,lds,std,jns,first,aks,hrd,out,dead,st⟩:=fun a=>by unfold A4;rw[if_neg (show ¬(4:Int)=1 by decide),if_neg (show ¬(4:Int)=3 by decide),if_pos rfl,if_neg a]
 obtain⟨log',st',out',dead',eA,hol⟩:=Gj l (vw 1 log) ⟨self,many,pmd,normal,log,cmt,lds,std,jns,first,aks,hrd,out,dead,st⟩
 have hol:out'.length≤out.length:=hol
 dsimp only at eA
 refine Bd Tryz.func73 (by kernel_rfl) rfl (Nat.le_of_ble_eq_true (by kernel_rfl)) (by kernel_rfl) (A6 (O:=oAs ⟨self,many,pmd,normal,log,cmt,lds,std,jns,first,aks,hrd,out,dead,st⟩ b e) (n0:=5) rfl) ?_
 refine EvIf.beq (fun(hf1:pmd=vw0)=>?_) fun(hf1:pmd≠vw0)=>?_
 ·refine EvIf.beq (fun(hf2:normal=vw0)=>?_) fun(hf2:normal≠vw0)=>?_
  ·skip
   refine EvIf.beq (fun h=>absurd h (by show ¬((4:Int)=1);decide)) fun _=>?_
   refine EvIf.beq (fun h=>absurd h (by show ¬((4:Int)=3);decide)) fun _=>?_
   refine EvIf.beq (fun _=>?_) fun h=>absurd rfl h
   refine EvIf.mk (fun hl=>?_) fun hl=>?_
   ·have hl:lds=false:=by simpa using hl
    refine EvCall.gh (.close (oAs ⟨self,many,pmd,normal,log,cmt,lds,std,jns,first,aks,hrd,out,dead,st⟩ b e) [] (by exact RL5) ⟨_,rfl⟩ rfl (.done (.same ((Z33 k ⟨self,many,pmd,normal,log,cmt,lds,std,jns,first,aks,hrd,out,dead,st⟩ b e h1 hkk h5 l hml (fun x hx=>(hme x hx).1.2)).cal fun q rs hq=>?_))))
    obtain⟨rfl,rfl⟩:=hq
    cases ha:(Aj l (vw 1 log) ⟨self,many,pmd,normal,log,cmt,lds,std,jns,first,aks,hrd,out,dead,st⟩).2 with
    | true =>
     rw[e1 hf1 hf2 hl ha,eA]
     refine .opn 0 _ _ _ rfl rfl rfl (.done ?_)
     refine EvIf.mk (fun _=>?_) fun h=>(by cases h)
     have hS:=L9 ⟨self,many,pmd,normal,log',cmt,lds,std,jns,first,aks,hrd,out',dead',st'⟩ (cl (oLs st' e)) f ⟨5,vw0,0,A5 log',[]⟩ (Nat.zero_le _) (by show out'.length≤_;omega)
     obtain⟨o,hs⟩:=(A8 ⟨self,many,pmd,normal,log',cmt,lds,std,jns,first,aks,hrd,out',dead',st'⟩ f ⟨5,vw0,0,A5 log',[]⟩).to
     rw[hs] at hS⊢
     refine hS.cal fun q rs hq=>?_
     obtain⟨rfl,rfl⟩:=hq
     exact .inl (A1 (oAs ⟨self,many,pmd,normal,log',cmt,lds,std,jns,first,aks,hrd,o,dead',st'⟩ b e) [(1,6),(2,7),(3,10),(4,9)] (by exact RL5) rfl ⟨_,rfl⟩ rfl rfl ⟨rfl,true,rfl,fun _=>⟨fun h=>(by cases h),fun _ _=>hsh⟩⟩)
    | false =>
     rw[e2 hf1 hf2 hl ha,eA]
     refine .done ?_
     refine EvIf.mk (fun h=>(by cases h)) fun _=>?_
     exact .inl (A7 rfl rfl ⟨rfl,true,rfl,fun _=>⟨fun h=>(by cases h),fun _ _=>hsh⟩⟩)
   rw[e4 (fun h=>by rw[h.2.2] at hl;cases hl)]
   exact .inl (A1 (oAs ⟨self,many,pmd,normal,log,cmt,lds,std,jns,first,aks,hrd,out,dead,st⟩ b e) [] (by exact RL5) rfl ⟨_,rfl⟩ rfl rfl ⟨rfl,true,rfl,fun _=>hsS⟩)
  ·skip
   refine EvIf.beq (fun h=>absurd h (by show ¬((4:Int)=1);decide)) fun _=>?_
   refine EvIf.beq (fun h=>absurd h (by show ¬((4:Int)=3);decide)) fun _=>?_
   refine EvIf.beq (fun _=>?_) fun h=>absurd rfl h
   rw[e4 (fun h=>hf2 h.2.1)]
   exact .inl (A1 (oAs ⟨self,many,pmd,normal,log,cmt,lds,std,jns,first,aks,hrd,out,dead,st⟩ b e) [] (by exact RL5) rfl ⟨_,rfl⟩ rfl rfl ⟨rfl,true,rfl,fun _=>hsS⟩)
 ·skip
  refine EvIf.beq (fun h=>absurd h (by show ¬((4:Int)=1);decide)) fun _=>?_
  refine EvIf.beq (fun h=>absurd h (by show ¬((4:Int)=3);decide)) fun _=>?_
  refine EvIf.beq (fun _=>?_) fun h=>absurd rfl h
  rw[e4 (fun h=>hf1 h.1)]
  exact .inl (A1 (oAs ⟨self,many,pmd,normal,log,cmt,lds,std,jns,first,aks,hrd,out,dead,st⟩ b e) [] (by exact RL5) rfl ⟨_,rfl⟩ rfl rfl ⟨rfl,true,rfl,fun _=>hsS⟩)
set_option maxHeartbeats 4000000 in
theorem W8 (k:Nat)(n:PN)(b e f:Nat)(m:RM)(h:WNk k n)(hsh:n.std=false∧n.normal < n.pmd)(hm:okM m=true)(hk:m.kind=4):FnO Tryz.prog 73 [.ptr 0 0,gI f,.agg (enM m)] (cB n b e) fun g rs=>g=.tup []∧∃s,rs=cS s (A4 n f m) b e∧(n.dead=false→ShN s (A4 n f m)):=by
 obtain⟨self,many,pmd,normal,log,cmt,lds,std,jns,first,aks,hrd,out,dead,st⟩:=n
 obtain⟨kd,vw0,nm,nu,l⟩:=m
 have hk:kd=4:=hk
 subst hk
 obtain⟨h1,hkk,h2,h3,h4,h5,h6,h7,hnp,hst⟩:=h
 obtain⟨hm1,-,hml,hme⟩:=Ay hm
 dsimp only at h1 h2 h3 h4 h5 h6 h7 hsh hml hnp hme
 have hsS:ShN false ⟨self,many,pmd,normal,log,cmt,lds,std,jns,first,aks,hrd,out,dead,st⟩:=⟨fun _=>hsh,fun h=>(by cases h)⟩
 have e4:A4 ⟨self,many,pmd,normal,log,cmt,lds,std,jns,first,aks,hrd,out,dead,st⟩ f ⟨4,vw0,nm,nu,l⟩=⟨self,many,pmd,normal,log,cmt,lds,std,jns,first,aks,hrd,out,dead,st⟩:=by unfold A4;rw[if_neg (show ¬(4:Int)=1 by decide),if_neg (show ¬(4:Int)=3 by decide),if_pos rfl,if_neg (fun h=>absurd hsh.2 (by have h1:pmd=vw0:=h.1;have h2:normal=vw0:=h.2.1;omega))]
 rw[e4]
 refine Bd Tryz.func73 (by kernel_rfl) rfl (Nat.le_of_ble_eq_true (by kernel_rfl)) (by kernel_rfl) (A6 (O:=oBs ⟨self,many,pmd,normal,log,cmt,lds,std,jns,first,aks,hrd,out,dead,st⟩ b e) (n0:=5) rfl) ?_
 refine EvIf.beq (fun(hf1:pmd=vw0)=>?_) fun(hf1:pmd≠vw0)=>?_
 ·refine EvIf.beq (fun(hf2:normal=vw0)=>absurd hsh.2 (by omega)) fun(hf2:normal≠vw0)=>?_
  refine EvIf.beq (fun h=>absurd h (by show ¬((4:Int)=1);decide)) fun _=>?_
  refine EvIf.beq (fun h=>absurd h (by show ¬((4:Int)=3);decide)) fun _=>?_
  refine EvIf.beq (fun _=>?_) fun h=>absurd rfl h
  exact .inl (A1 (oBs ⟨self,many,pmd,normal,log,cmt,lds,std,jns,first,aks,hrd,out,dead,st⟩ b e) [] (by exact RL5) rfl ⟨_,rfl⟩ rfl rfl ⟨rfl,false,rfl,fun _=>hsS⟩)
 ·skip
  refine EvIf.beq (fun h=>absurd h (by show ¬((4:Int)=1);decide)) fun _=>?_
  refine EvIf.beq (fun h=>absurd h (by show ¬((4:Int)=3);decide)) fun _=>?_
  refine EvIf.beq (fun _=>?_) fun h=>absurd rfl h
  exact .inl (A1 (oBs ⟨self,many,pmd,normal,log,cmt,lds,std,jns,first,aks,hrd,out,dead,st⟩ b e) [] (by exact RL5) rfl ⟨_,rfl⟩ rfl rfl ⟨rfl,false,rfl,fun _=>hsS⟩)
set_option maxHeartbeats 4000000 in
theorem Wt (k:Nat)(n:PN)(b e f:Nat)(m:RM)(h:WNk k n)(hsh:n.lds=true→n.std=true)(hm:okM m=true)(hk:m.kind=6):FnO Tryz.prog 73 [.ptr 0 0,gI f,.agg (enM m)] (cA n b e) fun g rs=>g=.tup []∧∃s,rs=cS s (A4 n f m) b e∧(n.dead=false→ShN s (A4 n f m)):=by
 obtain⟨self,many,pmd,normal,log,cmt,lds,std,jns,first,aks,hrd,out,dead,st⟩:=n
 obtain⟨kd,vw0,nm,nu,l⟩:=m
 have hk:kd=6:=hk
 subst hk
 obtain⟨h1,hkk,h2,h3,h4,h5,h6,h7,hnp,hst⟩:=h
 obtain⟨hm1,-,hml,hme⟩:=Ay hm
 dsimp only at h1 h2 h3 h4 h5 h6 h7 hsh hml hnp hme
 have hsS:ShN true ⟨self,many,pmd,normal,log,cmt,lds,std,jns,first,aks,hrd,out,dead,st⟩:=⟨fun h=>(by cases h),fun _ _=>hsh⟩
 have e1:pmd=vw0→normal=vw0→lds=false→A4 ⟨self,many,pmd,normal,log,cmt,lds,std,jns,first,aks,hrd,out,dead,st⟩ f ⟨6,vw0,nm,nu,l⟩=⟨self,many,pmd,normal,log,max cmt (min nu (A5 log)),lds,std,jns,first,aks,hrd,out,dead,st⟩:=fun a b c=>by
  unfold A4;rw[if_neg (show ¬(6:Int)=1 by decide),if_neg (show ¬(6:Int)=3 by decide),if_neg (show ¬(6:Int)=4 by decide),if_pos rfl,if_pos ⟨a,b,c⟩]
 have e4:¬(pmd=vw0∧normal=vw0∧lds=false)→A4 ⟨self,many,pmd,normal,log,cmt,lds,std,jns,first,aks,hrd,out,dead,st⟩ f ⟨6,vw0,nm,nu,l⟩=⟨self,many,pmd,normal,log,cmt,lds,std,jns,first,aks,hrd,out,dead,st⟩:=fun a=>by unfold A4;rw[if_neg (show ¬(6:Int)=1 by decide),if_neg (show ¬(6:Int)=3 by decide),if_neg (show ¬(6:Int)=4 by decide),if_pos rfl,if_neg a]
 refine Bd Tryz.func73 (by kernel_rfl) rfl (Nat.le_of_ble_eq_true (by kernel_rfl)) (by kernel_rfl) (A6 (O:=oAs ⟨self,many,pmd,normal,log,cmt,lds,std,jns,first,aks,hrd,out,dead,st⟩ b e) (n0:=5) rfl) ?_
 refine EvIf.beq (fun(hf1:pmd=vw0)=>?_) fun(hf1:pmd≠vw0)=>?_
 ·refine EvIf.beq (fun(hf2:normal=vw0)=>?_) fun(hf2:normal≠vw0)=>?_
  ·skip
   refine EvIf.beq (fun h=>absurd h (by show ¬((6:Int)=1);decide)) fun _=>?_
   refine EvIf.beq (fun h=>absurd h (by show ¬((6:Int)=3);decide)) fun _=>?_
   refine EvIf.beq (fun h=>absurd h (by show ¬((6:Int)=4);decide)) fun _=>?_
   refine EvIf.beq (fun _=>?_) fun h=>absurd rfl h
   refine EvIf.mk (fun hl=>?_) fun hl=>?_
   ·have hl:lds=false:=by simpa using hl
    rw[e1 hf1 hf2 hl]
    exact .inl (A1 (oAs ⟨self,many,pmd,normal,log,max cmt (min nu (A5 log)),lds,std,jns,first,aks,hrd,out,dead,st⟩ b e) [] (by exact RL5) rfl ⟨_,rfl⟩ rfl rfl ⟨rfl,true,rfl,fun _=>⟨fun h=>(by cases h),fun _ _=>hsh⟩⟩)
   rw[e4 (fun h=>by rw[h.2.2] at hl;cases hl)]
   exact .inl (A1 (oAs ⟨self,many,pmd,normal,log,cmt,lds,std,jns,first,aks,hrd,out,dead,st⟩ b e) [] (by exact RL5) rfl ⟨_,rfl⟩ rfl rfl ⟨rfl,true,rfl,fun _=>hsS⟩)
  ·skip
   refine EvIf.beq (fun h=>absurd h (by show ¬((6:Int)=1);decide)) fun _=>?_
   refine EvIf.beq (fun h=>absurd h (by show ¬((6:Int)=3);decide)) fun _=>?_
   refine EvIf.beq (fun h=>absurd h (by show ¬((6:Int)=4);decide)) fun _=>?_
   refine EvIf.beq (fun _=>?_) fun h=>absurd rfl h
   rw[e4 (fun h=>hf2 h.2.1)]
   exact .inl (A1 (oAs ⟨self,many,pmd,normal,log,cmt,lds,std,jns,first,aks,hrd,out,dead,st⟩ b e) [] (by exact RL5) rfl ⟨_,rfl⟩ rfl rfl ⟨rfl,true,rfl,fun _=>hsS⟩)
 ·skip
  refine EvIf.beq (fun h=>absurd h (by show ¬((6:Int)=1);decide)) fun _=>?_
  refine EvIf.beq (fun h=>absurd h (by show ¬((6:Int)=3);decide)) fun _=>?_
  refine EvIf.beq (fun h=>absurd h (by show ¬((6:Int)=4);decide)) fun _=>?_
  refine EvIf.beq (fun _=>?_) fun h=>absurd rfl h
  rw[e4 (fun h=>hf1 h.1)]
  exact .inl (A1 (oAs ⟨self,many,pmd,normal,log,cmt,lds,std,jns,first,aks,hrd,out,dead,st⟩ b e) [] (by exact RL5) rfl ⟨_,rfl⟩ rfl rfl ⟨rfl,true,rfl,fun _=>hsS⟩)
set_option maxHeartbeats 4000000 in
theorem Wq (k:Nat)(n:PN)(b e f:Nat)(m:RM)(h:WNk k n)(hsh:n.std=false∧n.normal < n.pmd)(hm:okM m=true)(hk:m.kind=6):FnO Tryz.prog 73 [.ptr 0 0,gI f,.agg (enM m)] (cB n b e) fun g rs=>g=.tup []∧∃s,rs=cS s (A4 n f m) b e∧(n.dead=false→ShN s (A4 n f m)):=by
 obtain⟨self,many,pmd,normal,log,cmt,lds,std,jns,first,aks,hrd,out,dead,st⟩:=n
 obtain⟨kd,vw0,nm,nu,l⟩:=m
 have hk:kd=6:=hk
 subst hk
 obtain⟨h1,hkk,h2,h3,h4,h5,h6,h7,hnp,hst⟩:=h
 obtain⟨hm1,-,hml,hme⟩:=Ay hm
 dsimp only at h1 h2 h3 h4 h5 h6 h7 hsh hml hnp hme
 have hsS:ShN false ⟨self,many,pmd,normal,log,cmt,lds,std,jns,first,aks,hrd,out,dead,st⟩:=⟨fun _=>hsh,fun h=>(by cases h)⟩
 have e4:A4 ⟨self,many,pmd,normal,log,cmt,lds,std,jns,first,aks,hrd,out,dead,st⟩ f ⟨6,vw0,nm,nu,l⟩=⟨self,many,pmd,normal,log,cmt,lds,std,jns,first,aks,hrd,out,dead,st⟩:=by unfold A4;rw[if_neg (show ¬(6:Int)=1 by decide),if_neg (show ¬(6:Int)=3 by decide),if_neg (show ¬(6:Int)=4 by decide),if_pos rfl,if_neg (fun h=>absurd hsh.2 (by have h1:pmd=vw0:=h.1;have h2:normal=vw0:=h.2.1;omega))]
 rw[e4]
 refine Bd Tryz.func73 (by kernel_rfl) rfl (Nat.le_of_ble_eq_true (by kernel_rfl)) (by kernel_rfl) (A6 (O:=oBs ⟨self,many,pmd,normal,log,cmt,lds,std,jns,first,aks,hrd,out,dead,st⟩ b e) (n0:=5) rfl) ?_
 refine EvIf.beq (fun(hf1:pmd=vw0)=>?_) fun(hf1:pmd≠vw0)=>?_
 ·refine EvIf.beq (fun(hf2:normal=vw0)=>absurd hsh.2 (by omega)) fun(hf2:normal≠vw0)=>?_
  refine EvIf.beq (fun h=>absurd h (by show ¬((6:Int)=1);decide)) fun _=>?_
  refine EvIf.beq (fun h=>absurd h (by show ¬((6:Int)=3);decide)) fun _=>?_
  refine EvIf.beq (fun h=>absurd h (by show ¬((6:Int)=4);decide)) fun _=>?_
  refine EvIf.beq (fun _=>?_) fun h=>absurd rfl h
  exact .inl (A1 (oBs ⟨self,many,pmd,normal,log,cmt,lds,std,jns,first,aks,hrd,out,dead,st⟩ b e) [] (by exact RL5) rfl ⟨_,rfl⟩ rfl rfl ⟨rfl,false,rfl,fun _=>hsS⟩)
 ·skip
  refine EvIf.beq (fun h=>absurd h (by show ¬((6:Int)=1);decide)) fun _=>?_
  refine EvIf.beq (fun h=>absurd h (by show ¬((6:Int)=3);decide)) fun _=>?_
  refine EvIf.beq (fun h=>absurd h (by show ¬((6:Int)=4);decide)) fun _=>?_
  refine EvIf.beq (fun _=>?_) fun h=>absurd rfl h
  exact .inl (A1 (oBs ⟨self,many,pmd,normal,log,cmt,lds,std,jns,first,aks,hrd,out,dead,st⟩ b e) [] (by exact RL5) rfl ⟨_,rfl⟩ rfl rfl ⟨rfl,false,rfl,fun _=>hsS⟩)
end Go.Proofs.YtihfaocdpmmooaaGreat

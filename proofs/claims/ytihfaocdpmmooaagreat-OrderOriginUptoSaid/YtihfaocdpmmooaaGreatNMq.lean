
import Derived.Test.YtihfaocdpmmooaaGreatZNl
namespace Go.Proofs.YtihfaocdpmmooaaGreat
open Go.RowKit
set_option maxRecDepth 100000
theorem Ej (n:PN):(Cp n).out.length≤n.out.length+n.many:=by
 unfold Cp
 split
 ·exact A9 _ _
 ·exact Nat.le_add_right _ _
theorem L4 {l m:List REnt}{lo hi:Int}(o:Os)(k v x:Int)(h:(l.take hi.toNat).drop lo.toNat=m):Z06 ((1,R.froz (l.map enE) 3)::o) (.oag [gI k,gI v,gI 0,gI x,.osv 1 3 lo.toNat hi.toNat])=.agg (enM ⟨k,v,0,x,m⟩):=by
 show G.agg [gI k,gI v,gI 0,gI x,.sl (((l.map enE).take hi.toNat).drop lo.toNat)]=G.agg [gI k,gI v,gI 0,gI x,.sl (m.map enE)]
 rw[←h,List.map_drop,List.map_take]
theorem Df (l:List REnt)(a:Nat):(l.take (A5 l).toNat).drop a=l.drop a:=by rw[Dg,Int.toNat_natCast,List.take_length]
set_option maxHeartbeats 4000000 in
theorem Z0s (k:Nat)(n:PN)(b e f:Nat)(hf:f < 7)(m:RM)(h:WNk k n)(hsh:n.lds=true→n.std=true)(hm:okM m=true):FnO Tryz.prog 71 [.ptr 0 0,gI f,.agg (enM m)] (cA n b e) fun g rs=>g=.tup []∧rs=cA (As n f m) b e:=by
 obtain⟨self,many,pmd,normal,log,cmt,lds,std,jns,first,aks,hrd,out,dead,st⟩:=n
 obtain⟨kd,vw0,nm,nu,l⟩:=m
 obtain⟨h1,hkk,h2,h3,h4,h5,h6,h7,hnp,hst⟩:=h
 obtain⟨hm1,-,hml,-⟩:=Ay hm
 dsimp only at h1 h2 h3 h4 h5 h6 h7 hsh hml
 have no:(lds=false∨pmd≠vw0)→As ⟨self,many,pmd,normal,log,cmt,lds,std,jns,first,aks,hrd,out,dead,st⟩ f ⟨kd,vw0,nm,nu,l⟩=⟨self,many,pmd,normal,log,cmt,lds,std,jns,first,aks,hrd,out,dead,st⟩:=fun hh=>by unfold As;rw[if_pos hh]
 refine Bd Tryz.func71 (by kernel_rfl) rfl (Nat.le_of_ble_eq_true (by kernel_rfl)) (by kernel_rfl) (A6 (O:=oAs ⟨self,many,pmd,normal,log,cmt,lds,std,jns,first,aks,hrd,out,dead,st⟩ b e) (n0:=5) rfl) ?_
 refine EvIf.mk (fun hl=>?_) fun hl=>?_
 ·rw[no (.inl (by simpa using hl))]
  exact .inl (A1 (oAs ⟨self,many,pmd,normal,log,cmt,lds,std,jns,first,aks,hrd,out,dead,st⟩ b e) [] (by exact RL5) rfl ⟨_,rfl⟩ rfl rfl ⟨rfl,rfl⟩)
 have hl:lds=true:=by simpa using hl
 have hs:=hsh hl
 refine EvIf.bne (fun hv=>?_) fun hv=>?_
 ·rw[no (.inr hv)]
  exact .inl (A1 (oAs ⟨self,many,pmd,normal,log,cmt,lds,std,jns,first,aks,hrd,out,dead,st⟩ b e) [] (by exact RL5) rfl ⟨_,rfl⟩ rfl rfl ⟨rfl,rfl⟩)
 have hv:pmd=vw0:=hv
 have h0:¬(lds=false∨pmd≠vw0):=by
  rw[hl]
  rintro(h | h)
  ·cases h
  ·exact h hv
 have eI:As ⟨self,many,pmd,normal,log,cmt,lds,std,jns,first,aks,hrd,out,dead,st⟩ f ⟨kd,vw0,nm,nu,l⟩=if kd=5∧std=true∧nu≤log.length then
   (fun n2:PN=>if nu < n2.log.length then Aq n2 f ⟨4,n2.pmd,0,nu,n2.log.drop nu.toNat⟩ else n2)
    (Cp ⟨self,many,pmd,normal,log,cmt,lds,std,jns,first,(fun i=>if i=f then max (aks f) nu else aks i),(fun i=>if i=f then true else hrd i),out,dead,st⟩) else⟨self,many,pmd,normal,log,cmt,lds,std,jns,first,aks,hrd,out,dead,st⟩:=by
  unfold As
  rw[if_neg h0]
  dsimp only
  rw[if_neg (by rw[hs];rintro⟨-,h⟩;cases h)]
 have ne5:¬(kd=5∧std=true∧nu≤log.length)→As ⟨self,many,pmd,normal,log,cmt,lds,std,jns,first,aks,hrd,out,dead,st⟩ f ⟨kd,vw0,nm,nu,l⟩=⟨self,many,pmd,normal,log,cmt,lds,std,jns,first,aks,hrd,out,dead,st⟩:=fun h=>by rw[eI,if_neg h]
 refine EvIf.beq (fun(hk2:kd=2)=>?_) fun(hk2:kd≠2)=>?_
 ·refine EvIf.mk (fun h=>absurd hs (by simpa using h)) fun _=>?_
  refine EvIf.beq (fun(hk5:kd=5)=>absurd hk2 (by omega)) fun(hk5:kd≠5)=>?_
  rw[ne5 (fun h=>hk5 h.1)]
  exact .inl (A1 (oAs ⟨self,many,pmd,normal,log,cmt,lds,std,jns,first,aks,hrd,out,dead,st⟩ b e) [] (by exact RL5) rfl ⟨_,rfl⟩ rfl rfl ⟨rfl,rfl⟩)
 refine EvIf.beq (fun(hk5:kd=5)=>?_) fun(hk5:kd≠5)=>?_
 ·refine EvIf.mk (fun _=>?_) fun h=>absurd hs (by have h:std=false:=h;rw[h];decide)
  have hlen:((log.map enE).length:Nat)=log.length:=List.length_map ..
  refine EvIf.dec (fun hn=>?_) fun hn=>?_
  ·have hn:nu≤((log.map enE).length:Int):=hn
   rw[hlen] at hn
   rw[eI,if_pos ⟨hk5,hs,hn⟩]
   have hf7:f=0∨f=1∨f=2∨f=3∨f=4∨f=5∨f=6:=by omega
   rcases hf7 with rfl | rfl | rfl | rfl | rfl | rfl | rfl
   ·refine⟨⟨by decide,by decide⟩,⟨by decide,by decide⟩,⟨by decide,by decide⟩,?_⟩
    have hlk0:=Ej ⟨self,many,pmd,normal,log,cmt,lds,std,jns,first,(fun i=>if i=0 then max (aks 0) nu else aks i),(fun i=>if i=0 then true else hrd i),out,dead,st⟩
    obtain⟨c,o,hlk⟩:=C7 ⟨self,many,pmd,normal,log,cmt,lds,std,jns,first,(fun i=>if i=0 then max (aks 0) nu else aks i),(fun i=>if i=0 then true else hrd i),out,dead,st⟩
    rw[hlk] at hlk0
    have hol:o.length≤out.length+many:=hlk0
    have hL:=Cl ⟨self,many,pmd,normal,log,cmt,lds,std,jns,first,(fun i=>if i=0 then max (aks 0) nu else aks i),(fun i=>if i=0 then true else hrd i),out,dead,st⟩ b e h2 h3 (by show out.length≤_;omega)
    rw[hlk] at hL⊢
    refine EvCall.gh (.seen 0 _ _ rfl (.close (oAs ⟨self,many,pmd,normal,log,cmt,lds,std,jns,first,(fun i=>if i=0 then max (aks 0) nu else aks i),(fun i=>if i=0 then true else hrd i),out,dead,st⟩ b e) [] (by exact RL5) ⟨_,rfl⟩ rfl (.done (.same (hL.cal fun q rs hq=>?_)))))
    obtain⟨rfl,rfl⟩:=hq
    refine .opn 0 _ _ _ rfl rfl rfl (.done ?_)
    refine EvIf.dec (fun hn2=>?_) fun hn2=>?_
    ·have hn2:nu < ((log.map enE).length:Int):=hn2
     rw[hlen] at hn2
     dsimp only
     rw[if_pos hn2]
     refine⟨⟨by omega,by rw[hlen];omega,Int.le_refl _⟩,?_⟩
     have hS:=Hc ⟨self,many,pmd,normal,log,c,lds,std,jns,first,(fun i=>if i=0 then max (aks 0) nu else aks i),(fun i=>if i=0 then true else hrd i),o,dead,st⟩ (cl (oLs st e)) 0 ⟨4,pmd,0,nu,log.drop nu.toNat⟩ (.oag [gI 4,gI pmd,gI 0,gI nu,.osv 1 3 nu.toNat (A5 log).toNat]) (L4 _ _ _ _ (Df _ _)) (by rw[List.length_drop];omega) (by show o.length≤_;omega)
     obtain⟨o2,hs2⟩:=(A8 ⟨self,many,pmd,normal,log,c,lds,std,jns,first,(fun i=>if i=0 then max (aks 0) nu else aks i),(fun i=>if i=0 then true else hrd i),o,dead,st⟩ 0 ⟨4,pmd,0,nu,log.drop nu.toNat⟩).to
     rw[hs2] at hS⊢
     refine EvCall.lend (hS.cal fun q rs hq=>?_)
     obtain⟨rfl,rfl⟩:=hq
     exact .inl (A1 (oAs ⟨self,many,pmd,normal,log,c,lds,std,jns,first,(fun i=>if i=0 then max (aks 0) nu else aks i),(fun i=>if i=0 then true else hrd i),o2,dead,st⟩ b e) [(1,6),(2,7),(3,10),(4,9)] (by exact RL5) rfl ⟨_,rfl⟩ rfl rfl ⟨rfl,rfl⟩)
    ·have hn2:¬nu < ((log.map enE).length:Int):=hn2
     rw[hlen] at hn2
     dsimp only
     rw[if_neg hn2]
     exact .inl (A1 (oAs ⟨self,many,pmd,normal,log,c,lds,std,jns,first,(fun i=>if i=0 then max (aks 0) nu else aks i),(fun i=>if i=0 then true else hrd i),o,dead,st⟩ b e) [(1,6),(2,7),(3,8),(4,9)] (by exact RL5) rfl ⟨_,rfl⟩ rfl rfl ⟨rfl,rfl⟩)
   ·refine⟨⟨by decide,by decide⟩,⟨by decide,by decide⟩,⟨by decide,by decide⟩,?_⟩
    have hlk0:=Ej ⟨self,many,pmd,normal,log,cmt,lds,std,jns,first,(fun i=>if i=1 then max (aks 1) nu else aks i),(fun i=>if i=1 then true else hrd i),out,dead,st⟩
    obtain⟨c,o,hlk⟩:=C7 ⟨self,many,pmd,normal,log,cmt,lds,std,jns,first,(fun i=>if i=1 then max (aks 1) nu else aks i),(fun i=>if i=1 then true else hrd i),out,dead,st⟩
    rw[hlk] at hlk0
    have hol:o.length≤out.length+many:=hlk0
    have hL:=Cl ⟨self,many,pmd,normal,log,cmt,lds,std,jns,first,(fun i=>if i=1 then max (aks 1) nu else aks i),(fun i=>if i=1 then true else hrd i),out,dead,st⟩ b e h2 h3 (by show out.length≤_;omega)
    rw[hlk] at hL⊢
    refine EvCall.gh (.seen 0 _ _ rfl (.close (oAs ⟨self,many,pmd,normal,log,cmt,lds,std,jns,first,(fun i=>if i=1 then max (aks 1) nu else aks i),(fun i=>if i=1 then true else hrd i),out,dead,st⟩ b e) [] (by exact RL5) ⟨_,rfl⟩ rfl (.done (.same (hL.cal fun q rs hq=>?_)))))
    obtain⟨rfl,rfl⟩:=hq
    refine .opn 0 _ _ _ rfl rfl rfl (.done ?_)
    refine EvIf.dec (fun hn2=>?_) fun hn2=>?_
    ·have hn2:nu < ((log.map enE).length:Int):=hn2
     rw[hlen] at hn2
     dsimp only
     rw[if_pos hn2]
     refine⟨⟨by omega,by rw[hlen];omega,Int.le_refl _⟩,?_⟩
     have hS:=Hc ⟨self,many,pmd,normal,log,c,lds,std,jns,first,(fun i=>if i=1 then max (aks 1) nu else aks i),(fun i=>if i=1 then true else hrd i),o,dead,st⟩ (cl (oLs st e)) 1 ⟨4,pmd,0,nu,log.drop nu.toNat⟩ (.oag [gI 4,gI pmd,gI 0,gI nu,.osv 1 3 nu.toNat (A5 log).toNat]) (L4 _ _ _ _ (Df _ _)) (by rw[List.length_drop];omega) (by show o.length≤_;omega)
     obtain⟨o2,hs2⟩:=(A8 ⟨self,many,pmd,normal,log,c,lds,std,jns,first,(fun i=>if i=1 then max (aks 1) nu else aks i),(fun i=>if i=1 then true else hrd i),o,dead,st⟩ 1 ⟨4,pmd,0,nu,log.drop nu.toNat⟩).to
     rw[hs2] at hS⊢
     refine EvCall.lend (hS.cal fun q rs hq=>?_)
     obtain⟨rfl,rfl⟩:=hq
     exact .inl (A1 (oAs ⟨self,many,pmd,normal,log,c,lds,std,jns,first,(fun i=>if i=1 then max (aks 1) nu else aks i),(fun i=>if i=1 then true else hrd i),o2,dead,st⟩ b e) [(1,6),(2,7),(3,10),(4,9)] (by exact RL5) rfl ⟨_,rfl⟩ rfl rfl ⟨rfl,rfl⟩)
    ·have hn2:¬nu < ((log.map enE).length:Int):=hn2
     rw[hlen] at hn2
     dsimp only
     rw[if_neg hn2]
     exact .inl (A1 (oAs ⟨self,many,pmd,normal,log,c,lds,std,jns,first,(fun i=>if i=1 then max (aks 1) nu else aks i),(fun i=>if i=1 then true else hrd i),o,dead,st⟩ b e) [(1,6),(2,7),(3,8),(4,9)] (by exact RL5) rfl ⟨_,rfl⟩ rfl rfl ⟨rfl,rfl⟩)
   ·refine⟨⟨by decide,by decide⟩,⟨by decide,by decide⟩,⟨by decide,by decide⟩,?_⟩
    have hlk0:=Ej ⟨self,many,pmd,normal,log,cmt,lds,std,jns,first,(fun i=>if i=2 then max (aks 2) nu else aks i),(fun i=>if i=2 then true else hrd i),out,dead,st⟩
    obtain⟨c,o,hlk⟩:=C7 ⟨self,many,pmd,normal,log,cmt,lds,std,jns,first,(fun i=>if i=2 then max (aks 2) nu else aks i),(fun i=>if i=2 then true else hrd i),out,dead,st⟩
    rw[hlk] at hlk0
    have hol:o.length≤out.length+many:=hlk0
    have hL:=Cl ⟨self,many,pmd,normal,log,cmt,lds,std,jns,first,(fun i=>if i=2 then max (aks 2) nu else aks i),(fun i=>if i=2 then true else hrd i),out,dead,st⟩ b e h2 h3 (by show out.length≤_;omega)
    rw[hlk] at hL⊢
    refine EvCall.gh (.seen 0 _ _ rfl (.close (oAs ⟨self,many,pmd,normal,log,cmt,lds,std,jns,first,(fun i=>if i=2 then max (aks 2) nu else aks i),(fun i=>if i=2 then true else hrd i),out,dead,st⟩ b e) [] (by exact RL5) ⟨_,rfl⟩ rfl (.done (.same (hL.cal fun q rs hq=>?_)))))
    obtain⟨rfl,rfl⟩:=hq
    refine .opn 0 _ _ _ rfl rfl rfl (.done ?_)
    refine EvIf.dec (fun hn2=>?_) fun hn2=>?_
    ·have hn2:nu < ((log.map enE).length:Int):=hn2
     rw[hlen] at hn2
     dsimp only
     rw[if_pos hn2]
     refine⟨⟨by omega,by rw[hlen];omega,Int.le_refl _⟩,?_⟩
     have hS:=Hc ⟨self,many,pmd,normal,log,c,lds,std,jns,first,(fun i=>if i=2 then max (aks 2) nu else aks i),(fun i=>if i=2 then true else hrd i),o,dead,st⟩ (cl (oLs st e)) 2 ⟨4,pmd,0,nu,log.drop nu.toNat⟩ (.oag [gI 4,gI pmd,gI 0,gI nu,.osv 1 3 nu.toNat (A5 log).toNat]) (L4 _ _ _ _ (Df _ _)) (by rw[List.length_drop];omega) (by show o.length≤_;omega)
     obtain⟨o2,hs2⟩:=(A8 ⟨self,many,pmd,normal,log,c,lds,std,jns,first,(fun i=>if i=2 then max (aks 2) nu else aks i),(fun i=>if i=2 then true else hrd i),o,dead,st⟩ 2 ⟨4,pmd,0,nu,log.drop nu.toNat⟩).to
     rw[hs2] at hS⊢
     refine EvCall.lend (hS.cal fun q rs hq=>?_)
     obtain⟨rfl,rfl⟩:=hq
     exact .inl (A1 (oAs ⟨self,many,pmd,normal,log,c,lds,std,jns,first,(fun i=>if i=2 then max (aks 2) nu else aks i),(fun i=>if i=2 then true else hrd i),o2,dead,st⟩ b e) [(1,6),(2,7),(3,10),(4,9)] (by exact RL5) rfl ⟨_,rfl⟩ rfl rfl ⟨rfl,rfl⟩)
    ·have hn2:¬nu < ((log.map enE).length:Int):=hn2
     rw[hlen] at hn2
     dsimp only
     rw[if_neg hn2]
     exact .inl (A1 (oAs ⟨self,many,pmd,normal,log,c,lds,std,jns,first,(fun i=>if i=2 then max (aks 2) nu else aks i),(fun i=>if i=2 then true else hrd i),o,dead,st⟩ b e) [(1,6),(2,7),(3,8),(4,9)] (by exact RL5) rfl ⟨_,rfl⟩ rfl rfl ⟨rfl,rfl⟩)
   ·refine⟨⟨by decide,by decide⟩,⟨by decide,by decide⟩,⟨by decide,by decide⟩,?_⟩
    have hlk0:=Ej ⟨self,many,pmd,normal,log,cmt,lds,std,jns,first,(fun i=>if i=3 then max (aks 3) nu else aks i),(fun i=>if i=3 then true else hrd i),out,dead,st⟩
    obtain⟨c,o,hlk⟩:=C7 ⟨self,many,pmd,normal,log,cmt,lds,std,jns,first,(fun i=>if i=3 then max (aks 3) nu else aks i),(fun i=>if i=3 then true else hrd i),out,dead,st⟩
    rw[hlk] at hlk0
    have hol:o.length≤out.length+many:=hlk0
    have hL:=Cl ⟨self,many,pmd,normal,log,cmt,lds,std,jns,first,(fun i=>if i=3 then max (aks 3) nu else aks i),(fun i=>if i=3 then true else hrd i),out,dead,st⟩ b e h2 h3 (by show out.length≤_;omega)
    rw[hlk] at hL⊢
    refine EvCall.gh (.seen 0 _ _ rfl (.close (oAs ⟨self,many,pmd,normal,log,cmt,lds,std,jns,first,(fun i=>if i=3 then max (aks 3) nu else aks i),(fun i=>if i=3 then true else hrd i),out,dead,st⟩ b e) [] (by exact RL5) ⟨_,rfl⟩ rfl (.done (.same (hL.cal fun q rs hq=>?_)))))
    obtain⟨rfl,rfl⟩:=hq
    refine .opn 0 _ _ _ rfl rfl rfl (.done ?_)
    refine EvIf.dec (fun hn2=>?_) fun hn2=>?_
    ·have hn2:nu < ((log.map enE).length:Int):=hn2
     rw[hlen] at hn2
     dsimp only
     rw[if_pos hn2]
     refine⟨⟨by omega,by rw[hlen];omega,Int.le_refl _⟩,?_⟩
     have hS:=Hc ⟨self,many,pmd,normal,log,c,lds,std,jns,first,(fun i=>if i=3 then max (aks 3) nu else aks i),(fun i=>if i=3 then true else hrd i),o,dead,st⟩ (cl (oLs st e)) 3 ⟨4,pmd,0,nu,log.drop nu.toNat⟩ (.oag [gI 4,gI pmd,gI 0,gI nu,.osv 1 3 nu.toNat (A5 log).toNat]) (L4 _ _ _ _ (Df _ _)) (by rw[List.length_drop];omega) (by show o.length≤_;omega)
     obtain⟨o2,hs2⟩:=(A8 ⟨self,many,pmd,normal,log,c,lds,std,jns,first,(fun i=>if i=3 then max (aks 3) nu else aks i),(fun i=>if i=3 then true else hrd i),o,dead,st⟩ 3 ⟨4,pmd,0,nu,log.drop nu.toNat⟩).to
     rw[hs2] at hS⊢
     refine EvCall.lend (hS.cal fun q rs hq=>?_)
     obtain⟨rfl,rfl⟩:=hq
     exact .inl (A1 (oAs ⟨self,many,pmd,normal,log,c,lds,std,jns,first,(fun i=>if i=3 then max (aks 3) nu else aks i),(fun i=>if i=3 then true else hrd i),o2,dead,st⟩ b e) [(1,6),(2,7),(3,10),(4,9)] (by exact RL5) rfl ⟨_,rfl⟩ rfl rfl ⟨rfl,rfl⟩)
    ·have hn2:¬nu < ((log.map enE).length:Int):=hn2
     rw[hlen] at hn2
     dsimp only
     rw[if_neg hn2]
     exact .inl (A1 (oAs ⟨self,many,pmd,normal,log,c,lds,std,jns,first,(fun i=>if i=3 then max (aks 3) nu else aks i),(fun i=>if i=3 then true else hrd i),o,dead,st⟩ b e) [(1,6),(2,7),(3,8),(4,9)] (by exact RL5) rfl ⟨_,rfl⟩ rfl rfl ⟨rfl,rfl⟩)
   ·refine⟨⟨by decide,by decide⟩,⟨by decide,by decide⟩,⟨by decide,by decide⟩,?_⟩
    have hlk0:=Ej ⟨self,many,pmd,normal,log,cmt,lds,std,jns,first,(fun i=>if i=4 then max (aks 4) nu else aks i),(fun i=>if i=4 then true else hrd i),out,dead,st⟩
    obtain⟨c,o,hlk⟩:=C7 ⟨self,many,pmd,normal,log,cmt,lds,std,jns,first,(fun i=>if i=4 then max (aks 4) nu else aks i),(fun i=>if i=4 then true else hrd i),out,dead,st⟩
    rw[hlk] at hlk0
    have hol:o.length≤out.length+many:=hlk0
    have hL:=Cl ⟨self,many,pmd,normal,log,cmt,lds,std,jns,first,(fun i=>if i=4 then max (aks 4) nu else aks i),(fun i=>if i=4 then true else hrd i),out,dead,st⟩ b e h2 h3 (by show out.length≤_;omega)
    rw[hlk] at hL⊢
    refine EvCall.gh (.seen 0 _ _ rfl (.close (oAs ⟨self,many,pmd,normal,log,cmt,lds,std,jns,first,(fun i=>if i=4 then max (aks 4) nu else aks i),(fun i=>if i=4 then true else hrd i),out,dead,st⟩ b e) [] (by exact RL5) ⟨_,rfl⟩ rfl (.done (.same (hL.cal fun q rs hq=>?_)))))
    obtain⟨rfl,rfl⟩:=hq
    refine .opn 0 _ _ _ rfl rfl rfl (.done ?_)
    refine EvIf.dec (fun hn2=>?_) fun hn2=>?_
    ·have hn2:nu < ((log.map enE).length:Int):=hn2
     rw[hlen] at hn2
     dsimp only
     rw[if_pos hn2]
     refine⟨⟨by omega,by rw[hlen];omega,Int.le_refl _⟩,?_⟩
     have hS:=Hc ⟨self,many,pmd,normal,log,c,lds,std,jns,first,(fun i=>if i=4 then max (aks 4) nu else aks i),(fun i=>if i=4 then true else hrd i),o,dead,st⟩ (cl (oLs st e)) 4 ⟨4,pmd,0,nu,log.drop nu.toNat⟩ (.oag [gI 4,gI pmd,gI 0,gI nu,.osv 1 3 nu.toNat (A5 log).toNat]) (L4 _ _ _ _ (Df _ _)) (by rw[List.length_drop];omega) (by show o.length≤_;omega)
     obtain⟨o2,hs2⟩:=(A8 ⟨self,many,pmd,normal,log,c,lds,std,jns,first,(fun i=>if i=4 then max (aks 4) nu else aks i),(fun i=>if i=4 then true else hrd i),o,dead,st⟩ 4 ⟨4,pmd,0,nu,log.drop nu.toNat⟩).to
     rw[hs2] at hS⊢
     refine EvCall.lend (hS.cal fun q rs hq=>?_)
     obtain⟨rfl,rfl⟩:=hq
     exact .inl (A1 (oAs ⟨self,many,pmd,normal,log,c,lds,std,jns,first,(fun i=>if i=4 then max (aks 4) nu else aks i),(fun i=>if i=4 then true else hrd i),o2,dead,st⟩ b e) [(1,6),(2,7),(3,10),(4,9)] (by exact RL5) rfl ⟨_,rfl⟩ rfl rfl ⟨rfl,rfl⟩)
    ·have hn2:¬nu < ((log.map enE).length:Int):=hn2
     rw[hlen] at hn2
     dsimp only
     rw[if_neg hn2]
     exact .inl (A1 (oAs ⟨self,many,pmd,normal,log,c,lds,std,jns,first,(fun i=>if i=4 then max (aks 4) nu else aks i),(fun i=>if i=4 then true else hrd i),o,dead,st⟩ b e) [(1,6),(2,7),(3,8),(4,9)] (by exact RL5) rfl ⟨_,rfl⟩ rfl rfl ⟨rfl,rfl⟩)
   ·refine⟨⟨by decide,by decide⟩,⟨by decide,by decide⟩,⟨by decide,by decide⟩,?_⟩
    have hlk0:=Ej ⟨self,many,pmd,normal,log,cmt,lds,std,jns,first,(fun i=>if i=5 then max (aks 5) nu else aks i),(fun i=>if i=5 then true else hrd i),out,dead,st⟩
    obtain⟨c,o,hlk⟩:=C7 ⟨self,many,pmd,normal,log,cmt,lds,std,jns,first,(fun i=>if i=5 then max (aks 5) nu else aks i),(fun i=>if i=5 then true else hrd i),out,dead,st⟩
    rw[hlk] at hlk0
    have hol:o.length≤out.length+many:=hlk0
    have hL:=Cl ⟨self,many,pmd,normal,log,cmt,lds,std,jns,first,(fun i=>if i=5 then max (aks 5) nu else aks i),(fun i=>if i=5 then true else hrd i),out,dead,st⟩ b e h2 h3 (by show out.length≤_;omega)
    rw[hlk] at hL⊢
    refine EvCall.gh (.seen 0 _ _ rfl (.close (oAs ⟨self,many,pmd,normal,log,cmt,lds,std,jns,first,(fun i=>if i=5 then max (aks 5) nu else aks i),(fun i=>if i=5 then true else hrd i),out,dead,st⟩ b e) [] (by exact RL5) ⟨_,rfl⟩ rfl (.done (.same (hL.cal fun q rs hq=>?_)))))
    obtain⟨rfl,rfl⟩:=hq
    refine .opn 0 _ _ _ rfl rfl rfl (.done ?_)
    refine EvIf.dec (fun hn2=>?_) fun hn2=>?_
    ·have hn2:nu < ((log.map enE).length:Int):=hn2
     rw[hlen] at hn2
     dsimp only
     rw[if_pos hn2]
     refine⟨⟨by omega,by rw[hlen];omega,Int.le_refl _⟩,?_⟩
     have hS:=Hc ⟨self,many,pmd,normal,log,c,lds,std,jns,first,(fun i=>if i=5 then max (aks 5) nu else aks i),(fun i=>if i=5 then true else hrd i),o,dead,st⟩ (cl (oLs st e)) 5 ⟨4,pmd,0,nu,log.drop nu.toNat⟩ (.oag [gI 4,gI pmd,gI 0,gI nu,.osv 1 3 nu.toNat (A5 log).toNat]) (L4 _ _ _ _ (Df _ _)) (by rw[List.length_drop];omega) (by show o.length≤_;omega)
     obtain⟨o2,hs2⟩:=(A8 ⟨self,many,pmd,normal,log,c,lds,std,jns,first,(fun i=>if i=5 then max (aks 5) nu else aks i),(fun i=>if i=5 then true else hrd i),o,dead,st⟩ 5 ⟨4,pmd,0,nu,log.drop nu.toNat⟩).to
     rw[hs2] at hS⊢
     refine EvCall.lend (hS.cal fun q rs hq=>?_)
     obtain⟨rfl,rfl⟩:=hq
     exact .inl (A1 (oAs ⟨self,many,pmd,normal,log,c,lds,std,jns,first,(fun i=>if i=5 then max (aks 5) nu else aks i),(fun i=>if i=5 then true else hrd i),o2,dead,st⟩ b e) [(1,6),(2,7),(3,10),(4,9)] (by exact RL5) rfl ⟨_,rfl⟩ rfl rfl ⟨rfl,rfl⟩)
    ·have hn2:¬nu < ((log.map enE).length:Int):=hn2
     rw[hlen] at hn2
     dsimp only
     rw[if_neg hn2]
     exact .inl (A1 (oAs ⟨self,many,pmd,normal,log,c,lds,std,jns,first,(fun i=>if i=5 then max (aks 5) nu else aks i),(fun i=>if i=5 then true else hrd i),o,dead,st⟩ b e) [(1,6),(2,7),(3,8),(4,9)] (by exact RL5) rfl ⟨_,rfl⟩ rfl rfl ⟨rfl,rfl⟩)
   ·refine⟨⟨by decide,by decide⟩,⟨by decide,by decide⟩,⟨by decide,by decide⟩,?_⟩
    have hlk0:=Ej ⟨self,many,pmd,normal,log,cmt,lds,std,jns,first,(fun i=>if i=6 then max (aks 6) nu else aks i),(fun i=>if i=6 then true else hrd i),out,dead,st⟩
    obtain⟨c,o,hlk⟩:=C7 ⟨self,many,pmd,normal,log,cmt,lds,std,jns,first,(fun i=>if i=6 then max (aks 6) nu else aks i),(fun i=>if i=6 then true else hrd i),out,dead,st⟩
    rw[hlk] at hlk0
    have hol:o.length≤out.length+many:=hlk0
    have hL:=Cl ⟨self,many,pmd,normal,log,cmt,lds,std,jns,first,(fun i=>if i=6 then max (aks 6) nu else aks i),(fun i=>if i=6 then true else hrd i),out,dead,st⟩ b e h2 h3 (by show out.length≤_;omega)
    rw[hlk] at hL⊢
    refine EvCall.gh (.seen 0 _ _ rfl (.close (oAs ⟨self,many,pmd,normal,log,cmt,lds,std,jns,first,(fun i=>if i=6 then max (aks 6) nu else aks i),(fun i=>if i=6 then true else hrd i),out,dead,st⟩ b e) [] (by exact RL5) ⟨_,rfl⟩ rfl (.done (.same (hL.cal fun q rs hq=>?_)))))
    obtain⟨rfl,rfl⟩:=hq
    refine .opn 0 _ _ _ rfl rfl rfl (.done ?_)
    refine EvIf.dec (fun hn2=>?_) fun hn2=>?_
    ·have hn2:nu < ((log.map enE).length:Int):=hn2
     rw[hlen] at hn2
     dsimp only
     rw[if_pos hn2]
     refine⟨⟨by omega,by rw[hlen];omega,Int.le_refl _⟩,?_⟩
     have hS:=Hc ⟨self,many,pmd,normal,log,c,lds,std,jns,first,(fun i=>if i=6 then max (aks 6) nu else aks i),(fun i=>if i=6 then true else hrd i),o,dead,st⟩ (cl (oLs st e)) 6 ⟨4,pmd,0,nu,log.drop nu.toNat⟩ (.oag [gI 4,gI pmd,gI 0,gI nu,.osv 1 3 nu.toNat (A5 log).toNat]) (L4 _ _ _ _ (Df _ _)) (by rw[List.length_drop];omega) (by show o.length≤_;omega)
     obtain⟨o2,hs2⟩:=(A8 ⟨self,many,pmd,normal,log,c,lds,std,jns,first,(fun i=>if i=6 then max (aks 6) nu else aks i),(fun i=>if i=6 then true else hrd i),o,dead,st⟩ 6 ⟨4,pmd,0,nu,log.drop nu.toNat⟩).to
     rw[hs2] at hS⊢
     refine EvCall.lend (hS.cal fun q rs hq=>?_)
     obtain⟨rfl,rfl⟩:=hq
     exact .inl (A1 (oAs ⟨self,many,pmd,normal,log,c,lds,std,jns,first,(fun i=>if i=6 then max (aks 6) nu else aks i),(fun i=>if i=6 then true else hrd i),o2,dead,st⟩ b e) [(1,6),(2,7),(3,10),(4,9)] (by exact RL5) rfl ⟨_,rfl⟩ rfl rfl ⟨rfl,rfl⟩)
    ·have hn2:¬nu < ((log.map enE).length:Int):=hn2
     rw[hlen] at hn2
     dsimp only
     rw[if_neg hn2]
     exact .inl (A1 (oAs ⟨self,many,pmd,normal,log,c,lds,std,jns,first,(fun i=>if i=6 then max (aks 6) nu else aks i),(fun i=>if i=6 then true else hrd i),o,dead,st⟩ b e) [(1,6),(2,7),(3,8),(4,9)] (by exact RL5) rfl ⟨_,rfl⟩ rfl rfl ⟨rfl,rfl⟩)
  ·have hn:¬nu≤((log.map enE).length:Int):=hn
   rw[hlen] at hn
   rw[ne5 (fun h=>hn h.2.2)]
   exact .inl (A1 (oAs ⟨self,many,pmd,normal,log,cmt,lds,std,jns,first,aks,hrd,out,dead,st⟩ b e) [] (by exact RL5) rfl ⟨_,rfl⟩ rfl rfl ⟨rfl,rfl⟩)
 ·rw[ne5 (fun h=>hk5 h.1)]
  exact .inl (A1 (oAs ⟨self,many,pmd,normal,log,cmt,lds,std,jns,first,aks,hrd,out,dead,st⟩ b e) [] (by exact RL5) rfl ⟨_,rfl⟩ rfl rfl ⟨rfl,rfl⟩)
end Go.Proofs.YtihfaocdpmmooaaGreat
namespace Go.Proofs.YtihfaocdpmmooaaGreat
open Go.RowKit
set_option maxRecDepth 100000
set_option maxHeartbeats 4000000 in
theorem Yk (k:Nat)(n:PN)(b e f:Nat)(hf:f < 7)(m:RM)(h:WNk k n)(hsh:n.std=false∧n.normal < n.pmd)(hm:okM m=true):FnO Tryz.prog 71 [.ptr 0 0,gI f,.agg (enM m)] (cB n b e) fun g rs=>g=.tup []∧∃s,rs=cS s (As n f m) b e∧ShN s (As n f m):=by
 obtain⟨self,many,pmd,normal,log,cmt,lds,std,jns,first,aks,hrd,out,dead,st⟩:=n
 obtain⟨kd,vw0,nm,nu,l⟩:=m
 obtain⟨h1,hkk,h2,h3,h4,h5,h6,h7,hnp,hst⟩:=h
 obtain⟨hm1,-,hml,-⟩:=Ay hm
 dsimp only at h1 h2 h3 h4 h5 h6 h7 hsh hml
 obtain⟨hs,hnv⟩:=hsh
 have hsB:ShN false ⟨self,many,pmd,normal,log,cmt,lds,std,jns,first,aks,hrd,out,dead,st⟩:=⟨fun _=>⟨hs,hnv⟩,fun h=>by cases h⟩
 have no:(lds=false∨pmd≠vw0)→As ⟨self,many,pmd,normal,log,cmt,lds,std,jns,first,aks,hrd,out,dead,st⟩ f ⟨kd,vw0,nm,nu,l⟩=⟨self,many,pmd,normal,log,cmt,lds,std,jns,first,aks,hrd,out,dead,st⟩:=fun hh=>by unfold As;rw[if_pos hh]
 refine Bd Tryz.func71 (by kernel_rfl) rfl (Nat.le_of_ble_eq_true (by kernel_rfl)) (by kernel_rfl) (A6 (O:=oBs ⟨self,many,pmd,normal,log,cmt,lds,std,jns,first,aks,hrd,out,dead,st⟩ b e) (n0:=5) rfl) ?_
 refine EvIf.mk (fun hl=>?_) fun hl=>?_
 ·rw[no (.inl (by simpa using hl))]
  exact .inl (A1 (oBs ⟨self,many,pmd,normal,log,cmt,lds,std,jns,first,aks,hrd,out,dead,st⟩ b e) [] (by exact RL5) rfl ⟨_,rfl⟩ rfl rfl ⟨rfl,false,rfl,hsB⟩)
 have hl:lds=true:=by simpa using hl
 refine EvIf.bne (fun hv=>?_) fun hv=>?_
 ·rw[no (.inr hv)]
  exact .inl (A1 (oBs ⟨self,many,pmd,normal,log,cmt,lds,std,jns,first,aks,hrd,out,dead,st⟩ b e) [] (by exact RL5) rfl ⟨_,rfl⟩ rfl rfl ⟨rfl,false,rfl,hsB⟩)
 have hv:pmd=vw0:=hv
 have h0:¬(lds=false∨pmd≠vw0):=by
  rw[hl]
  rintro(h | h)
  ·cases h
  ·exact h hv
 refine EvIf.beq (fun(hk2:kd=2)=>?_) fun(hk2:kd≠2)=>?_
 ·refine EvIf.mk (fun _=>?_) fun h=>absurd hs (by simpa using h)
  have eI:As ⟨self,many,pmd,normal,log,cmt,lds,std,jns,first,aks,hrd,out,dead,st⟩ f ⟨kd,vw0,nm,nu,l⟩=Br (if(jns f).is=true then⟨self,many,pmd,normal,log,cmt,lds,std,jns,first,aks,hrd,out,dead,st⟩ else(⟨self,many,pmd,normal,log,cmt,lds,std,(fun i=>if i=f then⟨true,nm,l⟩ else jns i),first,aks,hrd,out,dead,st⟩:PN)):=by
   unfold As
   rw[if_neg h0]
   dsimp only
   rw[if_pos ⟨hk2,hs⟩]
  rw[eI]
  have hf7:f=0∨f=1∨f=2∨f=3∨f=4∨f=5∨f=6:=by omega
  rcases hf7 with rfl | rfl | rfl | rfl | rfl | rfl | rfl
  ·refine⟨⟨by decide,by decide⟩,?_⟩
   refine EvIf.mk (fun hj=>?_) fun hj=>?_
   ·have hj:(jns 0).is=false:=by simpa using hj
    rw[if_neg (by rw[hj];decide)]
    have hjj:∀i,i < 7→((fun i=>if i=0 then(⟨true,nm,l⟩:RJ) else jns i) i).l.length≤150:=fun i hi=>by
     dsimp only
     split
     ·exact hml
     ·exact h7 i hi
    refine⟨⟨by decide,by decide⟩,?_⟩
    refine EvCall.gh (.seen 0 _ _ rfl (.close (oBs ⟨self,many,pmd,normal,log,cmt,lds,std,(fun i=>if i=0 then⟨true,nm,l⟩ else jns i),first,aks,hrd,out,dead,st⟩ b e) [] (by exact RL5) ⟨_,rfl⟩ rfl (.done (.same ((Ax ⟨self,many,pmd,normal,log,cmt,lds,std,(fun i=>if i=0 then⟨true,nm,l⟩ else jns i),first,aks,hrd,out,dead,st⟩ b e h2 h3 h4 (h1.wk (by omega)) hjj (by show out.length≤_;omega) ⟨hs,hnv⟩).cal fun q rs hq=>?_)))))
    obtain⟨rfl,s,rfl,hq⟩:=hq
    refine .done ?_
    exact .inl (A7 rfl rfl ⟨rfl,s,rfl,hq⟩)
   ·have hj:(jns 0).is=true:=by simpa using hj
    rw[if_pos hj]
    refine EvCall.gh (.close (oBs ⟨self,many,pmd,normal,log,cmt,lds,std,jns,first,aks,hrd,out,dead,st⟩ b e) [] (by exact RL5) ⟨_,rfl⟩ rfl (.done (.same ((Ax ⟨self,many,pmd,normal,log,cmt,lds,std,jns,first,aks,hrd,out,dead,st⟩ b e h2 h3 h4 (h1.wk (by omega)) h7 (by show out.length≤_;omega) ⟨hs,hnv⟩).cal fun q rs hq=>?_))))
    obtain⟨rfl,s,rfl,hq⟩:=hq
    refine .done ?_
    exact .inl (A7 rfl rfl ⟨rfl,s,rfl,hq⟩)
  ·refine⟨⟨by decide,by decide⟩,?_⟩
   refine EvIf.mk (fun hj=>?_) fun hj=>?_
   ·have hj:(jns 1).is=false:=by simpa using hj
    rw[if_neg (by rw[hj];decide)]
    have hjj:∀i,i < 7→((fun i=>if i=1 then(⟨true,nm,l⟩:RJ) else jns i) i).l.length≤150:=fun i hi=>by
     dsimp only
     split
     ·exact hml
     ·exact h7 i hi
    refine⟨⟨by decide,by decide⟩,?_⟩
    refine EvCall.gh (.seen 0 _ _ rfl (.close (oBs ⟨self,many,pmd,normal,log,cmt,lds,std,(fun i=>if i=1 then⟨true,nm,l⟩ else jns i),first,aks,hrd,out,dead,st⟩ b e) [] (by exact RL5) ⟨_,rfl⟩ rfl (.done (.same ((Ax ⟨self,many,pmd,normal,log,cmt,lds,std,(fun i=>if i=1 then⟨true,nm,l⟩ else jns i),first,aks,hrd,out,dead,st⟩ b e h2 h3 h4 (h1.wk (by omega)) hjj (by show out.length≤_;omega) ⟨hs,hnv⟩).cal fun q rs hq=>?_)))))
    obtain⟨rfl,s,rfl,hq⟩:=hq
    refine .done ?_
    exact .inl (A7 rfl rfl ⟨rfl,s,rfl,hq⟩)
   ·have hj:(jns 1).is=true:=by simpa using hj
    rw[if_pos hj]
    refine EvCall.gh (.close (oBs ⟨self,many,pmd,normal,log,cmt,lds,std,jns,first,aks,hrd,out,dead,st⟩ b e) [] (by exact RL5) ⟨_,rfl⟩ rfl (.done (.same ((Ax ⟨self,many,pmd,normal,log,cmt,lds,std,jns,first,aks,hrd,out,dead,st⟩ b e h2 h3 h4 (h1.wk (by omega)) h7 (by show out.length≤_;omega) ⟨hs,hnv⟩).cal fun q rs hq=>?_))))
    obtain⟨rfl,s,rfl,hq⟩:=hq
    refine .done ?_
    exact .inl (A7 rfl rfl ⟨rfl,s,rfl,hq⟩)
  ·refine⟨⟨by decide,by decide⟩,?_⟩
   refine EvIf.mk (fun hj=>?_) fun hj=>?_
   ·have hj:(jns 2).is=false:=by simpa using hj
    rw[if_neg (by rw[hj];decide)]
    have hjj:∀i,i < 7→((fun i=>if i=2 then(⟨true,nm,l⟩:RJ) else jns i) i).l.length≤150:=fun i hi=>by
     dsimp only
     split
     ·exact hml
     ·exact h7 i hi
    refine⟨⟨by decide,by decide⟩,?_⟩
    refine EvCall.gh (.seen 0 _ _ rfl (.close (oBs ⟨self,many,pmd,normal,log,cmt,lds,std,(fun i=>if i=2 then⟨true,nm,l⟩ else jns i),first,aks,hrd,out,dead,st⟩ b e) [] (by exact RL5) ⟨_,rfl⟩ rfl (.done (.same ((Ax ⟨self,many,pmd,normal,log,cmt,lds,std,(fun i=>if i=2 then⟨true,nm,l⟩ else jns i),first,aks,hrd,out,dead,st⟩ b e h2 h3 h4 (h1.wk (by omega)) hjj (by show out.length≤_;omega) ⟨hs,hnv⟩).cal fun q rs hq=>?_)))))
    obtain⟨rfl,s,rfl,hq⟩:=hq
    refine .done ?_
    exact .inl (A7 rfl rfl ⟨rfl,s,rfl,hq⟩)
   ·have hj:(jns 2).is=true:=by simpa using hj
    rw[if_pos hj]
    refine EvCall.gh (.close (oBs ⟨self,many,pmd,normal,log,cmt,lds,std,jns,first,aks,hrd,out,dead,st⟩ b e) [] (by exact RL5) ⟨_,rfl⟩ rfl (.done (.same ((Ax ⟨self,many,pmd,normal,log,cmt,lds,std,jns,first,aks,hrd,out,dead,st⟩ b e h2 h3 h4 (h1.wk (by omega)) h7 (by show out.length≤_;omega) ⟨hs,hnv⟩).cal fun q rs hq=>?_))))
    obtain⟨rfl,s,rfl,hq⟩:=hq
    refine .done ?_
    exact .inl (A7 rfl rfl ⟨rfl,s,rfl,hq⟩)
  ·refine⟨⟨by decide,by decide⟩,?_⟩
   refine EvIf.mk (fun hj=>?_) fun hj=>?_
   ·have hj:(jns 3).is=false:=by simpa using hj
    rw[if_neg (by rw[hj];decide)]
    have hjj:∀i,i < 7→((fun i=>if i=3 then(⟨true,nm,l⟩:RJ) else jns i) i).l.length≤150:=fun i hi=>by
     dsimp only
     split
     ·exact hml
     ·exact h7 i hi
    refine⟨⟨by decide,by decide⟩,?_⟩
    refine EvCall.gh (.seen 0 _ _ rfl (.close (oBs ⟨self,many,pmd,normal,log,cmt,lds,std,(fun i=>if i=3 then⟨true,nm,l⟩ else jns i),first,aks,hrd,out,dead,st⟩ b e) [] (by exact RL5) ⟨_,rfl⟩ rfl (.done (.same ((Ax ⟨self,many,pmd,normal,log,cmt,lds,std,(fun i=>if i=3 then⟨true,nm,l⟩ else jns i),first,aks,hrd,out,dead,st⟩ b e h2 h3 h4 (h1.wk (by omega)) hjj (by show out.length≤_;omega) ⟨hs,hnv⟩).cal fun q rs hq=>?_)))))
    obtain⟨rfl,s,rfl,hq⟩:=hq
    refine .done ?_
    exact .inl (A7 rfl rfl ⟨rfl,s,rfl,hq⟩)
   ·have hj:(jns 3).is=true:=by simpa using hj
    rw[if_pos hj]
    refine EvCall.gh (.close (oBs ⟨self,many,pmd,normal,log,cmt,lds,std,jns,first,aks,hrd,out,dead,st⟩ b e) [] (by exact RL5) ⟨_,rfl⟩ rfl (.done (.same ((Ax ⟨self,many,pmd,normal,log,cmt,lds,std,jns,first,aks,hrd,out,dead,st⟩ b e h2 h3 h4 (h1.wk (by omega)) h7 (by show out.length≤_;omega) ⟨hs,hnv⟩).cal fun q rs hq=>?_))))
    obtain⟨rfl,s,rfl,hq⟩:=hq
    refine .done ?_
    exact .inl (A7 rfl rfl ⟨rfl,s,rfl,hq⟩)
  ·refine⟨⟨by decide,by decide⟩,?_⟩
   refine EvIf.mk (fun hj=>?_) fun hj=>?_
   ·have hj:(jns 4).is=false:=by simpa using hj
    rw[if_neg (by rw[hj];decide)]
    have hjj:∀i,i < 7→((fun i=>if i=4 then(⟨true,nm,l⟩:RJ) else jns i) i).l.length≤150:=fun i hi=>by
     dsimp only
     split
     ·exact hml
     ·exact h7 i hi
    refine⟨⟨by decide,by decide⟩,?_⟩
    refine EvCall.gh (.seen 0 _ _ rfl (.close (oBs ⟨self,many,pmd,normal,log,cmt,lds,std,(fun i=>if i=4 then⟨true,nm,l⟩ else jns i),first,aks,hrd,out,dead,st⟩ b e) [] (by exact RL5) ⟨_,rfl⟩ rfl (.done (.same ((Ax ⟨self,many,pmd,normal,log,cmt,lds,std,(fun i=>if i=4 then⟨true,nm,l⟩ else jns i),first,aks,hrd,out,dead,st⟩ b e h2 h3 h4 (h1.wk (by omega)) hjj (by show out.length≤_;omega) ⟨hs,hnv⟩).cal fun q rs hq=>?_)))))
    obtain⟨rfl,s,rfl,hq⟩:=hq
    refine .done ?_
    exact .inl (A7 rfl rfl ⟨rfl,s,rfl,hq⟩)
   ·have hj:(jns 4).is=true:=by simpa using hj
    rw[if_pos hj]
    refine EvCall.gh (.close (oBs ⟨self,many,pmd,normal,log,cmt,lds,std,jns,first,aks,hrd,out,dead,st⟩ b e) [] (by exact RL5) ⟨_,rfl⟩ rfl (.done (.same ((Ax ⟨self,many,pmd,normal,log,cmt,lds,std,jns,first,aks,hrd,out,dead,st⟩ b e h2 h3 h4 (h1.wk (by omega)) h7 (by show out.length≤_;omega) ⟨hs,hnv⟩).cal fun q rs hq=>?_))))
    obtain⟨rfl,s,rfl,hq⟩:=hq
    refine .done ?_
    exact .inl (A7 rfl rfl ⟨rfl,s,rfl,hq⟩)
  ·refine⟨⟨by decide,by decide⟩,?_⟩
   refine EvIf.mk (fun hj=>?_) fun hj=>?_
   ·have hj:(jns 5).is=false:=by simpa using hj
    rw[if_neg (by rw[hj];decide)]
    have hjj:∀i,i < 7→((fun i=>if i=5 then(⟨true,nm,l⟩:RJ) else jns i) i).l.length≤150:=fun i hi=>by
     dsimp only
     split
     ·exact hml
     ·exact h7 i hi
    refine⟨⟨by decide,by decide⟩,?_⟩
    refine EvCall.gh (.seen 0 _ _ rfl (.close (oBs ⟨self,many,pmd,normal,log,cmt,lds,std,(fun i=>if i=5 then⟨true,nm,l⟩ else jns i),first,aks,hrd,out,dead,st⟩ b e) [] (by exact RL5) ⟨_,rfl⟩ rfl (.done (.same ((Ax ⟨self,many,pmd,normal,log,cmt,lds,std,(fun i=>if i=5 then⟨true,nm,l⟩ else jns i),first,aks,hrd,out,dead,st⟩ b e h2 h3 h4 (h1.wk (by omega)) hjj (by show out.length≤_;omega) ⟨hs,hnv⟩).cal fun q rs hq=>?_)))))
    obtain⟨rfl,s,rfl,hq⟩:=hq
    refine .done ?_
    exact .inl (A7 rfl rfl ⟨rfl,s,rfl,hq⟩)
   ·have hj:(jns 5).is=true:=by simpa using hj
    rw[if_pos hj]
    refine EvCall.gh (.close (oBs ⟨self,many,pmd,normal,log,cmt,lds,std,jns,first,aks,hrd,out,dead,st⟩ b e) [] (by exact RL5) ⟨_,rfl⟩ rfl (.done (.same ((Ax ⟨self,many,pmd,normal,log,cmt,lds,std,jns,first,aks,hrd,out,dead,st⟩ b e h2 h3 h4 (h1.wk (by omega)) h7 (by show out.length≤_;omega) ⟨hs,hnv⟩).cal fun q rs hq=>?_))))
    obtain⟨rfl,s,rfl,hq⟩:=hq
    refine .done ?_
    exact .inl (A7 rfl rfl ⟨rfl,s,rfl,hq⟩)
  ·refine⟨⟨by decide,by decide⟩,?_⟩
   refine EvIf.mk (fun hj=>?_) fun hj=>?_
   ·have hj:(jns 6).is=false:=by simpa using hj
    rw[if_neg (by rw[hj];decide)]
    have hjj:∀i,i < 7→((fun i=>if i=6 then(⟨true,nm,l⟩:RJ) else jns i) i).l.length≤150:=fun i hi=>by
     dsimp only
     split
     ·exact hml
     ·exact h7 i hi
    refine⟨⟨by decide,by decide⟩,?_⟩
    refine EvCall.gh (.seen 0 _ _ rfl (.close (oBs ⟨self,many,pmd,normal,log,cmt,lds,std,(fun i=>if i=6 then⟨true,nm,l⟩ else jns i),first,aks,hrd,out,dead,st⟩ b e) [] (by exact RL5) ⟨_,rfl⟩ rfl (.done (.same ((Ax ⟨self,many,pmd,normal,log,cmt,lds,std,(fun i=>if i=6 then⟨true,nm,l⟩ else jns i),first,aks,hrd,out,dead,st⟩ b e h2 h3 h4 (h1.wk (by omega)) hjj (by show out.length≤_;omega) ⟨hs,hnv⟩).cal fun q rs hq=>?_)))))
    obtain⟨rfl,s,rfl,hq⟩:=hq
    refine .done ?_
    exact .inl (A7 rfl rfl ⟨rfl,s,rfl,hq⟩)
   ·have hj:(jns 6).is=true:=by simpa using hj
    rw[if_pos hj]
    refine EvCall.gh (.close (oBs ⟨self,many,pmd,normal,log,cmt,lds,std,jns,first,aks,hrd,out,dead,st⟩ b e) [] (by exact RL5) ⟨_,rfl⟩ rfl (.done (.same ((Ax ⟨self,many,pmd,normal,log,cmt,lds,std,jns,first,aks,hrd,out,dead,st⟩ b e h2 h3 h4 (h1.wk (by omega)) h7 (by show out.length≤_;omega) ⟨hs,hnv⟩).cal fun q rs hq=>?_))))
    obtain⟨rfl,s,rfl,hq⟩:=hq
    refine .done ?_
    exact .inl (A7 rfl rfl ⟨rfl,s,rfl,hq⟩)
 have ne:As ⟨self,many,pmd,normal,log,cmt,lds,std,jns,first,aks,hrd,out,dead,st⟩ f ⟨kd,vw0,nm,nu,l⟩=⟨self,many,pmd,normal,log,cmt,lds,std,jns,first,aks,hrd,out,dead,st⟩:=by
  unfold As
  rw[if_neg h0]
  dsimp only
  rw[if_neg (fun h=>hk2 h.1),if_neg (by rw[hs];rintro⟨-,h,-⟩;cases h)]
 rw[ne]
 refine EvIf.beq (fun(hk5:kd=5)=>?_) fun(hk5:kd≠5)=>?_
 ·refine EvIf.mk (fun h=>absurd hs (by have h:std=true:=h;rw[h];decide)) fun _=>?_
  exact .inl (A1 (oBs ⟨self,many,pmd,normal,log,cmt,lds,std,jns,first,aks,hrd,out,dead,st⟩ b e) [] (by exact RL5) rfl ⟨_,rfl⟩ rfl rfl ⟨rfl,false,rfl,hsB⟩)
 ·exact .inl (A1 (oBs ⟨self,many,pmd,normal,log,cmt,lds,std,jns,first,aks,hrd,out,dead,st⟩ b e) [] (by exact RL5) rfl ⟨_,rfl⟩ rfl rfl ⟨rfl,false,rfl,hsB⟩)
end Go.Proofs.YtihfaocdpmmooaaGreat

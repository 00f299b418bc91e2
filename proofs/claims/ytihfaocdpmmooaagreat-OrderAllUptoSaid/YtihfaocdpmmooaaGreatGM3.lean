
import Derived.Test.YtihfaocdpmmooaaGreatZGq
import Derived.Test.YtihfaocdpmmooaaGreatZGc
namespace Go.Proofs.YtihfaocdpmmooaaGreat
def aS:ByteArray:=⟨#[97]⟩
def al0:RN:=(D7 (Hy 1 3) 1).1
def al1:List RN × List RPk:=G9 3000 [Hy 0 3,Tt al0,Hy 2 3] (Cw [] al0.out)
def alN (i:Nat)(l:List RN):RN:=l[i]?.getD (Hy 0 0)
def al2:RN:=(B9 (alN 1 al1.1) aS).1
def al3:List RN × List RPk:=G9 3000 (al1.1.set 1 (Tt al2)) (Cw al1.2 al2.out)
def Zi7:Bool:=(D7 (Hy 1 3) 1).2&&(B9 (alN 1 al1.1) aS).2&&decide ((alN 1 al3.1).phase=2)&&decide ((alN 1 al3.1).cmt=1)&&decide ((alN 0 al3.1).cmt=1)&&decide ((alN 2 al3.1).log.length=1)
theorem Zex:Zi7=true:=by decide +kernel
open Go.RowKit
set_option maxRecDepth 100000
theorem Z52 {k:Nat}{sh:Bool}{n:PN}(hi:NI k n)(hs:ShN sh n)(s:ByteArray):ShN sh (C8 n s).1:=by
 unfold C8
 by_cases hc:n.dead=true∨n.std=false∨n.log.length ≥ 150∨s.size > 200
 ·rw[db hc];exact hs
 ·have hst:n.std=true:=by
   cases h:n.std with
   | true=>rfl
   | false=>exact dc (.inr (.inl h)) hc
  obtain⟨s1,s2,s3,s4,s5⟩:=hi.st hst
  have hl:=hi.ld s1
  have hp:=hi.nv.p
  obtain⟨q1,qv,st,q2,-⟩:=No hi (e:=⟨n.pmd,A4 n.log+1,s⟩) rfl (Z3e (by rw[←s2];exact hi.nv.top) hl.2) hl.2 (by show n.pmd≤_;omega) (by show s.size≤200;omega) (by omega)
  rw[da hc,db q1,q2]
  obtain⟨c,o,e⟩:=Cz (Ax {n with log:=n.log++[⟨n.pmd,A4 n.log+1,s⟩],st:=st,aks:=fun i=>if i=n.self then A4 n.log+1 else n.aks i} ⟨4,n.pmd,0,A4 n.log+1 - 1,[⟨n.pmd,A4 n.log+1,s⟩]⟩)
  obtain⟨o2,e2⟩:=(A2 {n with log:=n.log++[⟨n.pmd,A4 n.log+1,s⟩],st:=st,aks:=fun i=>if i=n.self then A4 n.log+1 else n.aks i} ⟨4,n.pmd,0,A4 n.log+1 - 1,[⟨n.pmd,A4 n.log+1,s⟩]⟩).to
  rw[e2] at e
  refine⟨fun h=>dc (hs.b h).1 (by rw[hst];decide),fun _ _ _=>?_⟩
  show(Dy (Ax _ _)).std=true
  rw[e2,e]
  exact hst
def Nq (x:GM)(s:ByteArray):GM:=⟨x.s,(C8 x.n s).1,x.b,x.e,(B9 x.r s).1⟩
theorem MOk.offer {k:Nat}{x:GM}(h:MOk k x)(hk:k+1≤900000000)(s:ByteArray):MOk (k+1) (Nq x s)∧(C8 x.n s).2=(B9 x.r s).2:=by
 obtain⟨a,b,c⟩:=Qo h.sim h.ni hk s
 exact⟨⟨b,c,Z5k h.nj s,Z52 h.ni h.sh s⟩,a⟩
theorem K9 (r:RN)(s:ByteArray):(B9 r s).1.self=r.self∧(B9 r s).1.many=r.many:=by
 have spr:∀(n:RN) (k:Nat) (f:RN→Nat→RN),(∀n i,(f n i).self=n.self∧(f n i).many=n.many)→(Lk f n k).self=n.self∧(Lk f n k).many=n.many:=fun n k f hf=>by
  induction k with
  | zero=>exact⟨rfl,rfl⟩
  | succ k ih =>
   rw[Cx]
   split
   ·exact ih
   ·exact⟨(hf _ _).1.trans ih.1,(hf _ _).2.trans ih.2⟩
 have spd:∀(n:RN) (m:RM),(Aq n m).self=n.self∧(Aq n m).many=n.many:=fun n m=>spr n _ _ fun n i=>⟨rfl,rfl⟩
 have lk:∀n:RN,(Cc n).self=n.self∧(Cc n).many=n.many:=fun n=>by
  unfold Cc
  split
  ·exact spd {n with cmt:=Bb n.aks} _
  ·exact⟨rfl,rfl⟩
 unfold B9
 split
 ·exact⟨rfl,rfl⟩
 ·have h1:=lk (Aq (Bc (My r (Fd r s)) r.self (Fd r s).n) ⟨4,r.pmd,0,(Fd r s).n - 1,[Fd r s]⟩)
  have h2:=spd (Bc (My r (Fd r s)) r.self (Fd r s).n) ⟨4,r.pmd,0,(Fd r s).n - 1,[Fd r s]⟩
  exact⟨h1.1.trans h2.1,h1.2.trans h2.2⟩
theorem Z0g {l:List GM}(hl:l.length=3)(h:Fresh 3 l):l.map GM.r=[Hy 0 3,Hy 1 3,Hy 2 3]:=by
 have key:∀(i:Nat) (x:GM),l[i]?=some x→x.r=Hy i 3:=fun i x hx=>by
  obtain⟨_,_,e⟩:=h i x hx
  rw[e];rfl
 refine co fun i=>?_
 rw[aj]
 by_cases hi:i < 3
 ·obtain⟨x,hx⟩:∃x,l[i]?=some x:=⟨_,ab (by omega)⟩
  have hk:=key i x hx
  rw[hx]
  show some x.r=_
  rw[hk]
  have:i=0∨i=1∨i=2:=by omega
  rcases this with rfl | rfl | rfl<;>rfl
 ·rw[b8 (by omega),b8 (by show 3≤i;omega)]
  rfl
theorem Uw {m:Nat}{l:List GM}(hl:l.length=m)(hm:m≤7)(h:Fresh m l):GI 0 m l∧Still l:=by
 refine⟨⟨hl,hm,fun i x hx=>?_⟩,fun i x hx=>?_⟩
 ·obtain⟨b,e,rfl⟩:=h i x hx
  have:=(ac.1 hx).1
  exact⟨Za8 (by omega) hm b e,rfl,rfl⟩
 ·obtain⟨b,e,rfl⟩:=h i x hx
  rfl
theorem Z5w:(D7 (Hy 1 3) 1).2=true∧(B9 (alN 1 al1.1) aS).2=true∧(alN 1 al3.1).phase=2∧(alN 1 al3.1).cmt=1∧(alN 0 al3.1).cmt=1∧(alN 2 al3.1).log.length=1:=by
 have h:=Zex
 unfold Zi7 at h
 simp only[Bool.and_eq_true,decide_eq_true_iff] at h
 exact⟨h.1.1.1.1.1,h.1.1.1.1.2,h.1.1.1.2,h.1.1.2,h.1.2,h.2⟩
theorem Z55:(alN 1 al1.1).pmd≤(alN 1 al1.1).normal∧(alN 0 al3.1).pmd≤(alN 0 al3.1).normal∧(alN 1 al3.1).pmd≤(alN 1 al3.1).normal∧(alN 2 al3.1).pmd≤(alN 2 al3.1).normal:=by decide +kernel
theorem Ol {k:Nat}{x:GM}(h:MOk k x)(hr:x.r.pmd≤x.r.normal):x.s=true:=by
 cases hs:x.s with
 | true=>rfl
 | false =>
  have h1:=(h.sh.b hs).2
  have h2:=h.sim.pmd
  have h3:=h.sim.normal
  omega
theorem Wi:al0.self=1∧al0.many=3:=by decide +kernel
theorem Z36 {l:List GM}{i:Nat}{x:GM}(h:l[i]?=some x):alN i (l.map GM.r)=x.r:=Um h _
set_option maxHeartbeats 8000000 in
theorem Q8:FnV Tryz.prog 10 [] fun g=>g=.v (.bool true):=by
 obtain⟨a1,a2,a3,a4,a5,a6⟩:=Z5w
 refine fnG Tryz.func10 ?_
 refine dg (.done (.same ((Z26 3 (by omega) (by omega)).cal fun q rs hq=>?_)))
 obtain⟨rfl,l,hl,hF,rfl⟩:=hq
 refine .opn 0 _ _ _ rfl rfl rfl (.done ?_)
 obtain⟨hG0,hS0⟩:=Uw hl (by omega) hF
 have hmap0:=Z0g hl hF
 generalize ((List.range 3).map fun i:Nat=>Hy i (3:Nat))=pl
 obtain⟨x1,hx1⟩:∃x,l[1]?=some x:=⟨_,ab (by omega)⟩
 obtain⟨b1,e1,rfl⟩:=hF 1 x1 hx1
 refine⟨⟨by omega,by rw[aa,hl];omega⟩,?_⟩
 refine dk (f:=pN) (i:=1) hx1 ?_
 have hok1:=(hG0.ok 1 _ hx1).1
 have hS:=U8 hok1.sim hok1.ni (by omega) 1
 have hL:(Cn (Ih 1 3 (0,0,[]) stN) 1).2=true:=hS.1.trans a1
 refine dg (.take 5 1 _ (cl (oAs (Ih 1 3 (0,0,[]) stN) b1 e1)) rfl (Fi hx1) (.opn 6 _ _ _ rfl rfl rfl (.dup 10 6 b1 rfl (.close (oAs (Ih 1 3 (0,0,[]) stN) b1 e1) [(0,6),(1,7),(2,8),(3,9),(4,10)] (by exact RL5) ⟨_,rfl⟩ rfl (.done (.raw 11 6 rfl (.same ((Z7h (Ih 1 3 (0,0,[]) stN) b1 e1 0 (fun _=>hok1.ni.wn (ah _)) 1).cal fun q rs hq=>?_))))))))
 obtain⟨hq1,s1,rfl,hs1⟩:=hq
 rw[hL] at hq1
 subst hq1
 refine .put 5 1 6 _ _ rfl (by simp only[List.length_set,List.length_map];omega) rfl (.drop 11 _ rfl (.done ?_))
 refine dj (fun h=>(by cases h)) fun _=>?_
 generalize hy:(⟨s1,(Cn (Ih 1 3 (0,0,[]) stN) 1).1,b1,e1,al0⟩:GM)=y1
 have hyb:y1.b=b1∧y1.e=e1∧y1.r=al0∧mOb y1=cl (oSs s1 (Cn (Ih 1 3 (0,0,[]) stN) 1).1 b1 e1):=by subst hy;exact⟨rfl,rfl,rfl,rfl⟩
 have hyok:MOk 2 y1:=by subst hy;exact⟨hS.2.1,hS.2.2,Z2e (Lp rfl) 1,hs1 hok1.sh⟩
 have hyself:=Sim.selfN hyok.sim (i:=1) (m:=3) (by rw[hyb.2.2.1];exact Wi.1) (by rw[hyb.2.2.1];exact Wi.2)
 have hG1:GI 2 3 (l.set 1 y1):=(hG0.up (j:=2) (by omega) (by omega)).set hx1 hyok hyself.1 hyself.2
 have hy1:(l.set 1 y1)[1]?=some y1:=cz (by omega)
 have hob:OB 100 y1.r:=by
  rw[hyb.2.2.1]
  exact(Z0u (c:=0) (k:=3) ⟨ah _,by nofun⟩ rfl 1).up (by omega)
 have hq1:∀(j:Nat) (z:GM),(l.set 1 y1)[j]?=some z→j≠1→z.r.out=[]:=fun j z hz hj=>by
  rw[cd (fun e=>hj e.symm)] at hz
  exact hS0 j z hz
 have hm1:(((l.set 1 y1).set 1 (Jq y1)).map GM.r,Cw [] y1.r.out)=([Hy 0 3,Tt al0,Hy 2 3],Cw [] al0.out):=by
  rw[List.set_set,Li,hmap0,hyb.2.2.1]
  show([Hy 0 3,Tt y1.r,Hy 2 3],_)=_
  rw[hyb.2.2.1]
 clear hy
 refine dg (.close (oGs (l.set 1 y1) pl []) [] ⟨RL1,⟨rfl,rfl,eqR (Ik hx1 hyb.1).symm⟩,⟨rfl,rfl,eqR (Ix hx1 hyb.2.1).symm⟩,RL1,RL1,⟨rfl,rfl,Hi (by rw[←hyb.2.2.2];exact E0 l 1 y1)⟩,trivial⟩ ⟨_,rfl⟩ rfl (.done (.same ((Z7i 2 3 (l.set 1 y1) pl [] 1 y1 hG1 hy1 hob hq1 (ah _) (by nofun) (by omega)).cal fun q rs hq=>?_))))
 obtain⟨rfl,l2,w2,rfl,hG2,hS2,hR2,hw2,ho2⟩:=hq
 refine .opn 0 _ _ _ rfl rfl rfl (.done ?_)
 have hR2:(l2.map GM.r,w2)=al1:=by
  rw[hR2]
  show G9 3000 (((l.set 1 y1).set 1 (Jq y1)).map GM.r,Cw [] y1.r.out).1 (((l.set 1 y1).set 1 (Jq y1)).map GM.r,Cw [] y1.r.out).2=_
  rw[hm1]
  rfl
 have hl2:=hG2.len
 obtain⟨z,hz⟩:∃x,l2[1]?=some x:=⟨_,ab (by omega)⟩
 have hzr:z.r=alN 1 al1.1:=by rw[←hR2];exact(Z36 hz).symm
 refine⟨⟨by omega,by rw[aa,hl2];omega⟩,?_⟩
 refine dk (f:=pN) (i:=1) hz ?_
 obtain⟨hzok,hzs,hzm⟩:=hG2.ok 1 z hz
 obtain⟨hok2,hO⟩:=hzok.offer (by omega) aS
 have hO:(C8 z.n aS).2=true:=hO.trans (by rw[hzr];exact a2)
 have hzst:=hS2 1 z hz
 have hzo:z.n.out=[]:=hzok.sim.out.symm.trans hzst
 have hos:=Sim.selfN hok2.sim (i:=1) (m:=3) (by have:=(K9 z.r aS).1;exact this.trans (by rw[hzok.sim.self,hzs])) (by have:=(K9 z.r aS).2;exact this.trans (by rw[hzok.sim.many,hzm]))
 have hG3:GI 450003 3 (l2.set 1 (Nq z aS)):=(hG2.up (j:=450003) (by omega) (by omega)).set hz hok2 (hos.1.trans hzs.symm) (hos.2.trans hzm.symm)
 have hob2:OB 100 (Nq z aS).r:=(Tx (c:=0) (k:=3) ⟨by rw[hzst];exact ah _,by rw[hzst];nofun⟩ (by rw[hzok.sim.many,hzm]) aS).up (by omega)
 have hq2:∀(j:Nat) (y:GM),(l2.set 1 (Nq z aS))[j]?=some y→j≠1→y.r.out=[]:=fun j y hy hj=>by
  rw[cd (fun e=>hj e.symm)] at hy
  exact hS2 j y hy
 have hm2:G9 3000 (((l2.set 1 (Nq z aS)).set 1 (Jq (Nq z aS))).map GM.r) (Cw w2 (Nq z aS).r.out)=al3:=by
  rw[List.set_set,Li]
  unfold al3 al2
  rw[←hR2]
  show G9 3000 ((l2.map GM.r).set 1 (Tt (B9 z.r aS).1)) (Cw w2 (B9 z.r aS).1.out)=G9 3000 ((l2.map GM.r).set 1 (Tt (B9 (alN 1 (l2.map GM.r)) aS).1)) (Cw w2 (B9 (alN 1 (l2.map GM.r)) aS).1.out)
  rw[Z36 hz]
 have hoG:(l2.set 1 (Nq z aS))[1]?=some (Nq z aS):=cz (by omega)
 have hzsh:=Ol hzok (by rw[hzr];exact Z55.1)
 obtain⟨s,n,b,e,r⟩:=z
 obtain rfl:s=true:=hzsh
 have hwn:n.dead=false→WNk _ n:=fun _=>hzok.ni.wn (by have hzo:n.out=[]:=hzo;rw[hzo];exact ah _)
 refine dg (.take 16 1 _ (cl (oAs n b e)) rfl (Fi hz) (.opn 17 _ _ _ rfl rfl rfl (.dup 21 17 b rfl (.close (oAs n b e) [(0,17),(1,18),(2,19),(3,20),(4,21)] (by exact RL5) ⟨_,rfl⟩ rfl (.done (.raw 22 17 rfl (.same ((Z2h n b e (fun h=>(hwn h).nb) aS).cal fun q rs hq=>?_))))))))
 obtain⟨hq1,rfl⟩:=hq
 rw[show(C8 n aS).2=true from hO] at hq1
 subst hq1
 refine .put 16 1 17 _ _ rfl (by simp only[List.length_set,List.length_map];omega) rfl (.drop 22 _ rfl (.done ?_))
 refine dg (.close (oGs (l2.set 1 (Nq ⟨true,n,b,e,r⟩ aS)) pl w2) [(0,0),(1,12),(2,13),(3,14),(4,15),(5,16)] ⟨RL1,⟨rfl,rfl,eqR (Ik (y:=Nq ⟨true,n,b,e,r⟩ aS) hz rfl).symm⟩,⟨rfl,rfl,eqR (Ix (y:=Nq ⟨true,n,b,e,r⟩ aS) hz rfl).symm⟩,RL1,RL1,⟨rfl,rfl,Hi (E0 l2 1 (Nq ⟨true,n,b,e,r⟩ aS))⟩,trivial⟩ ⟨_,rfl⟩ rfl (.done (.same ((Z7i 450003 3 _ pl w2 1 _ hG3 hoG hob2 hq2 hw2 ho2 (by omega)).cal fun q rs hq=>?_))))
 obtain⟨rfl,l3,w3,rfl,hG4,hS4,hR3,-,-⟩:=hq
 rw[hm2] at hR3
 refine .opn 0 _ _ _ rfl rfl rfl (.done ?_)
 refine dj (fun _=>?_) fun h=>(by cases h)
 clear hm2 hq2 hob2 hG3 hoG
 have hl3:=hG4.len
 have hv:∀(i:Nat) (x:GM),l3[i]?=some x→x.r=alN i al3.1:=fun i x hx=>by rw[←hR3];exact(Z36 hx).symm
 obtain⟨y1,hz1⟩:∃x,l3[1]?=some x:=⟨_,ab (by omega)⟩
 obtain⟨y0,hz0⟩:∃x,l3[0]?=some x:=⟨_,ab (by omega)⟩
 obtain⟨y2,hz2⟩:∃x,l3[2]?=some x:=⟨_,ab (by omega)⟩
 have hv1:=hv 1 y1 hz1
 have hv0:=hv 0 y0 hz0
 have hv2:=hv 2 y2 hz2
 have hld1:y1.n.lds=true:=by
  have h:=(hG4.ok 1 y1 hz1).1.sim.st.1
  rw[hv1,a3] at h
  cases hh:y1.n.lds with
  | true=>rfl
  | false=>exact dc (h.2 hh) (by decide)
 have hcm1:y1.n.cmt=1:=by rw[←(hG4.ok 1 y1 hz1).1.sim.cmt,hv1];exact a4
 have hcm0:y0.n.cmt=1:=by rw[←(hG4.ok 0 y0 hz0).1.sim.cmt,hv0];exact a5
 have hlog2:y2.n.log.length=1:=by rw[←(hG4.ok 2 y2 hz2).1.sim.log,hv2];exact a6
 have hs1':=Ol (hG4.ok 1 y1 hz1).1 (by rw[hv1];exact Z55.2.2.1)
 have hs0':=Ol (hG4.ok 0 y0 hz0).1 (by rw[hv0];exact Z55.2.1)
 have hs2':=Ol (hG4.ok 2 y2 hz2).1 (by rw[hv2];exact Z55.2.2.2)
 clear hv hv0 hv1 hv2
 obtain⟨s1,n1,b1,d1,r1⟩:=y1
 obtain⟨s0,n0,b0,d0,r0⟩:=y0
 obtain⟨s2,n2,b2,d2,r2⟩:=y2
 obtain rfl:s1=true:=hs1'
 obtain rfl:s0=true:=hs0'
 obtain rfl:s2=true:=hs2'
 dsimp only at hld1 hcm1 hcm0 hlog2
 refine⟨⟨by omega,by rw[aa,hl3];omega⟩,?_⟩
 refine dk (f:=pN) (i:=1) hz1 ?_
 have e1:((l3.map mOb).set 1 Yf).set 1 (cl (oAs n1 b1 d1))=l3.map mOb:=Hf hz1
 refine dg (.take 27 1 _ (cl (oAs n1 b1 d1)) rfl (Fi hz1) (.opn 28 _ _ _ rfl rfl rfl (.dup 32 28 b1 rfl (.close (oAs n1 b1 d1) [(0,28),(1,29),(2,30),(3,31),(4,32)] (by exact RL5) ⟨_,rfl⟩ rfl (.done (.raw 33 28 rfl (.same ((Z0s n1 b1 d1).cal fun q rs hq=>?_))))))))
 obtain⟨hq1,rfl⟩:=hq
 rw[hld1] at hq1
 subst hq1
 refine .put 27 1 28 _ _ rfl (by simp only[List.length_set,List.length_map];omega) rfl (.drop 33 _ rfl (.done ?_))
 refine dj (fun _=>?_) fun h=>dc h (by decide)
 refine⟨⟨by omega,by rw[aa,hl3];omega⟩,?_⟩
 refine dk (f:=pN) (i:=1) hz1 ?_
 refine dg (.take 27 1 _ (cl (oAs n1 b1 d1)) rfl (by rw[e1];exact Fi hz1) (.opn 34 _ _ _ rfl rfl rfl (.dup 38 34 b1 rfl (.close (oAs n1 b1 d1) [(0,34),(1,35),(2,36),(3,37),(4,38)] (by exact RL5) ⟨_,rfl⟩ rfl (.done (.raw 39 34 rfl (.same ((Pc n1 b1 d1).cal fun q rs hq=>?_))))))))
 obtain⟨hq1,rfl⟩:=hq
 rw[hcm1] at hq1
 subst hq1
 refine .put 27 1 34 _ _ rfl (by simp only[List.length_set,List.length_map];omega) rfl (.drop 39 _ rfl (.done ?_))
 refine dj (fun _=>?_) fun h=>dc h (by decide)
 refine⟨⟨by omega,by rw[aa,hl3];omega⟩,?_⟩
 refine dk (f:=pN) (i:=0) hz0 ?_
 have e0:((l3.map mOb).set 0 Yf).set 0 (cl (oAs n0 b0 d0))=l3.map mOb:=Hf hz0
 refine dg (.take 27 0 _ (cl (oAs n0 b0 d0)) rfl (by rw[e1,e1];exact Fi hz0) (.opn 40 _ _ _ rfl rfl rfl (.dup 44 40 b0 rfl (.close (oAs n0 b0 d0) [(0,40),(1,41),(2,42),(3,43),(4,44)] (by exact RL5) ⟨_,rfl⟩ rfl (.done (.raw 45 40 rfl (.same ((Pc n0 b0 d0).cal fun q rs hq=>?_))))))))
 obtain⟨hq1,rfl⟩:=hq
 rw[hcm0] at hq1
 subst hq1
 refine .put 27 0 40 _ _ rfl (by simp only[List.length_set,List.length_map];omega) rfl (.drop 45 _ rfl (.done ?_))
 refine dj (fun _=>?_) fun h=>dc h (by decide)
 refine⟨⟨by omega,by rw[aa,hl3];omega⟩,?_⟩
 refine dk (f:=pN) (i:=2) hz2 ?_
 refine dg (.take 27 2 _ (cl (oAs n2 b2 d2)) rfl (by rw[e1,e1,e0];exact Fi hz2) (.opn 46 _ _ _ rfl rfl rfl (.dup 50 46 b2 rfl (.close (oAs n2 b2 d2) [(0,46),(1,47),(2,48),(3,49),(4,50)] (by exact RL5) ⟨_,rfl⟩ rfl (.done (.raw 51 46 rfl (.same ((Zez n2 b2 d2 (by rw[hlog2];decide)).cal fun q rs hq=>?_))))))))
 obtain⟨hq1,rfl⟩:=hq
 subst hq1
 refine .put 27 2 46 _ _ rfl (by simp only[List.length_set,List.length_map];omega) rfl (.drop 51 _ rfl (.done ?_))
 exact(congrArg (fun k:Nat=>G.v (.bool ((k:Int)==1))) (show(n2.log.map enE).length=1 by rw[aa];exact hlog2)).trans rfl
end Go.Proofs.YtihfaocdpmmooaaGreat

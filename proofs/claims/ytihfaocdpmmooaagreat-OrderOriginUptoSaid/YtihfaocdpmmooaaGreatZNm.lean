
import Derived.Test.YtihfaocdpmmooaaGreatZNl
namespace Go.Proofs.YtihfaocdpmmooaaGreat
open Go.RowKit
set_option maxRecDepth 100000
theorem Hy (n:PN)(i:Nat):SameN n (Eh n i):=by
 unfold Eh
 split
 ·exact(A8 _ _ _).trans (A8 _ _ _)
 ·exact(A8 _ _ _).trans (A8 _ _ _)
theorem Hr (n:PN)(i:Nat):SameN n (Em n i):=by
 unfold Em
 split
 ·exact .refl n
 ·exact A8 _ _ _
theorem Wj (n:PN)(i:Nat):(Eh n i).out.length≤n.out.length+2:=by
 unfold Eh
 split
 ·exact Nat.le_trans (D6 _ _ _) (Nat.succ_le_succ (D6 _ _ _))
 ·exact Nat.le_trans (D6 _ _ _) (Nat.succ_le_succ (D6 _ _ _))
theorem Wn (n:PN)(i:Nat):(Em n i).out.length≤n.out.length+2:=by
 unfold Em
 split
 ·omega
 ·have:=D6 n i ⟨1,n.pmd,0,0,[]⟩
  omega
theorem Zaz {l m:List REnt}{lo hi:Int}(o:Os)(k v x:Int)(h:(l.take hi.toNat).drop lo.toNat=m):Z06 ((1,R.froz (l.map enE) 3)::o) (.oag [gI k,gI v,gI 0,gI x,.osv 1 3 lo.toNat hi.toNat])=.agg (enM ⟨k,v,0,x,m⟩):=by
 show G.agg [gI k,gI v,gI 0,gI x,.sl (((l.map enE).take hi.toNat).drop lo.toNat)]=G.agg [gI k,gI v,gI 0,gI x,.sl (m.map enE)]
 rw[←h,List.map_drop,List.map_take]
theorem Ym (l:List REnt)(a:Nat):(l.take (A5 l).toNat).drop a=l.drop a:=by rw[Dg,Int.toNat_natCast,List.take_length]
theorem Z1m (F:Nat)(f:PN→Nat→PN)(hf:∀n i,SameN n (f n i)∧(f n i).out.length≤n.out.length+2)(n:PN)(p:Ob)(hF:∀n' i,SameN n n'→i < n.many→n'.out.length≤700200→FnO Tryz.prog F [gI i,.ptr 0 0] [.blk [.ptr 1 0] tNp,.blk (Ad n' (.ptr 2 0) (.osl 3) (.osl 4)) tNd,.abs p,.slc (n'.log.map enE) tEn 3,.slc (n'.out.map pkG) tPk 3] fun g rs=>g=.tup []∧rs=[.blk [.ptr 1 0] tNp,.blk (Ad (f n' i) (.ptr 2 0) (.osl 5) (.osl 6)) tNd,.abs p,.gone,.gone,.slc (n'.log.map enE) tEn 3,.slc ((f n' i).out.map pkG) tPk 3])
  (hk:n.many≤7) (ho:n.out.length≤700000):FnO Tryz.prog 97 [.ptr 0 0,.clo F [] [.ptr 1 0]] [.blk (Ad n (.ptr 2 0) (.osl 3) (.osl 4)) tNd,.blk [.ptr 0 0] tNp,.abs p,.slc (n.log.map enE) tEn 3,.slc (n.out.map pkG) tPk 3] fun g rs=>g=.tup []∧rs=[.blk (Ad (Jt f n n.many) (.ptr 2 0) (.osl 5) (.osl 6)) tNd,.blk [.ptr 0 0] tNp,.abs p,.gone,.gone,.slc (n.log.map enE) tEn 3,.slc ((Jt f n n.many).out.map pkG) tPk 3]:=by
 refine Bd Tryz.func97 (by kernel_rfl) rfl (Nat.le_of_ble_eq_true (by kernel_rfl)) (by kernel_rfl) (C1 _ _) ?_
 refine D2 [0,1,8] [1,2] (fun x:Nat × PN=>[(9,gI x.1)]) (fun x=>[(0,.blk (Ad x.2 (.ptr 2 0) (.osl 3) (.osl 4)) tNd),(3,.slc (n.log.map enE) tEn 3),(4,.slc (x.2.out.map pkG) tPk 3)]) (fun x=>x.1≤n.many∧x.2=Jt f n x.1∧SameN n x.2∧x.2.out.length≤n.out.length+2 * x.1) (fun x=>n.many - x.1) (0,n) ⟨Nat.zero_le _,rfl,rfl,Nat.le_refl _⟩ ⟨⟨rfl,rfl⟩,trivial⟩ (by exact RL3) rfl fun⟨i,n'⟩ hI=>?_
 obtain⟨hi,hn,hs,hl⟩:=hI
 dsimp only at hi hn hs hl
 have hs2:=hs
 obtain⟨o,rfl⟩:=hs2.to
 have hl:o.length≤n.out.length+2 * i:=hl
 refine EvIf.dec (fun hlt=>?_) fun hge=>?_
 ·have hlt:i < n.many:=by omega
  have hst:=Ee f n i
  rw[←hn] at hst
  refine EvIf.bne (fun hne=>?_) fun heq=>?_
  ·have hne:i≠n.self:=fun e=>hne (by rw[e])
   rw[if_neg hne] at hst
   obtain⟨hf1,hf2⟩:=hf {n with out:=o} i
   have hf3:=hs.trans hf1
   have hC:=hF {n with out:=o} i hs hlt (by dsimp only;omega)
   obtain⟨o2,e2⟩:=hf1.to
   rw[e2] at hC hst hf2 hf3
   refine EvCall.lend (hC.cal fun q rs hq=>?_)
   obtain⟨rfl,rfl⟩:=hq
   refine⟨by omega,.done ⟨(i+1,{n with out:=o2}),[(3,5),(4,6)],⟨hlt,hst.symm,hf3,by dsimp only at hl hf2⊢;omega⟩,(by dsimp only;omega),?_⟩⟩
   refine⟨?_,?_,rfl⟩<;>repeat' (first | exact True.intro | with_reducible rfl | exact rfl | refine And.intro ?_ ?_)
  ·have heq:i=n.self:=by have:((i:Nat):Int)=(n.self:Nat):=heq;omega
   rw[if_pos heq] at hst
   refine⟨by omega,.done ⟨(i+1,{n with out:=o}),[],⟨hlt,hst.symm,hs,by dsimp only at hl⊢;omega⟩,(by dsimp only;omega),?_⟩⟩
   refine⟨?_,?_,rfl⟩<;>repeat' (first | exact True.intro | with_reducible rfl | exact rfl | refine And.intro ?_ ?_)
 ·have:i=n.many:=by omega
  subst this
  rw[←hn]
  conv=>whnf
  refine Gh.done ?_
  exact .gh (.rnm 0 3 [gI n.self,gI n.many,.ptr 2 0,gI n.pmd,gI n.normal] (Za9 n (.osl 4)) tNd _ tEn 3 rfl rfl (.rnm 0 4 ((Ad n (.ptr 2 0) (.osl 5) (.osl 4)).take 45) [.v (.bool n.dead)] tNd _ tPk 3 rfl rfl (.done ⟨[⟨[(0,.blk (Ad {n with out:=o} (.ptr 2 0) (.osl 5) (.osl 6)) tNd)],[(0,0)],false⟩,⟨[(0,.blk [.ptr 0 0] tNp)],[(0,1)],false⟩,⟨[(0,.abs p)],[(0,2)],false⟩,⟨[(0,.gone)],[(0,3)],false⟩,⟨[(0,.gone)],[(0,4)],false⟩,⟨[(0,.slc (n.log.map enE) tEn 3)],[(0,5)],false⟩,⟨[(0,.slc (o.map pkG) tPk 3)],[(0,6)],false⟩],.tup [],⟨⟨⟨_,rfl,rfl,rfl⟩,⟨_,rfl,rfl,rfl⟩,⟨_,rfl,rfl,rfl⟩,⟨_,rfl,rfl,rfl⟩,⟨_,rfl,rfl,rfl⟩,⟨_,rfl,rfl,rfl⟩,⟨_,rfl,rfl,rfl⟩,trivial⟩,rfl,⟨_,rfl⟩,rfl,rfl,⟨rfl,rfl⟩⟩⟩)))
theorem Zn (F:Nat)(f:PN→Nat→PN)(hf:∀n i,SameN n (f n i)∧(f n i).out.length≤n.out.length+2)(n:PN)(p:Ob)(hF:∀n' i,SameN n n'→i < n.many→n'.out.length≤700200→FnO Tryz.prog F [gI i,.ptr 0 0] [.blk [.ptr 1 0] tNp,.blk (Ad n' (.ptr 2 0) (.sl (n'.log.map enE)) (.osl 3)) tNd,.abs p,.slc (n'.out.map pkG) tPk 3] fun g rs=>g=.tup []∧rs=[.blk [.ptr 1 0] tNp,.blk (Ad (f n' i) (.ptr 2 0) (.sl (n'.log.map enE)) (.osl 4)) tNd,.abs p,.gone,.slc ((f n' i).out.map pkG) tPk 3])
  (hk:n.many≤7) (ho:n.out.length≤700000):FnO Tryz.prog 97 [.ptr 0 0,.clo F [] [.ptr 1 0]] [.blk (Ad n (.ptr 2 0) (.sl (n.log.map enE)) (.osl 3)) tNd,.blk [.ptr 0 0] tNp,.abs p,.slc (n.out.map pkG) tPk 3] fun g rs=>g=.tup []∧rs=[.blk (Ad (Jt f n n.many) (.ptr 2 0) (.sl (n.log.map enE)) (.osl 4)) tNd,.blk [.ptr 0 0] tNp,.abs p,.gone,.slc ((Jt f n n.many).out.map pkG) tPk 3]:=by
 refine Bd Tryz.func97 (by kernel_rfl) rfl (Nat.le_of_ble_eq_true (by kernel_rfl)) (by kernel_rfl) (C1 _ _) ?_
 refine D2 [0,1,8] [1,2] (fun x:Nat × PN=>[(9,gI x.1)]) (fun x=>[(0,.blk (Ad x.2 (.ptr 2 0) (.sl (n.log.map enE)) (.osl 3)) tNd),(3,.slc (x.2.out.map pkG) tPk 3)]) (fun x=>x.1≤n.many∧x.2=Jt f n x.1∧SameN n x.2∧x.2.out.length≤n.out.length+2 * x.1) (fun x=>n.many - x.1) (0,n) ⟨Nat.zero_le _,rfl,rfl,Nat.le_refl _⟩ ⟨⟨rfl,rfl⟩,trivial⟩ (by exact RL2) rfl fun⟨i,n'⟩ hI=>?_
 obtain⟨hi,hn,hs,hl⟩:=hI
 dsimp only at hi hn hs hl
 have hs2:=hs
 obtain⟨o,rfl⟩:=hs2.to
 have hl:o.length≤n.out.length+2 * i:=hl
 refine EvIf.dec (fun hlt=>?_) fun hge=>?_
 ·have hlt:i < n.many:=by omega
  have hst:=Ee f n i
  rw[←hn] at hst
  refine EvIf.bne (fun hne=>?_) fun heq=>?_
  ·have hne:i≠n.self:=fun e=>hne (by rw[e])
   rw[if_neg hne] at hst
   obtain⟨hf1,hf2⟩:=hf {n with out:=o} i
   have hf3:=hs.trans hf1
   have hC:=hF {n with out:=o} i hs hlt (by dsimp only;omega)
   obtain⟨o2,e2⟩:=hf1.to
   rw[e2] at hC hst hf2 hf3
   refine EvCall.lend (hC.cal fun q rs hq=>?_)
   obtain⟨rfl,rfl⟩:=hq
   refine⟨by omega,.done ⟨(i+1,{n with out:=o2}),[(3,4)],⟨hlt,hst.symm,hf3,by dsimp only at hl hf2⊢;omega⟩,(by dsimp only;omega),?_⟩⟩
   refine⟨?_,?_,rfl⟩<;>repeat' (first | exact True.intro | with_reducible rfl | exact rfl | refine And.intro ?_ ?_)
  ·have heq:i=n.self:=by have:((i:Nat):Int)=(n.self:Nat):=heq;omega
   rw[if_pos heq] at hst
   refine⟨by omega,.done ⟨(i+1,{n with out:=o}),[],⟨hlt,hst.symm,hs,by dsimp only at hl⊢;omega⟩,(by dsimp only;omega),?_⟩⟩
   refine⟨?_,?_,rfl⟩<;>repeat' (first | exact True.intro | with_reducible rfl | exact rfl | refine And.intro ?_ ?_)
 ·have:i=n.many:=by omega
  subst this
  rw[←hn]
  conv=>whnf
  refine Gh.done ?_
  exact .gh (.rnm 0 3 ((Ad n (.ptr 2 0) (.sl (n.log.map enE)) (.osl 3)).take 45) [.v (.bool n.dead)] tNd _ tPk 3 rfl rfl (.done ⟨[⟨[(0,.blk (Ad {n with out:=o} (.ptr 2 0) (.sl (n.log.map enE)) (.osl 4)) tNd)],[(0,0)],false⟩,⟨[(0,.blk [.ptr 0 0] tNp)],[(0,1)],false⟩,⟨[(0,.abs p)],[(0,2)],false⟩,⟨[(0,.gone)],[(0,3)],false⟩,⟨[(0,.slc (o.map pkG) tPk 3)],[(0,4)],false⟩],.tup [],⟨⟨⟨_,rfl,rfl,rfl⟩,⟨_,rfl,rfl,rfl⟩,⟨_,rfl,rfl,rfl⟩,⟨_,rfl,rfl,rfl⟩,⟨_,rfl,rfl,rfl⟩,trivial⟩,rfl,⟨_,rfl⟩,rfl,rfl,⟨rfl,rfl⟩⟩⟩))
set_option maxHeartbeats 4000000 in
theorem Z36 (n:PN)(p:Ob)(i:Nat)(hi:i < 7)(hl:n.log.length≤1000000)(ho:n.out.length≤700200)(ha:0≤n.aks i∧n.aks i≤n.log.length)(hf:0≤n.first∧n.first≤n.log.length):FnO Tryz.prog 102 [gI i,.ptr 0 0] [.blk [.ptr 1 0] tNp,.blk (Ad n (.ptr 2 0) (.osl 3) (.osl 4)) tNd,.abs p,.slc (n.log.map enE) tEn 3,.slc (n.out.map pkG) tPk 3] fun g rs=>g=.tup []∧rs=[.blk [.ptr 1 0] tNp,.blk (Ad (Eh n i) (.ptr 2 0) (.osl 5) (.osl 6)) tNd,.abs p,.gone,.gone,.slc (n.log.map enE) tEn 3,.slc ((Eh n i).out.map pkG) tPk 3]:=by
 refine Bd Tryz.func102 (by kernel_rfl) rfl (Nat.le_of_ble_eq_true (by kernel_rfl)) (by kernel_rfl) (C1 _ _) ?_
 have hi7:i=0∨i=1∨i=2∨i=3∨i=4∨i=5∨i=6:=by omega
 have e4:n.hrd i=true→Eh n i=Aq (Aq n i ⟨4,n.pmd,0,n.aks i,n.log.drop (n.aks i).toNat⟩) i ⟨6,n.pmd,0,n.cmt,[]⟩:=fun hh=>by unfold Eh;rw[if_pos hh]
 have e3:n.hrd i=false→Eh n i=Aq (Aq n i ⟨3,n.pmd,0,0,n.log.take n.first.toNat⟩) i ⟨6,n.pmd,0,n.cmt,[]⟩:=fun hh=>by unfold Eh;rw[if_neg (by rw[hh];decide)]
 have s4:=Hc n p i ⟨4,n.pmd,0,n.aks i,n.log.drop (n.aks i).toNat⟩ (.oag [gI 4,gI n.pmd,gI 0,gI (n.aks i),.osv 1 3 (n.aks i).toNat (A5 n.log).toNat]) (Zaz _ _ _ _ (Ym _ _)) (by rw[List.length_drop];omega) (by omega)
 have s3:=Hc n p i ⟨3,n.pmd,0,0,n.log.take n.first.toNat⟩ (.oag [gI 3,gI n.pmd,gI 0,gI 0,.osv 1 3 (0:Int).toNat n.first.toNat]) (Zaz _ _ _ _ rfl) (by rw[List.length_take];omega) (by omega)
 have o4:=D6 n i ⟨4,n.pmd,0,n.aks i,n.log.drop (n.aks i).toNat⟩
 have o3:=D6 n i ⟨3,n.pmd,0,0,n.log.take n.first.toNat⟩
 obtain⟨oa,h4⟩:=(A8 n i ⟨4,n.pmd,0,n.aks i,n.log.drop (n.aks i).toNat⟩).to
 obtain⟨ob,h3⟩:=(A8 n i ⟨3,n.pmd,0,0,n.log.take n.first.toNat⟩).to
 rw[h4] at s4 o4 e4
 rw[h3] at s3 o3 e3
 have o4:oa.length≤n.out.length+1:=o4
 have o3:ob.length≤n.out.length+1:=o3
 have t4:=L9 {n with out:=oa} p i ⟨6,n.pmd,0,n.cmt,[]⟩ (Nat.zero_le _) (by show oa.length≤_;omega)
 have t3:=L9 {n with out:=ob} p i ⟨6,n.pmd,0,n.cmt,[]⟩ (Nat.zero_le _) (by show ob.length≤_;omega)
 obtain⟨o2,h5⟩:=(A8 {n with out:=oa} i ⟨6,n.pmd,0,n.cmt,[]⟩).to
 obtain⟨o5,h6⟩:=(A8 {n with out:=ob} i ⟨6,n.pmd,0,n.cmt,[]⟩).to
 rw[h5] at t4 e4
 rw[h6] at t3 e3
 clear h3 h4 h5 h6
 rcases hi7 with rfl | rfl | rfl | rfl | rfl | rfl | rfl
 all_goals
  refine⟨⟨by decide,by decide⟩,?_⟩
  refine EvIf.mk (fun hh=>?_) fun hh=>?_
  ·rw[e4 hh]
   refine⟨⟨by decide,by decide⟩,⟨by decide,by decide⟩,?_⟩
   refine⟨⟨ha.1,by rw[List.length_map];exact ha.2,Int.le_refl _⟩,?_⟩
   refine EvCall.lend (s4.cal fun q rs hq=>?_)
   obtain⟨rfl,rfl⟩:=hq
   refine t4.cal fun q rs hq=>?_
   obtain⟨rfl,rfl⟩:=hq
   exact .gh (.rnm 1 3 [gI n.self,gI n.many,.ptr 2 0,gI n.pmd,gI n.normal] (Za9 n (.osl 6)) tNd _ tEn 3 rfl rfl (.done ⟨[⟨[(0,.blk [.ptr 1 0] tNp)],[(0,0)],false⟩,⟨[(0,.blk (Ad {n with out:=o2} (.ptr 2 0) (.osl 5) (.osl 6)) tNd)],[(0,1)],false⟩,⟨[(0,.abs p)],[(0,2)],false⟩,⟨[(0,.gone)],[(0,3)],false⟩,⟨[(0,.gone)],[(0,4)],false⟩,⟨[(0,.slc (n.log.map enE) tEn 3)],[(0,7)],false⟩,⟨[(0,.slc (o2.map pkG) tPk 3)],[(0,6)],false⟩],.tup [],⟨⟨⟨_,rfl,rfl,rfl⟩,⟨_,rfl,rfl,rfl⟩,⟨_,rfl,rfl,rfl⟩,⟨_,rfl,rfl,rfl⟩,⟨_,rfl,rfl,rfl⟩,⟨_,rfl,rfl,rfl⟩,⟨_,rfl,rfl,rfl⟩,trivial⟩,rfl,⟨_,rfl⟩,rfl,rfl,⟨rfl,rfl⟩⟩⟩))
  ·rw[e3 hh]
   refine⟨⟨Int.le_refl 0,hf.1,by rw[List.length_map];exact hf.2⟩,?_⟩
   refine EvCall.lend (s3.cal fun q rs hq=>?_)
   obtain⟨rfl,rfl⟩:=hq
   refine t3.cal fun q rs hq=>?_
   obtain⟨rfl,rfl⟩:=hq
   exact .gh (.rnm 1 3 [gI n.self,gI n.many,.ptr 2 0,gI n.pmd,gI n.normal] (Za9 n (.osl 6)) tNd _ tEn 3 rfl rfl (.done ⟨[⟨[(0,.blk [.ptr 1 0] tNp)],[(0,0)],false⟩,⟨[(0,.blk (Ad {n with out:=o5} (.ptr 2 0) (.osl 5) (.osl 6)) tNd)],[(0,1)],false⟩,⟨[(0,.abs p)],[(0,2)],false⟩,⟨[(0,.gone)],[(0,3)],false⟩,⟨[(0,.gone)],[(0,4)],false⟩,⟨[(0,.slc (n.log.map enE) tEn 3)],[(0,7)],false⟩,⟨[(0,.slc (o5.map pkG) tPk 3)],[(0,6)],false⟩],.tup [],⟨⟨⟨_,rfl,rfl,rfl⟩,⟨_,rfl,rfl,rfl⟩,⟨_,rfl,rfl,rfl⟩,⟨_,rfl,rfl,rfl⟩,⟨_,rfl,rfl,rfl⟩,⟨_,rfl,rfl,rfl⟩,⟨_,rfl,rfl,rfl⟩,trivial⟩,rfl,⟨_,rfl⟩,rfl,rfl,⟨rfl,rfl⟩⟩⟩))
set_option maxHeartbeats 4000000 in
theorem Z4v (n:PN)(p:Ob)(i:Nat)(hi:i < 7)(ho:n.out.length≤700200):FnO Tryz.prog 103 [gI i,.ptr 0 0] [.blk [.ptr 1 0] tNp,.blk (Ad n (.ptr 2 0) (.sl (n.log.map enE)) (.osl 3)) tNd,.abs p,.slc (n.out.map pkG) tPk 3] fun g rs=>g=.tup []∧rs=[.blk [.ptr 1 0] tNp,.blk (Ad (Em n i) (.ptr 2 0) (.sl (n.log.map enE)) (.osl 4)) tNd,.abs p,.gone,.slc ((Em n i).out.map pkG) tPk 3]:=by
 refine Bd Tryz.func103 (by kernel_rfl) rfl (Nat.le_of_ble_eq_true (by kernel_rfl)) (by kernel_rfl) (C1 _ _) ?_
 have hi7:i=0∨i=1∨i=2∨i=3∨i=4∨i=5∨i=6:=by omega
 have e1:(n.jns i).is=false→Em n i=Aq n i ⟨1,n.pmd,0,0,[]⟩:=fun hh=>by unfold Em;rw[if_neg (by rw[hh];decide)]
 have e2:(n.jns i).is=true→Em n i=n:=fun hh=>by unfold Em;rw[if_pos hh]
 have hS:=Ve n p i ⟨1,n.pmd,0,0,[]⟩ (Nat.zero_le _) (by omega)
 obtain⟨o,hs⟩:=(A8 n i ⟨1,n.pmd,0,0,[]⟩).to
 rw[hs] at hS e1
 clear hs
 rcases hi7 with rfl | rfl | rfl | rfl | rfl | rfl | rfl
 all_goals
  refine⟨⟨by decide,by decide⟩,?_⟩
  refine EvIf.mk (fun hh=>?_) fun hh=>?_
  ·rw[e1 (by simpa using hh)]
   refine hS.cal fun q rs hq=>?_
   obtain⟨rfl,rfl⟩:=hq
   exact .inl ⟨[⟨[(0,.blk [.ptr 1 0] tNp)],[(0,0)],false⟩,⟨[(0,.blk (Ad {n with out:=o} (.ptr 2 0) (.sl (n.log.map enE)) (.osl 4)) tNd)],[(0,1)],false⟩,⟨[(0,.abs p)],[(0,2)],false⟩,⟨[(0,.gone)],[(0,3)],false⟩,⟨[(0,.slc (o.map pkG) tPk 3)],[(0,4)],false⟩],.tup [],⟨⟨⟨_,rfl,rfl,rfl⟩,⟨_,rfl,rfl,rfl⟩,⟨_,rfl,rfl,rfl⟩,⟨_,rfl,rfl,rfl⟩,⟨_,rfl,rfl,rfl⟩,trivial⟩,rfl,⟨_,rfl⟩,rfl,rfl,⟨rfl,rfl⟩⟩⟩
  ·rw[e2 (by simpa using hh)]
   exact .gh (.rnm 1 3 ((Ad n (.ptr 2 0) (.sl (n.log.map enE)) (.osl 4)).take 45) [.v (.bool n.dead)] tNd _ tPk 3 rfl rfl (.done ⟨[⟨[(0,.blk [.ptr 1 0] tNp)],[(0,0)],false⟩,⟨[(0,.blk (Ad n (.ptr 2 0) (.sl (n.log.map enE)) (.osl 4)) tNd)],[(0,1)],false⟩,⟨[(0,.abs p)],[(0,2)],false⟩,⟨[(0,.gone)],[(0,3)],false⟩,⟨[(0,.slc (n.out.map pkG) tPk 3)],[(0,4)],false⟩],.tup [],⟨⟨⟨_,rfl,rfl,rfl⟩,⟨_,rfl,rfl,rfl⟩,⟨_,rfl,rfl,rfl⟩,⟨_,rfl,rfl,rfl⟩,⟨_,rfl,rfl,rfl⟩,trivial⟩,rfl,⟨_,rfl⟩,rfl,rfl,⟨rfl,rfl⟩⟩⟩))
theorem Ip {f:PN→Nat→PN}(hf:∀n i,SameN n (f n i))(n:PN)(k:Nat):SameN n (Jt f n k):=U7 n f hf k
theorem Z87 (n:PN)(b e:Nat)(h0:n.dead=false→n.lds=true→n.std=true)(hm:n.many≤7)(hl:n.log.length≤1000000)(ho:n.out.length≤700000)(hs:n.std=true→(∀i,0≤n.aks i∧n.aks i≤n.log.length)∧0≤n.first∧n.first≤n.log.length):FnO Tryz.prog 70 [.ptr 0 0] (cA n b e) fun g rs=>g=.tup []∧rs=cA (Bl n) b e:=by
 refine Bd Tryz.func70 (by kernel_rfl) rfl (Nat.le_of_ble_eq_true (by kernel_rfl)) (by kernel_rfl) (A6 (O:=oAs n b e) (n0:=5) rfl) ?_
 have no:(n.dead=true∨n.lds=false)→Bl n=n:=fun h=>by unfold Bl;rw[if_pos h]
 refine EvIf.mk (fun hd=>?_) fun hd=>?_
 ·rw[no (.inl hd)]
  exact .inl (A1 (oAs n b e) [] (by exact RL5) rfl ⟨_,rfl⟩ rfl rfl ⟨rfl,rfl⟩)
 refine EvIf.mk (fun hd2=>?_) fun hd2=>?_
 ·rw[no (.inr (by simpa using hd2))]
  exact .inl (A1 (oAs n b e) [] (by exact RL5) rfl ⟨_,rfl⟩ rfl rfl ⟨rfl,rfl⟩)
 have hld:n.lds=true:=by simpa using hd2
 refine EvIf.mk (fun hst=>?_) fun hst=>absurd (h0 hd hld) (by rw[hst];decide)
 obtain⟨ha,hf⟩:=hs hst
 have eN:Bl n=Jt Eh n n.many:=by unfold Bl;rw[if_neg (by rw[hd,hld];rintro(h | h)<;>cases h),if_pos hst]
 rw[eN]
 have hC:=Z1m 102 Eh (fun n i=>⟨Hy n i,Wj n i⟩) n (cl (oLs n.st e)) (fun n' i hs hi hno=>by
  obtain⟨o,rfl⟩:=hs.to
  exact Z36 _ _ i (by omega) hl hno (ha i) hf) hm ho
 obtain⟨o,hs⟩:=(Ip Hy n n.many).to
 rw[hs] at hC⊢
 refine EvCall.lend (hC.cal fun q rs hq=>?_)
 obtain⟨rfl,rfl⟩:=hq
 exact .inl (A1 (oAs {n with out:=o} b e) [(2,6),(3,7)] (by exact RL5) rfl ⟨_,rfl⟩ rfl rfl ⟨rfl,rfl⟩)
theorem Z7z (n:PN)(b e:Nat)(h0:n.std=false)(hm:n.many≤7)(ho:n.out.length≤700000):FnO Tryz.prog 70 [.ptr 0 0] (cB n b e) fun g rs=>g=.tup []∧rs=cB (Bl n) b e:=by
 refine Bd Tryz.func70 (by kernel_rfl) rfl (Nat.le_of_ble_eq_true (by kernel_rfl)) (by kernel_rfl) (A6 (O:=oBs n b e) (n0:=5) rfl) ?_
 have no:(n.dead=true∨n.lds=false)→Bl n=n:=fun h=>by unfold Bl;rw[if_pos h]
 refine EvIf.mk (fun hd=>?_) fun hd=>?_
 ·rw[no (.inl hd)]
  exact .inl (A1 (oBs n b e) [] (by exact RL5) rfl ⟨_,rfl⟩ rfl rfl ⟨rfl,rfl⟩)
 refine EvIf.mk (fun hd2=>?_) fun hd2=>?_
 ·rw[no (.inr (by simpa using hd2))]
  exact .inl (A1 (oBs n b e) [] (by exact RL5) rfl ⟨_,rfl⟩ rfl rfl ⟨rfl,rfl⟩)
 have hld:n.lds=true:=by simpa using hd2
 refine EvIf.mk (fun hst=>absurd h0 (by rw[hst];decide)) fun hst=>?_
 have eN:Bl n=Jt Em n n.many:=by unfold Bl;rw[if_neg (by rw[hd,hld];rintro(h | h)<;>cases h),if_neg (by rw[h0];decide)]
 rw[eN]
 have hC:=Zn 103 Em (fun n i=>⟨Hr n i,Wn n i⟩) n (cl (oLs n.st e)) (fun n' i hs hi hno=>by
  obtain⟨o,rfl⟩:=hs.to
  exact Z4v _ _ i (by omega) hno) hm ho
 obtain⟨o,hs⟩:=(Ip Hr n n.many).to
 rw[hs] at hC⊢
 refine EvCall.lend (hC.cal fun q rs hq=>?_)
 obtain⟨rfl,rfl⟩:=hq
 exact .inl (A1 (oBs {n with out:=o} b e) [(3,6)] (by exact RL5) rfl ⟨_,rfl⟩ rfl rfl ⟨rfl,rfl⟩)
end Go.Proofs.YtihfaocdpmmooaaGreat


import Derived.Test.YtihfaocdpmmooaaGreatZNl
namespace Go.Proofs.YtihfaocdpmmooaaGreat
open Go.RowKit
set_option maxRecDepth 100000
theorem I9 (n:PN)(i:Nat):SameN n (F0 n i):=by
 unfold F0
 split
 ·exact(A8 _ _ _).trans (A8 _ _ _)
 ·exact(A8 _ _ _).trans (A8 _ _ _)
theorem If (n:PN)(i:Nat):SameN n (Ew n i):=by
 unfold Ew
 split
 ·exact .refl n
 ·exact A8 _ _ _
theorem Wx (n:PN)(i:Nat):(F0 n i).out.length≤n.out.length+2:=by
 unfold F0
 split
 ·exact b9 (Dh _ _ _) (Nat.succ_le_succ (Dh _ _ _))
 ·exact b9 (Dh _ _ _) (Nat.succ_le_succ (Dh _ _ _))
theorem Wq (n:PN)(i:Nat):(Ew n i).out.length≤n.out.length+2:=by
 unfold Ew
 split
 ·omega
 ·have:=Dh n i ⟨1,n.pmd,0,0,[]⟩
  omega
theorem Ze3 {l m:List REnt}{lo hi:Int}(o:Os)(k v x:Int)(h:(l.take hi.toNat).drop lo.toNat=m):Z17 ((1,R.froz (l.map enE) 3)::o) (.oag [gI k,gI v,gI 0,gI x,.osv 1 3 lo.toNat hi.toNat])=.agg (enM ⟨k,v,0,x,m⟩):=by
 show G.agg [gI k,gI v,gI 0,gI x,.sl (((l.map enE).take hi.toNat).drop lo.toNat)]=G.agg [gI k,gI v,gI 0,gI x,.sl (m.map enE)]
 rw[←h,List.map_drop,cv]
theorem Zs (l:List REnt)(a:Nat):(l.take (A4 l).toNat).drop a=l.drop a:=by rw[E1,ay,List.take_length]
theorem Z2i (F:Nat)(f:PN→Nat→PN)(hf:∀n i,SameN n (f n i)∧(f n i).out.length≤n.out.length+2)(n:PN)(p:Ob)(hF:∀n' i,SameN n n'→i < n.many→n'.out.length≤700200→FnO Tryz.prog F [gI i,.ptr 0 0] [.blk [.ptr 1 0] tNp,.blk (Ad n' (.ptr 2 0) (.osl 3) (.osl 4)) tNd,.abs p,.slc (n'.log.map enE) tEn 3,.slc (n'.out.map pkG) tPk 3] fun g rs=>g=.tup []∧rs=[.blk [.ptr 1 0] tNp,.blk (Ad (f n' i) (.ptr 2 0) (.osl 5) (.osl 6)) tNd,.abs p,.gone,.gone,.slc (n'.log.map enE) tEn 3,.slc ((f n' i).out.map pkG) tPk 3])
  (hk:n.many≤7) (ho:n.out.length≤700000):FnO Tryz.prog 97 [.ptr 0 0,.clo F [] [.ptr 1 0]] [.blk (Ad n (.ptr 2 0) (.osl 3) (.osl 4)) tNd,.blk [.ptr 0 0] tNp,.abs p,.slc (n.log.map enE) tEn 3,.slc (n.out.map pkG) tPk 3] fun g rs=>g=.tup []∧rs=[.blk (Ad (Kg f n n.many) (.ptr 2 0) (.osl 5) (.osl 6)) tNd,.blk [.ptr 0 0] tNp,.abs p,.gone,.gone,.slc (n.log.map enE) tEn 3,.slc ((Kg f n n.many).out.map pkG) tPk 3]:=by
 refine Ba Tryz.func97 (C3 _ _) ?_
 refine D2 [0,1,8] [1,2] (fun x:Nat × PN=>[(9,gI x.1)]) (fun x=>[(0,.blk (Ad x.2 (.ptr 2 0) (.osl 3) (.osl 4)) tNd),(3,.slc (n.log.map enE) tEn 3),(4,.slc (x.2.out.map pkG) tPk 3)]) (fun x=>x.1≤n.many∧x.2=Kg f n x.1∧SameN n x.2∧x.2.out.length≤n.out.length+2 * x.1) (fun x=>n.many - x.1) (0,n) ⟨ah _,rfl,rfl,af _⟩ ⟨⟨rfl,rfl⟩,trivial⟩ (by exact RL3) rfl fun⟨i,n'⟩ hI=>?_
 obtain⟨hi,hn,hs,hl⟩:=hI
 dsimp only at hi hn hs hl
 have hs2:=hs
 obtain⟨o,rfl⟩:=hs2.to
 have hl:o.length≤n.out.length+2 * i:=hl
 refine df (fun hlt=>?_) fun hge=>?_
 ·have hlt:i < n.many:=by omega
  have hst:=Fj f n i
  rw[←hn] at hst
  refine di (fun hne=>?_) fun heq=>?_
  ·have hne:i≠n.self:=fun e=>hne (by rw[e])
   rw[da hne] at hst
   obtain⟨hf1,hf2⟩:=hf {n with out:=o} i
   have hf3:=hs.trans hf1
   have hC:=hF {n with out:=o} i hs hlt (by dsimp only;omega)
   obtain⟨o2,e2⟩:=hf1.to
   rw[e2] at hC hst hf2 hf3
   refine dh (hC.cal fun q rs hq=>?_)
   obtain⟨rfl,rfl⟩:=hq
   refine⟨by omega,.done ⟨(i+1,{n with out:=o2}),[(3,5),(4,6)],⟨hlt,hst.symm,hf3,by dsimp only at hl hf2⊢;omega⟩,(by dsimp only;omega),?_⟩⟩
   refine⟨?_,?_,rfl⟩<;>repeat' (first|exact trivial|with_reducible rfl|exact rfl|refine And.intro ?_ ?_)
  ·have heq:i=n.self:=by have:((i:Nat):Int)=(n.self:Nat):=heq;omega
   rw[db heq] at hst
   refine⟨by omega,.done ⟨(i+1,{n with out:=o}),[],⟨hlt,hst.symm,hs,by dsimp only at hl⊢;omega⟩,(by dsimp only;omega),?_⟩⟩
   refine⟨?_,?_,rfl⟩<;>repeat' (first|exact trivial|with_reducible rfl|exact rfl|refine And.intro ?_ ?_)
 ·have:i=n.many:=by omega
  subst this
  rw[←hn]
  conv=>whnf
  refine Gh.done ?_
  exact .gh (.rnm 0 3 [gI n.self,gI n.many,.ptr 2 0,gI n.pmd,gI n.normal] (Zbx n (.osl 4)) tNd _ tEn 3 rfl rfl (.rnm 0 4 ((Ad n (.ptr 2 0) (.osl 5) (.osl 4)).take 45) [.v (.bool n.dead)] tNd _ tPk 3 rfl rfl (.done ⟨[⟨[(0,.blk (Ad {n with out:=o} (.ptr 2 0) (.osl 5) (.osl 6)) tNd)],[(0,0)],false⟩,⟨[(0,.blk [.ptr 0 0] tNp)],[(0,1)],false⟩,⟨[(0,.abs p)],[(0,2)],false⟩,⟨[(0,.gone)],[(0,3)],false⟩,⟨[(0,.gone)],[(0,4)],false⟩,⟨[(0,.slc (n.log.map enE) tEn 3)],[(0,5)],false⟩,⟨[(0,.slc (o.map pkG) tPk 3)],[(0,6)],false⟩],.tup [],⟨⟨⟨_,rfl,rfl,rfl⟩,⟨_,rfl,rfl,rfl⟩,⟨_,rfl,rfl,rfl⟩,⟨_,rfl,rfl,rfl⟩,⟨_,rfl,rfl,rfl⟩,⟨_,rfl,rfl,rfl⟩,⟨_,rfl,rfl,rfl⟩,trivial⟩,rfl,⟨_,rfl⟩,rfl,rfl,⟨rfl,rfl⟩⟩⟩)))
theorem Z1o (F:Nat)(f:PN→Nat→PN)(hf:∀n i,SameN n (f n i)∧(f n i).out.length≤n.out.length+2)(n:PN)(p:Ob)(hF:∀n' i,SameN n n'→i < n.many→n'.out.length≤700200→FnO Tryz.prog F [gI i,.ptr 0 0] [.blk [.ptr 1 0] tNp,.blk (Ad n' (.ptr 2 0) (.sl (n'.log.map enE)) (.osl 3)) tNd,.abs p,.slc (n'.out.map pkG) tPk 3] fun g rs=>g=.tup []∧rs=[.blk [.ptr 1 0] tNp,.blk (Ad (f n' i) (.ptr 2 0) (.sl (n'.log.map enE)) (.osl 4)) tNd,.abs p,.gone,.slc ((f n' i).out.map pkG) tPk 3])
  (hk:n.many≤7) (ho:n.out.length≤700000):FnO Tryz.prog 97 [.ptr 0 0,.clo F [] [.ptr 1 0]] [.blk (Ad n (.ptr 2 0) (.sl (n.log.map enE)) (.osl 3)) tNd,.blk [.ptr 0 0] tNp,.abs p,.slc (n.out.map pkG) tPk 3] fun g rs=>g=.tup []∧rs=[.blk (Ad (Kg f n n.many) (.ptr 2 0) (.sl (n.log.map enE)) (.osl 4)) tNd,.blk [.ptr 0 0] tNp,.abs p,.gone,.slc ((Kg f n n.many).out.map pkG) tPk 3]:=by
 refine Ba Tryz.func97 (C3 _ _) ?_
 refine D2 [0,1,8] [1,2] (fun x:Nat × PN=>[(9,gI x.1)]) (fun x=>[(0,.blk (Ad x.2 (.ptr 2 0) (.sl (n.log.map enE)) (.osl 3)) tNd),(3,.slc (x.2.out.map pkG) tPk 3)]) (fun x=>x.1≤n.many∧x.2=Kg f n x.1∧SameN n x.2∧x.2.out.length≤n.out.length+2 * x.1) (fun x=>n.many - x.1) (0,n) ⟨ah _,rfl,rfl,af _⟩ ⟨⟨rfl,rfl⟩,trivial⟩ (by exact RL2) rfl fun⟨i,n'⟩ hI=>?_
 obtain⟨hi,hn,hs,hl⟩:=hI
 dsimp only at hi hn hs hl
 have hs2:=hs
 obtain⟨o,rfl⟩:=hs2.to
 have hl:o.length≤n.out.length+2 * i:=hl
 refine df (fun hlt=>?_) fun hge=>?_
 ·have hlt:i < n.many:=by omega
  have hst:=Fj f n i
  rw[←hn] at hst
  refine di (fun hne=>?_) fun heq=>?_
  ·have hne:i≠n.self:=fun e=>hne (by rw[e])
   rw[da hne] at hst
   obtain⟨hf1,hf2⟩:=hf {n with out:=o} i
   have hf3:=hs.trans hf1
   have hC:=hF {n with out:=o} i hs hlt (by dsimp only;omega)
   obtain⟨o2,e2⟩:=hf1.to
   rw[e2] at hC hst hf2 hf3
   refine dh (hC.cal fun q rs hq=>?_)
   obtain⟨rfl,rfl⟩:=hq
   refine⟨by omega,.done ⟨(i+1,{n with out:=o2}),[(3,4)],⟨hlt,hst.symm,hf3,by dsimp only at hl hf2⊢;omega⟩,(by dsimp only;omega),?_⟩⟩
   refine⟨?_,?_,rfl⟩<;>repeat' (first|exact trivial|with_reducible rfl|exact rfl|refine And.intro ?_ ?_)
  ·have heq:i=n.self:=by have:((i:Nat):Int)=(n.self:Nat):=heq;omega
   rw[db heq] at hst
   refine⟨by omega,.done ⟨(i+1,{n with out:=o}),[],⟨hlt,hst.symm,hs,by dsimp only at hl⊢;omega⟩,(by dsimp only;omega),?_⟩⟩
   refine⟨?_,?_,rfl⟩<;>repeat' (first|exact trivial|with_reducible rfl|exact rfl|refine And.intro ?_ ?_)
 ·have:i=n.many:=by omega
  subst this
  rw[←hn]
  conv=>whnf
  refine Gh.done ?_
  exact .gh (.rnm 0 3 ((Ad n (.ptr 2 0) (.sl (n.log.map enE)) (.osl 3)).take 45) [.v (.bool n.dead)] tNd _ tPk 3 rfl rfl (.done ⟨[⟨[(0,.blk (Ad {n with out:=o} (.ptr 2 0) (.sl (n.log.map enE)) (.osl 4)) tNd)],[(0,0)],false⟩,⟨[(0,.blk [.ptr 0 0] tNp)],[(0,1)],false⟩,⟨[(0,.abs p)],[(0,2)],false⟩,⟨[(0,.gone)],[(0,3)],false⟩,⟨[(0,.slc (o.map pkG) tPk 3)],[(0,4)],false⟩],.tup [],⟨⟨⟨_,rfl,rfl,rfl⟩,⟨_,rfl,rfl,rfl⟩,⟨_,rfl,rfl,rfl⟩,⟨_,rfl,rfl,rfl⟩,⟨_,rfl,rfl,rfl⟩,trivial⟩,rfl,⟨_,rfl⟩,rfl,rfl,⟨rfl,rfl⟩⟩⟩))
set_option maxHeartbeats 4000000 in
theorem Z6x (n:PN)(p:Ob)(i:Nat)(hi:i < 7)(hl:n.log.length≤1000000)(ho:n.out.length≤700200)(ha:0≤n.aks i∧n.aks i≤n.log.length)(hf:0≤n.first∧n.first≤n.log.length):FnO Tryz.prog 102 [gI i,.ptr 0 0] [.blk [.ptr 1 0] tNp,.blk (Ad n (.ptr 2 0) (.osl 3) (.osl 4)) tNd,.abs p,.slc (n.log.map enE) tEn 3,.slc (n.out.map pkG) tPk 3] fun g rs=>g=.tup []∧rs=[.blk [.ptr 1 0] tNp,.blk (Ad (F0 n i) (.ptr 2 0) (.osl 5) (.osl 6)) tNd,.abs p,.gone,.gone,.slc (n.log.map enE) tEn 3,.slc ((F0 n i).out.map pkG) tPk 3]:=by
 refine Ba Tryz.func102 (C3 _ _) ?_
 have hi7:i=0∨i=1∨i=2∨i=3∨i=4∨i=5∨i=6:=by omega
 have e4:n.hrd i=true→F0 n i=Ay (Ay n i ⟨4,n.pmd,0,n.aks i,n.log.drop (n.aks i).toNat⟩) i ⟨6,n.pmd,0,n.cmt,[]⟩:=fun hh=>by unfold F0;rw[db hh]
 have e3:n.hrd i=false→F0 n i=Ay (Ay n i ⟨3,n.pmd,0,0,n.log.take n.first.toNat⟩) i ⟨6,n.pmd,0,n.cmt,[]⟩:=fun hh=>by unfold F0;rw[da (by rw[hh];decide)]
 have s4:=Hp n p i ⟨4,n.pmd,0,n.aks i,n.log.drop (n.aks i).toNat⟩ (.oag [gI 4,gI n.pmd,gI 0,gI (n.aks i),.osv 1 3 (n.aks i).toNat (A4 n.log).toNat]) (Ze3 _ _ _ _ (Zs _ _)) (by rw[ba];omega) (by omega)
 have s3:=Hp n p i ⟨3,n.pmd,0,0,n.log.take n.first.toNat⟩ (.oag [gI 3,gI n.pmd,gI 0,gI 0,.osv 1 3 (0:Int).toNat n.first.toNat]) (Ze3 _ _ _ _ rfl) (by rw[au];omega) (by omega)
 have o4:=Dh n i ⟨4,n.pmd,0,n.aks i,n.log.drop (n.aks i).toNat⟩
 have o3:=Dh n i ⟨3,n.pmd,0,0,n.log.take n.first.toNat⟩
 obtain⟨oa,h4⟩:=(A8 n i ⟨4,n.pmd,0,n.aks i,n.log.drop (n.aks i).toNat⟩).to
 obtain⟨ob,h3⟩:=(A8 n i ⟨3,n.pmd,0,0,n.log.take n.first.toNat⟩).to
 rw[h4] at s4 o4 e4
 rw[h3] at s3 o3 e3
 have o4:oa.length≤n.out.length+1:=o4
 have o3:ob.length≤n.out.length+1:=o3
 have t4:=Lz {n with out:=oa} p i ⟨6,n.pmd,0,n.cmt,[]⟩ (ah _) (by show oa.length≤_;omega)
 have t3:=Lz {n with out:=ob} p i ⟨6,n.pmd,0,n.cmt,[]⟩ (ah _) (by show ob.length≤_;omega)
 obtain⟨o2,h5⟩:=(A8 {n with out:=oa} i ⟨6,n.pmd,0,n.cmt,[]⟩).to
 obtain⟨o5,h6⟩:=(A8 {n with out:=ob} i ⟨6,n.pmd,0,n.cmt,[]⟩).to
 rw[h5] at t4 e4
 rw[h6] at t3 e3
 clear h3 h4 h5 h6
 rcases hi7 with rfl | rfl | rfl | rfl | rfl | rfl | rfl
 all_goals
  refine⟨⟨by decide,by decide⟩,?_⟩
  refine dj (fun hh=>?_) fun hh=>?_
  ·rw[e4 hh]
   refine⟨⟨by decide,by decide⟩,⟨by decide,by decide⟩,?_⟩
   refine⟨⟨ha.1,by rw[aa];exact ha.2,bp _⟩,?_⟩
   refine dh (s4.cal fun q rs hq=>?_)
   obtain⟨rfl,rfl⟩:=hq
   refine t4.cal fun q rs hq=>?_
   obtain⟨rfl,rfl⟩:=hq
   exact .gh (.rnm 1 3 [gI n.self,gI n.many,.ptr 2 0,gI n.pmd,gI n.normal] (Zbx n (.osl 6)) tNd _ tEn 3 rfl rfl (.done ⟨[⟨[(0,.blk [.ptr 1 0] tNp)],[(0,0)],false⟩,⟨[(0,.blk (Ad {n with out:=o2} (.ptr 2 0) (.osl 5) (.osl 6)) tNd)],[(0,1)],false⟩,⟨[(0,.abs p)],[(0,2)],false⟩,⟨[(0,.gone)],[(0,3)],false⟩,⟨[(0,.gone)],[(0,4)],false⟩,⟨[(0,.slc (n.log.map enE) tEn 3)],[(0,7)],false⟩,⟨[(0,.slc (o2.map pkG) tPk 3)],[(0,6)],false⟩],.tup [],⟨⟨⟨_,rfl,rfl,rfl⟩,⟨_,rfl,rfl,rfl⟩,⟨_,rfl,rfl,rfl⟩,⟨_,rfl,rfl,rfl⟩,⟨_,rfl,rfl,rfl⟩,⟨_,rfl,rfl,rfl⟩,⟨_,rfl,rfl,rfl⟩,trivial⟩,rfl,⟨_,rfl⟩,rfl,rfl,⟨rfl,rfl⟩⟩⟩))
  ·rw[e3 hh]
   refine⟨⟨bp 0,hf.1,by rw[aa];exact hf.2⟩,?_⟩
   refine dh (s3.cal fun q rs hq=>?_)
   obtain⟨rfl,rfl⟩:=hq
   refine t3.cal fun q rs hq=>?_
   obtain⟨rfl,rfl⟩:=hq
   exact .gh (.rnm 1 3 [gI n.self,gI n.many,.ptr 2 0,gI n.pmd,gI n.normal] (Zbx n (.osl 6)) tNd _ tEn 3 rfl rfl (.done ⟨[⟨[(0,.blk [.ptr 1 0] tNp)],[(0,0)],false⟩,⟨[(0,.blk (Ad {n with out:=o5} (.ptr 2 0) (.osl 5) (.osl 6)) tNd)],[(0,1)],false⟩,⟨[(0,.abs p)],[(0,2)],false⟩,⟨[(0,.gone)],[(0,3)],false⟩,⟨[(0,.gone)],[(0,4)],false⟩,⟨[(0,.slc (n.log.map enE) tEn 3)],[(0,7)],false⟩,⟨[(0,.slc (o5.map pkG) tPk 3)],[(0,6)],false⟩],.tup [],⟨⟨⟨_,rfl,rfl,rfl⟩,⟨_,rfl,rfl,rfl⟩,⟨_,rfl,rfl,rfl⟩,⟨_,rfl,rfl,rfl⟩,⟨_,rfl,rfl,rfl⟩,⟨_,rfl,rfl,rfl⟩,⟨_,rfl,rfl,rfl⟩,trivial⟩,rfl,⟨_,rfl⟩,rfl,rfl,⟨rfl,rfl⟩⟩⟩))
set_option maxHeartbeats 4000000 in
theorem Z4p (n:PN)(p:Ob)(i:Nat)(hi:i < 7)(ho:n.out.length≤700200):FnO Tryz.prog 103 [gI i,.ptr 0 0] [.blk [.ptr 1 0] tNp,.blk (Ad n (.ptr 2 0) (.sl (n.log.map enE)) (.osl 3)) tNd,.abs p,.slc (n.out.map pkG) tPk 3] fun g rs=>g=.tup []∧rs=[.blk [.ptr 1 0] tNp,.blk (Ad (Ew n i) (.ptr 2 0) (.sl (n.log.map enE)) (.osl 4)) tNd,.abs p,.gone,.slc ((Ew n i).out.map pkG) tPk 3]:=by
 refine Ba Tryz.func103 (C3 _ _) ?_
 have hi7:i=0∨i=1∨i=2∨i=3∨i=4∨i=5∨i=6:=by omega
 have e1:(n.jns i).is=false→Ew n i=Ay n i ⟨1,n.pmd,0,0,[]⟩:=fun hh=>by unfold Ew;rw[da (by rw[hh];decide)]
 have e2:(n.jns i).is=true→Ew n i=n:=fun hh=>by unfold Ew;rw[db hh]
 have hS:=Uc n p i ⟨1,n.pmd,0,0,[]⟩ (ah _) (by omega)
 obtain⟨o,hs⟩:=(A8 n i ⟨1,n.pmd,0,0,[]⟩).to
 rw[hs] at hS e1
 clear hs
 rcases hi7 with rfl | rfl | rfl | rfl | rfl | rfl | rfl
 all_goals
  refine⟨⟨by decide,by decide⟩,?_⟩
  refine dj (fun hh=>?_) fun hh=>?_
  ·rw[e1 (by simpa using hh)]
   refine hS.cal fun q rs hq=>?_
   obtain⟨rfl,rfl⟩:=hq
   exact .inl ⟨[⟨[(0,.blk [.ptr 1 0] tNp)],[(0,0)],false⟩,⟨[(0,.blk (Ad {n with out:=o} (.ptr 2 0) (.sl (n.log.map enE)) (.osl 4)) tNd)],[(0,1)],false⟩,⟨[(0,.abs p)],[(0,2)],false⟩,⟨[(0,.gone)],[(0,3)],false⟩,⟨[(0,.slc (o.map pkG) tPk 3)],[(0,4)],false⟩],.tup [],⟨⟨⟨_,rfl,rfl,rfl⟩,⟨_,rfl,rfl,rfl⟩,⟨_,rfl,rfl,rfl⟩,⟨_,rfl,rfl,rfl⟩,⟨_,rfl,rfl,rfl⟩,trivial⟩,rfl,⟨_,rfl⟩,rfl,rfl,⟨rfl,rfl⟩⟩⟩
  ·rw[e2 (by simpa using hh)]
   exact .gh (.rnm 1 3 ((Ad n (.ptr 2 0) (.sl (n.log.map enE)) (.osl 4)).take 45) [.v (.bool n.dead)] tNd _ tPk 3 rfl rfl (.done ⟨[⟨[(0,.blk [.ptr 1 0] tNp)],[(0,0)],false⟩,⟨[(0,.blk (Ad n (.ptr 2 0) (.sl (n.log.map enE)) (.osl 4)) tNd)],[(0,1)],false⟩,⟨[(0,.abs p)],[(0,2)],false⟩,⟨[(0,.gone)],[(0,3)],false⟩,⟨[(0,.slc (n.out.map pkG) tPk 3)],[(0,4)],false⟩],.tup [],⟨⟨⟨_,rfl,rfl,rfl⟩,⟨_,rfl,rfl,rfl⟩,⟨_,rfl,rfl,rfl⟩,⟨_,rfl,rfl,rfl⟩,⟨_,rfl,rfl,rfl⟩,trivial⟩,rfl,⟨_,rfl⟩,rfl,rfl,⟨rfl,rfl⟩⟩⟩))
theorem Iz {f:PN→Nat→PN}(hf:∀n i,SameN n (f n i))(n:PN)(k:Nat):SameN n (Kg f n k):=Vl n f hf k
theorem Zax (n:PN)(b e:Nat)(h0:n.dead=false→n.lds=true→n.std=true)(hm:n.many≤7)(hl:n.log.length≤1000000)(ho:n.out.length≤700000)(hs:n.std=true→(∀i,0≤n.aks i∧n.aks i≤n.log.length)∧0≤n.first∧n.first≤n.log.length):FnO Tryz.prog 70 [.ptr 0 0] (cA n b e) fun g rs=>g=.tup []∧rs=cA (C1 n) b e:=by
 refine Ba Tryz.func70 (A5 (O:=oAs n b e) (n0:=5) rfl) ?_
 have no:(n.dead=true∨n.lds=false)→C1 n=n:=fun h=>by unfold C1;rw[db h]
 refine dj (fun hd=>?_) fun hd=>?_
 ·rw[no (.inl hd)]
  exact .inl (A1 (oAs n b e) [] (by exact RL5) rfl ⟨_,rfl⟩ rfl rfl ⟨rfl,rfl⟩)
 refine dj (fun hd2=>?_) fun hd2=>?_
 ·rw[no (.inr (by simpa using hd2))]
  exact .inl (A1 (oAs n b e) [] (by exact RL5) rfl ⟨_,rfl⟩ rfl rfl ⟨rfl,rfl⟩)
 have hld:n.lds=true:=by simpa using hd2
 refine dj (fun hst=>?_) fun hst=>dc (h0 hd hld) (by rw[hst];decide)
 obtain⟨ha,hf⟩:=hs hst
 have eN:C1 n=Kg F0 n n.many:=by unfold C1;rw[da (by rw[hd,hld];rintro(h | h)<;>cases h),db hst]
 rw[eN]
 have hC:=Z2i 102 F0 (fun n i=>⟨I9 n i,Wx n i⟩) n (cl (oLs n.st e)) (fun n' i hs hi hno=>by
  obtain⟨o,rfl⟩:=hs.to
  exact Z6x _ _ i (by omega) hl hno (ha i) hf) hm ho
 obtain⟨o,hs⟩:=(Iz I9 n n.many).to
 rw[hs] at hC⊢
 refine dh (hC.cal fun q rs hq=>?_)
 obtain⟨rfl,rfl⟩:=hq
 exact .inl (A1 (oAs {n with out:=o} b e) [(2,6),(3,7)] (by exact RL5) rfl ⟨_,rfl⟩ rfl rfl ⟨rfl,rfl⟩)
theorem Zbt (n:PN)(b e:Nat)(h0:n.std=false)(hm:n.many≤7)(ho:n.out.length≤700000):FnO Tryz.prog 70 [.ptr 0 0] (cB n b e) fun g rs=>g=.tup []∧rs=cB (C1 n) b e:=by
 refine Ba Tryz.func70 (A5 (O:=oBs n b e) (n0:=5) rfl) ?_
 have no:(n.dead=true∨n.lds=false)→C1 n=n:=fun h=>by unfold C1;rw[db h]
 refine dj (fun hd=>?_) fun hd=>?_
 ·rw[no (.inl hd)]
  exact .inl (A1 (oBs n b e) [] (by exact RL5) rfl ⟨_,rfl⟩ rfl rfl ⟨rfl,rfl⟩)
 refine dj (fun hd2=>?_) fun hd2=>?_
 ·rw[no (.inr (by simpa using hd2))]
  exact .inl (A1 (oBs n b e) [] (by exact RL5) rfl ⟨_,rfl⟩ rfl rfl ⟨rfl,rfl⟩)
 have hld:n.lds=true:=by simpa using hd2
 refine dj (fun hst=>dc h0 (by rw[hst];decide)) fun hst=>?_
 have eN:C1 n=Kg Ew n n.many:=by unfold C1;rw[da (by rw[hd,hld];rintro(h | h)<;>cases h),da (by rw[h0];decide)]
 rw[eN]
 have hC:=Z1o 103 Ew (fun n i=>⟨If n i,Wq n i⟩) n (cl (oLs n.st e)) (fun n' i hs hi hno=>by
  obtain⟨o,rfl⟩:=hs.to
  exact Z4p _ _ i (by omega) hno) hm ho
 obtain⟨o,hs⟩:=(Iz If n n.many).to
 rw[hs] at hC⊢
 refine dh (hC.cal fun q rs hq=>?_)
 obtain⟨rfl,rfl⟩:=hq
 exact .inl (A1 (oBs {n with out:=o} b e) [(3,6)] (by exact RL5) rfl ⟨_,rfl⟩ rfl rfl ⟨rfl,rfl⟩)
end Go.Proofs.YtihfaocdpmmooaaGreat

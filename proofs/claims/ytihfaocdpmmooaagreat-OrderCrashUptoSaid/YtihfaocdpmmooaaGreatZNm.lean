
import Derived.Test.YtihfaocdpmmooaaGreatZNl
namespace Go.Proofs.YtihfaocdpmmooaaGreat
open Go.RowKit
set_option maxRecDepth 100000
theorem Iq (n:PN)(i:Nat):SameN n (Dv n i):=by
 unfold Dv;split
 ·exact(A9 _ _ _).trans (A9 _ _ _)
 ·exact(A9 _ _ _).trans (A9 _ _ _)
theorem Ix (n:PN)(i:Nat):SameN n (E0 n i):=by
 unfold E0;split
 ·exact .refl n
 ·exact A9 _ _ _
theorem Yw (n:PN)(i:Nat):(Dv n i).out.length≤n.out.length+2:=by
 unfold Dv;split
 ·exact ca (Dr _ _ _) (Nat.succ_le_succ (Dr _ _ _))
 ·exact ca (Dr _ _ _) (Nat.succ_le_succ (Dr _ _ _))
theorem Zo (n:PN)(i:Nat):(E0 n i).out.length≤n.out.length+2:=by
 unfold E0;split
 ·omega
 ·have:=Dr n i ⟨1,n.pmd,0,0,[]⟩;omega
theorem Zge {l m:List REnt}{lo hi:Int}(o:Os)(k v x:Int)(h:(l.take hi.toNat).drop lo.toNat=m):Z52 ((1,R.froz (l.map enE) 3)::o) (.oag [gI k,gI v,gI 0,gI x,.osv 1 3 lo.toNat hi.toNat])=.agg (enM ⟨k,v,0,x,m⟩):=by show G.agg [gI k,gI v,gI 0,gI x,.sl (((l.map enE).take hi.toNat).drop lo.toNat)]=G.agg [gI k,gI v,gI 0,gI x,.sl (m.map enE)];rw[←h,List.map_drop,cw]
theorem Z1y (l:List REnt)(a:Nat):(l.take (A3 l).toNat).drop a=l.drop a:=by rw[Dy,az,List.take_length]
theorem Z45 (F:Nat)(f:PN→Nat→PN)(hf:∀n i,SameN n (f n i)∧(f n i).out.length≤n.out.length+2)(n:PN)(p:Ob)(w:∀b i,SameN n b→i < n.many→b.out.length≤700200→FnO Tryz.prog F [gI i,.ptr 0 0] [.blk [.ptr 1 0] tNp,.blk (Af b (.ptr 2 0) (.osl 3) (.osl 4)) tNd,.abs p,.slc (b.log.map enE) tEn 3,.slc (b.out.map pkG) tPk 3] fun g rs=>g=.tup []∧rs=[.blk [.ptr 1 0] tNp,.blk (Af (f b i) (.ptr 2 0) (.osl 5) (.osl 6)) tNd,.abs p,.gone,.gone,.slc (b.log.map enE) tEn 3,.slc ((f b i).out.map pkG) tPk 3])
  (C:n.many≤7) (D:n.out.length≤700000):FnO Tryz.prog 97 [.ptr 0 0,.clo F [] [.ptr 1 0]] [.blk (Af n (.ptr 2 0) (.osl 3) (.osl 4)) tNd,.blk [.ptr 0 0] tNp,.abs p,.slc (n.log.map enE) tEn 3,.slc (n.out.map pkG) tPk 3] fun g rs=>g=.tup []∧rs=[.blk (Af (I8 f n n.many) (.ptr 2 0) (.osl 5) (.osl 6)) tNd,.blk [.ptr 0 0] tNp,.abs p,.gone,.gone,.slc (n.log.map enE) tEn 3,.slc ((I8 f n n.many).out.map pkG) tPk 3]:=by
 refine Bq Tryz.func97 (Ci _ _) ?_;refine D2 [0,1,8] [1,2] (fun x:Nat × PN=>[(9,gI x.1)]) (fun x=>[(0,.blk (Af x.2 (.ptr 2 0) (.osl 3) (.osl 4)) tNd),(3,.slc (n.log.map enE) tEn 3),(4,.slc (x.2.out.map pkG) tPk 3)]) (fun x=>x.1≤n.many∧x.2=I8 f n x.1∧SameN n x.2∧x.2.out.length≤n.out.length+2 * x.1) (fun x=>n.many - x.1) (0,n) ⟨ah _,rfl,rfl,af _⟩ ⟨⟨rfl,rfl⟩,trivial⟩ (by exact RL3) rfl fun⟨i,b⟩ hI=>?_;obtain⟨hi,t,r,k⟩:=hI;dsimp only at hi t r k;have s:=r;obtain⟨o,rfl⟩:=s.to;have k:o.length≤n.out.length+2 * i:=k;refine dg (fun c=>?_) fun B=>?_
 ·have c:i < n.many:=by omega
  have a:=Di f n i;rw[←t] at a;refine dj (fun d=>?_) fun h=>?_
  ·have d:i≠n.self:=fun e=>d (by rw[e]);rw[db d] at a;obtain⟨m,l⟩:=hf {n with out:=o} i;have j:=r.trans m;have u:=w {n with out:=o} i r c (by dsimp only;omega);obtain⟨z,y⟩:=m.to;rw[y] at u a l j;refine di (u.cal fun q rs A=>?_);obtain⟨rfl,rfl⟩:=A;refine⟨by omega,.done ⟨(i+1,{n with out:=z}),[(3,5),(4,6)],⟨c,a.symm,j,by dsimp only at k l⊢;omega⟩,(by dsimp only;omega),?_⟩⟩;refine⟨?_,?_,rfl⟩<;>repeat' (first|exact trivial|with_reducible rfl|exact rfl|refine And.intro ?_ ?_)
  ·have h:i=n.self:=by have:((i:Nat):Int)=(n.self:Nat):=h;omega
   rw[dc h] at a;refine⟨by omega,.done ⟨(i+1,{n with out:=o}),[],⟨c,a.symm,r,by dsimp only at k⊢;omega⟩,(by dsimp only;omega),?_⟩⟩;refine⟨?_,?_,rfl⟩<;>repeat' (first|exact trivial|with_reducible rfl|exact rfl|refine And.intro ?_ ?_)
 ·have:i=n.many:=by omega
  subst this;rw[←t]
  conv=>whnf
  refine Gh.done ?_;exact .gh (.rnm 0 3 [gI n.self,gI n.many,.ptr 2 0,gI n.pmd,gI n.normal] (Zek n (.osl 4)) tNd _ tEn 3 rfl rfl (.rnm 0 4 ((Af n (.ptr 2 0) (.osl 5) (.osl 4)).take 45) [.v (.bool n.dead)] tNd _ tPk 3 rfl rfl (.done ⟨[⟨[(0,.blk (Af {n with out:=o} (.ptr 2 0) (.osl 5) (.osl 6)) tNd)],[(0,0)],false⟩,⟨[(0,.blk [.ptr 0 0] tNp)],[(0,1)],false⟩,⟨[(0,.abs p)],[(0,2)],false⟩,⟨[(0,.gone)],[(0,3)],false⟩,⟨[(0,.gone)],[(0,4)],false⟩,⟨[(0,.slc (n.log.map enE) tEn 3)],[(0,5)],false⟩,⟨[(0,.slc (o.map pkG) tPk 3)],[(0,6)],false⟩],.tup [],⟨⟨⟨_,rfl,rfl,rfl⟩,⟨_,rfl,rfl,rfl⟩,⟨_,rfl,rfl,rfl⟩,⟨_,rfl,rfl,rfl⟩,⟨_,rfl,rfl,rfl⟩,⟨_,rfl,rfl,rfl⟩,⟨_,rfl,rfl,rfl⟩,trivial⟩,rfl,⟨_,rfl⟩,rfl,rfl,⟨rfl,rfl⟩⟩⟩)))
theorem Z5n (F:Nat)(f:PN→Nat→PN)(hf:∀n i,SameN n (f n i)∧(f n i).out.length≤n.out.length+2)(n:PN)(p:Ob)(w:∀b i,SameN n b→i < n.many→b.out.length≤700200→FnO Tryz.prog F [gI i,.ptr 0 0] [.blk [.ptr 1 0] tNp,.blk (Af b (.ptr 2 0) (.sl (b.log.map enE)) (.osl 3)) tNd,.abs p,.slc (b.out.map pkG) tPk 3] fun g rs=>g=.tup []∧rs=[.blk [.ptr 1 0] tNp,.blk (Af (f b i) (.ptr 2 0) (.sl (b.log.map enE)) (.osl 4)) tNd,.abs p,.gone,.slc ((f b i).out.map pkG) tPk 3])
  (C:n.many≤7) (D:n.out.length≤700000):FnO Tryz.prog 97 [.ptr 0 0,.clo F [] [.ptr 1 0]] [.blk (Af n (.ptr 2 0) (.sl (n.log.map enE)) (.osl 3)) tNd,.blk [.ptr 0 0] tNp,.abs p,.slc (n.out.map pkG) tPk 3] fun g rs=>g=.tup []∧rs=[.blk (Af (I8 f n n.many) (.ptr 2 0) (.sl (n.log.map enE)) (.osl 4)) tNd,.blk [.ptr 0 0] tNp,.abs p,.gone,.slc ((I8 f n n.many).out.map pkG) tPk 3]:=by
 refine Bq Tryz.func97 (Ci _ _) ?_;refine D2 [0,1,8] [1,2] (fun x:Nat × PN=>[(9,gI x.1)]) (fun x=>[(0,.blk (Af x.2 (.ptr 2 0) (.sl (n.log.map enE)) (.osl 3)) tNd),(3,.slc (x.2.out.map pkG) tPk 3)]) (fun x=>x.1≤n.many∧x.2=I8 f n x.1∧SameN n x.2∧x.2.out.length≤n.out.length+2 * x.1) (fun x=>n.many - x.1) (0,n) ⟨ah _,rfl,rfl,af _⟩ ⟨⟨rfl,rfl⟩,trivial⟩ (by exact RL2) rfl fun⟨i,b⟩ hI=>?_;obtain⟨hi,t,r,k⟩:=hI;dsimp only at hi t r k;have s:=r;obtain⟨o,rfl⟩:=s.to;have k:o.length≤n.out.length+2 * i:=k;refine dg (fun c=>?_) fun B=>?_
 ·have c:i < n.many:=by omega
  have a:=Di f n i;rw[←t] at a;refine dj (fun d=>?_) fun h=>?_
  ·have d:i≠n.self:=fun e=>d (by rw[e]);rw[db d] at a;obtain⟨m,l⟩:=hf {n with out:=o} i;have j:=r.trans m;have u:=w {n with out:=o} i r c (by dsimp only;omega);obtain⟨z,y⟩:=m.to;rw[y] at u a l j;refine di (u.cal fun q rs A=>?_);obtain⟨rfl,rfl⟩:=A;refine⟨by omega,.done ⟨(i+1,{n with out:=z}),[(3,4)],⟨c,a.symm,j,by dsimp only at k l⊢;omega⟩,(by dsimp only;omega),?_⟩⟩;refine⟨?_,?_,rfl⟩<;>repeat' (first|exact trivial|with_reducible rfl|exact rfl|refine And.intro ?_ ?_)
  ·have h:i=n.self:=by have:((i:Nat):Int)=(n.self:Nat):=h;omega
   rw[dc h] at a;refine⟨by omega,.done ⟨(i+1,{n with out:=o}),[],⟨c,a.symm,r,by dsimp only at k⊢;omega⟩,(by dsimp only;omega),?_⟩⟩;refine⟨?_,?_,rfl⟩<;>repeat' (first|exact trivial|with_reducible rfl|exact rfl|refine And.intro ?_ ?_)
 ·have:i=n.many:=by omega
  subst this;rw[←t]
  conv=>whnf
  refine Gh.done ?_;exact .gh (.rnm 0 3 ((Af n (.ptr 2 0) (.sl (n.log.map enE)) (.osl 3)).take 45) [.v (.bool n.dead)] tNd _ tPk 3 rfl rfl (.done ⟨[⟨[(0,.blk (Af {n with out:=o} (.ptr 2 0) (.sl (n.log.map enE)) (.osl 4)) tNd)],[(0,0)],false⟩,⟨[(0,.blk [.ptr 0 0] tNp)],[(0,1)],false⟩,⟨[(0,.abs p)],[(0,2)],false⟩,⟨[(0,.gone)],[(0,3)],false⟩,⟨[(0,.slc (o.map pkG) tPk 3)],[(0,4)],false⟩],.tup [],⟨⟨⟨_,rfl,rfl,rfl⟩,⟨_,rfl,rfl,rfl⟩,⟨_,rfl,rfl,rfl⟩,⟨_,rfl,rfl,rfl⟩,⟨_,rfl,rfl,rfl⟩,trivial⟩,rfl,⟨_,rfl⟩,rfl,rfl,⟨rfl,rfl⟩⟩⟩))
set_option maxHeartbeats 4000000 in
theorem Z7u (n:PN)(p:Ob)(i:Nat)(hi:i < 7)(y:n.log.length≤1000000)(z:n.out.length≤700200)(ha:0≤n.aks i∧n.aks i≤n.log.length)(hf:0≤n.first∧n.first≤n.log.length):FnO Tryz.prog 102 [gI i,.ptr 0 0] [.blk [.ptr 1 0] tNp,.blk (Af n (.ptr 2 0) (.osl 3) (.osl 4)) tNd,.abs p,.slc (n.log.map enE) tEn 3,.slc (n.out.map pkG) tPk 3] fun g rs=>g=.tup []∧rs=[.blk [.ptr 1 0] tNp,.blk (Af (Dv n i) (.ptr 2 0) (.osl 5) (.osl 6)) tNd,.abs p,.gone,.gone,.slc (n.log.map enE) tEn 3,.slc ((Dv n i).out.map pkG) tPk 3]:=by
 refine Bq Tryz.func102 (Ci _ _) ?_;have f:i=0∨i=1∨i=2∨i=3∨i=4∨i=5∨i=6:=by omega
 have h:n.hrd i=true→Dv n i=Ao (Ao n i ⟨4,n.pmd,0,n.aks i,n.log.drop (n.aks i).toNat⟩) i ⟨6,n.pmd,0,n.cmt,[]⟩:=fun a=>by unfold Dv;rw[dc a]
 have j:n.hrd i=false→Dv n i=Ao (Ao n i ⟨3,n.pmd,0,0,n.log.take n.first.toNat⟩) i ⟨6,n.pmd,0,n.cmt,[]⟩:=fun a=>by unfold Dv;rw[db (by rw[a];decide)]
 have o:=Ij n p i ⟨4,n.pmd,0,n.aks i,n.log.drop (n.aks i).toNat⟩ (.oag [gI 4,gI n.pmd,gI 0,gI (n.aks i),.osv 1 3 (n.aks i).toNat (A3 n.log).toNat]) (Zge _ _ _ _ (Z1y _ _)) (by rw[bc];omega) (by omega);have u:=Ij n p i ⟨3,n.pmd,0,0,n.log.take n.first.toNat⟩ (.oag [gI 3,gI n.pmd,gI 0,gI 0,.osv 1 3 (0:Int).toNat n.first.toNat]) (Zge _ _ _ _ rfl) (by rw[aw];omega) (by omega);have k:=Dr n i ⟨4,n.pmd,0,n.aks i,n.log.drop (n.aks i).toNat⟩;have e:=Dr n i ⟨3,n.pmd,0,0,n.log.take n.first.toNat⟩;obtain⟨c,t⟩:=(A9 n i ⟨4,n.pmd,0,n.aks i,n.log.drop (n.aks i).toNat⟩).to;obtain⟨d,l⟩:=(A9 n i ⟨3,n.pmd,0,0,n.log.take n.first.toNat⟩).to;rw[t] at o k h;rw[l] at u e j;have k:c.length≤n.out.length+1:=k;have e:d.length≤n.out.length+1:=e;have r:=Mc {n with out:=c} p i ⟨6,n.pmd,0,n.cmt,[]⟩ (ah _) (by show c.length≤_;omega);have m:=Mc {n with out:=d} p i ⟨6,n.pmd,0,n.cmt,[]⟩ (ah _) (by show d.length≤_;omega);obtain⟨s,v⟩:=(A9 {n with out:=c} i ⟨6,n.pmd,0,n.cmt,[]⟩).to;obtain⟨x,w⟩:=(A9 {n with out:=d} i ⟨6,n.pmd,0,n.cmt,[]⟩).to;rw[v] at r h;rw[w] at m j;clear l t v w;rcases f with rfl | rfl | rfl | rfl | rfl | rfl | rfl
 all_goals
  refine⟨⟨by decide,by decide⟩,?_⟩;refine dk (fun a=>?_) fun a=>?_
  ·rw[h a];refine⟨⟨by decide,by decide⟩,⟨by decide,by decide⟩,?_⟩;refine⟨⟨ha.1,by rw[aa];exact ha.2,br _⟩,?_⟩;refine di (o.cal fun q rs b=>?_);obtain⟨rfl,rfl⟩:=b;refine r.cal fun q rs b=>?_;obtain⟨rfl,rfl⟩:=b;exact .gh (.rnm 1 3 [gI n.self,gI n.many,.ptr 2 0,gI n.pmd,gI n.normal] (Zek n (.osl 6)) tNd _ tEn 3 rfl rfl (.done ⟨[⟨[(0,.blk [.ptr 1 0] tNp)],[(0,0)],false⟩,⟨[(0,.blk (Af {n with out:=s} (.ptr 2 0) (.osl 5) (.osl 6)) tNd)],[(0,1)],false⟩,⟨[(0,.abs p)],[(0,2)],false⟩,⟨[(0,.gone)],[(0,3)],false⟩,⟨[(0,.gone)],[(0,4)],false⟩,⟨[(0,.slc (n.log.map enE) tEn 3)],[(0,7)],false⟩,⟨[(0,.slc (s.map pkG) tPk 3)],[(0,6)],false⟩],.tup [],⟨⟨⟨_,rfl,rfl,rfl⟩,⟨_,rfl,rfl,rfl⟩,⟨_,rfl,rfl,rfl⟩,⟨_,rfl,rfl,rfl⟩,⟨_,rfl,rfl,rfl⟩,⟨_,rfl,rfl,rfl⟩,⟨_,rfl,rfl,rfl⟩,trivial⟩,rfl,⟨_,rfl⟩,rfl,rfl,⟨rfl,rfl⟩⟩⟩))
  ·rw[j a];refine⟨⟨br 0,hf.1,by rw[aa];exact hf.2⟩,?_⟩;refine di (u.cal fun q rs b=>?_);obtain⟨rfl,rfl⟩:=b;refine m.cal fun q rs b=>?_;obtain⟨rfl,rfl⟩:=b;exact .gh (.rnm 1 3 [gI n.self,gI n.many,.ptr 2 0,gI n.pmd,gI n.normal] (Zek n (.osl 6)) tNd _ tEn 3 rfl rfl (.done ⟨[⟨[(0,.blk [.ptr 1 0] tNp)],[(0,0)],false⟩,⟨[(0,.blk (Af {n with out:=x} (.ptr 2 0) (.osl 5) (.osl 6)) tNd)],[(0,1)],false⟩,⟨[(0,.abs p)],[(0,2)],false⟩,⟨[(0,.gone)],[(0,3)],false⟩,⟨[(0,.gone)],[(0,4)],false⟩,⟨[(0,.slc (n.log.map enE) tEn 3)],[(0,7)],false⟩,⟨[(0,.slc (x.map pkG) tPk 3)],[(0,6)],false⟩],.tup [],⟨⟨⟨_,rfl,rfl,rfl⟩,⟨_,rfl,rfl,rfl⟩,⟨_,rfl,rfl,rfl⟩,⟨_,rfl,rfl,rfl⟩,⟨_,rfl,rfl,rfl⟩,⟨_,rfl,rfl,rfl⟩,⟨_,rfl,rfl,rfl⟩,trivial⟩,rfl,⟨_,rfl⟩,rfl,rfl,⟨rfl,rfl⟩⟩⟩))
set_option maxHeartbeats 4000000 in
theorem Z70 (n:PN)(p:Ob)(i:Nat)(hi:i < 7)(j:n.out.length≤700200):FnO Tryz.prog 103 [gI i,.ptr 0 0] [.blk [.ptr 1 0] tNp,.blk (Af n (.ptr 2 0) (.sl (n.log.map enE)) (.osl 3)) tNd,.abs p,.slc (n.out.map pkG) tPk 3] fun g rs=>g=.tup []∧rs=[.blk [.ptr 1 0] tNp,.blk (Af (E0 n i) (.ptr 2 0) (.sl (n.log.map enE)) (.osl 4)) tNd,.abs p,.gone,.slc ((E0 n i).out.map pkG) tPk 3]:=by
 refine Bq Tryz.func103 (Ci _ _) ?_;have b:i=0∨i=1∨i=2∨i=3∨i=4∨i=5∨i=6:=by omega
 have c:(n.jns i).is=false→E0 n i=Ao n i ⟨1,n.pmd,0,0,[]⟩:=fun a=>by unfold E0;rw[db (by rw[a];decide)]
 have h:(n.jns i).is=true→E0 n i=n:=fun a=>by unfold E0;rw[dc a]
 have d:=Vl n p i ⟨1,n.pmd,0,0,[]⟩ (ah _) (by omega);obtain⟨o,e⟩:=(A9 n i ⟨1,n.pmd,0,0,[]⟩).to;rw[e] at d c;clear e;rcases b with rfl | rfl | rfl | rfl | rfl | rfl | rfl
 all_goals
  refine⟨⟨by decide,by decide⟩,?_⟩;refine dk (fun a=>?_) fun a=>?_
  ·rw[c (by simpa using a)];refine d.cal fun q rs f=>?_;obtain⟨rfl,rfl⟩:=f;exact .inl ⟨[⟨[(0,.blk [.ptr 1 0] tNp)],[(0,0)],false⟩,⟨[(0,.blk (Af {n with out:=o} (.ptr 2 0) (.sl (n.log.map enE)) (.osl 4)) tNd)],[(0,1)],false⟩,⟨[(0,.abs p)],[(0,2)],false⟩,⟨[(0,.gone)],[(0,3)],false⟩,⟨[(0,.slc (o.map pkG) tPk 3)],[(0,4)],false⟩],.tup [],⟨⟨⟨_,rfl,rfl,rfl⟩,⟨_,rfl,rfl,rfl⟩,⟨_,rfl,rfl,rfl⟩,⟨_,rfl,rfl,rfl⟩,⟨_,rfl,rfl,rfl⟩,trivial⟩,rfl,⟨_,rfl⟩,rfl,rfl,⟨rfl,rfl⟩⟩⟩
  ·rw[h (by simpa using a)];exact .gh (.rnm 1 3 ((Af n (.ptr 2 0) (.sl (n.log.map enE)) (.osl 4)).take 45) [.v (.bool n.dead)] tNd _ tPk 3 rfl rfl (.done ⟨[⟨[(0,.blk [.ptr 1 0] tNp)],[(0,0)],false⟩,⟨[(0,.blk (Af n (.ptr 2 0) (.sl (n.log.map enE)) (.osl 4)) tNd)],[(0,1)],false⟩,⟨[(0,.abs p)],[(0,2)],false⟩,⟨[(0,.gone)],[(0,3)],false⟩,⟨[(0,.slc (n.out.map pkG) tPk 3)],[(0,4)],false⟩],.tup [],⟨⟨⟨_,rfl,rfl,rfl⟩,⟨_,rfl,rfl,rfl⟩,⟨_,rfl,rfl,rfl⟩,⟨_,rfl,rfl,rfl⟩,⟨_,rfl,rfl,rfl⟩,trivial⟩,rfl,⟨_,rfl⟩,rfl,rfl,⟨rfl,rfl⟩⟩⟩))
theorem Jf {f:PN→Nat→PN}(hf:∀n i,SameN n (f n i))(n:PN)(k:Nat):SameN n (I8 f n k):=Vm n f hf k
theorem Zcg (n:PN)(b e:Nat)(l:n.dead=false→n.lds=true→n.std=true)(r:n.many≤7)(m:n.log.length≤1000000)(s:n.out.length≤700000)(f:n.std=true→(∀i,0≤n.aks i∧n.aks i≤n.log.length)∧0≤n.first∧n.first≤n.log.length):FnO Tryz.prog 70 [.ptr 0 0] (cA n b e) fun g rs=>g=.tup []∧rs=cA (Bv n) b e:=by
 refine Bq Tryz.func70 (A6 (O:=oAs n b e) (n0:=5) rfl) ?_;have no:(n.dead=true∨n.lds=false)→Bv n=n:=fun h=>by unfold Bv;rw[dc h]
 refine dk (fun hd=>?_) fun hd=>?_
 ·rw[no (.inl hd)];exact .inl (A1 (oAs n b e) [] (by exact RL5) rfl ⟨_,rfl⟩ rfl rfl ⟨rfl,rfl⟩)
 refine dk (fun c=>?_) fun c=>?_
 ·rw[no (.inr (by simpa using c))];exact .inl (A1 (oAs n b e) [] (by exact RL5) rfl ⟨_,rfl⟩ rfl rfl ⟨rfl,rfl⟩)
 have d:n.lds=true:=by simpa using c
 refine dk (fun a=>?_) fun a=>de (l hd d) (by rw[a];decide);obtain⟨ha,hf⟩:=f a;have t:Bv n=I8 Dv n n.many:=by unfold Bv;rw[db (by rw[hd,d];rintro(h | h)<;>cases h),dc a]
 rw[t];have k:=Z45 102 Dv (fun n i=>⟨Iq n i,Yw n i⟩) n (cl (oLs n.st e)) (fun u i f hi j=>by obtain⟨o,rfl⟩:=f.to;exact Z7u _ _ i (by omega) m j (ha i) hf) r s
 obtain⟨o,f⟩:=(Jf Iq n n.many).to;rw[f] at k⊢;refine di (k.cal fun q rs p=>?_);obtain⟨rfl,rfl⟩:=p;exact .inl (A1 (oAs {n with out:=o} b e) [(2,6),(3,7)] (by exact RL5) rfl ⟨_,rfl⟩ rfl rfl ⟨rfl,rfl⟩)
theorem Zba (n:PN)(b e:Nat)(l:n.std=false)(r:n.many≤7)(s:n.out.length≤700000):FnO Tryz.prog 70 [.ptr 0 0] (cB n b e) fun g rs=>g=.tup []∧rs=cB (Bv n) b e:=by
 refine Bq Tryz.func70 (A6 (O:=oBs n b e) (n0:=5) rfl) ?_;have no:(n.dead=true∨n.lds=false)→Bv n=n:=fun h=>by unfold Bv;rw[dc h]
 refine dk (fun hd=>?_) fun hd=>?_
 ·rw[no (.inl hd)];exact .inl (A1 (oBs n b e) [] (by exact RL5) rfl ⟨_,rfl⟩ rfl rfl ⟨rfl,rfl⟩)
 refine dk (fun a=>?_) fun a=>?_
 ·rw[no (.inr (by simpa using a))];exact .inl (A1 (oBs n b e) [] (by exact RL5) rfl ⟨_,rfl⟩ rfl rfl ⟨rfl,rfl⟩)
 have j:n.lds=true:=by simpa using a
 refine dk (fun c=>de l (by rw[c];decide)) fun c=>?_;have m:Bv n=I8 E0 n n.many:=by unfold Bv;rw[db (by rw[hd,j];rintro(h | h)<;>cases h),db (by rw[l];decide)]
 rw[m];have k:=Z5n 103 E0 (fun n i=>⟨Ix n i,Zo n i⟩) n (cl (oLs n.st e)) (fun t i f hi d=>by obtain⟨o,rfl⟩:=f.to;exact Z70 _ _ i (by omega) d) r s
 obtain⟨o,f⟩:=(Jf Ix n n.many).to;rw[f] at k⊢;refine di (k.cal fun q rs p=>?_);obtain⟨rfl,rfl⟩:=p;exact .inl (A1 (oBs {n with out:=o} b e) [(3,6)] (by exact RL5) rfl ⟨_,rfl⟩ rfl rfl ⟨rfl,rfl⟩)
end Go.Proofs.YtihfaocdpmmooaaGreat

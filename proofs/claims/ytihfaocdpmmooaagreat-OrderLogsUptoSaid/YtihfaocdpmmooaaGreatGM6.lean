
import Derived.Test.YtihfaocdpmmooaaGreatGM5
import Derived.Test.YtihfaocdpmmooaaGreatSxMc
namespace Go.Proofs.YtihfaocdpmmooaaGreat
open Go.RowKit
set_option maxRecDepth 100000
set_option maxHeartbeats 8000000 in
theorem R2 (many:Int)(sc:List GSt)(hsc:∀s∈sc,s.p.body.size≤2000000):FnV Tryz.prog 6 [gI many,.sl (sc.map Z23)] fun q=>q=.v (.bool true):=by
 refine fnG Tryz.func6 (by kernel_rfl) rfl (Nat.le_of_ble_eq_true (by kernel_rfl)) (by kernel_rfl) ?_
 refine(Zez many sc).cal fun q hq=>?_
 subst hq
 refine EvIf.mk (fun h=>?_) fun h=>?_
 ·refine(Pc).cal fun q hq=>?_
  subst hq
  exact rfl
 obtain⟨f1,f2,f3⟩:1≤many∧many≤5∧sc.length≤200:=by simpa using h
 obtain⟨m,rfl⟩:∃m:Nat,many=m:=⟨many.toNat,by omega⟩
 refine EvCall.lend ((Xc m (by omega) (by omega)).cal fun q rs hq=>?_)
 obtain⟨rfl,l0,hl0,hF,rfl⟩:=hq
 obtain⟨hG0,hS0⟩:=T9 hl0 (by omega) hF
 generalize ((List.range m).map fun i:Nat=>Gl i m)=pl
 refine Cu [0,1,5,21,22] [] (fun z:Nat × List GM × List RPk=>[(23,gI z.1)]) (fun z=>[(0,.abs (cl (oGs z.2.1 pl z.2.2)))]) (fun z=>z.1≤sc.length∧GI (150 * z.1) m z.2.1∧Still z.2.1∧z.2.2.length≤1000∧∀p∈z.2.2,OkP p) (fun z=>sc.length - z.1) (0,l0,[]) ⟨Nat.zero_le _,hG0,hS0,Nat.zero_le _,by nofun⟩ ⟨⟨rfl,rfl⟩,trivial⟩ ⟨RL1,trivial⟩ rfl fun⟨i,l,w⟩ hI=>?_
 obtain⟨hi,hG,hS,hw,hwo⟩:=hI
 dsimp only at hi hG hS hw hwo
 refine EvIf.dec (fun hlt=>?_) fun hge=>?_
 rotate_left
 ·refine Gh.done ?_
  refine(Pc).cal fun q hq=>?_
  subst hq
  exact rfl
 rw[List.length_map] at hlt
 obtain⟨s,hs⟩:∃s,sc[i]?=some s:=⟨_,List.getElem?_eq_getElem (by omega)⟩
 have hsb:=hsc s (List.mem_of_getElem? hs)
 refine EvIdx.at (f:=Z23) hs ?_
 obtain⟨kd,who,n,body,pf,pt,pb⟩:=s
 refine EvCall.lend ((Zbd (150 * i) m l pl w kd who n body pf pt pb hG hS hw hwo hsb (by omega)).cal fun q rs hq=>?_)
 obtain⟨hq,l1,rfl,hG1,hm1,-⟩:=hq
 obtain⟨hw1,hwo1⟩:=Z3h (L:=l.map GM.r) (s:=⟨kd,who,n,body,pf,pt,pb⟩) hw hwo
 have hst:=X4 hG hS hm1
 clear hm1
 generalize Di (l.map GM.r) w ⟨kd,who,n,body,pf,pt,pb⟩=D at *
 rcases hst with⟨e,hS1⟩ | ⟨j,x,e,hx,hob,hot⟩
 ·rw[e] at hq
  subst hq
  refine EvIf.dec (fun _=>?_) fun h=>absurd (by decide) h
  refine⟨by dsimp only;omega,.done ⟨(i+1,l1,D.2.1),[],⟨by dsimp only;omega,hG1,hS1,hw1,hwo1⟩,(by dsimp only;omega),?_⟩⟩
  refine⟨?_,?_,rfl⟩<;>repeat' (first | exact True.intro | with_reducible rfl | exact rfl | refine And.intro ?_ ?_)
 rw[e] at hq
 subst hq
 refine EvIf.dec (fun h=>absurd h (by omega)) fun _=>?_
 obtain⟨hok,hys,hym⟩:=hG1.ok j x hx
 have hxo:x.n.out=x.r.out:=hok.sim.out.symm
 refine EvCall.gh (.done (.same ((Ot l1 pl D.2.1 j x hx hw1 (by rw[hxo];have:=hob.1;omega)).cal fun q rs hq=>?_)))
 obtain⟨rfl,rfl⟩:=hq
 refine .opn 0 _ _ _ rfl rfl rfl (.done ?_)
 have hG2:GI (150 * i+150) m (l1.set j (Ld x)):=hG1.set hx hok.out rfl rfl
 have hS2:Still (l1.set j (Ld x)):=Still.set hot rfl
 have hjl:j < l1.length:=(List.getElem?_eq_some_iff.1 hx).1
 have hw2:(Cd D.2.1 x.n.out).length≤1000:=G5 (by omega) _ hw1
 have hwo2:∀p∈Cd D.2.1 x.n.out,OkP p:=Hp _ hwo1 (by rw[hxo];exact hob.2)
 have hx2:(l1.set j (Ld x))[j]?=some (Ld x):=List.getElem?_set_self hjl
 have hni:=hok.out.ni
 generalize l1.set j (Ld x)=l2 at *
 generalize Cd D.2.1 x.n.out=w2 at *
 generalize Ld x=y at *
 have hjl2:j < l2.length:=(List.getElem?_eq_some_iff.1 hx2).1
 refine⟨⟨by omega,by rw[List.length_map];omega⟩,?_⟩
 refine EvIdx.at (f:=pN) (i:=j) hx2 ?_
 obtain⟨s,n',b,e',r⟩:=y
 have hll:n'.log.length≤1000000:=Nat.le_trans hni.nv.ents.1 (by omega)
 refine EvCall.gh (.take 6 j _ _ rfl (Fh hx2) (.lies 7 b _ rfl (Js ⟨s,n',b,e',r⟩) (.done (.raw 8 7 rfl (.same ((Xj s n' b e').cal fun q rs hq=>?_))))))
 obtain⟨rfl,rfl⟩:=hq
 refine .done ?_
 refine EvIf.dec (fun h=>absurd h (by have:=hni.nv.p.2.1;show ¬n'.normal > n'.pmd;dsimp only at this;omega)) fun _=>?_
 refine EvCall.gh (.done (.raw 8 7 rfl (.same ((Zbt s n' b e' hll).cal fun q rs hq=>?_))))
 obtain⟨rfl,rfl⟩:=hq
 refine .done ?_
 refine EvCall.gh (.frz 9 _ _ _ rfl (.done (.see (.same ((X2 n'.log hll).cal fun q hq=>?_)))))
 rw[hni.nv.log] at hq
 subst hq
 refine .done ?_
 refine EvIf.mk (fun h=>(by cases h)) fun _=>?_
 refine EvCall.gh (.done (.raw 8 7 rfl (.same ((Tp s n' b e').cal fun q rs hq=>?_))))
 obtain⟨rfl,rfl⟩:=hq
 refine .done ?_
 refine EvCall.gh (.done (.raw 8 7 rfl (.same ((Zbt s n' b e' hll).cal fun q rs hq=>?_))))
 obtain⟨rfl,rfl⟩:=hq
 refine .done ?_
 obtain⟨c1,c2⟩:=hni.com
 dsimp only at c1 c2
 refine EvIf.dec (fun h=>absurd h (by rw[List.length_map];omega)) fun _=>?_
 refine EvCall.gh (.done (.raw 8 7 rfl (.same ((Tp s n' b e').cal fun q rs hq=>?_))))
 obtain⟨rfl,rfl⟩:=hq
 refine .done ?_
 refine EvIf.dec (fun h=>absurd h (by omega)) fun _=>?_
 refine⟨by dsimp only;omega,.put 6 j 7 _ _ rfl (by rw[List.length_set,List.length_map];exact hjl2) rfl (.drop 8 _ rfl (.close (oGs l2 pl w2) [(0,0),(1,2),(2,3),(3,4),(4,5),(5,6)] ⟨RL1,RL1,RL1,RL1,RL1,⟨rfl,rfl,Gk (Ka hx2)⟩,trivial⟩ ⟨_,rfl⟩ rfl (.done ⟨(i+1,l2,w2),[],⟨by dsimp only;omega,hG2,hS2,hw2,hwo2⟩,(by dsimp only;omega),?_⟩)))⟩
 refine⟨?_,?_,rfl⟩<;>repeat' (first | exact True.intro | with_reducible rfl | exact rfl | refine And.intro ?_ ?_)
end Go.Proofs.YtihfaocdpmmooaaGreat
namespace Go.Proofs.YtihfaocdpmmooaaGreat
open Go.RowKit
def Zdw:List Sp:=[.i .i64,.i .i64,.i .i64,.s,.i .i64,.i .i64,.s]
theorem Ze5 {r:List G}(h:TyL Zdw r):∃s:GSt,r=Z23 s∧s.p.body.size≤Du r:=by
 obtain⟨a0,r,rfl,-,h⟩:=h.i_inv
 obtain⟨a1,r,rfl,-,h⟩:=h.i_inv
 obtain⟨a2,r,rfl,-,h⟩:=h.i_inv
 obtain⟨a3,r,rfl,-,h⟩:=h.s_inv
 obtain⟨a4,r,rfl,-,h⟩:=h.i_inv
 obtain⟨a5,r,rfl,-,h⟩:=h.i_inv
 obtain⟨a6,r,rfl,-,h⟩:=h.s_inv
 obtain rfl:=h.nil_inv
 exact⟨⟨a0,a1,a2,a3,⟨a4,a5,a6⟩⟩,rfl,by simp only[Du,M0];omega⟩
theorem Ur {r:List G}:∀{rows:List (List G)},r∈rows→Du r≤Jk rows
 | [],h=>by cases h
 | q::rows,h=>by
  simp only[Jk]
  rcases List.mem_cons.1 h with rfl | h
  ·omega
  ·have:=Ur h;omega
theorem Z3p {g:G}(h:TyL [.sl Zdw] [g])(hb:M0 g≤1048576):∃l:List GSt,g=.sl (l.map Z23)∧∀s∈l,s.p.body.size≤2000000:=by
 obtain⟨rows,r,e,-,hr,h⟩:=h.sl_inv
 obtain rfl:=h.nil_inv
 have e:g=.sl rows:=by simpa using e
 subst e
 obtain⟨l,rfl,hq⟩:=Z7m (f:=Z23) (Q:=fun s=>s.p.body.size≤Du (Z23 s)) fun r hr'=>by
  obtain⟨s,rfl,h1⟩:=Ze5 (hr r hr')
  exact⟨s,rfl,h1⟩
 refine⟨l,rfl,fun s hs=>?_⟩
 have h1:=hq s hs
 have h2:=Ur (List.mem_map.2 ⟨s,hs,rfl⟩:Z23 s∈l.map Z23)
 simp only[M0] at hb
 omega
theorem Z97 {g:G}(h:TyL [.i .i64] [g]):∃n:Int,g=gI n:=by
 obtain⟨n,r,e,-,h⟩:=h.i_inv
 obtain rfl:=h.nil_inv
 have e:g=gI n:=by simpa using e
 exact⟨n,e⟩
end Go.Proofs.YtihfaocdpmmooaaGreat


import Derived.Test.YtihfaocdpmmooaaGreatGM5
import Derived.Test.YtihfaocdpmmooaaGreatGM4
import Derived.Test.YtihfaocdpmmooaaGreatSxMc
namespace Go.Proofs.YtihfaocdpmmooaaGreat
open Go.RowKit
set_option maxRecDepth 100000
abbrev Zf4 (n:PN):List G:=[gI 0,gI 0,gI n.pmd,gI n.normal,.sl (n.log.map enE),gI n.cmt,gI (if n.lds=true then 1 else 0),.nl,.nl,gI 0,.nl,.nl]
theorem Z5v (l:List GM)(i:Nat)(x:GM)(hx:l[i]?=some x)(hl:x.n.log.length≤1000000):FnO Tryz.prog 31 [.v (.pointer (some ⟨x.b,0,none⟩))] [.fam (l.map mOb)] fun g rs=>g=.oag (Zf4 x.n)∧rs=[.fam (l.map mOb)]:=by
 have hil:=(List.getElem?_eq_some_iff.1 hx).1
 obtain⟨s,n,b,e,r⟩:=x
 dsimp only at hl⊢
 refine B9 Tryz.func31 (by kernel_rfl) rfl (Nat.le_of_ble_eq_true (by kernel_rfl)) (by kernel_rfl) (Bp _ _) ?_
 refine EvCall.gh (.take 0 i _ _ rfl (Ej hx) (.lies 2 b _ rfl (Gu ⟨s,n,b,e,r⟩) (.done (.raw 3 2 rfl (.same ((Z08 s n b e).cal fun q rs hq=>?_))))))
 obtain⟨rfl,rfl⟩:=hq
 refine .done ?_
 refine EvCall.gh (.done (.raw 3 2 rfl (.same ((Z4i s n b e).cal fun q rs hq=>?_))))
 obtain⟨rfl,rfl⟩:=hq
 refine .done ?_
 refine EvCall.gh (.done (.raw 3 2 rfl (.same ((Zec s n b e hl).cal fun q rs hq=>?_))))
 obtain⟨rfl,rfl⟩:=hq
 refine .frz 4 _ _ _ rfl (.done ?_)
 refine EvCall.gh (.done (.raw 3 2 rfl (.same ((Z9c s n b e).cal fun q rs hq=>?_))))
 obtain⟨rfl,rfl⟩:=hq
 refine .put 0 i 2 _ _ rfl (by rw[List.length_set,List.length_map];exact hil) rfl (.drop 3 _ rfl (.done ?_))
 refine EvIf.mk (fun h=>?_) fun h=>?_
 ·refine .inl ⟨[⟨[(0,.fam (((l.map mOb).set i Xe).set i (cl (oSs s n b e))))],[(0,0)],false⟩],.oag [gI 0,gI 0,gI n.pmd,gI n.normal,.sl (n.log.map enE),gI n.cmt,gI 1,.nl,.nl,gI 0,.nl,.nl],⟨⟨⟨_,rfl,rfl,rfl⟩,trivial⟩,rfl,⟨[],rfl⟩,rfl,rfl,⟨by unfold Zf4;rw[if_pos h],?_⟩⟩⟩
  exact congrArg (fun q=>[R.fam q]) (Il hx)
 ·refine .inl ⟨[⟨[(0,.fam (((l.map mOb).set i Xe).set i (cl (oSs s n b e))))],[(0,0)],false⟩],.oag [gI 0,gI 0,gI n.pmd,gI n.normal,.sl (n.log.map enE),gI n.cmt,gI 0,.nl,.nl,gI 0,.nl,.nl],⟨⟨⟨_,rfl,rfl,rfl⟩,trivial⟩,rfl,⟨[],rfl⟩,rfl,rfl,⟨by unfold Zf4;rw[if_neg (by rw[h];decide)],?_⟩⟩⟩
  exact congrArg (fun q=>[R.fam q]) (Il hx)
abbrev Zfq (n:PN):List G:=[gI 0,gI 0,gI n.pmd,gI n.normal,.sl (n.log.map enE),gI n.cmt,gI (if n.lds=true then 1 else 0),.sl [],.sl [],gI 0,.sl [],.sl []]
theorem Z4c (n:PN)(hl:n.log.length≤1000000):FnV Tryz.prog 33 [.agg (Zfq n),.agg (Zfq n)] fun g=>g=.v (.bool true):=by
 refine fnG Tryz.func33 (by kernel_rfl) rfl (Nat.le_of_ble_eq_true (by kernel_rfl)) (by kernel_rfl) ?_
 refine EvIf.beq (fun _=>?_) fun h=>absurd rfl h
 refine EvIf.beq (fun _=>?_) fun h=>absurd rfl h
 refine EvIf.beq (fun _=>?_) fun h=>absurd rfl h
 refine EvIf.mk (fun _=>?_) fun h=>?_
 ·refine(Z1h n.log hl).cal fun q hq=>?_
  subst hq
  exact rfl
 ·exact absurd h (by rw[beq_self_eq_true];decide)
end Go.Proofs.YtihfaocdpmmooaaGreat
namespace Go.Proofs.YtihfaocdpmmooaaGreat
open Go.RowKit
set_option maxRecDepth 100000
theorem W8 {n:PN}{p:RPk}{i:Nat}(hs:n.self=i)(hm:n.many=3)(h:¬(p.to=i∧p.frm≠i∧p.frm ≥ 0∧p.frm < 3∧eMd p.body.data.toList=0)):D9 n p=n:=by
 unfold D9
 refine if_pos (Classical.byContradiction fun hc=>h ?_)
 rw[hs,hm] at hc
 have h2:L0 p.body.data.toList:=Classical.byContradiction fun h=>hc (.inr (.inl h))
 refine⟨Classical.byContradiction fun h=>hc (.inr (.inr (.inl h))),fun h=>hc (.inr (.inr (.inr (.inl h)))),Int.not_lt.1 fun h=>hc (.inr (.inr (.inr (.inr (.inl h))))),Int.not_le.1 fun h=>hc (.inr (.inr (.inr (.inr (.inr h))))),?_⟩
 unfold eMd;rw[if_pos h2]
set_option maxHeartbeats 8000000 in
theorem Qh (sc:List GSt)(hsc:∀s∈sc,s.p.body.size≤2000000)(p:RPk)(hp:p.body.size≤2000000):FnV Tryz.prog 7 [.sl (sc.map Z2g),.agg (pkG p)] fun q=>q=.v (.bool true):=by
 obtain⟨frm,to,pb⟩:=p
 refine fnG Tryz.func7 (by kernel_rfl) rfl (Nat.le_of_ble_eq_true (by kernel_rfl)) (by kernel_rfl) ?_
 refine(Zf5 3 sc).cal fun q hq=>?_
 subst hq
 refine EvIf.mk (fun h=>?_) fun h=>?_
 ·refine(Pd).cal fun q hq=>?_
  subst hq
  exact rfl
 have f3:sc.length≤200:=by
  have h:(!decide ((1:Int)≤3∧(3:Int)≤5∧sc.length≤200))=false:=h
  simpa using h
 refine EvCall.lend ((Yb 3 (by omega) (by omega)).cal fun q rs hq=>?_)
 obtain⟨rfl,l0,hl0,hF,rfl⟩:=hq
 obtain⟨hG0,hS0⟩:=Te hl0 (by omega) hF
 generalize ((List.range 3).map fun i:Nat=>Gp i (3:Nat))=pl
 refine Cj [0,3,5,21,22] [0] (fun z:Nat × List GM × List RPk=>[(23,gI z.1)]) (fun z=>[(1,.abs (cl (oGs z.2.1 pl z.2.2)))]) (fun z=>z.1≤sc.length∧GI (150 * z.1) 3 z.2.1∧Still z.2.1∧z.2.2.length≤1000∧∀p∈z.2.2,OkP p) (fun z=>sc.length - z.1) (0,l0,[]) ⟨Nat.zero_le _,hG0,hS0,Nat.zero_le _,by nofun⟩ ⟨⟨rfl,rfl⟩,trivial⟩ ⟨RL1,trivial⟩ rfl fun⟨i,l,w⟩ hI=>?_
 obtain⟨hi,hG,hS,hw,hwo⟩:=hI
 dsimp only at hi hG hS hw hwo
 refine EvIf.dec (fun hlt=>?_) fun hge=>?_
 ·rw[List.length_map] at hlt
  obtain⟨s,hs⟩:∃s,sc[i]?=some s:=⟨_,List.getElem?_eq_getElem (by omega)⟩
  have hsb:=hsc s (List.mem_of_getElem? hs)
  refine EvIdx.at (f:=Z2g) hs ?_
  obtain⟨kd,who,n,body,pf,pt,pb⟩:=s
  refine EvCall.lend ((Zav (150 * i) 3 l pl w kd who n body pf pt pb hG hS hw hwo hsb (by omega)).cal fun q rs hq=>?_)
  obtain⟨hq,l1,rfl,hG1,hm1,-⟩:=hq
  obtain⟨hw1,hwo1⟩:=Z44 (L:=l.map GM.r) (s:=⟨kd,who,n,body,pf,pt,pb⟩) hw hwo
  have hst:=Wo hG hS hm1
  clear hm1
  generalize Dl (l.map GM.r) w ⟨kd,who,n,body,pf,pt,pb⟩=D at *
  rcases hst with⟨e,hS1⟩ | ⟨j,x,e,hx,hob,hot⟩
  ·rw[e] at hq
   subst hq
   refine EvIf.dec (fun h=>absurd h (by decide)) fun _=>?_
   refine⟨by dsimp only;omega,.done ⟨(i+1,l1,D.2.1),[],⟨by dsimp only;omega,hG1,hS1,hw1,hwo1⟩,(by dsimp only;omega),?_⟩⟩
   refine⟨?_,?_,rfl⟩<;>repeat' (first | exact True.intro | with_reducible rfl | exact rfl | refine And.intro ?_ ?_)
  rw[e] at hq
  subst hq
  refine EvIf.dec (fun _=>?_) fun h=>absurd (show(j:Int) ≥ 0 by omega) h
  obtain⟨hok,hys,hym⟩:=hG1.ok j x hx
  have hxo:x.n.out=x.r.out:=hok.sim.out.symm
  refine EvCall.lend ((O0 l1 pl D.2.1 j x hx hw1 (by rw[hxo];have:=hob.1;omega)).cal fun q rs hq=>?_)
  obtain⟨rfl,rfl⟩:=hq
  refine⟨by dsimp only;omega,.done ⟨(i+1,l1.set j (M2 x),Cq D.2.1 x.n.out),[],⟨by dsimp only;omega,hG1.set hx hok.out rfl rfl,Still.set hot rfl,G1 (by omega) _ hw1,Hp _ hwo1 (by rw[hxo];exact hob.2)⟩,(by dsimp only;omega),?_⟩⟩
  refine⟨?_,?_,rfl⟩<;>repeat' (first | exact True.intro | with_reducible rfl | exact rfl | refine And.intro ?_ ?_)
 refine Gh.done ?_
 have hG:=hG.up (j:=30000) (by omega) (by omega)
 clear hge
 refine EvCall.gh (.done (.same ((Kn pb hp).cal fun q hq=>?_)))
 subst hq
 refine .opn 1 _ _ _ rfl rfl rfl (.done ?_)
 refine Cj [0,3,5,10,45,46] [0,1,3,4,5] (fun z:Nat × List GM=>[(47,gI z.1)]) (fun z=>[(2,.slc (z.2.map pN) tNp 1),(6,.fam (z.2.map mOb))]) (fun z=>z.1≤3∧GI 30000 3 z.2∧Still z.2) (fun z=>3 - z.1) (0,l) ⟨Nat.zero_le _,hG,hS⟩ ⟨⟨rfl,rfl⟩,trivial⟩ (by exact RL2) rfl fun⟨a,l1⟩ hI=>?_
 obtain⟨ha,hG1,hS1⟩:=hI
 dsimp only at ha hG1 hS1
 have hll1:=hG1.len
 refine EvIf.dec (fun hlt=>?_) fun hge=>?_
 rotate_left
 ·refine Gh.done ?_
  refine(Pd).cal fun q hq=>?_
  subst hq
  exact rfl
 rw[List.length_map] at hlt
 dsimp only at hlt
 have hal:a < l1.length:=by have:=hG.len;omega
 obtain⟨x,hx⟩:∃x,l1[a]?=some x:=⟨_,List.getElem?_eq_getElem hal⟩
 refine⟨⟨by omega,by dsimp only;rw[List.length_map];omega⟩,?_⟩
 refine EvIdx.at (f:=pN) hx ?_
 obtain⟨hok,hys,hym⟩:=hG1.ok a x hx
 have hxo:x.n.out=[]:=hok.sim.out.symm.trans (hS1 a x hx)
 have hni:=hok.ni
 obtain⟨s,n,b,e,r⟩:=x
 dsimp only at hys hym hxo
 have hll:n.log.length≤1000000:=Nat.le_trans hni.nv.ents.1 (by omega)
 refine EvIf.beq (fun(c1:to=a)=>EvIf.bne (fun(c2:frm≠a)=>EvIf.dec (fun(c3:frm ≥ 0)=>EvIf.dec (fun(c4:frm < 3)=>EvIf.beq (fun(c5:eMd pb.data.toList=0)=>?_) fun(c5:eMd pb.data.toList≠0)=>?_) fun(c4:¬frm < 3)=>?_) fun(c3:¬frm ≥ 0)=>?_) fun(c2:frm=a)=>?_) fun(c1:to≠a)=>?_
 ·refine⟨by dsimp only;omega,.done ⟨(a+1,l1),[],⟨by dsimp only;omega,hG1,hS1⟩,(by dsimp only;omega),?_⟩⟩
  refine⟨?_,?_,rfl⟩<;>repeat' (first | exact True.intro | with_reducible rfl | exact rfl | refine And.intro ?_ ?_)
 all_goals
  have hno:D9 n ⟨frm,to,pb⟩=n:=W8 hys hym fun h=>(by first | exact c5 h.2.2.2.2 | exact c4 h.2.2.2.1 | exact c3 h.2.2.1 | exact h.2.1 c2 | exact c1 h.1)
  refine(Z5v l1 a _ hx hll).cal fun q rs hq=>?_
  obtain⟨rfl,rfl⟩:=hq
  refine EvCall.gh (.take 6 a _ _ rfl (Ej hx) (.lies 9 b _ rfl (Gu ⟨s,n,b,e,r⟩) (.done (.raw 10 9 rfl (.same ((Z2 30000 s n b e ⟨frm,to,pb⟩ (fun _=>hni.wn (by show n.out.length≤_;rw[hxo];exact Nat.zero_le _)) (fun _=>hok.sh) hp).cal fun q rs hq=>?_))))))
  rw[hno] at hq
  obtain⟨rfl,s',rfl,hs'⟩:=hq
  have hx2:(l1.set a ⟨s',n,b,e,r⟩)[a]?=some ⟨s',n,b,e,r⟩:=List.getElem?_set_self hal
  have hG2:GI 30000 3 (l1.set a ⟨s',n,b,e,r⟩):=hG1.set hx ⟨hok.sim,hok.ni,hok.nj,hs' hok.ni.dead⟩ rfl rfl
  have hS2:Still (l1.set a ⟨s',n,b,e,r⟩):=Still.set (fun j z hz _=>hS1 j z hz) (show r.out=[] from hS1 a _ hx)
  have hC:=Z5v _ a _ hx2 hll
  have hP:(l1.set a ⟨s',n,b,e,r⟩).map pN=l1.map pN:=Fs hx rfl
  have hF2:=D5 l1 a ⟨s',n,b,e,r⟩
  rw[←hF2] at hC
  refine .put 6 a 9 _ _ rfl (by rw[List.length_set,List.length_map];exact hal) rfl (.drop 10 _ rfl (.done ?_))
  refine hC.cal fun q rs hq=>?_
  obtain⟨rfl,rfl⟩:=hq
  refine(Z4c n hll).cal fun q hq=>?_
  subst hq
  refine EvIf.mk (fun h=>absurd h (by decide)) fun _=>?_
  refine EvCall.gh (.take 6 a _ (cl (oSs s' n b e)) rfl (by rw[hF2];exact Ej hx2) (.lies 11 b _ rfl (Gu ⟨s',n,b,e,r⟩) (.done (.raw 12 11 rfl (.same ((Zcc s' n b e).cal fun q rs hq=>?_))))))
  obtain⟨rfl,rfl⟩:=hq
  refine .put 6 a 11 _ _ rfl (by simp only[List.length_set,List.length_map];exact hal) rfl (.drop 12 _ rfl (.done ?_))
  refine EvIf.dec (fun h=>absurd h (by rw[hxo];decide)) fun _=>?_
  refine⟨by dsimp only;omega,.done ⟨(a+1,(l1.set a ⟨s',n,b,e,r⟩).set a (M2 ⟨s',n,b,e,r⟩)),[],⟨by dsimp only;omega,hG2.set hx2 (hG2.ok a _ hx2).1.out rfl rfl,Still.set (fun j z hz _=>hS2 j z hz) rfl⟩,(by dsimp only;omega),?_⟩⟩
  refine⟨?_,?_,rfl⟩<;>repeat' (first | exact True.intro | with_reducible rfl | exact rfl | refine And.intro ?_ ?_)
  ·exact eqR ((Fs (y:=M2 ⟨s',n,b,e,r⟩) hx2 rfl).trans hP).symm
  ·exact Gn (by rw[hF2];exact D5 (l1.set a ⟨s',n,b,e,r⟩) a (M2 ⟨s',n,b,e,r⟩))
end Go.Proofs.YtihfaocdpmmooaaGreat
namespace Go.Proofs.YtihfaocdpmmooaaGreat
open Go.RowKit
def Zff:List Sp:=[.i .i64,.i .i64,.i .i64,.s,.i .i64,.i .i64,.s]
theorem Zeb {r:List G}(h:TyL Zff r):∃s:GSt,r=Z2g s∧s.p.body.size≤D7 r:=by
 obtain⟨a0,r,rfl,-,h⟩:=h.i_inv
 obtain⟨a1,r,rfl,-,h⟩:=h.i_inv
 obtain⟨a2,r,rfl,-,h⟩:=h.i_inv
 obtain⟨a3,r,rfl,-,h⟩:=h.s_inv
 obtain⟨a4,r,rfl,-,h⟩:=h.i_inv
 obtain⟨a5,r,rfl,-,h⟩:=h.i_inv
 obtain⟨a6,r,rfl,-,h⟩:=h.s_inv
 obtain rfl:=h.nil_inv
 exact⟨⟨a0,a1,a2,a3,⟨a4,a5,a6⟩⟩,rfl,by simp only[D7,Kt];omega⟩
theorem T8 {r:List G}:∀{rows:List (List G)},r∈rows→D7 r≤Jr rows
 | [],h=>by cases h
 | q::rows,h=>by
  simp only[Jr]
  rcases List.mem_cons.1 h with rfl | h
  ·omega
  ·have:=T8 h;omega
theorem Z5h {g:G}(h:TyL [.sl Zff] [g])(hb:Kt g≤1048576):∃l:List GSt,g=.sl (l.map Z2g)∧∀s∈l,s.p.body.size≤2000000:=by
 obtain⟨rows,r,e,-,hr,h⟩:=h.sl_inv
 obtain rfl:=h.nil_inv
 have e:g=.sl rows:=by simpa using e
 subst e
 obtain⟨l,rfl,hq⟩:=Z8q (f:=Z2g) (Q:=fun s=>s.p.body.size≤D7 (Z2g s)) fun r hr'=>by
  obtain⟨s,rfl,h1⟩:=Zeb (hr r hr')
  exact⟨s,rfl,h1⟩
 refine⟨l,rfl,fun s hs=>?_⟩
 have h1:=hq s hs
 have h2:=T8 (List.mem_map.2 ⟨s,hs,rfl⟩:Z2g s∈l.map Z2g)
 simp only[Kt] at hb
 omega
def Zfo:List Sp:=[.i .i64,.i .i64,.s]
theorem Zei {gs:List G}(h:TyL Zfo gs)(hb:D7 gs≤1048576):∃p:RPk,gs=pkG p∧p.body.size≤2000000:=by
 obtain⟨a0,r,rfl,-,h⟩:=h.i_inv
 obtain⟨a1,r,rfl,-,h⟩:=h.i_inv
 obtain⟨a2,r,rfl,-,h⟩:=h.s_inv
 obtain rfl:=h.nil_inv
 simp only[D7,Kt] at hb
 exact⟨⟨a0,a1,a2⟩,rfl,by show a2.size≤_;omega⟩
end Go.Proofs.YtihfaocdpmmooaaGreat

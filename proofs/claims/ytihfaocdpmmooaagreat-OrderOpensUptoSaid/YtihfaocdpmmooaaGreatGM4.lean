
import Derived.Test.YtihfaocdpmmooaaGreatGM3
import Derived.Test.YtihfaocdpmmooaaGreatSxMc
namespace Go.Proofs.YtihfaocdpmmooaaGreat
open Go.RowKit
set_option maxRecDepth 100000
structure ROp where
 k:Int
 n:Int
 t:Int
 b:Sec
def Z4w (o:ROp):List G:=[gI o.k,gI o.n,gI o.t,.sl (o.b.map gBy)]
structure DI (k:Nat)(d:RD):Prop where
 wd:WD d
 dead:d.dead=false
 armed:d.armed=0
 wait:d.wait.length≤k
theorem DI.write {k:Nat}{d:RD}(h:DI k d)(n:Int)(b:Sec):DI (k+1) (A9 d n b):=by
 suffices key:(A9 d n b).dead=false∧(A9 d n b).armed=0∧(A9 d n b).wait.length≤k+1 from⟨Fn h.wd n b,key.1,key.2.1,key.2.2⟩
 unfold A9
 split
 ·exact⟨h.dead,h.armed,by have:=h.wait;omega⟩
 ·split
  ·exact⟨h.dead,h.armed,by have:=h.wait;omega⟩
  ·unfold B4
   have e:(Z0g d n.toNat (Dd b)).armed=0:=h.armed
   rw[if_pos e]
   exact⟨h.dead,h.armed,by show(d.wait++_).length≤_;rw[List.length_append];have:=h.wait;exact Nat.add_le_add this (Nat.le_refl 1)⟩
theorem DI.up {k:Nat}{d:RD}(h:DI k d):DI (k+1) d:=⟨h.wd,h.dead,h.armed,by have:=h.wait;omega⟩
theorem Fj {d:RD}{s m:Int}{n:PN}(h:Kh d s m=some n):Z2r d s m∧B2 n.log=true∧n.normal≤n.pmd∧n.lds=false∧n.cmt=0∧n.out=[]:=by
 unfold Kh at h
 split at h
 ·cases h
 ·next hp =>
  split at h
  ·cases h
  ·split at h
   ·cases h
   ·split at h
    ·next hr =>
     obtain rfl:=Option.some.inj h
     exact⟨hp,hr.1,hr.2.1,rfl,rfl,rfl⟩
    ·cases h
theorem Nw (m:Int):DI 0 (Ij m):=⟨Hx m,rfl,rfl,Nat.le_refl _⟩
theorem Uw:Kh (Ij 1099) 0 1=none:=by
 unfold Kh
 rw[if_pos]
 refine .inr (.inr (.inr ?_))
 show((List.replicate (Qv 1099) sec0).length:Int) < 1100
 rw[List.length_replicate];decide
theorem Z33:¬Z2r (Ij 1099) 0 1:=fun h=>h (.inr (.inr (.inr (by
 show((List.replicate (Qv 1099) sec0).length:Int) < 1100
 rw[List.length_replicate];decide))))
theorem Z3x {m:Int}(h:Ad m≠0):1≤m∧m≤7∧Ad m > 0:=by
 unfold Ad at h⊢
 split at h
 ·next hg=>rw[if_pos hg];unfold Cp at hg;rw[decide_eq_true_iff] at hg;omega
 ·exact absurd rfl h
set_option maxHeartbeats 4000000 in
theorem Pk (l:List ROp)(self many:Int):FnV Tryz.prog 4 [.sl (l.map Z4w),gI self,gI many] fun q=>q=.v (.bool true):=by
 refine fnG Tryz.func4 (by kernel_rfl) rfl (Nat.le_of_ble_eq_true (by kernel_rfl)) (by kernel_rfl) ?_
 refine EvCall.lend ((Wk 1100).cal fun q rs hq=>?_)
 obtain⟨rfl,rfl⟩:=hq
 refine EvCall.lend ((Wk 1099).cal fun q rs hq=>?_)
 obtain⟨rfl,rfl⟩:=hq
 refine EvIf.dec (fun h1=>?_) fun h1=>?_
 ·refine(Cc).cal fun q hq=>?_
  subst hq
  exact rfl
 have h1:¬((l.map Z4w).length:Int) > 100:=h1
 rw[List.length_map] at h1
 refine EvCall.lend ((Iw (Ij 1099) (Hx 1099) rfl 0 1).cal fun q rs hq=>?_)
 rcases hq with⟨-,rfl,hr⟩ | ⟨n,b,e,hn,-⟩
 rotate_left
 ·rw[Uw] at hn;cases hn
 obtain rfl:rs=cD (Ij 1099):=hr.resolve_right fun h=>Z33 h.1
 by_cases hm:Ad many≠0∧0≤self∧self < many
 ·obtain⟨q1,q2,q3⟩:=hm
  obtain⟨q4,q5,q6⟩:=Z3x q1
  obtain⟨s,rfl⟩:∃s:Nat,self=s:=⟨self.toNat,by omega⟩
  obtain⟨m,rfl⟩:∃m:Nat,many=m:=⟨many.toNat,by omega⟩
  refine EvCall.lend ((Iw (Ij 1100) (Hx 1100) rfl s m).cal fun q rs hq=>?_)
  rw[Nb (by omega) (by omega)] at hq
  rcases hq with⟨hn,-⟩ | ⟨n,b,e,hn,rfl,rfl⟩
  ·cases hn
  obtain rfl:=Option.some.inj hn
  refine(Jr _).cal fun q hq=>?_
  subst hq
  refine EvIf.dec (fun _=>?_) fun h=>absurd q6 h
  refine EvIf.dec (fun _=>?_) fun h=>absurd q2 h
  refine EvIf.bne (fun h=>absurd rfl h) fun _=>?_
  have hd:decide ((s:Int) < m)=true:=decide_eq_true q3
  refine EvIf.mk (fun h=>(by rw[hd] at h;cases h)) fun _=>?_
  refine EvIf.mk (fun h=>(by rw[hd] at h;cases h)) fun _=>?_
  refine Or (.opn 2 _ _ _ rfl rfl rfl (.opn 4 _ _ _ rfl rfl rfl (.move 8 0 10 3 e _ rfl rfl rfl rfl (.done ?_))))
  refine C1 [0,1,2,7,13,80,81] [] (fun i:Nat × RD=>[(82,gI i.1)]) (fun i=>[(0,.abs (cl (oDs i.2)))]) (fun i=>i.1≤l.length∧DI i.1 i.2) (fun i=>l.length - i.1) (0,Ij 1100) ⟨Nat.zero_le _,Nw 1100⟩ ⟨⟨rfl,rfl⟩,trivial⟩ ⟨⟨rfl,rfl,rfl⟩,trivial⟩ rfl fun⟨i,d⟩ hI=>?_
  obtain⟨hi,hI⟩:=hI
  dsimp only at hi hI
  refine EvIf.dec (fun hlt=>?_) fun hge=>?_
  ·rw[List.length_map] at hlt
   obtain⟨o,ho⟩:∃o,l[i]?=some o:=⟨_,List.getElem?_eq_getElem (by omega)⟩
   refine EvIdx.at (f:=Z4w) ho ?_
   obtain⟨ok,on,ot,ob⟩:=o
   refine EvIf.beq (fun _=>?_) fun _=>?_
   ·refine EvCall.lend ((I5 d hI.wd (by rw[hI.armed];decide) (by have:=hI.wait;omega) on ob).cal fun q rs hq=>?_)
    obtain⟨rfl,rfl⟩:=hq
    refine⟨by dsimp only;omega,.done ⟨(i+1,A9 d on ob),[],⟨by dsimp only;omega,hI.write on ob⟩,(by dsimp only;omega),?_⟩⟩
    refine⟨?_,?_,rfl⟩<;>repeat' (first | exact True.intro | with_reducible rfl | exact rfl | refine And.intro ?_ ?_)
   ·refine⟨by dsimp only;omega,.done ⟨(i+1,d),[],⟨by dsimp only;omega,hI.up⟩,(by dsimp only;omega),?_⟩⟩
    refine⟨?_,?_,rfl⟩<;>repeat' (first | exact True.intro | with_reducible rfl | exact rfl | refine And.intro ?_ ?_)
  refine Gh.done ?_
  refine EvCall.lend ((Iw d hI.wd hI.dead s m).cal fun q rs hq=>?_)
  rcases hq with⟨-,rfl,hr⟩ | ⟨n,b,e,hn,rfl,rfl⟩
  ·rcases hr with rfl | ⟨-,rfl⟩
   ·refine EvIf.bne (fun _=>?_) fun h=>absurd h (by decide)
    refine(Cc).cal fun q hq=>?_
    subst hq
    refine EvIf.mk (fun _=>?_) fun h=>(by cases h)
    refine EvIf.beq (fun _=>?_) fun h=>absurd rfl h
    exact rfl
   ·refine EvIf.bne (fun _=>?_) fun h=>absurd h (by decide)
    refine(Cc).cal fun q hq=>?_
    subst hq
    refine EvIf.mk (fun _=>?_) fun h=>(by cases h)
    refine EvIf.beq (fun _=>?_) fun h=>absurd rfl h
    exact rfl
  obtain⟨-,o1,o2,o3,o4,o5⟩:=Fj hn
  refine EvIf.bne (fun h=>absurd rfl h) fun _=>?_
  refine EvCall.lend ((Z7n n b e).cal fun q rs hq=>?_)
  obtain⟨rfl,rfl⟩:=hq
  refine(Cc).cal fun q hq=>?_
  subst hq
  refine EvIf.mk (fun _=>?_) fun h=>(by cases h)
  refine EvIf.mk (fun _=>?_) fun h=>(by rw[hd] at h;cases h)
  refine EvIf.dec (fun _=>?_) fun h=>absurd o2 h
  have hll:n.log.length≤1000000:=by have:=(Qf o1).2;omega
  refine EvCall.lend ((Zaq n b e hll).cal fun q rs hq=>?_)
  obtain⟨rfl,rfl⟩:=hq
  refine EvCall.gh (.frz 13 _ _ _ rfl (.done (.see (.same ((W3 n.log hll).cal fun q hq=>?_)))))
  rw[o1] at hq
  subst hq
  refine Gh.done ?_
  refine EvIf.mk (fun _=>?_) fun h=>(by cases h)
  refine EvCall.lend ((Xe n b e).cal fun q rs hq=>?_)
  rw[o3] at hq
  obtain⟨rfl,rfl⟩:=hq
  refine EvIf.mk (fun _=>?_) fun h=>absurd h (by decide)
  refine EvCall.lend ((Mc n b e).cal fun q rs hq=>?_)
  rw[o4] at hq
  obtain⟨rfl,rfl⟩:=hq
  refine EvIf.beq (fun _=>?_) fun h=>absurd rfl h
  refine EvCall.lend ((Z9d n b e).cal fun q rs hq=>?_)
  obtain⟨rfl,rfl⟩:=hq
  rw[o5]
  exact rfl
 ·have hpar:∀d,¬Z2r d self many:=fun d h=>hm ⟨fun h1=>h (.inl h1),Int.not_lt.1 fun h1=>h (.inr (.inl h1)),Int.not_le.1 fun h1=>h (.inr (.inr (.inl h1)))⟩
  have hnn:Kh (Ij 1100) self many=none:=by
   cases ho:Kh (Ij 1100) self many with
   | none=>rfl
   | some n=>exact absurd (Fj ho).1 (hpar _)
  refine EvCall.lend ((Iw (Ij 1100) (Hx 1100) rfl self many).cal fun q rs hq=>?_)
  rcases hq with⟨-,rfl,hr⟩ | ⟨n,b,e,hn,-⟩
  rotate_left
  ·rw[hnn] at hn;cases hn
  obtain rfl:rs=cD (Ij 1100):=hr.resolve_right fun h=>hpar _ h.1
  refine(Jr _).cal fun q hq=>?_
  subst hq
  by_cases c0:Ad many > 0
  rotate_left
  ·skip
   refine EvIf.dec (fun h=>absurd h c0) fun _=>?_
   refine EvIf.bne (fun h=>absurd rfl h) fun _=>?_
   refine EvIf.mk (fun h=>(by cases h)) fun _=>?_
   refine EvIf.mk (fun h=>(by cases h)) fun _=>?_
   refine Or (.done ?_)
   refine C1 [0,1,2,7,13,80,81] [] (fun i:Nat × RD=>[(82,gI i.1)]) (fun i=>[(0,.abs (cl (oDs i.2)))]) (fun i=>i.1≤l.length∧DI i.1 i.2) (fun i=>l.length - i.1) (0,Ij 1100) ⟨Nat.zero_le _,Nw 1100⟩ ⟨⟨rfl,rfl⟩,trivial⟩ ⟨⟨rfl,rfl,rfl⟩,trivial⟩ rfl fun⟨i,d⟩ hI=>?_
   obtain⟨hi,hI⟩:=hI
   dsimp only at hi hI
   refine EvIf.dec (fun hlt=>?_) fun hge=>?_
   ·rw[List.length_map] at hlt
    obtain⟨o,ho⟩:∃o,l[i]?=some o:=⟨_,List.getElem?_eq_getElem (by omega)⟩
    refine EvIdx.at (f:=Z4w) ho ?_
    obtain⟨ok,on,ot,ob⟩:=o
    refine EvIf.beq (fun _=>?_) fun _=>?_
    ·refine EvCall.lend ((I5 d hI.wd (by rw[hI.armed];decide) (by have:=hI.wait;omega) on ob).cal fun q rs hq=>?_)
     obtain⟨rfl,rfl⟩:=hq
     refine⟨by dsimp only;omega,.done ⟨(i+1,A9 d on ob),[],⟨by dsimp only;omega,hI.write on ob⟩,(by dsimp only;omega),?_⟩⟩
     refine⟨?_,?_,rfl⟩<;>repeat' (first | exact True.intro | with_reducible rfl | exact rfl | refine And.intro ?_ ?_)
    ·refine⟨by dsimp only;omega,.done ⟨(i+1,d),[],⟨by dsimp only;omega,hI.up⟩,(by dsimp only;omega),?_⟩⟩
     refine⟨?_,?_,rfl⟩<;>repeat' (first | exact True.intro | with_reducible rfl | exact rfl | refine And.intro ?_ ?_)
   refine Gh.done ?_
   refine EvCall.lend ((Iw d hI.wd hI.dead self many).cal fun q rs hq=>?_)
   rcases hq with⟨-,rfl,hr⟩ | ⟨n,b,e,hn,rfl,rfl⟩
   ·rcases hr with rfl | ⟨-,rfl⟩
    ·refine EvIf.bne (fun _=>?_) fun h=>absurd h (by decide)
     refine(Cc).cal fun q hq=>?_
     subst hq
     refine EvIf.mk (fun _=>?_) fun h=>(by cases h)
     refine EvIf.beq (fun _=>?_) fun h=>absurd rfl h
     exact rfl
    ·refine EvIf.bne (fun _=>?_) fun h=>absurd h (by decide)
     refine(Cc).cal fun q hq=>?_
     subst hq
     refine EvIf.mk (fun _=>?_) fun h=>(by cases h)
     refine EvIf.beq (fun _=>?_) fun h=>absurd rfl h
     exact rfl
   exact absurd (Fj hn).1 (hpar _)
  by_cases c1:self ≥ 0
  rotate_left
  ·skip
   refine EvIf.dec (fun _=>?_) fun h=>absurd c0 h
   refine EvIf.dec (fun h=>absurd h c1) fun _=>?_
   refine EvIf.bne (fun h=>absurd rfl h) fun _=>?_
   refine EvIf.mk (fun h=>(by cases h)) fun _=>?_
   refine EvIf.mk (fun h=>(by cases h)) fun _=>?_
   refine Or (.done ?_)
   refine C1 [0,1,2,7,13,80,81] [] (fun i:Nat × RD=>[(82,gI i.1)]) (fun i=>[(0,.abs (cl (oDs i.2)))]) (fun i=>i.1≤l.length∧DI i.1 i.2) (fun i=>l.length - i.1) (0,Ij 1100) ⟨Nat.zero_le _,Nw 1100⟩ ⟨⟨rfl,rfl⟩,trivial⟩ ⟨⟨rfl,rfl,rfl⟩,trivial⟩ rfl fun⟨i,d⟩ hI=>?_
   obtain⟨hi,hI⟩:=hI
   dsimp only at hi hI
   refine EvIf.dec (fun hlt=>?_) fun hge=>?_
   ·rw[List.length_map] at hlt
    obtain⟨o,ho⟩:∃o,l[i]?=some o:=⟨_,List.getElem?_eq_getElem (by omega)⟩
    refine EvIdx.at (f:=Z4w) ho ?_
    obtain⟨ok,on,ot,ob⟩:=o
    refine EvIf.beq (fun _=>?_) fun _=>?_
    ·refine EvCall.lend ((I5 d hI.wd (by rw[hI.armed];decide) (by have:=hI.wait;omega) on ob).cal fun q rs hq=>?_)
     obtain⟨rfl,rfl⟩:=hq
     refine⟨by dsimp only;omega,.done ⟨(i+1,A9 d on ob),[],⟨by dsimp only;omega,hI.write on ob⟩,(by dsimp only;omega),?_⟩⟩
     refine⟨?_,?_,rfl⟩<;>repeat' (first | exact True.intro | with_reducible rfl | exact rfl | refine And.intro ?_ ?_)
    ·refine⟨by dsimp only;omega,.done ⟨(i+1,d),[],⟨by dsimp only;omega,hI.up⟩,(by dsimp only;omega),?_⟩⟩
     refine⟨?_,?_,rfl⟩<;>repeat' (first | exact True.intro | with_reducible rfl | exact rfl | refine And.intro ?_ ?_)
   refine Gh.done ?_
   refine EvCall.lend ((Iw d hI.wd hI.dead self many).cal fun q rs hq=>?_)
   rcases hq with⟨-,rfl,hr⟩ | ⟨n,b,e,hn,rfl,rfl⟩
   ·rcases hr with rfl | ⟨-,rfl⟩
    ·refine EvIf.bne (fun _=>?_) fun h=>absurd h (by decide)
     refine(Cc).cal fun q hq=>?_
     subst hq
     refine EvIf.mk (fun _=>?_) fun h=>(by cases h)
     refine EvIf.beq (fun _=>?_) fun h=>absurd rfl h
     exact rfl
    ·refine EvIf.bne (fun _=>?_) fun h=>absurd h (by decide)
     refine(Cc).cal fun q hq=>?_
     subst hq
     refine EvIf.mk (fun _=>?_) fun h=>(by cases h)
     refine EvIf.beq (fun _=>?_) fun h=>absurd rfl h
     exact rfl
   exact absurd (Fj hn).1 (hpar _)
  refine EvIf.dec (fun _=>?_) fun h=>absurd c0 h
  refine EvIf.dec (fun _=>?_) fun h=>absurd c1 h
  refine EvIf.bne (fun h=>absurd rfl h) fun _=>?_
  have hd:decide (self < many)=false:=decide_eq_false fun h=>hm ⟨by omega,c1,h⟩
  refine EvIf.mk (fun h=>(by rw[hd] at h;cases h)) fun _=>?_
  refine EvIf.mk (fun h=>(by rw[hd] at h;cases h)) fun _=>?_
  refine Or (.done ?_)
  refine C1 [0,1,2,7,13,80,81] [] (fun i:Nat × RD=>[(82,gI i.1)]) (fun i=>[(0,.abs (cl (oDs i.2)))]) (fun i=>i.1≤l.length∧DI i.1 i.2) (fun i=>l.length - i.1) (0,Ij 1100) ⟨Nat.zero_le _,Nw 1100⟩ ⟨⟨rfl,rfl⟩,trivial⟩ ⟨⟨rfl,rfl,rfl⟩,trivial⟩ rfl fun⟨i,d⟩ hI=>?_
  obtain⟨hi,hI⟩:=hI
  dsimp only at hi hI
  refine EvIf.dec (fun hlt=>?_) fun hge=>?_
  ·rw[List.length_map] at hlt
   obtain⟨o,ho⟩:∃o,l[i]?=some o:=⟨_,List.getElem?_eq_getElem (by omega)⟩
   refine EvIdx.at (f:=Z4w) ho ?_
   obtain⟨ok,on,ot,ob⟩:=o
   refine EvIf.beq (fun _=>?_) fun _=>?_
   ·refine EvCall.lend ((I5 d hI.wd (by rw[hI.armed];decide) (by have:=hI.wait;omega) on ob).cal fun q rs hq=>?_)
    obtain⟨rfl,rfl⟩:=hq
    refine⟨by dsimp only;omega,.done ⟨(i+1,A9 d on ob),[],⟨by dsimp only;omega,hI.write on ob⟩,(by dsimp only;omega),?_⟩⟩
    refine⟨?_,?_,rfl⟩<;>repeat' (first | exact True.intro | with_reducible rfl | exact rfl | refine And.intro ?_ ?_)
   ·refine⟨by dsimp only;omega,.done ⟨(i+1,d),[],⟨by dsimp only;omega,hI.up⟩,(by dsimp only;omega),?_⟩⟩
    refine⟨?_,?_,rfl⟩<;>repeat' (first | exact True.intro | with_reducible rfl | exact rfl | refine And.intro ?_ ?_)
  refine Gh.done ?_
  refine EvCall.lend ((Iw d hI.wd hI.dead self many).cal fun q rs hq=>?_)
  rcases hq with⟨-,rfl,hr⟩ | ⟨n,b,e,hn,rfl,rfl⟩
  ·rcases hr with rfl | ⟨-,rfl⟩
   ·refine EvIf.bne (fun _=>?_) fun h=>absurd h (by decide)
    refine(Cc).cal fun q hq=>?_
    subst hq
    refine EvIf.mk (fun _=>?_) fun h=>(by cases h)
    refine EvIf.beq (fun _=>?_) fun h=>absurd rfl h
    exact rfl
   ·refine EvIf.bne (fun _=>?_) fun h=>absurd h (by decide)
    refine(Cc).cal fun q hq=>?_
    subst hq
    refine EvIf.mk (fun _=>?_) fun h=>(by cases h)
    refine EvIf.beq (fun _=>?_) fun h=>absurd rfl h
    exact rfl
  exact absurd (Fj hn).1 (hpar _)
end Go.Proofs.YtihfaocdpmmooaaGreat
namespace Go.Proofs.YtihfaocdpmmooaaGreat
open Go.RowKit
def Zda:List Sp:=[.i .i64,.i .i64,.i .i64,.sl [.i .u8]]
theorem Zb1 {r:List G}(h:TyL Zda r):∃o:ROp,r=Z4w o∧True:=by
 obtain⟨a0,r,rfl,-,h⟩:=h.i_inv
 obtain⟨a1,r,rfl,-,h⟩:=h.i_inv
 obtain⟨a2,r,rfl,-,h⟩:=h.i_inv
 obtain⟨rows,r,rfl,-,hr,h⟩:=h.sl_inv
 obtain rfl:=h.nil_inv
 obtain⟨l,rfl,-⟩:=Y7 fun r h=>Z5j (hr r h)
 exact⟨⟨a0,a1,a2,l⟩,rfl,trivial⟩
theorem Z68 {g:G}(h:TyL [.sl Zda] [g]):∃l:List ROp,g=.sl (l.map Z4w):=by
 obtain⟨rows,r,e,-,hr,h⟩:=h.sl_inv
 obtain rfl:=h.nil_inv
 have e:g=.sl rows:=by simpa using e
 subst e
 obtain⟨l,rfl,-⟩:=Y7 fun r h=>Zb1 (hr r h)
 exact⟨l,rfl⟩
theorem Z0c {g:G}(h:TyL [.i .i64] [g]):∃n:Int,g=gI n:=by
 obtain⟨n,r,e,-,h⟩:=h.i_inv
 obtain rfl:=h.nil_inv
 have e:g=gI n:=by simpa using e
 exact⟨n,e⟩
end Go.Proofs.YtihfaocdpmmooaaGreat

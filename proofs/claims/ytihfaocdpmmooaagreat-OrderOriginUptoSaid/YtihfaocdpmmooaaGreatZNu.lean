
import Derived.Test.YtihfaocdpmmooaaGreatZNs
import Derived.Test.YtihfaocdpmmooaaGreatNMq
namespace Go.Proofs.YtihfaocdpmmooaaGreat
open Go.RowKit
set_option maxRecDepth 100000
theorem Z1c {b:Bs}(h:Kp b):okM (mD b)=true:=(Zbw h).1
theorem Xf {k:Nat}{n:PN}{f:Nat}{m:RM}(_hw:WNk k n)(hs:ShN true n)(hd:n.dead=false):ShN true (As n f m):=by
 refine⟨fun h=>(by cases h),fun _ hd2 hl=>?_⟩
 have key:∀n2:PN,n2.lds=n.lds→n2.std=n.std→n2.lds=true→n2.std=true:=fun n2 a b c=>by rw[b];exact hs.a rfl hd (by rw[←a];exact c)
 unfold As at hl⊢
 split at hl
 ·next h=>rw[if_pos h];exact key n rfl rfl hl
 ·next h =>
  rw[if_neg h]
  have hld:n.lds=true:=by
   cases hx:n.lds with
   | true=>rfl
   | false=>exact absurd (.inl hx) h
  have hst:=hs.a rfl hd hld
  rw[if_neg (by rw[hst];rintro⟨-,h⟩;cases h)] at hl⊢
  split at hl
  ·next h2 =>
   rw[if_pos h2]
   obtain⟨c,o,e⟩:=C7 {n with aks:=fun i=>if i=f then max (n.aks f) m.num else n.aks i,hrd:=fun i=>if i=f then true else n.hrd i}
   rw[e]
   dsimp only
   split
   ·obtain⟨o2,e2⟩:=(A8 (PN.mk n.self n.many n.pmd n.normal n.log c n.lds n.std n.jns n.first (fun i=>if i=f then max (n.aks f) m.num else n.aks i) (fun i=>if i=f then true else n.hrd i) o n.dead n.st) f ⟨4,n.pmd,0,m.num,n.log.drop m.num.toNat⟩).to
    rw[e2]
    exact hst
   ·exact hst
  ·next h2=>rw[if_neg h2];exact hst
set_option maxHeartbeats 4000000 in
theorem Zbt (k:Nat)(n:PN)(b e:Nat)(p:RPk)(h:n.dead=false→WNk k n)(hsh:n.dead=false→ShN true n)(hp:p.body.size≤2000000):FnO Tryz.prog 32 [.ptr 0 0,.agg (pkG p)] (cA n b e) fun g rs=>g=.tup []∧∃s,rs=cS s (Dm n p) b e∧(n.dead=false→ShN s (Dm n p)):=by
 obtain⟨self,many,pmd,normal,log,cmt,lds,std,jns,first,aks,hrd,out,dead,st⟩:=n
 obtain⟨frm,to,body⟩:=p
 have hp:body.size≤2000000:=hp
 have no:(dead=true∨¬Kp body.data.toList∨to≠self∨frm=self∨frm < 0∨frm ≥ many)→Dm ⟨self,many,pmd,normal,log,cmt,lds,std,jns,first,aks,hrd,out,dead,st⟩ ⟨frm,to,body⟩=⟨self,many,pmd,normal,log,cmt,lds,std,jns,first,aks,hrd,out,dead,st⟩:=fun hh=>by unfold Dm;rw[if_pos hh]
 refine Bd Tryz.func32 (by kernel_rfl) rfl (Nat.le_of_ble_eq_true (by kernel_rfl)) (by kernel_rfl) (A6 (O:=oAs ⟨self,many,pmd,normal,log,cmt,lds,std,jns,first,aks,hrd,out,dead,st⟩ b e) (n0:=5) rfl) ?_
 refine(R3 body hp).cal fun q hq=>?_
 subst hq
 unfold rdM
 refine EvIf.mk (fun hd=>?_) fun hd=>?_
 ·have hd:dead=true:=hd
  rw[no (.inl hd)]
  exact .inl (A1 (oAs ⟨self,many,pmd,normal,log,cmt,lds,std,jns,first,aks,hrd,out,dead,st⟩ b e) [] (by exact RL5) rfl ⟨_,rfl⟩ rfl rfl ⟨rfl,true,rfl,fun h=>by rw[hd] at h;cases h⟩)
 have hd:dead=false:=hd
 have hw:=h hd
 have hs:=hsh hd
 clear h hsh
 refine EvIf.bne (fun he=>?_) fun he=>?_
 ·rw[no (.inr (.inl (fun ho=>he (if_pos ho))))]
  exact .inl (A1 (oAs ⟨self,many,pmd,normal,log,cmt,lds,std,jns,first,aks,hrd,out,dead,st⟩ b e) [] (by exact RL5) rfl ⟨_,rfl⟩ rfl rfl ⟨rfl,true,rfl,fun _=>hs⟩)
 have hok:Kp body.data.toList:=Classical.byContradiction fun ho=>by
  have he:eMd body.data.toList=0:=he
  unfold eMd at he
  rw[if_neg ho] at he
  cases he
 refine EvIf.bne (fun(ht:to≠self)=>?_) fun(ht:to=self)=>?_
 ·rw[no (.inr (.inr (.inl ht)))]
  exact .inl (A1 (oAs ⟨self,many,pmd,normal,log,cmt,lds,std,jns,first,aks,hrd,out,dead,st⟩ b e) [] (by exact RL5) rfl ⟨_,rfl⟩ rfl rfl ⟨rfl,true,rfl,fun _=>hs⟩)
 refine EvIf.beq (fun(hf:frm=self)=>?_) fun(hf:frm≠self)=>?_
 ·rw[no (.inr (.inr (.inr (.inl hf))))]
  exact .inl (A1 (oAs ⟨self,many,pmd,normal,log,cmt,lds,std,jns,first,aks,hrd,out,dead,st⟩ b e) [] (by exact RL5) rfl ⟨_,rfl⟩ rfl rfl ⟨rfl,true,rfl,fun _=>hs⟩)
 refine EvIf.dec (fun(hf0:frm < 0)=>?_) fun(hf0:¬frm < 0)=>?_
 ·rw[no (.inr (.inr (.inr (.inr (.inl hf0)))))]
  exact .inl (A1 (oAs ⟨self,many,pmd,normal,log,cmt,lds,std,jns,first,aks,hrd,out,dead,st⟩ b e) [] (by exact RL5) rfl ⟨_,rfl⟩ rfl rfl ⟨rfl,true,rfl,fun _=>hs⟩)
 refine EvIf.dec (fun(hfm:frm ≥ many)=>?_) fun(hfm:¬frm ≥ many)=>?_
 ·rw[no (.inr (.inr (.inr (.inr (.inr hfm)))))]
  exact .inl (A1 (oAs ⟨self,many,pmd,normal,log,cmt,lds,std,jns,first,aks,hrd,out,dead,st⟩ b e) [] (by exact RL5) rfl ⟨_,rfl⟩ rfl rfl ⟨rfl,true,rfl,fun _=>hs⟩)
 have hm:=Z1c hok
 have hno:¬(dead=true∨¬Kp body.data.toList∨to≠self∨frm=self∨frm < 0∨frm ≥ many):=by
  rw[hd]
  rintro(h | h | h | h | h | h)
  ·cases h
  ·exact h hok
  ·exact h ht
  ·exact hf h
  ·exact hf0 h
  ·exact hfm h
 have eT:Dm ⟨self,many,pmd,normal,log,cmt,lds,std,jns,first,aks,hrd,out,dead,st⟩ ⟨frm,to,body⟩=if(mD body.data.toList).kind=2∨(mD body.data.toList).kind=5 then As ⟨self,many,pmd,normal,log,cmt,lds,std,jns,first,aks,hrd,out,dead,st⟩ frm.toNat (mD body.data.toList) else if Aa (mD body.data.toList).view many≠frm then⟨self,many,pmd,normal,log,cmt,lds,std,jns,first,aks,hrd,out,dead,st⟩ else A4 ⟨self,many,pmd,normal,log,cmt,lds,std,jns,first,aks,hrd,out,dead,st⟩ frm.toNat (mD body.data.toList):=by
  unfold Dm;rw[if_neg hno]
 obtain⟨f,rfl⟩:∃f:Nat,frm=(f:Int):=⟨frm.toNat,by omega⟩
 rw[Int.toNat_natCast] at eT
 have hm7:=hw.m7
 have hm7:many≤7:=hm7
 generalize mD body.data.toList=m at eT hm⊢
 clear no hno he hok
 have hkd:=(Ay hm).2.1
 rw[eT]
 refine EvIf.beq (fun(hk:m.kind=1)=>?_) fun(hk1:m.kind≠1)=>?_
 ·rw[if_neg (by omega)]
  refine EvIf.beq (fun _=>?_) fun h=>absurd hk h
  refine(Cg _ _).cal fun q hq=>?_
  subst hq
  refine EvIf.bne (fun hpr=>?_) fun hpr=>?_
  ·rw[if_pos hpr]
   exact .inl (A1 (oAs ⟨self,many,pmd,normal,log,cmt,lds,std,jns,first,aks,hrd,out,dead,st⟩ b e) [] (by exact RL5) rfl ⟨_,rfl⟩ rfl rfl ⟨rfl,true,rfl,fun _=>hs⟩)
  ·have hpr:Aa m.view many=f:=hpr
   rw[if_neg (fun h=>h hpr)]
   refine EvCall.gh (.close (oAs ⟨self,many,pmd,normal,log,cmt,lds,std,jns,first,aks,hrd,out,dead,st⟩ b e) [] (by exact RL5) ⟨_,rfl⟩ rfl (.done (.same ((X3 k ⟨self,many,pmd,normal,log,cmt,lds,std,jns,first,aks,hrd,out,dead,st⟩ b e f m hw (hs.a rfl hd) hm hk).cal fun q rs hq=>?_))))
   obtain⟨rfl,s,rfl,hq⟩:=hq
   have hq:=hq hd
   refine .done ?_
   exact .inl (A7 rfl rfl ⟨rfl,s,rfl,fun _=>hq⟩)
 refine EvIf.beq (fun(hk:m.kind=3)=>?_) fun(hk3:m.kind≠3)=>?_
 ·rw[if_neg (by omega)]
  refine EvIf.beq (fun _=>?_) fun h=>absurd hk h
  refine(Cg _ _).cal fun q hq=>?_
  subst hq
  refine EvIf.bne (fun hpr=>?_) fun hpr=>?_
  ·rw[if_pos hpr]
   exact .inl (A1 (oAs ⟨self,many,pmd,normal,log,cmt,lds,std,jns,first,aks,hrd,out,dead,st⟩ b e) [] (by exact RL5) rfl ⟨_,rfl⟩ rfl rfl ⟨rfl,true,rfl,fun _=>hs⟩)
  ·have hpr:Aa m.view many=f:=hpr
   rw[if_neg (fun h=>h hpr)]
   refine EvCall.gh (.close (oAs ⟨self,many,pmd,normal,log,cmt,lds,std,jns,first,aks,hrd,out,dead,st⟩ b e) [] (by exact RL5) ⟨_,rfl⟩ rfl (.done (.same ((X9 k ⟨self,many,pmd,normal,log,cmt,lds,std,jns,first,aks,hrd,out,dead,st⟩ b e f m hw (hs.a rfl hd) hm hk).cal fun q rs hq=>?_))))
   obtain⟨rfl,s,rfl,hq⟩:=hq
   have hq:=hq hd
   refine .done ?_
   exact .inl (A7 rfl rfl ⟨rfl,s,rfl,fun _=>hq⟩)
 refine EvIf.beq (fun(hk:m.kind=4)=>?_) fun(hk4:m.kind≠4)=>?_
 ·rw[if_neg (by omega)]
  refine EvIf.beq (fun _=>?_) fun h=>absurd hk h
  refine(Cg _ _).cal fun q hq=>?_
  subst hq
  refine EvIf.bne (fun hpr=>?_) fun hpr=>?_
  ·rw[if_pos hpr]
   exact .inl (A1 (oAs ⟨self,many,pmd,normal,log,cmt,lds,std,jns,first,aks,hrd,out,dead,st⟩ b e) [] (by exact RL5) rfl ⟨_,rfl⟩ rfl rfl ⟨rfl,true,rfl,fun _=>hs⟩)
  ·have hpr:Aa m.view many=f:=hpr
   rw[if_neg (fun h=>h hpr)]
   refine EvCall.gh (.close (oAs ⟨self,many,pmd,normal,log,cmt,lds,std,jns,first,aks,hrd,out,dead,st⟩ b e) [] (by exact RL5) ⟨_,rfl⟩ rfl (.done (.same ((Wy k ⟨self,many,pmd,normal,log,cmt,lds,std,jns,first,aks,hrd,out,dead,st⟩ b e f m hw (hs.a rfl hd) hm hk).cal fun q rs hq=>?_))))
   obtain⟨rfl,s,rfl,hq⟩:=hq
   have hq:=hq hd
   refine .done ?_
   exact .inl (A7 rfl rfl ⟨rfl,s,rfl,fun _=>hq⟩)
 refine EvIf.beq (fun(hk:m.kind=6)=>?_) fun(hk6:m.kind≠6)=>?_
 ·rw[if_neg (by omega)]
  refine(Cg _ _).cal fun q hq=>?_
  subst hq
  refine EvIf.bne (fun hpr=>?_) fun hpr=>?_
  ·rw[if_pos hpr]
   exact .inl (A1 (oAs ⟨self,many,pmd,normal,log,cmt,lds,std,jns,first,aks,hrd,out,dead,st⟩ b e) [] (by exact RL5) rfl ⟨_,rfl⟩ rfl rfl ⟨rfl,true,rfl,fun _=>hs⟩)
  ·have hpr:Aa m.view many=f:=hpr
   rw[if_neg (fun h=>h hpr)]
   refine EvCall.gh (.close (oAs ⟨self,many,pmd,normal,log,cmt,lds,std,jns,first,aks,hrd,out,dead,st⟩ b e) [] (by exact RL5) ⟨_,rfl⟩ rfl (.done (.same ((Wt k ⟨self,many,pmd,normal,log,cmt,lds,std,jns,first,aks,hrd,out,dead,st⟩ b e f m hw (hs.a rfl hd) hm hk).cal fun q rs hq=>?_))))
   obtain⟨rfl,s,rfl,hq⟩:=hq
   have hq:=hq hd
   refine .done ?_
   exact .inl (A7 rfl rfl ⟨rfl,s,rfl,fun _=>hq⟩)
 have hk25:m.kind=2∨m.kind=5:=by omega
 rw[if_pos hk25]
 refine EvCall.gh (.close (oAs ⟨self,many,pmd,normal,log,cmt,lds,std,jns,first,aks,hrd,out,dead,st⟩ b e) [] (by exact RL5) ⟨_,rfl⟩ rfl (.done (.same ((Z0s k ⟨self,many,pmd,normal,log,cmt,lds,std,jns,first,aks,hrd,out,dead,st⟩ b e f (by omega) m hw (hs.a rfl hd) hm).cal fun q rs hq=>?_))))
 obtain⟨rfl,rfl⟩:=hq
 refine .done ?_
 exact .inl (A7 rfl rfl ⟨rfl,true,rfl,fun _=>Xf hw hs hd⟩)
set_option maxHeartbeats 4000000 in
theorem Zbv (k:Nat)(n:PN)(b e:Nat)(p:RPk)(h:n.dead=false→WNk k n)(hsh:n.dead=false→ShN false n)(hp:p.body.size≤2000000):FnO Tryz.prog 32 [.ptr 0 0,.agg (pkG p)] (cB n b e) fun g rs=>g=.tup []∧∃s,rs=cS s (Dm n p) b e∧(n.dead=false→ShN s (Dm n p)):=by
 obtain⟨self,many,pmd,normal,log,cmt,lds,std,jns,first,aks,hrd,out,dead,st⟩:=n
 obtain⟨frm,to,body⟩:=p
 have hp:body.size≤2000000:=hp
 have no:(dead=true∨¬Kp body.data.toList∨to≠self∨frm=self∨frm < 0∨frm ≥ many)→Dm ⟨self,many,pmd,normal,log,cmt,lds,std,jns,first,aks,hrd,out,dead,st⟩ ⟨frm,to,body⟩=⟨self,many,pmd,normal,log,cmt,lds,std,jns,first,aks,hrd,out,dead,st⟩:=fun hh=>by unfold Dm;rw[if_pos hh]
 refine Bd Tryz.func32 (by kernel_rfl) rfl (Nat.le_of_ble_eq_true (by kernel_rfl)) (by kernel_rfl) (A6 (O:=oBs ⟨self,many,pmd,normal,log,cmt,lds,std,jns,first,aks,hrd,out,dead,st⟩ b e) (n0:=5) rfl) ?_
 refine(R3 body hp).cal fun q hq=>?_
 subst hq
 unfold rdM
 refine EvIf.mk (fun hd=>?_) fun hd=>?_
 ·have hd:dead=true:=hd
  rw[no (.inl hd)]
  exact .inl (A1 (oBs ⟨self,many,pmd,normal,log,cmt,lds,std,jns,first,aks,hrd,out,dead,st⟩ b e) [] (by exact RL5) rfl ⟨_,rfl⟩ rfl rfl ⟨rfl,false,rfl,fun h=>by rw[hd] at h;cases h⟩)
 have hd:dead=false:=hd
 have hw:=h hd
 have hs:=hsh hd
 clear h hsh
 refine EvIf.bne (fun he=>?_) fun he=>?_
 ·rw[no (.inr (.inl (fun ho=>he (if_pos ho))))]
  exact .inl (A1 (oBs ⟨self,many,pmd,normal,log,cmt,lds,std,jns,first,aks,hrd,out,dead,st⟩ b e) [] (by exact RL5) rfl ⟨_,rfl⟩ rfl rfl ⟨rfl,false,rfl,fun _=>hs⟩)
 have hok:Kp body.data.toList:=Classical.byContradiction fun ho=>by
  have he:eMd body.data.toList=0:=he
  unfold eMd at he
  rw[if_neg ho] at he
  cases he
 refine EvIf.bne (fun(ht:to≠self)=>?_) fun(ht:to=self)=>?_
 ·rw[no (.inr (.inr (.inl ht)))]
  exact .inl (A1 (oBs ⟨self,many,pmd,normal,log,cmt,lds,std,jns,first,aks,hrd,out,dead,st⟩ b e) [] (by exact RL5) rfl ⟨_,rfl⟩ rfl rfl ⟨rfl,false,rfl,fun _=>hs⟩)
 refine EvIf.beq (fun(hf:frm=self)=>?_) fun(hf:frm≠self)=>?_
 ·rw[no (.inr (.inr (.inr (.inl hf))))]
  exact .inl (A1 (oBs ⟨self,many,pmd,normal,log,cmt,lds,std,jns,first,aks,hrd,out,dead,st⟩ b e) [] (by exact RL5) rfl ⟨_,rfl⟩ rfl rfl ⟨rfl,false,rfl,fun _=>hs⟩)
 refine EvIf.dec (fun(hf0:frm < 0)=>?_) fun(hf0:¬frm < 0)=>?_
 ·rw[no (.inr (.inr (.inr (.inr (.inl hf0)))))]
  exact .inl (A1 (oBs ⟨self,many,pmd,normal,log,cmt,lds,std,jns,first,aks,hrd,out,dead,st⟩ b e) [] (by exact RL5) rfl ⟨_,rfl⟩ rfl rfl ⟨rfl,false,rfl,fun _=>hs⟩)
 refine EvIf.dec (fun(hfm:frm ≥ many)=>?_) fun(hfm:¬frm ≥ many)=>?_
 ·rw[no (.inr (.inr (.inr (.inr (.inr hfm)))))]
  exact .inl (A1 (oBs ⟨self,many,pmd,normal,log,cmt,lds,std,jns,first,aks,hrd,out,dead,st⟩ b e) [] (by exact RL5) rfl ⟨_,rfl⟩ rfl rfl ⟨rfl,false,rfl,fun _=>hs⟩)
 have hm:=Z1c hok
 have hno:¬(dead=true∨¬Kp body.data.toList∨to≠self∨frm=self∨frm < 0∨frm ≥ many):=by
  rw[hd]
  rintro(h | h | h | h | h | h)
  ·cases h
  ·exact h hok
  ·exact h ht
  ·exact hf h
  ·exact hf0 h
  ·exact hfm h
 have eT:Dm ⟨self,many,pmd,normal,log,cmt,lds,std,jns,first,aks,hrd,out,dead,st⟩ ⟨frm,to,body⟩=if(mD body.data.toList).kind=2∨(mD body.data.toList).kind=5 then As ⟨self,many,pmd,normal,log,cmt,lds,std,jns,first,aks,hrd,out,dead,st⟩ frm.toNat (mD body.data.toList) else if Aa (mD body.data.toList).view many≠frm then⟨self,many,pmd,normal,log,cmt,lds,std,jns,first,aks,hrd,out,dead,st⟩ else A4 ⟨self,many,pmd,normal,log,cmt,lds,std,jns,first,aks,hrd,out,dead,st⟩ frm.toNat (mD body.data.toList):=by
  unfold Dm;rw[if_neg hno]
 obtain⟨f,rfl⟩:∃f:Nat,frm=(f:Int):=⟨frm.toNat,by omega⟩
 rw[Int.toNat_natCast] at eT
 have hm7:=hw.m7
 have hm7:many≤7:=hm7
 generalize mD body.data.toList=m at eT hm⊢
 clear no hno he hok
 have hkd:=(Ay hm).2.1
 rw[eT]
 refine EvIf.beq (fun(hk:m.kind=1)=>?_) fun(hk1:m.kind≠1)=>?_
 ·rw[if_neg (by omega)]
  refine EvIf.beq (fun _=>?_) fun h=>absurd hk h
  refine(Cg _ _).cal fun q hq=>?_
  subst hq
  refine EvIf.bne (fun hpr=>?_) fun hpr=>?_
  ·rw[if_pos hpr]
   exact .inl (A1 (oBs ⟨self,many,pmd,normal,log,cmt,lds,std,jns,first,aks,hrd,out,dead,st⟩ b e) [] (by exact RL5) rfl ⟨_,rfl⟩ rfl rfl ⟨rfl,false,rfl,fun _=>hs⟩)
  ·have hpr:Aa m.view many=f:=hpr
   rw[if_neg (fun h=>h hpr)]
   refine EvCall.gh (.close (oBs ⟨self,many,pmd,normal,log,cmt,lds,std,jns,first,aks,hrd,out,dead,st⟩ b e) [] (by exact RL5) ⟨_,rfl⟩ rfl (.done (.same ((Wi k ⟨self,many,pmd,normal,log,cmt,lds,std,jns,first,aks,hrd,out,dead,st⟩ b e f m hw (hs.b rfl) hm hk).cal fun q rs hq=>?_))))
   obtain⟨rfl,s,rfl,hq⟩:=hq
   have hq:=hq hd
   refine .done ?_
   exact .inl (A7 rfl rfl ⟨rfl,s,rfl,fun _=>hq⟩)
 refine EvIf.beq (fun(hk:m.kind=3)=>?_) fun(hk3:m.kind≠3)=>?_
 ·rw[if_neg (by omega)]
  refine EvIf.beq (fun _=>?_) fun h=>absurd hk h
  refine(Cg _ _).cal fun q hq=>?_
  subst hq
  refine EvIf.bne (fun hpr=>?_) fun hpr=>?_
  ·rw[if_pos hpr]
   exact .inl (A1 (oBs ⟨self,many,pmd,normal,log,cmt,lds,std,jns,first,aks,hrd,out,dead,st⟩ b e) [] (by exact RL5) rfl ⟨_,rfl⟩ rfl rfl ⟨rfl,false,rfl,fun _=>hs⟩)
  ·have hpr:Aa m.view many=f:=hpr
   rw[if_neg (fun h=>h hpr)]
   refine EvCall.gh (.close (oBs ⟨self,many,pmd,normal,log,cmt,lds,std,jns,first,aks,hrd,out,dead,st⟩ b e) [] (by exact RL5) ⟨_,rfl⟩ rfl (.done (.same ((Wx k ⟨self,many,pmd,normal,log,cmt,lds,std,jns,first,aks,hrd,out,dead,st⟩ b e f m hw (hs.b rfl) hm hk).cal fun q rs hq=>?_))))
   obtain⟨rfl,s,rfl,hq⟩:=hq
   have hq:=hq hd
   refine .done ?_
   exact .inl (A7 rfl rfl ⟨rfl,s,rfl,fun _=>hq⟩)
 refine EvIf.beq (fun(hk:m.kind=4)=>?_) fun(hk4:m.kind≠4)=>?_
 ·rw[if_neg (by omega)]
  refine EvIf.beq (fun _=>?_) fun h=>absurd hk h
  refine(Cg _ _).cal fun q hq=>?_
  subst hq
  refine EvIf.bne (fun hpr=>?_) fun hpr=>?_
  ·rw[if_pos hpr]
   exact .inl (A1 (oBs ⟨self,many,pmd,normal,log,cmt,lds,std,jns,first,aks,hrd,out,dead,st⟩ b e) [] (by exact RL5) rfl ⟨_,rfl⟩ rfl rfl ⟨rfl,false,rfl,fun _=>hs⟩)
  ·have hpr:Aa m.view many=f:=hpr
   rw[if_neg (fun h=>h hpr)]
   refine EvCall.gh (.close (oBs ⟨self,many,pmd,normal,log,cmt,lds,std,jns,first,aks,hrd,out,dead,st⟩ b e) [] (by exact RL5) ⟨_,rfl⟩ rfl (.done (.same ((W8 k ⟨self,many,pmd,normal,log,cmt,lds,std,jns,first,aks,hrd,out,dead,st⟩ b e f m hw (hs.b rfl) hm hk).cal fun q rs hq=>?_))))
   obtain⟨rfl,s,rfl,hq⟩:=hq
   have hq:=hq hd
   refine .done ?_
   exact .inl (A7 rfl rfl ⟨rfl,s,rfl,fun _=>hq⟩)
 refine EvIf.beq (fun(hk:m.kind=6)=>?_) fun(hk6:m.kind≠6)=>?_
 ·rw[if_neg (by omega)]
  refine(Cg _ _).cal fun q hq=>?_
  subst hq
  refine EvIf.bne (fun hpr=>?_) fun hpr=>?_
  ·rw[if_pos hpr]
   exact .inl (A1 (oBs ⟨self,many,pmd,normal,log,cmt,lds,std,jns,first,aks,hrd,out,dead,st⟩ b e) [] (by exact RL5) rfl ⟨_,rfl⟩ rfl rfl ⟨rfl,false,rfl,fun _=>hs⟩)
  ·have hpr:Aa m.view many=f:=hpr
   rw[if_neg (fun h=>h hpr)]
   refine EvCall.gh (.close (oBs ⟨self,many,pmd,normal,log,cmt,lds,std,jns,first,aks,hrd,out,dead,st⟩ b e) [] (by exact RL5) ⟨_,rfl⟩ rfl (.done (.same ((Wq k ⟨self,many,pmd,normal,log,cmt,lds,std,jns,first,aks,hrd,out,dead,st⟩ b e f m hw (hs.b rfl) hm hk).cal fun q rs hq=>?_))))
   obtain⟨rfl,s,rfl,hq⟩:=hq
   have hq:=hq hd
   refine .done ?_
   exact .inl (A7 rfl rfl ⟨rfl,s,rfl,fun _=>hq⟩)
 have hk25:m.kind=2∨m.kind=5:=by omega
 rw[if_pos hk25]
 refine EvCall.gh (.close (oBs ⟨self,many,pmd,normal,log,cmt,lds,std,jns,first,aks,hrd,out,dead,st⟩ b e) [] (by exact RL5) ⟨_,rfl⟩ rfl (.done (.same ((Yk k ⟨self,many,pmd,normal,log,cmt,lds,std,jns,first,aks,hrd,out,dead,st⟩ b e f (by omega) m hw (hs.b rfl) hm).cal fun q rs hq=>?_))))
 obtain⟨rfl,s,rfl,hq⟩:=hq
 refine .done ?_
 exact .inl (A7 rfl rfl ⟨rfl,s,rfl,fun _=>hq⟩)
end Go.Proofs.YtihfaocdpmmooaaGreat

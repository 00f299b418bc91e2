
import Derived.Test.YtihfaocdpmmooaaGreatZNs
import Derived.Test.YtihfaocdpmmooaaGreatNMq
namespace Go.Proofs.YtihfaocdpmmooaaGreat
open Go.RowKit
set_option maxRecDepth 100000
theorem Rp {b:Bs}(h:Jd b):okM (mD b)=true:=(Zcq h).1
theorem Xt {k:Nat}{n:PN}{f:Nat}{m:RM}(_hw:WNk k n)(hs:ShN true n)(hd:n.dead=false):ShN true (B4 n f m):=by
 refine⟨fun h=>(by cases h),fun _ hd2 hl=>?_⟩
 have key:∀n2:PN,n2.lds=n.lds→n2.std=n.std→n2.lds=true→n2.std=true:=fun n2 a b c=>by rw[b];exact hs.a rfl hd (by rw[←a];exact c)
 unfold B4 at hl⊢
 split at hl
 ·next h=>rw[db h];exact key n rfl rfl hl
 ·next h =>
  rw[da h]
  have hld:n.lds=true:=by
   cases hx:n.lds with
   | true=>rfl
   | false=>exact dc (.inl hx) h
  have hst:=hs.a rfl hd hld
  rw[da (by rw[hst];rintro⟨-,h⟩;cases h)] at hl⊢
  split at hl
  ·next h2 =>
   rw[db h2]
   obtain⟨c,o,e⟩:=Cz {n with aks:=fun i=>if i=f then max (n.aks f) m.num else n.aks i,hrd:=fun i=>if i=f then true else n.hrd i}
   rw[e]
   dsimp only
   split
   ·obtain⟨o2,e2⟩:=(A8 (PN.mk n.self n.many n.pmd n.normal n.log c n.lds n.std n.jns n.first (fun i=>if i=f then max (n.aks f) m.num else n.aks i) (fun i=>if i=f then true else n.hrd i) o n.dead n.st) f ⟨4,n.pmd,0,m.num,n.log.drop m.num.toNat⟩).to
    rw[e2]
    exact hst
   ·exact hst
  ·next h2=>rw[da h2];exact hst
set_option maxHeartbeats 4000000 in
theorem Zfd (k:Nat)(n:PN)(b e:Nat)(p:RPk)(h:n.dead=false→WNk k n)(hsh:n.dead=false→ShN true n)(hp:p.body.size≤2000000):FnO Tryz.prog 32 [.ptr 0 0,.agg (pkG p)] (cA n b e) fun g rs=>g=.tup []∧∃s,rs=cS s (El n p) b e∧(n.dead=false→ShN s (El n p)):=by
 obtain⟨D,B,F,A,G,H,I,J,K,C,L,M,N,E,P⟩:=n
 obtain⟨frm,to,body⟩:=p
 have hp:body.size≤2000000:=hp
 have no:(E=true∨¬Jd body.data.toList∨to≠D∨frm=D∨frm < 0∨frm ≥ B)→El ⟨D,B,F,A,G,H,I,J,K,C,L,M,N,E,P⟩ ⟨frm,to,body⟩=⟨D,B,F,A,G,H,I,J,K,C,L,M,N,E,P⟩:=fun hh=>by unfold El;rw[db hh]
 refine Ba Tryz.func32 (A5 (O:=oAs ⟨D,B,F,A,G,H,I,J,K,C,L,M,N,E,P⟩ b e) (n0:=5) rfl) ?_
 refine(Rc body hp).cal fun q hq=>?_
 subst hq
 unfold rdM
 refine dj (fun hd=>?_) fun hd=>?_
 ·have hd:E=true:=hd
  rw[no (.inl hd)]
  exact .inl (A1 (oAs ⟨D,B,F,A,G,H,I,J,K,C,L,M,N,E,P⟩ b e) [] (by exact RL5) rfl ⟨_,rfl⟩ rfl rfl ⟨rfl,true,rfl,fun h=>by rw[hd] at h;cases h⟩)
 have hd:E=false:=hd
 have hw:=h hd
 have hs:=hsh hd
 clear h hsh
 refine di (fun he=>?_) fun he=>?_
 ·rw[no (.inr (.inl (fun ho=>he (db ho))))]
  exact .inl (A1 (oAs ⟨D,B,F,A,G,H,I,J,K,C,L,M,N,E,P⟩ b e) [] (by exact RL5) rfl ⟨_,rfl⟩ rfl rfl ⟨rfl,true,rfl,fun _=>hs⟩)
 have hok:Jd body.data.toList:=bx fun ho=>by
  have he:eMd body.data.toList=0:=he
  unfold eMd at he
  rw[da ho] at he
  cases he
 refine di (fun(ht:to≠D)=>?_) fun(ht:to=D)=>?_
 ·rw[no (.inr (.inr (.inl ht)))]
  exact .inl (A1 (oAs ⟨D,B,F,A,G,H,I,J,K,C,L,M,N,E,P⟩ b e) [] (by exact RL5) rfl ⟨_,rfl⟩ rfl rfl ⟨rfl,true,rfl,fun _=>hs⟩)
 refine de (fun(hf:frm=D)=>?_) fun(hf:frm≠D)=>?_
 ·rw[no (.inr (.inr (.inr (.inl hf))))]
  exact .inl (A1 (oAs ⟨D,B,F,A,G,H,I,J,K,C,L,M,N,E,P⟩ b e) [] (by exact RL5) rfl ⟨_,rfl⟩ rfl rfl ⟨rfl,true,rfl,fun _=>hs⟩)
 refine df (fun(hf0:frm < 0)=>?_) fun(hf0:¬frm < 0)=>?_
 ·rw[no (.inr (.inr (.inr (.inr (.inl hf0)))))]
  exact .inl (A1 (oAs ⟨D,B,F,A,G,H,I,J,K,C,L,M,N,E,P⟩ b e) [] (by exact RL5) rfl ⟨_,rfl⟩ rfl rfl ⟨rfl,true,rfl,fun _=>hs⟩)
 refine df (fun(hfm:frm ≥ B)=>?_) fun(hfm:¬frm ≥ B)=>?_
 ·rw[no (.inr (.inr (.inr (.inr (.inr hfm)))))]
  exact .inl (A1 (oAs ⟨D,B,F,A,G,H,I,J,K,C,L,M,N,E,P⟩ b e) [] (by exact RL5) rfl ⟨_,rfl⟩ rfl rfl ⟨rfl,true,rfl,fun _=>hs⟩)
 have hm:=Rp hok
 have hno:¬(E=true∨¬Jd body.data.toList∨to≠D∨frm=D∨frm < 0∨frm ≥ B):=by
  rw[hd]
  rintro(h | h | h | h | h | h)
  ·cases h
  ·exact h hok
  ·exact h ht
  ·exact hf h
  ·exact hf0 h
  ·exact hfm h
 have eT:El ⟨D,B,F,A,G,H,I,J,K,C,L,M,N,E,P⟩ ⟨frm,to,body⟩=if(mD body.data.toList).kind=2∨(mD body.data.toList).kind=5 then B4 ⟨D,B,F,A,G,H,I,J,K,C,L,M,N,E,P⟩ frm.toNat (mD body.data.toList) else if A9 (mD body.data.toList).view B≠frm then⟨D,B,F,A,G,H,I,J,K,C,L,M,N,E,P⟩ else A6 ⟨D,B,F,A,G,H,I,J,K,C,L,M,N,E,P⟩ frm.toNat (mD body.data.toList):=by
  unfold El;rw[da hno]
 obtain⟨f,rfl⟩:∃f:Nat,frm=(f:Int):=⟨frm.toNat,by omega⟩
 rw[ay] at eT
 have hm7:=hw.m7
 have hm7:B≤7:=hm7
 generalize mD body.data.toList=m at eT hm⊢
 clear no hno he hok
 have hkd:=(Aw hm).2.1
 rw[eT]
 refine de (fun(hk:m.kind=1)=>?_) fun(hk1:m.kind≠1)=>?_
 ·rw[da (by omega)]
  refine de (fun _=>?_) fun h=>dc hk h
  refine(Ct _ _).cal fun q hq=>?_
  subst hq
  refine di (fun hpr=>?_) fun hpr=>?_
  ·rw[db hpr]
   exact .inl (A1 (oAs ⟨D,B,F,A,G,H,I,J,K,C,L,M,N,E,P⟩ b e) [] (by exact RL5) rfl ⟨_,rfl⟩ rfl rfl ⟨rfl,true,rfl,fun _=>hs⟩)
  ·have hpr:A9 m.view B=f:=hpr
   rw[da (fun h=>h hpr)]
   refine dg (.close (oAs ⟨D,B,F,A,G,H,I,J,K,C,L,M,N,E,P⟩ b e) [] (by exact RL5) ⟨_,rfl⟩ rfl (.done (.same ((Ws k ⟨D,B,F,A,G,H,I,J,K,C,L,M,N,E,P⟩ b e f m hw (hs.a rfl hd) hm hk).cal fun q rs hq=>?_))))
   obtain⟨rfl,s,rfl,hq⟩:=hq
   have hq:=hq hd
   refine .done ?_
   exact .inl (A7 rfl rfl ⟨rfl,s,rfl,fun _=>hq⟩)
 refine de (fun(hk:m.kind=3)=>?_) fun(hk3:m.kind≠3)=>?_
 ·rw[da (by omega)]
  refine de (fun _=>?_) fun h=>dc hk h
  refine(Ct _ _).cal fun q hq=>?_
  subst hq
  refine di (fun hpr=>?_) fun hpr=>?_
  ·rw[db hpr]
   exact .inl (A1 (oAs ⟨D,B,F,A,G,H,I,J,K,C,L,M,N,E,P⟩ b e) [] (by exact RL5) rfl ⟨_,rfl⟩ rfl rfl ⟨rfl,true,rfl,fun _=>hs⟩)
  ·have hpr:A9 m.view B=f:=hpr
   rw[da (fun h=>h hpr)]
   refine dg (.close (oAs ⟨D,B,F,A,G,H,I,J,K,C,L,M,N,E,P⟩ b e) [] (by exact RL5) ⟨_,rfl⟩ rfl (.done (.same ((Xb k ⟨D,B,F,A,G,H,I,J,K,C,L,M,N,E,P⟩ b e f m hw (hs.a rfl hd) hm hk).cal fun q rs hq=>?_))))
   obtain⟨rfl,s,rfl,hq⟩:=hq
   have hq:=hq hd
   refine .done ?_
   exact .inl (A7 rfl rfl ⟨rfl,s,rfl,fun _=>hq⟩)
 refine de (fun(hk:m.kind=4)=>?_) fun(hk4:m.kind≠4)=>?_
 ·rw[da (by omega)]
  refine de (fun _=>?_) fun h=>dc hk h
  refine(Ct _ _).cal fun q hq=>?_
  subst hq
  refine di (fun hpr=>?_) fun hpr=>?_
  ·rw[db hpr]
   exact .inl (A1 (oAs ⟨D,B,F,A,G,H,I,J,K,C,L,M,N,E,P⟩ b e) [] (by exact RL5) rfl ⟨_,rfl⟩ rfl rfl ⟨rfl,true,rfl,fun _=>hs⟩)
  ·have hpr:A9 m.view B=f:=hpr
   rw[da (fun h=>h hpr)]
   refine dg (.close (oAs ⟨D,B,F,A,G,H,I,J,K,C,L,M,N,E,P⟩ b e) [] (by exact RL5) ⟨_,rfl⟩ rfl (.done (.same ((Xy k ⟨D,B,F,A,G,H,I,J,K,C,L,M,N,E,P⟩ b e f m hw (hs.a rfl hd) hm hk).cal fun q rs hq=>?_))))
   obtain⟨rfl,s,rfl,hq⟩:=hq
   have hq:=hq hd
   refine .done ?_
   exact .inl (A7 rfl rfl ⟨rfl,s,rfl,fun _=>hq⟩)
 refine de (fun(hk:m.kind=6)=>?_) fun(hk6:m.kind≠6)=>?_
 ·rw[da (by omega)]
  refine(Ct _ _).cal fun q hq=>?_
  subst hq
  refine di (fun hpr=>?_) fun hpr=>?_
  ·rw[db hpr]
   exact .inl (A1 (oAs ⟨D,B,F,A,G,H,I,J,K,C,L,M,N,E,P⟩ b e) [] (by exact RL5) rfl ⟨_,rfl⟩ rfl rfl ⟨rfl,true,rfl,fun _=>hs⟩)
  ·have hpr:A9 m.view B=f:=hpr
   rw[da (fun h=>h hpr)]
   refine dg (.close (oAs ⟨D,B,F,A,G,H,I,J,K,C,L,M,N,E,P⟩ b e) [] (by exact RL5) ⟨_,rfl⟩ rfl (.done (.same ((Yb k ⟨D,B,F,A,G,H,I,J,K,C,L,M,N,E,P⟩ b e f m hw (hs.a rfl hd) hm hk).cal fun q rs hq=>?_))))
   obtain⟨rfl,s,rfl,hq⟩:=hq
   have hq:=hq hd
   refine .done ?_
   exact .inl (A7 rfl rfl ⟨rfl,s,rfl,fun _=>hq⟩)
 have hk25:m.kind=2∨m.kind=5:=by omega
 rw[db hk25]
 refine dg (.close (oAs ⟨D,B,F,A,G,H,I,J,K,C,L,M,N,E,P⟩ b e) [] (by exact RL5) ⟨_,rfl⟩ rfl (.done (.same ((Z1r k ⟨D,B,F,A,G,H,I,J,K,C,L,M,N,E,P⟩ b e f (by omega) m hw (hs.a rfl hd) hm).cal fun q rs hq=>?_))))
 obtain⟨rfl,rfl⟩:=hq
 refine .done ?_
 exact .inl (A7 rfl rfl ⟨rfl,true,rfl,fun _=>Xt hw hs hd⟩)
set_option maxHeartbeats 4000000 in
theorem Zej (k:Nat)(n:PN)(b e:Nat)(p:RPk)(h:n.dead=false→WNk k n)(hsh:n.dead=false→ShN false n)(hp:p.body.size≤2000000):FnO Tryz.prog 32 [.ptr 0 0,.agg (pkG p)] (cB n b e) fun g rs=>g=.tup []∧∃s,rs=cS s (El n p) b e∧(n.dead=false→ShN s (El n p)):=by
 obtain⟨D,B,F,A,G,H,I,J,K,C,L,M,N,E,P⟩:=n
 obtain⟨frm,to,body⟩:=p
 have hp:body.size≤2000000:=hp
 have no:(E=true∨¬Jd body.data.toList∨to≠D∨frm=D∨frm < 0∨frm ≥ B)→El ⟨D,B,F,A,G,H,I,J,K,C,L,M,N,E,P⟩ ⟨frm,to,body⟩=⟨D,B,F,A,G,H,I,J,K,C,L,M,N,E,P⟩:=fun hh=>by unfold El;rw[db hh]
 refine Ba Tryz.func32 (A5 (O:=oBs ⟨D,B,F,A,G,H,I,J,K,C,L,M,N,E,P⟩ b e) (n0:=5) rfl) ?_
 refine(Rc body hp).cal fun q hq=>?_
 subst hq
 unfold rdM
 refine dj (fun hd=>?_) fun hd=>?_
 ·have hd:E=true:=hd
  rw[no (.inl hd)]
  exact .inl (A1 (oBs ⟨D,B,F,A,G,H,I,J,K,C,L,M,N,E,P⟩ b e) [] (by exact RL5) rfl ⟨_,rfl⟩ rfl rfl ⟨rfl,false,rfl,fun h=>by rw[hd] at h;cases h⟩)
 have hd:E=false:=hd
 have hw:=h hd
 have hs:=hsh hd
 clear h hsh
 refine di (fun he=>?_) fun he=>?_
 ·rw[no (.inr (.inl (fun ho=>he (db ho))))]
  exact .inl (A1 (oBs ⟨D,B,F,A,G,H,I,J,K,C,L,M,N,E,P⟩ b e) [] (by exact RL5) rfl ⟨_,rfl⟩ rfl rfl ⟨rfl,false,rfl,fun _=>hs⟩)
 have hok:Jd body.data.toList:=bx fun ho=>by
  have he:eMd body.data.toList=0:=he
  unfold eMd at he
  rw[da ho] at he
  cases he
 refine di (fun(ht:to≠D)=>?_) fun(ht:to=D)=>?_
 ·rw[no (.inr (.inr (.inl ht)))]
  exact .inl (A1 (oBs ⟨D,B,F,A,G,H,I,J,K,C,L,M,N,E,P⟩ b e) [] (by exact RL5) rfl ⟨_,rfl⟩ rfl rfl ⟨rfl,false,rfl,fun _=>hs⟩)
 refine de (fun(hf:frm=D)=>?_) fun(hf:frm≠D)=>?_
 ·rw[no (.inr (.inr (.inr (.inl hf))))]
  exact .inl (A1 (oBs ⟨D,B,F,A,G,H,I,J,K,C,L,M,N,E,P⟩ b e) [] (by exact RL5) rfl ⟨_,rfl⟩ rfl rfl ⟨rfl,false,rfl,fun _=>hs⟩)
 refine df (fun(hf0:frm < 0)=>?_) fun(hf0:¬frm < 0)=>?_
 ·rw[no (.inr (.inr (.inr (.inr (.inl hf0)))))]
  exact .inl (A1 (oBs ⟨D,B,F,A,G,H,I,J,K,C,L,M,N,E,P⟩ b e) [] (by exact RL5) rfl ⟨_,rfl⟩ rfl rfl ⟨rfl,false,rfl,fun _=>hs⟩)
 refine df (fun(hfm:frm ≥ B)=>?_) fun(hfm:¬frm ≥ B)=>?_
 ·rw[no (.inr (.inr (.inr (.inr (.inr hfm)))))]
  exact .inl (A1 (oBs ⟨D,B,F,A,G,H,I,J,K,C,L,M,N,E,P⟩ b e) [] (by exact RL5) rfl ⟨_,rfl⟩ rfl rfl ⟨rfl,false,rfl,fun _=>hs⟩)
 have hm:=Rp hok
 have hno:¬(E=true∨¬Jd body.data.toList∨to≠D∨frm=D∨frm < 0∨frm ≥ B):=by
  rw[hd]
  rintro(h | h | h | h | h | h)
  ·cases h
  ·exact h hok
  ·exact h ht
  ·exact hf h
  ·exact hf0 h
  ·exact hfm h
 have eT:El ⟨D,B,F,A,G,H,I,J,K,C,L,M,N,E,P⟩ ⟨frm,to,body⟩=if(mD body.data.toList).kind=2∨(mD body.data.toList).kind=5 then B4 ⟨D,B,F,A,G,H,I,J,K,C,L,M,N,E,P⟩ frm.toNat (mD body.data.toList) else if A9 (mD body.data.toList).view B≠frm then⟨D,B,F,A,G,H,I,J,K,C,L,M,N,E,P⟩ else A6 ⟨D,B,F,A,G,H,I,J,K,C,L,M,N,E,P⟩ frm.toNat (mD body.data.toList):=by
  unfold El;rw[da hno]
 obtain⟨f,rfl⟩:∃f:Nat,frm=(f:Int):=⟨frm.toNat,by omega⟩
 rw[ay] at eT
 have hm7:=hw.m7
 have hm7:B≤7:=hm7
 generalize mD body.data.toList=m at eT hm⊢
 clear no hno he hok
 have hkd:=(Aw hm).2.1
 rw[eT]
 refine de (fun(hk:m.kind=1)=>?_) fun(hk1:m.kind≠1)=>?_
 ·rw[da (by omega)]
  refine de (fun _=>?_) fun h=>dc hk h
  refine(Ct _ _).cal fun q hq=>?_
  subst hq
  refine di (fun hpr=>?_) fun hpr=>?_
  ·rw[db hpr]
   exact .inl (A1 (oBs ⟨D,B,F,A,G,H,I,J,K,C,L,M,N,E,P⟩ b e) [] (by exact RL5) rfl ⟨_,rfl⟩ rfl rfl ⟨rfl,false,rfl,fun _=>hs⟩)
  ·have hpr:A9 m.view B=f:=hpr
   rw[da (fun h=>h hpr)]
   refine dg (.close (oBs ⟨D,B,F,A,G,H,I,J,K,C,L,M,N,E,P⟩ b e) [] (by exact RL5) ⟨_,rfl⟩ rfl (.done (.same ((Y0 k ⟨D,B,F,A,G,H,I,J,K,C,L,M,N,E,P⟩ b e f m hw (hs.b rfl) hm hk).cal fun q rs hq=>?_))))
   obtain⟨rfl,s,rfl,hq⟩:=hq
   have hq:=hq hd
   refine .done ?_
   exact .inl (A7 rfl rfl ⟨rfl,s,rfl,fun _=>hq⟩)
 refine de (fun(hk:m.kind=3)=>?_) fun(hk3:m.kind≠3)=>?_
 ·rw[da (by omega)]
  refine de (fun _=>?_) fun h=>dc hk h
  refine(Ct _ _).cal fun q hq=>?_
  subst hq
  refine di (fun hpr=>?_) fun hpr=>?_
  ·rw[db hpr]
   exact .inl (A1 (oBs ⟨D,B,F,A,G,H,I,J,K,C,L,M,N,E,P⟩ b e) [] (by exact RL5) rfl ⟨_,rfl⟩ rfl rfl ⟨rfl,false,rfl,fun _=>hs⟩)
  ·have hpr:A9 m.view B=f:=hpr
   rw[da (fun h=>h hpr)]
   refine dg (.close (oBs ⟨D,B,F,A,G,H,I,J,K,C,L,M,N,E,P⟩ b e) [] (by exact RL5) ⟨_,rfl⟩ rfl (.done (.same ((Xf k ⟨D,B,F,A,G,H,I,J,K,C,L,M,N,E,P⟩ b e f m hw (hs.b rfl) hm hk).cal fun q rs hq=>?_))))
   obtain⟨rfl,s,rfl,hq⟩:=hq
   have hq:=hq hd
   refine .done ?_
   exact .inl (A7 rfl rfl ⟨rfl,s,rfl,fun _=>hq⟩)
 refine de (fun(hk:m.kind=4)=>?_) fun(hk4:m.kind≠4)=>?_
 ·rw[da (by omega)]
  refine de (fun _=>?_) fun h=>dc hk h
  refine(Ct _ _).cal fun q hq=>?_
  subst hq
  refine di (fun hpr=>?_) fun hpr=>?_
  ·rw[db hpr]
   exact .inl (A1 (oBs ⟨D,B,F,A,G,H,I,J,K,C,L,M,N,E,P⟩ b e) [] (by exact RL5) rfl ⟨_,rfl⟩ rfl rfl ⟨rfl,false,rfl,fun _=>hs⟩)
  ·have hpr:A9 m.view B=f:=hpr
   rw[da (fun h=>h hpr)]
   refine dg (.close (oBs ⟨D,B,F,A,G,H,I,J,K,C,L,M,N,E,P⟩ b e) [] (by exact RL5) ⟨_,rfl⟩ rfl (.done (.same ((Wt k ⟨D,B,F,A,G,H,I,J,K,C,L,M,N,E,P⟩ b e f m hw (hs.b rfl) hm hk).cal fun q rs hq=>?_))))
   obtain⟨rfl,s,rfl,hq⟩:=hq
   have hq:=hq hd
   refine .done ?_
   exact .inl (A7 rfl rfl ⟨rfl,s,rfl,fun _=>hq⟩)
 refine de (fun(hk:m.kind=6)=>?_) fun(hk6:m.kind≠6)=>?_
 ·rw[da (by omega)]
  refine(Ct _ _).cal fun q hq=>?_
  subst hq
  refine di (fun hpr=>?_) fun hpr=>?_
  ·rw[db hpr]
   exact .inl (A1 (oBs ⟨D,B,F,A,G,H,I,J,K,C,L,M,N,E,P⟩ b e) [] (by exact RL5) rfl ⟨_,rfl⟩ rfl rfl ⟨rfl,false,rfl,fun _=>hs⟩)
  ·have hpr:A9 m.view B=f:=hpr
   rw[da (fun h=>h hpr)]
   refine dg (.close (oBs ⟨D,B,F,A,G,H,I,J,K,C,L,M,N,E,P⟩ b e) [] (by exact RL5) ⟨_,rfl⟩ rfl (.done (.same ((Y4 k ⟨D,B,F,A,G,H,I,J,K,C,L,M,N,E,P⟩ b e f m hw (hs.b rfl) hm hk).cal fun q rs hq=>?_))))
   obtain⟨rfl,s,rfl,hq⟩:=hq
   have hq:=hq hd
   refine .done ?_
   exact .inl (A7 rfl rfl ⟨rfl,s,rfl,fun _=>hq⟩)
 have hk25:m.kind=2∨m.kind=5:=by omega
 rw[db hk25]
 refine dg (.close (oBs ⟨D,B,F,A,G,H,I,J,K,C,L,M,N,E,P⟩ b e) [] (by exact RL5) ⟨_,rfl⟩ rfl (.done (.same ((Z1t k ⟨D,B,F,A,G,H,I,J,K,C,L,M,N,E,P⟩ b e f (by omega) m hw (hs.b rfl) hm).cal fun q rs hq=>?_))))
 obtain⟨rfl,s,rfl,hq⟩:=hq
 refine .done ?_
 exact .inl (A7 rfl rfl ⟨rfl,s,rfl,fun _=>hq⟩)
end Go.Proofs.YtihfaocdpmmooaaGreat

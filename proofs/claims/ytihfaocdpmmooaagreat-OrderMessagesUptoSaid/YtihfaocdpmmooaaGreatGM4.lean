
import Derived.Test.YtihfaocdpmmooaaGreatGM3
import Derived.Test.YtihfaocdpmmooaaGreatOM3
import Derived.Test.YtihfaocdpmmooaaGreatSxMc
namespace Go.Proofs.YtihfaocdpmmooaaGreat
open Go.RowKit
set_option maxRecDepth 100000
theorem eqT {b:Bool}(h:b=true):G.v (.bool b)=.v (.bool true):=by rw[h]
set_option maxHeartbeats 2000000 in
theorem R7 (l:List REnt)(hl:l.length≤1000000):FnV Tryz.prog 81 [.sl (l.map enE),.sl (l.map enE)] fun g=>g=gI l.length:=by
 refine fnG Tryz.func81 (by kernel_rfl) rfl (Nat.le_of_ble_eq_true (by kernel_rfl)) (by kernel_rfl) ?_
 refine Ay [0,1] [] (fun i:Nat=>[(5,gI i),(6,gI i)]) (fun _=>[]) (fun i=>i≤l.length) (fun i=>l.length - i) 0 (Nat.zero_le _) ⟨⟨rfl,rfl⟩,⟨rfl,rfl⟩,trivial⟩ trivial rfl fun i hi=>?_
 refine EvIf.dec (fun h1=>?_) fun h1=>?_
 ·have h1:(i:Int) < ((l.map enE).length:Nat):=h1
  rw[List.length_map] at h1
  obtain⟨x,hx⟩:∃x,l[i]?=some x:=⟨_,List.getElem?_eq_getElem (by omega)⟩
  refine EvIf.dec (fun _=>?_) fun h=>absurd (by rw[List.length_map];exact h1) h
  refine EvIf.beq (fun _=>?_) fun h=>absurd rfl h
  refine EvIdx.at (f:=enE) hx ?_
  refine EvIdx.at (f:=enE) hx ?_
  refine EvEq.flat [.i .i64,.i .i64,.s] [_,_,_] [_,_,_] (by kernel_rfl) (by kernel_rfl) (by kernel_rfl) rfl rfl rfl rfl (fun _=>?_) (fun h=>absurd rfl h)
  refine EvIf.mk (fun _=>?_) fun h=>(by cases h)
  refine⟨by omega,⟨by omega,i+1,by omega,(by dsimp only;omega),?_⟩⟩
  refine⟨?_,?_,rfl⟩<;>repeat' (first | exact True.intro | with_reducible rfl | exact rfl | refine And.intro ?_ ?_)
 ·rw[List.length_map] at h1
  have:i=l.length:=by omega
  subst this
  exact rfl
theorem Z0 (l:List REnt)(hl:l.length≤1000000):FnV Tryz.prog 52 [.sl (l.map enE),.sl (l.map enE)] fun g=>g=.v (.bool true):=by
 refine fnG Tryz.func52 (by kernel_rfl) rfl (Nat.le_of_ble_eq_true (by kernel_rfl)) (by kernel_rfl) ?_
 refine EvIf.beq (fun _=>?_) fun h=>absurd rfl h
 refine(R7 l hl).cal fun q hq=>?_
 subst hq
 refine eqT ?_
 rw[List.length_map]
 exact beq_self_eq_true _
theorem Io (m:RM)(hl:m.l.length≤1000000):FnV Tryz.prog 15 [.agg (enM m),.agg (enM m)] fun g=>g=.v (.bool true):=by
 refine fnG Tryz.func15 (by kernel_rfl) rfl (Nat.le_of_ble_eq_true (by kernel_rfl)) (by kernel_rfl) ?_
 refine EvIf.beq (fun _=>?_) fun h=>absurd rfl h
 refine EvIf.beq (fun _=>?_) fun h=>absurd rfl h
 refine EvIf.beq (fun _=>?_) fun h=>absurd rfl h
 refine EvIf.beq (fun _=>?_) fun h=>absurd rfl h
 refine(Z0 m.l hl).cal fun q hq=>?_
 subst hq
 exact rfl
set_option maxHeartbeats 4000000 in
theorem K7 (m:RM)(s:ByteArray)(hs:s.size≤2000000):FnV Tryz.prog 3 [.agg (enM m),.v (.string s)] fun q=>q=.v (.bool true):=by
 refine fnG Tryz.func3 (by kernel_rfl) rfl (Nat.le_of_ble_eq_true (by kernel_rfl)) (by kernel_rfl) ?_
 refine EvIf.dec (fun h1=>?_) fun h1=>?_
 ·refine(Fv).cal fun q hq=>?_
  subst hq
  exact rfl
 have hl:m.l.length≤1000000:=by have h1:¬(((m.l.map enE).length:Nat):Int) > 200:=h1;rw[List.length_map] at h1;omega
 refine(En m hl).cal fun q hq=>?_
 subst hq
 refine(Ya m hl).cal fun q hq=>?_
 subst hq
 refine EvIf.bne (fun h=>absurd rfl h) fun _=>?_
 refine EvIf.bneS (fun h=>absurd rfl h) fun _=>?_
 refine(Fp s hs).cal fun q hq=>?_
 subst hq
 refine(Z10 s hs).cal fun q hq=>?_
 subst hq
 refine EvIf.bne (fun h=>absurd rfl h) fun _=>?_
 have hml:(mD s.data.toList).l.length≤1000000:=by
  by_cases hd:Gg s.data.toList
  ·have:=(Ar (Z2g hd).1).2.2.1;omega
  ·unfold mD;rw[if_neg hd];exact Nat.zero_le _
 refine(Io _ hml).cal fun q hq=>?_
 subst hq
 refine EvIf.mk (fun h=>(by cases h)) fun _=>?_
 have hbl:(⟨(bM m).toArray⟩:ByteArray).size≤2000000:=by
  have:=Z5f m
  show(bM m).toArray.size≤_
  rw[List.size_toArray];omega
 have hz:okM m=true→rdM (⟨(bM m).toArray⟩:ByteArray).data.toList=.tup [.agg (enM m),gI 0]:=fun h=>by
  obtain⟨z1,z2⟩:=Zdq h
  show G.tup [.agg (enM (mD (bM m).toArray.toList)),gI (eMd (bM m).toArray.toList)]=_
  rw[List.toList_toArray,z2]
  unfold eMd
  rw[if_pos z1]
 have ht:Gg s.data.toList→wrM (mD s.data.toList)=.tup [.v (.string s),gI 0]:=fun h=>by
  obtain⟨z1,z2⟩:=Z2g h
  unfold wrM
  rw[z2,Array.toArray_toList]
  unfold eM
  rw[if_pos z1]
 have e0:okM m=false→eM m≠0:=fun h=>by unfold eM;rw[h];decide
 have e1:okM m=true→eM m=0:=fun h=>by unfold eM;rw[h];rfl
 have g0:¬Gg s.data.toList→eMd s.data.toList≠0:=fun h=>by unfold eMd;rw[if_neg h];decide
 have g1:Gg s.data.toList→eMd s.data.toList=0:=fun h=>by unfold eMd;rw[if_pos h]
 cases hk:okM m with
 | false =>
  have e0:=e0 hk
  refine(Fp _ hbl).cal fun q hq=>?_
  subst hq
  by_cases hd:Gg s.data.toList
  ·have g1:=g1 hd
   refine(En _ hml).cal fun q hq=>?_
   rw[ht hd] at hq
   subst hq
   refine(Fv).cal fun q hq=>?_
   subst hq
   refine EvIf.mk (fun _=>?_) fun h=>(by cases h)
   refine EvIf.bne (fun _=>?_) fun h=>absurd h e0
   refine EvIf.bne (fun h=>absurd g1 h) fun _=>?_
   refine EvIf.beq (fun _=>?_) fun h=>absurd rfl h
   exact eqT (beq_self_eq_true _)
  ·have g0:=g0 hd
   refine(En _ hml).cal fun q hq=>?_
   subst hq
   refine(Fv).cal fun q hq=>?_
   subst hq
   refine EvIf.mk (fun _=>?_) fun h=>(by cases h)
   refine EvIf.bne (fun _=>?_) fun h=>absurd h e0
   refine EvIf.bne (fun _=>?_) fun h=>absurd h g0
   exact rfl
 | true =>
  have e1:=e1 hk
  refine(Fp _ hbl).cal fun q hq=>?_
  rw[hz hk] at hq
  subst hq
  by_cases hd:Gg s.data.toList
  ·have g1:=g1 hd
   refine(En _ hml).cal fun q hq=>?_
   rw[ht hd] at hq
   subst hq
   refine(Fv).cal fun q hq=>?_
   subst hq
   refine EvIf.mk (fun _=>?_) fun h=>(by cases h)
   refine EvIf.bne (fun h=>absurd e1 h) fun _=>?_
   refine EvIf.beq (fun _=>?_) fun h=>absurd rfl h
   refine(Io m hl).cal fun q hq=>?_
   subst hq
   refine EvIf.mk (fun _=>?_) fun h=>(by cases h)
   refine EvIf.bne (fun h=>absurd g1 h) fun _=>?_
   refine EvIf.beq (fun _=>?_) fun h=>absurd rfl h
   exact eqT (beq_self_eq_true _)
  ·have g0:=g0 hd
   refine(En _ hml).cal fun q hq=>?_
   subst hq
   refine(Fv).cal fun q hq=>?_
   subst hq
   refine EvIf.mk (fun _=>?_) fun h=>(by cases h)
   refine EvIf.bne (fun h=>absurd e1 h) fun _=>?_
   refine EvIf.beq (fun _=>?_) fun h=>absurd rfl h
   refine(Io m hl).cal fun q hq=>?_
   subst hq
   refine EvIf.mk (fun _=>?_) fun h=>(by cases h)
   refine EvIf.bne (fun _=>?_) fun h=>absurd h g0
   exact rfl
end Go.Proofs.YtihfaocdpmmooaaGreat
namespace Go.Proofs.YtihfaocdpmmooaaGreat
open Go.RowKit
theorem Y2 {rows:List (List G)}(h:∀r∈rows,1≤Cz r):rows.length≤J7 rows:=by
 induction rows with
 | nil=>exact Nat.zero_le _
 | cons r rows ih =>
  have h1:=h r (by simp)
  have h2:=ih fun x hx=>h x (by simp[hx])
  simp only[J7,List.length_cons]
  omega
def Zai:List Sp:=[.i .i64,.i .i64,.s]
def Zc1:List Sp:=[.i .i64,.i .i64,.i .i64,.i .i64,.sl Zai]
theorem Za6 {r:List G}(h:TyL Zai r):∃e:REnt,r=enE e∧1≤Cz r:=by
 obtain⟨a0,r,rfl,-,h⟩:=h.i_inv
 obtain⟨a1,r,rfl,-,h⟩:=h.i_inv
 obtain⟨a2,r,rfl,-,h⟩:=h.s_inv
 obtain rfl:=h.nil_inv
 exact⟨⟨a0,a1,a2⟩,rfl,by simp only[Cz,Jx];omega⟩
theorem Zb3 {gs:List G}(h:TyL Zc1 gs)(hb:Cz gs≤1048576):∃m:RM,gs=enM m∧m.l.length≤1048576:=by
 obtain⟨a0,r,rfl,-,h⟩:=h.i_inv
 obtain⟨a1,r,rfl,-,h⟩:=h.i_inv
 obtain⟨a2,r,rfl,-,h⟩:=h.i_inv
 obtain⟨a3,r,rfl,-,h⟩:=h.i_inv
 obtain⟨rows,r,rfl,-,hr,h⟩:=h.sl_inv
 obtain rfl:=h.nil_inv
 obtain⟨l,rfl,hq⟩:=Z7r (f:=enE) (Q:=fun e=>1≤Cz (enE e)) fun r hr'=>by
  obtain⟨e,rfl,h1⟩:=Za6 (hr r hr')
  exact⟨e,rfl,h1⟩
 refine⟨⟨a0,a1,a2,a3,l⟩,rfl,?_⟩
 have h1:=Y2 (rows:=l.map enE) fun r hr=>by
  obtain⟨e,he,rfl⟩:=List.mem_map.1 hr
  exact hq e he
 simp only[Cz,Jx] at hb
 rw[List.length_map] at h1
 show l.length≤_
 omega
theorem Z8r {g:G}(h:TyL [.s] [g])(hb:Jx g≤1048576):∃s:ByteArray,g=.v (.string s)∧s.size≤1048576:=by
 obtain⟨s,r,e,-,h⟩:=h.s_inv
 obtain rfl:=h.nil_inv
 have e:g=.v (.string s):=by simpa using e
 subst e
 simp only[Jx] at hb
 exact⟨s,rfl,by omega⟩
end Go.Proofs.YtihfaocdpmmooaaGreat

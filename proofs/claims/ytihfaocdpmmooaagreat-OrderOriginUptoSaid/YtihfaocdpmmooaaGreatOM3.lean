
import Derived.Test.YtihfaocdpmmooaaGreatPl1
import Derived.Test.YtihfaocdpmmooaaGreatFn1
import Derived.Test.YtihfaocdpmmooaaGreatPKN
import Derived.Test.YtihfaocdpmmooaaGreatSxMe
namespace Go.Proofs.YtihfaocdpmmooaaGreat
open Go.RowKit
set_option maxRecDepth 100000
theorem Zec (k:Int)(hk0:-1000≤k)(hk1:k≤1000000)(l:List REnt)(hl:l.length≤1000000):FnV Tryz.prog 84 [.sl (l.map enE),gI k] fun g=>g=.v (.bool (Lw k l)):=by
 refine fnG Tryz.func84 (by kernel_rfl) rfl (Nat.le_of_ble_eq_true (by kernel_rfl)) (by kernel_rfl) ?_
 have bad:H8 k 1 l=false→G.v (.bool false)=.v (.bool (Lw k l)):=fun h=>by unfold Lw;rw[h];rfl
 refine Bo [0,1,8,9] [] (fun i:Nat=>[(10,gI i),(5,gI (vw 1 (l.take i)))]) (fun _=>[]) (fun i=>i≤l.length∧H8 k 1 (l.take i)=true) (fun i=>l.length - i) 0 ⟨Nat.zero_le _,rfl⟩ ⟨⟨rfl,rfl⟩,⟨rfl,rfl⟩,trivial⟩ trivial rfl fun i hi=>?_
 obtain⟨hi,hI⟩:=hi
 refine EvIf.dec (fun h=>?_) (fun h=>?_)
 ·refine EvIdx.of (by simpa using h) fun e he=>?_
  have hlt:=Dy he
  refine⟨by omega,by omega,?_⟩
  refine EvIf.bne (fun h1=>bad (Kh he fun hh=>h1 (by omega))) fun h1=>?_
  refine EvIf.dec (fun h2=>bad (Kh he fun hh=>by omega)) fun h2=>?_
  refine EvIf.dec (fun h3=>bad (Kh he fun hh=>by omega)) fun h3=>?_
  refine EvIf.dec (fun h4=>bad (Kh he fun hh=>by omega)) fun h4=>?_
  obtain⟨s1,s2⟩:=Z1n he hI ⟨by omega,by omega,by omega,by omega⟩
  refine⟨by omega,i+1,⟨by omega,s1⟩,(by dsimp only;omega),?_⟩
  refine⟨?_,?_,rfl⟩<;>repeat' (first | exact True.intro | with_reducible rfl | exact rfl | refine And.intro ?_ ?_)
  exact congrArg (fun z=>some (gI z)) s2.symm
 ·have hlen:(((l.map enE).length:Nat):Int)=l.length:=by rw[List.length_map]
  rw[hlen] at h
  rw[List.take_of_length_le (by omega)] at hI
  have e:Lw k l=decide (((l.map enE).length:Int)≤150):=by
   unfold Lw
   rw[hI,hlen,Bool.true_and]
   exact decide_eq_decide.2 (by omega)
  rw[e]
  exact rfl
theorem Tu (l:List REnt)(hl:l.length≤1000000)(v:Int):FnV Tryz.prog 60 [.sl (l.map enE),gI v] fun g=>g=.v (.bool (B9 l v)):=by
 refine fnG Tryz.func60 (by kernel_rfl) rfl (Nat.le_of_ble_eq_true (by kernel_rfl)) (by kernel_rfl) ?_
 refine Bo [0,1,7,8] [] (fun i:Nat=>[(9,gI i)]) (fun _=>[]) (fun i=>i≤l.length∧B9 (l.take i) v=true) (fun i=>l.length - i) 0 ⟨Nat.zero_le _,rfl⟩ ⟨⟨rfl,rfl⟩,trivial⟩ trivial rfl fun i hi=>?_
 obtain⟨hi,hI⟩:=hi
 refine EvIf.dec (fun h=>?_) (fun h=>?_)
 ·refine EvIdx.of (by simpa using h) fun e he=>?_
  have hlt:=Dy he
  refine EvIf.dec (fun h1=>?_) fun h1=>?_
  ·have:B9 l v=false:=by
    cases hm:B9 l v with
    | false=>rfl
    | true=>exact absurd (Lq hm e (List.mem_of_getElem? he)) (by omega)
   rw[this]
   exact rfl
  ·have s1:B9 (l.take (i+1)) v=true:=by
    unfold B9 at hI⊢
    rw[List.take_add_one,he,List.all_append,hI]
    show(decide (e.v≤v)&&true)=true
    rw[decide_eq_true (by omega)];rfl
   refine⟨by omega,i+1,⟨by omega,s1⟩,(by dsimp only;omega),?_⟩
   refine⟨?_,?_,rfl⟩<;>repeat' (first | exact True.intro | with_reducible rfl | exact rfl | refine And.intro ?_ ?_)
 ·have hlen:(((l.map enE).length:Nat):Int)=l.length:=by rw[List.length_map]
  rw[hlen] at h
  rw[List.take_of_length_le (by omega)] at hI
  rw[hI]
  exact rfl
theorem Qa:∀(l:List REnt) (i:Nat) (v:Int),(∀e∈l,e.v≤big)→i+l.length≤150→Ai v i l=H8 i v l
 | [],_,_,_,_=>rfl
 | e::l,i,v,h,hl=>by
  have hl:i+(l.length+1)≤150:=hl
  have ih:=Qa l (i+1) e.v (fun x hx=>h x (by simp[hx])) (by omega)
  show(okB v i e&&Ai e.v (i+1) l)=_
  rw[ih,L1]
  have hv:=h e (by simp)
  unfold big at hv
  have:okB v i e=decide (e.n=(i:Int)+1∧e.n≤150∧v≤e.v∧e.b.size≤200):=by
   unfold okB
   exact decide_eq_decide.2 (by omega)
  rw[this]
  rfl
theorem We {l:List REnt}{v:Int}(h:B9 l v=true)(hv:v≤big):Bg l=Lw 0 l:=by
 unfold Bg Lw
 by_cases h2:l.length≤150
 ·rw[Qa l 0 1 (fun e he=>by have:=Lq h e he;omega) (by omega)];rfl
 ·rw[decide_eq_false h2];simp
def enM (m:RM):List G:=[gI m.kind,gI m.view,gI m.normal,gI m.num,.sl (m.l.map enE)]
theorem Of (m:RM)(hl:m.l.length≤1000000):FnV Tryz.prog 43 [.agg (enM m)] fun g=>g=.v (.bool (okM m)):=by
 refine fnG Tryz.func43 (by kernel_rfl) rfl (Nat.le_of_ble_eq_true (by kernel_rfl)) (by kernel_rfl) ?_
 have bad:¬(1≤m.view∧m.view≤big∧0≤m.normal∧m.normal < m.view∧0≤m.num∧m.num≤150)→G.v (.bool false)=.v (.bool (okM m)):=fun h=>by unfold okM;rw[decide_eq_false h];rfl
 have hbig:big=4611686018427387904:=rfl
 refine EvIf.dec (fun h1=>bad fun hh=>by omega) fun h1=>?_
 refine EvIf.dec (fun h2=>bad fun hh=>by omega) fun h2=>?_
 refine EvIf.dec (fun h3=>bad fun hh=>by omega) fun h3=>?_
 refine EvIf.dec (fun h4=>bad fun hh=>by omega) fun h4=>?_
 refine EvIf.dec (fun h5=>bad fun hh=>by omega) fun h5=>?_
 refine EvIf.dec (fun h6=>bad fun hh=>by omega) fun h6=>?_
 have hb:okM m=(if m.kind=1 then decide (m.normal=0∧m.num=0∧m.l.length=0)
  else if m.kind=2 then decide (m.num=0)&&Lw 0 m.l&&B9 m.l m.normal
  else if m.kind=3 then decide (m.normal=0∧m.num=0)&&Lw 0 m.l&&B9 m.l (m.view - 1)
  else if m.kind=4 then decide (m.normal=0)&&Lw m.num m.l&&B9 m.l m.view
  else if m.kind=5∨m.kind=6 then decide (m.normal=0∧m.l.length=0) else false):=by
   unfold okM
   rw[decide_eq_true (by omega),Bool.true_and]
 have hlen:(((m.l.map enE).length:Nat):Int)=m.l.length:=by rw[List.length_map]
 rw[hb]
 have rowR:∀v,v≤big→(Bg m.l&&B9 m.l v)=(Lw 0 m.l&&B9 m.l v):=fun v hv=>by
  cases hm:B9 m.l v with
  | true=>rw[We hm hv]
  | false=>simp
 refine EvIf.beq (fun(k1:m.kind=1)=>?_) fun(k1:m.kind≠1)=>?_
 ·rw[if_pos k1]
  refine EvIf.beq (fun(a:m.normal=0)=>?_) fun(a:m.normal≠0)=>?_
  ·refine EvIf.beq (fun(b:m.num=0)=>?_) fun(b:m.num≠0)=>?_
   ·have:((((m.l.map enE).length:Nat):Int)==0)=decide (m.normal=0∧m.num=0∧m.l.length=0):=by
     rw[hlen,Bool.eq_iff_iff,beq_iff_eq,decide_eq_true_iff];omega
    rw[←this]
    exact rfl
   ·rw[decide_eq_false (fun hh=>b hh.2.1)]
    exact rfl
  ·rw[decide_eq_false (fun hh=>a hh.1)]
   exact rfl
 rw[if_neg k1]
 refine EvIf.beq (fun(k2:m.kind=2)=>?_) fun(k2:m.kind≠2)=>?_
 ·rw[if_pos k2,Bool.and_assoc,←rowR _ (by omega)]
  refine EvIf.beq (fun(a:m.num=0)=>?_) fun(a:m.num≠0)=>?_
  ·rw[decide_eq_true a,Bool.true_and]
   refine(Rs m.l hl).cal fun q hq=>?_
   subst hq
   refine EvIf.mk (fun b=>?_) fun b=>?_
   ·refine(Tu m.l hl m.normal).cal fun q hq=>?_
    subst hq
    rw[b,Bool.true_and]
    exact rfl
   ·rw[b,Bool.false_and]
    exact rfl
  ·rw[decide_eq_false a,Bool.false_and]
   exact rfl
 rw[if_neg k2]
 refine EvIf.beq (fun(k3:m.kind=3)=>?_) fun(k3:m.kind≠3)=>?_
 ·rw[if_pos k3,Bool.and_assoc,←rowR _ (by omega)]
  refine EvIf.beq (fun(a:m.normal=0)=>?_) fun(a:m.normal≠0)=>?_
  ·refine EvIf.beq (fun(a2:m.num=0)=>?_) fun(a2:m.num≠0)=>?_
   ·rw[show decide (m.normal=0∧m.num=0)=true from decide_eq_true (And.intro a a2),Bool.true_and]
    refine(Rs m.l hl).cal fun q hq=>?_
    subst hq
    refine EvIf.mk (fun b=>?_) fun b=>?_
    ·refine⟨by omega,?_⟩
     refine(Tu m.l hl (m.view - 1)).cal fun q hq=>?_
     subst hq
     rw[b,Bool.true_and]
     exact rfl
    ·rw[b,Bool.false_and]
     exact rfl
   ·rw[decide_eq_false (fun hh=>a2 hh.2),Bool.false_and]
    exact rfl
  ·rw[decide_eq_false (fun hh=>a hh.1),Bool.false_and]
   exact rfl
 rw[if_neg k3]
 refine EvIf.beq (fun(k4:m.kind=4)=>?_) fun(k4:m.kind≠4)=>?_
 ·rw[if_pos k4,Bool.and_assoc]
  refine EvIf.beq (fun(a:m.normal=0)=>?_) fun(a:m.normal≠0)=>?_
  ·rw[decide_eq_true a,Bool.true_and]
   refine(Zec m.num (by omega) (by omega) m.l hl).cal fun q hq=>?_
   subst hq
   refine EvIf.mk (fun b=>?_) fun b=>?_
   ·refine(Tu m.l hl m.view).cal fun q hq=>?_
    subst hq
    rw[b,Bool.true_and]
    exact rfl
   ·rw[b,Bool.false_and]
    exact rfl
  ·rw[decide_eq_false a,Bool.false_and]
   exact rfl
 rw[if_neg k4]
 have fin:(m.kind=5∨m.kind=6)→m.normal=0→G.v (.bool ((((m.l.map enE).length:Nat):Int)==0))=.v (.bool (if m.kind=5∨m.kind=6 then decide (m.normal=0∧m.l.length=0) else false)):=fun hk a=>by
  rw[if_pos hk]
  have:((((m.l.map enE).length:Nat):Int)==0)=decide (m.normal=0∧m.l.length=0):=by
   rw[hlen,Bool.eq_iff_iff,beq_iff_eq,decide_eq_true_iff];omega
  rw[this]
 have fin0:(m.kind=5∨m.kind=6)→m.normal≠0→G.v (.bool false)=.v (.bool (if m.kind=5∨m.kind=6 then decide (m.normal=0∧m.l.length=0) else false)):=fun hk a=>by
  rw[if_pos hk,decide_eq_false (fun hh=>a hh.1)]
 refine EvIf.beq (fun(k5:m.kind=5)=>?_) fun(k5:m.kind≠5)=>?_
 ·refine EvIf.beq (fun(_:m.kind=5)=>?_) fun(h:m.kind≠5)=>absurd k5 h
  refine EvIf.beq (fun(a:m.normal=0)=>?_) fun(a:m.normal≠0)=>?_
  ·have f:=fin (.inl k5) a
   generalize (if m.kind=5∨m.kind=6 then decide (m.normal=0∧m.l.length=0) else false)=z at f⊢
   cases G.v.inj f
   exact rfl
  ·have f:=fin0 (.inl k5) a
   generalize (if m.kind=5∨m.kind=6 then decide (m.normal=0∧m.l.length=0) else false)=z at f⊢
   cases G.v.inj f
   exact rfl
 ·refine EvIf.beq (fun(k6:m.kind=6)=>?_) fun(k6:m.kind≠6)=>?_
  ·refine EvIf.beq (fun(a:m.normal=0)=>?_) fun(a:m.normal≠0)=>?_
   ·have f:=fin (.inr k6) a
    generalize (if m.kind=5∨m.kind=6 then decide (m.normal=0∧m.l.length=0) else false)=z at f⊢
    cases G.v.inj f
    exact rfl
   ·have f:=fin0 (.inr k6) a
    generalize (if m.kind=5∨m.kind=6 then decide (m.normal=0∧m.l.length=0) else false)=z at f⊢
    cases G.v.inj f
    exact rfl
  ·rw[if_neg (by omega)]
   exact rfl
end Go.Proofs.YtihfaocdpmmooaaGreat
namespace Go.Proofs.YtihfaocdpmmooaaGreat
open Go.RowKit
set_option maxRecDepth 100000
theorem Rw (n:Int):FnV Tryz.prog 44 [gI n] fun g=>g=.agg (I6 ⟨1,n,eS⟩):=by
 refine fnG Tryz.func44 (by kernel_rfl) rfl (Nat.le_of_ble_eq_true (by kernel_rfl)) (by kernel_rfl) ?_
 exact rfl
theorem Hu (n:Int):FnV Tryz.prog 45 [gI n] fun g=>g=.agg (I6 ⟨2,n,eS⟩):=by
 refine fnG Tryz.func45 (by kernel_rfl) rfl (Nat.le_of_ble_eq_true (by kernel_rfl)) (by kernel_rfl) ?_
 exact rfl
def wrM (m:RM):G:=.tup [.v (.string ⟨(bM m).toArray⟩),gI (eM m)]
theorem Z8k {m:RM}(h:okM m=false):G.tup [.v (.string ⟨#[]⟩),gI 130]=wrM m:=by
 unfold wrM bM eM
 rw[h]
 rfl
theorem Z2y {m:RM}{i:Nat}{c:REnt}(hc:m.l[i]?=some c):(mhF m++Kd (m.l.take i)).map I6++(enF c).map I6=(mhF m++Kd (m.l.take (i+1))).map I6:=by
 rw[D0 hc,Y4,←List.append_assoc,List.map_append (l₁:=mhF m++Kd (m.l.take i))]
theorem Z2j (m:RM)(hl:m.l.length≤1000000):FnV Tryz.prog 11 [.agg (enM m)] fun g=>g=wrM m:=by
 refine fnG Tryz.func11 (by kernel_rfl) rfl (Nat.le_of_ble_eq_true (by kernel_rfl)) (by kernel_rfl) ?_
 refine(Of m hl).cal fun q hq=>?_
 subst hq
 refine EvIf.mk (fun hk=>?_) fun hk=>?_
 ·exact Z8k (by simpa using hk)
 have hk:okM m=true:=by simpa using hk
 have hl2:=(Ay hk).2.2.1
 have e6:(m.l.map enE).length=m.l.length:=List.length_map ..
 refine(Rw _).con rfl ?_
 refine(Hu _).con rfl ?_
 refine(Hu _).con rfl ?_
 refine(Hu _).con rfl ?_
 refine(Rw _).con rfl ?_
 refine Bo [30,31] [0] (fun i:Nat=>[(32,gI i),(4,.osl 1)]) (fun i=>[(1,.slc ((mhF m++Kd (m.l.take i)).map I6) tFd 3)]) (fun i=>i≤m.l.length) (fun i=>m.l.length - i) 0 (Nat.zero_le _) ⟨⟨rfl,rfl⟩,⟨rfl,rfl⟩,trivial⟩ ⟨⟨rfl,rfl,eqR (by unfold mhF;rw[←e6];rfl)⟩,trivial⟩ rfl fun i hi=>?_
 refine EvIf.dec (fun hlt=>?_) (fun hlt=>?_)
 ·refine EvIdx.of (by simpa using hlt) fun c hc=>?_
  have hlt:=Dy hc
  refine(Hu _).cal fun q hq=>?_
  subst hq
  refine(Hu _).cal fun q hq=>?_
  subst hq
  refine⟨by simp[Vt,mhF];omega,?_⟩
  refine⟨by omega,i+1,by omega,(by dsimp only;omega),?_⟩
  refine⟨?_,?_,rfl⟩<;>repeat' (first | exact True.intro | with_reducible rfl | exact rfl | refine And.intro ?_ ?_)
  exact eqR (Z2y hc)
 ·have ht:m.l.take i=m.l:=List.take_of_length_le (by simp at hlt;omega)
  rw[ht]
  have hE:=Su hk
  refine(Vs (mF m) (by unfold mF mhF;simp[Vt];omega)).cal fun q rs hq=>?_
  obtain⟨rfl,rfl⟩:=hq
  refine EvIf.bne (fun(he:Hh (mF m)≠0)=>absurd hE he) fun _=>?_
  have eR:Xv (mF m)=bM m:=by unfold Xv bM;rw[if_pos hE,if_pos hk]
  rw[eR]
  refine⟨_,rfl,?_⟩
  have e0:eM m=0:=by unfold eM;rw[if_pos hk]
  unfold wrM
  rw[e0]
  exact rfl
theorem Z9j {b:Bs}{a c d e g:RFd}(h:(Ag kMh b).e=0)(hl:(Ag kMh b).l=[a,c,d,e,g]):Pb b=g.n∧0≤g.n∧g.n≤255:=by
 refine⟨by unfold Pb;rw[hl],?_⟩
 obtain⟨e1,e2,e3⟩:=Ox kMh b h
 rw[hl] at e1 e3
 simp only[List.map_cons,List.map_nil,kMh,List.cons.injEq,and_true] at e3
 have zg:=Cw e1 g (by simp)
 rcases Jn zg with⟨hh,-⟩ | ⟨hh,-,h0⟩
 ·omega
 ·omega
structure Zaj (b:Bs)(i:Nat)(c:Bs)(n:Nat):Prop where
 ee:(Ag (Fi i) (b.drop (Ag kMh b).n)).e=0
 nle:n≤c.length
 len:c.length≤b.length
 dd:c.drop n=(b.drop (Ag kMh b).n).drop (Ag (Fi i) (b.drop (Ag kMh b).n)).n
def Sd (b:Bs)(i:Nat):List REnt:=toE (Ag (Fi i) (b.drop (Ag kMh b).n)).l
theorem Pz {b c:Bs}{i n:Nat}(h:Zaj b i c n)(h0:(Ag kEn (c.drop n)).e=0):Zaj b (i+1) (c.drop n) (Ag kEn (c.drop n)).n∧∃x1 x2 x3,(Ag kEn (c.drop n)).l=[x1,x2,x3]∧Sd b (i+1)=Sd b i++[⟨x1.n,x2.n,x3.s⟩]:=by
 have ha:=O3 (Fi i) kEn (b.drop (Ag kMh b).n) h.ee
 rw[←h.dd,if_neg (fun hh=>hh h0)] at ha
 have hk:Fi (i+1)=Fi i++kEn:=rfl
 have h6:=(Cx kEn (c.drop n)).2 h0
 have hle:=(Cx kEn (c.drop n)).1
 refine⟨⟨by rw[hk,ha],hle,by rw[List.length_drop];have:=h.len;omega,?_⟩,?_⟩
 ·rw[hk,ha,←List.drop_drop,←h.dd]
 ·match hl:(Ag kEn (c.drop n)).l,h6 with
  | [x1,x2,x3],_ =>
   refine⟨x1,x2,x3,rfl,?_⟩
   unfold Sd
   rw[hk,ha,hl]
   have:=(Cx (Fi i) (b.drop (Ag kMh b).n)).2 h.ee
   rw[Io] at this
   rw[Yu i _ _ this]
   rfl
theorem Vd {b c:Bs}{i k n:Nat}(h:Zaj b i c n)(h0:(Ag kEn (c.drop n)).e≠0)(hi:i < k)(hk:Pb b=k):¬Kp b:=fun ho=>by
 obtain⟨d1,-,-⟩:=No ho.2.1
 rw[hk,Int.toNat_natCast,show k=i+1+(k - (i+1)) by omega,Uw] at d1
 have ha:=O3 (Fi i) kEn (b.drop (Ag kMh b).n) h.ee
 rw[←h.dd,if_pos h0] at ha
 have hb:(Ag (Fi (i+1)) (b.drop (Ag kMh b).n)).e≠0:=by
  show(Ag (Fi i++kEn) _).e≠0
  rw[ha];exact h0
 rw[Jz _ _ _ hb] at d1
 exact hb d1
theorem Te {b c:Bs}{k n:Nat}(h:Zaj b k c n)(hk:Pb b=k):((L8 (Fi (Pb b).toNat) (b.drop (Ag kMh b).n)).e=0↔n=c.length)∧(n=c.length→(L8 (Fi (Pb b).toNat) (b.drop (Ag kMh b).n)).l=(Ag (Fi k) (b.drop (Ag kMh b).n)).l):=by
 have hd:(c.drop n).length=((b.drop (Ag kMh b).n).drop (Ag (Fi k) (b.drop (Ag kMh b).n)).n).length:=by rw[h.dd]
 rw[List.length_drop,List.length_drop] at hd
 have hle:=(Cx (Fi k) (b.drop (Ag kMh b).n)).1
 have hn:=h.nle
 rw[hk,Int.toNat_natCast]
 refine⟨⟨fun ho=>?_,fun hh=>?_⟩,fun hh=>?_⟩
 ·obtain⟨-,d2,-⟩:=No ho
  omega
 ·unfold L8
  rw[if_neg (fun hh=>hh h.ee),if_neg (fun hh=>hh (by omega))]
  exact h.ee
 ·unfold L8
  rw[if_neg (fun hh=>hh h.ee),if_neg (fun hh=>hh (by omega))]
def rdM (b:Bs):G:=.tup [.agg (enM (mD b)),gI (eMd b)]
theorem Hp {b:Bs}(h:¬Kp b):G.tup [.agg (enM rm0),gI 130]=rdM b:=by unfold rdM mD eMd;rw[if_neg h,if_neg h]
theorem Z6s {b:Bs}{m:RM}(h:Kp b)(hm:mOf b=m):G.tup [.agg (enM m),gI 0]=rdM b:=by
 unfold rdM mD eMd
 rw[if_pos h,if_pos h,hm]
inductive Zdq where
 | a
 | b (i:Nat) (c:Bs) (n:Nat)
abbrev tMs:Nat:=29
abbrev tEn:Nat:=71
def Zgo (b0:Bs):Zdq→Ts
 | .a=>[(45,gI ((0:Nat):Int)),(4,.sl (b0.map gBy)),(6,gI ((Ag kMh b0).n:Nat))]
 | .b i c n=>[(45,gI (i:Nat)),(4,.sl (c.map gBy)),(6,gI (n:Nat)),(76,.osl 1)]
def Zgn (b0:Bs)(h:List G)(kb ks:Nat):Zdq→Os
 | .a=>[(kb,.blk (h++[.nl]) tMs)]
 | .b i _ _=>[(kb,.blk (h++[.osl ks]) tMs),(ks,.slc ((Sd b0 i).map enE) tEn 3)]
def Zh5 (b0:Bs)(k:Nat):Zdq→Prop
 | .a=>True
 | .b i c n=>i≤k∧Zaj b0 i c n
def Zf3 (k:Nat):Zdq→Nat
 | .a=>k
 | .b i _ _=>k - i
set_option maxHeartbeats 1000000 in
theorem Zw (b:Bs)(hb:b.length≤2000000):FnV Tryz.prog 13 [.v (.string ⟨b.toArray⟩)] fun g=>g=rdM b:=by
 refine fnG Tryz.func13 (by kernel_rfl) rfl (Nat.le_of_ble_eq_true (by kernel_rfl)) (by kernel_rfl) ?_
 refine(Uh kMh b (by decide) (by omega)).cal fun q hq=>?_
 subst hq
 unfold smG
 refine EvIf.bne (fun he=>?_) (fun he=>?_)
 ·exact Hp fun ho=>he ho.1
 have he:(Ag kMh b).e=0:=he
 obtain⟨a,p,d,e,g,hl⟩:=Zb3 he
 obtain⟨hC,hg0,hg1⟩:=Z9j he hl
 have hnl:=(Cx kMh b).1
 rw[hl]
 refine EvIdx.atI (f:=I6) (l:=[a,p,d,e,g]) (by decide) rfl ?_
 refine EvIdx.atI (f:=I6) (l:=[a,p,d,e,g]) (by decide) rfl ?_
 refine EvIdx.atI (f:=I6) (l:=[a,p,d,e,g]) (by decide) rfl ?_
 refine EvIdx.atI (f:=I6) (l:=[a,p,d,e,g]) (by decide) rfl ?_
 refine EvIdx.atI (f:=I6) (l:=[a,p,d,e,g]) (by decide) rfl ?_
 have hgp:Pb b=(g.n.toNat:Nat):=by rw[hC];omega
 refine Bo [2,8,44] [0] (Zgo b) (Zgn b [gI a.n,gI p.n,gI d.n,gI e.n] 2 1) (Zh5 b g.n.toNat) (Zf3 g.n.toNat) .a trivial ⟨⟨rfl,rfl⟩,⟨rfl,rfl⟩,⟨rfl,rfl⟩,trivial⟩ ⟨RL1,trivial⟩ rfl fun x hI=>?_
 cases x with
 | a =>
  have hD:Zaj b 0 b (Ag kMh b).n:=⟨rfl,hnl,Nat.le_refl _,by rw[List.drop_drop];rfl⟩
  refine EvIf.dec (fun(hi:((0:Nat):Int) < g.n)=>?_) (fun(hi:¬((0:Nat):Int) < g.n)=>?_)
  ·skip
   have hlt:0 < g.n.toNat:=by omega
   refine⟨⟨by omega,by rw[List.length_map];omega,by omega⟩,⟨Rn b,?_⟩⟩
   rw[O7]
   refine(Uh kEn (b.drop (Ag kMh b).n) (by decide) (by rw[List.length_drop];omega)).cal fun q hq=>?_
   subst hq
   unfold smG
   refine EvIf.bne (fun h0=>?_) (fun h0=>?_)
   ·exact Hp (Vd hD h0 hlt (by omega))
   have h0:(Ag kEn (b.drop (Ag kMh b).n)).e=0:=h0
   obtain⟨hD2,x1,x2,x3,hx,hst⟩:=Pz hD h0
   have hdl:(Sd b 0).length≤1000:=by
    have:=(Cx (Fi 0) (b.drop (Ag kMh b).n)).2 hD.ee
    rw[Io] at this
    unfold Sd
    rw[Lx 0 _ this];omega
   rw[hx]
   refine EvIdx.atI (f:=I6) (l:=[x1,x2,x3]) (by decide) rfl ?_
   refine EvIdx.atI (f:=I6) (l:=[x1,x2,x3]) (by decide) rfl ?_
   refine EvIdx.atI (f:=I6) (l:=[x1,x2,x3]) (by decide) rfl ?_
   refine⟨by simp;try omega,?_⟩
   refine⟨by omega,.b (0+1) (b.drop (Ag kMh b).n) (Ag kEn (b.drop (Ag kMh b).n)).n,⟨by omega,hD2⟩,(by dsimp only[Zf3];omega),?_⟩
   refine⟨?_,?_,rfl⟩<;>repeat' (first | exact True.intro | with_reducible rfl | exact rfl | refine And.intro ?_ ?_)
   exact eqR (by rw[hst];rfl)
  ·skip
   have hi2:0=g.n.toNat:=by omega
   have hkk:Pb b=(0:Nat):=by omega
   obtain⟨hend,hrow⟩:=Te hD hkk
   refine EvIf.bne (fun hh=>?_) (fun hh=>?_)
   ·have hh:((((Ag kMh b).n:Nat):Int))≠((((b).map gBy).length:Nat):Int):=hh
    rw[List.length_map] at hh
    exact Hp fun ho=>by have:=hend.1 ho.2.1;omega
   ·have hh:((((Ag kMh b).n:Nat):Int))=((((b).map gBy).length:Nat):Int):=by simpa using hh
    rw[List.length_map] at hh
    have hn2:(Ag kMh b).n=b.length:=by omega
    have hm:mOf b=⟨a.n,p.n,d.n,e.n,[]⟩:=by unfold mOf;rw[hl,hrow hn2];rfl
    have hln:(Sd b 0).length≤1000000:=by
     have:=(Cx (Fi 0) (b.drop (Ag kMh b).n)).2 hD.ee
     rw[Io] at this
     unfold Sd
     rw[Lx 0 _ this];omega
    refine(Of ⟨a.n,p.n,d.n,e.n,[]⟩ (Nat.zero_le _)).cal fun q hq=>?_
    subst hq
    skip
    refine EvIf.mk (fun hk=>?_) fun hk=>?_
    ·exact Hp fun ho=>by have:=ho.2.2;rw[hm] at this;rw[this] at hk;cases hk
    ·have hk:okM ⟨a.n,p.n,d.n,e.n,[]⟩=true:=by simpa using hk
     have ho:Kp b:=⟨he,hend.2 hn2,by rw[hm];exact hk⟩
     exact Z6s ho hm
 | b i c n =>
  obtain⟨hik,hD⟩:=hI
  have hn:=hD.nle
  have hcl:=hD.len
  refine EvIf.dec (fun(hi:((i:Nat):Int) < g.n)=>?_) (fun(hi:¬((i:Nat):Int) < g.n)=>?_)
  ·skip
   have hlt:i < g.n.toNat:=by omega
   refine⟨⟨by omega,by rw[List.length_map];omega,by omega⟩,⟨Rn c,?_⟩⟩
   rw[O7]
   refine(Uh kEn (c.drop n) (by decide) (by rw[List.length_drop];omega)).cal fun q hq=>?_
   subst hq
   unfold smG
   refine EvIf.bne (fun h0=>?_) (fun h0=>?_)
   ·exact Hp (Vd hD h0 hlt (by omega))
   have h0:(Ag kEn (c.drop n)).e=0:=h0
   obtain⟨hD2,x1,x2,x3,hx,hst⟩:=Pz hD h0
   have hdl:(Sd b i).length≤1000:=by
    have:=(Cx (Fi i) (b.drop (Ag kMh b).n)).2 hD.ee
    rw[Io] at this
    unfold Sd
    rw[Lx i _ this];omega
   rw[hx]
   refine EvIdx.atI (f:=I6) (l:=[x1,x2,x3]) (by decide) rfl ?_
   refine EvIdx.atI (f:=I6) (l:=[x1,x2,x3]) (by decide) rfl ?_
   refine EvIdx.atI (f:=I6) (l:=[x1,x2,x3]) (by decide) rfl ?_
   refine⟨by simp;try omega,?_⟩
   refine⟨by omega,.b (i+1) (c.drop n) (Ag kEn (c.drop n)).n,⟨by omega,hD2⟩,(by dsimp only[Zf3];omega),?_⟩
   refine⟨?_,?_,rfl⟩<;>repeat' (first | exact True.intro | with_reducible rfl | exact rfl | refine And.intro ?_ ?_)
   exact eqR (by rw[hst,List.map_append];rfl)
  ·skip
   have hi2:i=g.n.toNat:=by omega
   have hkk:Pb b=(i:Nat):=by omega
   obtain⟨hend,hrow⟩:=Te hD hkk
   refine EvIf.bne (fun hh=>?_) (fun hh=>?_)
   ·have hh:(((n:Nat):Int))≠((((c).map gBy).length:Nat):Int):=hh
    rw[List.length_map] at hh
    exact Hp fun ho=>by have:=hend.1 ho.2.1;omega
   ·have hh:(((n:Nat):Int))=((((c).map gBy).length:Nat):Int):=by simpa using hh
    rw[List.length_map] at hh
    have hn2:n=c.length:=by omega
    have hm:mOf b=⟨a.n,p.n,d.n,e.n,Sd b i⟩:=by unfold mOf;rw[hl,hrow hn2];rfl
    have hln:(Sd b i).length≤1000000:=by
     have:=(Cx (Fi i) (b.drop (Ag kMh b).n)).2 hD.ee
     rw[Io] at this
     unfold Sd
     rw[Lx i _ this];omega
    refine EvCall.gh (.frz 1 _ _ _ rfl (.seen 2 _ _ rfl (.done (.see (.same ((Of ⟨a.n,p.n,d.n,e.n,Sd b i⟩ hln).cal fun q hq=>?_))))))
    subst hq
    refine .done ?_
    refine EvIf.mk (fun hk=>?_) fun hk=>?_
    ·exact Hp fun ho=>by have:=ho.2.2;rw[hm] at this;rw[this] at hk;cases hk
    ·have hk:okM ⟨a.n,p.n,d.n,e.n,Sd b i⟩=true:=by simpa using hk
     have ho:Kp b:=⟨he,hend.2 hn2,by rw[hm];exact hk⟩
     exact Z6s ho hm
theorem R3 (s:ByteArray)(hs:s.size≤2000000):FnV Tryz.prog 13 [.v (.string s)] fun g=>g=rdM s.data.toList :=
 Zw s.data.toList (by rw[Array.length_toList];exact hs)
end Go.Proofs.YtihfaocdpmmooaaGreat

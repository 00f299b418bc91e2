
import Derived.Test.YtihfaocdpmmooaaGreatPl1
import Derived.Test.YtihfaocdpmmooaaGreatFn1
import Derived.Test.YtihfaocdpmmooaaGreatPKN
import Derived.Test.YtihfaocdpmmooaaGreatSxMe
namespace Go.Proofs.YtihfaocdpmmooaaGreat
open Go.RowKit
set_option maxRecDepth 100000
theorem Zdd (k:Int)(hk0:-1000≤k)(hk1:k≤1000000)(l:List REnt)(hl:l.length≤1000000):FnV Tryz.prog 84 [.sl (l.map enE),gI k] fun g=>g=.v (.bool (Fu k l)):=by
 refine fnG Tryz.func84 (by kernel_rfl) rfl (Nat.le_of_ble_eq_true (by kernel_rfl)) (by kernel_rfl) ?_
 have bad:F7 k 1 l=false→G.v (.bool false)=.v (.bool (Fu k l)):=fun h=>by unfold Fu;rw[h];rfl
 refine Ay [0,1,8,9] [] (fun i:Nat=>[(10,gI i),(5,gI (vw 1 (l.take i)))]) (fun _=>[]) (fun i=>i≤l.length∧F7 k 1 (l.take i)=true) (fun i=>l.length - i) 0 ⟨Nat.zero_le _,rfl⟩ ⟨⟨rfl,rfl⟩,⟨rfl,rfl⟩,trivial⟩ trivial rfl fun i hi=>?_
 obtain⟨hi,hI⟩:=hi
 refine EvIf.dec (fun h=>?_) (fun h=>?_)
 ·refine EvIdx.of (by simpa using h) fun e he=>?_
  have hlt:=Ch he
  refine⟨by omega,by omega,?_⟩
  refine EvIf.bne (fun h1=>bad (Di he fun hh=>h1 (by omega))) fun h1=>?_
  refine EvIf.dec (fun h2=>bad (Di he fun hh=>by omega)) fun h2=>?_
  refine EvIf.dec (fun h3=>bad (Di he fun hh=>by omega)) fun h3=>?_
  refine EvIf.dec (fun h4=>bad (Di he fun hh=>by omega)) fun h4=>?_
  obtain⟨s1,s2⟩:=L1 he hI ⟨by omega,by omega,by omega,by omega⟩
  refine⟨by omega,i+1,⟨by omega,s1⟩,(by dsimp only;omega),?_⟩
  refine⟨?_,?_,rfl⟩<;>repeat' (first | exact True.intro | with_reducible rfl | exact rfl | refine And.intro ?_ ?_)
  exact congrArg (fun z=>some (gI z)) s2.symm
 ·have hlen:(((l.map enE).length:Nat):Int)=l.length:=by rw[List.length_map]
  rw[hlen] at h
  rw[List.take_of_length_le (by omega)] at hI
  have e:Fu k l=decide (((l.map enE).length:Int)≤150):=by
   unfold Fu
   rw[hI,hlen,Bool.true_and]
   exact decide_eq_decide.2 (by omega)
  rw[e]
  exact rfl
theorem Uk (l:List REnt)(hl:l.length≤1000000)(v:Int):FnV Tryz.prog 60 [.sl (l.map enE),gI v] fun g=>g=.v (.bool (Aq l v)):=by
 refine fnG Tryz.func60 (by kernel_rfl) rfl (Nat.le_of_ble_eq_true (by kernel_rfl)) (by kernel_rfl) ?_
 refine Ay [0,1,7,8] [] (fun i:Nat=>[(9,gI i)]) (fun _=>[]) (fun i=>i≤l.length∧Aq (l.take i) v=true) (fun i=>l.length - i) 0 ⟨Nat.zero_le _,rfl⟩ ⟨⟨rfl,rfl⟩,trivial⟩ trivial rfl fun i hi=>?_
 obtain⟨hi,hI⟩:=hi
 refine EvIf.dec (fun h=>?_) (fun h=>?_)
 ·refine EvIdx.of (by simpa using h) fun e he=>?_
  have hlt:=Ch he
  refine EvIf.dec (fun h1=>?_) fun h1=>?_
  ·have:Aq l v=false:=by
    cases hm:Aq l v with
    | false=>rfl
    | true=>exact absurd (Hl hm e (List.mem_of_getElem? he)) (by omega)
   rw[this]
   exact rfl
  ·have s1:Aq (l.take (i+1)) v=true:=by
    unfold Aq at hI⊢
    rw[List.take_add_one,he,List.all_append,hI]
    show(decide (e.v≤v)&&true)=true
    rw[decide_eq_true (by omega)];rfl
   refine⟨by omega,i+1,⟨by omega,s1⟩,(by dsimp only;omega),?_⟩
   refine⟨?_,?_,rfl⟩<;>repeat' (first | exact True.intro | with_reducible rfl | exact rfl | refine And.intro ?_ ?_)
 ·have hlen:(((l.map enE).length:Nat):Int)=l.length:=by rw[List.length_map]
  rw[hlen] at h
  rw[List.take_of_length_le (by omega)] at hI
  rw[hI]
  exact rfl
theorem On:∀(l:List REnt) (i:Nat) (v:Int),(∀e∈l,e.v≤big)→i+l.length≤150→Ah v i l=F7 i v l
 | [],_,_,_,_=>rfl
 | e::l,i,v,h,hl=>by
  have hl:i+(l.length+1)≤150:=hl
  have ih:=On l (i+1) e.v (fun x hx=>h x (by simp[hx])) (by omega)
  show(okB v i e&&Ah e.v (i+1) l)=_
  rw[ih,He]
  have hv:=h e (by simp)
  unfold big at hv
  have:okB v i e=decide (e.n=(i:Int)+1∧e.n≤150∧v≤e.v∧e.b.size≤200):=by
   unfold okB
   exact decide_eq_decide.2 (by omega)
  rw[this]
  rfl
theorem Vx {l:List REnt}{v:Int}(h:Aq l v=true)(hv:v≤big):Bl l=Fu 0 l:=by
 unfold Bl Fu
 by_cases h2:l.length≤150
 ·rw[On l 0 1 (fun e he=>by have:=Hl h e he;omega) (by omega)];rfl
 ·rw[decide_eq_false h2];simp
def enM (m:RM):List G:=[gI m.kind,gI m.view,gI m.normal,gI m.num,.sl (m.l.map enE)]
theorem Nw (m:RM)(hl:m.l.length≤1000000):FnV Tryz.prog 43 [.agg (enM m)] fun g=>g=.v (.bool (okM m)):=by
 refine fnG Tryz.func43 (by kernel_rfl) rfl (Nat.le_of_ble_eq_true (by kernel_rfl)) (by kernel_rfl) ?_
 have bad:¬(1≤m.view∧m.view≤big∧0≤m.normal∧m.normal < m.view∧0≤m.num∧m.num≤150)→G.v (.bool false)=.v (.bool (okM m)):=fun h=>by unfold okM;rw[decide_eq_false h];rfl
 have hbig:big=4611686018427387904:=rfl
 refine EvIf.dec (fun h1=>bad fun hh=>by omega) fun h1=>?_
 refine EvIf.dec (fun h2=>bad fun hh=>by omega) fun h2=>?_
 refine EvIf.dec (fun h3=>bad fun hh=>by omega) fun h3=>?_
 refine EvIf.dec (fun h4=>bad fun hh=>by omega) fun h4=>?_
 refine EvIf.dec (fun h5=>bad fun hh=>by omega) fun h5=>?_
 refine EvIf.dec (fun h6=>bad fun hh=>by omega) fun h6=>?_
 have hb:okM m=(if m.kind=1 then decide (m.normal=0∧m.num=0∧m.l.length=0)
  else if m.kind=2 then decide (m.num=0)&&Fu 0 m.l&&Aq m.l m.normal
  else if m.kind=3 then decide (m.normal=0∧m.num=0)&&Fu 0 m.l&&Aq m.l (m.view - 1)
  else if m.kind=4 then decide (m.normal=0)&&Fu m.num m.l&&Aq m.l m.view
  else if m.kind=5∨m.kind=6 then decide (m.normal=0∧m.l.length=0) else false):=by
   unfold okM
   rw[decide_eq_true (by omega),Bool.true_and]
 have hlen:(((m.l.map enE).length:Nat):Int)=m.l.length:=by rw[List.length_map]
 rw[hb]
 have rowR:∀v,v≤big→(Bl m.l&&Aq m.l v)=(Fu 0 m.l&&Aq m.l v):=fun v hv=>by
  cases hm:Aq m.l v with
  | true=>rw[Vx hm hv]
  | false=>simp
 refine EvIf.beq (fun(k1:m.kind=1)=>?_) fun(k1:m.kind≠1)=>?_
 ·rw[if_pos k1]
  refine EvIf.beq (fun(a:m.normal=0)=>?_) fun(a:m.normal≠0)=>?_
  ·refine EvIf.beq (fun(b:m.num=0)=>?_) fun(b:m.num≠0)=>?_
   ·have:((((m.l.map enE).length:Nat):Int)==0)=decide (m.normal=0∧m.num=0∧m.l.length=0):=by
     rw[hlen,Bool.eq_iff_iff,beq_iff_eq,decide_eq_true_iff];omega
    rw[←this]
    exact rfl
   ·rw[decide_eq_false (fun hh=>b hh.2.1)]
    exact rfl
  ·rw[decide_eq_false (fun hh=>a hh.1)]
   exact rfl
 rw[if_neg k1]
 refine EvIf.beq (fun(k2:m.kind=2)=>?_) fun(k2:m.kind≠2)=>?_
 ·rw[if_pos k2,Bool.and_assoc,←rowR _ (by omega)]
  refine EvIf.beq (fun(a:m.num=0)=>?_) fun(a:m.num≠0)=>?_
  ·rw[decide_eq_true a,Bool.true_and]
   refine(Ql m.l hl).cal fun q hq=>?_
   subst hq
   refine EvIf.mk (fun b=>?_) fun b=>?_
   ·refine(Uk m.l hl m.normal).cal fun q hq=>?_
    subst hq
    rw[b,Bool.true_and]
    exact rfl
   ·rw[b,Bool.false_and]
    exact rfl
  ·rw[decide_eq_false a,Bool.false_and]
   exact rfl
 rw[if_neg k2]
 refine EvIf.beq (fun(k3:m.kind=3)=>?_) fun(k3:m.kind≠3)=>?_
 ·rw[if_pos k3,Bool.and_assoc,←rowR _ (by omega)]
  refine EvIf.beq (fun(a:m.normal=0)=>?_) fun(a:m.normal≠0)=>?_
  ·refine EvIf.beq (fun(a2:m.num=0)=>?_) fun(a2:m.num≠0)=>?_
   ·rw[show decide (m.normal=0∧m.num=0)=true from decide_eq_true (And.intro a a2),Bool.true_and]
    refine(Ql m.l hl).cal fun q hq=>?_
    subst hq
    refine EvIf.mk (fun b=>?_) fun b=>?_
    ·refine⟨by omega,?_⟩
     refine(Uk m.l hl (m.view - 1)).cal fun q hq=>?_
     subst hq
     rw[b,Bool.true_and]
     exact rfl
    ·rw[b,Bool.false_and]
     exact rfl
   ·rw[decide_eq_false (fun hh=>a2 hh.2),Bool.false_and]
    exact rfl
  ·rw[decide_eq_false (fun hh=>a hh.1),Bool.false_and]
   exact rfl
 rw[if_neg k3]
 refine EvIf.beq (fun(k4:m.kind=4)=>?_) fun(k4:m.kind≠4)=>?_
 ·rw[if_pos k4,Bool.and_assoc]
  refine EvIf.beq (fun(a:m.normal=0)=>?_) fun(a:m.normal≠0)=>?_
  ·rw[decide_eq_true a,Bool.true_and]
   refine(Zdd m.num (by omega) (by omega) m.l hl).cal fun q hq=>?_
   subst hq
   refine EvIf.mk (fun b=>?_) fun b=>?_
   ·refine(Uk m.l hl m.view).cal fun q hq=>?_
    subst hq
    rw[b,Bool.true_and]
    exact rfl
   ·rw[b,Bool.false_and]
    exact rfl
  ·rw[decide_eq_false a,Bool.false_and]
   exact rfl
 rw[if_neg k4]
 have fin:(m.kind=5∨m.kind=6)→m.normal=0→G.v (.bool ((((m.l.map enE).length:Nat):Int)==0))=.v (.bool (if m.kind=5∨m.kind=6 then decide (m.normal=0∧m.l.length=0) else false)):=fun hk a=>by
  rw[if_pos hk]
  have:((((m.l.map enE).length:Nat):Int)==0)=decide (m.normal=0∧m.l.length=0):=by
   rw[hlen,Bool.eq_iff_iff,beq_iff_eq,decide_eq_true_iff];omega
  rw[this]
 have fin0:(m.kind=5∨m.kind=6)→m.normal≠0→G.v (.bool false)=.v (.bool (if m.kind=5∨m.kind=6 then decide (m.normal=0∧m.l.length=0) else false)):=fun hk a=>by
  rw[if_pos hk,decide_eq_false (fun hh=>a hh.1)]
 refine EvIf.beq (fun(k5:m.kind=5)=>?_) fun(k5:m.kind≠5)=>?_
 ·refine EvIf.beq (fun(_:m.kind=5)=>?_) fun(h:m.kind≠5)=>absurd k5 h
  refine EvIf.beq (fun(a:m.normal=0)=>?_) fun(a:m.normal≠0)=>?_
  ·have f:=fin (.inl k5) a
   generalize (if m.kind=5∨m.kind=6 then decide (m.normal=0∧m.l.length=0) else false)=z at f⊢
   cases G.v.inj f
   exact rfl
  ·have f:=fin0 (.inl k5) a
   generalize (if m.kind=5∨m.kind=6 then decide (m.normal=0∧m.l.length=0) else false)=z at f⊢
   cases G.v.inj f
   exact rfl
 ·refine EvIf.beq (fun(k6:m.kind=6)=>?_) fun(k6:m.kind≠6)=>?_
  ·refine EvIf.beq (fun(a:m.normal=0)=>?_) fun(a:m.normal≠0)=>?_
   ·have f:=fin (.inr k6) a
    generalize (if m.kind=5∨m.kind=6 then decide (m.normal=0∧m.l.length=0) else false)=z at f⊢
    cases G.v.inj f
    exact rfl
   ·have f:=fin0 (.inr k6) a
    generalize (if m.kind=5∨m.kind=6 then decide (m.normal=0∧m.l.length=0) else false)=z at f⊢
    cases G.v.inj f
    exact rfl
  ·rw[if_neg (by omega)]
   exact rfl
end Go.Proofs.YtihfaocdpmmooaaGreat
namespace Go.Proofs.YtihfaocdpmmooaaGreat
open Go.RowKit
set_option maxRecDepth 100000
theorem Ri (n:Int):FnV Tryz.prog 44 [gI n] fun g=>g=.agg (Do ⟨1,n,eS⟩):=by
 refine fnG Tryz.func44 (by kernel_rfl) rfl (Nat.le_of_ble_eq_true (by kernel_rfl)) (by kernel_rfl) ?_
 exact rfl
theorem Gx (n:Int):FnV Tryz.prog 45 [gI n] fun g=>g=.agg (Do ⟨2,n,eS⟩):=by
 refine fnG Tryz.func45 (by kernel_rfl) rfl (Nat.le_of_ble_eq_true (by kernel_rfl)) (by kernel_rfl) ?_
 exact rfl
def wrM (m:RM):G:=.tup [.v (.string ⟨(bM m).toArray⟩),gI (eM m)]
theorem X5 {m:RM}(h:okM m=false):G.tup [.v (.string ⟨#[]⟩),gI 130]=wrM m:=by
 unfold wrM bM eM
 rw[h]
 rfl
theorem Uj {m:RM}{i:Nat}{c:REnt}(hc:m.l[i]?=some c):(mhF m++Jj (m.l.take i)).map Do++(enF c).map Do=(mhF m++Jj (m.l.take (i+1))).map Do:=by
 rw[Ba hc,Z6,←List.append_assoc,List.map_append (l₁:=mhF m++Jj (m.l.take i))]
theorem En (m:RM)(hl:m.l.length≤1000000):FnV Tryz.prog 11 [.agg (enM m)] fun g=>g=wrM m:=by
 refine fnG Tryz.func11 (by kernel_rfl) rfl (Nat.le_of_ble_eq_true (by kernel_rfl)) (by kernel_rfl) ?_
 refine(Nw m hl).cal fun q hq=>?_
 subst hq
 refine EvIf.mk (fun hk=>?_) fun hk=>?_
 ·exact X5 (by simpa using hk)
 have hk:okM m=true:=by simpa using hk
 have hl2:=(Ar hk).2.2.1
 have e6:(m.l.map enE).length=m.l.length:=List.length_map ..
 refine(Ri _).con rfl ?_
 refine(Gx _).con rfl ?_
 refine(Gx _).con rfl ?_
 refine(Gx _).con rfl ?_
 refine(Ri _).con rfl ?_
 refine Ay [30,31] [0] (fun i:Nat=>[(32,gI i),(4,.osl 1)]) (fun i=>[(1,.slc ((mhF m++Jj (m.l.take i)).map Do) tFd 3)]) (fun i=>i≤m.l.length) (fun i=>m.l.length - i) 0 (Nat.zero_le _) ⟨⟨rfl,rfl⟩,⟨rfl,rfl⟩,trivial⟩ ⟨⟨rfl,rfl,eqR (by unfold mhF;rw[←e6];rfl)⟩,trivial⟩ rfl fun i hi=>?_
 refine EvIf.dec (fun hlt=>?_) (fun hlt=>?_)
 ·refine EvIdx.of (by simpa using hlt) fun c hc=>?_
  have hlt:=Ch hc
  refine(Gx _).cal fun q hq=>?_
  subst hq
  refine(Gx _).cal fun q hq=>?_
  subst hq
  refine⟨by simp[Jt,mhF];omega,?_⟩
  refine⟨by omega,i+1,by omega,(by dsimp only;omega),?_⟩
  refine⟨?_,?_,rfl⟩<;>repeat' (first | exact True.intro | with_reducible rfl | exact rfl | refine And.intro ?_ ?_)
  exact eqR (Uj hc)
 ·have ht:m.l.take i=m.l:=List.take_of_length_le (by simp at hlt;omega)
  rw[ht]
  have hE:=O8 hk
  refine(Uc (mF m) (by unfold mF mhF;simp[Jt];omega)).cal fun q rs hq=>?_
  obtain⟨rfl,rfl⟩:=hq
  refine EvIf.bne (fun(he:Gd (mF m)≠0)=>absurd hE he) fun _=>?_
  have eR:Q9 (mF m)=bM m:=by unfold Q9 bM;rw[if_pos hE,if_pos hk]
  rw[eR]
  refine⟨_,rfl,?_⟩
  have e0:eM m=0:=by unfold eM;rw[if_pos hk]
  unfold wrM
  rw[e0]
  exact rfl
theorem Z06 {b:Bs}{a c d e g:RFd}(h:(Ad kMh b).e=0)(hl:(Ad kMh b).l=[a,c,d,e,g]):Oh b=g.n∧0≤g.n∧g.n≤255:=by
 refine⟨by unfold Oh;rw[hl],?_⟩
 obtain⟨e1,e2,e3⟩:=Oj kMh b h
 rw[hl] at e1 e3
 simp only[List.map_cons,List.map_nil,kMh,List.cons.injEq,and_true] at e3
 have zg:=Cu e1 g (by simp)
 rcases Ii zg with⟨hh,-⟩ | ⟨hh,-,h0⟩
 ·omega
 ·omega
structure Z93 (b:Bs)(i:Nat)(c:Bs)(n:Nat):Prop where
 ee:(Ad (Dj i) (b.drop (Ad kMh b).n)).e=0
 nle:n≤c.length
 len:c.length≤b.length
 dd:c.drop n=(b.drop (Ad kMh b).n).drop (Ad (Dj i) (b.drop (Ad kMh b).n)).n
def Re (b:Bs)(i:Nat):List REnt:=toE (Ad (Dj i) (b.drop (Ad kMh b).n)).l
theorem P4 {b c:Bs}{i n:Nat}(h:Z93 b i c n)(h0:(Ad kEn (c.drop n)).e=0):Z93 b (i+1) (c.drop n) (Ad kEn (c.drop n)).n∧∃x1 x2 x3,(Ad kEn (c.drop n)).l=[x1,x2,x3]∧Re b (i+1)=Re b i++[⟨x1.n,x2.n,x3.s⟩]:=by
 have ha:=N4 (Dj i) kEn (b.drop (Ad kMh b).n) h.ee
 rw[←h.dd,if_neg (fun hh=>hh h0)] at ha
 have hk:Dj (i+1)=Dj i++kEn:=rfl
 have h6:=(Bz kEn (c.drop n)).2 h0
 have hle:=(Bz kEn (c.drop n)).1
 refine⟨⟨by rw[hk,ha],hle,by rw[List.length_drop];have:=h.len;omega,?_⟩,?_⟩
 ·rw[hk,ha,←List.drop_drop,←h.dd]
 ·match hl:(Ad kEn (c.drop n)).l,h6 with
  | [x1,x2,x3],_ =>
   refine⟨x1,x2,x3,rfl,?_⟩
   unfold Re
   rw[hk,ha,hl]
   have:=(Bz (Dj i) (b.drop (Ad kMh b).n)).2 h.ee
   rw[E6] at this
   rw[Z9 i _ _ this]
   rfl
theorem Sy {b c:Bs}{i k n:Nat}(h:Z93 b i c n)(h0:(Ad kEn (c.drop n)).e≠0)(hi:i < k)(hk:Oh b=k):¬Gg b:=fun ho=>by
 obtain⟨d1,-,-⟩:=Kx ho.2.1
 rw[hk,Int.toNat_natCast,show k=i+1+(k - (i+1)) by omega,Sz] at d1
 have ha:=N4 (Dj i) kEn (b.drop (Ad kMh b).n) h.ee
 rw[←h.dd,if_pos h0] at ha
 have hb:(Ad (Dj (i+1)) (b.drop (Ad kMh b).n)).e≠0:=by
  show(Ad (Dj i++kEn) _).e≠0
  rw[ha];exact h0
 rw[Jf _ _ _ hb] at d1
 exact hb d1
theorem U2 {b c:Bs}{k n:Nat}(h:Z93 b k c n)(hk:Oh b=k):((Hf (Dj (Oh b).toNat) (b.drop (Ad kMh b).n)).e=0↔n=c.length)∧(n=c.length→(Hf (Dj (Oh b).toNat) (b.drop (Ad kMh b).n)).l=(Ad (Dj k) (b.drop (Ad kMh b).n)).l):=by
 have hd:(c.drop n).length=((b.drop (Ad kMh b).n).drop (Ad (Dj k) (b.drop (Ad kMh b).n)).n).length:=by rw[h.dd]
 rw[List.length_drop,List.length_drop] at hd
 have hle:=(Bz (Dj k) (b.drop (Ad kMh b).n)).1
 have hn:=h.nle
 rw[hk,Int.toNat_natCast]
 refine⟨⟨fun ho=>?_,fun hh=>?_⟩,fun hh=>?_⟩
 ·obtain⟨-,d2,-⟩:=Kx ho
  omega
 ·unfold Hf
  rw[if_neg (fun hh=>hh h.ee),if_neg (fun hh=>hh (by omega))]
  exact h.ee
 ·unfold Hf
  rw[if_neg (fun hh=>hh h.ee),if_neg (fun hh=>hh (by omega))]
def rdM (b:Bs):G:=.tup [.agg (enM (mD b)),gI (eMd b)]
theorem Dc {b:Bs}(h:¬Gg b):G.tup [.agg (enM rm0),gI 130]=rdM b:=by unfold rdM mD eMd;rw[if_neg h,if_neg h]
theorem Sg {b:Bs}{m:RM}(h:Gg b)(hm:mOf b=m):G.tup [.agg (enM m),gI 0]=rdM b:=by
 unfold rdM mD eMd
 rw[if_pos h,if_pos h,hm]
inductive Z6j where
 | a
 | b (i:Nat) (c:Bs) (n:Nat)
abbrev tMs:Nat:=29
abbrev tEn:Nat:=71
def Zf9 (b0:Bs):Z6j→Ts
 | .a=>[(45,gI ((0:Nat):Int)),(4,.sl (b0.map gBy)),(6,gI ((Ad kMh b0).n:Nat))]
 | .b i c n=>[(45,gI (i:Nat)),(4,.sl (c.map gBy)),(6,gI (n:Nat)),(76,.osl 1)]
def Zfj (b0:Bs)(h:List G)(kb ks:Nat):Z6j→Os
 | .a=>[(kb,.blk (h++[.nl]) tMs)]
 | .b i _ _=>[(kb,.blk (h++[.osl ks]) tMs),(ks,.slc ((Re b0 i).map enE) tEn 3)]
def Zfe (b0:Bs)(k:Nat):Z6j→Prop
 | .a=>True
 | .b i c n=>i≤k∧Z93 b0 i c n
def Z95 (k:Nat):Z6j→Nat
 | .a=>k
 | .b i _ _=>k - i
set_option maxHeartbeats 1000000 in
theorem Wr (b:Bs)(hb:b.length≤2000000):FnV Tryz.prog 13 [.v (.string ⟨b.toArray⟩)] fun g=>g=rdM b:=by
 refine fnG Tryz.func13 (by kernel_rfl) rfl (Nat.le_of_ble_eq_true (by kernel_rfl)) (by kernel_rfl) ?_
 refine(Sk kMh b (by decide) (by omega)).cal fun q hq=>?_
 subst hq
 unfold smG
 refine EvIf.bne (fun he=>?_) (fun he=>?_)
 ·exact Dc fun ho=>he ho.1
 have he:(Ad kMh b).e=0:=he
 obtain⟨a,p,d,e,g,hl⟩:=Z82 he
 obtain⟨hC,hg0,hg1⟩:=Z06 he hl
 have hnl:=(Bz kMh b).1
 rw[hl]
 refine EvIdx.atI (f:=Do) (l:=[a,p,d,e,g]) (by decide) rfl ?_
 refine EvIdx.atI (f:=Do) (l:=[a,p,d,e,g]) (by decide) rfl ?_
 refine EvIdx.atI (f:=Do) (l:=[a,p,d,e,g]) (by decide) rfl ?_
 refine EvIdx.atI (f:=Do) (l:=[a,p,d,e,g]) (by decide) rfl ?_
 refine EvIdx.atI (f:=Do) (l:=[a,p,d,e,g]) (by decide) rfl ?_
 have hgp:Oh b=(g.n.toNat:Nat):=by rw[hC];omega
 refine Ay [2,8,44] [0] (Zf9 b) (Zfj b [gI a.n,gI p.n,gI d.n,gI e.n] 2 1) (Zfe b g.n.toNat) (Z95 g.n.toNat) .a trivial ⟨⟨rfl,rfl⟩,⟨rfl,rfl⟩,⟨rfl,rfl⟩,trivial⟩ ⟨⟨rfl,rfl,rfl⟩,trivial⟩ rfl fun x hI=>?_
 cases x with
 | a =>
  have hD:Z93 b 0 b (Ad kMh b).n:=⟨rfl,hnl,Nat.le_refl _,by rw[List.drop_drop];rfl⟩
  refine EvIf.dec (fun(hi:((0:Nat):Int) < g.n)=>?_) (fun(hi:¬((0:Nat):Int) < g.n)=>?_)
  ·skip
   have hlt:0 < g.n.toNat:=by omega
   refine⟨⟨by omega,by rw[List.length_map];omega,by omega⟩,⟨Ip b,?_⟩⟩
   rw[Jl]
   refine(Sk kEn (b.drop (Ad kMh b).n) (by decide) (by rw[List.length_drop];omega)).cal fun q hq=>?_
   subst hq
   unfold smG
   refine EvIf.bne (fun h0=>?_) (fun h0=>?_)
   ·exact Dc (Sy hD h0 hlt (by omega))
   have h0:(Ad kEn (b.drop (Ad kMh b).n)).e=0:=h0
   obtain⟨hD2,x1,x2,x3,hx,hst⟩:=P4 hD h0
   have hdl:(Re b 0).length≤1000:=by
    have:=(Bz (Dj 0) (b.drop (Ad kMh b).n)).2 hD.ee
    rw[E6] at this
    unfold Re
    rw[Ie 0 _ this];omega
   rw[hx]
   refine EvIdx.atI (f:=Do) (l:=[x1,x2,x3]) (by decide) rfl ?_
   refine EvIdx.atI (f:=Do) (l:=[x1,x2,x3]) (by decide) rfl ?_
   refine EvIdx.atI (f:=Do) (l:=[x1,x2,x3]) (by decide) rfl ?_
   refine⟨by simp;try omega,?_⟩
   refine⟨by omega,.b (0+1) (b.drop (Ad kMh b).n) (Ad kEn (b.drop (Ad kMh b).n)).n,⟨by omega,hD2⟩,(by dsimp only[Z95];omega),?_⟩
   refine⟨?_,?_,rfl⟩<;>repeat' (first | exact True.intro | with_reducible rfl | exact rfl | refine And.intro ?_ ?_)
   exact eqR (by rw[hst];rfl)
  ·skip
   have hi2:0=g.n.toNat:=by omega
   have hkk:Oh b=(0:Nat):=by omega
   obtain⟨hend,hrow⟩:=U2 hD hkk
   refine EvIf.bne (fun hh=>?_) (fun hh=>?_)
   ·have hh:((((Ad kMh b).n:Nat):Int))≠((((b).map gBy).length:Nat):Int):=hh
    rw[List.length_map] at hh
    exact Dc fun ho=>by have:=hend.1 ho.2.1;omega
   ·have hh:((((Ad kMh b).n:Nat):Int))=((((b).map gBy).length:Nat):Int):=by simpa using hh
    rw[List.length_map] at hh
    have hn2:(Ad kMh b).n=b.length:=by omega
    have hm:mOf b=⟨a.n,p.n,d.n,e.n,[]⟩:=by unfold mOf;rw[hl,hrow hn2];rfl
    have hln:(Re b 0).length≤1000000:=by
     have:=(Bz (Dj 0) (b.drop (Ad kMh b).n)).2 hD.ee
     rw[E6] at this
     unfold Re
     rw[Ie 0 _ this];omega
    refine(Nw ⟨a.n,p.n,d.n,e.n,[]⟩ (Nat.zero_le _)).cal fun q hq=>?_
    subst hq
    skip
    refine EvIf.mk (fun hk=>?_) fun hk=>?_
    ·exact Dc fun ho=>by have:=ho.2.2;rw[hm] at this;rw[this] at hk;cases hk
    ·have hk:okM ⟨a.n,p.n,d.n,e.n,[]⟩=true:=by simpa using hk
     have ho:Gg b:=⟨he,hend.2 hn2,by rw[hm];exact hk⟩
     exact Sg ho hm
 | b i c n =>
  obtain⟨hik,hD⟩:=hI
  have hn:=hD.nle
  have hcl:=hD.len
  refine EvIf.dec (fun(hi:((i:Nat):Int) < g.n)=>?_) (fun(hi:¬((i:Nat):Int) < g.n)=>?_)
  ·skip
   have hlt:i < g.n.toNat:=by omega
   refine⟨⟨by omega,by rw[List.length_map];omega,by omega⟩,⟨Ip c,?_⟩⟩
   rw[Jl]
   refine(Sk kEn (c.drop n) (by decide) (by rw[List.length_drop];omega)).cal fun q hq=>?_
   subst hq
   unfold smG
   refine EvIf.bne (fun h0=>?_) (fun h0=>?_)
   ·exact Dc (Sy hD h0 hlt (by omega))
   have h0:(Ad kEn (c.drop n)).e=0:=h0
   obtain⟨hD2,x1,x2,x3,hx,hst⟩:=P4 hD h0
   have hdl:(Re b i).length≤1000:=by
    have:=(Bz (Dj i) (b.drop (Ad kMh b).n)).2 hD.ee
    rw[E6] at this
    unfold Re
    rw[Ie i _ this];omega
   rw[hx]
   refine EvIdx.atI (f:=Do) (l:=[x1,x2,x3]) (by decide) rfl ?_
   refine EvIdx.atI (f:=Do) (l:=[x1,x2,x3]) (by decide) rfl ?_
   refine EvIdx.atI (f:=Do) (l:=[x1,x2,x3]) (by decide) rfl ?_
   refine⟨by simp;try omega,?_⟩
   refine⟨by omega,.b (i+1) (c.drop n) (Ad kEn (c.drop n)).n,⟨by omega,hD2⟩,(by dsimp only[Z95];omega),?_⟩
   refine⟨?_,?_,rfl⟩<;>repeat' (first | exact True.intro | with_reducible rfl | exact rfl | refine And.intro ?_ ?_)
   exact eqR (by rw[hst,List.map_append];rfl)
  ·skip
   have hi2:i=g.n.toNat:=by omega
   have hkk:Oh b=(i:Nat):=by omega
   obtain⟨hend,hrow⟩:=U2 hD hkk
   refine EvIf.bne (fun hh=>?_) (fun hh=>?_)
   ·have hh:(((n:Nat):Int))≠((((c).map gBy).length:Nat):Int):=hh
    rw[List.length_map] at hh
    exact Dc fun ho=>by have:=hend.1 ho.2.1;omega
   ·have hh:(((n:Nat):Int))=((((c).map gBy).length:Nat):Int):=by simpa using hh
    rw[List.length_map] at hh
    have hn2:n=c.length:=by omega
    have hm:mOf b=⟨a.n,p.n,d.n,e.n,Re b i⟩:=by unfold mOf;rw[hl,hrow hn2];rfl
    have hln:(Re b i).length≤1000000:=by
     have:=(Bz (Dj i) (b.drop (Ad kMh b).n)).2 hD.ee
     rw[E6] at this
     unfold Re
     rw[Ie i _ this];omega
    refine EvCall.gh (.frz 1 _ _ _ rfl (.seen 2 _ _ rfl (.done (.see (.same ((Nw ⟨a.n,p.n,d.n,e.n,Re b i⟩ hln).cal fun q hq=>?_))))))
    subst hq
    refine .done ?_
    refine EvIf.mk (fun hk=>?_) fun hk=>?_
    ·exact Dc fun ho=>by have:=ho.2.2;rw[hm] at this;rw[this] at hk;cases hk
    ·have hk:okM ⟨a.n,p.n,d.n,e.n,Re b i⟩=true:=by simpa using hk
     have ho:Gg b:=⟨he,hend.2 hn2,by rw[hm];exact hk⟩
     exact Sg ho hm
theorem Fp (s:ByteArray)(hs:s.size≤2000000):FnV Tryz.prog 13 [.v (.string s)] fun g=>g=rdM s.data.toList :=
 Wr s.data.toList (by rw[Array.length_toList];exact hs)
end Go.Proofs.YtihfaocdpmmooaaGreat
namespace Go.Proofs.YtihfaocdpmmooaaGreat
open Go.RowKit
set_option maxRecDepth 100000
theorem Z6w {l:List REnt}{i:Nat}{p:REnt}(h:l[i]?=some p):vw 1 (l.take (i+1))=p.v:=by
 rw[List.take_add_one,h]
 exact S0 _ _ _
theorem Zbw:∀{l:List REnt} {k v:Int},F7 k v l=true→v≤vw v l
 | [],_,_,_=>Int.le_refl _
 | e::l,k,v,h=>by
  rw[He,Bool.and_eq_true,decide_eq_true_iff] at h
  have ih:=Zbw h.2
  have ev:vw v (e::l)=vw e.v l:=by
   unfold vw
   rw[List.getLast?_cons]
   cases l.getLast?<;>rfl
  rw[ev];omega
theorem Xr (k:Int)(hk0:-1000≤k)(hk1:k≤1000000)(l:List REnt)(hl:l.length≤1000000)(hi:Int):FnV Tryz.prog 86 [.sl (l.map enE),gI k,gI hi] fun g=>g=.v (.bool (Fu k l&&Aq l hi)):=by
 refine fnG Tryz.func86 (by kernel_rfl) rfl (Nat.le_of_ble_eq_true (by kernel_rfl)) (by kernel_rfl) ?_
 have bad:F7 k 1 l=false→G.v (.bool false)=.v (.bool (Fu k l&&Aq l hi)):=fun h=>by unfold Fu;rw[h];rfl
 have bad2:Aq l hi=false→G.v (.bool false)=.v (.bool (Fu k l&&Aq l hi)):=fun h=>by rw[h,Bool.and_false]
 refine Ay [0,1,2] [] (fun i:Nat=>[(7,gI i)]) (fun _=>[]) (fun i=>i≤l.length∧F7 k 1 (l.take i)=true∧Aq (l.take i) hi=true) (fun i=>l.length - i) 0 ⟨Nat.zero_le _,rfl,rfl⟩ ⟨⟨rfl,rfl⟩,trivial⟩ trivial rfl fun i hI=>?_
 obtain⟨hil,hI,hM⟩:=hI
 refine EvIf.dec (fun h=>?_) (fun h=>?_)
 ·have h:i < l.length:=by simpa using h
  obtain⟨e,he⟩:∃e,l[i]?=some e:=⟨_,List.getElem?_eq_getElem h⟩
  have hge:=Zbw hI
  have hno:¬e.v≤hi→Aq l hi=false:=fun hh=>by
   cases hm:Aq l hi with
   | false=>rfl
   | true=>exact absurd (Hl hm e (List.mem_of_getElem? he)) hh
  refine EvIdx.at he ?_
  refine⟨by omega,by omega,?_⟩
  refine EvIf.bne (fun h1=>bad (Di he fun hh=>h1 (by omega))) fun h1=>?_
  refine EvIdx.at he ?_
  refine EvIf.dec (fun h2=>bad (Di he fun hh=>by omega)) fun h2=>?_
  refine EvIdx.at he ?_
  refine EvIf.dec (fun h3=>bad (Di he fun hh=>by omega)) fun h3=>?_
  refine EvIdx.at he ?_
  refine EvIf.dec (fun h4=>bad2 (hno (by omega))) fun h4=>?_
  refine EvIdx.at he ?_
  refine EvIf.dec (fun h5=>bad (Di he fun hh=>by omega)) fun h5=>?_
  have hM2:Aq (l.take (i+1)) hi=true:=by
   unfold Aq at hM⊢
   rw[List.take_add_one,he,List.all_append,hM]
   show(decide (e.v≤hi)&&true)=true
   rw[decide_eq_true (by omega)];rfl
  refine EvIf.dec (fun h6=>?_) fun h6=>?_
  ·obtain⟨j,rfl⟩:∃j,i=j+1:=⟨i - 1,by omega⟩
   obtain⟨p,hp⟩:∃p,l[j]?=some p:=⟨_,List.getElem?_eq_getElem (by omega)⟩
   have hv:=Z6w hp
   refine EvIdx.at he ?_
   refine⟨by omega,?_⟩
   refine EvIdx.atI (by omega) (show l[(((j+1:Nat):Int) - 1).toNat]?=some p by rw[show(((j+1:Nat):Int) - 1).toNat=j by omega];exact hp) ?_
   refine EvIf.dec (fun h7=>bad (Di he fun hh=>by omega)) fun h7=>?_
   obtain⟨s1,s2⟩:=L1 he hI ⟨by omega,by omega,by omega,by omega⟩
   refine⟨by omega,j+1+1,⟨by omega,s1,hM2⟩,(by dsimp only;omega),?_⟩
   refine⟨?_,?_,rfl⟩<;>repeat' (first | exact True.intro | with_reducible rfl | exact rfl | refine And.intro ?_ ?_)
  ·obtain rfl:i=0:=by omega
   obtain⟨s1,s2⟩:=L1 he hI ⟨by omega,by omega,by show(1:Int)≤e.v;omega,by omega⟩
   refine⟨by omega,0+1,⟨by omega,s1,hM2⟩,(by dsimp only;omega),?_⟩
   refine⟨?_,?_,rfl⟩<;>repeat' (first | exact True.intro | with_reducible rfl | exact rfl | refine And.intro ?_ ?_)
 ·have hlen:(((l.map enE).length:Nat):Int)=l.length:=by rw[List.length_map]
  rw[hlen] at h
  rw[List.take_of_length_le (by omega)] at hI hM
  have e:(Fu k l&&Aq l hi)=decide (((l.map enE).length:Int)≤150):=by
   unfold Fu
   rw[hI,hM,hlen,Bool.true_and,Bool.and_true]
   exact decide_eq_decide.2 (by omega)
  rw[e]
  exact rfl
theorem N5 (m:RM)(hl:m.l.length≤1000000):FnV Tryz.prog 47 [.agg (enM m)] fun g=>g=.v (.bool (okM m)):=by
 refine fnG Tryz.func47 (by kernel_rfl) rfl (Nat.le_of_ble_eq_true (by kernel_rfl)) (by kernel_rfl) ?_
 have bad:¬(1≤m.view∧m.view≤big∧0≤m.normal∧m.normal < m.view∧0≤m.num∧m.num≤150)→G.v (.bool false)=.v (.bool (okM m)):=fun h=>by unfold okM;rw[decide_eq_false h];rfl
 have hbig:big=4611686018427387904:=rfl
 refine EvIf.dec (fun h1=>bad fun hh=>by omega) fun h1=>?_
 refine EvIf.dec (fun h2=>bad fun hh=>by omega) fun h2=>?_
 refine EvIf.dec (fun h3=>bad fun hh=>by omega) fun h3=>?_
 refine EvIf.dec (fun h4=>bad fun hh=>by omega) fun h4=>?_
 refine EvIf.dec (fun h5=>bad fun hh=>by omega) fun h5=>?_
 refine EvIf.dec (fun h6=>bad fun hh=>by omega) fun h6=>?_
 have hb:okM m=(if m.kind=1 then decide (m.normal=0∧m.num=0∧m.l.length=0)
  else if m.kind=2 then decide (m.num=0)&&Fu 0 m.l&&Aq m.l m.normal
  else if m.kind=3 then decide (m.normal=0∧m.num=0)&&Fu 0 m.l&&Aq m.l (m.view - 1)
  else if m.kind=4 then decide (m.normal=0)&&Fu m.num m.l&&Aq m.l m.view
  else if m.kind=5∨m.kind=6 then decide (m.normal=0∧m.l.length=0) else false):=by
   unfold okM
   rw[decide_eq_true (by omega),Bool.true_and]
 have hlen:(((m.l.map enE).length:Nat):Int)=m.l.length:=by rw[List.length_map]
 rw[hb]
 have lenB:m.normal=0→((((m.l.map enE).length:Nat):Int)==0)=decide (m.normal=0∧m.l.length=0):=fun a=>by
  rw[hlen,Bool.eq_iff_iff,beq_iff_eq,decide_eq_true_iff];omega
 refine EvIf.beq (fun(k2:m.kind=2)=>?_) fun(k2:m.kind≠2)=>?_
 ·rw[if_neg (by omega),if_pos k2]
  refine EvIf.beq (fun(a:m.num=0)=>?_) fun(a:m.num≠0)=>?_
  ·rw[decide_eq_true a,Bool.true_and]
   refine(Xr 0 (by decide) (by decide) m.l hl m.normal).cal fun q hq=>?_
   subst hq
   exact rfl
  ·rw[decide_eq_false a,Bool.false_and]
   exact rfl
 refine EvIf.bne (fun(a:m.normal≠0)=>?_) fun(a:m.normal=0)=>?_
 ·have:(if m.kind=1 then decide (m.normal=0∧m.num=0∧m.l.length=0)
   else if m.kind=2 then decide (m.num=0)&&Fu 0 m.l&&Aq m.l m.normal
   else if m.kind=3 then decide (m.normal=0∧m.num=0)&&Fu 0 m.l&&Aq m.l (m.view - 1)
   else if m.kind=4 then decide (m.normal=0)&&Fu m.num m.l&&Aq m.l m.view
   else if m.kind=5∨m.kind=6 then decide (m.normal=0∧m.l.length=0) else false)=false:=by
    rw[if_neg k2]
    rw[show decide (m.normal=0∧m.num=0∧m.l.length=0)=false from decide_eq_false fun h=>a h.1,show decide (m.normal=0∧m.num=0)=false from decide_eq_false fun h=>a h.1,show decide (m.normal=0)=false from decide_eq_false a,show decide (m.normal=0∧m.l.length=0)=false from decide_eq_false fun h=>a h.1]
    simp
  rw[this]
  exact rfl
 refine EvIf.beq (fun(k1:m.kind=1)=>?_) fun(k1:m.kind≠1)=>?_
 ·rw[if_pos k1]
  refine EvIf.beq (fun(b:m.num=0)=>?_) fun(b:m.num≠0)=>?_
  ·have:((((m.l.map enE).length:Nat):Int)==0)=decide (m.normal=0∧m.num=0∧m.l.length=0):=by
    rw[hlen,Bool.eq_iff_iff,beq_iff_eq,decide_eq_true_iff];omega
   rw[←this]
   exact rfl
  ·rw[show decide (m.normal=0∧m.num=0∧m.l.length=0)=false from decide_eq_false fun hh=>b hh.2.1]
   exact rfl
 rw[if_neg k1,if_neg k2]
 refine EvIf.beq (fun(k3:m.kind=3)=>?_) fun(k3:m.kind≠3)=>?_
 ·rw[if_pos k3]
  refine EvIf.beq (fun(a2:m.num=0)=>?_) fun(a2:m.num≠0)=>?_
  ·rw[show decide (m.normal=0∧m.num=0)=true from decide_eq_true (And.intro a a2),Bool.true_and]
   refine⟨by omega,?_⟩
   refine(Xr 0 (by decide) (by decide) m.l hl (m.view - 1)).cal fun q hq=>?_
   subst hq
   exact rfl
  ·rw[show decide (m.normal=0∧m.num=0)=false from decide_eq_false (fun hh=>a2 hh.2),Bool.false_and]
   exact rfl
 rw[if_neg k3]
 refine EvIf.beq (fun(k4:m.kind=4)=>?_) fun(k4:m.kind≠4)=>?_
 ·rw[if_pos k4,decide_eq_true a,Bool.true_and]
  refine(Xr m.num (by omega) (by omega) m.l hl m.view).cal fun q hq=>?_
  subst hq
  exact rfl
 rw[if_neg k4,←lenB a]
 refine EvIf.beq (fun(k5:m.kind=5)=>?_) fun(k5:m.kind≠5)=>?_
 ·refine EvIf.beq (fun(_:m.kind=5)=>?_) fun(h:m.kind≠5)=>absurd k5 h
  rw[if_pos (.inl k5)]
  exact rfl
 ·refine EvIf.beq (fun(k6:m.kind=6)=>?_) fun(k6:m.kind≠6)=>?_
  ·rw[if_pos (.inr k6)]
   exact rfl
  ·rw[if_neg (by omega)]
   exact rfl
theorem Ya (m:RM)(hl:m.l.length≤1000000):FnV Tryz.prog 12 [.agg (enM m)] fun g=>g=wrM m:=by
 refine fnG Tryz.func12 (by kernel_rfl) rfl (Nat.le_of_ble_eq_true (by kernel_rfl)) (by kernel_rfl) ?_
 refine(N5 m hl).cal fun q hq=>?_
 subst hq
 refine EvIf.mk (fun hk=>?_) fun hk=>?_
 ·exact X5 (by simpa using hk)
 have hk:okM m=true:=by simpa using hk
 have hl2:=(Ar hk).2.2.1
 have e6:(m.l.map enE).length=m.l.length:=List.length_map ..
 refine Ay [1] [0] (fun i:Nat=>[(5,gI i),(4,.osl 1)]) (fun i=>[(1,.slc ((mhF m++Jj (m.l.take i)).map Do) tFd 3)]) (fun i=>i≤m.l.length) (fun i=>m.l.length - i) 0 (Nat.zero_le _) ⟨⟨rfl,rfl⟩,⟨rfl,rfl⟩,trivial⟩ ⟨⟨rfl,rfl,eqR (by unfold mhF;rw[←e6];rfl)⟩,trivial⟩ rfl fun i hi=>?_
 refine EvIf.dec (fun hlt=>?_) (fun hlt=>?_)
 ·have hlt:i < m.l.length:=by simpa using hlt
  obtain⟨c,hc⟩:∃c,m.l[i]?=some c:=⟨_,List.getElem?_eq_getElem hlt⟩
  refine EvIdx.at hc ?_
  refine EvIdx.at hc ?_
  refine EvIdx.at hc ?_
  refine⟨by simp[Jt,mhF];omega,?_⟩
  refine⟨by omega,i+1,by omega,(by dsimp only;omega),?_⟩
  refine⟨?_,?_,rfl⟩<;>repeat' (first | exact True.intro | with_reducible rfl | exact rfl | refine And.intro ?_ ?_)
  exact eqR (Uj hc)
 ·have ht:m.l.take i=m.l:=List.take_of_length_le (by simp at hlt;omega)
  rw[ht]
  have hE:=O8 hk
  refine(Z43 (mF m) (by unfold mF mhF;simp[Jt];omega)).cal fun q hq=>?_
  subst hq
  have eR:Q9 (mF m)=bM m:=by unfold Q9 bM;rw[if_pos hE,if_pos hk]
  rw[eR]
  refine⟨_,rfl,?_⟩
  have e0:eM m=0:=by unfold eM;rw[if_pos hk]
  unfold wrM
  rw[e0]
  exact rfl
end Go.Proofs.YtihfaocdpmmooaaGreat
namespace Go.Proofs.YtihfaocdpmmooaaGreat
open Go.RowKit
set_option maxRecDepth 100000
theorem ix3 {l:List RFd}{i j:Nat}{x:RFd}(h:l[3 * i+j]?=some x):l[(3 * (i:Int)+(j:Int)).toNat]?=some x:=by
 rw[show(3 * (i:Int)+(j:Int)).toNat=3 * i+j by omega];exact h
theorem Zeh {l:List RFd}{i:Nat}{x:RFd}(h:l[3 * i]?=some x):l[(3 * (i:Int)).toNat]?=some x:=by
 rw[show(3 * (i:Int)).toNat=3 * i by omega];exact h
abbrev Zav:Nat:=24
def Zfh:Z6j→Ts
 | .a=>[(12,gI ((0:Nat):Int))]
 | .b i _ _=>[(12,gI (i:Nat)),(97,.osl 1)]
def Zfk (C:List REnt)(h:List G):Z6j→Os
 | .a=>[(3,.blk (h++[.nl]) Zav)]
 | .b i _ _=>[(3,.blk (h++[.osl 1]) Zav),(1,.slc ((C.take i).map enE) tEn 3)]
def Zex (k:Nat):Z6j→Prop
 | .a=>True
 | .b i _ _=>i≤k
theorem Z02 (i:Nat):(Dj i).map gNi++kEn.map gNi=(Dj (i+1)).map gNi:=by
 show _=(Dj i++kEn).map gNi
 rw[List.map_append]
set_option maxHeartbeats 2000000 in
theorem Zu (b:Bs)(hb:b.length≤2000000):FnV Tryz.prog 14 [.v (.string ⟨b.toArray⟩)] fun g=>g=rdM b:=by
 refine fnG Tryz.func14 (by kernel_rfl) rfl (Nat.le_of_ble_eq_true (by kernel_rfl)) (by kernel_rfl) ?_
 refine(Z5s kMh b (by decide) (by omega)).cal fun q hq=>?_
 subst hq
 unfold smG
 refine EvIf.bne (fun he=>?_) (fun he=>?_)
 ·exact Dc fun ho=>he ho.1
 have he:(Ad kMh b).e=0:=he
 obtain⟨a,p,d,e,g,hl⟩:=Z82 he
 obtain⟨hC,hg0,hg1⟩:=Z06 he hl
 have hnl:=(Bz kMh b).1
 rw[hl]
 have hgp:Oh b=(g.n.toNat:Nat):=by rw[hC];omega
 refine Ay [0,2,4,5] [0] (fun i:Nat=>[(8,gI i),(7,.osl 2)]) (fun i=>[(2,.slc ((Dj i).map gNi) 3 1)]) (fun i=>i≤g.n.toNat) (fun i=>g.n.toNat - i) 0 (by omega) ⟨⟨rfl,rfl⟩,⟨rfl,rfl⟩,trivial⟩ ⟨⟨rfl,rfl,rfl⟩,trivial⟩ rfl fun i hi=>?_
 refine EvIdx.atI (f:=Do) (l:=[a,p,d,e,g]) (by decide) rfl ?_
 refine EvIf.dec (fun(hi2:((i:Nat):Int) < g.n)=>?_) (fun(hi2:¬((i:Nat):Int) < g.n)=>?_)
 ·refine⟨by simp[E6];omega,?_⟩
  refine⟨by omega,i+1,by omega,(by dsimp only;omega),?_⟩
  refine⟨?_,?_,rfl⟩<;>repeat' (first | exact True.intro | with_reducible rfl | exact rfl | refine And.intro ?_ ?_)
  exact eqR (Z02 i)
 have hig:i=g.n.toNat:=by omega
 subst hig
 refine⟨⟨by omega,by rw[List.length_map];show _≤((b.length:Nat):Int);omega,by omega⟩,⟨Ip b,?_⟩⟩
 rw[Jl]
 refine(Z3v (Dj g.n.toNat) (b.drop (Ad kMh b).n) (by rw[E6];omega) (by rw[List.length_drop];omega)).cal fun q hq=>?_
 subst hq
 refine EvIdx.atI (f:=Do) (l:=[a,p,d,e,g]) (by decide) rfl ?_
 refine EvIdx.atI (f:=Do) (l:=[a,p,d,e,g]) (by decide) rfl ?_
 refine EvIdx.atI (f:=Do) (l:=[a,p,d,e,g]) (by decide) rfl ?_
 refine EvIdx.atI (f:=Do) (l:=[a,p,d,e,g]) (by decide) rfl ?_
 by_cases hd:(Hf (Dj g.n.toNat) (b.drop (Ad kMh b).n)).e=0
 ·rw[hd]
  obtain⟨d1,d2,d3⟩:=Kx hd
  have hLn:=(Bz (Dj g.n.toNat) (b.drop (Ad kMh b).n)).2 d1
  rw[E6,←d3] at hLn
  have hCL:=Ie _ _ hLn
  have hm:mOf b=⟨a.n,p.n,d.n,e.n,toE (Hf (Dj g.n.toNat) (b.drop (Ad kMh b).n)).l⟩:=by unfold mOf;rw[hl,hgp,Int.toNat_natCast]
  generalize hLL:(Hf (Dj g.n.toNat) (b.drop (Ad kMh b).n)).l=LL at hLn hCL hm⊢
  refine Ay [2,4,9,10,11] [0] Zfh (Zfk (toE LL) [gI a.n,gI p.n,gI d.n,gI e.n]) (Zex g.n.toNat) (Z95 g.n.toNat) .a trivial ⟨⟨rfl,rfl⟩,trivial⟩ ⟨⟨rfl,rfl,rfl⟩,trivial⟩ rfl fun x hI=>?_
  cases x with
  | a =>
   refine EvIdx.atI (f:=Do) (l:=[a,p,d,e,g]) (by decide) rfl ?_
   refine EvIf.dec (fun(hi2:((0:Nat):Int) < g.n)=>?_) (fun(hi2:¬((0:Nat):Int) < g.n)=>?_)
   ·obtain⟨x1,x2,x3,h1,h2,h3,hx⟩:=Xh 0 g.n.toNat LL hLn (by omega)
    refine EvIf.beq (fun _=>?_) fun h=>absurd rfl h
    refine⟨by omega,?_⟩
    refine EvIdx.atI (f:=Do) (l:=LL) (by omega) (Zeh h1) ?_
    refine⟨by omega,?_⟩
    refine⟨by omega,?_⟩
    refine EvIdx.atI (f:=Do) (l:=LL) (by omega) (ix3 (j:=1) h2) ?_
    refine⟨by omega,?_⟩
    refine⟨by omega,?_⟩
    refine EvIdx.atI (f:=Do) (l:=LL) (by omega) (ix3 (j:=2) h3) ?_
    refine⟨by simp;try omega,?_⟩
    refine⟨by omega,.b (0+1) [] 0,(by show _≤_;omega),(by dsimp only[Z95];omega),?_⟩
    refine⟨?_,?_,rfl⟩<;>repeat' (first | exact True.intro | with_reducible rfl | exact rfl | refine And.intro ?_ ?_)
    exact eqR (by rw[Ba hx];rfl)
   ·skip
    have hi3:0=g.n.toNat:=by omega
    have hLe:toE LL=[]:=by exact List.eq_nil_of_length_eq_zero (by omega)
    rw[hLe] at hm
    refine EvIf.bne (fun h=>absurd rfl h) fun _=>?_
    refine(N5 ⟨a.n,p.n,d.n,e.n,[]⟩ (Nat.zero_le _)).cal fun q hq=>?_
    subst hq
    skip
    refine EvIf.mk (fun hk=>?_) fun hk=>?_
    ·exact Dc fun ho=>by have:=ho.2.2;rw[hm] at this;rw[this] at hk;cases hk
    ·have hk:okM ⟨a.n,p.n,d.n,e.n,[]⟩=true:=by simpa using hk
     have ho:Gg b:=⟨he,by rw[hgp,Int.toNat_natCast];exact hd,by rw[hm];exact hk⟩
     exact Sg ho hm
  | b i c0 n0 =>
   have hik:i≤g.n.toNat:=hI
   refine EvIdx.atI (f:=Do) (l:=[a,p,d,e,g]) (by decide) rfl ?_
   refine EvIf.dec (fun(hi2:((i:Nat):Int) < g.n)=>?_) (fun(hi2:¬((i:Nat):Int) < g.n)=>?_)
   ·obtain⟨x1,x2,x3,h1,h2,h3,hx⟩:=Xh i g.n.toNat LL hLn (by omega)
    refine EvIf.beq (fun _=>?_) fun h=>absurd rfl h
    refine⟨by omega,?_⟩
    refine EvIdx.atI (f:=Do) (l:=LL) (by omega) (Zeh h1) ?_
    refine⟨by omega,?_⟩
    refine⟨by omega,?_⟩
    refine EvIdx.atI (f:=Do) (l:=LL) (by omega) (ix3 (j:=1) h2) ?_
    refine⟨by omega,?_⟩
    refine⟨by omega,?_⟩
    refine EvIdx.atI (f:=Do) (l:=LL) (by omega) (ix3 (j:=2) h3) ?_
    refine⟨by simp;try omega,?_⟩
    refine⟨by omega,.b (i+1) [] 0,(by show _≤_;omega),(by dsimp only[Z95];omega),?_⟩
    refine⟨?_,?_,rfl⟩<;>repeat' (first | exact True.intro | with_reducible rfl | exact rfl | refine And.intro ?_ ?_)
    exact eqR (by rw[Ba hx,List.map_append];rfl)
   ·skip
    have hi3:i=g.n.toNat:=by omega
    have hLe:toE LL=(toE LL).take i:=by rw[List.take_of_length_le (by omega)]
    rw[hLe] at hm
    refine EvIf.bne (fun h=>absurd rfl h) fun _=>?_
    refine EvCall.gh (.frz 1 _ _ _ rfl (.seen 3 _ _ rfl (.done (.see (.same ((N5 ⟨a.n,p.n,d.n,e.n,(toE LL).take i⟩ (by rw[List.length_take];omega)).cal fun q hq=>?_))))))
    subst hq
    refine .done ?_
    refine EvIf.mk (fun hk=>?_) fun hk=>?_
    ·exact Dc fun ho=>by have:=ho.2.2;rw[hm] at this;rw[this] at hk;cases hk
    ·have hk:okM ⟨a.n,p.n,d.n,e.n,(toE LL).take i⟩=true:=by simpa using hk
     have ho:Gg b:=⟨he,by rw[hgp,Int.toNat_natCast];exact hd,by rw[hm];exact hk⟩
     exact Sg ho hm
 ·have hbad:¬Gg b:=fun ho=>hd (by have:=ho.2.1;rwa [hgp,Int.toNat_natCast] at this)
  refine Ay [2,4,9,10,11,12] [0,3] (fun _:Unit=>[]) (fun _=>[]) (fun _=>True) (fun _=>0) () trivial trivial trivial rfl fun x hI=>?_
  refine EvIdx.atI (f:=Do) (l:=[a,p,d,e,g]) (by decide) rfl ?_
  refine EvIf.dec (fun _=>?_) fun _=>?_
  ·refine EvIf.beq (fun h=>absurd h hd) fun _=>?_
   refine EvIf.bne (fun _=>?_) fun h=>absurd h hd
   exact Dc hbad
  ·refine EvIf.bne (fun _=>?_) fun h=>absurd h hd
   exact Dc hbad
theorem Z10 (s:ByteArray)(hs:s.size≤2000000):FnV Tryz.prog 14 [.v (.string s)] fun g=>g=rdM s.data.toList :=
 Zu s.data.toList (by rw[Array.length_toList];exact hs)
end Go.Proofs.YtihfaocdpmmooaaGreat


import Derived.Test.YtihfaocdpmmooaaGreatPl1
import Derived.Test.YtihfaocdpmmooaaGreatFn1
import Derived.Test.YtihfaocdpmmooaaGreatPKN
import Derived.Test.YtihfaocdpmmooaaGreatSxMe
namespace Go.Proofs.YtihfaocdpmmooaaGreat
open Go.RowKit
set_option maxRecDepth 100000
theorem Zg3 (k:Int)(hk0:-1000≤k)(hk1:k≤1000000)(l:List REnt)(hl:l.length≤1000000):FnV Tryz.prog 84 [.sl (l.map enE),gI k] fun g=>g=.v (.bool (Gq k l)):=by
 refine fnG Tryz.func84 ?_
 have bad:Gd k 1 l=false→G.v (.bool false)=.v (.bool (Gq k l)):=fun h=>by unfold Gq;rw[h];rfl
 refine Ap [0,1,8,9] [] (fun i:Nat=>[(10,gI i),(5,gI (vw 1 (l.take i)))]) (fun _=>[]) (fun i=>i≤l.length∧Gd k 1 (l.take i)=true) (fun i=>l.length - i) 0 ⟨ah _,rfl⟩ ⟨⟨rfl,rfl⟩,⟨rfl,rfl⟩,trivial⟩ trivial rfl fun i hi=>?_
 obtain⟨hi,hI⟩:=hi
 refine df (fun h=>?_) (fun h=>?_)
 ·refine dn (by simpa using h) fun e he=>?_
  have hlt:=Bl he
  refine⟨by omega,by omega,?_⟩
  refine di (fun h1=>bad (E9 he fun hh=>h1 (by omega))) fun h1=>?_
  refine df (fun h2=>bad (E9 he fun hh=>by omega)) fun h2=>?_
  refine df (fun h3=>bad (E9 he fun hh=>by omega)) fun h3=>?_
  refine df (fun h4=>bad (E9 he fun hh=>by omega)) fun h4=>?_
  obtain⟨s1,s2⟩:=M6 he hI ⟨by omega,by omega,by omega,by omega⟩
  refine⟨by omega,i+1,⟨by omega,s1⟩,(by dsimp only;omega),?_⟩
  refine⟨?_,?_,rfl⟩<;>repeat' (first|exact trivial|with_reducible rfl|exact rfl|refine And.intro ?_ ?_)
  exact congrArg (fun z=>some (gI z)) s2.symm
 ·have hlen:(((l.map enE).length:Nat):Int)=l.length:=by rw[aa]
  rw[hlen] at h
  rw[ao (by omega)] at hI
  have e:Gq k l=decide (((l.map enE).length:Int)≤150):=by
   unfold Gq
   rw[hI,hlen,Bool.true_and]
   exact decide_eq_decide.2 (by omega)
  rw[e]
  exact rfl
theorem U9 (l:List REnt)(hl:l.length≤1000000)(v:Int):FnV Tryz.prog 60 [.sl (l.map enE),gI v] fun g=>g=.v (.bool (Au l v)):=by
 refine fnG Tryz.func60 ?_
 refine Ap [0,1,7,8] [] (fun i:Nat=>[(9,gI i)]) (fun _=>[]) (fun i=>i≤l.length∧Au (l.take i) v=true) (fun i=>l.length - i) 0 ⟨ah _,rfl⟩ ⟨⟨rfl,rfl⟩,trivial⟩ trivial rfl fun i hi=>?_
 obtain⟨hi,hI⟩:=hi
 refine df (fun h=>?_) (fun h=>?_)
 ·refine dn (by simpa using h) fun e he=>?_
  have hlt:=Bl he
  refine df (fun h1=>?_) fun h1=>?_
  ·have:Au l v=false:=by
    cases hm:Au l v with
    | false=>rfl
    | true=>exact dc (J6 hm e (ae he)) (by omega)
   rw[this]
   exact rfl
  ·have s1:Au (l.take (i+1)) v=true:=by
    unfold Au at hI⊢
    rw[List.take_add_one,he,List.all_append,hI]
    show(decide (e.v≤v)&&true)=true
    rw[decide_eq_true (by omega)];rfl
   refine⟨by omega,i+1,⟨by omega,s1⟩,(by dsimp only;omega),?_⟩
   refine⟨?_,?_,rfl⟩<;>repeat' (first|exact trivial|with_reducible rfl|exact rfl|refine And.intro ?_ ?_)
 ·have hlen:(((l.map enE).length:Nat):Int)=l.length:=by rw[aa]
  rw[hlen] at h
  rw[ao (by omega)] at hI
  rw[hI]
  exact rfl
theorem Qn:∀(l:List REnt) (i:Nat) (v:Int),(∀e∈l,e.v≤big)→i+l.length≤150→Aj v i l=Gd i v l
 | [],_,_,_,_=>rfl
 | e::l,i,v,h,hl=>by
  have hl:i+(l.length+1)≤150:=hl
  have ih:=Qn l (i+1) e.v (fun x hx=>h x (by simp[hx])) (by omega)
  show(okB v i e&&Aj e.v (i+1) l)=_
  rw[ih,J4]
  have hv:=h e (by simp)
  unfold big at hv
  have:okB v i e=decide (e.n=(i:Int)+1∧e.n≤150∧v≤e.v∧e.b.size≤200):=by
   unfold okB
   exact decide_eq_decide.2 (by omega)
  rw[this]
  rfl
theorem X8 {l:List REnt}{v:Int}(h:Au l v=true)(hv:v≤big):Bo l=Gq 0 l:=by
 unfold Bo Gq
 by_cases h2:l.length≤150
 ·rw[Qn l 0 1 (fun e he=>by have:=J6 h e he;omega) (by omega)];rfl
 ·rw[decide_eq_false h2];simp
def enM (m:RM):List G:=[gI m.kind,gI m.view,gI m.normal,gI m.num,.sl (m.l.map enE)]
theorem Pe (m:RM)(hl:m.l.length≤1000000):FnV Tryz.prog 43 [.agg (enM m)] fun g=>g=.v (.bool (okM m)):=by
 refine fnG Tryz.func43 ?_
 have bad:¬(1≤m.view∧m.view≤big∧0≤m.normal∧m.normal < m.view∧0≤m.num∧m.num≤150)→G.v (.bool false)=.v (.bool (okM m)):=fun h=>by unfold okM;rw[decide_eq_false h];rfl
 have hbig:big=4611686018427387904:=rfl
 refine df (fun h1=>bad fun hh=>by omega) fun h1=>?_
 refine df (fun h2=>bad fun hh=>by omega) fun h2=>?_
 refine df (fun h3=>bad fun hh=>by omega) fun h3=>?_
 refine df (fun h4=>bad fun hh=>by omega) fun h4=>?_
 refine df (fun h5=>bad fun hh=>by omega) fun h5=>?_
 refine df (fun h6=>bad fun hh=>by omega) fun h6=>?_
 have hb:okM m=(if m.kind=1 then decide (m.normal=0∧m.num=0∧m.l.length=0)
  else if m.kind=2 then decide (m.num=0)&&Gq 0 m.l&&Au m.l m.normal
  else if m.kind=3 then decide (m.normal=0∧m.num=0)&&Gq 0 m.l&&Au m.l (m.view - 1)
  else if m.kind=4 then decide (m.normal=0)&&Gq m.num m.l&&Au m.l m.view
  else if m.kind=5∨m.kind=6 then decide (m.normal=0∧m.l.length=0) else false):=by
   unfold okM
   rw[decide_eq_true (by omega),Bool.true_and]
 have hlen:(((m.l.map enE).length:Nat):Int)=m.l.length:=by rw[aa]
 rw[hb]
 have rowR:∀v,v≤big→(Bo m.l&&Au m.l v)=(Gq 0 m.l&&Au m.l v):=fun v hv=>by
  cases hm:Au m.l v with
  | true=>rw[X8 hm hv]
  | false=>simp
 refine de (fun(k1:m.kind=1)=>?_) fun(k1:m.kind≠1)=>?_
 ·rw[db k1]
  refine de (fun(a:m.normal=0)=>?_) fun(a:m.normal≠0)=>?_
  ·refine de (fun(b:m.num=0)=>?_) fun(b:m.num≠0)=>?_
   ·have:((((m.l.map enE).length:Nat):Int)==0)=decide (m.normal=0∧m.num=0∧m.l.length=0):=by
     rw[hlen,Bool.eq_iff_iff,beq_iff_eq,decide_eq_true_iff];omega
    rw[←this]
    exact rfl
   ·rw[decide_eq_false (fun hh=>b hh.2.1)]
    exact rfl
  ·rw[decide_eq_false (fun hh=>a hh.1)]
   exact rfl
 rw[da k1]
 refine de (fun(k2:m.kind=2)=>?_) fun(k2:m.kind≠2)=>?_
 ·rw[db k2,Bool.and_assoc,←rowR _ (by omega)]
  refine de (fun(a:m.num=0)=>?_) fun(a:m.num≠0)=>?_
  ·rw[decide_eq_true a,Bool.true_and]
   refine(T8 m.l hl).cal fun q hq=>?_
   subst hq
   refine dj (fun b=>?_) fun b=>?_
   ·refine(U9 m.l hl m.normal).cal fun q hq=>?_
    subst hq
    rw[b,Bool.true_and]
    exact rfl
   ·rw[b,Bool.false_and]
    exact rfl
  ·rw[decide_eq_false a,Bool.false_and]
   exact rfl
 rw[da k2]
 refine de (fun(k3:m.kind=3)=>?_) fun(k3:m.kind≠3)=>?_
 ·rw[db k3,Bool.and_assoc,←rowR _ (by omega)]
  refine de (fun(a:m.normal=0)=>?_) fun(a:m.normal≠0)=>?_
  ·refine de (fun(a2:m.num=0)=>?_) fun(a2:m.num≠0)=>?_
   ·rw[show decide (m.normal=0∧m.num=0)=true from decide_eq_true (And.intro a a2),Bool.true_and]
    refine(T8 m.l hl).cal fun q hq=>?_
    subst hq
    refine dj (fun b=>?_) fun b=>?_
    ·refine⟨by omega,?_⟩
     refine(U9 m.l hl (m.view - 1)).cal fun q hq=>?_
     subst hq
     rw[b,Bool.true_and]
     exact rfl
    ·rw[b,Bool.false_and]
     exact rfl
   ·rw[decide_eq_false (fun hh=>a2 hh.2),Bool.false_and]
    exact rfl
  ·rw[decide_eq_false (fun hh=>a hh.1),Bool.false_and]
   exact rfl
 rw[da k3]
 refine de (fun(k4:m.kind=4)=>?_) fun(k4:m.kind≠4)=>?_
 ·rw[db k4,Bool.and_assoc]
  refine de (fun(a:m.normal=0)=>?_) fun(a:m.normal≠0)=>?_
  ·rw[decide_eq_true a,Bool.true_and]
   refine(Zg3 m.num (by omega) (by omega) m.l hl).cal fun q hq=>?_
   subst hq
   refine dj (fun b=>?_) fun b=>?_
   ·refine(U9 m.l hl m.view).cal fun q hq=>?_
    subst hq
    rw[b,Bool.true_and]
    exact rfl
   ·rw[b,Bool.false_and]
    exact rfl
  ·rw[decide_eq_false a,Bool.false_and]
   exact rfl
 rw[da k4]
 have fin:(m.kind=5∨m.kind=6)→m.normal=0→G.v (.bool ((((m.l.map enE).length:Nat):Int)==0))=.v (.bool (if m.kind=5∨m.kind=6 then decide (m.normal=0∧m.l.length=0) else false)):=fun hk a=>by
  rw[db hk]
  have:((((m.l.map enE).length:Nat):Int)==0)=decide (m.normal=0∧m.l.length=0):=by
   rw[hlen,Bool.eq_iff_iff,beq_iff_eq,decide_eq_true_iff];omega
  rw[this]
 have fin0:(m.kind=5∨m.kind=6)→m.normal≠0→G.v (.bool false)=.v (.bool (if m.kind=5∨m.kind=6 then decide (m.normal=0∧m.l.length=0) else false)):=fun hk a=>by
  rw[db hk,decide_eq_false (fun hh=>a hh.1)]
 refine de (fun(k5:m.kind=5)=>?_) fun(k5:m.kind≠5)=>?_
 ·refine de (fun(_:m.kind=5)=>?_) fun(h:m.kind≠5)=>dc k5 h
  refine de (fun(a:m.normal=0)=>?_) fun(a:m.normal≠0)=>?_
  ·have f:=fin (.inl k5) a
   generalize (if m.kind=5∨m.kind=6 then decide (m.normal=0∧m.l.length=0) else false)=z at f⊢
   cases G.v.inj f
   exact rfl
  ·have f:=fin0 (.inl k5) a
   generalize (if m.kind=5∨m.kind=6 then decide (m.normal=0∧m.l.length=0) else false)=z at f⊢
   cases G.v.inj f
   exact rfl
 ·refine de (fun(k6:m.kind=6)=>?_) fun(k6:m.kind≠6)=>?_
  ·refine de (fun(a:m.normal=0)=>?_) fun(a:m.normal≠0)=>?_
   ·have f:=fin (.inr k6) a
    generalize (if m.kind=5∨m.kind=6 then decide (m.normal=0∧m.l.length=0) else false)=z at f⊢
    cases G.v.inj f
    exact rfl
   ·have f:=fin0 (.inr k6) a
    generalize (if m.kind=5∨m.kind=6 then decide (m.normal=0∧m.l.length=0) else false)=z at f⊢
    cases G.v.inj f
    exact rfl
  ·rw[da (by omega)]
   exact rfl
theorem Sy (n:Int):FnV Tryz.prog 44 [gI n] fun g=>g=.agg (Ed ⟨1,n,eS⟩):=by
 refine fnG Tryz.func44 ?_
 exact rfl
theorem Id (n:Int):FnV Tryz.prog 45 [gI n] fun g=>g=.agg (Ed ⟨2,n,eS⟩):=by
 refine fnG Tryz.func45 ?_
 exact rfl
def wrM (m:RM):G:=.tup [.v (.string ⟨(bM m).toArray⟩),gI (eM m)]
theorem Z9 {m:RM}(h:okM m=false):G.tup [.v (.string ⟨#[]⟩),gI 130]=wrM m:=by
 unfold wrM bM eM
 rw[h]
 rfl
theorem Ud {m:RM}{i:Nat}{c:REnt}(hc:m.l[i]?=some c):(mhF m++Rg (m.l.take i)).map Ed++(enF c).map Ed=(mhF m++Rg (m.l.take (i+1))).map Ed:=by
 rw[An hc,Z12,←bw,am (l₁:=mhF m++Rg (m.l.take i))]
theorem Yg (m:RM)(hl:m.l.length≤1000000):FnV Tryz.prog 11 [.agg (enM m)] fun g=>g=wrM m:=by
 refine fnG Tryz.func11 ?_
 refine(Pe m hl).cal fun q hq=>?_
 subst hq
 refine dj (fun hk=>?_) fun hk=>?_
 ·exact Z9 (by simpa using hk)
 have hk:okM m=true:=by simpa using hk
 have hl2:=(Aw hk).2.2.1
 have e6:(m.l.map enE).length=m.l.length:=aa ..
 refine(Sy _).con rfl ?_
 refine(Id _).con rfl ?_
 refine(Id _).con rfl ?_
 refine(Id _).con rfl ?_
 refine(Sy _).con rfl ?_
 refine Ap [30,31] [0] (fun i:Nat=>[(32,gI i),(4,.osl 1)]) (fun i=>[(1,.slc ((mhF m++Rg (m.l.take i)).map Ed) tFd 3)]) (fun i=>i≤m.l.length) (fun i=>m.l.length - i) 0 (ah _) ⟨⟨rfl,rfl⟩,⟨rfl,rfl⟩,trivial⟩ ⟨⟨rfl,rfl,eqR (by unfold mhF;rw[←e6];rfl)⟩,trivial⟩ rfl fun i hi=>?_
 refine df (fun hlt=>?_) (fun hlt=>?_)
 ·refine dn (by simpa using hlt) fun c hc=>?_
  have hlt:=Bl hc
  refine(Id _).cal fun q hq=>?_
  subst hq
  refine(Id _).cal fun q hq=>?_
  subst hq
  refine⟨by simp[L5,mhF];omega,?_⟩
  refine⟨by omega,i+1,by omega,(by dsimp only;omega),?_⟩
  refine⟨?_,?_,rfl⟩<;>repeat' (first|exact trivial|with_reducible rfl|exact rfl|refine And.intro ?_ ?_)
  exact eqR (Ud hc)
 ·have ht:m.l.take i=m.l:=ao (by simp at hlt;omega)
  rw[ht]
  have hE:=T0 hk
  refine(Ue (mF m) (by unfold mF mhF;simp[L5];omega)).cal fun q rs hq=>?_
  obtain⟨rfl,rfl⟩:=hq
  refine di (fun(he:M7 (mF m)≠0)=>dc hE he) fun _=>?_
  have eR:Q4 (mF m)=bM m:=by unfold Q4 bM;rw[db hE,db hk]
  rw[eR]
  refine⟨_,rfl,?_⟩
  have e0:eM m=0:=by unfold eM;rw[db hk]
  unfold wrM
  rw[e0]
  exact rfl
theorem Z2q {b:Bs}{a c d e g:RFd}(h:(Ah kMh b).e=0)(hl:(Ah kMh b).l=[a,c,d,e,g]):Rl b=g.n∧0≤g.n∧g.n≤255:=by
 refine⟨by unfold Rl;rw[hl],?_⟩
 obtain⟨e1,e2,e3⟩:=Nu kMh b h
 rw[hl] at e1 e3
 simp only[List.map_cons,List.map_nil,kMh,List.cons.injEq,and_true] at e3
 have zg:=Ej e1 g (by simp)
 rcases Jf zg with⟨hh,-⟩ | ⟨hh,-,h0⟩
 ·omega
 ·omega
structure Zc6 (b:Bs)(i:Nat)(c:Bs)(n:Nat):Prop where
 ee:(Ah (Eu i) (b.drop (Ah kMh b).n)).e=0
 nle:n≤c.length
 len:c.length≤b.length
 dd:c.drop n=(b.drop (Ah kMh b).n).drop (Ah (Eu i) (b.drop (Ah kMh b).n)).n
def S9 (b:Bs)(i:Nat):List REnt:=toE (Ah (Eu i) (b.drop (Ah kMh b).n)).l
theorem R1 {b c:Bs}{i n:Nat}(h:Zc6 b i c n)(h0:(Ah kEn (c.drop n)).e=0):Zc6 b (i+1) (c.drop n) (Ah kEn (c.drop n)).n∧∃x1 x2 x3,(Ah kEn (c.drop n)).l=[x1,x2,x3]∧S9 b (i+1)=S9 b i++[⟨x1.n,x2.n,x3.s⟩]:=by
 have ha:=P1 (Eu i) kEn (b.drop (Ah kMh b).n) h.ee
 rw[←h.dd,da (fun hh=>hh h0)] at ha
 have hk:Eu (i+1)=Eu i++kEn:=rfl
 have h6:=(Cg kEn (c.drop n)).2 h0
 have hle:=(Cg kEn (c.drop n)).1
 refine⟨⟨by rw[hk,ha],hle,by rw[ba];have:=h.len;omega,?_⟩,?_⟩
 ·rw[hk,ha,←List.drop_drop,←h.dd]
 ·match hl:(Ah kEn (c.drop n)).l,h6 with
  | [x1,x2,x3],_ =>
   refine⟨x1,x2,x3,rfl,?_⟩
   unfold S9
   rw[hk,ha,hl]
   have:=(Cg (Eu i) (b.drop (Ah kMh b).n)).2 h.ee
   rw[Ey] at this
   rw[Yi i _ _ this]
   rfl
theorem U4 {b c:Bs}{i k n:Nat}(h:Zc6 b i c n)(h0:(Ah kEn (c.drop n)).e≠0)(hi:i < k)(hk:Rl b=k):¬Jd b:=fun ho=>by
 obtain⟨d1,-,-⟩:=Lc ho.2.1
 rw[hk,ay,show k=i+1+(k - (i+1)) by omega,Ua] at d1
 have ha:=P1 (Eu i) kEn (b.drop (Ah kMh b).n) h.ee
 rw[←h.dd,db h0] at ha
 have hb:(Ah (Eu (i+1)) (b.drop (Ah kMh b).n)).e≠0:=by
  show(Ah (Eu i++kEn) _).e≠0
  rw[ha];exact h0
 rw[Ke _ _ _ hb] at d1
 exact hb d1
theorem Vd {b c:Bs}{k n:Nat}(h:Zc6 b k c n)(hk:Rl b=k):((Jy (Eu (Rl b).toNat) (b.drop (Ah kMh b).n)).e=0↔n=c.length)∧(n=c.length→(Jy (Eu (Rl b).toNat) (b.drop (Ah kMh b).n)).l=(Ah (Eu k) (b.drop (Ah kMh b).n)).l):=by
 have hd:(c.drop n).length=((b.drop (Ah kMh b).n).drop (Ah (Eu k) (b.drop (Ah kMh b).n)).n).length:=by rw[h.dd]
 rw[ba,ba] at hd
 have hle:=(Cg (Eu k) (b.drop (Ah kMh b).n)).1
 have hn:=h.nle
 rw[hk,ay]
 refine⟨⟨fun ho=>?_,fun hh=>?_⟩,fun hh=>?_⟩
 ·obtain⟨-,d2,-⟩:=Lc ho
  omega
 ·unfold Jy
  rw[da (fun hh=>hh h.ee),da (fun hh=>hh (by omega))]
  exact h.ee
 ·unfold Jy
  rw[da (fun hh=>hh h.ee),da (fun hh=>hh (by omega))]
def rdM (b:Bs):G:=.tup [.agg (enM (mD b)),gI (eMd b)]
theorem Dz {b:Bs}(h:¬Jd b):G.tup [.agg (enM rm0),gI 130]=rdM b:=by unfold rdM mD eMd;rw[da h,da h]
theorem W3 {b:Bs}{m:RM}(h:Jd b)(hm:mOf b=m):G.tup [.agg (enM m),gI 0]=rdM b:=by
 unfold rdM mD eMd
 rw[db h,db h,hm]
inductive Z9y where
 | a
 | b (i:Nat) (c:Bs) (n:Nat)
abbrev tMs:Nat:=29
abbrev tEn:Nat:=71
def Zid (b0:Bs):Z9y→Ts
 | .a=>[(45,gI ((0:Nat):Int)),(4,.sl (b0.map gBy)),(6,gI ((Ah kMh b0).n:Nat))]
 | .b i c n=>[(45,gI (i:Nat)),(4,.sl (c.map gBy)),(6,gI (n:Nat)),(76,.osl 1)]
def Zig (b0:Bs)(h:List G)(kb ks:Nat):Z9y→Os
 | .a=>[(kb,.blk (h++[.nl]) tMs)]
 | .b i _ _=>[(kb,.blk (h++[.osl ks]) tMs),(ks,.slc ((S9 b0 i).map enE) tEn 3)]
def Zii (b0:Bs)(k:Nat):Z9y→Prop
 | .a=>True
 | .b i c n=>i≤k∧Zc6 b0 i c n
def Zc2 (k:Nat):Z9y→Nat
 | .a=>k
 | .b i _ _=>k - i
set_option maxHeartbeats 1000000 in
theorem Z2v (b:Bs)(hb:b.length≤2000000):FnV Tryz.prog 13 [.v (.string ⟨b.toArray⟩)] fun g=>g=rdM b:=by
 refine fnG Tryz.func13 ?_
 refine(W4 kMh b (by decide) (by omega)).cal fun q hq=>?_
 subst hq
 unfold smG
 refine di (fun he=>?_) (fun he=>?_)
 ·exact Dz fun ho=>he ho.1
 have he:(Ah kMh b).e=0:=he
 obtain⟨a,p,d,e,g,hl⟩:=Z9n he
 obtain⟨hC,hg0,hg1⟩:=Z2q he hl
 have hnl:=(Cg kMh b).1
 rw[hl]
 refine dl (f:=Ed) (l:=[a,p,d,e,g]) (by decide) rfl ?_
 refine dl (f:=Ed) (l:=[a,p,d,e,g]) (by decide) rfl ?_
 refine dl (f:=Ed) (l:=[a,p,d,e,g]) (by decide) rfl ?_
 refine dl (f:=Ed) (l:=[a,p,d,e,g]) (by decide) rfl ?_
 refine dl (f:=Ed) (l:=[a,p,d,e,g]) (by decide) rfl ?_
 have hgp:Rl b=(g.n.toNat:Nat):=by rw[hC];omega
 refine Ap [2,8,44] [0] (Zid b) (Zig b [gI a.n,gI p.n,gI d.n,gI e.n] 2 1) (Zii b g.n.toNat) (Zc2 g.n.toNat) .a trivial ⟨⟨rfl,rfl⟩,⟨rfl,rfl⟩,⟨rfl,rfl⟩,trivial⟩ ⟨RL1,trivial⟩ rfl fun x hI=>?_
 cases x with
 | a =>
  have hD:Zc6 b 0 b (Ah kMh b).n:=⟨rfl,hnl,af _,by rw[List.drop_drop];rfl⟩
  refine df (fun(hi:((0:Nat):Int) < g.n)=>?_) (fun(hi:¬((0:Nat):Int) < g.n)=>?_)
  ·skip
   have hlt:0 < g.n.toNat:=by omega
   refine⟨⟨by omega,by rw[aa];omega,by omega⟩,⟨Jm b,?_⟩⟩
   rw[L1]
   refine(W4 kEn (b.drop (Ah kMh b).n) (by decide) (by rw[ba];omega)).cal fun q hq=>?_
   subst hq
   unfold smG
   refine di (fun h0=>?_) (fun h0=>?_)
   ·exact Dz (U4 hD h0 hlt (by omega))
   have h0:(Ah kEn (b.drop (Ah kMh b).n)).e=0:=h0
   obtain⟨hD2,x1,x2,x3,hx,hst⟩:=R1 hD h0
   have hdl:(S9 b 0).length≤1000:=by
    have:=(Cg (Eu 0) (b.drop (Ah kMh b).n)).2 hD.ee
    rw[Ey] at this
    unfold S9
    rw[Jh 0 _ this];omega
   rw[hx]
   refine dl (f:=Ed) (l:=[x1,x2,x3]) (by decide) rfl ?_
   refine dl (f:=Ed) (l:=[x1,x2,x3]) (by decide) rfl ?_
   refine dl (f:=Ed) (l:=[x1,x2,x3]) (by decide) rfl ?_
   refine⟨by simp;try omega,?_⟩
   refine⟨by omega,.b (0+1) (b.drop (Ah kMh b).n) (Ah kEn (b.drop (Ah kMh b).n)).n,⟨by omega,hD2⟩,(by dsimp only[Zc2];omega),?_⟩
   refine⟨?_,?_,rfl⟩<;>repeat' (first|exact trivial|with_reducible rfl|exact rfl|refine And.intro ?_ ?_)
   exact eqR (by rw[hst];rfl)
  ·skip
   have hi2:0=g.n.toNat:=by omega
   have hkk:Rl b=(0:Nat):=by omega
   obtain⟨hend,hrow⟩:=Vd hD hkk
   refine di (fun hh=>?_) (fun hh=>?_)
   ·have hh:((((Ah kMh b).n:Nat):Int))≠((((b).map gBy).length:Nat):Int):=hh
    rw[aa] at hh
    exact Dz fun ho=>by have:=hend.1 ho.2.1;omega
   ·have hh:((((Ah kMh b).n:Nat):Int))=((((b).map gBy).length:Nat):Int):=by simpa using hh
    rw[aa] at hh
    have hn2:(Ah kMh b).n=b.length:=by omega
    have hm:mOf b=⟨a.n,p.n,d.n,e.n,[]⟩:=by unfold mOf;rw[hl,hrow hn2];rfl
    have hln:(S9 b 0).length≤1000000:=by
     have:=(Cg (Eu 0) (b.drop (Ah kMh b).n)).2 hD.ee
     rw[Ey] at this
     unfold S9
     rw[Jh 0 _ this];omega
    refine(Pe ⟨a.n,p.n,d.n,e.n,[]⟩ (ah _)).cal fun q hq=>?_
    subst hq
    skip
    refine dj (fun hk=>?_) fun hk=>?_
    ·exact Dz fun ho=>by have:=ho.2.2;rw[hm] at this;rw[this] at hk;cases hk
    ·have hk:okM ⟨a.n,p.n,d.n,e.n,[]⟩=true:=by simpa using hk
     have ho:Jd b:=⟨he,hend.2 hn2,by rw[hm];exact hk⟩
     exact W3 ho hm
 | b i c n =>
  obtain⟨hik,hD⟩:=hI
  have hn:=hD.nle
  have hcl:=hD.len
  refine df (fun(hi:((i:Nat):Int) < g.n)=>?_) (fun(hi:¬((i:Nat):Int) < g.n)=>?_)
  ·skip
   have hlt:i < g.n.toNat:=by omega
   refine⟨⟨by omega,by rw[aa];omega,by omega⟩,⟨Jm c,?_⟩⟩
   rw[L1]
   refine(W4 kEn (c.drop n) (by decide) (by rw[ba];omega)).cal fun q hq=>?_
   subst hq
   unfold smG
   refine di (fun h0=>?_) (fun h0=>?_)
   ·exact Dz (U4 hD h0 hlt (by omega))
   have h0:(Ah kEn (c.drop n)).e=0:=h0
   obtain⟨hD2,x1,x2,x3,hx,hst⟩:=R1 hD h0
   have hdl:(S9 b i).length≤1000:=by
    have:=(Cg (Eu i) (b.drop (Ah kMh b).n)).2 hD.ee
    rw[Ey] at this
    unfold S9
    rw[Jh i _ this];omega
   rw[hx]
   refine dl (f:=Ed) (l:=[x1,x2,x3]) (by decide) rfl ?_
   refine dl (f:=Ed) (l:=[x1,x2,x3]) (by decide) rfl ?_
   refine dl (f:=Ed) (l:=[x1,x2,x3]) (by decide) rfl ?_
   refine⟨by simp;try omega,?_⟩
   refine⟨by omega,.b (i+1) (c.drop n) (Ah kEn (c.drop n)).n,⟨by omega,hD2⟩,(by dsimp only[Zc2];omega),?_⟩
   refine⟨?_,?_,rfl⟩<;>repeat' (first|exact trivial|with_reducible rfl|exact rfl|refine And.intro ?_ ?_)
   exact eqR (by rw[hst,am];rfl)
  ·skip
   have hi2:i=g.n.toNat:=by omega
   have hkk:Rl b=(i:Nat):=by omega
   obtain⟨hend,hrow⟩:=Vd hD hkk
   refine di (fun hh=>?_) (fun hh=>?_)
   ·have hh:(((n:Nat):Int))≠((((c).map gBy).length:Nat):Int):=hh
    rw[aa] at hh
    exact Dz fun ho=>by have:=hend.1 ho.2.1;omega
   ·have hh:(((n:Nat):Int))=((((c).map gBy).length:Nat):Int):=by simpa using hh
    rw[aa] at hh
    have hn2:n=c.length:=by omega
    have hm:mOf b=⟨a.n,p.n,d.n,e.n,S9 b i⟩:=by unfold mOf;rw[hl,hrow hn2];rfl
    have hln:(S9 b i).length≤1000000:=by
     have:=(Cg (Eu i) (b.drop (Ah kMh b).n)).2 hD.ee
     rw[Ey] at this
     unfold S9
     rw[Jh i _ this];omega
    refine dg (.frz 1 _ _ _ rfl (.seen 2 _ _ rfl (.done (.see (.same ((Pe ⟨a.n,p.n,d.n,e.n,S9 b i⟩ hln).cal fun q hq=>?_))))))
    subst hq
    refine .done ?_
    refine dj (fun hk=>?_) fun hk=>?_
    ·exact Dz fun ho=>by have:=ho.2.2;rw[hm] at this;rw[this] at hk;cases hk
    ·have hk:okM ⟨a.n,p.n,d.n,e.n,S9 b i⟩=true:=by simpa using hk
     have ho:Jd b:=⟨he,hend.2 hn2,by rw[hm];exact hk⟩
     exact W3 ho hm
theorem Rc (s:ByteArray)(hs:s.size≤2000000):FnV Tryz.prog 13 [.v (.string s)] fun g=>g=rdM s.data.toList :=
 Z2v s.data.toList (by rw[cb];exact hs)
theorem Zah {l:List REnt}{i:Nat}{p:REnt}(h:l[i]?=some p):vw 1 (l.take (i+1))=p.v:=by
 rw[List.take_add_one,h]
 exact Sd _ _ _
theorem Zdr:∀{l:List REnt} {k v:Int},Gd k v l=true→v≤vw v l
 | [],_,_,_=>bp _
 | e::l,k,v,h=>by
  rw[J4,aq,decide_eq_true_iff] at h
  have ih:=Zdr h.2
  have ev:vw v (e::l)=vw e.v l:=by
   unfold vw
   rw[List.getLast?_cons]
   cases l.getLast?<;>rfl
  rw[ev];omega
theorem Z0d (k:Int)(hk0:-1000≤k)(hk1:k≤1000000)(l:List REnt)(hl:l.length≤1000000)(hi:Int):FnV Tryz.prog 86 [.sl (l.map enE),gI k,gI hi] fun g=>g=.v (.bool (Gq k l&&Au l hi)):=by
 refine fnG Tryz.func86 ?_
 have bad:Gd k 1 l=false→G.v (.bool false)=.v (.bool (Gq k l&&Au l hi)):=fun h=>by unfold Gq;rw[h];rfl
 have bad2:Au l hi=false→G.v (.bool false)=.v (.bool (Gq k l&&Au l hi)):=fun h=>by rw[h,Bool.and_false]
 refine Ap [0,1,2] [] (fun i:Nat=>[(7,gI i)]) (fun _=>[]) (fun i=>i≤l.length∧Gd k 1 (l.take i)=true∧Au (l.take i) hi=true) (fun i=>l.length - i) 0 ⟨ah _,rfl,rfl⟩ ⟨⟨rfl,rfl⟩,trivial⟩ trivial rfl fun i hI=>?_
 obtain⟨hil,hI,hM⟩:=hI
 refine df (fun h=>?_) (fun h=>?_)
 ·have h:i < l.length:=by simpa using h
  obtain⟨e,he⟩:∃e,l[i]?=some e:=⟨_,ab h⟩
  have hge:=Zdr hI
  have hno:¬e.v≤hi→Au l hi=false:=fun hh=>by
   cases hm:Au l hi with
   | false=>rfl
   | true=>exact dc (J6 hm e (ae he)) hh
  refine dk he ?_
  refine⟨by omega,by omega,?_⟩
  refine di (fun h1=>bad (E9 he fun hh=>h1 (by omega))) fun h1=>?_
  refine dk he ?_
  refine df (fun h2=>bad (E9 he fun hh=>by omega)) fun h2=>?_
  refine dk he ?_
  refine df (fun h3=>bad (E9 he fun hh=>by omega)) fun h3=>?_
  refine dk he ?_
  refine df (fun h4=>bad2 (hno (by omega))) fun h4=>?_
  refine dk he ?_
  refine df (fun h5=>bad (E9 he fun hh=>by omega)) fun h5=>?_
  have hM2:Au (l.take (i+1)) hi=true:=by
   unfold Au at hM⊢
   rw[List.take_add_one,he,List.all_append,hM]
   show(decide (e.v≤hi)&&true)=true
   rw[decide_eq_true (by omega)];rfl
  refine df (fun h6=>?_) fun h6=>?_
  ·obtain⟨j,rfl⟩:∃j,i=j+1:=⟨i - 1,by omega⟩
   obtain⟨p,hp⟩:∃p,l[j]?=some p:=⟨_,ab (by omega)⟩
   have hv:=Zah hp
   refine dk he ?_
   refine⟨by omega,?_⟩
   refine dl (by omega) (show l[(((j+1:Nat):Int) - 1).toNat]?=some p by rw[show(((j+1:Nat):Int) - 1).toNat=j by omega];exact hp) ?_
   refine df (fun h7=>bad (E9 he fun hh=>by omega)) fun h7=>?_
   obtain⟨s1,s2⟩:=M6 he hI ⟨by omega,by omega,by omega,by omega⟩
   refine⟨by omega,j+1+1,⟨by omega,s1,hM2⟩,(by dsimp only;omega),?_⟩
   refine⟨?_,?_,rfl⟩<;>repeat' (first|exact trivial|with_reducible rfl|exact rfl|refine And.intro ?_ ?_)
  ·obtain rfl:i=0:=by omega
   obtain⟨s1,s2⟩:=M6 he hI ⟨by omega,by omega,by show(1:Int)≤e.v;omega,by omega⟩
   refine⟨by omega,0+1,⟨by omega,s1,hM2⟩,(by dsimp only;omega),?_⟩
   refine⟨?_,?_,rfl⟩<;>repeat' (first|exact trivial|with_reducible rfl|exact rfl|refine And.intro ?_ ?_)
 ·have hlen:(((l.map enE).length:Nat):Int)=l.length:=by rw[aa]
  rw[hlen] at h
  rw[ao (by omega)] at hI hM
  have e:(Gq k l&&Au l hi)=decide (((l.map enE).length:Int)≤150):=by
   unfold Gq
   rw[hI,hM,hlen,Bool.true_and,Bool.and_true]
   exact decide_eq_decide.2 (by omega)
  rw[e]
  exact rfl
theorem Oq (m:RM)(hl:m.l.length≤1000000):FnV Tryz.prog 47 [.agg (enM m)] fun g=>g=.v (.bool (okM m)):=by
 refine fnG Tryz.func47 ?_
 have bad:¬(1≤m.view∧m.view≤big∧0≤m.normal∧m.normal < m.view∧0≤m.num∧m.num≤150)→G.v (.bool false)=.v (.bool (okM m)):=fun h=>by unfold okM;rw[decide_eq_false h];rfl
 have hbig:big=4611686018427387904:=rfl
 refine df (fun h1=>bad fun hh=>by omega) fun h1=>?_
 refine df (fun h2=>bad fun hh=>by omega) fun h2=>?_
 refine df (fun h3=>bad fun hh=>by omega) fun h3=>?_
 refine df (fun h4=>bad fun hh=>by omega) fun h4=>?_
 refine df (fun h5=>bad fun hh=>by omega) fun h5=>?_
 refine df (fun h6=>bad fun hh=>by omega) fun h6=>?_
 have hb:okM m=(if m.kind=1 then decide (m.normal=0∧m.num=0∧m.l.length=0)
  else if m.kind=2 then decide (m.num=0)&&Gq 0 m.l&&Au m.l m.normal
  else if m.kind=3 then decide (m.normal=0∧m.num=0)&&Gq 0 m.l&&Au m.l (m.view - 1)
  else if m.kind=4 then decide (m.normal=0)&&Gq m.num m.l&&Au m.l m.view
  else if m.kind=5∨m.kind=6 then decide (m.normal=0∧m.l.length=0) else false):=by
   unfold okM
   rw[decide_eq_true (by omega),Bool.true_and]
 have hlen:(((m.l.map enE).length:Nat):Int)=m.l.length:=by rw[aa]
 rw[hb]
 have lenB:m.normal=0→((((m.l.map enE).length:Nat):Int)==0)=decide (m.normal=0∧m.l.length=0):=fun a=>by
  rw[hlen,Bool.eq_iff_iff,beq_iff_eq,decide_eq_true_iff];omega
 refine de (fun(k2:m.kind=2)=>?_) fun(k2:m.kind≠2)=>?_
 ·rw[da (by omega),db k2]
  refine de (fun(a:m.num=0)=>?_) fun(a:m.num≠0)=>?_
  ·rw[decide_eq_true a,Bool.true_and]
   refine(Z0d 0 (by decide) (by decide) m.l hl m.normal).cal fun q hq=>?_
   subst hq
   exact rfl
  ·rw[decide_eq_false a,Bool.false_and]
   exact rfl
 refine di (fun(a:m.normal≠0)=>?_) fun(a:m.normal=0)=>?_
 ·have:(if m.kind=1 then decide (m.normal=0∧m.num=0∧m.l.length=0)
   else if m.kind=2 then decide (m.num=0)&&Gq 0 m.l&&Au m.l m.normal
   else if m.kind=3 then decide (m.normal=0∧m.num=0)&&Gq 0 m.l&&Au m.l (m.view - 1)
   else if m.kind=4 then decide (m.normal=0)&&Gq m.num m.l&&Au m.l m.view
   else if m.kind=5∨m.kind=6 then decide (m.normal=0∧m.l.length=0) else false)=false:=by
    rw[da k2]
    rw[show decide (m.normal=0∧m.num=0∧m.l.length=0)=false from decide_eq_false fun h=>a h.1,show decide (m.normal=0∧m.num=0)=false from decide_eq_false fun h=>a h.1,show decide (m.normal=0)=false from decide_eq_false a,show decide (m.normal=0∧m.l.length=0)=false from decide_eq_false fun h=>a h.1]
    simp
  rw[this]
  exact rfl
 refine de (fun(k1:m.kind=1)=>?_) fun(k1:m.kind≠1)=>?_
 ·rw[db k1]
  refine de (fun(b:m.num=0)=>?_) fun(b:m.num≠0)=>?_
  ·have:((((m.l.map enE).length:Nat):Int)==0)=decide (m.normal=0∧m.num=0∧m.l.length=0):=by
    rw[hlen,Bool.eq_iff_iff,beq_iff_eq,decide_eq_true_iff];omega
   rw[←this]
   exact rfl
  ·rw[show decide (m.normal=0∧m.num=0∧m.l.length=0)=false from decide_eq_false fun hh=>b hh.2.1]
   exact rfl
 rw[da k1,da k2]
 refine de (fun(k3:m.kind=3)=>?_) fun(k3:m.kind≠3)=>?_
 ·rw[db k3]
  refine de (fun(a2:m.num=0)=>?_) fun(a2:m.num≠0)=>?_
  ·rw[show decide (m.normal=0∧m.num=0)=true from decide_eq_true (And.intro a a2),Bool.true_and]
   refine⟨by omega,?_⟩
   refine(Z0d 0 (by decide) (by decide) m.l hl (m.view - 1)).cal fun q hq=>?_
   subst hq
   exact rfl
  ·rw[show decide (m.normal=0∧m.num=0)=false from decide_eq_false (fun hh=>a2 hh.2),Bool.false_and]
   exact rfl
 rw[da k3]
 refine de (fun(k4:m.kind=4)=>?_) fun(k4:m.kind≠4)=>?_
 ·rw[db k4,decide_eq_true a,Bool.true_and]
  refine(Z0d m.num (by omega) (by omega) m.l hl m.view).cal fun q hq=>?_
  subst hq
  exact rfl
 rw[da k4,←lenB a]
 refine de (fun(k5:m.kind=5)=>?_) fun(k5:m.kind≠5)=>?_
 ·refine de (fun(_:m.kind=5)=>?_) fun(h:m.kind≠5)=>dc k5 h
  rw[db (.inl k5)]
  exact rfl
 ·refine de (fun(k6:m.kind=6)=>?_) fun(k6:m.kind≠6)=>?_
  ·rw[db (.inr k6)]
   exact rfl
  ·rw[da (by omega)]
   exact rfl
theorem Z0l (m:RM)(hl:m.l.length≤1000000):FnV Tryz.prog 12 [.agg (enM m)] fun g=>g=wrM m:=by
 refine fnG Tryz.func12 ?_
 refine(Oq m hl).cal fun q hq=>?_
 subst hq
 refine dj (fun hk=>?_) fun hk=>?_
 ·exact Z9 (by simpa using hk)
 have hk:okM m=true:=by simpa using hk
 have hl2:=(Aw hk).2.2.1
 have e6:(m.l.map enE).length=m.l.length:=aa ..
 refine Ap [1] [0] (fun i:Nat=>[(5,gI i),(4,.osl 1)]) (fun i=>[(1,.slc ((mhF m++Rg (m.l.take i)).map Ed) tFd 3)]) (fun i=>i≤m.l.length) (fun i=>m.l.length - i) 0 (ah _) ⟨⟨rfl,rfl⟩,⟨rfl,rfl⟩,trivial⟩ ⟨⟨rfl,rfl,eqR (by unfold mhF;rw[←e6];rfl)⟩,trivial⟩ rfl fun i hi=>?_
 refine df (fun hlt=>?_) (fun hlt=>?_)
 ·have hlt:i < m.l.length:=by simpa using hlt
  obtain⟨c,hc⟩:∃c,m.l[i]?=some c:=⟨_,ab hlt⟩
  refine dk hc ?_
  refine dk hc ?_
  refine dk hc ?_
  refine⟨by simp[L5,mhF];omega,?_⟩
  refine⟨by omega,i+1,by omega,(by dsimp only;omega),?_⟩
  refine⟨?_,?_,rfl⟩<;>repeat' (first|exact trivial|with_reducible rfl|exact rfl|refine And.intro ?_ ?_)
  exact eqR (Ud hc)
 ·have ht:m.l.take i=m.l:=ao (by simp at hlt;omega)
  rw[ht]
  have hE:=T0 hk
  refine(Z6f (mF m) (by unfold mF mhF;simp[L5];omega)).cal fun q hq=>?_
  subst hq
  have eR:Q4 (mF m)=bM m:=by unfold Q4 bM;rw[db hE,db hk]
  rw[eR]
  refine⟨_,rfl,?_⟩
  have e0:eM m=0:=by unfold eM;rw[db hk]
  unfold wrM
  rw[e0]
  exact rfl
theorem ix3 {l:List RFd}{i j:Nat}{x:RFd}(h:l[3 * i+j]?=some x):l[(3 * (i:Int)+(j:Int)).toNat]?=some x:=by
 rw[show(3 * (i:Int)+(j:Int)).toNat=3 * i+j by omega];exact h
theorem Zi3 {l:List RFd}{i:Nat}{x:RFd}(h:l[3 * i]?=some x):l[(3 * (i:Int)).toNat]?=some x:=by
 rw[show(3 * (i:Int)).toNat=3 * i by omega];exact h
abbrev Zfc:Nat:=24
def Ziw:Z9y→Ts
 | .a=>[(12,gI ((0:Nat):Int))]
 | .b i _ _=>[(12,gI (i:Nat)),(97,.osl 1)]
def Zip (C:List REnt)(h:List G):Z9y→Os
 | .a=>[(3,.blk (h++[.nl]) Zfc)]
 | .b i _ _=>[(3,.blk (h++[.osl 1]) Zfc),(1,.slc ((C.take i).map enE) tEn 3)]
def Ziu (k:Nat):Z9y→Prop
 | .a=>True
 | .b i _ _=>i≤k
theorem Z0x (i:Nat):(Eu i).map gNi++kEn.map gNi=(Eu (i+1)).map gNi:=by
 show _=(Eu i++kEn).map gNi
 rw[am]
set_option maxHeartbeats 2000000 in
theorem Z3h (b:Bs)(hb:b.length≤2000000):FnV Tryz.prog 14 [.v (.string ⟨b.toArray⟩)] fun g=>g=rdM b:=by
 refine fnG Tryz.func14 ?_
 refine(Z7r kMh b (by decide) (by omega)).cal fun q hq=>?_
 subst hq
 unfold smG
 refine di (fun he=>?_) (fun he=>?_)
 ·exact Dz fun ho=>he ho.1
 have he:(Ah kMh b).e=0:=he
 obtain⟨a,p,d,e,g,hl⟩:=Z9n he
 obtain⟨hC,hg0,hg1⟩:=Z2q he hl
 have hnl:=(Cg kMh b).1
 rw[hl]
 have hgp:Rl b=(g.n.toNat:Nat):=by rw[hC];omega
 refine Ap [0,2,4,5] [0] (fun i:Nat=>[(8,gI i),(7,.osl 2)]) (fun i=>[(2,.slc ((Eu i).map gNi) 3 1)]) (fun i=>i≤g.n.toNat) (fun i=>g.n.toNat - i) 0 (by omega) ⟨⟨rfl,rfl⟩,⟨rfl,rfl⟩,trivial⟩ ⟨RL1,trivial⟩ rfl fun i hi=>?_
 refine dl (f:=Ed) (l:=[a,p,d,e,g]) (by decide) rfl ?_
 refine df (fun(hi2:((i:Nat):Int) < g.n)=>?_) (fun(hi2:¬((i:Nat):Int) < g.n)=>?_)
 ·refine⟨by simp[Ey];omega,?_⟩
  refine⟨by omega,i+1,by omega,(by dsimp only;omega),?_⟩
  refine⟨?_,?_,rfl⟩<;>repeat' (first|exact trivial|with_reducible rfl|exact rfl|refine And.intro ?_ ?_)
  exact eqR (Z0x i)
 have hig:i=g.n.toNat:=by omega
 subst hig
 refine⟨⟨by omega,by rw[aa];show _≤((b.length:Nat):Int);omega,by omega⟩,⟨Jm b,?_⟩⟩
 rw[L1]
 refine(Z45 (Eu g.n.toNat) (b.drop (Ah kMh b).n) (by rw[Ey];omega) (by rw[ba];omega)).cal fun q hq=>?_
 subst hq
 refine dl (f:=Ed) (l:=[a,p,d,e,g]) (by decide) rfl ?_
 refine dl (f:=Ed) (l:=[a,p,d,e,g]) (by decide) rfl ?_
 refine dl (f:=Ed) (l:=[a,p,d,e,g]) (by decide) rfl ?_
 refine dl (f:=Ed) (l:=[a,p,d,e,g]) (by decide) rfl ?_
 by_cases hd:(Jy (Eu g.n.toNat) (b.drop (Ah kMh b).n)).e=0
 ·rw[hd]
  obtain⟨d1,d2,d3⟩:=Lc hd
  have hLn:=(Cg (Eu g.n.toNat) (b.drop (Ah kMh b).n)).2 d1
  rw[Ey,←d3] at hLn
  have hCL:=Jh _ _ hLn
  have hm:mOf b=⟨a.n,p.n,d.n,e.n,toE (Jy (Eu g.n.toNat) (b.drop (Ah kMh b).n)).l⟩:=by unfold mOf;rw[hl,hgp,ay]
  generalize hLL:(Jy (Eu g.n.toNat) (b.drop (Ah kMh b).n)).l=LL at hLn hCL hm⊢
  refine Ap [2,4,9,10,11] [0] Ziw (Zip (toE LL) [gI a.n,gI p.n,gI d.n,gI e.n]) (Ziu g.n.toNat) (Zc2 g.n.toNat) .a trivial ⟨⟨rfl,rfl⟩,trivial⟩ ⟨RL1,trivial⟩ rfl fun x hI=>?_
  cases x with
  | a =>
   refine dl (f:=Ed) (l:=[a,p,d,e,g]) (by decide) rfl ?_
   refine df (fun(hi2:((0:Nat):Int) < g.n)=>?_) (fun(hi2:¬((0:Nat):Int) < g.n)=>?_)
   ·obtain⟨x1,x2,x3,h1,h2,h3,hx⟩:=Z1f 0 g.n.toNat LL hLn (by omega)
    refine de (fun _=>?_) fun h=>dc rfl h
    refine⟨by omega,?_⟩
    refine dl (f:=Ed) (l:=LL) (by omega) (Zi3 h1) ?_
    refine⟨by omega,?_⟩
    refine⟨by omega,?_⟩
    refine dl (f:=Ed) (l:=LL) (by omega) (ix3 (j:=1) h2) ?_
    refine⟨by omega,?_⟩
    refine⟨by omega,?_⟩
    refine dl (f:=Ed) (l:=LL) (by omega) (ix3 (j:=2) h3) ?_
    refine⟨by simp;try omega,?_⟩
    refine⟨by omega,.b (0+1) [] 0,(by show _≤_;omega),(by dsimp only[Zc2];omega),?_⟩
    refine⟨?_,?_,rfl⟩<;>repeat' (first|exact trivial|with_reducible rfl|exact rfl|refine And.intro ?_ ?_)
    exact eqR (by rw[An hx];rfl)
   ·skip
    have hi3:0=g.n.toNat:=by omega
    have hLe:toE LL=[]:=by exact al (by omega)
    rw[hLe] at hm
    refine di (fun h=>dc rfl h) fun _=>?_
    refine(Oq ⟨a.n,p.n,d.n,e.n,[]⟩ (ah _)).cal fun q hq=>?_
    subst hq
    skip
    refine dj (fun hk=>?_) fun hk=>?_
    ·exact Dz fun ho=>by have:=ho.2.2;rw[hm] at this;rw[this] at hk;cases hk
    ·have hk:okM ⟨a.n,p.n,d.n,e.n,[]⟩=true:=by simpa using hk
     have ho:Jd b:=⟨he,by rw[hgp,ay];exact hd,by rw[hm];exact hk⟩
     exact W3 ho hm
  | b i c0 n0 =>
   have hik:i≤g.n.toNat:=hI
   refine dl (f:=Ed) (l:=[a,p,d,e,g]) (by decide) rfl ?_
   refine df (fun(hi2:((i:Nat):Int) < g.n)=>?_) (fun(hi2:¬((i:Nat):Int) < g.n)=>?_)
   ·obtain⟨x1,x2,x3,h1,h2,h3,hx⟩:=Z1f i g.n.toNat LL hLn (by omega)
    refine de (fun _=>?_) fun h=>dc rfl h
    refine⟨by omega,?_⟩
    refine dl (f:=Ed) (l:=LL) (by omega) (Zi3 h1) ?_
    refine⟨by omega,?_⟩
    refine⟨by omega,?_⟩
    refine dl (f:=Ed) (l:=LL) (by omega) (ix3 (j:=1) h2) ?_
    refine⟨by omega,?_⟩
    refine⟨by omega,?_⟩
    refine dl (f:=Ed) (l:=LL) (by omega) (ix3 (j:=2) h3) ?_
    refine⟨by simp;try omega,?_⟩
    refine⟨by omega,.b (i+1) [] 0,(by show _≤_;omega),(by dsimp only[Zc2];omega),?_⟩
    refine⟨?_,?_,rfl⟩<;>repeat' (first|exact trivial|with_reducible rfl|exact rfl|refine And.intro ?_ ?_)
    exact eqR (by rw[An hx,am];rfl)
   ·skip
    have hi3:i=g.n.toNat:=by omega
    have hLe:toE LL=(toE LL).take i:=by rw[ao (by omega)]
    rw[hLe] at hm
    refine di (fun h=>dc rfl h) fun _=>?_
    refine dg (.frz 1 _ _ _ rfl (.seen 3 _ _ rfl (.done (.see (.same ((Oq ⟨a.n,p.n,d.n,e.n,(toE LL).take i⟩ (by rw[au];omega)).cal fun q hq=>?_))))))
    subst hq
    refine .done ?_
    refine dj (fun hk=>?_) fun hk=>?_
    ·exact Dz fun ho=>by have:=ho.2.2;rw[hm] at this;rw[this] at hk;cases hk
    ·have hk:okM ⟨a.n,p.n,d.n,e.n,(toE LL).take i⟩=true:=by simpa using hk
     have ho:Jd b:=⟨he,by rw[hgp,ay];exact hd,by rw[hm];exact hk⟩
     exact W3 ho hm
 ·have hbad:¬Jd b:=fun ho=>hd (by have:=ho.2.1;rwa [hgp,ay] at this)
  refine Ap [2,4,9,10,11,12] [0,3] (fun _:Unit=>[]) (fun _=>[]) (fun _=>True) (fun _=>0) () trivial trivial trivial rfl fun x hI=>?_
  refine dl (f:=Ed) (l:=[a,p,d,e,g]) (by decide) rfl ?_
  refine df (fun _=>?_) fun _=>?_
  ·refine de (fun h=>dc h hd) fun _=>?_
   refine di (fun _=>?_) fun h=>dc h hd
   exact Dz hbad
  ·refine di (fun _=>?_) fun h=>dc h hd
   exact Dz hbad
theorem Z32 (s:ByteArray)(hs:s.size≤2000000):FnV Tryz.prog 14 [.v (.string s)] fun g=>g=rdM s.data.toList :=
 Z3h s.data.toList (by rw[cb];exact hs)
end Go.Proofs.YtihfaocdpmmooaaGreat

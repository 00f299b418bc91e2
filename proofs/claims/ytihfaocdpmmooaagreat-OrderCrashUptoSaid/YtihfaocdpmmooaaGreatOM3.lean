
import Derived.Test.YtihfaocdpmmooaaGreatPl1
import Derived.Test.YtihfaocdpmmooaaGreatFn1
import Derived.Test.YtihfaocdpmmooaaGreatPKN
import Derived.Test.YtihfaocdpmmooaaGreatSxMe
namespace Go.Proofs.YtihfaocdpmmooaaGreat
open Go.RowKit
set_option maxRecDepth 100000
theorem Zjg (k:Int)(hk0:-1000≤k)(hk1:k≤1000000)(l:List REnt)(r:l.length≤1000000):FnV Tryz.prog 84 [.sl (l.map enE),gI k] fun g=>g=.v (.bool (Hp k l)):=by
 refine fnG Tryz.func84 ?_;have bad:Gq k 1 l=false→G.v (.bool false)=.v (.bool (Hp k l)):=fun h=>by unfold Hp;rw[h];rfl
 refine As [0,1,8,9] [] (fun i:Nat=>[(10,gI i),(5,gI (vw 1 (l.take i)))]) (fun _=>[]) (fun i=>i≤l.length∧Gq k 1 (l.take i)=true) (fun i=>l.length - i) 0 ⟨ah _,rfl⟩ ⟨⟨rfl,rfl⟩,⟨rfl,rfl⟩,trivial⟩ trivial rfl fun i hi=>?_;obtain⟨hi,d⟩:=hi;refine dg (fun h=>?_) (fun h=>?_)
 ·refine dp (by simpa using h) fun e b=>?_;have n:=C1 b;refine⟨by omega,by omega,?_⟩;refine dj (fun f=>bad (Ev b fun c=>f (by omega))) fun f=>?_;refine dg (fun o=>bad (Ev b fun c=>by omega)) fun o=>?_;refine dg (fun m=>bad (Ev b fun c=>by omega)) fun m=>?_;refine dg (fun p=>bad (Ev b fun c=>by omega)) fun p=>?_;obtain⟨j,q⟩:=M3 b d ⟨by omega,by omega,by omega,by omega⟩;refine⟨by omega,i+1,⟨by omega,j⟩,(by dsimp only;omega),?_⟩;refine⟨?_,?_,rfl⟩<;>repeat' (first|exact trivial|with_reducible rfl|exact rfl|refine And.intro ?_ ?_)
  exact congrArg (fun z=>some (gI z)) q.symm
 ·have a:(((l.map enE).length:Nat):Int)=l.length:=by rw[aa]
  rw[a] at h;rw[ap (by omega)] at d;have e:Hp k l=decide (((l.map enE).length:Int)≤150):=by unfold Hp;rw[d,a,Bool.true_and];exact decide_eq_decide.2 (by omega)
  rw[e];exact rfl
theorem Vr (l:List REnt)(k:l.length≤1000000)(v:Int):FnV Tryz.prog 60 [.sl (l.map enE),gI v] fun g=>g=.v (.bool (Aw l v)):=by
 refine fnG Tryz.func60 ?_;refine As [0,1,7,8] [] (fun i:Nat=>[(9,gI i)]) (fun _=>[]) (fun i=>i≤l.length∧Aw (l.take i) v=true) (fun i=>l.length - i) 0 ⟨ah _,rfl⟩ ⟨⟨rfl,rfl⟩,trivial⟩ trivial rfl fun i hi=>?_;obtain⟨hi,b⟩:=hi;refine dg (fun h=>?_) (fun h=>?_)
 ·refine dp (by simpa using h) fun e c=>?_;have f:=C1 c;refine dg (fun j=>?_) fun j=>?_
  ·have:Aw l v=false:=by
    cases hm:Aw l v with
    | false=>rfl
    | true=>exact de (Je hm e (ae c)) (by omega)
   rw[this];exact rfl
  ·have d:Aw (l.take (i+1)) v=true:=by
    unfold Aw at b⊢;rw[List.take_add_one,c,List.all_append,b];show(decide (e.v≤v)&&true)=true;rw[decide_eq_true (by omega)];rfl
   refine⟨by omega,i+1,⟨by omega,d⟩,(by dsimp only;omega),?_⟩;refine⟨?_,?_,rfl⟩<;>repeat' (first|exact trivial|with_reducible rfl|exact rfl|refine And.intro ?_ ?_)
 ·have a:(((l.map enE).length:Nat):Int)=l.length:=by rw[aa]
  rw[a] at h;rw[ap (by omega)] at b;rw[b];exact rfl
theorem R4:∀(l:List REnt) (i:Nat) (v:Int),(∀e∈l,e.v≤big)→i+l.length≤150→Ap v i l=Gq i v l
 | [],_,_,_,_=>rfl
 | e::l,i,v,h,a=>by
  have a:i+(l.length+1)≤150:=a;have d:=R4 l (i+1) e.v (fun x f=>h x (by simp[f])) (by omega);show(okB v i e&&Ap e.v (i+1) l)=_;rw[d,Jr];have c:=h e (by simp);unfold big at c;have:okB v i e=decide (e.n=(i:Int)+1∧e.n≤150∧v≤e.v∧e.b.size≤200):=by unfold okB;exact decide_eq_decide.2 (by omega)
  rw[this];rfl
theorem Zb {l:List REnt}{v:Int}(h:Aw l v=true)(c:v≤big):Bo l=Hp 0 l:=by
 unfold Bo Hp;by_cases b:l.length≤150
 ·rw[R4 l 0 1 (fun e a=>by have:=Je h e a;omega) (by omega)];rfl
 ·rw[decide_eq_false b];simp
def enM (m:RM):List G:=[gI m.kind,gI m.view,gI m.normal,gI m.num,.sl (m.l.map enE)]
theorem Q6 (m:RM)(k:m.l.length≤1000000):FnV Tryz.prog 43 [.agg (enM m)] fun g=>g=.v (.bool (okM m)):=by
 refine fnG Tryz.func43 ?_;have bad:¬(1≤m.view∧m.view≤big∧0≤m.normal∧m.normal < m.view∧0≤m.num∧m.num≤150)→G.v (.bool false)=.v (.bool (okM m)):=fun h=>by unfold okM;rw[decide_eq_false h];rfl
 have w:big=4611686018427387904:=rfl;refine dg (fun y=>bad fun c=>by omega) fun y=>?_;refine dg (fun B=>bad fun c=>by omega) fun B=>?_;refine dg (fun A=>bad fun c=>by omega) fun A=>?_;refine dg (fun C=>bad fun c=>by omega) fun C=>?_;refine dg (fun E=>bad fun c=>by omega) fun E=>?_;refine dg (fun F=>bad fun c=>by omega) fun F=>?_;have x:okM m=(if m.kind=1 then decide (m.normal=0∧m.num=0∧m.l.length=0)
  else if m.kind=2 then decide (m.num=0)&&Hp 0 m.l&&Aw m.l m.normal
  else if m.kind=3 then decide (m.normal=0∧m.num=0)&&Hp 0 m.l&&Aw m.l (m.view - 1)
  else if m.kind=4 then decide (m.normal=0)&&Hp m.num m.l&&Aw m.l m.view
  else if m.kind=5∨m.kind=6 then decide (m.normal=0∧m.l.length=0) else false):=by unfold okM;rw[decide_eq_true (by omega),Bool.true_and]
 have j:(((m.l.map enE).length:Nat):Int)=m.l.length:=by rw[aa]
 rw[x];have i:∀v,v≤big→(Bo m.l&&Aw m.l v)=(Hp 0 m.l&&Aw m.l v):=fun v D=>by
  cases hm:Aw m.l v with
  | true=>rw[Zb hm D]
  | false=>simp
 refine df (fun(p:m.kind=1)=>?_) fun(p:m.kind≠1)=>?_
 ·rw[dc p];refine df (fun(a:m.normal=0)=>?_) fun(a:m.normal≠0)=>?_
  ·refine df (fun(b:m.num=0)=>?_) fun(b:m.num≠0)=>?_
   ·have:((((m.l.map enE).length:Nat):Int)==0)=decide (m.normal=0∧m.num=0∧m.l.length=0):=by
     rw[j,Bool.eq_iff_iff,beq_iff_eq,decide_eq_true_iff];omega
    rw[←this];exact rfl
   ·rw[decide_eq_false (fun c=>b c.2.1)];exact rfl
  ·rw[decide_eq_false (fun c=>a c.1)];exact rfl
 rw[db p];refine df (fun(s:m.kind=2)=>?_) fun(s:m.kind≠2)=>?_
 ·rw[dc s,Bool.and_assoc,←i _ (by omega)];refine df (fun(a:m.num=0)=>?_) fun(a:m.num≠0)=>?_
  ·rw[decide_eq_true a,Bool.true_and];refine(T8 m.l k).cal fun q d=>?_;subst d;refine dk (fun b=>?_) fun b=>?_
   ·refine(Vr m.l k m.normal).cal fun q d=>?_;subst d;rw[b,Bool.true_and];exact rfl
   ·rw[b,Bool.false_and];exact rfl
  ·rw[decide_eq_false a,Bool.false_and];exact rfl
 rw[db s];refine df (fun(u:m.kind=3)=>?_) fun(u:m.kind≠3)=>?_
 ·rw[dc u,Bool.and_assoc,←i _ (by omega)];refine df (fun(a:m.normal=0)=>?_) fun(a:m.normal≠0)=>?_
  ·refine df (fun(a2:m.num=0)=>?_) fun(a2:m.num≠0)=>?_
   ·rw[show decide (m.normal=0∧m.num=0)=true from decide_eq_true (And.intro a a2),Bool.true_and];refine(T8 m.l k).cal fun q d=>?_;subst d;refine dk (fun b=>?_) fun b=>?_
    ·refine⟨by omega,?_⟩;refine(Vr m.l k (m.view - 1)).cal fun q d=>?_;subst d;rw[b,Bool.true_and];exact rfl
    ·rw[b,Bool.false_and];exact rfl
   ·rw[decide_eq_false (fun c=>a2 c.2),Bool.false_and];exact rfl
  ·rw[decide_eq_false (fun c=>a c.1),Bool.false_and];exact rfl
 rw[db u];refine df (fun(r:m.kind=4)=>?_) fun(r:m.kind≠4)=>?_
 ·rw[dc r,Bool.and_assoc];refine df (fun(a:m.normal=0)=>?_) fun(a:m.normal≠0)=>?_
  ·rw[decide_eq_true a,Bool.true_and];refine(Zjg m.num (by omega) (by omega) m.l k).cal fun q d=>?_;subst d;refine dk (fun b=>?_) fun b=>?_
   ·refine(Vr m.l k m.view).cal fun q d=>?_;subst d;rw[b,Bool.true_and];exact rfl
   ·rw[b,Bool.false_and];exact rfl
  ·rw[decide_eq_false a,Bool.false_and];exact rfl
 rw[db r];have fin:(m.kind=5∨m.kind=6)→m.normal=0→G.v (.bool ((((m.l.map enE).length:Nat):Int)==0))=.v (.bool (if m.kind=5∨m.kind=6 then decide (m.normal=0∧m.l.length=0) else false)):=fun t a=>by
  rw[dc t];have:((((m.l.map enE).length:Nat):Int)==0)=decide (m.normal=0∧m.l.length=0):=by rw[j,Bool.eq_iff_iff,beq_iff_eq,decide_eq_true_iff];omega
  rw[this]
 have e:(m.kind=5∨m.kind=6)→m.normal≠0→G.v (.bool false)=.v (.bool (if m.kind=5∨m.kind=6 then decide (m.normal=0∧m.l.length=0) else false)):=fun t a=>by rw[dc t,decide_eq_false (fun c=>a c.1)]
 refine df (fun(n:m.kind=5)=>?_) fun(n:m.kind≠5)=>?_
 ·refine df (fun(_:m.kind=5)=>?_) fun(h:m.kind≠5)=>de n h;refine df (fun(a:m.normal=0)=>?_) fun(a:m.normal≠0)=>?_
  ·have f:=fin (.inl n) a;generalize (if m.kind=5∨m.kind=6 then decide (m.normal=0∧m.l.length=0) else false)=z at f⊢;cases G.v.inj f;exact rfl
  ·have f:=e (.inl n) a;generalize (if m.kind=5∨m.kind=6 then decide (m.normal=0∧m.l.length=0) else false)=z at f⊢;cases G.v.inj f;exact rfl
 ·refine df (fun(o:m.kind=6)=>?_) fun(o:m.kind≠6)=>?_
  ·refine df (fun(a:m.normal=0)=>?_) fun(a:m.normal≠0)=>?_
   ·have f:=fin (.inr o) a;generalize (if m.kind=5∨m.kind=6 then decide (m.normal=0∧m.l.length=0) else false)=z at f⊢;cases G.v.inj f;exact rfl
   ·have f:=e (.inr o) a;generalize (if m.kind=5∨m.kind=6 then decide (m.normal=0∧m.l.length=0) else false)=z at f⊢;cases G.v.inj f;exact rfl
  ·rw[db (by omega)];exact rfl
theorem Ub (n:Int):FnV Tryz.prog 44 [gI n] fun g=>g=.agg (F1 ⟨1,n,eS⟩):=by refine fnG Tryz.func44 ?_;exact rfl
theorem Iu (n:Int):FnV Tryz.prog 45 [gI n] fun g=>g=.agg (F1 ⟨2,n,eS⟩):=by refine fnG Tryz.func45 ?_;exact rfl
def wrM (m:RM):G:=.tup [.v (.string ⟨(bM m).toArray⟩),gI (eM m)]
theorem Z1f {m:RM}(h:okM m=false):G.tup [.v (.string ⟨#[]⟩),gI 130]=wrM m:=by unfold wrM bM eM;rw[h];rfl
theorem Vj {m:RM}{i:Nat}{c:REnt}(a:m.l[i]?=some c):(mhF m++L9 (m.l.take i)).map F1++(enF c).map F1=(mhF m++L9 (m.l.take (i+1))).map F1:=by rw[Ar a,Z4a,←bx,ao (l₁:=mhF m++L9 (m.l.take i))]
theorem Z3x (m:RM)(p:m.l.length≤1000000):FnV Tryz.prog 11 [.agg (enM m)] fun g=>g=wrM m:=by
 refine fnG Tryz.func11 ?_;refine(Q6 m p).cal fun q d=>?_;subst d;refine dk (fun b=>?_) fun b=>?_
 ·exact Z1f (by simpa using b)
 have b:okM m=true:=by simpa using b
 have k:=(Az b).2.2.1;have o:(m.l.map enE).length=m.l.length:=aa ..;refine(Ub _).con rfl ?_;refine(Iu _).con rfl ?_;refine(Iu _).con rfl ?_;refine(Iu _).con rfl ?_;refine(Ub _).con rfl ?_;refine As [30,31] [0] (fun i:Nat=>[(32,gI i),(4,.osl 1)]) (fun i=>[(1,.slc ((mhF m++L9 (m.l.take i)).map F1) tFd 3)]) (fun i=>i≤m.l.length) (fun i=>m.l.length - i) 0 (ah _) ⟨⟨rfl,rfl⟩,⟨rfl,rfl⟩,trivial⟩ ⟨⟨rfl,rfl,eqR (by unfold mhF;rw[←o];rfl)⟩,trivial⟩ rfl fun i hi=>?_;refine dg (fun a=>?_) (fun a=>?_)
 ·refine dp (by simpa using a) fun c e=>?_;have a:=C1 e;refine(Iu _).cal fun q d=>?_;subst d;refine(Iu _).cal fun q d=>?_;subst d;refine⟨by simp[Ln,mhF];omega,?_⟩;refine⟨by omega,i+1,by omega,(by dsimp only;omega),?_⟩;refine⟨?_,?_,rfl⟩<;>repeat' (first|exact trivial|with_reducible rfl|exact rfl|refine And.intro ?_ ?_)
  exact eqR (Vj e)
 ·have n:m.l.take i=m.l:=ap (by simp at a;omega);rw[n];have f:=Qo b;refine(Vp (mF m) (by unfold mF mhF;simp[Ln];omega)).cal fun q rs d=>?_;obtain⟨rfl,rfl⟩:=d;refine dj (fun(r:Ie (mF m)≠0)=>de f r) fun _=>?_;have j:Sv (mF m)=bM m:=by unfold Sv bM;rw[dc f,dc b]
  rw[j];refine⟨_,rfl,?_⟩;have h:eM m=0:=by unfold eM;rw[dc b]
  unfold wrM;rw[h];exact rfl
theorem Z3g {b:Bs}{a c d e g:RFd}(h:(Aj kMh b).e=0)(j:(Aj kMh b).l=[a,c,d,e,g]):P5 b=g.n∧0≤g.n∧g.n≤255:=by
 refine⟨by unfold P5;rw[j],?_⟩;obtain⟨i,o,f⟩:=Pn kMh b h;rw[j] at i f;simp only[List.map_cons,List.map_nil,kMh,List.cons.injEq,and_true] at f;have k:=Dz i g (by simp);rcases Ke k with⟨m,-⟩ | ⟨m,-,h0⟩
 ·omega
 ·omega
structure Zec (b:Bs)(i:Nat)(c:Bs)(n:Nat):Prop where
 ee:(Aj (Ew i) (b.drop (Aj kMh b).n)).e=0
 nle:n≤c.length
 len:c.length≤b.length
 dd:c.drop n=(b.drop (Aj kMh b).n).drop (Aj (Ew i) (b.drop (Aj kMh b).n)).n
def U8 (b:Bs)(i:Nat):List REnt:=toE (Aj (Ew i) (b.drop (Aj kMh b).n)).l
theorem Ro {b c:Bs}{i n:Nat}(h:Zec b i c n)(k:(Aj kEn (c.drop n)).e=0):Zec b (i+1) (c.drop n) (Aj kEn (c.drop n)).n∧∃a f d,(Aj kEn (c.drop n)).l=[a,f,d]∧U8 b (i+1)=U8 b i++[⟨a.n,f.n,d.s⟩]:=by
 have ha:=Ot (Ew i) kEn (b.drop (Aj kMh b).n) h.ee;rw[←h.dd,db (fun m=>m k)] at ha;have j:Ew (i+1)=Ew i++kEn:=rfl;have o:=(Cu kEn (c.drop n)).2 k;have g:=(Cu kEn (c.drop n)).1;refine⟨⟨by rw[j,ha],g,by rw[bc];have:=h.len;omega,?_⟩,?_⟩
 ·rw[j,ha,←List.drop_drop,←h.dd]
 ·match hl:(Aj kEn (c.drop n)).l,o with
  | [a,f,d],_ =>
   refine⟨a,f,d,rfl,?_⟩;unfold U8;rw[j,ha,hl];have:=(Cu (Ew i) (b.drop (Aj kMh b).n)).2 h.ee;rw[Fj] at this;rw[Z0z i _ _ this];rfl
theorem Yg {b c:Bs}{i k n:Nat}(h:Zec b i c n)(f:(Aj kEn (c.drop n)).e≠0)(hi:i < k)(j:P5 b=k):¬Gw b:=fun g=>by
 obtain⟨a,-,-⟩:=M2 g.2.1;rw[j,az,show k=i+1+(k - (i+1)) by omega,Wp] at a;have ha:=Ot (Ew i) kEn (b.drop (Aj kMh b).n) h.ee;rw[←h.dd,dc f] at ha;have d:(Aj (Ew (i+1)) (b.drop (Aj kMh b).n)).e≠0:=by show(Aj (Ew i++kEn) _).e≠0;rw[ha];exact f
 rw[L5 _ _ _ d] at a;exact d a
theorem Xx {b c:Bs}{k n:Nat}(h:Zec b k c n)(g:P5 b=k):((K2 (Ew (P5 b).toNat) (b.drop (Aj kMh b).n)).e=0↔n=c.length)∧(n=c.length→(K2 (Ew (P5 b).toNat) (b.drop (Aj kMh b).n)).l=(Aj (Ew k) (b.drop (Aj kMh b).n)).l):=by
 have hd:(c.drop n).length=((b.drop (Aj kMh b).n).drop (Aj (Ew k) (b.drop (Aj kMh b).n)).n).length:=by rw[h.dd]
 rw[bc,bc] at hd;have d:=(Cu (Ew k) (b.drop (Aj kMh b).n)).1;have i:=h.nle;rw[g,az];refine⟨⟨fun f=>?_,fun a=>?_⟩,fun a=>?_⟩
 ·obtain⟨-,j,-⟩:=M2 f;omega
 ·unfold K2;rw[db (fun a=>a h.ee),db (fun a=>a (by omega))];exact h.ee
 ·unfold K2;rw[db (fun a=>a h.ee),db (fun a=>a (by omega))]
def rdM (b:Bs):G:=.tup [.agg (enM (mD b)),gI (eMd b)]
theorem En {b:Bs}(h:¬Gw b):G.tup [.agg (enM rm0),gI 130]=rdM b:=by unfold rdM mD eMd;rw[db h,db h]
theorem Vf {b:Bs}{m:RM}(h:Gw b)(a:mOf b=m):G.tup [.agg (enM m),gI 0]=rdM b:=by unfold rdM mD eMd;rw[dc h,dc h,a]
inductive Zc7 where
 | a
 | b (i:Nat) (c:Bs) (n:Nat)
abbrev tMs:Nat:=29
abbrev tEn:Nat:=71
def Zl8 (d:Bs):Zc7→Ts
 | .a=>[(45,gI ((0:Nat):Int)),(4,.sl (d.map gBy)),(6,gI ((Aj kMh d).n:Nat))]
 | .b i c n=>[(45,gI (i:Nat)),(4,.sl (c.map gBy)),(6,gI (n:Nat)),(76,.osl 1)]
def Zm0 (d:Bs)(h:List G)(c ks:Nat):Zc7→Os
 | .a=>[(c,.blk (h++[.nl]) tMs)]
 | .b i _ _=>[(c,.blk (h++[.osl ks]) tMs),(ks,.slc ((U8 d i).map enE) tEn 3)]
def Zle (d:Bs)(k:Nat):Zc7→Prop
 | .a=>True
 | .b i c n=>i≤k∧Zec d i c n
def Zeh (k:Nat):Zc7→Nat
 | .a=>k
 | .b i _ _=>k - i
set_option maxHeartbeats 1000000 in
theorem Z1g (b:Bs)(T:b.length≤2000000):FnV Tryz.prog 13 [.v (.string ⟨b.toArray⟩)] fun g=>g=rdM b:=by
 refine fnG Tryz.func13 ?_;refine(Xp kMh b (by decide) (by omega)).cal fun q u=>?_;subst u;unfold smG;refine dj (fun w=>?_) (fun w=>?_)
 ·exact En fun o=>w o.1
 have w:(Aj kMh b).e=0:=w;obtain⟨a,p,d,e,g,H⟩:=Zca w;obtain⟨N,Q,O⟩:=Z3g w H;have L:=(Cu kMh b).1;rw[H];refine dm (f:=F1) (l:=[a,p,d,e,g]) (by decide) rfl ?_;refine dm (f:=F1) (l:=[a,p,d,e,g]) (by decide) rfl ?_;refine dm (f:=F1) (l:=[a,p,d,e,g]) (by decide) rfl ?_;refine dm (f:=F1) (l:=[a,p,d,e,g]) (by decide) rfl ?_;refine dm (f:=F1) (l:=[a,p,d,e,g]) (by decide) rfl ?_;have R:P5 b=(g.n.toNat:Nat):=by rw[N];omega
 refine As [2,8,44] [0] (Zl8 b) (Zm0 b [gI a.n,gI p.n,gI d.n,gI e.n] 2 1) (Zle b g.n.toNat) (Zeh g.n.toNat) .a trivial ⟨⟨rfl,rfl⟩,⟨rfl,rfl⟩,⟨rfl,rfl⟩,trivial⟩ ⟨RL1,trivial⟩ rfl fun x S=>?_;cases x with
 | a =>
  have k:Zec b 0 b (Aj kMh b).n:=⟨rfl,L,af _,by rw[List.drop_drop];rfl⟩;refine dg (fun(hi:((0:Nat):Int) < g.n)=>?_) (fun(hi:¬((0:Nat):Int) < g.n)=>?_)
  ·skip
   have C:0 < g.n.toNat:=by omega
   refine⟨⟨by omega,by rw[aa];omega,by omega⟩,⟨Kw b,?_⟩⟩;rw[Lg];refine(Xp kEn (b.drop (Aj kMh b).n) (by decide) (by rw[bc];omega)).cal fun q u=>?_;subst u;unfold smG;refine dj (fun s=>?_) (fun s=>?_)
   ·exact En (Yg k s C (by omega))
   have s:(Aj kEn (b.drop (Aj kMh b).n)).e=0:=s;obtain⟨z,E,B,D,I,A⟩:=Ro k s;have J:(U8 b 0).length≤1000:=by have:=(Cu (Ew 0) (b.drop (Aj kMh b).n)).2 k.ee;rw[Fj] at this;unfold U8;rw[Ka 0 _ this];omega
   rw[I];refine dm (f:=F1) (l:=[E,B,D]) (by decide) rfl ?_;refine dm (f:=F1) (l:=[E,B,D]) (by decide) rfl ?_;refine dm (f:=F1) (l:=[E,B,D]) (by decide) rfl ?_;refine⟨by simp;try omega,?_⟩;refine⟨by omega,.b (0+1) (b.drop (Aj kMh b).n) (Aj kEn (b.drop (Aj kMh b).n)).n,⟨by omega,z⟩,(by dsimp only[Zeh];omega),?_⟩;refine⟨?_,?_,rfl⟩<;>repeat' (first|exact trivial|with_reducible rfl|exact rfl|refine And.intro ?_ ?_)
   exact eqR (by rw[A];rfl)
  ·skip
   have K:0=g.n.toNat:=by omega
   have y:P5 b=(0:Nat):=by omega
   obtain⟨h,r⟩:=Xx k y;refine dj (fun j=>?_) (fun j=>?_)
   ·have j:((((Aj kMh b).n:Nat):Int))≠((((b).map gBy).length:Nat):Int):=j;rw[aa] at j;exact En fun o=>by have:=h.1 o.2.1;omega
   ·have j:((((Aj kMh b).n:Nat):Int))=((((b).map gBy).length:Nat):Int):=by simpa using j
    rw[aa] at j;have t:(Aj kMh b).n=b.length:=by omega
    have F:mOf b=⟨a.n,p.n,d.n,e.n,[]⟩:=by unfold mOf;rw[H,r t];rfl
    have G:(U8 b 0).length≤1000000:=by have:=(Cu (Ew 0) (b.drop (Aj kMh b).n)).2 k.ee;rw[Fj] at this;unfold U8;rw[Ka 0 _ this];omega
    refine(Q6 ⟨a.n,p.n,d.n,e.n,[]⟩ (ah _)).cal fun q u=>?_;subst u
    skip
    refine dk (fun m=>?_) fun m=>?_
    ·exact En fun o=>by have:=o.2.2;rw[F] at this;rw[this] at m;cases m
    ·have m:okM ⟨a.n,p.n,d.n,e.n,[]⟩=true:=by simpa using m
     have o:Gw b:=⟨w,h.2 t,by rw[F];exact m⟩;exact Vf o F
 | b i c n =>
  obtain⟨M,k⟩:=S;have U:=k.nle;have P:=k.len;refine dg (fun(hi:((i:Nat):Int) < g.n)=>?_) (fun(hi:¬((i:Nat):Int) < g.n)=>?_)
  ·skip
   have C:i < g.n.toNat:=by omega
   refine⟨⟨by omega,by rw[aa];omega,by omega⟩,⟨Kw c,?_⟩⟩;rw[Lg];refine(Xp kEn (c.drop n) (by decide) (by rw[bc];omega)).cal fun q u=>?_;subst u;unfold smG;refine dj (fun s=>?_) (fun s=>?_)
   ·exact En (Yg k s C (by omega))
   have s:(Aj kEn (c.drop n)).e=0:=s;obtain⟨z,E,B,D,I,A⟩:=Ro k s;have J:(U8 b i).length≤1000:=by have:=(Cu (Ew i) (b.drop (Aj kMh b).n)).2 k.ee;rw[Fj] at this;unfold U8;rw[Ka i _ this];omega
   rw[I];refine dm (f:=F1) (l:=[E,B,D]) (by decide) rfl ?_;refine dm (f:=F1) (l:=[E,B,D]) (by decide) rfl ?_;refine dm (f:=F1) (l:=[E,B,D]) (by decide) rfl ?_;refine⟨by simp;try omega,?_⟩;refine⟨by omega,.b (i+1) (c.drop n) (Aj kEn (c.drop n)).n,⟨by omega,z⟩,(by dsimp only[Zeh];omega),?_⟩;refine⟨?_,?_,rfl⟩<;>repeat' (first|exact trivial|with_reducible rfl|exact rfl|refine And.intro ?_ ?_)
   exact eqR (by rw[A,ao];rfl)
  ·skip
   have K:i=g.n.toNat:=by omega
   have y:P5 b=(i:Nat):=by omega
   obtain⟨h,r⟩:=Xx k y;refine dj (fun j=>?_) (fun j=>?_)
   ·have j:(((n:Nat):Int))≠((((c).map gBy).length:Nat):Int):=j;rw[aa] at j;exact En fun o=>by have:=h.1 o.2.1;omega
   ·have j:(((n:Nat):Int))=((((c).map gBy).length:Nat):Int):=by simpa using j
    rw[aa] at j;have t:n=c.length:=by omega
    have F:mOf b=⟨a.n,p.n,d.n,e.n,U8 b i⟩:=by unfold mOf;rw[H,r t];rfl
    have G:(U8 b i).length≤1000000:=by have:=(Cu (Ew i) (b.drop (Aj kMh b).n)).2 k.ee;rw[Fj] at this;unfold U8;rw[Ka i _ this];omega
    refine dh (.frz 1 _ _ _ rfl (.seen 2 _ _ rfl (.done (.see (.same ((Q6 ⟨a.n,p.n,d.n,e.n,U8 b i⟩ G).cal fun q u=>?_))))));subst u;refine .done ?_;refine dk (fun m=>?_) fun m=>?_
    ·exact En fun o=>by have:=o.2.2;rw[F] at this;rw[this] at m;cases m
    ·have m:okM ⟨a.n,p.n,d.n,e.n,U8 b i⟩=true:=by simpa using m
     have o:Gw b:=⟨w,h.2 t,by rw[F];exact m⟩;exact Vf o F
theorem So (s:ByteArray)(a:s.size≤2000000):FnV Tryz.prog 13 [.v (.string s)] fun g=>g=rdM s.data.toList :=
 Z1g s.data.toList (by rw[cd];exact a)
theorem Zco {l:List REnt}{i:Nat}{p:REnt}(h:l[i]?=some p):vw 1 (l.take (i+1))=p.v:=by rw[List.take_add_one,h];exact Qk _ _ _
theorem Zht:∀{l:List REnt} {k v:Int},Gq k v l=true→v≤vw v l
 | [],_,_,_=>br _
 | e::l,k,v,h=>by
  rw[Jr,au,decide_eq_true_iff] at h;have a:=Zht h.2;have ev:vw v (e::l)=vw e.v l:=by unfold vw;rw[List.getLast?_cons];cases l.getLast?<;>rfl
  rw[ev];omega
theorem Z54 (k:Int)(hk0:-1000≤k)(hk1:k≤1000000)(l:List REnt)(D:l.length≤1000000)(hi:Int):FnV Tryz.prog 86 [.sl (l.map enE),gI k,gI hi] fun g=>g=.v (.bool (Hp k l&&Aw l hi)):=by
 refine fnG Tryz.func86 ?_;have bad:Gq k 1 l=false→G.v (.bool false)=.v (.bool (Hp k l&&Aw l hi)):=fun h=>by unfold Hp;rw[h];rfl
 have f:Aw l hi=false→G.v (.bool false)=.v (.bool (Hp k l&&Aw l hi)):=fun h=>by rw[h,Bool.and_false]
 refine As [0,1,2] [] (fun i:Nat=>[(7,gI i)]) (fun _=>[]) (fun i=>i≤l.length∧Gq k 1 (l.take i)=true∧Aw (l.take i) hi=true) (fun i=>l.length - i) 0 ⟨ah _,rfl,rfl⟩ ⟨⟨rfl,rfl⟩,trivial⟩ trivial rfl fun i c=>?_;obtain⟨x,c,n⟩:=c;refine dg (fun h=>?_) (fun h=>?_)
 ·have h:i < l.length:=by simpa using h
  obtain⟨e,a⟩:∃e,l[i]?=some e:=⟨_,ab h⟩;have C:=Zht c;have q:¬e.v≤hi→Aw l hi=false:=fun d=>by
   cases hm:Aw l hi with
   | false=>rfl
   | true=>exact de (Je hm e (ae a)) d
  refine dl a ?_;refine⟨by omega,by omega,?_⟩;refine dj (fun s=>bad (Ev a fun d=>s (by omega))) fun s=>?_;refine dl a ?_;refine dg (fun y=>bad (Ev a fun d=>by omega)) fun y=>?_;refine dl a ?_;refine dg (fun u=>bad (Ev a fun d=>by omega)) fun u=>?_;refine dl a ?_;refine dg (fun z=>f (q (by omega))) fun z=>?_;refine dl a ?_;refine dg (fun B=>bad (Ev a fun d=>by omega)) fun B=>?_;have m:Aw (l.take (i+1)) hi=true:=by unfold Aw at n⊢;rw[List.take_add_one,a,List.all_append,n];show(decide (e.v≤hi)&&true)=true;rw[decide_eq_true (by omega)];rfl
  refine dg (fun w=>?_) fun w=>?_
  ·obtain⟨j,rfl⟩:∃j,i=j+1:=⟨i - 1,by omega⟩;obtain⟨p,r⟩:∃p,l[j]?=some p:=⟨_,ab (by omega)⟩;have E:=Zco r;refine dl a ?_;refine⟨by omega,?_⟩;refine dm (by omega) (show l[(((j+1:Nat):Int) - 1).toNat]?=some p by rw[show(((j+1:Nat):Int) - 1).toNat=j by omega];exact r) ?_;refine dg (fun t=>bad (Ev a fun d=>by omega)) fun t=>?_;obtain⟨o,A⟩:=M3 a c ⟨by omega,by omega,by omega,by omega⟩;refine⟨by omega,j+1+1,⟨by omega,o,m⟩,(by dsimp only;omega),?_⟩;refine⟨?_,?_,rfl⟩<;>repeat' (first|exact trivial|with_reducible rfl|exact rfl|refine And.intro ?_ ?_)
  ·obtain rfl:i=0:=by omega
   obtain⟨o,A⟩:=M3 a c ⟨by omega,by omega,by show(1:Int)≤e.v;omega,by omega⟩;refine⟨by omega,0+1,⟨by omega,o,m⟩,(by dsimp only;omega),?_⟩;refine⟨?_,?_,rfl⟩<;>repeat' (first|exact trivial|with_reducible rfl|exact rfl|refine And.intro ?_ ?_)
 ·have b:(((l.map enE).length:Nat):Int)=l.length:=by rw[aa]
  rw[b] at h;rw[ap (by omega)] at c n;have e:(Hp k l&&Aw l hi)=decide (((l.map enE).length:Int)≤150):=by unfold Hp;rw[c,n,b,Bool.true_and,Bool.and_true];exact decide_eq_decide.2 (by omega)
  rw[e];exact rfl
theorem Qb (m:RM)(j:m.l.length≤1000000):FnV Tryz.prog 47 [.agg (enM m)] fun g=>g=.v (.bool (okM m)):=by
 refine fnG Tryz.func47 ?_;have bad:¬(1≤m.view∧m.view≤big∧0≤m.normal∧m.normal < m.view∧0≤m.num∧m.num≤150)→G.v (.bool false)=.v (.bool (okM m)):=fun h=>by unfold okM;rw[decide_eq_false h];rfl
 have r:big=4611686018427387904:=rfl;refine dg (fun u=>bad fun c=>by omega) fun u=>?_;refine dg (fun y=>bad fun c=>by omega) fun y=>?_;refine dg (fun w=>bad fun c=>by omega) fun w=>?_;refine dg (fun z=>bad fun c=>by omega) fun z=>?_;refine dg (fun A=>bad fun c=>by omega) fun A=>?_;refine dg (fun x=>bad fun c=>by omega) fun x=>?_;have t:okM m=(if m.kind=1 then decide (m.normal=0∧m.num=0∧m.l.length=0)
  else if m.kind=2 then decide (m.num=0)&&Hp 0 m.l&&Aw m.l m.normal
  else if m.kind=3 then decide (m.normal=0∧m.num=0)&&Hp 0 m.l&&Aw m.l (m.view - 1)
  else if m.kind=4 then decide (m.normal=0)&&Hp m.num m.l&&Aw m.l m.view
  else if m.kind=5∨m.kind=6 then decide (m.normal=0∧m.l.length=0) else false):=by unfold okM;rw[decide_eq_true (by omega),Bool.true_and]
 have d:(((m.l.map enE).length:Nat):Int)=m.l.length:=by rw[aa]
 rw[t];have f:m.normal=0→((((m.l.map enE).length:Nat):Int)==0)=decide (m.normal=0∧m.l.length=0):=fun a=>by rw[d,Bool.eq_iff_iff,beq_iff_eq,decide_eq_true_iff];omega
 refine df (fun(i:m.kind=2)=>?_) fun(i:m.kind≠2)=>?_
 ·rw[db (by omega),dc i];refine df (fun(a:m.num=0)=>?_) fun(a:m.num≠0)=>?_
  ·rw[decide_eq_true a,Bool.true_and];refine(Z54 0 (by decide) (by decide) m.l j m.normal).cal fun q e=>?_;subst e;exact rfl
  ·rw[decide_eq_false a,Bool.false_and];exact rfl
 refine dj (fun(a:m.normal≠0)=>?_) fun(a:m.normal=0)=>?_
 ·have:(if m.kind=1 then decide (m.normal=0∧m.num=0∧m.l.length=0)
   else if m.kind=2 then decide (m.num=0)&&Hp 0 m.l&&Aw m.l m.normal
   else if m.kind=3 then decide (m.normal=0∧m.num=0)&&Hp 0 m.l&&Aw m.l (m.view - 1)
   else if m.kind=4 then decide (m.normal=0)&&Hp m.num m.l&&Aw m.l m.view
   else if m.kind=5∨m.kind=6 then decide (m.normal=0∧m.l.length=0) else false)=false:=by rw[db i];rw[show decide (m.normal=0∧m.num=0∧m.l.length=0)=false from decide_eq_false fun h=>a h.1,show decide (m.normal=0∧m.num=0)=false from decide_eq_false fun h=>a h.1,show decide (m.normal=0)=false from decide_eq_false a,show decide (m.normal=0∧m.l.length=0)=false from decide_eq_false fun h=>a h.1];simp
  rw[this];exact rfl
 refine df (fun(k:m.kind=1)=>?_) fun(k:m.kind≠1)=>?_
 ·rw[dc k];refine df (fun(b:m.num=0)=>?_) fun(b:m.num≠0)=>?_
  ·have:((((m.l.map enE).length:Nat):Int)==0)=decide (m.normal=0∧m.num=0∧m.l.length=0):=by
    rw[d,Bool.eq_iff_iff,beq_iff_eq,decide_eq_true_iff];omega
   rw[←this];exact rfl
  ·rw[show decide (m.normal=0∧m.num=0∧m.l.length=0)=false from decide_eq_false fun c=>b c.2.1];exact rfl
 rw[db k,db i];refine df (fun(o:m.kind=3)=>?_) fun(o:m.kind≠3)=>?_
 ·rw[dc o];refine df (fun(a2:m.num=0)=>?_) fun(a2:m.num≠0)=>?_
  ·rw[show decide (m.normal=0∧m.num=0)=true from decide_eq_true (And.intro a a2),Bool.true_and];refine⟨by omega,?_⟩;refine(Z54 0 (by decide) (by decide) m.l j (m.view - 1)).cal fun q e=>?_;subst e;exact rfl
  ·rw[show decide (m.normal=0∧m.num=0)=false from decide_eq_false (fun c=>a2 c.2),Bool.false_and];exact rfl
 rw[db o];refine df (fun(n:m.kind=4)=>?_) fun(n:m.kind≠4)=>?_
 ·rw[dc n,decide_eq_true a,Bool.true_and];refine(Z54 m.num (by omega) (by omega) m.l j m.view).cal fun q e=>?_;subst e;exact rfl
 rw[db n,←f a];refine df (fun(p:m.kind=5)=>?_) fun(p:m.kind≠5)=>?_
 ·refine df (fun(_:m.kind=5)=>?_) fun(h:m.kind≠5)=>de p h;rw[dc (.inl p)];exact rfl
 ·refine df (fun(s:m.kind=6)=>?_) fun(s:m.kind≠6)=>?_
  ·rw[dc (.inr s)];exact rfl
  ·rw[db (by omega)];exact rfl
theorem Z0g (m:RM)(p:m.l.length≤1000000):FnV Tryz.prog 12 [.agg (enM m)] fun g=>g=wrM m:=by
 refine fnG Tryz.func12 ?_;refine(Qb m p).cal fun q e=>?_;subst e;refine dk (fun b=>?_) fun b=>?_
 ·exact Z1f (by simpa using b)
 have b:okM m=true:=by simpa using b
 have j:=(Az b).2.2.1;have n:(m.l.map enE).length=m.l.length:=aa ..;refine As [1] [0] (fun i:Nat=>[(5,gI i),(4,.osl 1)]) (fun i=>[(1,.slc ((mhF m++L9 (m.l.take i)).map F1) tFd 3)]) (fun i=>i≤m.l.length) (fun i=>m.l.length - i) 0 (ah _) ⟨⟨rfl,rfl⟩,⟨rfl,rfl⟩,trivial⟩ ⟨⟨rfl,rfl,eqR (by unfold mhF;rw[←n];rfl)⟩,trivial⟩ rfl fun i hi=>?_;refine dg (fun a=>?_) (fun a=>?_)
 ·have a:i < m.l.length:=by simpa using a
  obtain⟨c,d⟩:∃c,m.l[i]?=some c:=⟨_,ab a⟩;refine dl d ?_;refine dl d ?_;refine dl d ?_;refine⟨by simp[Ln,mhF];omega,?_⟩;refine⟨by omega,i+1,by omega,(by dsimp only;omega),?_⟩;refine⟨?_,?_,rfl⟩<;>repeat' (first|exact trivial|with_reducible rfl|exact rfl|refine And.intro ?_ ?_)
  exact eqR (Vj d)
 ·have k:m.l.take i=m.l:=ap (by simp at a;omega);rw[k];have o:=Qo b;refine(Z7a (mF m) (by unfold mF mhF;simp[Ln];omega)).cal fun q e=>?_;subst e;have h:Sv (mF m)=bM m:=by unfold Sv bM;rw[dc o,dc b]
  rw[h];refine⟨_,rfl,?_⟩;have f:eM m=0:=by unfold eM;rw[dc b]
  unfold wrM;rw[f];exact rfl
theorem ix3 {l:List RFd}{i j:Nat}{x:RFd}(h:l[3 * i+j]?=some x):l[(3 * (i:Int)+(j:Int)).toNat]?=some x:=by rw[show(3 * (i:Int)+(j:Int)).toNat=3 * i+j by omega];exact h
theorem Zkt {l:List RFd}{i:Nat}{x:RFd}(h:l[3 * i]?=some x):l[(3 * (i:Int)).toNat]?=some x:=by rw[show(3 * (i:Int)).toNat=3 * i by omega];exact h
abbrev Zhh:Nat:=24
def Zlj:Zc7→Ts
 | .a=>[(12,gI ((0:Nat):Int))]
 | .b i _ _=>[(12,gI (i:Nat)),(97,.osl 1)]
def Zl9 (C:List REnt)(h:List G):Zc7→Os
 | .a=>[(3,.blk (h++[.nl]) Zhh)]
 | .b i _ _=>[(3,.blk (h++[.osl 1]) Zhh),(1,.slc ((C.take i).map enE) tEn 3)]
def Zlg (k:Nat):Zc7→Prop
 | .a=>True
 | .b i _ _=>i≤k
theorem Z4j (i:Nat):(Ew i).map gNi++kEn.map gNi=(Ew (i+1)).map gNi:=by show _=(Ew i++kEn).map gNi;rw[ao]
set_option maxHeartbeats 2000000 in
theorem Z2t (b:Bs)(T:b.length≤2000000):FnV Tryz.prog 14 [.v (.string ⟨b.toArray⟩)] fun g=>g=rdM b:=by
 refine fnG Tryz.func14 ?_;refine(Zaf kMh b (by decide) (by omega)).cal fun q y=>?_;subst y;unfold smG;refine dj (fun t=>?_) (fun t=>?_)
 ·exact En fun o=>t o.1
 have t:(Aj kMh b).e=0:=t;obtain⟨a,p,d,e,g,D⟩:=Zca t;obtain⟨J,N,K⟩:=Z3g t D;have P:=(Cu kMh b).1;rw[D];have r:P5 b=(g.n.toNat:Nat):=by rw[J];omega
 refine As [0,2,4,5] [0] (fun i:Nat=>[(8,gI i),(7,.osl 2)]) (fun i=>[(2,.slc ((Ew i).map gNi) 3 1)]) (fun i=>i≤g.n.toNat) (fun i=>g.n.toNat - i) 0 (by omega) ⟨⟨rfl,rfl⟩,⟨rfl,rfl⟩,trivial⟩ ⟨RL1,trivial⟩ rfl fun i hi=>?_;refine dm (f:=F1) (l:=[a,p,d,e,g]) (by decide) rfl ?_;refine dg (fun(m:((i:Nat):Int) < g.n)=>?_) (fun(m:¬((i:Nat):Int) < g.n)=>?_)
 ·refine⟨by simp[Fj];omega,?_⟩;refine⟨by omega,i+1,by omega,(by dsimp only;omega),?_⟩;refine⟨?_,?_,rfl⟩<;>repeat' (first|exact trivial|with_reducible rfl|exact rfl|refine And.intro ?_ ?_)
  exact eqR (Z4j i)
 have C:i=g.n.toNat:=by omega
 subst C;refine⟨⟨by omega,by rw[aa];show _≤((b.length:Nat):Int);omega,by omega⟩,⟨Kw b,?_⟩⟩;rw[Lg];refine(Z6d (Ew g.n.toNat) (b.drop (Aj kMh b).n) (by rw[Fj];omega) (by rw[bc];omega)).cal fun q y=>?_;subst y;refine dm (f:=F1) (l:=[a,p,d,e,g]) (by decide) rfl ?_;refine dm (f:=F1) (l:=[a,p,d,e,g]) (by decide) rfl ?_;refine dm (f:=F1) (l:=[a,p,d,e,g]) (by decide) rfl ?_;refine dm (f:=F1) (l:=[a,p,d,e,g]) (by decide) rfl ?_;by_cases hd:(K2 (Ew g.n.toNat) (b.drop (Aj kMh b).n)).e=0
 ·rw[hd];obtain⟨S,U,L⟩:=M2 hd;have k:=(Cu (Ew g.n.toNat) (b.drop (Aj kMh b).n)).2 S;rw[Fj,←L] at k;have F:=Ka _ _ k;have s:mOf b=⟨a.n,p.n,d.n,e.n,toE (K2 (Ew g.n.toNat) (b.drop (Aj kMh b).n)).l⟩:=by unfold mOf;rw[D,r,az]
  generalize Q:(K2 (Ew g.n.toNat) (b.drop (Aj kMh b).n)).l=LL at k F s⊢;refine As [2,4,9,10,11] [0] Zlj (Zl9 (toE LL) [gI a.n,gI p.n,gI d.n,gI e.n]) (Zlg g.n.toNat) (Zeh g.n.toNat) .a trivial ⟨⟨rfl,rfl⟩,trivial⟩ ⟨RL1,trivial⟩ rfl fun x H=>?_;cases x with
  | a =>
   refine dm (f:=F1) (l:=[a,p,d,e,g]) (by decide) rfl ?_;refine dg (fun(m:((0:Nat):Int) < g.n)=>?_) (fun(m:¬((0:Nat):Int) < g.n)=>?_)
   ·obtain⟨R,M,O,A,G,B,E⟩:=Z2p 0 g.n.toNat LL k (by omega);refine df (fun _=>?_) fun h=>de rfl h;refine⟨by omega,?_⟩;refine dm (f:=F1) (l:=LL) (by omega) (Zkt A) ?_;refine⟨by omega,?_⟩;refine⟨by omega,?_⟩;refine dm (f:=F1) (l:=LL) (by omega) (ix3 (j:=1) G) ?_;refine⟨by omega,?_⟩;refine⟨by omega,?_⟩;refine dm (f:=F1) (l:=LL) (by omega) (ix3 (j:=2) B) ?_;refine⟨by simp;try omega,?_⟩;refine⟨by omega,.b (0+1) [] 0,(by show _≤_;omega),(by dsimp only[Zeh];omega),?_⟩;refine⟨?_,?_,rfl⟩<;>repeat' (first|exact trivial|with_reducible rfl|exact rfl|refine And.intro ?_ ?_)
    exact eqR (by rw[Ar E];rfl)
   ·skip
    have z:0=g.n.toNat:=by omega
    have w:toE LL=[]:=by exact am (by omega)
    rw[w] at s;refine dj (fun h=>de rfl h) fun _=>?_;refine(Qb ⟨a.n,p.n,d.n,e.n,[]⟩ (ah _)).cal fun q y=>?_;subst y
    skip
    refine dk (fun c=>?_) fun c=>?_
    ·exact En fun o=>by have:=o.2.2;rw[s] at this;rw[this] at c;cases c
    ·have c:okM ⟨a.n,p.n,d.n,e.n,[]⟩=true:=by simpa using c
     have o:Gw b:=⟨t,by rw[r,az];exact hd,by rw[s];exact c⟩;exact Vf o s
  | b i c0 n0 =>
   have I:i≤g.n.toNat:=H;refine dm (f:=F1) (l:=[a,p,d,e,g]) (by decide) rfl ?_;refine dg (fun(m:((i:Nat):Int) < g.n)=>?_) (fun(m:¬((i:Nat):Int) < g.n)=>?_)
   ·obtain⟨R,M,O,A,G,B,E⟩:=Z2p i g.n.toNat LL k (by omega);refine df (fun _=>?_) fun h=>de rfl h;refine⟨by omega,?_⟩;refine dm (f:=F1) (l:=LL) (by omega) (Zkt A) ?_;refine⟨by omega,?_⟩;refine⟨by omega,?_⟩;refine dm (f:=F1) (l:=LL) (by omega) (ix3 (j:=1) G) ?_;refine⟨by omega,?_⟩;refine⟨by omega,?_⟩;refine dm (f:=F1) (l:=LL) (by omega) (ix3 (j:=2) B) ?_;refine⟨by simp;try omega,?_⟩;refine⟨by omega,.b (i+1) [] 0,(by show _≤_;omega),(by dsimp only[Zeh];omega),?_⟩;refine⟨?_,?_,rfl⟩<;>repeat' (first|exact trivial|with_reducible rfl|exact rfl|refine And.intro ?_ ?_)
    exact eqR (by rw[Ar E,ao];rfl)
   ·skip
    have z:i=g.n.toNat:=by omega
    have w:toE LL=(toE LL).take i:=by rw[ap (by omega)]
    rw[w] at s;refine dj (fun h=>de rfl h) fun _=>?_;refine dh (.frz 1 _ _ _ rfl (.seen 3 _ _ rfl (.done (.see (.same ((Qb ⟨a.n,p.n,d.n,e.n,(toE LL).take i⟩ (by rw[aw];omega)).cal fun q y=>?_))))));subst y;refine .done ?_;refine dk (fun c=>?_) fun c=>?_
    ·exact En fun o=>by have:=o.2.2;rw[s] at this;rw[this] at c;cases c
    ·have c:okM ⟨a.n,p.n,d.n,e.n,(toE LL).take i⟩=true:=by simpa using c
     have o:Gw b:=⟨t,by rw[r,az];exact hd,by rw[s];exact c⟩;exact Vf o s
 ·have u:¬Gw b:=fun o=>hd (by have:=o.2.1;rwa [r,az] at this);refine As [2,4,9,10,11,12] [0,3] (fun _:Unit=>[]) (fun _=>[]) (fun _=>True) (fun _=>0) () trivial trivial trivial rfl fun x H=>?_;refine dm (f:=F1) (l:=[a,p,d,e,g]) (by decide) rfl ?_;refine dg (fun _=>?_) fun _=>?_
  ·refine df (fun h=>de h hd) fun _=>?_;refine dj (fun _=>?_) fun h=>de h hd;exact En u
  ·refine dj (fun _=>?_) fun h=>de h hd;exact En u
theorem Z2i (s:ByteArray)(a:s.size≤2000000):FnV Tryz.prog 14 [.v (.string s)] fun g=>g=rdM s.data.toList :=
 Z2t s.data.toList (by rw[cd];exact a)
end Go.Proofs.YtihfaocdpmmooaaGreat

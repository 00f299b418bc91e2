
import Derived.Test.YtihfaocdpmmooaaGreatPKM
import Derived.Test.YtihfaocdpmmooaaGreatRkM
namespace Go.Proofs.YtihfaocdpmmooaaGreat
structure RM where
 kind:Int
 view:Int
 normal:Int
 num:Int
 l:List REnt
def Gq:Int→Int→List REnt→Bool
 | _,_,[]=>true
 | k,v,e::l=>decide (e.n=k+1∧e.n≤150∧v≤e.v∧e.b.size≤200)&&Gq (k+1) e.v l
def Hp (k:Int)(l:List REnt):Bool:=Gq k 1 l&&decide (l.length≤150)
def Aw (l:List REnt)(v:Int):Bool:=l.all fun e=>decide (e.v≤v)
def okM (m:RM):Bool:=decide (1≤m.view∧m.view≤big∧0≤m.normal∧m.normal < m.view∧0≤m.num∧m.num≤150) &&
 (if m.kind=1 then decide (m.normal=0∧m.num=0∧m.l.length=0)
  else if m.kind=2 then decide (m.num=0)&&Hp 0 m.l&&Aw m.l m.normal
  else if m.kind=3 then decide (m.normal=0∧m.num=0)&&Hp 0 m.l&&Aw m.l (m.view - 1)
  else if m.kind=4 then decide (m.normal=0)&&Hp m.num m.l&&Aw m.l m.view
  else if m.kind=5∨m.kind=6 then decide (m.normal=0∧m.l.length=0) else false)
def vw (v:Int)(l:List REnt):Int:=(l.getLast?.map REnt.v).getD v
theorem Qk (v:Int)(l:List REnt)(e:REnt):vw v (l++[e])=e.v:=by simp[vw]
theorem Jr (k v:Int)(e:REnt)(l:List REnt):Gq k v (e::l)=(decide (e.n=k+1∧e.n≤150∧v≤e.v∧e.b.size≤200)&&Gq (k+1) e.v l):=rfl
theorem Q1:∀(l m:List REnt) (k v:Int),Gq k v (l++m)=(Gq k v l&&Gq (k+l.length) (vw v l) m)
 | [],m,k,v=>by simp[Gq,vw]
 | e::l,m,k,v=>by
  have ev:vw v (e::l)=vw e.v l:=by unfold vw;rw[List.getLast?_cons];cases l.getLast?<;>rfl
  rw[c9,Jr,Jr,Q1 l m (k+1) e.v,ev,Bool.and_assoc,bd,show k+1+(l.length:Int)=k+((l.length+1:Nat):Int) by omega]
theorem M3 {k v:Int}{l:List REnt}{i:Nat}{e:REnt}(h:l[i]?=some e)(c:Gq k v (l.take i)=true)(f:e.n=k+i+1∧e.n≤150∧vw v (l.take i)≤e.v∧e.b.size≤200):Gq k v (l.take (i+1))=true∧vw v (l.take (i+1))=e.v:=by
 have a:=(ac.1 h).1;have d:(l.take i).length=i:=by rw[aw];omega
 rw[List.take_add_one,h];refine⟨?_,Qk _ _ _⟩;rw[show(some e).toList=[e] from rfl,Q1,c,d];unfold Gq Gq;rw[decide_eq_true f];rfl
theorem Ev {k v:Int}{l:List REnt}{i:Nat}{e:REnt}(h:l[i]?=some e)(g:¬(e.n=k+i+1∧e.n≤150∧vw v (l.take i)≤e.v∧e.b.size≤200)):Gq k v l=false:=by
 have a:=(ac.1 h).1;have d:l=l.take i++e::l.drop (i+1):=by have c:=(ac.1 h).2;rw[←c,List.getElem_cons_drop,cx]
 have f:(l.take i).length=i:=by rw[aw];omega
 rw[d,Q1,f];have:Gq (k+i) (vw v (l.take i)) (e::l.drop (i+1))=false:=by unfold Gq;rw[decide_eq_false g];rfl
 rw[this];simp
def enF (e:REnt):List RFd:=[⟨2,e.v,eS⟩,⟨2,e.n,eS⟩,⟨3,0,e.b⟩]
def L9 (l:List REnt):List RFd:=l.flatMap enF
def mhF (m:RM):List RFd:=[⟨1,m.kind,eS⟩,⟨2,m.view,eS⟩,⟨2,m.normal,eS⟩,⟨2,m.num,eS⟩,⟨1,m.l.length,eS⟩]
def mF (m:RM):List RFd:=mhF m++L9 m.l
def bM (m:RM):Bs:=if okM m=true then Gv (mF m) else []
def eM (m:RM):Int:=if okM m=true then 0 else 130
def kMh:List Int:=[1,2,2,2,1]
def kEn:List Int:=[2,2,3]
def Ew:Nat→List Int
 | 0=>[]
 | i+1=>Ew i++kEn
theorem Fj (i:Nat):(Ew i).length=3 * i:=by
 induction i with
 | zero=>rfl
 | succ i ih=>rw[Ew,ax,ih];show 3 * i+3=_;omega
theorem Wp (i j:Nat):Ew (i+j)=Ew i++Ew j:=by
 induction j with
 | zero=>simp[Ew]
 | succ j ih=>rw[←cv,Ew,Ew,ih,bx]
theorem S8 (k:Nat):Ew (k+1)=kEn++Ew k:=by rw[Nat.add_comm,Wp];rfl
def toE:List RFd→List REnt
 | a::b::c::l=>⟨a.n,b.n,c.s⟩::toE l
 | _=>[]
theorem Z0z:∀(k:Nat) (l m:List RFd),l.length=3 * k→toE (l++m)=toE l++toE m
 | 0,l,m,h=>by have:l=[]:=am (by omega);subst this;rfl
 | k+1,l,m,h=>by
  match l,h with
  | a::b::c::l,h =>
   have d:=Z0z k l m (by simp only[List.length_cons] at h;omega);show toE (a::b::c::(l++m))=_;rw[toE,toE,d];rfl
  | [],h=>simp at h
  | [_],h=>simp at h;omega
  | [_,_],h=>simp at h;omega
theorem Z2p:∀(i k:Nat) (l:List RFd),l.length=3 * k→i < k→∃a b c,l[3 * i]?=some a∧l[3 * i+1]?=some b∧l[3 * i+2]?=some c∧(toE l)[i]?=some ⟨a.n,b.n,c.s⟩
 | i,k,a::b::c::l,h,hi=>by
  cases i with
  | zero=>exact⟨a,b,c,rfl,rfl,rfl,rfl⟩
  | succ i =>
   obtain⟨g,m,o,e,j,f,d⟩:=Z2p i (k - 1) l (by simp only[List.length_cons] at h;omega) (by omega);refine⟨g,m,o,?_,?_,?_,?_⟩
   ·rw[show 3 * (i+1)=3 * i+3 by omega];exact e
   ·rw[show 3 * (i+1)+1=3 * i+1+3 by omega];exact j
   ·rw[show 3 * (i+1)+2=3 * i+2+3 by omega];exact f
   ·exact d
 | i,k,[],h,hi=>by simp at h;omega
 | i,k,[_],h,hi=>by simp at h;omega
 | i,k,[_,_],h,hi=>by simp at h;omega
theorem Ka:∀(k:Nat) (l:List RFd),l.length=3 * k→(toE l).length=k
 | 0,l,h=>by have:l=[]:=am (by omega);subst this;rfl
 | k+1,l,h=>by
  match l,h with
  | a::b::c::l,h =>
   have d:=Ka k l (by simp only[List.length_cons] at h;omega);rw[toE,bd,d]
  | [],h=>simp at h
  | [_],h=>simp at h;omega
  | [_,_],h=>simp at h;omega
theorem Z0q (l:List REnt):(L9 l).map RFd.kind=Ew l.length:=by
 induction l with
 | nil=>rfl
 | cons c l ih=>rw[bd,S8,←ih];rfl
theorem Z4a (l:List REnt)(c:REnt):L9 (l++[c])=L9 l++enF c:=by unfold L9;rw[List.flatMap_append];simp
theorem Ln (l:List REnt):(L9 l).length=3 * l.length:=by
 induction l with
 | nil=>rfl
 | cons c l ih=>unfold L9 at *;rw[List.flatMap_cons,ax,bd,ih];show 3+_=_;omega
theorem Zce (l:List REnt):toE (L9 l)=l:=by
 induction l with
 | nil=>rfl
 | cons c l ih =>
  have e:toE (L9 (c::l))=⟨c.v,c.n,c.b⟩::toE (L9 l):=rfl;rw[e,ih]
theorem Z1b:∀(k:Nat) (l:List RFd),l.map RFd.kind=Ew k→Ie l=0→L9 (toE l)=l∧(toE l).length=k
 | 0,l,d,_=>by
  have:l=[]:=by simpa [Ew] using d
  subst this;exact⟨rfl,rfl⟩
 | k+1,l,d,h=>by
  rw[S8] at d
  match l,d,h with
  | a::b::c::l,d,h =>
   have d:[a.kind,b.kind,c.kind]++l.map RFd.kind=[2,2,3]++Ew k:=d;obtain⟨e,m⟩:=List.append_inj d rfl;simp only[List.cons.injEq,and_true] at e;obtain⟨r,q,o⟩:=e;have z:=Dz h;have i:=z a (by simp);have g:=z b (by simp);have j:=z c (by simp);obtain⟨f,p⟩:=Z1b k l m (Hu fun x t=>z x (by simp[t]));have eT:toE (a::b::c::l)=⟨a.n,b.n,c.s⟩::toE l:=rfl;rw[eT];refine⟨?_,by rw[bd,p]⟩;show enF ⟨a.n,b.n,c.s⟩++L9 (toE l)=_;rw[f];show [(⟨2,a.n,eS⟩:RFd),⟨2,b.n,eS⟩,⟨3,0,c.s⟩]++l=_;rw[U6 i r (by decide),U6 g q (by decide),Zhi j o];rfl
  | [],d,_=>simp[kEn] at d
  | [_],d,_=>simp[kEn] at d
  | [_,_],d,_=>simp[kEn] at d
def rm0:RM:=⟨0,0,0,0,[]⟩
def P5 (b:Bs):Int:=match(Aj kMh b).l with
 | [_,_,_,_,f]=>f.n
 | _=>0
def mOf (b:Bs):RM:=match(Aj kMh b).l with
 | [a,c,d,e,_]=>⟨a.n,c.n,d.n,e.n,toE (K2 (Ew (P5 b).toNat) (b.drop (Aj kMh b).n)).l⟩
 | _=>rm0
def Gw (b:Bs):Prop:=(Aj kMh b).e=0∧(K2 (Ew (P5 b).toNat) (b.drop (Aj kMh b).n)).e=0∧okM (mOf b)=true
instance (b:Bs):Decidable (Gw b):=inferInstanceAs (Decidable (_∧_∧_))
def mD (b:Bs):RM:=if Gw b then mOf b else rm0
def eMd (b:Bs):Int:=if Gw b then 0 else 130
theorem Zca {b:Bs}(h:(Aj kMh b).e=0):∃a c d e f,(Aj kMh b).l=[a,c,d,e,f]:=by
 have:=(Cu kMh b).2 h
 match hl:(Aj kMh b).l,this with
 | [a,c,d,e,f],_=>exact⟨a,c,d,e,f,rfl⟩
theorem X2:∀{l:List REnt} {k v:Int},Gq k v l=true→0≤k→∀e∈l,1≤e.n∧e.n≤150∧v≤e.v∧e.b.size≤200
 | [],_,_,_,_,e,a=>by cases a
 | x::l,k,v,h,hk,e,a=>by
  unfold Gq at h;rw[au,decide_eq_true_iff] at h;obtain⟨⟨i,f,d,g⟩,c⟩:=h;rcases bi.1 a with rfl | a
  ·exact⟨by omega,f,d,g⟩
  ·have:=X2 c (by omega) e a;exact⟨this.1,this.2.1,by omega,this.2.2.2⟩
theorem Je {l:List REnt}{v:Int}(h:Aw l v=true):∀e∈l,e.v≤v:=fun e a=>by have:=List.all_eq_true.1 h e a;simpa using this
theorem Az {m:RM}(h:okM m=true):(1≤m.view∧m.view≤big∧0≤m.normal∧m.normal < m.view∧0≤m.num∧m.num≤150)∧(1≤m.kind∧m.kind≤6)∧m.l.length≤150∧∀e∈m.l,(1≤e.n∧e.n≤150)∧(1≤e.v∧e.v≤m.view)∧e.b.size≤200:=by
 unfold okM at h;rw[au,decide_eq_true_iff] at h;obtain⟨g,h⟩:=h;refine⟨g,?_⟩;have row:∀{k v:Int},0≤k→v≤m.view→Hp k m.l=true→Aw m.l v=true→m.l.length≤150∧∀e∈m.l,(1≤e.n∧e.n≤150)∧(1≤e.v∧e.v≤m.view)∧e.b.size≤200:=fun {k v} o p c j=>by unfold Hp at c;rw[au,decide_eq_true_iff] at c;refine⟨c.2,fun e f=>?_⟩;have a:=X2 c.1 o e f;have b:=Je j e f;exact⟨⟨a.1,a.2.1⟩,⟨a.2.2.1,by omega⟩,a.2.2.2⟩
 have nil:m.l.length=0→m.l.length≤150∧∀e∈m.l,(1≤e.n∧e.n≤150)∧(1≤e.v∧e.v≤m.view)∧e.b.size≤200:=fun i=>by have:m.l=[]:=am i;rw[this];exact⟨ah _,fun e f=>by cases f⟩
 split at h
 ·next d=>rw[decide_eq_true_iff] at h;exact⟨by omega,nil h.2.2⟩
 split at h
 ·next d =>
  simp only[Bool.and_eq_true] at h;exact⟨by omega,row (br 0) (by omega) h.1.2 h.2⟩
 split at h
 ·next d =>
  simp only[Bool.and_eq_true] at h;exact⟨by omega,row (br 0) (by omega) h.1.2 h.2⟩
 split at h
 ·next d =>
  simp only[Bool.and_eq_true] at h;exact⟨by omega,row g.2.2.2.2.1 (by omega) h.1.2 h.2⟩
 split at h
 ·next d=>rw[decide_eq_true_iff] at h;exact⟨by omega,nil h.2⟩
 ·cases h
theorem Qo {m:RM}(h:okM m=true):Ie (mF m)=0:=by
 obtain⟨⟨b,j,l,q,s,o⟩,⟨p,r⟩,t,k⟩:=Az h;refine Hu fun f hf=>?_;have a:∀n:Int,0≤n→n≤255→fdE ⟨1,n,eS⟩=0:=fun n i b=>by unfold fdE;dsimp only;rw[db (by decide),db (by rintro(h | h);exact h rfl;omega),dc ⟨rfl,b⟩]
 have whole:∀n:Int,0≤n→n≤big→fdE ⟨2,n,eS⟩=0:=fun n i b=>by unfold fdE;dsimp only;rw[db (by decide),db (by rintro(h | h);exact h rfl;omega),db (by rintro⟨h,-⟩;cases h),db (by rintro⟨h,-⟩;cases h),dc ⟨rfl,b⟩]
 unfold mF mhF at hf;have g:(150:Int)≤big:=by decide
 rcases bu.1 hf with hf | hf
 ·simp only[List.mem_cons,List.not_mem_nil,or_false] at hf;rcases hf with rfl | rfl | rfl | rfl | rfl
  ·exact a _ (by omega) (by omega)
  ·exact whole _ (by omega) j
  ·exact whole _ (by omega) (by omega)
  ·exact whole _ (by omega) (by omega)
  ·exact a _ (by omega) (by omega)
 ·obtain⟨e,d,hf⟩:=List.mem_flatMap.1 hf;obtain⟨⟨a1,a2⟩,⟨b1,b2⟩,c⟩:=k e d;simp only[enF,List.mem_cons,List.not_mem_nil,or_false] at hf;rcases hf with rfl | rfl | rfl
  ·exact whole _ (by omega) (by omega)
  ·exact whole _ (by omega) (by omega)
  ·unfold fdE;rw[dc rfl,db (fun h=>h rfl),db (by dsimp only;omega)]
theorem Zj8 {m:RM}(h:okM m=true):Gw (bM m)∧mD (bM m)=m:=by
 have c:=Qo h;obtain⟨-,-,i,-⟩:=Az h;have b:bM m=Gv (mhF m)++Gv (L9 m.l):=by unfold bM;rw[dc h];unfold mF;rw[Xn]
 have e:Ie (mhF m)=0:=Z0c c;have f:Ie (L9 m.l)=0:=by have:=c;unfold mF at this;rwa [Z8t e] at this
 have a:Aj kMh (bM m)=⟨0,mhF m,(Gv (mhF m)).length⟩:=by rw[b];exact U7 (mhF m) _ e
 have g:P5 (bM m)=m.l.length:=by unfold P5;rw[a];rfl
 have eD:K2 (Ew (P5 (bM m)).toNat) ((bM m).drop (Aj kMh (bM m)).n)=⟨0,L9 m.l,(Gv (L9 m.l)).length⟩:=by rw[g,a,az];show K2 (Ew m.l.length) ((bM m).drop (Gv (mhF m)).length)=_;rw[b,List.drop_left,←Z0q];exact X0 f
 have d:mOf (bM m)=m:=by unfold mOf;rw[eD,a];show(⟨m.kind,m.view,m.normal,m.num,toE (L9 m.l)⟩:RM)=m;rw[Zce]
 have ok:Gw (bM m):=⟨by rw[a],by rw[eD],by rw[d];exact h⟩;exact⟨ok,by unfold mD;rw[dc ok,d]⟩
theorem Zbs {b:Bs}(h:Gw b):okM (mD b)=true∧bM (mD b)=b:=by
 obtain⟨q,L,t⟩:=id h;have k:mD b=mOf b:=by unfold mD;rw[dc h]
 rw[k];refine⟨t,?_⟩;obtain⟨a,c,d,e,g,i⟩:=Zca q;obtain⟨r,o,m⟩:=Pn kMh b q;rw[i] at r o m;have y:P5 b=g.n:=by unfold P5;rw[i]
 obtain⟨N,v,E⟩:=M2 L;obtain⟨D,j,M⟩:=Pn _ _ N;rw[v] at j;rw[ap (af _)] at j;simp only[List.map_cons,List.map_nil,kMh,List.cons.injEq,and_true] at m;obtain⟨K,J,kd,x,w⟩:=m;have z:=Dz r;have I:=z a (by simp);have A:=z c (by simp);have F:=z d (by simp);have B:=z e (by simp);have p:=z g (by simp);obtain⟨H,C⟩:=Z1b _ _ M D;have G:0≤g.n:=by
  rcases Ke p with⟨s,-⟩ | ⟨-,-,s⟩
  ·omega
  ·exact s
 have hT:mOf b=⟨a.n,c.n,d.n,e.n,toE (Aj (Ew (P5 b).toNat) (b.drop (Aj kMh b).n)).l⟩:=by unfold mOf;rw[i,E]
 have f:((mOf b).l.length:Int)=g.n:=by rw[hT];show((toE _).length:Int)=_;rw[C,y];omega
 have u:mF (mOf b)=[a,c,d,e,g]++(Aj (Ew (P5 b).toNat) (b.drop (Aj kMh b).n)).l:=by unfold mF mhF;rw[f,hT];show [(⟨1,a.n,eS⟩:RFd),⟨2,c.n,eS⟩,⟨2,d.n,eS⟩,⟨2,e.n,eS⟩,⟨1,g.n,eS⟩]++L9 (toE _)=_;rw[H,U6 I K (by decide),U6 A J (by decide),U6 F kd (by decide),U6 B x (by decide),U6 p w (by decide)]
 unfold bM;rw[dc t,u,Xn,o,j,cx]
abbrev Sec:=List UInt8
structure RD where
 now:List Sec
 firm:List Sec
 wait:List (Nat × Sec)
 armed:Int
 dead:Bool
def Ek (b:Sec):Sec:=b.take 64++List.replicate (64 - b.length) 0
theorem Cz (b:Sec):(Ek b).length=64:=by unfold Ek;simp;omega
def sec0:Sec:=List.replicate 64 0
def Z1a (many:Int):Nat:=(min (max many 0) 65536).toNat
def Z5 (many:Int):RD:=⟨List.replicate (Z1a many) sec0,List.replicate (Z1a many) sec0,[],0,false⟩
def Zj7 (d:RD)(k:Int):RD:={d with armed:=max k 0}
def E3 (d:RD):Bool:=if d.armed=0 then false else(d.armed - 1==0)
def Bt (d:RD):RD:=if d.armed=0 then d else {d with armed:=d.armed - 1,dead:=(d.armed - 1==0)}
def K7 (d:RD)(n:Int):Int:=if d.dead=true then 40 else if n < 0∨n ≥ d.now.length then 41 else 0
def Z5s (d:RD)(n:Nat)(s:Sec):RD:={d with now:=d.now.set n s,wait:=d.wait++[(n,s)]}
def Bg (d:RD)(n:Int)(b:Sec):Int:=if K7 d n≠0 then K7 d n else if b.length > 64 then 41 else if E3 d=true then 40 else 0
def Ad (d:RD)(n:Int)(b:Sec):RD:=if K7 d n≠0 then d else if b.length > 64 then d else Bt (Z5s d n.toNat (Ek b))
def Ni (d:RD)(n:Int):Sec:=if K7 d n≠0 then [] else d.now[n.toNat]?.getD []
def Gu (firm:List Sec)(wait:List (Nat × Sec)):List Sec:=wait.foldl (fun l w=>l.set w.1 w.2) firm
def Ct (d:RD):Int:=if d.dead=true∨E3 d=true then 40 else 0
def Aa (d:RD):RD:=if d.dead=true then d else if E3 d=true then Bt d else {Bt d with firm:=Gu d.firm d.wait,wait:=[]}
def Iw (d:RD)(keep:Int):Nat:=(min (max keep 0) (d.wait.length:Int)).toNat
def Ld (old new:Sec)(tear:Int):Sec:=new.take (min (max tear 0) 64).toNat++old.drop (min (max tear 0) 64).toNat
def Bb (d:RD)(keep tear:Int):List Sec :=
 let l:=Gu d.firm (d.wait.take (Iw d keep))
 match d.wait[Iw d keep]? with
 | some w=>l.set w.1 (Ld (l[w.1]?.getD []) w.2 tear)
 | none=>l
def Ef (d:RD)(keep tear:Int):RD:=⟨Bb d keep tear,Bb d keep tear,[],0,false⟩
structure WD (d:RD):Prop where
 len:d.firm.length=d.now.length
 few:d.now.length≤65536
 now:∀s∈d.now,s.length=64
 firm:∀s∈d.firm,s.length=64
 wait:∀w∈d.wait,w.1 < d.now.length∧w.2.length=64
 armed:0≤d.armed
theorem Fg:∀(wait:List (Nat × Sec)) (firm:List Sec),(Gu firm wait).length=firm.length
 | [],_=>rfl
 | w::l,firm=>by show(Gu (firm.set w.1 w.2) l).length=_;rw[Fg l,bh]
theorem Fp:∀(wait:List (Nat × Sec)) (firm:List Sec),(∀s∈firm,s.length=64)→(∀w∈wait,w.2.length=64)→∀s∈Gu firm wait,s.length=64
 | [],_,h,_=>h
 | w::l,firm,h,hw=>Fp l _ (fun s a=>by
  rcases co a with a | rfl
  ·exact h s a
  ·exact hw w (by simp)) fun x b=>hw x (by simp[b])
theorem Sa {wait:List (Nat × Sec)}{firm:List Sec}{i:Nat}{w:Nat × Sec}(h:wait[i]?=some w):Gu firm (wait.take (i+1))=(Gu firm (wait.take i)).set w.1 w.2:=by unfold Gu;rw[List.take_add_one,h];simp[List.foldl_append]
theorem Z2w (many:Int):WD (Z5 many):=by
 have b:sec0.length=64:=List.length_replicate ..;refine⟨rfl,?_,fun s a=>?_,fun s a=>?_,fun w c=>(by cases c),br _⟩
 ·show(List.replicate _ _).length≤_;rw[List.length_replicate];unfold Z1a;omega
 ·rw[(List.mem_replicate.1 a).2];exact b
 ·rw[(List.mem_replicate.1 a).2];exact b
theorem Pk {d:RD}(h:WD d):WD (Bt d):=by
 unfold Bt;split
 ·exact h
 ·exact⟨h.len,h.few,h.now,h.firm,h.wait,by show 0≤d.armed - 1;have:=h.armed;omega⟩
theorem Zdx {d:RD}(h:WD d){n:Nat}(e:n < d.now.length){s:Sec}(c:s.length=64):WD (Z5s d n s):=by
 refine⟨by show _=(d.now.set n s).length;rw[bh];exact h.len,by show(d.now.set n s).length≤_;rw[bh];exact h.few,fun x b=>?_,h.firm,fun w a=>?_,h.armed⟩
 ·rcases co b with b | rfl
  ·exact h.now x b
  ·exact c
 ·show w.1 < (d.now.set n s).length∧_;rw[bh];rcases bu.1 a with a | a
  ·exact h.wait w a
  ·rw[bo.1 a];exact⟨e,c⟩
theorem Mx {d:RD}{n:Int}(h:K7 d n=0):d.dead=false∧0≤n∧n < d.now.length:=by
 unfold K7 at h;split at h
 ·cases h
 ·next a =>
  split at h
  ·cases h
  ·next b=>exact⟨by simpa using a,by omega,by omega⟩
theorem K6 {d:RD}(h:WD d)(n:Int)(b:Sec):WD (Ad d n b):=by
 unfold Ad;split
 ·exact h
 ·next a =>
  split
  ·exact h
  ·exact Pk (Zdx h (by have:=Mx (by omega:K7 d n=0);omega) (Cz b))
theorem Lo {d:RD}(h:WD d):WD (Aa d):=by
 unfold Aa;have hd:=Pk h;split
 ·exact h
 ·split
  ·exact hd
  ·have e:(Bt d).now=d.now:=by unfold Bt;split<;>rfl
   exact⟨by rw[e];exact(Fg _ _).trans h.len,hd.few,hd.now,Fp _ _ h.firm fun w a=>(h.wait w a).2,fun w a=>(by cases a),hd.armed⟩
theorem Z2x {old new:Sec}(a:old.length=64)(b:new.length=64)(t:Int):(Ld old new t).length=64:=by unfold Ld;simp[a,b];omega
theorem I5 (d:RD)(k t:Int):(Bb d k t).length=d.firm.length:=by
 unfold Bb;dsimp only;split
 ·rw[bh,Fg]
 ·rw[Fg]
theorem Fx {d:RD}(h:WD d)(k t:Int):WD (Ef d k t):=by
 have b:∀w∈d.wait.take (Iw d k),w.2.length=64:=fun w b=>(h.wait w (be b)).2;have a:∀s∈Bb d k t,s.length=64:=fun s a=>by
  unfold Bb at a;dsimp only at a;split at a
  ·next w e =>
   have f:=h.wait w (ae e);rcases co a with a | rfl
   ·exact Fp _ _ h.firm b s a
   ·have c:w.1 < (Gu d.firm (d.wait.take (Iw d k))).length:=by rw[Fg,h.len];exact f.1
    rw[ab c];exact Z2x (Fp _ _ h.firm b _ (bm c)) f.2 t
  ·exact Fp _ _ h.firm b s a
 exact⟨rfl,by show(Bb d k t).length≤_;rw[I5,h.len];exact h.few,a,a,fun w b=>(by cases b),br _⟩
structure LD where
 mark:Nat
 half:Nat
 firm:Nat
 b:Bs
 all:List ByteArray
 dead:Bool
 d:RD
def Cw (half:Nat):Nat:=2+half * 549
def frB (s:ByteArray):Bs:=byI ((s.size:Int) / 16777216)::byI ((s.size:Int) / 65536)::byI ((s.size:Int) / 256)::byI s.size::s.data.toList
def chB (b:Bs)(n:Nat):Bs:=(b.drop (n * 64)).take 64
def runW (f:Nat)(b:Bs):List Nat→RD→RD × Bool
 | [],d=>(d,true)
 | n::ns,d=>if Bg d ((f+n:Nat):Int) (chB b n)=0 then runW f b ns (Ad d ((f+n:Nat):Int) (chB b n)) else(Ad d ((f+n:Nat):Int) (chB b n),false)
def nsW (b:Bs)(frm:Nat):List Nat:=List.range' (frm / 64) ((b.length+63) / 64 - frm / 64)
def wrL (l:LD)(half:Nat)(b:Bs)(frm:Nat):LD:={l with d:=(runW (Cw half) b (nsW b frm) l.d).1,dead:=!(runW (Cw half) b (nsW b frm) l.d).2}
def wrE (l:LD)(half:Nat)(b:Bs)(frm:Nat):Bool:=(runW (Cw half) b (nsW b frm) l.d).2
def Am (m half firm:Nat):Bs:=be8 (m:Int)++UInt8.ofNat half::byI ((firm:Int) / 16777216)::byI ((firm:Int) / 65536)::byI ((firm:Int) / 256)::byI firm::List.replicate 43 0++be8 (m:Int)
def Gr (l:LD)(d:RD):LD:={l with d:=d,dead:=true}
def Ah (l:LD)(half firm:Nat):LD :=
 if Ct l.d≠0 then Gr l (Aa l.d)
 else if Bg (Aa l.d) (((l.mark+1) % 2:Nat):Int) (Am (l.mark+1) half firm)≠0 then Gr l (Ad (Aa l.d) (((l.mark+1) % 2:Nat):Int) (Am (l.mark+1) half firm))
 else if Ct (Ad (Aa l.d) (((l.mark+1) % 2:Nat):Int) (Am (l.mark+1) half firm))≠0 then Gr l (Aa (Ad (Aa l.d) (((l.mark+1) % 2:Nat):Int) (Am (l.mark+1) half firm)))
 else {l with mark:=l.mark+1,half:=half,firm:=firm,d:=Aa (Ad (Aa l.d) (((l.mark+1) % 2:Nat):Int) (Am (l.mark+1) half firm))}
def D7 (l:LD)(half firm:Nat):Int:=if(Ah l half firm).dead=true then 40 else 0
def Fa (l:LD):Int:=max (min (35136 - (l.b.length:Int) - 4) 4096) (-1)
def Eb (l:LD)(s:ByteArray):Int :=
 if l.dead=true then 40 else if s.size > 4096 then 52 else if(s.size:Int) > Fa l then 51
 else if wrE l l.half (l.b++frB s) l.b.length=true then 0 else 40
def Bj (l:LD)(s:ByteArray):LD :=
 if l.dead=true then l else if s.size > 4096 then l else if(s.size:Int) > Fa l then l
 else if wrE l l.half (l.b++frB s) l.b.length=true then {wrL l l.half (l.b++frB s) l.b.length with b:=l.b++frB s,all:=l.all++[s]}
 else wrL l l.half (l.b++frB s) l.b.length
def N9 (l:LD):Int:=if l.dead=true then 40 else D7 l l.half l.b.length
def Ic (l:LD):LD:=if l.dead=true then l else Ah l l.half l.b.length
def Ak (all:List ByteArray):Bs:=all.flatMap frB
def Nh (all:List ByteArray):Int:=if all.any (fun s=>decide (s.size > 4096))=true then 52 else if(Ak all).length > 35136 then 51 else 0
def Eo (l:LD)(all:List ByteArray):LD :=
 if l.dead=true then l else if Nh all≠0 then l
 else if wrE l (1 - l.half) (Ak all) 0=true then
  (if(Ah (wrL l (1 - l.half) (Ak all) 0) (1 - l.half) (Ak all).length).dead=true then Ah (wrL l (1 - l.half) (Ak all) 0) (1 - l.half) (Ak all).length
   else {Ah (wrL l (1 - l.half) (Ak all) 0) (1 - l.half) (Ak all).length with b:=Ak all,all:=all})
 else wrL l (1 - l.half) (Ak all) 0
def Id (l:LD)(all:List ByteArray):Int :=
 if l.dead=true then 40 else if Nh all≠0 then Nh all
 else if wrE l (1 - l.half) (Ak all) 0=true then D7 (wrL l (1 - l.half) (Ak all) 0) (1 - l.half) (Ak all).length else 40
structure MkL where
 mark:Nat
 half:Nat
 firm:Nat
 is:Bool
def Dp (d:RD)(n:Nat):MkL :=
 let b:=Ni d n
 if K7 d n≠0∨b.take 8≠b.drop 56 then⟨0,0,0,false⟩
 else⟨Dc (b.take 8),((b[8]?).getD 0).toNat,Dc ((b.drop 9).take 4),decide (((b[8]?).getD 0).toNat < 2)&&decide (Dc ((b.drop 9).take 4)≤35136)⟩
def Fv (a b:MkL):MkL:=if b.is=true∧b.mark > a.mark then b else a
def L8 (d:RD):MkL:=Fv (Fv ⟨0,0,0,true⟩ (Dp d 0)) (Dp d 1)
def D6 (d:RD)(half:Nat):Bs:=((d.now.drop (Cw half)).take 549).flatten
def Z5u:Nat→Bs→Option (List ByteArray)
 | 0,b=>if b=[] then some [] else none
 | n+1,b=>if b=[] then some [] else if b.length < 4 then none else if Dc (b.take 4) > 4096∨Dc (b.take 4) > b.length - 4 then none
  else(Z5u n (b.drop (4+Dc (b.take 4)))).map fun l=>⟨((b.drop 4).take (Dc (b.take 4))).toArray⟩::l
def Ng (b:Bs):Option (List ByteArray):=Z5u b.length b
theorem Rs:∀{n m:Nat} {b:Bs},b.length≤n→n≤m→Z5u m b=Z5u n b
 | 0,0,b,_,_=>rfl
 | 0,m+1,b,h,_=>by obtain rfl:b=[]:=am (by omega);simp[Z5u]
 | n+1,0,b,_,h=>by omega
 | n+1,m+1,b,h,h2=>by
  unfold Z5u;split
  ·rfl
  ·split
   ·rfl
   ·split
    ·rfl
    ·rw[Rs (n:=n) (m:=m) (by rw[bc];omega) (by omega)]
theorem Xy:Ng []=some []:=rfl
theorem R6 {b:Bs}(h:b≠[]):Ng b=if b.length < 4 then none else if Dc (b.take 4) > 4096∨Dc (b.take 4) > b.length - 4 then none
  else(Ng (b.drop (4+Dc (b.take 4)))).map fun l=>⟨((b.drop 4).take (Dc (b.take 4))).toArray⟩::l:=by
 obtain⟨n,a⟩:∃n,b.length=n+1:=by
  cases b with
  | nil=>exact de rfl h
  | cons x b=>exact⟨b.length,rfl⟩
 have e:Ng b=Z5u (n+1) b:=by unfold Ng;rw[a]
 rw[e];show(if b=[] then some [] else _)=_;rw[db h];split
 ·rfl
 ·split
  ·rfl
  ·unfold Ng;rw[Rs (n:=(b.drop (4+Dc (b.take 4))).length) (m:=n) (af _) (by rw[bc];omega)]
def Z5g (d:RD):Option LD:=match Ng ((D6 d (L8 d).half).take (L8 d).firm) with
 | none=>none
 | some l=>some ⟨(L8 d).mark,(L8 d).half,(L8 d).firm,(D6 d (L8 d).half).take (L8 d).firm,l,false,d⟩
end Go.Proofs.YtihfaocdpmmooaaGreat

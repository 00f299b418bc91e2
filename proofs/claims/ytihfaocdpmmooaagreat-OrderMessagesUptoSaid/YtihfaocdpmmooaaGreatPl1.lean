
import Derived.Test.YtihfaocdpmmooaaGreatPKM
import Derived.Test.YtihfaocdpmmooaaGreatRkM
namespace Go.Proofs.YtihfaocdpmmooaaGreat
structure RM where
 kind:Int
 view:Int
 normal:Int
 num:Int
 l:List REnt
def F7:Int→Int→List REnt→Bool
 | _,_,[]=>true
 | k,v,e::l=>decide (e.n=k+1∧e.n≤150∧v≤e.v∧e.b.size≤200)&&F7 (k+1) e.v l
def Fu (k:Int)(l:List REnt):Bool:=F7 k 1 l&&decide (l.length≤150)
def Aq (l:List REnt)(v:Int):Bool:=l.all fun e=>decide (e.v≤v)
def okM (m:RM):Bool:=decide (1≤m.view∧m.view≤big∧0≤m.normal∧m.normal < m.view∧0≤m.num∧m.num≤150) &&
 (if m.kind=1 then decide (m.normal=0∧m.num=0∧m.l.length=0)
  else if m.kind=2 then decide (m.num=0)&&Fu 0 m.l&&Aq m.l m.normal
  else if m.kind=3 then decide (m.normal=0∧m.num=0)&&Fu 0 m.l&&Aq m.l (m.view - 1)
  else if m.kind=4 then decide (m.normal=0)&&Fu m.num m.l&&Aq m.l m.view
  else if m.kind=5∨m.kind=6 then decide (m.normal=0∧m.l.length=0) else false)
def vw (v:Int)(l:List REnt):Int:=(l.getLast?.map REnt.v).getD v
theorem S0 (v:Int)(l:List REnt)(e:REnt):vw v (l++[e])=e.v:=by simp[vw]
theorem He (k v:Int)(e:REnt)(l:List REnt):F7 k v (e::l)=(decide (e.n=k+1∧e.n≤150∧v≤e.v∧e.b.size≤200)&&F7 (k+1) e.v l):=rfl
theorem Mx:∀(l m:List REnt) (k v:Int),F7 k v (l++m)=(F7 k v l&&F7 (k+l.length) (vw v l) m)
 | [],m,k,v=>by simp[F7,vw]
 | e::l,m,k,v=>by
  have ev:vw v (e::l)=vw e.v l:=by
   unfold vw
   rw[List.getLast?_cons]
   cases l.getLast?<;>rfl
  rw[List.cons_append,He,He,Mx l m (k+1) e.v,ev,Bool.and_assoc,List.length_cons,show k+1+(l.length:Int)=k+((l.length+1:Nat):Int) by omega]
theorem L1 {k v:Int}{l:List REnt}{i:Nat}{e:REnt}(h:l[i]?=some e)(ht:F7 k v (l.take i)=true)(he:e.n=k+i+1∧e.n≤150∧vw v (l.take i)≤e.v∧e.b.size≤200):F7 k v (l.take (i+1))=true∧vw v (l.take (i+1))=e.v:=by
 have hlt:=(List.getElem?_eq_some_iff.1 h).1
 have hl:(l.take i).length=i:=by rw[List.length_take];omega
 rw[List.take_add_one,h]
 refine⟨?_,S0 _ _ _⟩
 rw[show(some e).toList=[e] from rfl,Mx,ht,hl]
 unfold F7 F7
 rw[decide_eq_true he]
 rfl
theorem Di {k v:Int}{l:List REnt}{i:Nat}{e:REnt}(h:l[i]?=some e)(he:¬(e.n=k+i+1∧e.n≤150∧vw v (l.take i)≤e.v∧e.b.size≤200)):F7 k v l=false:=by
 have hlt:=(List.getElem?_eq_some_iff.1 h).1
 have e1:l=l.take i++e::l.drop (i+1):=by
  have e2:=(List.getElem?_eq_some_iff.1 h).2
  rw[←e2,List.getElem_cons_drop,List.take_append_drop]
 have hl:(l.take i).length=i:=by rw[List.length_take];omega
 rw[e1,Mx,hl]
 have:F7 (k+i) (vw v (l.take i)) (e::l.drop (i+1))=false:=by
  unfold F7
  rw[decide_eq_false he]
  rfl
 rw[this];simp
def enF (e:REnt):List RFd:=[⟨2,e.v,eS⟩,⟨2,e.n,eS⟩,⟨3,0,e.b⟩]
def Jj (l:List REnt):List RFd:=l.flatMap enF
def mhF (m:RM):List RFd:=[⟨1,m.kind,eS⟩,⟨2,m.view,eS⟩,⟨2,m.normal,eS⟩,⟨2,m.num,eS⟩,⟨1,m.l.length,eS⟩]
def mF (m:RM):List RFd:=mhF m++Jj m.l
def bM (m:RM):Bs:=if okM m=true then Fa (mF m) else []
def eM (m:RM):Int:=if okM m=true then 0 else 130
def kMh:List Int:=[1,2,2,2,1]
def kEn:List Int:=[2,2,3]
def Dj:Nat→List Int
 | 0=>[]
 | i+1=>Dj i++kEn
theorem E6 (i:Nat):(Dj i).length=3 * i:=by
 induction i with
 | zero=>rfl
 | succ i ih=>rw[Dj,List.length_append,ih];show 3 * i+3=_;omega
theorem Sz (i j:Nat):Dj (i+j)=Dj i++Dj j:=by
 induction j with
 | zero=>simp[Dj]
 | succ j ih=>rw[←Nat.add_assoc,Dj,Dj,ih,List.append_assoc]
theorem P2 (k:Nat):Dj (k+1)=kEn++Dj k:=by
 rw[Nat.add_comm,Sz];rfl
def toE:List RFd→List REnt
 | a::b::c::l=>⟨a.n,b.n,c.s⟩::toE l
 | _=>[]
theorem Z9:∀(k:Nat) (l m:List RFd),l.length=3 * k→toE (l++m)=toE l++toE m
 | 0,l,m,h=>by
  have:l=[]:=List.eq_nil_of_length_eq_zero (by omega)
  subst this;rfl
 | k+1,l,m,h=>by
  match l,h with
  | a::b::c::l,h =>
   have ih:=Z9 k l m (by simp only[List.length_cons] at h;omega)
   show toE (a::b::c::(l++m))=_
   rw[toE,toE,ih];rfl
  | [],h=>simp at h
  | [_],h=>simp at h;omega
  | [_,_],h=>simp at h;omega
theorem Xh:∀(i k:Nat) (l:List RFd),l.length=3 * k→i < k→∃a b c,l[3 * i]?=some a∧l[3 * i+1]?=some b∧l[3 * i+2]?=some c∧(toE l)[i]?=some ⟨a.n,b.n,c.s⟩
 | i,k,a::b::c::l,h,hi=>by
  cases i with
  | zero=>exact⟨a,b,c,rfl,rfl,rfl,rfl⟩
  | succ i =>
   obtain⟨a',b',c',h1,h2,h3,h7⟩:=Xh i (k - 1) l (by simp only[List.length_cons] at h;omega) (by omega)
   refine⟨a',b',c',?_,?_,?_,?_⟩
   ·rw[show 3 * (i+1)=3 * i+3 by omega];exact h1
   ·rw[show 3 * (i+1)+1=3 * i+1+3 by omega];exact h2
   ·rw[show 3 * (i+1)+2=3 * i+2+3 by omega];exact h3
   ·exact h7
 | i,k,[],h,hi=>by simp at h;omega
 | i,k,[_],h,hi=>by simp at h;omega
 | i,k,[_,_],h,hi=>by simp at h;omega
theorem Ie:∀(k:Nat) (l:List RFd),l.length=3 * k→(toE l).length=k
 | 0,l,h=>by
  have:l=[]:=List.eq_nil_of_length_eq_zero (by omega)
  subst this;rfl
 | k+1,l,h=>by
  match l,h with
  | a::b::c::l,h =>
   have ih:=Ie k l (by simp only[List.length_cons] at h;omega)
   rw[toE,List.length_cons,ih]
  | [],h=>simp at h
  | [_],h=>simp at h;omega
  | [_,_],h=>simp at h;omega
theorem Yv (l:List REnt):(Jj l).map RFd.kind=Dj l.length:=by
 induction l with
 | nil=>rfl
 | cons c l ih=>rw[List.length_cons,P2,←ih];rfl
theorem Z6 (l:List REnt)(c:REnt):Jj (l++[c])=Jj l++enF c:=by unfold Jj;rw[List.flatMap_append];simp
theorem Jt (l:List REnt):(Jj l).length=3 * l.length:=by
 induction l with
 | nil=>rfl
 | cons c l ih=>unfold Jj at *;rw[List.flatMap_cons,List.length_append,List.length_cons,ih];show 3+_=_;omega
theorem Z7u (l:List REnt):toE (Jj l)=l:=by
 induction l with
 | nil=>rfl
 | cons c l ih =>
  have e:toE (Jj (c::l))=⟨c.v,c.n,c.b⟩::toE (Jj l):=rfl
  rw[e,ih]
theorem Yn:∀(k:Nat) (l:List RFd),l.map RFd.kind=Dj k→Gd l=0→Jj (toE l)=l∧(toE l).length=k
 | 0,l,hk,_=>by
  have:l=[]:=by simpa [Dj] using hk
  subst this;exact⟨rfl,rfl⟩
 | k+1,l,hk,h=>by
  rw[P2] at hk
  match l,hk,h with
  | a::b::c::l,hk,h =>
   have hk:[a.kind,b.kind,c.kind]++l.map RFd.kind=[2,2,3]++Dj k:=hk
   obtain⟨k1,k2⟩:=List.append_inj hk rfl
   simp only[List.cons.injEq,and_true] at k1
   obtain⟨ka,kb,kc⟩:=k1
   have z:=Cu h
   have za:=z a (by simp)
   have zb:=z b (by simp)
   have zc:=z c (by simp)
   obtain⟨i1,i2⟩:=Yn k l k2 (G4 fun x hx=>z x (by simp[hx]))
   have eT:toE (a::b::c::l)=⟨a.n,b.n,c.s⟩::toE l:=rfl
   rw[eT]
   refine⟨?_,by rw[List.length_cons,i2]⟩
   show enF ⟨a.n,b.n,c.s⟩++Jj (toE l)=_
   rw[i1]
   show [(⟨2,a.n,eS⟩:RFd),⟨2,b.n,eS⟩,⟨3,0,c.s⟩]++l=_
   rw[S5 za ka (by decide),S5 zb kb (by decide),Z9s zc kc]
   rfl
  | [],hk,_=>simp[kEn] at hk
  | [_],hk,_=>simp[kEn] at hk
  | [_,_],hk,_=>simp[kEn] at hk
def rm0:RM:=⟨0,0,0,0,[]⟩
def Oh (b:Bs):Int:=match(Ad kMh b).l with
 | [_,_,_,_,f]=>f.n
 | _=>0
def mOf (b:Bs):RM:=match(Ad kMh b).l with
 | [a,c,d,e,_]=>⟨a.n,c.n,d.n,e.n,toE (Hf (Dj (Oh b).toNat) (b.drop (Ad kMh b).n)).l⟩
 | _=>rm0
def Gg (b:Bs):Prop:=(Ad kMh b).e=0∧(Hf (Dj (Oh b).toNat) (b.drop (Ad kMh b).n)).e=0∧okM (mOf b)=true
instance (b:Bs):Decidable (Gg b):=inferInstanceAs (Decidable (_∧_∧_))
def mD (b:Bs):RM:=if Gg b then mOf b else rm0
def eMd (b:Bs):Int:=if Gg b then 0 else 130
theorem Z82 {b:Bs}(h:(Ad kMh b).e=0):∃a c d e f,(Ad kMh b).l=[a,c,d,e,f]:=by
 have:=(Bz kMh b).2 h
 match hl:(Ad kMh b).l,this with
 | [a,c,d,e,f],_=>exact⟨a,c,d,e,f,rfl⟩
theorem U6:∀{l:List REnt} {k v:Int},F7 k v l=true→0≤k→∀e∈l,1≤e.n∧e.n≤150∧v≤e.v∧e.b.size≤200
 | [],_,_,_,_,e,he=>by cases he
 | x::l,k,v,h,hk,e,he=>by
  unfold F7 at h
  rw[Bool.and_eq_true,decide_eq_true_iff] at h
  obtain⟨⟨h1,h2,h3,h4⟩,h5⟩:=h
  rcases List.mem_cons.1 he with rfl | he
  ·exact⟨by omega,h2,h3,h4⟩
  ·have:=U6 h5 (by omega) e he
   exact⟨this.1,this.2.1,by omega,this.2.2.2⟩
theorem Hl {l:List REnt}{v:Int}(h:Aq l v=true):∀e∈l,e.v≤v:=fun e he=>by
 have:=List.all_eq_true.1 h e he
 simpa using this
theorem Ar {m:RM}(h:okM m=true):(1≤m.view∧m.view≤big∧0≤m.normal∧m.normal < m.view∧0≤m.num∧m.num≤150)∧(1≤m.kind∧m.kind≤6)∧m.l.length≤150∧∀e∈m.l,(1≤e.n∧e.n≤150)∧(1≤e.v∧e.v≤m.view)∧e.b.size≤200:=by
 unfold okM at h
 rw[Bool.and_eq_true,decide_eq_true_iff] at h
 obtain⟨hb,h⟩:=h
 refine⟨hb,?_⟩
 have row:∀{k v:Int},0≤k→v≤m.view→Fu k m.l=true→Aq m.l v=true→m.l.length≤150∧∀e∈m.l,(1≤e.n∧e.n≤150)∧(1≤e.v∧e.v≤m.view)∧e.b.size≤200:=fun {k v} hk hv h1 h2=>by
  unfold Fu at h1
  rw[Bool.and_eq_true,decide_eq_true_iff] at h1
  refine⟨h1.2,fun e he=>?_⟩
  have a:=U6 h1.1 hk e he
  have b:=Hl h2 e he
  exact⟨⟨a.1,a.2.1⟩,⟨a.2.2.1,by omega⟩,a.2.2.2⟩
 have nil:m.l.length=0→m.l.length≤150∧∀e∈m.l,(1≤e.n∧e.n≤150)∧(1≤e.v∧e.v≤m.view)∧e.b.size≤200:=fun h0=>by
  have:m.l=[]:=List.eq_nil_of_length_eq_zero h0
  rw[this]
  exact⟨Nat.zero_le _,fun e he=>by cases he⟩
 split at h
 ·next k1=>rw[decide_eq_true_iff] at h;exact⟨by omega,nil h.2.2⟩
 split at h
 ·next k1 =>
  simp only[Bool.and_eq_true] at h
  exact⟨by omega,row (Int.le_refl 0) (by omega) h.1.2 h.2⟩
 split at h
 ·next k1 =>
  simp only[Bool.and_eq_true] at h
  exact⟨by omega,row (Int.le_refl 0) (by omega) h.1.2 h.2⟩
 split at h
 ·next k1 =>
  simp only[Bool.and_eq_true] at h
  exact⟨by omega,row hb.2.2.2.2.1 (by omega) h.1.2 h.2⟩
 split at h
 ·next k1=>rw[decide_eq_true_iff] at h;exact⟨by omega,nil h.2⟩
 ·cases h
theorem O8 {m:RM}(h:okM m=true):Gd (mF m)=0:=by
 obtain⟨⟨h1,h2,h3,h4,h5,h6⟩,⟨k1,k2⟩,hl,he⟩:=Ar h
 refine G4 fun f hf=>?_
 have small:∀n:Int,0≤n→n≤255→fdE ⟨1,n,eS⟩=0:=fun n h0 h1=>by
  unfold fdE
  dsimp only
  rw[if_neg (by decide),if_neg (by rintro(h | h);exact h rfl;omega),if_pos ⟨rfl,h1⟩]
 have whole:∀n:Int,0≤n→n≤big→fdE ⟨2,n,eS⟩=0:=fun n h0 h1=>by
  unfold fdE
  dsimp only
  rw[if_neg (by decide),if_neg (by rintro(h | h);exact h rfl;omega),if_neg (by rintro⟨h,-⟩;cases h),if_neg (by rintro⟨h,-⟩;cases h),if_pos ⟨rfl,h1⟩]
 unfold mF mhF at hf
 have hbig:(150:Int)≤big:=by decide
 rcases List.mem_append.1 hf with hf | hf
 ·simp only[List.mem_cons,List.not_mem_nil,or_false] at hf
  rcases hf with rfl | rfl | rfl | rfl | rfl
  ·exact small _ (by omega) (by omega)
  ·exact whole _ (by omega) h2
  ·exact whole _ (by omega) (by omega)
  ·exact whole _ (by omega) (by omega)
  ·exact small _ (by omega) (by omega)
 ·obtain⟨e,hem,hf⟩:=List.mem_flatMap.1 hf
  obtain⟨⟨a1,a2⟩,⟨b1,b2⟩,c⟩:=he e hem
  simp only[enF,List.mem_cons,List.not_mem_nil,or_false] at hf
  rcases hf with rfl | rfl | rfl
  ·exact whole _ (by omega) (by omega)
  ·exact whole _ (by omega) (by omega)
  ·unfold fdE
   rw[if_pos rfl,if_neg (fun h=>h rfl),if_neg (by dsimp only;omega)]
theorem Zdq {m:RM}(h:okM m=true):Gg (bM m)∧mD (bM m)=m:=by
 have hE:=O8 h
 obtain⟨-,-,hl,-⟩:=Ar h
 have hb:bM m=Fa (mhF m)++Fa (Jj m.l):=by unfold bM;rw[if_pos h];unfold mF;rw[U0]
 have hh:Gd (mhF m)=0:=Z7 hE
 have hc:Gd (Jj m.l)=0:=by have:=hE;unfold mF at this;rwa [Z3h hh] at this
 have e1:Ad kMh (bM m)=⟨0,mhF m,(Fa (mhF m)).length⟩:=by rw[hb];exact Rx (mhF m) _ hh
 have eC:Oh (bM m)=m.l.length:=by unfold Oh;rw[e1];rfl
 have eD:Hf (Dj (Oh (bM m)).toNat) ((bM m).drop (Ad kMh (bM m)).n)=⟨0,Jj m.l,(Fa (Jj m.l)).length⟩:=by
  rw[eC,e1,Int.toNat_natCast]
  show Hf (Dj m.l.length) ((bM m).drop (Fa (mhF m)).length)=_
  rw[hb,List.drop_left,←Yv]
  exact So hc
 have hm:mOf (bM m)=m:=by
  unfold mOf
  rw[eD,e1]
  show(⟨m.kind,m.view,m.normal,m.num,toE (Jj m.l)⟩:RM)=m
  rw[Z7u]
 have ok:Gg (bM m):=⟨by rw[e1],by rw[eD],by rw[hm];exact h⟩
 exact⟨ok,by unfold mD;rw[if_pos ok,hm]⟩
theorem Z2g {b:Bs}(h:Gg b):okM (mD b)=true∧bM (mD b)=b:=by
 obtain⟨h1,h4,h5⟩:=id h
 have hmD:mD b=mOf b:=by unfold mD;rw[if_pos h]
 rw[hmD]
 refine⟨h5,?_⟩
 obtain⟨a,c,d,e,g,hl⟩:=Z82 h1
 obtain⟨e1,e2,e3⟩:=Oj kMh b h1
 rw[hl] at e1 e2 e3
 have hC:Oh b=g.n:=by unfold Oh;rw[hl]
 obtain⟨d1,d2,d3⟩:=Kx h4
 obtain⟨s1,s2,s3⟩:=Oj _ _ d1
 rw[d2] at s2
 rw[List.take_of_length_le (Nat.le_refl _)] at s2
 simp only[List.map_cons,List.map_nil,kMh,List.cons.injEq,and_true] at e3
 obtain⟨ka,kc,kd,ke,kg⟩:=e3
 have z:=Cu e1
 have za:=z a (by simp)
 have zc:=z c (by simp)
 have zd:=z d (by simp)
 have ze:=z e (by simp)
 have zg:=z g (by simp)
 obtain⟨t1,t2⟩:=Yn _ _ s3 s1
 have hg0:0≤g.n:=by
  rcases Ii zg with⟨hh,-⟩ | ⟨-,-,hh⟩
  ·omega
  ·exact hh
 have hT:mOf b=⟨a.n,c.n,d.n,e.n,toE (Ad (Dj (Oh b).toNat) (b.drop (Ad kMh b).n)).l⟩:=by
  unfold mOf
  rw[hl,d3]
 have hlen:((mOf b).l.length:Int)=g.n:=by
  rw[hT]
  show((toE _).length:Int)=_
  rw[t2,hC];omega
 have hF:mF (mOf b)=[a,c,d,e,g]++(Ad (Dj (Oh b).toNat) (b.drop (Ad kMh b).n)).l:=by
  unfold mF mhF
  rw[hlen,hT]
  show [(⟨1,a.n,eS⟩:RFd),⟨2,c.n,eS⟩,⟨2,d.n,eS⟩,⟨2,e.n,eS⟩,⟨1,g.n,eS⟩]++Jj (toE _)=_
  rw[t1,S5 za ka (by decide),S5 zc kc (by decide),S5 zd kd (by decide),S5 ze ke (by decide),S5 zg kg (by decide)]
 unfold bM
 rw[if_pos h5,hF,U0,e2,s2,List.take_append_drop]
end Go.Proofs.YtihfaocdpmmooaaGreat
namespace Go.Proofs.YtihfaocdpmmooaaGreat
abbrev Sec:=List UInt8
structure RD where
 now:List Sec
 firm:List Sec
 wait:List (Nat × Sec)
 armed:Int
 dead:Bool
def Dn (b:Sec):Sec:=b.take 64++List.replicate (64 - b.length) 0
theorem C0 (b:Sec):(Dn b).length=64:=by unfold Dn;simp;omega
def sec0:Sec:=List.replicate 64 0
def Wu (many:Int):Nat:=(min (max many 0) 65536).toNat
def W2 (many:Int):RD:=⟨List.replicate (Wu many) sec0,List.replicate (Wu many) sec0,[],0,false⟩
def Eb (d:RD):Bool:=if d.armed=0 then false else(d.armed - 1==0)
def B6 (d:RD):RD:=if d.armed=0 then d else {d with armed:=d.armed - 1,dead:=(d.armed - 1==0)}
def Jd (d:RD)(n:Int):Int:=if d.dead=true then 40 else if n < 0∨n ≥ d.now.length then 41 else 0
def Z38 (d:RD)(n:Nat)(s:Sec):RD:={d with now:=d.now.set n s,wait:=d.wait++[(n,s)]}
def Bf (d:RD)(n:Int)(b:Sec):Int:=if Jd d n≠0 then Jd d n else if b.length > 64 then 41 else if Eb d=true then 40 else 0
def Ab (d:RD)(n:Int)(b:Sec):RD:=if Jd d n≠0 then d else if b.length > 64 then d else B6 (Z38 d n.toNat (Dn b))
def Lf (d:RD)(n:Int):Sec:=if Jd d n≠0 then [] else d.now[n.toNat]?.getD []
def Lb (firm:List Sec)(wait:List (Nat × Sec)):List Sec:=wait.foldl (fun l w=>l.set w.1 w.2) firm
def Cw (d:RD):Int:=if d.dead=true∨Eb d=true then 40 else 0
def A9 (d:RD):RD:=if d.dead=true then d else if Eb d=true then B6 d else {B6 d with firm:=Lb d.firm d.wait,wait:=[]}
def Ux (d:RD)(keep:Int):Nat:=(min (max keep 0) (d.wait.length:Int)).toNat
def Z1r (old new:Sec)(tear:Int):Sec:=new.take (min (max tear 0) 64).toNat++old.drop (min (max tear 0) 64).toNat
def Eh (d:RD)(keep tear:Int):List Sec :=
 let l:=Lb d.firm (d.wait.take (Ux d keep))
 match d.wait[Ux d keep]? with
 | some w=>l.set w.1 (Z1r (l[w.1]?.getD []) w.2 tear)
 | none=>l
structure WD (d:RD):Prop where
 len:d.firm.length=d.now.length
 few:d.now.length≤65536
 now:∀s∈d.now,s.length=64
 firm:∀s∈d.firm,s.length=64
 wait:∀w∈d.wait,w.1 < d.now.length∧w.2.length=64
 armed:0≤d.armed
theorem Og:∀(wait:List (Nat × Sec)) (firm:List Sec),(Lb firm wait).length=firm.length
 | [],_=>rfl
 | w::l,firm=>by
  show(Lb (firm.set w.1 w.2) l).length=_
  rw[Og l,List.length_set]
theorem Na:∀(wait:List (Nat × Sec)) (firm:List Sec),(∀s∈firm,s.length=64)→(∀w∈wait,w.2.length=64)→∀s∈Lb firm wait,s.length=64
 | [],_,h,_=>h
 | w::l,firm,h,hw=>Na l _ (fun s hs=>by
  rcases List.mem_or_eq_of_mem_set hs with hs | rfl
  ·exact h s hs
  ·exact hw w (by simp)) fun x hx=>hw x (by simp[hx])
theorem Z2 {wait:List (Nat × Sec)}{firm:List Sec}{i:Nat}{w:Nat × Sec}(h:wait[i]?=some w):Lb firm (wait.take (i+1))=(Lb firm (wait.take i)).set w.1 w.2:=by
 unfold Lb
 rw[List.take_add_one,h]
 simp[List.foldl_append]
theorem Yc (many:Int):WD (W2 many):=by
 have h0:sec0.length=64:=List.length_replicate ..
 refine⟨rfl,?_,fun s hs=>?_,fun s hs=>?_,fun w hw=>(by cases hw),Int.le_refl _⟩
 ·show(List.replicate _ _).length≤_
  rw[List.length_replicate];unfold Wu;omega
 ·rw[(List.mem_replicate.1 hs).2];exact h0
 ·rw[(List.mem_replicate.1 hs).2];exact h0
theorem N3 {d:RD}(h:WD d):WD (B6 d):=by
 unfold B6
 split
 ·exact h
 ·exact⟨h.len,h.few,h.now,h.firm,h.wait,by show 0≤d.armed - 1;have:=h.armed;omega⟩
theorem Z7k {d:RD}(h:WD d){n:Nat}(hn:n < d.now.length){s:Sec}(hs:s.length=64):WD (Z38 d n s):=by
 refine⟨by show _=(d.now.set n s).length;rw[List.length_set];exact h.len,by show(d.now.set n s).length≤_;rw[List.length_set];exact h.few,fun x hx=>?_,h.firm,fun w hw=>?_,h.armed⟩
 ·rcases List.mem_or_eq_of_mem_set hx with hx | rfl
  ·exact h.now x hx
  ·exact hs
 ·show w.1 < (d.now.set n s).length∧_
  rw[List.length_set]
  rcases List.mem_append.1 hw with hw | hw
  ·exact h.wait w hw
  ·rw[List.mem_singleton.1 hw];exact⟨hn,hs⟩
theorem Nm {d:RD}{n:Int}(h:Jd d n=0):d.dead=false∧0≤n∧n < d.now.length:=by
 unfold Jd at h
 split at h
 ·cases h
 ·next h1 =>
  split at h
  ·cases h
  ·next h2=>exact⟨by simpa using h1,by omega,by omega⟩
theorem Ht {d:RD}(h:WD d)(n:Int)(b:Sec):WD (Ab d n b):=by
 unfold Ab
 split
 ·exact h
 ·next h1 =>
  split
  ·exact h
  ·exact N3 (Z7k h (by have:=Nm (by omega:Jd d n=0);omega) (C0 b))
theorem Js {d:RD}(h:WD d):WD (A9 d):=by
 unfold A9
 have hd:=N3 h
 split
 ·exact h
 ·split
  ·exact hd
  ·have e:(B6 d).now=d.now:=by unfold B6;split<;>rfl
   exact⟨by rw[e];exact(Og _ _).trans h.len,hd.few,hd.now,Na _ _ h.firm fun w hw=>(h.wait w hw).2,fun w hw=>(by cases hw),hd.armed⟩
end Go.Proofs.YtihfaocdpmmooaaGreat
namespace Go.Proofs.YtihfaocdpmmooaaGreat
structure LD where
 mark:Nat
 half:Nat
 firm:Nat
 b:Bs
 all:List ByteArray
 dead:Bool
 d:RD
def C4 (half:Nat):Nat:=2+half * 549
def frB (s:ByteArray):Bs:=byI ((s.size:Int) / 16777216)::byI ((s.size:Int) / 65536)::byI ((s.size:Int) / 256)::byI s.size::s.data.toList
def chB (b:Bs)(n:Nat):Bs:=(b.drop (n * 64)).take 64
def runW (f:Nat)(b:Bs):List Nat→RD→RD × Bool
 | [],d=>(d,true)
 | n::ns,d=>if Bf d ((f+n:Nat):Int) (chB b n)=0 then runW f b ns (Ab d ((f+n:Nat):Int) (chB b n)) else(Ab d ((f+n:Nat):Int) (chB b n),false)
def nsW (b:Bs)(frm:Nat):List Nat:=List.range' (frm / 64) ((b.length+63) / 64 - frm / 64)
def wrL (l:LD)(half:Nat)(b:Bs)(frm:Nat):LD:={l with d:=(runW (C4 half) b (nsW b frm) l.d).1,dead:=!(runW (C4 half) b (nsW b frm) l.d).2}
def wrE (l:LD)(half:Nat)(b:Bs)(frm:Nat):Bool:=(runW (C4 half) b (nsW b frm) l.d).2
def Ai (m half firm:Nat):Bs:=be8 (m:Int)++UInt8.ofNat half::byI ((firm:Int) / 16777216)::byI ((firm:Int) / 65536)::byI ((firm:Int) / 256)::byI firm::List.replicate 43 0++be8 (m:Int)
def H1 (l:LD)(d:RD):LD:={l with d:=d,dead:=true}
def Af (l:LD)(half firm:Nat):LD :=
 if Cw l.d≠0 then H1 l (A9 l.d)
 else if Bf (A9 l.d) (((l.mark+1) % 2:Nat):Int) (Ai (l.mark+1) half firm)≠0 then H1 l (Ab (A9 l.d) (((l.mark+1) % 2:Nat):Int) (Ai (l.mark+1) half firm))
 else if Cw (Ab (A9 l.d) (((l.mark+1) % 2:Nat):Int) (Ai (l.mark+1) half firm))≠0 then H1 l (A9 (Ab (A9 l.d) (((l.mark+1) % 2:Nat):Int) (Ai (l.mark+1) half firm)))
 else {l with mark:=l.mark+1,half:=half,firm:=firm,d:=A9 (Ab (A9 l.d) (((l.mark+1) % 2:Nat):Int) (Ai (l.mark+1) half firm))}
def D1 (l:LD)(half firm:Nat):Int:=if(Af l half firm).dead=true then 40 else 0
def Fs (l:LD):Int:=max (min (35136 - (l.b.length:Int) - 4) 4096) (-1)
def F8 (l:LD)(s:ByteArray):Int :=
 if l.dead=true then 40 else if s.size > 4096 then 52 else if(s.size:Int) > Fs l then 51
 else if wrE l l.half (l.b++frB s) l.b.length=true then 0 else 40
def B9 (l:LD)(s:ByteArray):LD :=
 if l.dead=true then l else if s.size > 4096 then l else if(s.size:Int) > Fs l then l
 else if wrE l l.half (l.b++frB s) l.b.length=true then {wrL l l.half (l.b++frB s) l.b.length with b:=l.b++frB s,all:=l.all++[s]}
 else wrL l l.half (l.b++frB s) l.b.length
def Ms (l:LD):Int:=if l.dead=true then 40 else D1 l l.half l.b.length
def Id (l:LD):LD:=if l.dead=true then l else Af l l.half l.b.length
def Ao (all:List ByteArray):Bs:=all.flatMap frB
def M9 (all:List ByteArray):Int:=if all.any (fun s=>decide (s.size > 4096))=true then 52 else if(Ao all).length > 35136 then 51 else 0
def Ek (l:LD)(all:List ByteArray):LD :=
 if l.dead=true then l else if M9 all≠0 then l
 else if wrE l (1 - l.half) (Ao all) 0=true then
  (if(Af (wrL l (1 - l.half) (Ao all) 0) (1 - l.half) (Ao all).length).dead=true then Af (wrL l (1 - l.half) (Ao all) 0) (1 - l.half) (Ao all).length
   else {Af (wrL l (1 - l.half) (Ao all) 0) (1 - l.half) (Ao all).length with b:=Ao all,all:=all})
 else wrL l (1 - l.half) (Ao all) 0
def Ic (l:LD)(all:List ByteArray):Int :=
 if l.dead=true then 40 else if M9 all≠0 then M9 all
 else if wrE l (1 - l.half) (Ao all) 0=true then D1 (wrL l (1 - l.half) (Ao all) 0) (1 - l.half) (Ao all).length else 40
structure MkL where
 mark:Nat
 half:Nat
 firm:Nat
 is:Bool
def Co (d:RD)(n:Nat):MkL :=
 let b:=Lf d n
 if Jd d n≠0∨b.take 8≠b.drop 56 then⟨0,0,0,false⟩
 else⟨Cc (b.take 8),((b[8]?).getD 0).toNat,Cc ((b.drop 9).take 4),decide (((b[8]?).getD 0).toNat < 2)&&decide (Cc ((b.drop 9).take 4)≤35136)⟩
def Ec (a b:MkL):MkL:=if b.is=true∧b.mark > a.mark then b else a
def Jg (d:RD):MkL:=Ec (Ec ⟨0,0,0,true⟩ (Co d 0)) (Co d 1)
def C5 (d:RD)(half:Nat):Bs:=((d.now.drop (C4 half)).take 549).flatten
def Z1b:Nat→Bs→Option (List ByteArray)
 | 0,b=>if b=[] then some [] else none
 | n+1,b=>if b=[] then some [] else if b.length < 4 then none else if Cc (b.take 4) > 4096∨Cc (b.take 4) > b.length - 4 then none
  else(Z1b n (b.drop (4+Cc (b.take 4)))).map fun l=>⟨((b.drop 4).take (Cc (b.take 4))).toArray⟩::l
def Ld (b:Bs):Option (List ByteArray):=Z1b b.length b
theorem Pe:∀{n m:Nat} {b:Bs},b.length≤n→n≤m→Z1b m b=Z1b n b
 | 0,0,b,_,_=>rfl
 | 0,m+1,b,h,_=>by
  obtain rfl:b=[]:=List.eq_nil_of_length_eq_zero (by omega)
  simp[Z1b]
 | n+1,0,b,_,h=>by omega
 | n+1,m+1,b,h,h2=>by
  unfold Z1b
  split
  ·rfl
  ·split
   ·rfl
   ·split
    ·rfl
    ·rw[Pe (n:=n) (m:=m) (by rw[List.length_drop];omega) (by omega)]
theorem Se:Ld []=some []:=rfl
theorem P0 {b:Bs}(h:b≠[]):Ld b=if b.length < 4 then none else if Cc (b.take 4) > 4096∨Cc (b.take 4) > b.length - 4 then none
  else(Ld (b.drop (4+Cc (b.take 4)))).map fun l=>⟨((b.drop 4).take (Cc (b.take 4))).toArray⟩::l:=by
 obtain⟨n,hn⟩:∃n,b.length=n+1:=by
  cases b with
  | nil=>exact absurd rfl h
  | cons x b=>exact⟨b.length,rfl⟩
 have e:Ld b=Z1b (n+1) b:=by unfold Ld;rw[hn]
 rw[e]
 show(if b=[] then some [] else _)=_
 rw[if_neg h]
 split
 ·rfl
 ·split
  ·rfl
  ·unfold Ld
   rw[Pe (n:=(b.drop (4+Cc (b.take 4))).length) (m:=n) (Nat.le_refl _) (by rw[List.length_drop];omega)]
def Z1d (d:RD):Option LD:=match Ld ((C5 d (Jg d).half).take (Jg d).firm) with
 | none=>none
 | some l=>some ⟨(Jg d).mark,(Jg d).half,(Jg d).firm,(C5 d (Jg d).half).take (Jg d).firm,l,false,d⟩
end Go.Proofs.YtihfaocdpmmooaaGreat

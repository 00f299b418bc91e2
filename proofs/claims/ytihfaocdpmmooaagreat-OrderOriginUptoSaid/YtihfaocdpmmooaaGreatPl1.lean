
import Derived.Test.YtihfaocdpmmooaaGreatPKM
import Derived.Test.YtihfaocdpmmooaaGreatRkM
namespace Go.Proofs.YtihfaocdpmmooaaGreat
structure RM where
 kind:Int
 view:Int
 normal:Int
 num:Int
 l:List REnt
def H8:Int→Int→List REnt→Bool
 | _,_,[]=>true
 | k,v,e::l=>decide (e.n=k+1∧e.n≤150∧v≤e.v∧e.b.size≤200)&&H8 (k+1) e.v l
def Lw (k:Int)(l:List REnt):Bool:=H8 k 1 l&&decide (l.length≤150)
def B9 (l:List REnt)(v:Int):Bool:=l.all fun e=>decide (e.v≤v)
def okM (m:RM):Bool:=decide (1≤m.view∧m.view≤big∧0≤m.normal∧m.normal < m.view∧0≤m.num∧m.num≤150) &&
 (if m.kind=1 then decide (m.normal=0∧m.num=0∧m.l.length=0)
  else if m.kind=2 then decide (m.num=0)&&Lw 0 m.l&&B9 m.l m.normal
  else if m.kind=3 then decide (m.normal=0∧m.num=0)&&Lw 0 m.l&&B9 m.l (m.view - 1)
  else if m.kind=4 then decide (m.normal=0)&&Lw m.num m.l&&B9 m.l m.view
  else if m.kind=5∨m.kind=6 then decide (m.normal=0∧m.l.length=0) else false)
def vw (v:Int)(l:List REnt):Int:=(l.getLast?.map REnt.v).getD v
theorem Z2g (v:Int)(l:List REnt)(e:REnt):vw v (l++[e])=e.v:=by simp[vw]
theorem L1 (k v:Int)(e:REnt)(l:List REnt):H8 k v (e::l)=(decide (e.n=k+1∧e.n≤150∧v≤e.v∧e.b.size≤200)&&H8 (k+1) e.v l):=rfl
theorem Nx:∀(l m:List REnt) (k v:Int),H8 k v (l++m)=(H8 k v l&&H8 (k+l.length) (vw v l) m)
 | [],m,k,v=>by simp[H8,vw]
 | e::l,m,k,v=>by
  have ev:vw v (e::l)=vw e.v l:=by
   unfold vw
   rw[List.getLast?_cons]
   cases l.getLast?<;>rfl
  rw[List.cons_append,L1,L1,Nx l m (k+1) e.v,ev,Bool.and_assoc,List.length_cons,show k+1+(l.length:Int)=k+((l.length+1:Nat):Int) by omega]
theorem Z1n {k v:Int}{l:List REnt}{i:Nat}{e:REnt}(h:l[i]?=some e)(ht:H8 k v (l.take i)=true)(he:e.n=k+i+1∧e.n≤150∧vw v (l.take i)≤e.v∧e.b.size≤200):H8 k v (l.take (i+1))=true∧vw v (l.take (i+1))=e.v:=by
 have hlt:=(List.getElem?_eq_some_iff.1 h).1
 have hl:(l.take i).length=i:=by rw[List.length_take];omega
 rw[List.take_add_one,h]
 refine⟨?_,Z2g _ _ _⟩
 rw[show(some e).toList=[e] from rfl,Nx,ht,hl]
 unfold H8 H8
 rw[decide_eq_true he]
 rfl
theorem Kh {k v:Int}{l:List REnt}{i:Nat}{e:REnt}(h:l[i]?=some e)(he:¬(e.n=k+i+1∧e.n≤150∧vw v (l.take i)≤e.v∧e.b.size≤200)):H8 k v l=false:=by
 have hlt:=(List.getElem?_eq_some_iff.1 h).1
 have e1:l=l.take i++e::l.drop (i+1):=by
  have e2:=(List.getElem?_eq_some_iff.1 h).2
  rw[←e2,List.getElem_cons_drop,List.take_append_drop]
 have hl:(l.take i).length=i:=by rw[List.length_take];omega
 rw[e1,Nx,hl]
 have:H8 (k+i) (vw v (l.take i)) (e::l.drop (i+1))=false:=by
  unfold H8
  rw[decide_eq_false he]
  rfl
 rw[this];simp
def enF (e:REnt):List RFd:=[⟨2,e.v,eS⟩,⟨2,e.n,eS⟩,⟨3,0,e.b⟩]
def Kd (l:List REnt):List RFd:=l.flatMap enF
def mhF (m:RM):List RFd:=[⟨1,m.kind,eS⟩,⟨2,m.view,eS⟩,⟨2,m.normal,eS⟩,⟨2,m.num,eS⟩,⟨1,m.l.length,eS⟩]
def mF (m:RM):List RFd:=mhF m++Kd m.l
def bM (m:RM):Bs:=if okM m=true then G4 (mF m) else []
def eM (m:RM):Int:=if okM m=true then 0 else 130
def kMh:List Int:=[1,2,2,2,1]
def kEn:List Int:=[2,2,3]
def Fi:Nat→List Int
 | 0=>[]
 | i+1=>Fi i++kEn
theorem Io (i:Nat):(Fi i).length=3 * i:=by
 induction i with
 | zero=>rfl
 | succ i ih=>rw[Fi,List.length_append,ih];show 3 * i+3=_;omega
theorem Uw (i j:Nat):Fi (i+j)=Fi i++Fi j:=by
 induction j with
 | zero=>simp[Fi]
 | succ j ih=>rw[←Nat.add_assoc,Fi,Fi,ih,List.append_assoc]
theorem Pd (k:Nat):Fi (k+1)=kEn++Fi k:=by
 rw[Nat.add_comm,Uw];rfl
def toE:List RFd→List REnt
 | a::b::c::l=>⟨a.n,b.n,c.s⟩::toE l
 | _=>[]
theorem Yu:∀(k:Nat) (l m:List RFd),l.length=3 * k→toE (l++m)=toE l++toE m
 | 0,l,m,h=>by
  have:l=[]:=List.eq_nil_of_length_eq_zero (by omega)
  subst this;rfl
 | k+1,l,m,h=>by
  match l,h with
  | a::b::c::l,h =>
   have ih:=Yu k l m (by simp only[List.length_cons] at h;omega)
   show toE (a::b::c::(l++m))=_
   rw[toE,toE,ih];rfl
  | [],h=>simp at h
  | [_],h=>simp at h;omega
  | [_,_],h=>simp at h;omega
theorem Lx:∀(k:Nat) (l:List RFd),l.length=3 * k→(toE l).length=k
 | 0,l,h=>by
  have:l=[]:=List.eq_nil_of_length_eq_zero (by omega)
  subst this;rfl
 | k+1,l,h=>by
  match l,h with
  | a::b::c::l,h =>
   have ih:=Lx k l (by simp only[List.length_cons] at h;omega)
   rw[toE,List.length_cons,ih]
  | [],h=>simp at h
  | [_],h=>simp at h;omega
  | [_,_],h=>simp at h;omega
theorem Z0v (l:List REnt):(Kd l).map RFd.kind=Fi l.length:=by
 induction l with
 | nil=>rfl
 | cons c l ih=>rw[List.length_cons,Pd,←ih];rfl
theorem Y4 (l:List REnt)(c:REnt):Kd (l++[c])=Kd l++enF c:=by unfold Kd;rw[List.flatMap_append];simp
theorem Vt (l:List REnt):(Kd l).length=3 * l.length:=by
 induction l with
 | nil=>rfl
 | cons c l ih=>unfold Kd at *;rw[List.flatMap_cons,List.length_append,List.length_cons,ih];show 3+_=_;omega
theorem Z9o (l:List REnt):toE (Kd l)=l:=by
 induction l with
 | nil=>rfl
 | cons c l ih =>
  have e:toE (Kd (c::l))=⟨c.v,c.n,c.b⟩::toE (Kd l):=rfl
  rw[e,ih]
theorem Z29:∀(k:Nat) (l:List RFd),l.map RFd.kind=Fi k→Hh l=0→Kd (toE l)=l∧(toE l).length=k
 | 0,l,hk,_=>by
  have:l=[]:=by simpa [Fi] using hk
  subst this;exact⟨rfl,rfl⟩
 | k+1,l,hk,h=>by
  rw[Pd] at hk
  match l,hk,h with
  | a::b::c::l,hk,h =>
   have hk:[a.kind,b.kind,c.kind]++l.map RFd.kind=[2,2,3]++Fi k:=hk
   obtain⟨k1,k2⟩:=List.append_inj hk rfl
   simp only[List.cons.injEq,and_true] at k1
   obtain⟨ka,kb,kc⟩:=k1
   have z:=Cw h
   have za:=z a (by simp)
   have zb:=z b (by simp)
   have zc:=z c (by simp)
   obtain⟨i1,i2⟩:=Z29 k l k2 (Iv fun x hx=>z x (by simp[hx]))
   have eT:toE (a::b::c::l)=⟨a.n,b.n,c.s⟩::toE l:=rfl
   rw[eT]
   refine⟨?_,by rw[List.length_cons,i2]⟩
   show enF ⟨a.n,b.n,c.s⟩++Kd (toE l)=_
   rw[i1]
   show [(⟨2,a.n,eS⟩:RFd),⟨2,b.n,eS⟩,⟨3,0,c.s⟩]++l=_
   rw[T5 za ka (by decide),T5 zb kb (by decide),Zdk zc kc]
   rfl
  | [],hk,_=>simp[kEn] at hk
  | [_],hk,_=>simp[kEn] at hk
  | [_,_],hk,_=>simp[kEn] at hk
def rm0:RM:=⟨0,0,0,0,[]⟩
def Pb (b:Bs):Int:=match(Ag kMh b).l with
 | [_,_,_,_,f]=>f.n
 | _=>0
def mOf (b:Bs):RM:=match(Ag kMh b).l with
 | [a,c,d,e,_]=>⟨a.n,c.n,d.n,e.n,toE (L8 (Fi (Pb b).toNat) (b.drop (Ag kMh b).n)).l⟩
 | _=>rm0
def Kp (b:Bs):Prop:=(Ag kMh b).e=0∧(L8 (Fi (Pb b).toNat) (b.drop (Ag kMh b).n)).e=0∧okM (mOf b)=true
instance (b:Bs):Decidable (Kp b):=inferInstanceAs (Decidable (_∧_∧_))
def mD (b:Bs):RM:=if Kp b then mOf b else rm0
def eMd (b:Bs):Int:=if Kp b then 0 else 130
theorem Zb3 {b:Bs}(h:(Ag kMh b).e=0):∃a c d e f,(Ag kMh b).l=[a,c,d,e,f]:=by
 have:=(Cx kMh b).2 h
 match hl:(Ag kMh b).l,this with
 | [a,c,d,e,f],_=>exact⟨a,c,d,e,f,rfl⟩
theorem W6:∀{l:List REnt} {k v:Int},H8 k v l=true→0≤k→∀e∈l,1≤e.n∧e.n≤150∧v≤e.v∧e.b.size≤200
 | [],_,_,_,_,e,he=>by cases he
 | x::l,k,v,h,hk,e,he=>by
  unfold H8 at h
  rw[Bool.and_eq_true,decide_eq_true_iff] at h
  obtain⟨⟨h1,h2,h3,h4⟩,h5⟩:=h
  rcases List.mem_cons.1 he with rfl | he
  ·exact⟨by omega,h2,h3,h4⟩
  ·have:=W6 h5 (by omega) e he
   exact⟨this.1,this.2.1,by omega,this.2.2.2⟩
theorem Lq {l:List REnt}{v:Int}(h:B9 l v=true):∀e∈l,e.v≤v:=fun e he=>by
 have:=List.all_eq_true.1 h e he
 simpa using this
theorem Ay {m:RM}(h:okM m=true):(1≤m.view∧m.view≤big∧0≤m.normal∧m.normal < m.view∧0≤m.num∧m.num≤150)∧(1≤m.kind∧m.kind≤6)∧m.l.length≤150∧∀e∈m.l,(1≤e.n∧e.n≤150)∧(1≤e.v∧e.v≤m.view)∧e.b.size≤200:=by
 unfold okM at h
 rw[Bool.and_eq_true,decide_eq_true_iff] at h
 obtain⟨hb,h⟩:=h
 refine⟨hb,?_⟩
 have row:∀{k v:Int},0≤k→v≤m.view→Lw k m.l=true→B9 m.l v=true→m.l.length≤150∧∀e∈m.l,(1≤e.n∧e.n≤150)∧(1≤e.v∧e.v≤m.view)∧e.b.size≤200:=fun {k v} hk hv h1 h2=>by
  unfold Lw at h1
  rw[Bool.and_eq_true,decide_eq_true_iff] at h1
  refine⟨h1.2,fun e he=>?_⟩
  have a:=W6 h1.1 hk e he
  have b:=Lq h2 e he
  exact⟨⟨a.1,a.2.1⟩,⟨a.2.2.1,by omega⟩,a.2.2.2⟩
 have nil:m.l.length=0→m.l.length≤150∧∀e∈m.l,(1≤e.n∧e.n≤150)∧(1≤e.v∧e.v≤m.view)∧e.b.size≤200:=fun h0=>by
  have:m.l=[]:=List.eq_nil_of_length_eq_zero h0
  rw[this]
  exact⟨Nat.zero_le _,fun e he=>by cases he⟩
 split at h
 ·next k1=>rw[decide_eq_true_iff] at h;exact⟨by omega,nil h.2.2⟩
 split at h
 ·next k1 =>
  simp only[Bool.and_eq_true] at h
  exact⟨by omega,row (Int.le_refl 0) (by omega) h.1.2 h.2⟩
 split at h
 ·next k1 =>
  simp only[Bool.and_eq_true] at h
  exact⟨by omega,row (Int.le_refl 0) (by omega) h.1.2 h.2⟩
 split at h
 ·next k1 =>
  simp only[Bool.and_eq_true] at h
  exact⟨by omega,row hb.2.2.2.2.1 (by omega) h.1.2 h.2⟩
 split at h
 ·next k1=>rw[decide_eq_true_iff] at h;exact⟨by omega,nil h.2⟩
 ·cases h
theorem Su {m:RM}(h:okM m=true):Hh (mF m)=0:=by
 obtain⟨⟨h1,h2,h3,h4,h5,h6⟩,⟨k1,k2⟩,hl,he⟩:=Ay h
 refine Iv fun f hf=>?_
 have small:∀n:Int,0≤n→n≤255→fdE ⟨1,n,eS⟩=0:=fun n h0 h1=>by
  unfold fdE
  dsimp only
  rw[if_neg (by decide),if_neg (by rintro(h | h);exact h rfl;omega),if_pos ⟨rfl,h1⟩]
 have whole:∀n:Int,0≤n→n≤big→fdE ⟨2,n,eS⟩=0:=fun n h0 h1=>by
  unfold fdE
  dsimp only
  rw[if_neg (by decide),if_neg (by rintro(h | h);exact h rfl;omega),if_neg (by rintro⟨h,-⟩;cases h),if_neg (by rintro⟨h,-⟩;cases h),if_pos ⟨rfl,h1⟩]
 unfold mF mhF at hf
 have hbig:(150:Int)≤big:=by decide
 rcases List.mem_append.1 hf with hf | hf
 ·simp only[List.mem_cons,List.not_mem_nil,or_false] at hf
  rcases hf with rfl | rfl | rfl | rfl | rfl
  ·exact small _ (by omega) (by omega)
  ·exact whole _ (by omega) h2
  ·exact whole _ (by omega) (by omega)
  ·exact whole _ (by omega) (by omega)
  ·exact small _ (by omega) (by omega)
 ·obtain⟨e,hem,hf⟩:=List.mem_flatMap.1 hf
  obtain⟨⟨a1,a2⟩,⟨b1,b2⟩,c⟩:=he e hem
  simp only[enF,List.mem_cons,List.not_mem_nil,or_false] at hf
  rcases hf with rfl | rfl | rfl
  ·exact whole _ (by omega) (by omega)
  ·exact whole _ (by omega) (by omega)
  ·unfold fdE
   rw[if_pos rfl,if_neg (fun h=>h rfl),if_neg (by dsimp only;omega)]
theorem Zev {m:RM}(h:okM m=true):Kp (bM m)∧mD (bM m)=m:=by
 have hE:=Su h
 obtain⟨-,-,hl,-⟩:=Ay h
 have hb:bM m=G4 (mhF m)++G4 (Kd m.l):=by unfold bM;rw[if_pos h];unfold mF;rw[Vc]
 have hh:Hh (mhF m)=0:=Zg hE
 have hc:Hh (Kd m.l)=0:=by have:=hE;unfold mF at this;rwa [Z5m hh] at this
 have e1:Ag kMh (bM m)=⟨0,mhF m,(G4 (mhF m)).length⟩:=by rw[hb];exact Rt (mhF m) _ hh
 have eC:Pb (bM m)=m.l.length:=by unfold Pb;rw[e1];rfl
 have eD:L8 (Fi (Pb (bM m)).toNat) ((bM m).drop (Ag kMh (bM m)).n)=⟨0,Kd m.l,(G4 (Kd m.l)).length⟩:=by
  rw[eC,e1,Int.toNat_natCast]
  show L8 (Fi m.l.length) ((bM m).drop (G4 (mhF m)).length)=_
  rw[hb,List.drop_left,←Z0v]
  exact Tf hc
 have hm:mOf (bM m)=m:=by
  unfold mOf
  rw[eD,e1]
  show(⟨m.kind,m.view,m.normal,m.num,toE (Kd m.l)⟩:RM)=m
  rw[Z9o]
 have ok:Kp (bM m):=⟨by rw[e1],by rw[eD],by rw[hm];exact h⟩
 exact⟨ok,by unfold mD;rw[if_pos ok,hm]⟩
theorem Zbw {b:Bs}(h:Kp b):okM (mD b)=true∧bM (mD b)=b:=by
 obtain⟨h1,h4,h5⟩:=id h
 have hmD:mD b=mOf b:=by unfold mD;rw[if_pos h]
 rw[hmD]
 refine⟨h5,?_⟩
 obtain⟨a,c,d,e,g,hl⟩:=Zb3 h1
 obtain⟨e1,e2,e3⟩:=Ox kMh b h1
 rw[hl] at e1 e2 e3
 have hC:Pb b=g.n:=by unfold Pb;rw[hl]
 obtain⟨d1,d2,d3⟩:=No h4
 obtain⟨s1,s2,s3⟩:=Ox _ _ d1
 rw[d2] at s2
 rw[List.take_of_length_le (Nat.le_refl _)] at s2
 simp only[List.map_cons,List.map_nil,kMh,List.cons.injEq,and_true] at e3
 obtain⟨ka,kc,kd,ke,kg⟩:=e3
 have z:=Cw e1
 have za:=z a (by simp)
 have zc:=z c (by simp)
 have zd:=z d (by simp)
 have ze:=z e (by simp)
 have zg:=z g (by simp)
 obtain⟨t1,t2⟩:=Z29 _ _ s3 s1
 have hg0:0≤g.n:=by
  rcases Jn zg with⟨hh,-⟩ | ⟨-,-,hh⟩
  ·omega
  ·exact hh
 have hT:mOf b=⟨a.n,c.n,d.n,e.n,toE (Ag (Fi (Pb b).toNat) (b.drop (Ag kMh b).n)).l⟩:=by
  unfold mOf
  rw[hl,d3]
 have hlen:((mOf b).l.length:Int)=g.n:=by
  rw[hT]
  show((toE _).length:Int)=_
  rw[t2,hC];omega
 have hF:mF (mOf b)=[a,c,d,e,g]++(Ag (Fi (Pb b).toNat) (b.drop (Ag kMh b).n)).l:=by
  unfold mF mhF
  rw[hlen,hT]
  show [(⟨1,a.n,eS⟩:RFd),⟨2,c.n,eS⟩,⟨2,d.n,eS⟩,⟨2,e.n,eS⟩,⟨1,g.n,eS⟩]++Kd (toE _)=_
  rw[t1,T5 za ka (by decide),T5 zc kc (by decide),T5 zd kd (by decide),T5 ze ke (by decide),T5 zg kg (by decide)]
 unfold bM
 rw[if_pos h5,hF,Vc,e2,s2,List.take_append_drop]
end Go.Proofs.YtihfaocdpmmooaaGreat
namespace Go.Proofs.YtihfaocdpmmooaaGreat
abbrev Sec:=List UInt8
structure RD where
 now:List Sec
 firm:List Sec
 wait:List (Nat × Sec)
 armed:Int
 dead:Bool
def E1 (b:Sec):Sec:=b.take 64++List.replicate (64 - b.length) 0
theorem Ca (b:Sec):(E1 b).length=64:=by unfold E1;simp;omega
def sec0:Sec:=List.replicate 64 0
def Ye (many:Int):Nat:=(min (max many 0) 65536).toNat
def Xb (many:Int):RD:=⟨List.replicate (Ye many) sec0,List.replicate (Ye many) sec0,[],0,false⟩
def F4 (d:RD):Bool:=if d.armed=0 then false else(d.armed - 1==0)
def Ba (d:RD):RD:=if d.armed=0 then d else {d with armed:=d.armed - 1,dead:=(d.armed - 1==0)}
def K0 (d:RD)(n:Int):Int:=if d.dead=true then 40 else if n < 0∨n ≥ d.now.length then 41 else 0
def Z4o (d:RD)(n:Nat)(s:Sec):RD:={d with now:=d.now.set n s,wait:=d.wait++[(n,s)]}
def Bn (d:RD)(n:Int)(b:Sec):Int:=if K0 d n≠0 then K0 d n else if b.length > 64 then 41 else if F4 d=true then 40 else 0
def Ae (d:RD)(n:Int)(b:Sec):RD:=if K0 d n≠0 then d else if b.length > 64 then d else Ba (Z4o d n.toNat (E1 b))
def Mc (d:RD)(n:Int):Sec:=if K0 d n≠0 then [] else d.now[n.toNat]?.getD []
def Fw (firm:List Sec)(wait:List (Nat × Sec)):List Sec:=wait.foldl (fun l w=>l.set w.1 w.2) firm
def Da (d:RD):Int:=if d.dead=true∨F4 d=true then 40 else 0
def Ab (d:RD):RD:=if d.dead=true then d else if F4 d=true then Ba d else {Ba d with firm:=Fw d.firm d.wait,wait:=[]}
def Hj (d:RD)(keep:Int):Nat:=(min (max keep 0) (d.wait.length:Int)).toNat
def K7 (old new:Sec)(tear:Int):Sec:=new.take (min (max tear 0) 64).toNat++old.drop (min (max tear 0) 64).toNat
def B7 (d:RD)(keep tear:Int):List Sec :=
 let l:=Fw d.firm (d.wait.take (Hj d keep))
 match d.wait[Hj d keep]? with
 | some w=>l.set w.1 (K7 (l[w.1]?.getD []) w.2 tear)
 | none=>l
def Ei (d:RD)(keep tear:Int):RD:=⟨B7 d keep tear,B7 d keep tear,[],0,false⟩
structure WD (d:RD):Prop where
 len:d.firm.length=d.now.length
 few:d.now.length≤65536
 now:∀s∈d.now,s.length=64
 firm:∀s∈d.firm,s.length=64
 wait:∀w∈d.wait,w.1 < d.now.length∧w.2.length=64
 armed:0≤d.armed
theorem Ew:∀(wait:List (Nat × Sec)) (firm:List Sec),(Fw firm wait).length=firm.length
 | [],_=>rfl
 | w::l,firm=>by
  show(Fw (firm.set w.1 w.2) l).length=_
  rw[Ew l,List.length_set]
theorem Eu:∀(wait:List (Nat × Sec)) (firm:List Sec),(∀s∈firm,s.length=64)→(∀w∈wait,w.2.length=64)→∀s∈Fw firm wait,s.length=64
 | [],_,h,_=>h
 | w::l,firm,h,hw=>Eu l _ (fun s hs=>by
  rcases List.mem_or_eq_of_mem_set hs with hs | rfl
  ·exact h s hs
  ·exact hw w (by simp)) fun x hx=>hw x (by simp[hx])
theorem Q9 {wait:List (Nat × Sec)}{firm:List Sec}{i:Nat}{w:Nat × Sec}(h:wait[i]?=some w):Fw firm (wait.take (i+1))=(Fw firm (wait.take i)).set w.1 w.2:=by
 unfold Fw
 rw[List.take_add_one,h]
 simp[List.foldl_append]
theorem Za (many:Int):WD (Xb many):=by
 have h0:sec0.length=64:=List.length_replicate ..
 refine⟨rfl,?_,fun s hs=>?_,fun s hs=>?_,fun w hw=>(by cases hw),Int.le_refl _⟩
 ·show(List.replicate _ _).length≤_
  rw[List.length_replicate];unfold Ye;omega
 ·rw[(List.mem_replicate.1 hs).2];exact h0
 ·rw[(List.mem_replicate.1 hs).2];exact h0
theorem Od {d:RD}(h:WD d):WD (Ba d):=by
 unfold Ba
 split
 ·exact h
 ·exact⟨h.len,h.few,h.now,h.firm,h.wait,by show 0≤d.armed - 1;have:=h.armed;omega⟩
theorem Z82 {d:RD}(h:WD d){n:Nat}(hn:n < d.now.length){s:Sec}(hs:s.length=64):WD (Z4o d n s):=by
 refine⟨by show _=(d.now.set n s).length;rw[List.length_set];exact h.len,by show(d.now.set n s).length≤_;rw[List.length_set];exact h.few,fun x hx=>?_,h.firm,fun w hw=>?_,h.armed⟩
 ·rcases List.mem_or_eq_of_mem_set hx with hx | rfl
  ·exact h.now x hx
  ·exact hs
 ·show w.1 < (d.now.set n s).length∧_
  rw[List.length_set]
  rcases List.mem_append.1 hw with hw | hw
  ·exact h.wait w hw
  ·rw[List.mem_singleton.1 hw];exact⟨hn,hs⟩
theorem Or {d:RD}{n:Int}(h:K0 d n=0):d.dead=false∧0≤n∧n < d.now.length:=by
 unfold K0 at h
 split at h
 ·cases h
 ·next h1 =>
  split at h
  ·cases h
  ·next h2=>exact⟨by simpa using h1,by omega,by omega⟩
theorem Id {d:RD}(h:WD d)(n:Int)(b:Sec):WD (Ae d n b):=by
 unfold Ae
 split
 ·exact h
 ·next h1 =>
  split
  ·exact h
  ·exact Od (Z82 h (by have:=Or (by omega:K0 d n=0);omega) (Ca b))
theorem Kg {d:RD}(h:WD d):WD (Ab d):=by
 unfold Ab
 have hd:=Od h
 split
 ·exact h
 ·split
  ·exact hd
  ·have e:(Ba d).now=d.now:=by unfold Ba;split<;>rfl
   exact⟨by rw[e];exact(Ew _ _).trans h.len,hd.few,hd.now,Eu _ _ h.firm fun w hw=>(h.wait w hw).2,fun w hw=>(by cases hw),hd.armed⟩
theorem Z01 {old new:Sec}(h1:old.length=64)(h2:new.length=64)(t:Int):(K7 old new t).length=64:=by
 unfold K7
 simp[h1,h2]
 omega
theorem Gs (d:RD)(k t:Int):(B7 d k t).length=d.firm.length:=by
 unfold B7
 dsimp only
 split
 ·rw[List.length_set,Ew]
 ·rw[Ew]
theorem F9 {d:RD}(h:WD d)(k t:Int):WD (Ei d k t):=by
 have hw:∀w∈d.wait.take (Hj d k),w.2.length=64:=fun w hw=>(h.wait w (List.mem_of_mem_take hw)).2
 have hs:∀s∈B7 d k t,s.length=64:=fun s hs=>by
  unfold B7 at hs
  dsimp only at hs
  split at hs
  ·next w hw' =>
   have hm:=h.wait w (List.mem_of_getElem? hw')
   rcases List.mem_or_eq_of_mem_set hs with hs | rfl
   ·exact Eu _ _ h.firm hw s hs
   ·have hlt:w.1 < (Fw d.firm (d.wait.take (Hj d k))).length:=by rw[Ew,h.len];exact hm.1
    rw[List.getElem?_eq_getElem hlt]
    exact Z01 (Eu _ _ h.firm hw _ (List.getElem_mem hlt)) hm.2 t
  ·exact Eu _ _ h.firm hw s hs
 exact⟨rfl,by show(B7 d k t).length≤_;rw[Gs,h.len];exact h.few,hs,hs,fun w hw=>(by cases hw),Int.le_refl _⟩
end Go.Proofs.YtihfaocdpmmooaaGreat
namespace Go.Proofs.YtihfaocdpmmooaaGreat
structure LD where
 mark:Nat
 half:Nat
 firm:Nat
 b:Bs
 all:List ByteArray
 dead:Bool
 d:RD
def Ce (half:Nat):Nat:=2+half * 549
def frB (s:ByteArray):Bs:=byI ((s.size:Int) / 16777216)::byI ((s.size:Int) / 65536)::byI ((s.size:Int) / 256)::byI s.size::s.data.toList
def chB (b:Bs)(n:Nat):Bs:=(b.drop (n * 64)).take 64
def runW (f:Nat)(b:Bs):List Nat→RD→RD × Bool
 | [],d=>(d,true)
 | n::ns,d=>if Bn d ((f+n:Nat):Int) (chB b n)=0 then runW f b ns (Ae d ((f+n:Nat):Int) (chB b n)) else(Ae d ((f+n:Nat):Int) (chB b n),false)
def nsW (b:Bs)(frm:Nat):List Nat:=List.range' (frm / 64) ((b.length+63) / 64 - frm / 64)
def wrL (l:LD)(half:Nat)(b:Bs)(frm:Nat):LD:={l with d:=(runW (Ce half) b (nsW b frm) l.d).1,dead:=!(runW (Ce half) b (nsW b frm) l.d).2}
def wrE (l:LD)(half:Nat)(b:Bs)(frm:Nat):Bool:=(runW (Ce half) b (nsW b frm) l.d).2
def Ak (m half firm:Nat):Bs:=be8 (m:Int)++UInt8.ofNat half::byI ((firm:Int) / 16777216)::byI ((firm:Int) / 65536)::byI ((firm:Int) / 256)::byI firm::List.replicate 43 0++be8 (m:Int)
def Hk (l:LD)(d:RD):LD:={l with d:=d,dead:=true}
def Ah (l:LD)(half firm:Nat):LD :=
 if Da l.d≠0 then Hk l (Ab l.d)
 else if Bn (Ab l.d) (((l.mark+1) % 2:Nat):Int) (Ak (l.mark+1) half firm)≠0 then Hk l (Ae (Ab l.d) (((l.mark+1) % 2:Nat):Int) (Ak (l.mark+1) half firm))
 else if Da (Ae (Ab l.d) (((l.mark+1) % 2:Nat):Int) (Ak (l.mark+1) half firm))≠0 then Hk l (Ab (Ae (Ab l.d) (((l.mark+1) % 2:Nat):Int) (Ak (l.mark+1) half firm)))
 else {l with mark:=l.mark+1,half:=half,firm:=firm,d:=Ab (Ae (Ab l.d) (((l.mark+1) % 2:Nat):Int) (Ak (l.mark+1) half firm))}
def Dd (l:LD)(half firm:Nat):Int:=if(Ah l half firm).dead=true then 40 else 0
def G1 (l:LD):Int:=max (min (35136 - (l.b.length:Int) - 4) 4096) (-1)
def Fx (l:LD)(s:ByteArray):Int :=
 if l.dead=true then 40 else if s.size > 4096 then 52 else if(s.size:Int) > G1 l then 51
 else if wrE l l.half (l.b++frB s) l.b.length=true then 0 else 40
def Bc (l:LD)(s:ByteArray):LD :=
 if l.dead=true then l else if s.size > 4096 then l else if(s.size:Int) > G1 l then l
 else if wrE l l.half (l.b++frB s) l.b.length=true then {wrL l l.half (l.b++frB s) l.b.length with b:=l.b++frB s,all:=l.all++[s]}
 else wrL l l.half (l.b++frB s) l.b.length
def Og (l:LD):Int:=if l.dead=true then 40 else Dd l l.half l.b.length
def Ja (l:LD):LD:=if l.dead=true then l else Ah l l.half l.b.length
def An (all:List ByteArray):Bs:=all.flatMap frB
def Me (all:List ByteArray):Int:=if all.any (fun s=>decide (s.size > 4096))=true then 52 else if(An all).length > 35136 then 51 else 0
def Fc (l:LD)(all:List ByteArray):LD :=
 if l.dead=true then l else if Me all≠0 then l
 else if wrE l (1 - l.half) (An all) 0=true then
  (if(Ah (wrL l (1 - l.half) (An all) 0) (1 - l.half) (An all).length).dead=true then Ah (wrL l (1 - l.half) (An all) 0) (1 - l.half) (An all).length
   else {Ah (wrL l (1 - l.half) (An all) 0) (1 - l.half) (An all).length with b:=An all,all:=all})
 else wrL l (1 - l.half) (An all) 0
def J8 (l:LD)(all:List ByteArray):Int :=
 if l.dead=true then 40 else if Me all≠0 then Me all
 else if wrE l (1 - l.half) (An all) 0=true then Dd (wrL l (1 - l.half) (An all) 0) (1 - l.half) (An all).length else 40
structure MkL where
 mark:Nat
 half:Nat
 firm:Nat
 is:Bool
def Cv (d:RD)(n:Nat):MkL :=
 let b:=Mc d n
 if K0 d n≠0∨b.take 8≠b.drop 56 then⟨0,0,0,false⟩
 else⟨Ct (b.take 8),((b[8]?).getD 0).toNat,Ct ((b.drop 9).take 4),decide (((b[8]?).getD 0).toNat < 2)&&decide (Ct ((b.drop 9).take 4)≤35136)⟩
def F3 (a b:MkL):MkL:=if b.is=true∧b.mark > a.mark then b else a
def Kb (d:RD):MkL:=F3 (F3 ⟨0,0,0,true⟩ (Cv d 0)) (Cv d 1)
def Cf (d:RD)(half:Nat):Bs:=((d.now.drop (Ce half)).take 549).flatten
def Z2u:Nat→Bs→Option (List ByteArray)
 | 0,b=>if b=[] then some [] else none
 | n+1,b=>if b=[] then some [] else if b.length < 4 then none else if Ct (b.take 4) > 4096∨Ct (b.take 4) > b.length - 4 then none
  else(Z2u n (b.drop (4+Ct (b.take 4)))).map fun l=>⟨((b.drop 4).take (Ct (b.take 4))).toArray⟩::l
def M5 (b:Bs):Option (List ByteArray):=Z2u b.length b
theorem R5:∀{n m:Nat} {b:Bs},b.length≤n→n≤m→Z2u m b=Z2u n b
 | 0,0,b,_,_=>rfl
 | 0,m+1,b,h,_=>by
  obtain rfl:b=[]:=List.eq_nil_of_length_eq_zero (by omega)
  simp[Z2u]
 | n+1,0,b,_,h=>by omega
 | n+1,m+1,b,h,h2=>by
  unfold Z2u
  split
  ·rfl
  ·split
   ·rfl
   ·split
    ·rfl
    ·rw[R5 (n:=n) (m:=m) (by rw[List.length_drop];omega) (by omega)]
theorem V7:M5 []=some []:=rfl
theorem Qr {b:Bs}(h:b≠[]):M5 b=if b.length < 4 then none else if Ct (b.take 4) > 4096∨Ct (b.take 4) > b.length - 4 then none
  else(M5 (b.drop (4+Ct (b.take 4)))).map fun l=>⟨((b.drop 4).take (Ct (b.take 4))).toArray⟩::l:=by
 obtain⟨n,hn⟩:∃n,b.length=n+1:=by
  cases b with
  | nil=>exact absurd rfl h
  | cons x b=>exact⟨b.length,rfl⟩
 have e:M5 b=Z2u (n+1) b:=by unfold M5;rw[hn]
 rw[e]
 show(if b=[] then some [] else _)=_
 rw[if_neg h]
 split
 ·rfl
 ·split
  ·rfl
  ·unfold M5
   rw[R5 (n:=(b.drop (4+Ct (b.take 4))).length) (m:=n) (Nat.le_refl _) (by rw[List.length_drop];omega)]
def Z08 (d:RD):Option LD:=match M5 ((Cf d (Kb d).half).take (Kb d).firm) with
 | none=>none
 | some l=>some ⟨(Kb d).mark,(Kb d).half,(Kb d).firm,(Cf d (Kb d).half).take (Kb d).firm,l,false,d⟩
end Go.Proofs.YtihfaocdpmmooaaGreat


import Derived.Test.YtihfaocdpmmooaaGreatPKM
import Derived.Test.YtihfaocdpmmooaaGreatRkM
namespace Go.Proofs.YtihfaocdpmmooaaGreat
structure RM where
 kind:Int
 view:Int
 normal:Int
 num:Int
 l:List REnt
def Gd:Int→Int→List REnt→Bool
 | _,_,[]=>true
 | k,v,e::l=>decide (e.n=k+1∧e.n≤150∧v≤e.v∧e.b.size≤200)&&Gd (k+1) e.v l
def Gq (k:Int)(l:List REnt):Bool:=Gd k 1 l&&decide (l.length≤150)
def Au (l:List REnt)(v:Int):Bool:=l.all fun e=>decide (e.v≤v)
def okM (m:RM):Bool:=decide (1≤m.view∧m.view≤big∧0≤m.normal∧m.normal < m.view∧0≤m.num∧m.num≤150) &&
 (if m.kind=1 then decide (m.normal=0∧m.num=0∧m.l.length=0)
  else if m.kind=2 then decide (m.num=0)&&Gq 0 m.l&&Au m.l m.normal
  else if m.kind=3 then decide (m.normal=0∧m.num=0)&&Gq 0 m.l&&Au m.l (m.view - 1)
  else if m.kind=4 then decide (m.normal=0)&&Gq m.num m.l&&Au m.l m.view
  else if m.kind=5∨m.kind=6 then decide (m.normal=0∧m.l.length=0) else false)
def vw (v:Int)(l:List REnt):Int:=(l.getLast?.map REnt.v).getD v
theorem Sd (v:Int)(l:List REnt)(e:REnt):vw v (l++[e])=e.v:=by simp[vw]
theorem J4 (k v:Int)(e:REnt)(l:List REnt):Gd k v (e::l)=(decide (e.n=k+1∧e.n≤150∧v≤e.v∧e.b.size≤200)&&Gd (k+1) e.v l):=rfl
theorem Ny:∀(l m:List REnt) (k v:Int),Gd k v (l++m)=(Gd k v l&&Gd (k+l.length) (vw v l) m)
 | [],m,k,v=>by simp[Gd,vw]
 | e::l,m,k,v=>by
  have ev:vw v (e::l)=vw e.v l:=by
   unfold vw
   rw[List.getLast?_cons]
   cases l.getLast?<;>rfl
  rw[c8,J4,J4,Ny l m (k+1) e.v,ev,Bool.and_assoc,bc,show k+1+(l.length:Int)=k+((l.length+1:Nat):Int) by omega]
theorem M6 {k v:Int}{l:List REnt}{i:Nat}{e:REnt}(h:l[i]?=some e)(ht:Gd k v (l.take i)=true)(he:e.n=k+i+1∧e.n≤150∧vw v (l.take i)≤e.v∧e.b.size≤200):Gd k v (l.take (i+1))=true∧vw v (l.take (i+1))=e.v:=by
 have hlt:=(ac.1 h).1
 have hl:(l.take i).length=i:=by rw[au];omega
 rw[List.take_add_one,h]
 refine⟨?_,Sd _ _ _⟩
 rw[show(some e).toList=[e] from rfl,Ny,ht,hl]
 unfold Gd Gd
 rw[decide_eq_true he]
 rfl
theorem E9 {k v:Int}{l:List REnt}{i:Nat}{e:REnt}(h:l[i]?=some e)(he:¬(e.n=k+i+1∧e.n≤150∧vw v (l.take i)≤e.v∧e.b.size≤200)):Gd k v l=false:=by
 have hlt:=(ac.1 h).1
 have e1:l=l.take i++e::l.drop (i+1):=by
  have e2:=(ac.1 h).2
  rw[←e2,List.getElem_cons_drop,cw]
 have hl:(l.take i).length=i:=by rw[au];omega
 rw[e1,Ny,hl]
 have:Gd (k+i) (vw v (l.take i)) (e::l.drop (i+1))=false:=by
  unfold Gd
  rw[decide_eq_false he]
  rfl
 rw[this];simp
def enF (e:REnt):List RFd:=[⟨2,e.v,eS⟩,⟨2,e.n,eS⟩,⟨3,0,e.b⟩]
def Rg (l:List REnt):List RFd:=l.flatMap enF
def mhF (m:RM):List RFd:=[⟨1,m.kind,eS⟩,⟨2,m.view,eS⟩,⟨2,m.normal,eS⟩,⟨2,m.num,eS⟩,⟨1,m.l.length,eS⟩]
def mF (m:RM):List RFd:=mhF m++Rg m.l
def bM (m:RM):Bs:=if okM m=true then Hv (mF m) else []
def eM (m:RM):Int:=if okM m=true then 0 else 130
def kMh:List Int:=[1,2,2,2,1]
def kEn:List Int:=[2,2,3]
def Eu:Nat→List Int
 | 0=>[]
 | i+1=>Eu i++kEn
theorem Ey (i:Nat):(Eu i).length=3 * i:=by
 induction i with
 | zero=>rfl
 | succ i ih=>rw[Eu,aw,ih];show 3 * i+3=_;omega
theorem Ua (i j:Nat):Eu (i+j)=Eu i++Eu j:=by
 induction j with
 | zero=>simp[Eu]
 | succ j ih=>rw[←cu,Eu,Eu,ih,bw]
theorem Zj (k:Nat):Eu (k+1)=kEn++Eu k:=by
 rw[Nat.add_comm,Ua];rfl
def toE:List RFd→List REnt
 | a::b::c::l=>⟨a.n,b.n,c.s⟩::toE l
 | _=>[]
theorem Yi:∀(k:Nat) (l m:List RFd),l.length=3 * k→toE (l++m)=toE l++toE m
 | 0,l,m,h=>by
  have:l=[]:=al (by omega)
  subst this;rfl
 | k+1,l,m,h=>by
  match l,h with
  | a::b::c::l,h =>
   have ih:=Yi k l m (by simp only[List.length_cons] at h;omega)
   show toE (a::b::c::(l++m))=_
   rw[toE,toE,ih];rfl
  | [],h=>simp at h
  | [_],h=>simp at h;omega
  | [_,_],h=>simp at h;omega
theorem Z1f:∀(i k:Nat) (l:List RFd),l.length=3 * k→i < k→∃a b c,l[3 * i]?=some a∧l[3 * i+1]?=some b∧l[3 * i+2]?=some c∧(toE l)[i]?=some ⟨a.n,b.n,c.s⟩
 | i,k,a::b::c::l,h,hi=>by
  cases i with
  | zero=>exact⟨a,b,c,rfl,rfl,rfl,rfl⟩
  | succ i =>
   obtain⟨a',b',c',h1,h2,h3,h7⟩:=Z1f i (k - 1) l (by simp only[List.length_cons] at h;omega) (by omega)
   refine⟨a',b',c',?_,?_,?_,?_⟩
   ·rw[show 3 * (i+1)=3 * i+3 by omega];exact h1
   ·rw[show 3 * (i+1)+1=3 * i+1+3 by omega];exact h2
   ·rw[show 3 * (i+1)+2=3 * i+2+3 by omega];exact h3
   ·exact h7
 | i,k,[],h,hi=>by simp at h;omega
 | i,k,[_],h,hi=>by simp at h;omega
 | i,k,[_,_],h,hi=>by simp at h;omega
theorem Jh:∀(k:Nat) (l:List RFd),l.length=3 * k→(toE l).length=k
 | 0,l,h=>by
  have:l=[]:=al (by omega)
  subst this;rfl
 | k+1,l,h=>by
  match l,h with
  | a::b::c::l,h =>
   have ih:=Jh k l (by simp only[List.length_cons] at h;omega)
   rw[toE,bc,ih]
  | [],h=>simp at h
  | [_],h=>simp at h;omega
  | [_,_],h=>simp at h;omega
theorem Z12 (l:List REnt)(c:REnt):Rg (l++[c])=Rg l++enF c:=by unfold Rg;rw[List.flatMap_append];simp
theorem L5 (l:List REnt):(Rg l).length=3 * l.length:=by
 induction l with
 | nil=>rfl
 | cons c l ih=>unfold Rg at *;rw[List.flatMap_cons,aw,bc,ih];show 3+_=_;omega
theorem Z04:∀(k:Nat) (l:List RFd),l.map RFd.kind=Eu k→M7 l=0→Rg (toE l)=l∧(toE l).length=k
 | 0,l,hk,_=>by
  have:l=[]:=by simpa [Eu] using hk
  subst this;exact⟨rfl,rfl⟩
 | k+1,l,hk,h=>by
  rw[Zj] at hk
  match l,hk,h with
  | a::b::c::l,hk,h =>
   have hk:[a.kind,b.kind,c.kind]++l.map RFd.kind=[2,2,3]++Eu k:=hk
   obtain⟨k1,k2⟩:=List.append_inj hk rfl
   simp only[List.cons.injEq,and_true] at k1
   obtain⟨ka,kb,kc⟩:=k1
   have z:=Ej h
   have za:=z a (by simp)
   have zb:=z b (by simp)
   have zc:=z c (by simp)
   obtain⟨i1,i2⟩:=Z04 k l k2 (J1 fun x hx=>z x (by simp[hx]))
   have eT:toE (a::b::c::l)=⟨a.n,b.n,c.s⟩::toE l:=rfl
   rw[eT]
   refine⟨?_,by rw[bc,i2]⟩
   show enF ⟨a.n,b.n,c.s⟩++Rg (toE l)=_
   rw[i1]
   show [(⟨2,a.n,eS⟩:RFd),⟨2,b.n,eS⟩,⟨3,0,c.s⟩]++l=_
   rw[Se za ka (by decide),Se zb kb (by decide),Zeu zc kc]
   rfl
  | [],hk,_=>simp[kEn] at hk
  | [_],hk,_=>simp[kEn] at hk
  | [_,_],hk,_=>simp[kEn] at hk
def rm0:RM:=⟨0,0,0,0,[]⟩
def Rl (b:Bs):Int:=match(Ah kMh b).l with
 | [_,_,_,_,f]=>f.n
 | _=>0
def mOf (b:Bs):RM:=match(Ah kMh b).l with
 | [a,c,d,e,_]=>⟨a.n,c.n,d.n,e.n,toE (Jy (Eu (Rl b).toNat) (b.drop (Ah kMh b).n)).l⟩
 | _=>rm0
def Jd (b:Bs):Prop:=(Ah kMh b).e=0∧(Jy (Eu (Rl b).toNat) (b.drop (Ah kMh b).n)).e=0∧okM (mOf b)=true
instance (b:Bs):Decidable (Jd b):=inferInstanceAs (Decidable (_∧_∧_))
def mD (b:Bs):RM:=if Jd b then mOf b else rm0
def eMd (b:Bs):Int:=if Jd b then 0 else 130
theorem Z9n {b:Bs}(h:(Ah kMh b).e=0):∃a c d e f,(Ah kMh b).l=[a,c,d,e,f]:=by
 have:=(Cg kMh b).2 h
 match hl:(Ah kMh b).l,this with
 | [a,c,d,e,f],_=>exact⟨a,c,d,e,f,rfl⟩
theorem Wf:∀{l:List REnt} {k v:Int},Gd k v l=true→0≤k→∀e∈l,1≤e.n∧e.n≤150∧v≤e.v∧e.b.size≤200
 | [],_,_,_,_,e,he=>by cases he
 | x::l,k,v,h,hk,e,he=>by
  unfold Gd at h
  rw[aq,decide_eq_true_iff] at h
  obtain⟨⟨h1,h2,h3,h4⟩,h5⟩:=h
  rcases bh.1 he with rfl | he
  ·exact⟨by omega,h2,h3,h4⟩
  ·have:=Wf h5 (by omega) e he
   exact⟨this.1,this.2.1,by omega,this.2.2.2⟩
theorem J6 {l:List REnt}{v:Int}(h:Au l v=true):∀e∈l,e.v≤v:=fun e he=>by
 have:=List.all_eq_true.1 h e he
 simpa using this
theorem Aw {m:RM}(h:okM m=true):(1≤m.view∧m.view≤big∧0≤m.normal∧m.normal < m.view∧0≤m.num∧m.num≤150)∧(1≤m.kind∧m.kind≤6)∧m.l.length≤150∧∀e∈m.l,(1≤e.n∧e.n≤150)∧(1≤e.v∧e.v≤m.view)∧e.b.size≤200:=by
 unfold okM at h
 rw[aq,decide_eq_true_iff] at h
 obtain⟨hb,h⟩:=h
 refine⟨hb,?_⟩
 have row:∀{k v:Int},0≤k→v≤m.view→Gq k m.l=true→Au m.l v=true→m.l.length≤150∧∀e∈m.l,(1≤e.n∧e.n≤150)∧(1≤e.v∧e.v≤m.view)∧e.b.size≤200:=fun {k v} hk hv h1 h2=>by
  unfold Gq at h1
  rw[aq,decide_eq_true_iff] at h1
  refine⟨h1.2,fun e he=>?_⟩
  have a:=Wf h1.1 hk e he
  have b:=J6 h2 e he
  exact⟨⟨a.1,a.2.1⟩,⟨a.2.2.1,by omega⟩,a.2.2.2⟩
 have nil:m.l.length=0→m.l.length≤150∧∀e∈m.l,(1≤e.n∧e.n≤150)∧(1≤e.v∧e.v≤m.view)∧e.b.size≤200:=fun h0=>by
  have:m.l=[]:=al h0
  rw[this]
  exact⟨ah _,fun e he=>by cases he⟩
 split at h
 ·next k1=>rw[decide_eq_true_iff] at h;exact⟨by omega,nil h.2.2⟩
 split at h
 ·next k1 =>
  simp only[Bool.and_eq_true] at h
  exact⟨by omega,row (bp 0) (by omega) h.1.2 h.2⟩
 split at h
 ·next k1 =>
  simp only[Bool.and_eq_true] at h
  exact⟨by omega,row (bp 0) (by omega) h.1.2 h.2⟩
 split at h
 ·next k1 =>
  simp only[Bool.and_eq_true] at h
  exact⟨by omega,row hb.2.2.2.2.1 (by omega) h.1.2 h.2⟩
 split at h
 ·next k1=>rw[decide_eq_true_iff] at h;exact⟨by omega,nil h.2⟩
 ·cases h
theorem T0 {m:RM}(h:okM m=true):M7 (mF m)=0:=by
 obtain⟨⟨h1,h2,h3,h4,h5,h6⟩,⟨k1,k2⟩,hl,he⟩:=Aw h
 refine J1 fun f hf=>?_
 have small:∀n:Int,0≤n→n≤255→fdE ⟨1,n,eS⟩=0:=fun n h0 h1=>by
  unfold fdE
  dsimp only
  rw[da (by decide),da (by rintro(h | h);exact h rfl;omega),db ⟨rfl,h1⟩]
 have whole:∀n:Int,0≤n→n≤big→fdE ⟨2,n,eS⟩=0:=fun n h0 h1=>by
  unfold fdE
  dsimp only
  rw[da (by decide),da (by rintro(h | h);exact h rfl;omega),da (by rintro⟨h,-⟩;cases h),da (by rintro⟨h,-⟩;cases h),db ⟨rfl,h1⟩]
 unfold mF mhF at hf
 have hbig:(150:Int)≤big:=by decide
 rcases br.1 hf with hf | hf
 ·simp only[List.mem_cons,List.not_mem_nil,or_false] at hf
  rcases hf with rfl | rfl | rfl | rfl | rfl
  ·exact small _ (by omega) (by omega)
  ·exact whole _ (by omega) h2
  ·exact whole _ (by omega) (by omega)
  ·exact whole _ (by omega) (by omega)
  ·exact small _ (by omega) (by omega)
 ·obtain⟨e,hem,hf⟩:=List.mem_flatMap.1 hf
  obtain⟨⟨a1,a2⟩,⟨b1,b2⟩,c⟩:=he e hem
  simp only[enF,List.mem_cons,List.not_mem_nil,or_false] at hf
  rcases hf with rfl | rfl | rfl
  ·exact whole _ (by omega) (by omega)
  ·exact whole _ (by omega) (by omega)
  ·unfold fdE
   rw[db rfl,da (fun h=>h rfl),da (by dsimp only;omega)]
theorem Zcq {b:Bs}(h:Jd b):okM (mD b)=true∧bM (mD b)=b:=by
 obtain⟨h1,h4,h5⟩:=id h
 have hmD:mD b=mOf b:=by unfold mD;rw[db h]
 rw[hmD]
 refine⟨h5,?_⟩
 obtain⟨a,c,d,e,g,hl⟩:=Z9n h1
 obtain⟨e1,e2,e3⟩:=Nu kMh b h1
 rw[hl] at e1 e2 e3
 have hC:Rl b=g.n:=by unfold Rl;rw[hl]
 obtain⟨d1,d2,d3⟩:=Lc h4
 obtain⟨s1,s2,s3⟩:=Nu _ _ d1
 rw[d2] at s2
 rw[ao (af _)] at s2
 simp only[List.map_cons,List.map_nil,kMh,List.cons.injEq,and_true] at e3
 obtain⟨ka,kc,kd,ke,kg⟩:=e3
 have z:=Ej e1
 have za:=z a (by simp)
 have zc:=z c (by simp)
 have zd:=z d (by simp)
 have ze:=z e (by simp)
 have zg:=z g (by simp)
 obtain⟨t1,t2⟩:=Z04 _ _ s3 s1
 have hg0:0≤g.n:=by
  rcases Jf zg with⟨hh,-⟩ | ⟨-,-,hh⟩
  ·omega
  ·exact hh
 have hT:mOf b=⟨a.n,c.n,d.n,e.n,toE (Ah (Eu (Rl b).toNat) (b.drop (Ah kMh b).n)).l⟩:=by
  unfold mOf
  rw[hl,d3]
 have hlen:((mOf b).l.length:Int)=g.n:=by
  rw[hT]
  show((toE _).length:Int)=_
  rw[t2,hC];omega
 have hF:mF (mOf b)=[a,c,d,e,g]++(Ah (Eu (Rl b).toNat) (b.drop (Ah kMh b).n)).l:=by
  unfold mF mhF
  rw[hlen,hT]
  show [(⟨1,a.n,eS⟩:RFd),⟨2,c.n,eS⟩,⟨2,d.n,eS⟩,⟨2,e.n,eS⟩,⟨1,g.n,eS⟩]++Rg (toE _)=_
  rw[t1,Se za ka (by decide),Se zc kc (by decide),Se zd kd (by decide),Se ze ke (by decide),Se zg kg (by decide)]
 unfold bM
 rw[db h5,hF,Z6o,e2,s2,cw]
abbrev Sec:=List UInt8
structure RD where
 now:List Sec
 firm:List Sec
 wait:List (Nat × Sec)
 armed:Int
 dead:Bool
def E8 (b:Sec):Sec:=b.take 64++List.replicate (64 - b.length) 0
theorem Ch (b:Sec):(E8 b).length=64:=by unfold E8;simp;omega
def sec0:Sec:=List.replicate 64 0
def Z1s (many:Int):Nat:=(min (max many 0) 65536).toNat
def Y5 (many:Int):RD:=⟨List.replicate (Z1s many) sec0,List.replicate (Z1s many) sec0,[],0,false⟩
def F9 (d:RD):Bool:=if d.armed=0 then false else(d.armed - 1==0)
def Bh (d:RD):RD:=if d.armed=0 then d else {d with armed:=d.armed - 1,dead:=(d.armed - 1==0)}
def Kh (d:RD)(n:Int):Int:=if d.dead=true then 40 else if n < 0∨n ≥ d.now.length then 41 else 0
def Z6z (d:RD)(n:Nat)(s:Sec):RD:={d with now:=d.now.set n s,wait:=d.wait++[(n,s)]}
def Bv (d:RD)(n:Int)(b:Sec):Int:=if Kh d n≠0 then Kh d n else if b.length > 64 then 41 else if F9 d=true then 40 else 0
def Ae (d:RD)(n:Int)(b:Sec):RD:=if Kh d n≠0 then d else if b.length > 64 then d else Bh (Z6z d n.toNat (E8 b))
def Mp (d:RD)(n:Int):Sec:=if Kh d n≠0 then [] else d.now[n.toNat]?.getD []
def Ge (firm:List Sec)(wait:List (Nat × Sec)):List Sec:=wait.foldl (fun l w=>l.set w.1 w.2) firm
def Dj (d:RD):Int:=if d.dead=true∨F9 d=true then 40 else 0
def Ab (d:RD):RD:=if d.dead=true then d else if F9 d=true then Bh d else {Bh d with firm:=Ge d.firm d.wait,wait:=[]}
def Hz (d:RD)(keep:Int):Nat:=(min (max keep 0) (d.wait.length:Int)).toNat
def Km (old new:Sec)(tear:Int):Sec:=new.take (min (max tear 0) 64).toNat++old.drop (min (max tear 0) 64).toNat
def Be (d:RD)(keep tear:Int):List Sec :=
 let l:=Ge d.firm (d.wait.take (Hz d keep))
 match d.wait[Hz d keep]? with
 | some w=>l.set w.1 (Km (l[w.1]?.getD []) w.2 tear)
 | none=>l
def Eh (d:RD)(keep tear:Int):RD:=⟨Be d keep tear,Be d keep tear,[],0,false⟩
structure WD (d:RD):Prop where
 len:d.firm.length=d.now.length
 few:d.now.length≤65536
 now:∀s∈d.now,s.length=64
 firm:∀s∈d.firm,s.length=64
 wait:∀w∈d.wait,w.1 < d.now.length∧w.2.length=64
 armed:0≤d.armed
theorem F8:∀(wait:List (Nat × Sec)) (firm:List Sec),(Ge firm wait).length=firm.length
 | [],_=>rfl
 | w::l,firm=>by
  show(Ge (firm.set w.1 w.2) l).length=_
  rw[F8 l,bf]
theorem F6:∀(wait:List (Nat × Sec)) (firm:List Sec),(∀s∈firm,s.length=64)→(∀w∈wait,w.2.length=64)→∀s∈Ge firm wait,s.length=64
 | [],_,h,_=>h
 | w::l,firm,h,hw=>F6 l _ (fun s hs=>by
  rcases cn hs with hs | rfl
  ·exact h s hs
  ·exact hw w (by simp)) fun x hx=>hw x (by simp[hx])
theorem Qx {wait:List (Nat × Sec)}{firm:List Sec}{i:Nat}{w:Nat × Sec}(h:wait[i]?=some w):Ge firm (wait.take (i+1))=(Ge firm (wait.take i)).set w.1 w.2:=by
 unfold Ge
 rw[List.take_add_one,h]
 simp[List.foldl_append]
theorem Z0q (many:Int):WD (Y5 many):=by
 have h0:sec0.length=64:=List.length_replicate ..
 refine⟨rfl,?_,fun s hs=>?_,fun s hs=>?_,fun w hw=>(by cases hw),bp _⟩
 ·show(List.replicate _ _).length≤_
  rw[List.length_replicate];unfold Z1s;omega
 ·rw[(List.mem_replicate.1 hs).2];exact h0
 ·rw[(List.mem_replicate.1 hs).2];exact h0
theorem Pf {d:RD}(h:WD d):WD (Bh d):=by
 unfold Bh
 split
 ·exact h
 ·exact⟨h.len,h.few,h.now,h.firm,h.wait,by show 0≤d.armed - 1;have:=h.armed;omega⟩
theorem Z9w {d:RD}(h:WD d){n:Nat}(hn:n < d.now.length){s:Sec}(hs:s.length=64):WD (Z6z d n s):=by
 refine⟨by show _=(d.now.set n s).length;rw[bf];exact h.len,by show(d.now.set n s).length≤_;rw[bf];exact h.few,fun x hx=>?_,h.firm,fun w hw=>?_,h.armed⟩
 ·rcases cn hx with hx | rfl
  ·exact h.now x hx
  ·exact hs
 ·show w.1 < (d.now.set n s).length∧_
  rw[bf]
  rcases br.1 hw with hw | hw
  ·exact h.wait w hw
  ·rw[bm.1 hw];exact⟨hn,hs⟩
theorem Np {d:RD}{n:Int}(h:Kh d n=0):d.dead=false∧0≤n∧n < d.now.length:=by
 unfold Kh at h
 split at h
 ·cases h
 ·next h1 =>
  split at h
  ·cases h
  ·next h2=>exact⟨by simpa using h1,by omega,by omega⟩
theorem J5 {d:RD}(h:WD d)(n:Int)(b:Sec):WD (Ae d n b):=by
 unfold Ae
 split
 ·exact h
 ·next h1 =>
  split
  ·exact h
  ·exact Pf (Z9w h (by have:=Np (by omega:Kh d n=0);omega) (Ch b))
theorem L3 {d:RD}(h:WD d):WD (Ab d):=by
 unfold Ab
 have hd:=Pf h
 split
 ·exact h
 ·split
  ·exact hd
  ·have e:(Bh d).now=d.now:=by unfold Bh;split<;>rfl
   exact⟨by rw[e];exact(F8 _ _).trans h.len,hd.few,hd.now,F6 _ _ h.firm fun w hw=>(h.wait w hw).2,fun w hw=>(by cases hw),hd.armed⟩
theorem Z5 {old new:Sec}(h1:old.length=64)(h2:new.length=64)(t:Int):(Km old new t).length=64:=by
 unfold Km
 simp[h1,h2]
 omega
theorem H8 (d:RD)(k t:Int):(Be d k t).length=d.firm.length:=by
 unfold Be
 dsimp only
 split
 ·rw[bf,F8]
 ·rw[F8]
theorem Fo {d:RD}(h:WD d)(k t:Int):WD (Eh d k t):=by
 have hw:∀w∈d.wait.take (Hz d k),w.2.length=64:=fun w hw=>(h.wait w (bd hw)).2
 have hs:∀s∈Be d k t,s.length=64:=fun s hs=>by
  unfold Be at hs
  dsimp only at hs
  split at hs
  ·next w hw' =>
   have hm:=h.wait w (ae hw')
   rcases cn hs with hs | rfl
   ·exact F6 _ _ h.firm hw s hs
   ·have hlt:w.1 < (Ge d.firm (d.wait.take (Hz d k))).length:=by rw[F8,h.len];exact hm.1
    rw[ab hlt]
    exact Z5 (F6 _ _ h.firm hw _ (bl hlt)) hm.2 t
  ·exact F6 _ _ h.firm hw s hs
 exact⟨rfl,by show(Be d k t).length≤_;rw[H8,h.len];exact h.few,hs,hs,fun w hw=>(by cases hw),bp _⟩
structure LD where
 mark:Nat
 half:Nat
 firm:Nat
 b:Bs
 all:List ByteArray
 dead:Bool
 d:RD
def Cq (half:Nat):Nat:=2+half * 549
def frB (s:ByteArray):Bs:=byI ((s.size:Int) / 16777216)::byI ((s.size:Int) / 65536)::byI ((s.size:Int) / 256)::byI s.size::s.data.toList
def chB (b:Bs)(n:Nat):Bs:=(b.drop (n * 64)).take 64
def runW (f:Nat)(b:Bs):List Nat→RD→RD × Bool
 | [],d=>(d,true)
 | n::ns,d=>if Bv d ((f+n:Nat):Int) (chB b n)=0 then runW f b ns (Ae d ((f+n:Nat):Int) (chB b n)) else(Ae d ((f+n:Nat):Int) (chB b n),false)
def nsW (b:Bs)(frm:Nat):List Nat:=List.range' (frm / 64) ((b.length+63) / 64 - frm / 64)
def wrL (l:LD)(half:Nat)(b:Bs)(frm:Nat):LD:={l with d:=(runW (Cq half) b (nsW b frm) l.d).1,dead:=!(runW (Cq half) b (nsW b frm) l.d).2}
def wrE (l:LD)(half:Nat)(b:Bs)(frm:Nat):Bool:=(runW (Cq half) b (nsW b frm) l.d).2
def Ak (m half firm:Nat):Bs:=be8 (m:Int)++UInt8.ofNat half::byI ((firm:Int) / 16777216)::byI ((firm:Int) / 65536)::byI ((firm:Int) / 256)::byI firm::List.replicate 43 0++be8 (m:Int)
def Hu (l:LD)(d:RD):LD:={l with d:=d,dead:=true}
def Ai (l:LD)(half firm:Nat):LD :=
 if Dj l.d≠0 then Hu l (Ab l.d)
 else if Bv (Ab l.d) (((l.mark+1) % 2:Nat):Int) (Ak (l.mark+1) half firm)≠0 then Hu l (Ae (Ab l.d) (((l.mark+1) % 2:Nat):Int) (Ak (l.mark+1) half firm))
 else if Dj (Ae (Ab l.d) (((l.mark+1) % 2:Nat):Int) (Ak (l.mark+1) half firm))≠0 then Hu l (Ab (Ae (Ab l.d) (((l.mark+1) % 2:Nat):Int) (Ak (l.mark+1) half firm)))
 else {l with mark:=l.mark+1,half:=half,firm:=firm,d:=Ab (Ae (Ab l.d) (((l.mark+1) % 2:Nat):Int) (Ak (l.mark+1) half firm))}
def Dp (l:LD)(half firm:Nat):Int:=if(Ai l half firm).dead=true then 40 else 0
def Gf (l:LD):Int:=max (min (35136 - (l.b.length:Int) - 4) 4096) (-1)
def Gc (l:LD)(s:ByteArray):Int :=
 if l.dead=true then 40 else if s.size > 4096 then 52 else if(s.size:Int) > Gf l then 51
 else if wrE l l.half (l.b++frB s) l.b.length=true then 0 else 40
def Bk (l:LD)(s:ByteArray):LD :=
 if l.dead=true then l else if s.size > 4096 then l else if(s.size:Int) > Gf l then l
 else if wrE l l.half (l.b++frB s) l.b.length=true then {wrL l l.half (l.b++frB s) l.b.length with b:=l.b++frB s,all:=l.all++[s]}
 else wrL l l.half (l.b++frB s) l.b.length
def P0 (l:LD):Int:=if l.dead=true then 40 else Dp l l.half l.b.length
def K2 (l:LD):LD:=if l.dead=true then l else Ai l l.half l.b.length
def Am (all:List ByteArray):Bs:=all.flatMap frB
def N0 (all:List ByteArray):Int:=if all.any (fun s=>decide (s.size > 4096))=true then 52 else if(Am all).length > 35136 then 51 else 0
def Fq (l:LD)(all:List ByteArray):LD :=
 if l.dead=true then l else if N0 all≠0 then l
 else if wrE l (1 - l.half) (Am all) 0=true then
  (if(Ai (wrL l (1 - l.half) (Am all) 0) (1 - l.half) (Am all).length).dead=true then Ai (wrL l (1 - l.half) (Am all) 0) (1 - l.half) (Am all).length
   else {Ai (wrL l (1 - l.half) (Am all) 0) (1 - l.half) (Am all).length with b:=Am all,all:=all})
 else wrL l (1 - l.half) (Am all) 0
def Jv (l:LD)(all:List ByteArray):Int :=
 if l.dead=true then 40 else if N0 all≠0 then N0 all
 else if wrE l (1 - l.half) (Am all) 0=true then Dp (wrL l (1 - l.half) (Am all) 0) (1 - l.half) (Am all).length else 40
structure MkL where
 mark:Nat
 half:Nat
 firm:Nat
 is:Bool
def Da (d:RD)(n:Nat):MkL :=
 let b:=Mp d n
 if Kh d n≠0∨b.take 8≠b.drop 56 then⟨0,0,0,false⟩
 else⟨D0 (b.take 8),((b[8]?).getD 0).toNat,D0 ((b.drop 9).take 4),decide (((b[8]?).getD 0).toNat < 2)&&decide (D0 ((b.drop 9).take 4)≤35136)⟩
def Fc (a b:MkL):MkL:=if b.is=true∧b.mark > a.mark then b else a
def Ko (d:RD):MkL:=Fc (Fc ⟨0,0,0,true⟩ (Da d 0)) (Da d 1)
def Cr (d:RD)(half:Nat):Bs:=((d.now.drop (Cq half)).take 549).flatten
def Z3r:Nat→Bs→Option (List ByteArray)
 | 0,b=>if b=[] then some [] else none
 | n+1,b=>if b=[] then some [] else if b.length < 4 then none else if D0 (b.take 4) > 4096∨D0 (b.take 4) > b.length - 4 then none
  else(Z3r n (b.drop (4+D0 (b.take 4)))).map fun l=>⟨((b.drop 4).take (D0 (b.take 4))).toArray⟩::l
def Me (b:Bs):Option (List ByteArray):=Z3r b.length b
theorem R0:∀{n m:Nat} {b:Bs},b.length≤n→n≤m→Z3r m b=Z3r n b
 | 0,0,b,_,_=>rfl
 | 0,m+1,b,h,_=>by
  obtain rfl:b=[]:=al (by omega)
  simp[Z3r]
 | n+1,0,b,_,h=>by omega
 | n+1,m+1,b,h,h2=>by
  unfold Z3r
  split
  ·rfl
  ·split
   ·rfl
   ·split
    ·rfl
    ·rw[R0 (n:=n) (m:=m) (by rw[ba];omega) (by omega)]
theorem U0:Me []=some []:=rfl
theorem Pw {b:Bs}(h:b≠[]):Me b=if b.length < 4 then none else if D0 (b.take 4) > 4096∨D0 (b.take 4) > b.length - 4 then none
  else(Me (b.drop (4+D0 (b.take 4)))).map fun l=>⟨((b.drop 4).take (D0 (b.take 4))).toArray⟩::l:=by
 obtain⟨n,hn⟩:∃n,b.length=n+1:=by
  cases b with
  | nil=>exact dc rfl h
  | cons x b=>exact⟨b.length,rfl⟩
 have e:Me b=Z3r (n+1) b:=by unfold Me;rw[hn]
 rw[e]
 show(if b=[] then some [] else _)=_
 rw[da h]
 split
 ·rfl
 ·split
  ·rfl
  ·unfold Me
   rw[R0 (n:=(b.drop (4+D0 (b.take 4))).length) (m:=n) (af _) (by rw[ba];omega)]
def Yw (d:RD):Option LD:=match Me ((Cr d (Ko d).half).take (Ko d).firm) with
 | none=>none
 | some l=>some ⟨(Ko d).mark,(Ko d).half,(Ko d).firm,(Cr d (Ko d).half).take (Ko d).firm,l,false,d⟩
end Go.Proofs.YtihfaocdpmmooaaGreat


import Derived.Test.YtihfaocdpmmooaaGreatPKM
import Derived.Test.YtihfaocdpmmooaaGreatRkM
namespace Go.Proofs.YtihfaocdpmmooaaGreat
structure RM where
 kind:Int
 view:Int
 normal:Int
 num:Int
 l:List REnt
def Gs:Int→Int→List REnt→Bool
 | _,_,[]=>true
 | k,v,e::l=>decide (e.n=k+1∧e.n≤150∧v≤e.v∧e.b.size≤200)&&Gs (k+1) e.v l
def Ko (k:Int)(l:List REnt):Bool:=Gs k 1 l&&decide (l.length≤150)
def B6 (l:List REnt)(v:Int):Bool:=l.all fun e=>decide (e.v≤v)
def okM (m:RM):Bool:=decide (1≤m.view∧m.view≤big∧0≤m.normal∧m.normal < m.view∧0≤m.num∧m.num≤150) &&
 (if m.kind=1 then decide (m.normal=0∧m.num=0∧m.l.length=0)
  else if m.kind=2 then decide (m.num=0)&&Ko 0 m.l&&B6 m.l m.normal
  else if m.kind=3 then decide (m.normal=0∧m.num=0)&&Ko 0 m.l&&B6 m.l (m.view - 1)
  else if m.kind=4 then decide (m.normal=0)&&Ko m.num m.l&&B6 m.l m.view
  else if m.kind=5∨m.kind=6 then decide (m.normal=0∧m.l.length=0) else false)
def vw (v:Int)(l:List REnt):Int:=(l.getLast?.map REnt.v).getD v
theorem Zy (v:Int)(l:List REnt)(e:REnt):vw v (l++[e])=e.v:=by simp[vw]
theorem Ll (k v:Int)(e:REnt)(l:List REnt):Gs k v (e::l)=(decide (e.n=k+1∧e.n≤150∧v≤e.v∧e.b.size≤200)&&Gs (k+1) e.v l):=rfl
theorem P2:∀(l m:List REnt) (k v:Int),Gs k v (l++m)=(Gs k v l&&Gs (k+l.length) (vw v l) m)
 | [],m,k,v=>by simp[Gs,vw]
 | e::l,m,k,v=>by
  have ev:vw v (e::l)=vw e.v l:=by
   unfold vw
   rw[List.getLast?_cons]
   cases l.getLast?<;>rfl
  rw[List.cons_append,Ll,Ll,P2 l m (k+1) e.v,ev,Bool.and_assoc,List.length_cons,show k+1+(l.length:Int)=k+((l.length+1:Nat):Int) by omega]
theorem Zv {k v:Int}{l:List REnt}{i:Nat}{e:REnt}(h:l[i]?=some e)(ht:Gs k v (l.take i)=true)(he:e.n=k+i+1∧e.n≤150∧vw v (l.take i)≤e.v∧e.b.size≤200):Gs k v (l.take (i+1))=true∧vw v (l.take (i+1))=e.v:=by
 have hlt:=(List.getElem?_eq_some_iff.1 h).1
 have hl:(l.take i).length=i:=by rw[List.length_take];omega
 rw[List.take_add_one,h]
 refine⟨?_,Zy _ _ _⟩
 rw[show(some e).toList=[e] from rfl,P2,ht,hl]
 unfold Gs Gs
 rw[decide_eq_true he]
 rfl
theorem K9 {k v:Int}{l:List REnt}{i:Nat}{e:REnt}(h:l[i]?=some e)(he:¬(e.n=k+i+1∧e.n≤150∧vw v (l.take i)≤e.v∧e.b.size≤200)):Gs k v l=false:=by
 have hlt:=(List.getElem?_eq_some_iff.1 h).1
 have e1:l=l.take i++e::l.drop (i+1):=by
  have e2:=(List.getElem?_eq_some_iff.1 h).2
  rw[←e2,List.getElem_cons_drop,List.take_append_drop]
 have hl:(l.take i).length=i:=by rw[List.length_take];omega
 rw[e1,P2,hl]
 have:Gs (k+i) (vw v (l.take i)) (e::l.drop (i+1))=false:=by
  unfold Gs
  rw[decide_eq_false he]
  rfl
 rw[this];simp
def enF (e:REnt):List RFd:=[⟨2,e.v,eS⟩,⟨2,e.n,eS⟩,⟨3,0,e.b⟩]
def Rs (l:List REnt):List RFd:=l.flatMap enF
def mhF (m:RM):List RFd:=[⟨1,m.kind,eS⟩,⟨2,m.view,eS⟩,⟨2,m.normal,eS⟩,⟨2,m.num,eS⟩,⟨1,m.l.length,eS⟩]
def mF (m:RM):List RFd:=mhF m++Rs m.l
def bM (m:RM):Bs:=if okM m=true then Ho (mF m) else []
def eM (m:RM):Int:=if okM m=true then 0 else 130
def kMh:List Int:=[1,2,2,2,1]
def kEn:List Int:=[2,2,3]
def Fj:Nat→List Int
 | 0=>[]
 | i+1=>Fj i++kEn
theorem I9 (i:Nat):(Fj i).length=3 * i:=by
 induction i with
 | zero=>rfl
 | succ i ih=>rw[Fj,List.length_append,ih];show 3 * i+3=_;omega
theorem Uw (i j:Nat):Fj (i+j)=Fj i++Fj j:=by
 induction j with
 | zero=>simp[Fj]
 | succ j ih=>rw[←Nat.add_assoc,Fj,Fj,ih,List.append_assoc]
theorem Xl (k:Nat):Fj (k+1)=kEn++Fj k:=by
 rw[Nat.add_comm,Uw];rfl
def toE:List RFd→List REnt
 | a::b::c::l=>⟨a.n,b.n,c.s⟩::toE l
 | _=>[]
theorem Yo:∀(k:Nat) (l m:List RFd),l.length=3 * k→toE (l++m)=toE l++toE m
 | 0,l,m,h=>by
  have:l=[]:=List.eq_nil_of_length_eq_zero (by omega)
  subst this;rfl
 | k+1,l,m,h=>by
  match l,h with
  | a::b::c::l,h =>
   have ih:=Yo k l m (by simp only[List.length_cons] at h;omega)
   show toE (a::b::c::(l++m))=_
   rw[toE,toE,ih];rfl
  | [],h=>simp at h
  | [_],h=>simp at h;omega
  | [_,_],h=>simp at h;omega
theorem Km:∀(k:Nat) (l:List RFd),l.length=3 * k→(toE l).length=k
 | 0,l,h=>by
  have:l=[]:=List.eq_nil_of_length_eq_zero (by omega)
  subst this;rfl
 | k+1,l,h=>by
  match l,h with
  | a::b::c::l,h =>
   have ih:=Km k l (by simp only[List.length_cons] at h;omega)
   rw[toE,List.length_cons,ih]
  | [],h=>simp at h
  | [_],h=>simp at h;omega
  | [_,_],h=>simp at h;omega
theorem Z0g (l:List REnt)(c:REnt):Rs (l++[c])=Rs l++enF c:=by unfold Rs;rw[List.flatMap_append];simp
theorem Tt (l:List REnt):(Rs l).length=3 * l.length:=by
 induction l with
 | nil=>rfl
 | cons c l ih=>unfold Rs at *;rw[List.flatMap_cons,List.length_append,List.length_cons,ih];show 3+_=_;omega
theorem Yx:∀(k:Nat) (l:List RFd),l.map RFd.kind=Fj k→Lt l=0→Rs (toE l)=l∧(toE l).length=k
 | 0,l,hk,_=>by
  have:l=[]:=by simpa [Fj] using hk
  subst this;exact⟨rfl,rfl⟩
 | k+1,l,hk,h=>by
  rw[Xl] at hk
  match l,hk,h with
  | a::b::c::l,hk,h =>
   have hk:[a.kind,b.kind,c.kind]++l.map RFd.kind=[2,2,3]++Fj k:=hk
   obtain⟨k1,k2⟩:=List.append_inj hk rfl
   simp only[List.cons.injEq,and_true] at k1
   obtain⟨ka,kb,kc⟩:=k1
   have z:=E6 h
   have za:=z a (by simp)
   have zb:=z b (by simp)
   have zc:=z c (by simp)
   obtain⟨i1,i2⟩:=Yx k l k2 (K6 fun x hx=>z x (by simp[hx]))
   have eT:toE (a::b::c::l)=⟨a.n,b.n,c.s⟩::toE l:=rfl
   rw[eT]
   refine⟨?_,by rw[List.length_cons,i2]⟩
   show enF ⟨a.n,b.n,c.s⟩++Rs (toE l)=_
   rw[i1]
   show [(⟨2,a.n,eS⟩:RFd),⟨2,b.n,eS⟩,⟨3,0,c.s⟩]++l=_
   rw[Sa za ka (by decide),Sa zb kb (by decide),Zbz zc kc]
   rfl
  | [],hk,_=>simp[kEn] at hk
  | [_],hk,_=>simp[kEn] at hk
  | [_,_],hk,_=>simp[kEn] at hk
def rm0:RM:=⟨0,0,0,0,[]⟩
def Rz (b:Bs):Int:=match(Ag kMh b).l with
 | [_,_,_,_,f]=>f.n
 | _=>0
def mOf (b:Bs):RM:=match(Ag kMh b).l with
 | [a,c,d,e,_]=>⟨a.n,c.n,d.n,e.n,toE (Lz (Fj (Rz b).toNat) (b.drop (Ag kMh b).n)).l⟩
 | _=>rm0
def L0 (b:Bs):Prop:=(Ag kMh b).e=0∧(Lz (Fj (Rz b).toNat) (b.drop (Ag kMh b).n)).e=0∧okM (mOf b)=true
instance (b:Bs):Decidable (L0 b):=inferInstanceAs (Decidable (_∧_∧_))
def mD (b:Bs):RM:=if L0 b then mOf b else rm0
def eMd (b:Bs):Int:=if L0 b then 0 else 130
theorem Zbm {b:Bs}(h:(Ag kMh b).e=0):∃a c d e f,(Ag kMh b).l=[a,c,d,e,f]:=by
 have:=(Cu kMh b).2 h
 match hl:(Ag kMh b).l,this with
 | [a,c,d,e,f],_=>exact⟨a,c,d,e,f,rfl⟩
theorem T5:∀{l:List REnt} {k v:Int},Gs k v l=true→0≤k→∀e∈l,1≤e.n∧e.n≤150∧v≤e.v∧e.b.size≤200
 | [],_,_,_,_,e,he=>by cases he
 | x::l,k,v,h,hk,e,he=>by
  unfold Gs at h
  rw[Bool.and_eq_true,decide_eq_true_iff] at h
  obtain⟨⟨h1,h2,h3,h4⟩,h5⟩:=h
  rcases List.mem_cons.1 he with rfl | he
  ·exact⟨by omega,h2,h3,h4⟩
  ·have:=T5 h5 (by omega) e he
   exact⟨this.1,this.2.1,by omega,this.2.2.2⟩
theorem Kz {l:List REnt}{v:Int}(h:B6 l v=true):∀e∈l,e.v≤v:=fun e he=>by
 have:=List.all_eq_true.1 h e he
 simpa using this
theorem Ay {m:RM}(h:okM m=true):(1≤m.view∧m.view≤big∧0≤m.normal∧m.normal < m.view∧0≤m.num∧m.num≤150)∧(1≤m.kind∧m.kind≤6)∧m.l.length≤150∧∀e∈m.l,(1≤e.n∧e.n≤150)∧(1≤e.v∧e.v≤m.view)∧e.b.size≤200:=by
 unfold okM at h
 rw[Bool.and_eq_true,decide_eq_true_iff] at h
 obtain⟨hb,h⟩:=h
 refine⟨hb,?_⟩
 have row:∀{k v:Int},0≤k→v≤m.view→Ko k m.l=true→B6 m.l v=true→m.l.length≤150∧∀e∈m.l,(1≤e.n∧e.n≤150)∧(1≤e.v∧e.v≤m.view)∧e.b.size≤200:=fun {k v} hk hv h1 h2=>by
  unfold Ko at h1
  rw[Bool.and_eq_true,decide_eq_true_iff] at h1
  refine⟨h1.2,fun e he=>?_⟩
  have a:=T5 h1.1 hk e he
  have b:=Kz h2 e he
  exact⟨⟨a.1,a.2.1⟩,⟨a.2.2.1,by omega⟩,a.2.2.2⟩
 have nil:m.l.length=0→m.l.length≤150∧∀e∈m.l,(1≤e.n∧e.n≤150)∧(1≤e.v∧e.v≤m.view)∧e.b.size≤200:=fun h0=>by
  have:m.l=[]:=List.eq_nil_of_length_eq_zero h0
  rw[this]
  exact⟨Nat.zero_le _,fun e he=>by cases he⟩
 split at h
 ·next k1=>rw[decide_eq_true_iff] at h;exact⟨by omega,nil h.2.2⟩
 split at h
 ·next k1 =>
  simp only[Bool.and_eq_true] at h
  exact⟨by omega,row (Int.le_refl 0) (by omega) h.1.2 h.2⟩
 split at h
 ·next k1 =>
  simp only[Bool.and_eq_true] at h
  exact⟨by omega,row (Int.le_refl 0) (by omega) h.1.2 h.2⟩
 split at h
 ·next k1 =>
  simp only[Bool.and_eq_true] at h
  exact⟨by omega,row hb.2.2.2.2.1 (by omega) h.1.2 h.2⟩
 split at h
 ·next k1=>rw[decide_eq_true_iff] at h;exact⟨by omega,nil h.2⟩
 ·cases h
theorem Yc {m:RM}(h:okM m=true):Lt (mF m)=0:=by
 obtain⟨⟨h1,h2,h3,h4,h5,h6⟩,⟨k1,k2⟩,hl,he⟩:=Ay h
 refine K6 fun f hf=>?_
 have small:∀n:Int,0≤n→n≤255→fdE ⟨1,n,eS⟩=0:=fun n h0 h1=>by
  unfold fdE
  dsimp only
  rw[if_neg (by decide),if_neg (by rintro(h | h);exact h rfl;omega),if_pos ⟨rfl,h1⟩]
 have whole:∀n:Int,0≤n→n≤big→fdE ⟨2,n,eS⟩=0:=fun n h0 h1=>by
  unfold fdE
  dsimp only
  rw[if_neg (by decide),if_neg (by rintro(h | h);exact h rfl;omega),if_neg (by rintro⟨h,-⟩;cases h),if_neg (by rintro⟨h,-⟩;cases h),if_pos ⟨rfl,h1⟩]
 unfold mF mhF at hf
 have hbig:(150:Int)≤big:=by decide
 rcases List.mem_append.1 hf with hf | hf
 ·simp only[List.mem_cons,List.not_mem_nil,or_false] at hf
  rcases hf with rfl | rfl | rfl | rfl | rfl
  ·exact small _ (by omega) (by omega)
  ·exact whole _ (by omega) h2
  ·exact whole _ (by omega) (by omega)
  ·exact whole _ (by omega) (by omega)
  ·exact small _ (by omega) (by omega)
 ·obtain⟨e,hem,hf⟩:=List.mem_flatMap.1 hf
  obtain⟨⟨a1,a2⟩,⟨b1,b2⟩,c⟩:=he e hem
  simp only[enF,List.mem_cons,List.not_mem_nil,or_false] at hf
  rcases hf with rfl | rfl | rfl
  ·exact whole _ (by omega) (by omega)
  ·exact whole _ (by omega) (by omega)
  ·unfold fdE
   rw[if_pos rfl,if_neg (fun h=>h rfl),if_neg (by dsimp only;omega)]
theorem Zcq {b:Bs}(h:L0 b):okM (mD b)=true∧bM (mD b)=b:=by
 obtain⟨h1,h4,h5⟩:=id h
 have hmD:mD b=mOf b:=by unfold mD;rw[if_pos h]
 rw[hmD]
 refine⟨h5,?_⟩
 obtain⟨a,c,d,e,g,hl⟩:=Zbm h1
 obtain⟨e1,e2,e3⟩:=Od kMh b h1
 rw[hl] at e1 e2 e3
 have hC:Rz b=g.n:=by unfold Rz;rw[hl]
 obtain⟨d1,d2,d3⟩:=N5 h4
 obtain⟨s1,s2,s3⟩:=Od _ _ d1
 rw[d2] at s2
 rw[List.take_of_length_le (Nat.le_refl _)] at s2
 simp only[List.map_cons,List.map_nil,kMh,List.cons.injEq,and_true] at e3
 obtain⟨ka,kc,kd,ke,kg⟩:=e3
 have z:=E6 e1
 have za:=z a (by simp)
 have zc:=z c (by simp)
 have zd:=z d (by simp)
 have ze:=z e (by simp)
 have zg:=z g (by simp)
 obtain⟨t1,t2⟩:=Yx _ _ s3 s1
 have hg0:0≤g.n:=by
  rcases Iz zg with⟨hh,-⟩ | ⟨-,-,hh⟩
  ·omega
  ·exact hh
 have hT:mOf b=⟨a.n,c.n,d.n,e.n,toE (Ag (Fj (Rz b).toNat) (b.drop (Ag kMh b).n)).l⟩:=by
  unfold mOf
  rw[hl,d3]
 have hlen:((mOf b).l.length:Int)=g.n:=by
  rw[hT]
  show((toE _).length:Int)=_
  rw[t2,hC];omega
 have hF:mF (mOf b)=[a,c,d,e,g]++(Ag (Fj (Rz b).toNat) (b.drop (Ag kMh b).n)).l:=by
  unfold mF mhF
  rw[hlen,hT]
  show [(⟨1,a.n,eS⟩:RFd),⟨2,c.n,eS⟩,⟨2,d.n,eS⟩,⟨2,e.n,eS⟩,⟨1,g.n,eS⟩]++Rs (toE _)=_
  rw[t1,Sa za ka (by decide),Sa zc kc (by decide),Sa zd kd (by decide),Sa ze ke (by decide),Sa zg kg (by decide)]
 unfold bM
 rw[if_pos h5,hF,Z2p,e2,s2,List.take_append_drop]
end Go.Proofs.YtihfaocdpmmooaaGreat
namespace Go.Proofs.YtihfaocdpmmooaaGreat
abbrev Sec:=List UInt8
structure RD where
 now:List Sec
 firm:List Sec
 wait:List (Nat × Sec)
 armed:Int
 dead:Bool
def Dv (b:Sec):Sec:=b.take 64++List.replicate (64 - b.length) 0
theorem C4 (b:Sec):(Dv b).length=64:=by unfold Dv;simp;omega
def sec0:Sec:=List.replicate 64 0
def Xj (many:Int):Nat:=(min (max many 0) 65536).toNat
def W7 (many:Int):RD:=⟨List.replicate (Xj many) sec0,List.replicate (Xj many) sec0,[],0,false⟩
def Ep (d:RD):Bool:=if d.armed=0 then false else(d.armed - 1==0)
def B7 (d:RD):RD:=if d.armed=0 then d else {d with armed:=d.armed - 1,dead:=(d.armed - 1==0)}
def Jt (d:RD)(n:Int):Int:=if d.dead=true then 40 else if n < 0∨n ≥ d.now.length then 41 else 0
def Z2w (d:RD)(n:Nat)(s:Sec):RD:={d with now:=d.now.set n s,wait:=d.wait++[(n,s)]}
def Bg (d:RD)(n:Int)(b:Sec):Int:=if Jt d n≠0 then Jt d n else if b.length > 64 then 41 else if Ep d=true then 40 else 0
def Ae (d:RD)(n:Int)(b:Sec):RD:=if Jt d n≠0 then d else if b.length > 64 then d else B7 (Z2w d n.toNat (Dv b))
def Ly (d:RD)(n:Int):Sec:=if Jt d n≠0 then [] else d.now[n.toNat]?.getD []
def Fm (firm:List Sec)(wait:List (Nat × Sec)):List Sec:=wait.foldl (fun l w=>l.set w.1 w.2) firm
def D2 (d:RD):Int:=if d.dead=true∨Ep d=true then 40 else 0
def Aa (d:RD):RD:=if d.dead=true then d else if Ep d=true then B7 d else {B7 d with firm:=Fm d.firm d.wait,wait:=[]}
def Hk (d:RD)(keep:Int):Nat:=(min (max keep 0) (d.wait.length:Int)).toNat
def Jv (old new:Sec)(tear:Int):Sec:=new.take (min (max tear 0) 64).toNat++old.drop (min (max tear 0) 64).toNat
def B4 (d:RD)(keep tear:Int):List Sec :=
 let l:=Fm d.firm (d.wait.take (Hk d keep))
 match d.wait[Hk d keep]? with
 | some w=>l.set w.1 (Jv (l[w.1]?.getD []) w.2 tear)
 | none=>l
def Ed (d:RD)(keep tear:Int):RD:=⟨B4 d keep tear,B4 d keep tear,[],0,false⟩
structure WD (d:RD):Prop where
 len:d.firm.length=d.now.length
 few:d.now.length≤65536
 now:∀s∈d.now,s.length=64
 firm:∀s∈d.firm,s.length=64
 wait:∀w∈d.wait,w.1 < d.now.length∧w.2.length=64
 armed:0≤d.armed
theorem Eh:∀(wait:List (Nat × Sec)) (firm:List Sec),(Fm firm wait).length=firm.length
 | [],_=>rfl
 | w::l,firm=>by
  show(Fm (firm.set w.1 w.2) l).length=_
  rw[Eh l,List.length_set]
theorem Ei:∀(wait:List (Nat × Sec)) (firm:List Sec),(∀s∈firm,s.length=64)→(∀w∈wait,w.2.length=64)→∀s∈Fm firm wait,s.length=64
 | [],_,h,_=>h
 | w::l,firm,h,hw=>Ei l _ (fun s hs=>by
  rcases List.mem_or_eq_of_mem_set hs with hs | rfl
  ·exact h s hs
  ·exact hw w (by simp)) fun x hx=>hw x (by simp[hx])
theorem Q5 {wait:List (Nat × Sec)}{firm:List Sec}{i:Nat}{w:Nat × Sec}(h:wait[i]?=some w):Fm firm (wait.take (i+1))=(Fm firm (wait.take i)).set w.1 w.2:=by
 unfold Fm
 rw[List.take_add_one,h]
 simp[List.foldl_append]
theorem Z03 (many:Int):WD (W7 many):=by
 have h0:sec0.length=64:=List.length_replicate ..
 refine⟨rfl,?_,fun s hs=>?_,fun s hs=>?_,fun w hw=>(by cases hw),Int.le_refl _⟩
 ·show(List.replicate _ _).length≤_
  rw[List.length_replicate];unfold Xj;omega
 ·rw[(List.mem_replicate.1 hs).2];exact h0
 ·rw[(List.mem_replicate.1 hs).2];exact h0
theorem Nw {d:RD}(h:WD d):WD (B7 d):=by
 unfold B7
 split
 ·exact h
 ·exact⟨h.len,h.few,h.now,h.firm,h.wait,by show 0≤d.armed - 1;have:=h.armed;omega⟩
theorem Z92 {d:RD}(h:WD d){n:Nat}(hn:n < d.now.length){s:Sec}(hs:s.length=64):WD (Z2w d n s):=by
 refine⟨by show _=(d.now.set n s).length;rw[List.length_set];exact h.len,by show(d.now.set n s).length≤_;rw[List.length_set];exact h.few,fun x hx=>?_,h.firm,fun w hw=>?_,h.armed⟩
 ·rcases List.mem_or_eq_of_mem_set hx with hx | rfl
  ·exact h.now x hx
  ·exact hs
 ·show w.1 < (d.now.set n s).length∧_
  rw[List.length_set]
  rcases List.mem_append.1 hw with hw | hw
  ·exact h.wait w hw
  ·rw[List.mem_singleton.1 hw];exact⟨hn,hs⟩
theorem N9 {d:RD}{n:Int}(h:Jt d n=0):d.dead=false∧0≤n∧n < d.now.length:=by
 unfold Jt at h
 split at h
 ·cases h
 ·next h1 =>
  split at h
  ·cases h
  ·next h2=>exact⟨by simpa using h1,by omega,by omega⟩
theorem Hw {d:RD}(h:WD d)(n:Int)(b:Sec):WD (Ae d n b):=by
 unfold Ae
 split
 ·exact h
 ·next h1 =>
  split
  ·exact h
  ·exact Nw (Z92 h (by have:=N9 (by omega:Jt d n=0);omega) (C4 b))
theorem Kb {d:RD}(h:WD d):WD (Aa d):=by
 unfold Aa
 have hd:=Nw h
 split
 ·exact h
 ·split
  ·exact hd
  ·have e:(B7 d).now=d.now:=by unfold B7;split<;>rfl
   exact⟨by rw[e];exact(Eh _ _).trans h.len,hd.few,hd.now,Ei _ _ h.firm fun w hw=>(h.wait w hw).2,fun w hw=>(by cases hw),hd.armed⟩
theorem Z17 {old new:Sec}(h1:old.length=64)(h2:new.length=64)(t:Int):(Jv old new t).length=64:=by
 unfold Jv
 simp[h1,h2]
 omega
theorem Gb (d:RD)(k t:Int):(B4 d k t).length=d.firm.length:=by
 unfold B4
 dsimp only
 split
 ·rw[List.length_set,Eh]
 ·rw[Eh]
theorem F6 {d:RD}(h:WD d)(k t:Int):WD (Ed d k t):=by
 have hw:∀w∈d.wait.take (Hk d k),w.2.length=64:=fun w hw=>(h.wait w (List.mem_of_mem_take hw)).2
 have hs:∀s∈B4 d k t,s.length=64:=fun s hs=>by
  unfold B4 at hs
  dsimp only at hs
  split at hs
  ·next w hw' =>
   have hm:=h.wait w (List.mem_of_getElem? hw')
   rcases List.mem_or_eq_of_mem_set hs with hs | rfl
   ·exact Ei _ _ h.firm hw s hs
   ·have hlt:w.1 < (Fm d.firm (d.wait.take (Hk d k))).length:=by rw[Eh,h.len];exact hm.1
    rw[List.getElem?_eq_getElem hlt]
    exact Z17 (Ei _ _ h.firm hw _ (List.getElem_mem hlt)) hm.2 t
  ·exact Ei _ _ h.firm hw s hs
 exact⟨rfl,by show(B4 d k t).length≤_;rw[Gb,h.len];exact h.few,hs,hs,fun w hw=>(by cases hw),Int.le_refl _⟩
end Go.Proofs.YtihfaocdpmmooaaGreat
namespace Go.Proofs.YtihfaocdpmmooaaGreat
structure LD where
 mark:Nat
 half:Nat
 firm:Nat
 b:Bs
 all:List ByteArray
 dead:Bool
 d:RD
def C9 (half:Nat):Nat:=2+half * 549
def frB (s:ByteArray):Bs:=byI ((s.size:Int) / 16777216)::byI ((s.size:Int) / 65536)::byI ((s.size:Int) / 256)::byI s.size::s.data.toList
def chB (b:Bs)(n:Nat):Bs:=(b.drop (n * 64)).take 64
def runW (f:Nat)(b:Bs):List Nat→RD→RD × Bool
 | [],d=>(d,true)
 | n::ns,d=>if Bg d ((f+n:Nat):Int) (chB b n)=0 then runW f b ns (Ae d ((f+n:Nat):Int) (chB b n)) else(Ae d ((f+n:Nat):Int) (chB b n),false)
def nsW (b:Bs)(frm:Nat):List Nat:=List.range' (frm / 64) ((b.length+63) / 64 - frm / 64)
def wrL (l:LD)(half:Nat)(b:Bs)(frm:Nat):LD:={l with d:=(runW (C9 half) b (nsW b frm) l.d).1,dead:=!(runW (C9 half) b (nsW b frm) l.d).2}
def wrE (l:LD)(half:Nat)(b:Bs)(frm:Nat):Bool:=(runW (C9 half) b (nsW b frm) l.d).2
def Aj (m half firm:Nat):Bs:=be8 (m:Int)++UInt8.ofNat half::byI ((firm:Int) / 16777216)::byI ((firm:Int) / 65536)::byI ((firm:Int) / 256)::byI firm::List.replicate 43 0++be8 (m:Int)
def H9 (l:LD)(d:RD):LD:={l with d:=d,dead:=true}
def Ah (l:LD)(half firm:Nat):LD :=
 if D2 l.d≠0 then H9 l (Aa l.d)
 else if Bg (Aa l.d) (((l.mark+1) % 2:Nat):Int) (Aj (l.mark+1) half firm)≠0 then H9 l (Ae (Aa l.d) (((l.mark+1) % 2:Nat):Int) (Aj (l.mark+1) half firm))
 else if D2 (Ae (Aa l.d) (((l.mark+1) % 2:Nat):Int) (Aj (l.mark+1) half firm))≠0 then H9 l (Aa (Ae (Aa l.d) (((l.mark+1) % 2:Nat):Int) (Aj (l.mark+1) half firm)))
 else {l with mark:=l.mark+1,half:=half,firm:=firm,d:=Aa (Ae (Aa l.d) (((l.mark+1) % 2:Nat):Int) (Aj (l.mark+1) half firm))}
def Db (l:LD)(half firm:Nat):Int:=if(Ah l half firm).dead=true then 40 else 0
def G9 (l:LD):Int:=max (min (35136 - (l.b.length:Int) - 4) 4096) (-1)
def Fl (l:LD)(s:ByteArray):Int :=
 if l.dead=true then 40 else if s.size > 4096 then 52 else if(s.size:Int) > G9 l then 51
 else if wrE l l.half (l.b++frB s) l.b.length=true then 0 else 40
def Ba (l:LD)(s:ByteArray):LD :=
 if l.dead=true then l else if s.size > 4096 then l else if(s.size:Int) > G9 l then l
 else if wrE l l.half (l.b++frB s) l.b.length=true then {wrL l l.half (l.b++frB s) l.b.length with b:=l.b++frB s,all:=l.all++[s]}
 else wrL l l.half (l.b++frB s) l.b.length
def Om (l:LD):Int:=if l.dead=true then 40 else Db l l.half l.b.length
def Ji (l:LD):LD:=if l.dead=true then l else Ah l l.half l.b.length
def Am (all:List ByteArray):Bs:=all.flatMap frB
def Mj (all:List ByteArray):Int:=if all.any (fun s=>decide (s.size > 4096))=true then 52 else if(Am all).length > 35136 then 51 else 0
def F5 (l:LD)(all:List ByteArray):LD :=
 if l.dead=true then l else if Mj all≠0 then l
 else if wrE l (1 - l.half) (Am all) 0=true then
  (if(Ah (wrL l (1 - l.half) (Am all) 0) (1 - l.half) (Am all).length).dead=true then Ah (wrL l (1 - l.half) (Am all) 0) (1 - l.half) (Am all).length
   else {Ah (wrL l (1 - l.half) (Am all) 0) (1 - l.half) (Am all).length with b:=Am all,all:=all})
 else wrL l (1 - l.half) (Am all) 0
def Jl (l:LD)(all:List ByteArray):Int :=
 if l.dead=true then 40 else if Mj all≠0 then Mj all
 else if wrE l (1 - l.half) (Am all) 0=true then Db (wrL l (1 - l.half) (Am all) 0) (1 - l.half) (Am all).length else 40
structure MkL where
 mark:Nat
 half:Nat
 firm:Nat
 is:Bool
def Cr (d:RD)(n:Nat):MkL :=
 let b:=Ly d n
 if Jt d n≠0∨b.take 8≠b.drop 56 then⟨0,0,0,false⟩
 else⟨Cs (b.take 8),((b[8]?).getD 0).toNat,Cs ((b.drop 9).take 4),decide (((b[8]?).getD 0).toNat < 2)&&decide (Cs ((b.drop 9).take 4)≤35136)⟩
def Es (a b:MkL):MkL:=if b.is=true∧b.mark > a.mark then b else a
def K0 (d:RD):MkL:=Es (Es ⟨0,0,0,true⟩ (Cr d 0)) (Cr d 1)
def Cb (d:RD)(half:Nat):Bs:=((d.now.drop (C9 half)).take 549).flatten
def Z2e:Nat→Bs→Option (List ByteArray)
 | 0,b=>if b=[] then some [] else none
 | n+1,b=>if b=[] then some [] else if b.length < 4 then none else if Cs (b.take 4) > 4096∨Cs (b.take 4) > b.length - 4 then none
  else(Z2e n (b.drop (4+Cs (b.take 4)))).map fun l=>⟨((b.drop 4).take (Cs (b.take 4))).toArray⟩::l
def Lv (b:Bs):Option (List ByteArray):=Z2e b.length b
theorem Pw:∀{n m:Nat} {b:Bs},b.length≤n→n≤m→Z2e m b=Z2e n b
 | 0,0,b,_,_=>rfl
 | 0,m+1,b,h,_=>by
  obtain rfl:b=[]:=List.eq_nil_of_length_eq_zero (by omega)
  simp[Z2e]
 | n+1,0,b,_,h=>by omega
 | n+1,m+1,b,h,h2=>by
  unfold Z2e
  split
  ·rfl
  ·split
   ·rfl
   ·split
    ·rfl
    ·rw[Pw (n:=n) (m:=m) (by rw[List.length_drop];omega) (by omega)]
theorem Vl:Lv []=some []:=rfl
theorem Qz {b:Bs}(h:b≠[]):Lv b=if b.length < 4 then none else if Cs (b.take 4) > 4096∨Cs (b.take 4) > b.length - 4 then none
  else(Lv (b.drop (4+Cs (b.take 4)))).map fun l=>⟨((b.drop 4).take (Cs (b.take 4))).toArray⟩::l:=by
 obtain⟨n,hn⟩:∃n,b.length=n+1:=by
  cases b with
  | nil=>exact absurd rfl h
  | cons x b=>exact⟨b.length,rfl⟩
 have e:Lv b=Z2e (n+1) b:=by unfold Lv;rw[hn]
 rw[e]
 show(if b=[] then some [] else _)=_
 rw[if_neg h]
 split
 ·rfl
 ·split
  ·rfl
  ·unfold Lv
   rw[Pw (n:=(b.drop (4+Cs (b.take 4))).length) (m:=n) (Nat.le_refl _) (by rw[List.length_drop];omega)]
def Z1p (d:RD):Option LD:=match Lv ((Cb d (K0 d).half).take (K0 d).firm) with
 | none=>none
 | some l=>some ⟨(K0 d).mark,(K0 d).half,(K0 d).firm,(Cb d (K0 d).half).take (K0 d).firm,l,false,d⟩
end Go.Proofs.YtihfaocdpmmooaaGreat

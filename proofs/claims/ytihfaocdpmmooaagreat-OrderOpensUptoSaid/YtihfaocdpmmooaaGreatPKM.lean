
import Derived.Test.YtihfaocdpmmooaaGreatZM1
namespace Go.Proofs.YtihfaocdpmmooaaGreat
structure RFd where
 kind:Int
 n:Int
 s:ByteArray
abbrev Bs:=List UInt8
def byI (n:Int):UInt8:=UInt8.ofNat (n % 256).toNat
theorem Bw (n:Int):(((byI n).toNat:Nat):Int)=n % 256:=by
 unfold byI
 have h1:(n % 256).toNat < 256:=by omega
 have h2:(UInt8.ofNat (n % 256).toNat).toNat=(n % 256).toNat:=by
  rw[UInt8.toNat_ofNat']
  omega
 rw[h2];omega
def be8 (n:Int):Bs:=[byI (n / 72057594037927936),byI (n / 281474976710656),byI (n / 1099511627776),byI (n / 4294967296),byI (n / 16777216),byI (n / 65536),byI (n / 256),byI n]
def fdE (f:RFd):Int :=
 if f.kind=3 then(if f.n≠0 then 21 else if f.s.size > 1024 then 22 else 0)
 else if f.s≠⟨#[]⟩∨f.n < 0 then 21
 else if f.kind=1∧f.n≤255 then 0 else if f.kind=4∧f.n≤1 then 0 else if f.kind=2∧f.n≤big then 0 else 21
def fdB (f:RFd):Bs:=if f.kind=3 then byI ((f.s.size:Int) / 256)::byI f.s.size::f.s.data.toList else if f.kind=2 then be8 f.n else [byI f.n]
def L0:List RFd→Int
 | []=>0
 | f::l=>if fdE f=0 then L0 l else fdE f
def Gs (l:List RFd):Bs:=l.flatMap fdB
def W9 (l:List RFd):Bs:=if L0 l=0 then Gs l else []
theorem Z6v {f:RFd}(h:fdE f=0):(fdB f).length≤1026:=by
 unfold fdB
 split
 ·next hk =>
  unfold fdE at h
  rw[if_pos hk] at h
  have hs:f.s.data.toList.length=f.s.size:=by rw[Array.length_toList];rfl
  by_cases h1:f.n≠0
  ·rw[if_pos h1] at h;omega
  ·rw[if_neg h1] at h
   by_cases h2:f.s.size > 1024
   ·rw[if_pos h2] at h;omega
   ·simp only[List.length_cons,hs];omega
 ·split
  ·simp[be8]
  ·simp
theorem Z5m {l:List RFd}{i:Nat}{f:RFd}(hi:l[i]?=some f)(h:∀x∈l.take i,fdE x=0)(hf:fdE f≠0):L0 l=fdE f:=by
 induction l generalizing i with
 | nil=>simp at hi
 | cons x l ih =>
  cases i with
  | zero=>simp at hi;subst hi;unfold L0;rw[if_neg hf]
  | succ i =>
   have h0:=h x (by simp)
   unfold L0
   rw[if_pos h0]
   exact ih (by simpa using hi) fun y hy=>h y (by simp[hy])
theorem Jf {l:List RFd}(h:∀x∈l,fdE x=0):L0 l=0:=by
 induction l with
 | nil=>rfl
 | cons x l ih=>unfold L0;rw[if_pos (h x (by simp))];exact ih fun y hy=>h y (by simp[hy])
theorem N2 {l:List RFd}(h:∀x∈l,fdE x=0):(Gs l).length≤1026 * l.length:=by
 induction l with
 | nil=>simp[Gs]
 | cons x l ih =>
  have h1:=Z6v (h x (by simp))
  have h2:=ih fun y hy=>h y (by simp[hy])
  unfold Gs at *
  rw[List.flatMap_cons,List.length_append,List.length_cons];omega
end Go.Proofs.YtihfaocdpmmooaaGreat
namespace Go.Proofs.YtihfaocdpmmooaaGreat
def szN (k:Int):Nat:=if k=1∨k=4 then 1 else if k=2 then 8 else if k=3 then 2 else 0
def Co (b:Bs):Nat:=b.foldl (fun v x=>v * 256+x.toNat) 0
def nxV (k:Int)(b:Bs):Nat:=Co (b.take (szN k))
def nxE (k:Int)(b:Bs):Int :=
 if ¬(1≤k∧k≤4) then 21 else if b.length < szN k then 20
 else if(k=2∧big < nxV k b)∨(k=4∧1 < nxV k b) then 21
 else if k≠3 then 0 else if 1024 < nxV k b then 22 else if b.length < 2+nxV k b then 20 else 0
def nxF (k:Int)(b:Bs):RFd:=if k=3 then⟨3,0,⟨((b.drop 2).take (nxV k b)).toArray⟩⟩ else⟨k,nxV k b,⟨#[]⟩⟩
def nxN (k:Int)(b:Bs):Nat:=if k=3 then 2+nxV k b else szN k
def fd0:RFd:=⟨0,0,⟨#[]⟩⟩
structure Sm where
 e:Int
 l:List RFd
 n:Nat
def Ag:List Int→Bs→Sm
 | [],_=>⟨0,[],0⟩
 | k::ks,b=>if nxE k b≠0 then⟨nxE k b,[],0⟩ else
  if(Ag ks (b.drop (nxN k b))).e≠0 then⟨(Ag ks (b.drop (nxN k b))).e,[],0⟩
  else⟨0,nxF k b::(Ag ks (b.drop (nxN k b))).l,nxN k b+(Ag ks (b.drop (nxN k b))).n⟩
theorem Cq (k:Int)(ks:List Int)(b:Bs):Ag (k::ks) b=if nxE k b≠0 then⟨nxE k b,[],0⟩ else
  if(Ag ks (b.drop (nxN k b))).e≠0 then⟨(Ag ks (b.drop (nxN k b))).e,[],0⟩
  else⟨0,nxF k b::(Ag ks (b.drop (nxN k b))).l,nxN k b+(Ag ks (b.drop (nxN k b))).n⟩:=rfl
theorem Q1 (b:Bs)(x:UInt8):Co (b++[x])=Co b * 256+x.toNat:=by unfold Co;rw[List.foldl_append];rfl
theorem Ir (b:Bs):Co b < 256 ^ b.length:=by
 have key:∀(b:Bs) (v:Nat) (m:Nat),v < m→b.foldl (fun v x=>v * 256+x.toNat) v < m * 256 ^ b.length:=by
  intro b
  induction b with
  | nil=>intro v m h;simpa using h
  | cons x b ih =>
   intro v m h
   have hx:=x.toNat_lt
   have:=ih (v * 256+x.toNat) (m * 256) (by omega)
   rw[List.foldl_cons,List.length_cons,Nat.pow_succ']
   rwa [←Nat.mul_assoc]
 have:=key b 0 1 (by omega)
 unfold Co
 simpa using this
theorem Z9l (k:Int):szN k≤8:=by unfold szN;split<;>(try split)<;>(try split)<;>omega
theorem Z7f {k:Int}(h:1≤k∧k≤4):1≤szN k:=by
 unfold szN
 split
 ·omega
 ·split
  ·omega
  ·split<;>omega
theorem Z5f {k:Int}{b:Bs}(h:nxE k b=0):nxN k b≤b.length∧1≤nxN k b:=by
 unfold nxE at h
 split at h
 ·cases h
 next h1 =>
 have h1:1≤k∧k≤4:=Decidable.not_not.1 h1
 split at h
 ·cases h
 next h2 =>
 split at h
 ·cases h
 unfold nxN
 by_cases h3:k=3
 ·rw[if_pos h3]
  rw[if_neg (by simp[h3])] at h
  split at h
  ·cases h
  split at h
  ·cases h
  omega
 ·rw[if_neg h3]
  have:=Z7f h1
  omega
theorem Cv:∀(ks:List Int) (b:Bs),(Ag ks b).n≤b.length∧((Ag ks b).e=0→(Ag ks b).l.length=ks.length)
 | [],b=>⟨Nat.zero_le _,fun _=>rfl⟩
 | k::ks,b=>by
  have ih:=Cv ks (b.drop (nxN k b))
  unfold Ag
  split
  ·next h=>exact⟨Nat.zero_le _,fun h0=>absurd h0 h⟩
  ·next h =>
   have h:=Z5f (Decidable.not_not.1 h)
   split
   ·next h2=>exact⟨Nat.zero_le _,fun h0=>absurd h0 h2⟩
   ·next h2 =>
    have h2:=Decidable.not_not.1 h2
    have i1:=ih.1
    rw[List.length_drop] at i1
    exact⟨by simp only;omega,fun _=>by simp[ih.2 h2]⟩
theorem Z3g:∀(ks:List Int) (b:Bs),(Ag ks b).e≠0→Ag ks b=⟨(Ag ks b).e,[],0⟩
 | [],b,h=>absurd rfl h
 | k::ks,b,h=>by
  unfold Ag at h⊢
  by_cases h1:nxE k b≠0
  ·rw[if_pos h1]
  ·rw[if_neg h1] at h⊢
   by_cases h2:(Ag ks (b.drop (nxN k b))).e≠0
   ·rw[if_pos h2]
   ·rw[if_neg h2] at h;exact absurd rfl h
theorem Ov:∀(ks:List Int) (b:Bs) (k:Int),(Ag ks b).e=0→Ag (ks++[k]) b=if nxE k (b.drop (Ag ks b).n)≠0 then⟨nxE k (b.drop (Ag ks b).n),[],0⟩ else⟨0,(Ag ks b).l++[nxF k (b.drop (Ag ks b).n)],(Ag ks b).n+nxN k (b.drop (Ag ks b).n)⟩
 | [],b,k,_=>by
  show Ag [k] b=if nxE k (b.drop 0)≠0 then⟨nxE k (b.drop 0),[],0⟩ else⟨0,[]++[nxF k (b.drop 0)],0+nxN k (b.drop 0)⟩
  rw[List.drop_zero]
  unfold Ag
  by_cases h:nxE k b≠0
  ·rw[if_pos h,if_pos h]
  ·rw[if_neg h,if_neg h,if_neg (fun h=>h rfl)]
   simp[Ag]
 | j::ks,b,k,h=>by
  by_cases h1:nxE j b≠0
  ·unfold Ag at h;rw[if_pos h1] at h;exact absurd h h1
  ·by_cases h2:(Ag ks (b.drop (nxN j b))).e≠0
   ·unfold Ag at h;rw[if_neg h1,if_pos h2] at h;exact absurd h h2
   ·have h2:=Decidable.not_not.1 h2
    have ih:=Ov ks (b.drop (nxN j b)) k h2
    have e:Ag (j::ks) b=⟨0,nxF j b::(Ag ks (b.drop (nxN j b))).l,nxN j b+(Ag ks (b.drop (nxN j b))).n⟩:=by
     conv=>lhs;unfold Ag
     rw[if_neg h1,if_neg (fun h=>h h2)]
    rw[e]
    show Ag (j::(ks++[k])) b=_
    conv=>lhs;unfold Ag
    rw[if_neg h1,ih,List.drop_drop]
    by_cases h3:nxE k (b.drop (nxN j b+(Ag ks (b.drop (nxN j b))).n))≠0
    ·rw[if_pos h3,if_pos h3];simp only;rw[if_pos h3]
    ·rw[if_neg h3,if_neg h3];simp[Nat.add_assoc]
theorem U6:∀(ks:List Int) (b:Bs) (i:Nat) (k:Int),ks[i]?=some k→(Ag (ks.take i) b).e=0→nxE k (b.drop (Ag (ks.take i) b).n)≠0→Ag ks b=⟨nxE k (b.drop (Ag (ks.take i) b).n),[],0⟩
 | [],b,i,k,h,_,_=>by simp at h
 | j::ks,b,0,k,h,_,h2=>by
  simp at h
  subst h
  have h2:nxE j (b.drop 0)≠0:=h2
  show Ag (j::ks) b=⟨nxE j (b.drop 0),[],0⟩
  rw[List.drop_zero] at h2⊢
  unfold Ag
  rw[if_pos h2]
 | j::ks,b,i+1,k,h,h1,h2=>by
  have h:ks[i]?=some k:=by simpa using h
  rw[List.take_succ_cons] at h1 h2⊢
  by_cases g1:nxE j b≠0
  ·unfold Ag at h1;rw[if_pos g1] at h1;exact absurd h1 g1
  ·by_cases g2:(Ag (ks.take i) (b.drop (nxN j b))).e≠0
   ·unfold Ag at h1;rw[if_neg g1,if_pos g2] at h1;exact absurd h1 g2
   ·have g2:=Decidable.not_not.1 g2
    have e:(Ag (j::ks.take i) b).n=nxN j b+(Ag (ks.take i) (b.drop (nxN j b))).n:=by
     rw[Cq,if_neg g1,if_neg (fun h=>h g2)]
    rw[e,←List.drop_drop] at h2⊢
    have ih:=U6 ks (b.drop (nxN j b)) i k h g2 h2
    conv=>lhs;unfold Ag
    rw[if_neg g1,ih,if_pos h2]
def L2 (ks:List Int)(b:Bs):Sm:=if(Ag ks b).e≠0 then⟨(Ag ks b).e,[],0⟩ else if(Ag ks b).n≠b.length then⟨21,[],0⟩ else Ag ks b
end Go.Proofs.YtihfaocdpmmooaaGreat
namespace Go.Proofs.YtihfaocdpmmooaaGreat
def eS:ByteArray:=⟨#[]⟩
def bI (b:Bool):Int:=if b then 1 else 0
def chF (c:RC)(v:Int):List RFd:=[⟨1,c.kind,eS⟩,⟨3,0,c.path⟩,⟨3,0,c.data⟩,⟨2,v,eS⟩,⟨4,bI c.ep,eS⟩,⟨4,bI c.sq,eS⟩]
def veP (v:Int):Int:=if v < big then v+1 else -1
def hdF (t:RT):List RFd:=[⟨1,t.kind,eS⟩,⟨2,t.se,eS⟩,⟨2,t.nu,eS⟩,⟨2,t.sp,eS⟩,⟨2,t.no,eS⟩,⟨1,t.l.length,eS⟩]
def Ze8 (l:List RC):List RFd:=l.flatMap fun c=>chF c (veP c.ve)
def txF (t:RT):List RFd:=hdF t++Ze8 t.l
def okT (t:RT):Prop:=t.l.length≤6∧L0 (txF t)=0∧(Gs (txF t)).length≤4096
instance (t:RT):Decidable (okT t):=inferInstanceAs (Decidable (_∧_∧_))
def eT (t:RT):Int:=if okT t then 0 else 110
theorem E0:∀{l:List RFd},L0 l=0→∀f∈l,fdE f=0
 | [],_,f,hf=>by cases hf
 | x::l,h,f,hf=>by
  unfold L0 at h
  by_cases hx:fdE x=0
  ·rw[if_pos hx] at h
   rcases List.mem_cons.1 hf with rfl | hf
   ·exact hx
   ·exact E0 h f hf
  ·rw[if_neg hx] at h;exact absurd h hx
end Go.Proofs.YtihfaocdpmmooaaGreat
namespace Go.Proofs.YtihfaocdpmmooaaGreat
theorem Mq:∀(ks ls:List Int) (b:Bs),(Ag ks b).e=0→Ag (ks++ls) b=if(Ag ls (b.drop (Ag ks b).n)).e≠0 then⟨(Ag ls (b.drop (Ag ks b).n)).e,[],0⟩ else⟨0,(Ag ks b).l++(Ag ls (b.drop (Ag ks b).n)).l,(Ag ks b).n+(Ag ls (b.drop (Ag ks b).n)).n⟩
 | [],ls,b,_=>by
  show Ag ls b=if(Ag ls (b.drop 0)).e≠0 then⟨(Ag ls (b.drop 0)).e,[],0⟩ else⟨0,[]++(Ag ls (b.drop 0)).l,0+(Ag ls (b.drop 0)).n⟩
  rw[List.drop_zero]
  by_cases h:(Ag ls b).e≠0
  ·rw[if_pos h];exact Z3g ls b h
  ·have h0:=Decidable.not_not.1 h
   rw[if_neg h,List.nil_append,Nat.zero_add]
   conv=>rhs;rw[←h0]
 | k::ks,ls,b,h=>by
  rw[Cq] at h
  by_cases h1:nxE k b≠0
  ·rw[if_pos h1] at h;exact absurd h h1
  rw[if_neg h1] at h
  by_cases h2:(Ag ks (b.drop (nxN k b))).e≠0
  ·rw[if_pos h2] at h;exact absurd h h2
  have h2':=Decidable.not_not.1 h2
  have ih:=Mq ks ls (b.drop (nxN k b)) h2'
  have e:Ag (k::ks) b=⟨0,nxF k b::(Ag ks (b.drop (nxN k b))).l,nxN k b+(Ag ks (b.drop (nxN k b))).n⟩:=by rw[Cq,if_neg h1,if_neg h2]
  rw[List.cons_append,e,Cq,if_neg h1,ih,List.drop_drop]
  by_cases h3:(Ag ls (b.drop (nxN k b+(Ag ks (b.drop (nxN k b))).n))).e≠0
  ·rw[if_pos h3,if_pos h3,if_pos h3]
  ·rw[if_neg h3,if_neg h3,if_neg (fun h=>h rfl)]
   simp[Nat.add_assoc]
theorem Iu:∀(ks ls:List Int) (b:Bs),(Ag ks b).e≠0→Ag (ks++ls) b=⟨(Ag ks b).e,[],0⟩
 | [],ls,b,h=>absurd rfl h
 | k::ks,ls,b,h=>by
  rw[List.cons_append,Cq,Cq]
  by_cases h1:nxE k b≠0
  ·rw[if_pos h1,if_pos h1]
  rw[Cq,if_neg h1] at h
  by_cases h2:(Ag ks (b.drop (nxN k b))).e≠0
  ·have ih:=Iu ks ls (b.drop (nxN k b)) h2
   rw[if_neg h1,if_neg h1,if_pos h2,ih,if_pos h2]
  ·rw[if_neg h2] at h;exact absurd rfl h
def kHd:List Int:=[1,2,2,2,2,1]
def kCh:List Int:=[1,3,3,2,4,4]
def Zdg:Nat→List Int
 | 0=>[]
 | i+1=>Zdg i++kCh
def Zdz (b:Bs):Int:=match(Ag kHd b).l with
 | [_,_,_,_,_,f]=>f.n
 | _=>0
def okD (b:Bs):Prop:=(Ag kHd b).e=0∧Zdz b≤6∧b.length≤4096∧(L2 (Zdg (Zdz b).toNat) (b.drop (Ag kHd b).n)).e=0
instance (b:Bs):Decidable (okD b):=inferInstanceAs (Decidable (_∧_∧_∧_))
def eD (b:Bs):Int:=if okD b then 0 else 110
end Go.Proofs.YtihfaocdpmmooaaGreat
namespace Go.Proofs.YtihfaocdpmmooaaGreat
theorem O4 (n:Int)(h0:0≤n)(h1:n≤big):(Co (be8 n):Int)=n:=by
 have e:∀x:Int,((byI x).toNat:Int)=x % 256:=Bw
 unfold big at h1
 have q1:=e n
 have q2:=e (n / 256)
 have q3:=e (n / 65536)
 have q4:=e (n / 16777216)
 have q5:=e (n / 4294967296)
 have q6:=e (n / 1099511627776)
 have q7:=e (n / 281474976710656)
 have q8:=e (n / 72057594037927936)
 show((((((((((0 * 256+(byI (n / 72057594037927936)).toNat) * 256+(byI (n / 281474976710656)).toNat) * 256+(byI (n / 1099511627776)).toNat) * 256+(byI (n / 4294967296)).toNat) * 256+(byI (n / 16777216)).toNat) * 256+(byI (n / 65536)).toNat) * 256+(byI (n / 256)).toNat) * 256+(byI n).toNat:Nat)):Int)=n
 have d1:n / 65536=n / 256 / 256:=by omega
 have d2:n / 16777216=n / 256 / 256 / 256:=by omega
 have d3:n / 4294967296=n / 256 / 256 / 256 / 256:=by omega
 have d4:n / 1099511627776=n / 256 / 256 / 256 / 256 / 256:=by omega
 have d5:n / 281474976710656=n / 256 / 256 / 256 / 256 / 256 / 256:=by omega
 have d6:n / 72057594037927936=n / 256 / 256 / 256 / 256 / 256 / 256 / 256:=by omega
 rw[d1] at q3⊢
 rw[d2] at q4⊢
 rw[d3] at q5⊢
 rw[d4] at q6⊢
 rw[d5] at q7⊢
 rw[d6] at q8⊢
 omega
theorem T6 (x:UInt8):Co [x]=x.toNat:=by show 0 * 256+x.toNat=_;omega
theorem Ip {f:RFd}(h:fdE f=0):(f.kind=3∧f.n=0∧f.s.size≤1024)∨((f.kind=1∧f.n≤255∨f.kind=4∧f.n≤1∨f.kind=2∧f.n≤big)∧f.s=eS∧0≤f.n):=by
 unfold fdE at h
 by_cases hk:f.kind=3
 ·rw[if_pos hk] at h
  by_cases h1:f.n≠0
  ·rw[if_pos h1] at h;cases h
  ·rw[if_neg h1] at h
   by_cases h2:f.s.size > 1024
   ·rw[if_pos h2] at h;cases h
   ·exact .inl ⟨hk,Decidable.not_not.1 h1,by omega⟩
 ·rw[if_neg hk] at h
  by_cases h1:f.s≠⟨#[]⟩∨f.n < 0
  ·rw[if_pos h1] at h;cases h
  ·rw[if_neg h1] at h
   have hs:f.s=eS:=Decidable.not_not.1 fun hh=>h1 (.inl hh)
   have hn:0≤f.n:=Int.not_lt.1 fun hh=>h1 (.inr hh)
   refine .inr ⟨?_,hs,hn⟩
   by_cases a1:f.kind=1∧f.n≤255
   ·exact .inl a1
   ·rw[if_neg a1] at h
    by_cases a2:f.kind=4∧f.n≤1
    ·exact .inr (.inl a2)
    ·rw[if_neg a2] at h
     by_cases a3:f.kind=2∧f.n≤big
     ·exact .inr (.inr a3)
     ·rw[if_neg a3] at h;cases h
theorem Z7l {f:RFd}(h:fdE f=0):1≤f.kind∧f.kind≤4:=by
 rcases Ip h with⟨h,-⟩ | ⟨h,-⟩<;>omega
theorem Z12:szN 2=8:=rfl
theorem Z8o:szN 3=2:=rfl
theorem Sv {α:Type}(a b:List α)(n:Nat)(h:a.length=n):(a++b).take n=a:=by
 subst h;exact List.take_left
theorem Ue {k:Int}{b:Bs}(hk:1≤k∧k≤4)(h3:k≠3)(hl:szN k≤b.length)(hv:¬((k=2∧big < nxV k b)∨(k=4∧1 < nxV k b))):nxE k b=0:=by
 unfold nxE
 rw[if_neg (fun h=>h hk),if_neg (by omega),if_neg hv,if_pos h3]
theorem Oh {f:RFd}{k n:Int}{s:ByteArray}(h1:f.kind=k)(h2:f.n=n)(h3:f.s=s):(⟨k,n,s⟩:RFd)=f:=by
 cases f;cases h1;cases h2;cases h3;rfl
theorem Zct {f:RFd}(h:fdE f=0)(r:Bs):nxE f.kind (fdB f++r)=0∧nxF f.kind (fdB f++r)=f∧nxN f.kind (fdB f++r)=(fdB f).length:=by
 have hkr:=Z7l h
 rcases Ip h with⟨hk,hn,hs⟩ | ⟨hk,hs,hn⟩
 ·have hB:fdB f=byI ((f.s.size:Int) / 256)::byI f.s.size::f.s.data.toList:=by unfold fdB;rw[if_pos hk]
  have hsz:f.s.data.toList.length=f.s.size:=by rw[Array.length_toList];rfl
  have hV:nxV f.kind (fdB f++r)=f.s.size:=by
   unfold nxV
   rw[hk,hB]
   show(0 * 256+(byI ((f.s.size:Int) / 256)).toNat) * 256+(byI f.s.size).toNat=_
   have q1:=Bw ((f.s.size:Int) / 256)
   have q2:=Bw (f.s.size:Int)
   omega
  refine⟨?_,?_,?_⟩
  ·unfold nxE
   rw[if_neg (fun h=>h hkr),if_neg (by rw[hk,Z8o,hB];simp),if_neg (by omega),if_neg (fun h=>h hk),hV,if_neg (by omega),if_neg (by rw[hB];simp only[List.length_append,List.length_cons,hsz];omega)]
  ·unfold nxF
   rw[if_pos hk,hV]
   refine Oh hk hn ?_
   rw[hB]
   show f.s=⟨((f.s.data.toList++r).take f.s.size).toArray⟩
   rw[Sv _ _ _ hsz]
  ·unfold nxN
   rw[if_pos hk,hV,hB]
   simp only[List.length_cons,hsz];omega
 ·have h3:f.kind≠3:=by omega
  by_cases h2:f.kind=2
  ·have hB:fdB f=be8 f.n:=by unfold fdB;rw[if_neg h3,if_pos h2]
   have hL:(be8 f.n).length=8:=rfl
   have hV:((nxV f.kind (fdB f++r):Nat):Int)=f.n:=by
    unfold nxV
    rw[h2,Z12,hB,Sv _ _ _ hL]
    exact O4 f.n hn (by omega)
   refine⟨Ue hkr h3 (by rw[h2,Z12,hB,List.length_append,hL];omega) (by rw[hV];omega),?_,?_⟩
   ·unfold nxF;rw[if_neg h3,hV];exact Oh rfl rfl hs
   ·unfold nxN;rw[if_neg h3,h2,hB];rfl
  ·have hB:fdB f=[byI f.n]:=by unfold fdB;rw[if_neg h3,if_neg h2]
   have hz:szN f.kind=1:=by rcases hk with⟨h,-⟩ | ⟨h,-⟩ | ⟨h,-⟩<;>first | (rw[h];rfl) | omega
   have hV:((nxV f.kind (fdB f++r):Nat):Int)=f.n:=by
    unfold nxV
    rw[hz,hB]
    show((Co [byI f.n]:Nat):Int)=f.n
    rw[T6,Bw];omega
   refine⟨Ue hkr h3 (by rw[hz,hB];simp) (by rw[hV];omega),?_,?_⟩
   ·unfold nxF;rw[if_neg h3,hV];exact Oh rfl rfl hs
   ·unfold nxN;rw[if_neg h3,hz,hB];rfl
theorem Z6:∀(l:List RFd) (r:Bs),L0 l=0→Ag (l.map RFd.kind) (Gs l++r)=⟨0,l,(Gs l).length⟩
 | [],r,_=>rfl
 | f::l,r,h=>by
  have hf:=E0 h f (by simp)
  have hl:L0 l=0:=by unfold L0 at h;rwa [if_pos hf] at h
  have eB:Gs (f::l)=fdB f++Gs l:=rfl
  obtain⟨n1,n2,n3⟩:=Zct hf (Gs l++r)
  have ih:=Z6 l r hl
  rw[eB,List.append_assoc,List.map_cons,Cq,if_neg (fun h=>h n1),n2,n3,List.drop_left,ih,if_neg (fun h=>h rfl)]
  simp
theorem Zd8 {b:Bs}(h:8≤b.length):∃a1 a2 a3 a4 a5 a6 a7 a8,b.take 8=[a1,a2,a3,a4,a5,a6,a7,a8]:=by
 match b,h with
 | a1::a2::a3::a4::a5::a6::a7::a8::b,_=>exact⟨a1,a2,a3,a4,a5,a6,a7,a8,rfl⟩
theorem Fl {x:UInt8}{n:Int}(h:n % 256=x.toNat):byI n=x:=by
 have:=Bw n
 have h2:(byI n).toNat=x.toNat:=by omega
 exact UInt8.toNat_inj.1 h2
theorem Z25 (a1 a2 a3 a4 a5 a6 a7 a8:UInt8):be8 (Co [a1,a2,a3,a4,a5,a6,a7,a8]:Nat)=[a1,a2,a3,a4,a5,a6,a7,a8]:=by
 have l1:=a1.toNat_lt
 have l2:=a2.toNat_lt
 have l3:=a3.toNat_lt
 have l4:=a4.toNat_lt
 have l5:=a5.toNat_lt
 have l6:=a6.toNat_lt
 have l7:=a7.toNat_lt
 have l8:=a8.toNat_lt
 have e:Co [a1,a2,a3,a4,a5,a6,a7,a8]=(((((((0 * 256+a1.toNat) * 256+a2.toNat) * 256+a3.toNat) * 256+a4.toNat) * 256+a5.toNat) * 256+a6.toNat) * 256+a7.toNat) * 256+a8.toNat:=rfl
 unfold be8
 generalize Co [a1,a2,a3,a4,a5,a6,a7,a8]=v at e
 rw[Fl (x:=a1) (by omega),Fl (x:=a2) (by omega),Fl (x:=a3) (by omega),Fl (x:=a4) (by omega),Fl (x:=a5) (by omega),Fl (x:=a6) (by omega),Fl (x:=a7) (by omega),Fl (x:=a8) (by omega)]
theorem Z2a (k:Int)(b:Bs):(nxF k b).kind=k:=by
 unfold nxF
 split
 ·next h=>exact h.symm
 ·rfl
theorem Zd3 {k:Int}{b:Bs}(h:nxE k b=0):fdE (nxF k b)=0∧fdB (nxF k b)=b.take (nxN k b):=by
 have h0:=h
 unfold nxE at h
 split at h
 ·cases h
 next h1 =>
 have h1:1≤k∧k≤4:=Decidable.not_not.1 h1
 split at h
 ·cases h
 next h2 =>
 split at h
 ·cases h
 next hv =>
 by_cases h3:k=3
 ·rw[if_neg (fun hh=>hh h3)] at h
  split at h
  ·cases h
  next hm =>
  split at h
  ·cases h
  next hl =>
  subst h3
  rw[Z8o] at h2
  have hsz:(((b.drop 2).take (nxV 3 b)).toArray:Array UInt8).size=nxV 3 b:=by rw[List.size_toArray,List.length_take,List.length_drop];omega
  have eF:nxF 3 b=⟨3,0,⟨((b.drop 2).take (nxV 3 b)).toArray⟩⟩:=rfl
  have eN:nxN 3 b=2+nxV 3 b:=rfl
  have hs2:(⟨((b.drop 2).take (nxV 3 b)).toArray⟩:ByteArray).size=nxV 3 b:=hsz
  rw[eF,eN]
  constructor
  ·unfold fdE
   rw[if_pos rfl,if_neg (fun hh=>hh rfl)]
   show(if(⟨((b.drop 2).take (nxV 3 b)).toArray⟩:ByteArray).size > 1024 then(22:Int) else 0)=0
   rw[hs2,if_neg (by omega)]
  ·show byI (((⟨((b.drop 2).take (nxV 3 b)).toArray⟩:ByteArray).size:Int) / 256)::byI (⟨((b.drop 2).take (nxV 3 b)).toArray⟩:ByteArray).size::(b.drop 2).take (nxV 3 b)=_
   rw[hs2]
   match b,h2,hm with
   | x::y::b,_,hm =>
    have l1:=x.toNat_lt
    have l2:=y.toNat_lt
    have e:nxV 3 (x::y::b)=(0 * 256+x.toNat) * 256+y.toNat:=rfl
    rw[show 2+nxV 3 (x::y::b)=nxV 3 (x::y::b)+1+1 by omega,List.take_succ_cons,List.take_succ_cons,Fl (x:=x) (by rw[e];omega),Fl (x:=y) (by rw[e];omega)]
    rfl
   | [],h2,_=>simp at h2
   | [_],h2,_=>simp at h2
 ·have eF:nxF k b=⟨k,nxV k b,eS⟩:=by unfold nxF;rw[if_neg h3];rfl
  have eN:nxN k b=szN k:=by unfold nxN;rw[if_neg h3]
  have hlt:=Ir (b.take (szN k))
  rw[List.length_take,Nat.min_eq_left (by omega)] at hlt
  rw[eF,eN]
  by_cases hk2:k=2
  ·subst hk2
   constructor
   ·unfold fdE
    rw[if_neg h3,if_neg (fun hh=>hh.elim (fun hh=>hh rfl) (fun hh=>by simp only at hh;omega)),if_neg (by simp),if_neg (by simp),if_pos ⟨rfl,by simp only;omega⟩]
   ·show be8 (nxV 2 b:Nat)=_
    obtain⟨a1,a2,a3,a4,a5,a6,a7,a8,e⟩:=Zd8 (b:=b) (by rw[Z12] at h2;omega)
    unfold nxV
    rw[Z12,e]
    exact Z25 a1 a2 a3 a4 a5 a6 a7 a8
  ·have hk14:k=1∨k=4:=by omega
   have hz:szN k=1:=by rcases hk14 with h | h<;>(rw[h];rfl)
   rw[hz] at hlt h2
   have hx:∃x,b.take 1=[x]:=by
    match b,h2 with
    | x::b,_=>exact⟨x,rfl⟩
    | [],h2=>simp at h2
   obtain⟨x,hx⟩:=hx
   have eV:nxV k b=x.toNat:=by unfold nxV;rw[hz,hx,T6]
   have l1:=x.toNat_lt
   constructor
   ·unfold fdE
    rw[if_neg h3,if_neg (fun hh=>hh.elim (fun hh=>hh rfl) (fun hh=>by simp only at hh;omega))]
    simp only
    rw[eV] at hv⊢
    rcases hk14 with h | h
    ·rw[if_pos ⟨h,by omega⟩]
    ·rw[if_neg (by omega),if_pos ⟨h,by omega⟩]
   ·show(if k=3 then _ else if k=2 then _ else [byI (nxV k b:Nat)])=_
    rw[if_neg h3,if_neg hk2,hz,hx,Fl (x:=x) (by rw[eV];omega)]
theorem Mu:∀(ks:List Int) (b:Bs),(Ag ks b).e=0→L0 (Ag ks b).l=0∧Gs (Ag ks b).l=b.take (Ag ks b).n∧(Ag ks b).l.map RFd.kind=ks
 | [],b,_=>⟨rfl,by simp[Ag,Gs],rfl⟩
 | k::ks,b,h=>by
  rw[Cq] at h⊢
  by_cases h1:nxE k b≠0
  ·rw[if_pos h1] at h;exact absurd h h1
  rw[if_neg h1] at h⊢
  by_cases h2:(Ag ks (b.drop (nxN k b))).e≠0
  ·rw[if_pos h2] at h;exact absurd h h2
  rw[if_neg h2]
  obtain⟨i1,i2,i3⟩:=Mu ks (b.drop (nxN k b)) (Decidable.not_not.1 h2)
  obtain⟨f1,f2⟩:=Zd3 (Decidable.not_not.1 h1)
  refine⟨?_,?_,?_⟩
  ·show L0 (nxF k b::_)=0
   unfold L0;rw[if_pos f1];exact i1
  ·show fdB (nxF k b)++Gs (Ag ks (b.drop (nxN k b))).l=b.take (nxN k b+_)
   rw[f2,i2,List.take_add]
  ·show(nxF k b).kind::_=_
   rw[Z2a,i3]
theorem Z3v (l m:List RFd):Gs (l++m)=Gs l++Gs m:=by unfold Gs;rw[List.flatMap_append]
theorem Nu {ks:List Int}{b:Bs}(h:(L2 ks b).e=0):(Ag ks b).e=0∧(Ag ks b).n=b.length∧L2 ks b=Ag ks b:=by
 unfold L2 at h⊢
 by_cases h1:(Ag ks b).e≠0
 ·rw[if_pos h1] at h;exact absurd h h1
 rw[if_neg h1] at h⊢
 by_cases h2:(Ag ks b).n≠b.length
 ·rw[if_pos h2] at h;cases h
 ·rw[if_neg h2];exact⟨Decidable.not_not.1 h1,Decidable.not_not.1 h2,rfl⟩
theorem Z22 {l:List RFd}(h:L0 l=0):L2 (l.map RFd.kind) (Gs l)=⟨0,l,(Gs l).length⟩:=by
 have:=Z6 l [] h
 rw[List.append_nil] at this
 unfold L2
 rw[this,if_neg (fun h=>h rfl),if_neg (fun h=>h rfl)]
theorem Ru {f:RFd}{k:Int}(h:fdE f=0)(hk:f.kind=k)(h3:k≠3):(⟨k,f.n,eS⟩:RFd)=f:=by
 rcases Ip h with⟨h,-⟩ | ⟨-,h,-⟩
 ·omega
 ·exact Oh hk rfl h
theorem Za7 {f:RFd}(h:fdE f=0)(hk:f.kind=3):(⟨3,0,f.s⟩:RFd)=f:=by
 rcases Ip h with⟨h,h0,-⟩ | ⟨h,-⟩
 ·exact Oh hk h0 rfl
 ·omega
end Go.Proofs.YtihfaocdpmmooaaGreat

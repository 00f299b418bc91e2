
import Derived.Test.YtihfaocdpmmooaaGreatZM1
namespace Go.Proofs.YtihfaocdpmmooaaGreat
structure RFd where
 kind:Int
 n:Int
 s:ByteArray
abbrev Bs:=List UInt8
def byI (n:Int):UInt8:=UInt8.ofNat (n % 256).toNat
theorem C9 (n:Int):(((byI n).toNat:Nat):Int)=n % 256:=by
 unfold byI
 have h1:(n % 256).toNat < 256:=by omega
 have h2:(UInt8.ofNat (n % 256).toNat).toNat=(n % 256).toNat:=by
  rw[UInt8.toNat_ofNat']
  omega
 rw[h2];omega
def be8 (n:Int):Bs:=[byI (n / 72057594037927936),byI (n / 281474976710656),byI (n / 1099511627776),byI (n / 4294967296),byI (n / 16777216),byI (n / 65536),byI (n / 256),byI n]
def fdE (f:RFd):Int :=
 if f.kind=3 then(if f.n≠0 then 21 else if f.s.size > 1024 then 22 else 0)
 else if f.s≠⟨#[]⟩∨f.n < 0 then 21
 else if f.kind=1∧f.n≤255 then 0 else if f.kind=4∧f.n≤1 then 0 else if f.kind=2∧f.n≤big then 0 else 21
def fdB (f:RFd):Bs:=if f.kind=3 then byI ((f.s.size:Int) / 256)::byI f.s.size::f.s.data.toList else if f.kind=2 then be8 f.n else [byI f.n]
def Hh:List RFd→Int
 | []=>0
 | f::l=>if fdE f=0 then Hh l else fdE f
def G4 (l:List RFd):Bs:=l.flatMap fdB
def Xv (l:List RFd):Bs:=if Hh l=0 then G4 l else []
theorem Za1 {f:RFd}(h:fdE f=0):(fdB f).length≤1026:=by
 unfold fdB
 split
 ·next hk =>
  unfold fdE at h
  rw[if_pos hk] at h
  have hs:f.s.data.toList.length=f.s.size:=by rw[Array.length_toList];rfl
  by_cases h1:f.n≠0
  ·rw[if_pos h1] at h;omega
  ·rw[if_neg h1] at h
   by_cases h2:f.s.size > 1024
   ·rw[if_pos h2] at h;omega
   ·simp only[List.length_cons,hs];omega
 ·split
  ·simp[be8]
  ·simp
theorem Z85 {l:List RFd}{i:Nat}{f:RFd}(hi:l[i]?=some f)(h:∀x∈l.take i,fdE x=0)(hf:fdE f≠0):Hh l=fdE f:=by
 induction l generalizing i with
 | nil=>simp at hi
 | cons x l ih =>
  cases i with
  | zero=>simp at hi;subst hi;unfold Hh;rw[if_neg hf]
  | succ i =>
   have h0:=h x (by simp)
   unfold Hh
   rw[if_pos h0]
   exact ih (by simpa using hi) fun y hy=>h y (by simp[hy])
theorem Iv {l:List RFd}(h:∀x∈l,fdE x=0):Hh l=0:=by
 induction l with
 | nil=>rfl
 | cons x l ih=>unfold Hh;rw[if_pos (h x (by simp))];exact ih fun y hy=>h y (by simp[hy])
theorem Ok {l:List RFd}(h:∀x∈l,fdE x=0):(G4 l).length≤1026 * l.length:=by
 induction l with
 | nil=>simp[G4]
 | cons x l ih =>
  have h1:=Za1 (h x (by simp))
  have h2:=ih fun y hy=>h y (by simp[hy])
  unfold G4 at *
  rw[List.flatMap_cons,List.length_append,List.length_cons];omega
end Go.Proofs.YtihfaocdpmmooaaGreat
namespace Go.Proofs.YtihfaocdpmmooaaGreat
def szN (k:Int):Nat:=if k=1∨k=4 then 1 else if k=2 then 8 else if k=3 then 2 else 0
def Ct (b:Bs):Nat:=b.foldl (fun v x=>v * 256+x.toNat) 0
def nxV (k:Int)(b:Bs):Nat:=Ct (b.take (szN k))
def nxE (k:Int)(b:Bs):Int :=
 if ¬(1≤k∧k≤4) then 21 else if b.length < szN k then 20
 else if(k=2∧big < nxV k b)∨(k=4∧1 < nxV k b) then 21
 else if k≠3 then 0 else if 1024 < nxV k b then 22 else if b.length < 2+nxV k b then 20 else 0
def nxF (k:Int)(b:Bs):RFd:=if k=3 then⟨3,0,⟨((b.drop 2).take (nxV k b)).toArray⟩⟩ else⟨k,nxV k b,⟨#[]⟩⟩
def nxN (k:Int)(b:Bs):Nat:=if k=3 then 2+nxV k b else szN k
def fd0:RFd:=⟨0,0,⟨#[]⟩⟩
structure Sm where
 e:Int
 l:List RFd
 n:Nat
def Ag:List Int→Bs→Sm
 | [],_=>⟨0,[],0⟩
 | k::ks,b=>if nxE k b≠0 then⟨nxE k b,[],0⟩ else
  if(Ag ks (b.drop (nxN k b))).e≠0 then⟨(Ag ks (b.drop (nxN k b))).e,[],0⟩
  else⟨0,nxF k b::(Ag ks (b.drop (nxN k b))).l,nxN k b+(Ag ks (b.drop (nxN k b))).n⟩
theorem D4 (k:Int)(ks:List Int)(b:Bs):Ag (k::ks) b=if nxE k b≠0 then⟨nxE k b,[],0⟩ else
  if(Ag ks (b.drop (nxN k b))).e≠0 then⟨(Ag ks (b.drop (nxN k b))).e,[],0⟩
  else⟨0,nxF k b::(Ag ks (b.drop (nxN k b))).l,nxN k b+(Ag ks (b.drop (nxN k b))).n⟩:=rfl
theorem R7 (b:Bs)(x:UInt8):Ct (b++[x])=Ct b * 256+x.toNat:=by unfold Ct;rw[List.foldl_append];rfl
theorem Ji (b:Bs):Ct b < 256 ^ b.length:=by
 have key:∀(b:Bs) (v:Nat) (m:Nat),v < m→b.foldl (fun v x=>v * 256+x.toNat) v < m * 256 ^ b.length:=by
  intro b
  induction b with
  | nil=>intro v m h;simpa using h
  | cons x b ih =>
   intro v m h
   have hx:=x.toNat_lt
   have:=ih (v * 256+x.toNat) (m * 256) (by omega)
   rw[List.foldl_cons,List.length_cons,Nat.pow_succ']
   rwa [←Nat.mul_assoc]
 have:=key b 0 1 (by omega)
 unfold Ct
 simpa using this
theorem Zca (k:Int):szN k≤8:=by unfold szN;split<;>(try split)<;>(try split)<;>omega
theorem Z9k {k:Int}(h:1≤k∧k≤4):1≤szN k:=by
 unfold szN
 split
 ·omega
 ·split
  ·omega
  ·split<;>omega
theorem Z62 {k:Int}{b:Bs}(h:nxE k b=0):nxN k b≤b.length∧1≤nxN k b:=by
 unfold nxE at h
 split at h
 ·cases h
 next h1 =>
 have h1:1≤k∧k≤4:=Decidable.not_not.1 h1
 split at h
 ·cases h
 next h2 =>
 split at h
 ·cases h
 unfold nxN
 by_cases h3:k=3
 ·rw[if_pos h3]
  rw[if_neg (by simp[h3])] at h
  split at h
  ·cases h
  split at h
  ·cases h
  omega
 ·rw[if_neg h3]
  have:=Z9k h1
  omega
theorem Cx:∀(ks:List Int) (b:Bs),(Ag ks b).n≤b.length∧((Ag ks b).e=0→(Ag ks b).l.length=ks.length)
 | [],b=>⟨Nat.zero_le _,fun _=>rfl⟩
 | k::ks,b=>by
  have ih:=Cx ks (b.drop (nxN k b))
  unfold Ag
  split
  ·next h=>exact⟨Nat.zero_le _,fun h0=>absurd h0 h⟩
  ·next h =>
   have h:=Z62 (Decidable.not_not.1 h)
   split
   ·next h2=>exact⟨Nat.zero_le _,fun h0=>absurd h0 h2⟩
   ·next h2 =>
    have h2:=Decidable.not_not.1 h2
    have i1:=ih.1
    rw[List.length_drop] at i1
    exact⟨by simp only;omega,fun _=>by simp[ih.2 h2]⟩
theorem Z5b:∀(ks:List Int) (b:Bs),(Ag ks b).e≠0→Ag ks b=⟨(Ag ks b).e,[],0⟩
 | [],b,h=>absurd rfl h
 | k::ks,b,h=>by
  unfold Ag at h⊢
  by_cases h1:nxE k b≠0
  ·rw[if_pos h1]
  ·rw[if_neg h1] at h⊢
   by_cases h2:(Ag ks (b.drop (nxN k b))).e≠0
   ·rw[if_pos h2]
   ·rw[if_neg h2] at h;exact absurd rfl h
theorem Pf:∀(ks:List Int) (b:Bs) (k:Int),(Ag ks b).e=0→Ag (ks++[k]) b=if nxE k (b.drop (Ag ks b).n)≠0 then⟨nxE k (b.drop (Ag ks b).n),[],0⟩ else⟨0,(Ag ks b).l++[nxF k (b.drop (Ag ks b).n)],(Ag ks b).n+nxN k (b.drop (Ag ks b).n)⟩
 | [],b,k,_=>by
  show Ag [k] b=if nxE k (b.drop 0)≠0 then⟨nxE k (b.drop 0),[],0⟩ else⟨0,[]++[nxF k (b.drop 0)],0+nxN k (b.drop 0)⟩
  rw[List.drop_zero]
  unfold Ag
  by_cases h:nxE k b≠0
  ·rw[if_pos h,if_pos h]
  ·rw[if_neg h,if_neg h,if_neg (fun h=>h rfl)]
   simp[Ag]
 | j::ks,b,k,h=>by
  by_cases h1:nxE j b≠0
  ·unfold Ag at h;rw[if_pos h1] at h;exact absurd h h1
  ·by_cases h2:(Ag ks (b.drop (nxN j b))).e≠0
   ·unfold Ag at h;rw[if_neg h1,if_pos h2] at h;exact absurd h h2
   ·have h2:=Decidable.not_not.1 h2
    have ih:=Pf ks (b.drop (nxN j b)) k h2
    have e:Ag (j::ks) b=⟨0,nxF j b::(Ag ks (b.drop (nxN j b))).l,nxN j b+(Ag ks (b.drop (nxN j b))).n⟩:=by
     conv=>lhs;unfold Ag
     rw[if_neg h1,if_neg (fun h=>h h2)]
    rw[e]
    show Ag (j::(ks++[k])) b=_
    conv=>lhs;unfold Ag
    rw[if_neg h1,ih,List.drop_drop]
    by_cases h3:nxE k (b.drop (nxN j b+(Ag ks (b.drop (nxN j b))).n))≠0
    ·rw[if_pos h3,if_pos h3];simp only;rw[if_pos h3]
    ·rw[if_neg h3,if_neg h3];simp[Nat.add_assoc]
theorem Vy:∀(ks:List Int) (b:Bs) (i:Nat) (k:Int),ks[i]?=some k→(Ag (ks.take i) b).e=0→nxE k (b.drop (Ag (ks.take i) b).n)≠0→Ag ks b=⟨nxE k (b.drop (Ag (ks.take i) b).n),[],0⟩
 | [],b,i,k,h,_,_=>by simp at h
 | j::ks,b,0,k,h,_,h2=>by
  simp at h
  subst h
  have h2:nxE j (b.drop 0)≠0:=h2
  show Ag (j::ks) b=⟨nxE j (b.drop 0),[],0⟩
  rw[List.drop_zero] at h2⊢
  unfold Ag
  rw[if_pos h2]
 | j::ks,b,i+1,k,h,h1,h2=>by
  have h:ks[i]?=some k:=by simpa using h
  rw[List.take_succ_cons] at h1 h2⊢
  by_cases g1:nxE j b≠0
  ·unfold Ag at h1;rw[if_pos g1] at h1;exact absurd h1 g1
  ·by_cases g2:(Ag (ks.take i) (b.drop (nxN j b))).e≠0
   ·unfold Ag at h1;rw[if_neg g1,if_pos g2] at h1;exact absurd h1 g2
   ·have g2:=Decidable.not_not.1 g2
    have e:(Ag (j::ks.take i) b).n=nxN j b+(Ag (ks.take i) (b.drop (nxN j b))).n:=by
     rw[D4,if_neg g1,if_neg (fun h=>h g2)]
    rw[e,←List.drop_drop] at h2⊢
    have ih:=Vy ks (b.drop (nxN j b)) i k h g2 h2
    conv=>lhs;unfold Ag
    rw[if_neg g1,ih,if_pos h2]
def L8 (ks:List Int)(b:Bs):Sm:=if(Ag ks b).e≠0 then⟨(Ag ks b).e,[],0⟩ else if(Ag ks b).n≠b.length then⟨21,[],0⟩ else Ag ks b
end Go.Proofs.YtihfaocdpmmooaaGreat
namespace Go.Proofs.YtihfaocdpmmooaaGreat
def eS:ByteArray:=⟨#[]⟩
def bI (b:Bool):Int:=if b then 1 else 0
def chF (c:RC)(v:Int):List RFd:=[⟨1,c.kind,eS⟩,⟨3,0,c.path⟩,⟨3,0,c.data⟩,⟨2,v,eS⟩,⟨4,bI c.ep,eS⟩,⟨4,bI c.sq,eS⟩]
def veP (v:Int):Int:=if v < big then v+1 else -1
def hdF (t:RT):List RFd:=[⟨1,t.kind,eS⟩,⟨2,t.se,eS⟩,⟨2,t.nu,eS⟩,⟨2,t.sp,eS⟩,⟨2,t.no,eS⟩,⟨1,t.l.length,eS⟩]
def Zgw (l:List RC):List RFd:=l.flatMap fun c=>chF c (veP c.ve)
def txF (t:RT):List RFd:=hdF t++Zgw t.l
def okT (t:RT):Prop:=t.l.length≤6∧Hh (txF t)=0∧(G4 (txF t)).length≤4096
instance (t:RT):Decidable (okT t):=inferInstanceAs (Decidable (_∧_∧_))
def eT (t:RT):Int:=if okT t then 0 else 110
theorem Cw:∀{l:List RFd},Hh l=0→∀f∈l,fdE f=0
 | [],_,f,hf=>by cases hf
 | x::l,h,f,hf=>by
  unfold Hh at h
  by_cases hx:fdE x=0
  ·rw[if_pos hx] at h
   rcases List.mem_cons.1 hf with rfl | hf
   ·exact hx
   ·exact Cw h f hf
  ·rw[if_neg hx] at h;exact absurd h hx
end Go.Proofs.YtihfaocdpmmooaaGreat
namespace Go.Proofs.YtihfaocdpmmooaaGreat
theorem O3:∀(ks ls:List Int) (b:Bs),(Ag ks b).e=0→Ag (ks++ls) b=if(Ag ls (b.drop (Ag ks b).n)).e≠0 then⟨(Ag ls (b.drop (Ag ks b).n)).e,[],0⟩ else⟨0,(Ag ks b).l++(Ag ls (b.drop (Ag ks b).n)).l,(Ag ks b).n+(Ag ls (b.drop (Ag ks b).n)).n⟩
 | [],ls,b,_=>by
  show Ag ls b=if(Ag ls (b.drop 0)).e≠0 then⟨(Ag ls (b.drop 0)).e,[],0⟩ else⟨0,[]++(Ag ls (b.drop 0)).l,0+(Ag ls (b.drop 0)).n⟩
  rw[List.drop_zero]
  by_cases h:(Ag ls b).e≠0
  ·rw[if_pos h];exact Z5b ls b h
  ·have h0:=Decidable.not_not.1 h
   rw[if_neg h,List.nil_append,Nat.zero_add]
   conv=>rhs;rw[←h0]
 | k::ks,ls,b,h=>by
  rw[D4] at h
  by_cases h1:nxE k b≠0
  ·rw[if_pos h1] at h;exact absurd h h1
  rw[if_neg h1] at h
  by_cases h2:(Ag ks (b.drop (nxN k b))).e≠0
  ·rw[if_pos h2] at h;exact absurd h h2
  have h2':=Decidable.not_not.1 h2
  have ih:=O3 ks ls (b.drop (nxN k b)) h2'
  have e:Ag (k::ks) b=⟨0,nxF k b::(Ag ks (b.drop (nxN k b))).l,nxN k b+(Ag ks (b.drop (nxN k b))).n⟩:=by rw[D4,if_neg h1,if_neg h2]
  rw[List.cons_append,e,D4,if_neg h1,ih,List.drop_drop]
  by_cases h3:(Ag ls (b.drop (nxN k b+(Ag ks (b.drop (nxN k b))).n))).e≠0
  ·rw[if_pos h3,if_pos h3,if_pos h3]
  ·rw[if_neg h3,if_neg h3,if_neg (fun h=>h rfl)]
   simp[Nat.add_assoc]
theorem Jz:∀(ks ls:List Int) (b:Bs),(Ag ks b).e≠0→Ag (ks++ls) b=⟨(Ag ks b).e,[],0⟩
 | [],ls,b,h=>absurd rfl h
 | k::ks,ls,b,h=>by
  rw[List.cons_append,D4,D4]
  by_cases h1:nxE k b≠0
  ·rw[if_pos h1,if_pos h1]
  rw[D4,if_neg h1] at h
  by_cases h2:(Ag ks (b.drop (nxN k b))).e≠0
  ·have ih:=Jz ks ls (b.drop (nxN k b)) h2
   rw[if_neg h1,if_neg h1,if_pos h2,ih,if_pos h2]
  ·rw[if_neg h2] at h;exact absurd rfl h
def kHd:List Int:=[1,2,2,2,2,1]
def kCh:List Int:=[1,3,3,2,4,4]
def Zgb:Nat→List Int
 | 0=>[]
 | i+1=>Zgb i++kCh
def Zfx (b:Bs):Int:=match(Ag kHd b).l with
 | [_,_,_,_,_,f]=>f.n
 | _=>0
def okD (b:Bs):Prop:=(Ag kHd b).e=0∧Zfx b≤6∧b.length≤4096∧(L8 (Zgb (Zfx b).toNat) (b.drop (Ag kHd b).n)).e=0
instance (b:Bs):Decidable (okD b):=inferInstanceAs (Decidable (_∧_∧_∧_))
def eD (b:Bs):Int:=if okD b then 0 else 110
end Go.Proofs.YtihfaocdpmmooaaGreat
namespace Go.Proofs.YtihfaocdpmmooaaGreat
theorem Nk (n:Int)(h0:0≤n)(h1:n≤big):(Ct (be8 n):Int)=n:=by
 have e:∀x:Int,((byI x).toNat:Int)=x % 256:=C9
 unfold big at h1
 have q1:=e n
 have q2:=e (n / 256)
 have q3:=e (n / 65536)
 have q4:=e (n / 16777216)
 have q5:=e (n / 4294967296)
 have q6:=e (n / 1099511627776)
 have q7:=e (n / 281474976710656)
 have q8:=e (n / 72057594037927936)
 show((((((((((0 * 256+(byI (n / 72057594037927936)).toNat) * 256+(byI (n / 281474976710656)).toNat) * 256+(byI (n / 1099511627776)).toNat) * 256+(byI (n / 4294967296)).toNat) * 256+(byI (n / 16777216)).toNat) * 256+(byI (n / 65536)).toNat) * 256+(byI (n / 256)).toNat) * 256+(byI n).toNat:Nat)):Int)=n
 have d1:n / 65536=n / 256 / 256:=by omega
 have d2:n / 16777216=n / 256 / 256 / 256:=by omega
 have d3:n / 4294967296=n / 256 / 256 / 256 / 256:=by omega
 have d4:n / 1099511627776=n / 256 / 256 / 256 / 256 / 256:=by omega
 have d5:n / 281474976710656=n / 256 / 256 / 256 / 256 / 256 / 256:=by omega
 have d6:n / 72057594037927936=n / 256 / 256 / 256 / 256 / 256 / 256 / 256:=by omega
 rw[d1] at q3⊢
 rw[d2] at q4⊢
 rw[d3] at q5⊢
 rw[d4] at q6⊢
 rw[d5] at q7⊢
 rw[d6] at q8⊢
 omega
theorem Vl (x:UInt8):Ct [x]=x.toNat:=by show 0 * 256+x.toNat=_;omega
theorem Jn {f:RFd}(h:fdE f=0):(f.kind=3∧f.n=0∧f.s.size≤1024)∨((f.kind=1∧f.n≤255∨f.kind=4∧f.n≤1∨f.kind=2∧f.n≤big)∧f.s=eS∧0≤f.n):=by
 unfold fdE at h
 by_cases hk:f.kind=3
 ·rw[if_pos hk] at h
  by_cases h1:f.n≠0
  ·rw[if_pos h1] at h;cases h
  ·rw[if_neg h1] at h
   by_cases h2:f.s.size > 1024
   ·rw[if_pos h2] at h;cases h
   ·exact .inl ⟨hk,Decidable.not_not.1 h1,by omega⟩
 ·rw[if_neg hk] at h
  by_cases h1:f.s≠⟨#[]⟩∨f.n < 0
  ·rw[if_pos h1] at h;cases h
  ·rw[if_neg h1] at h
   have hs:f.s=eS:=Decidable.not_not.1 fun hh=>h1 (.inl hh)
   have hn:0≤f.n:=Int.not_lt.1 fun hh=>h1 (.inr hh)
   refine .inr ⟨?_,hs,hn⟩
   by_cases a1:f.kind=1∧f.n≤255
   ·exact .inl a1
   ·rw[if_neg a1] at h
    by_cases a2:f.kind=4∧f.n≤1
    ·exact .inr (.inl a2)
    ·rw[if_neg a2] at h
     by_cases a3:f.kind=2∧f.n≤big
     ·exact .inr (.inr a3)
     ·rw[if_neg a3] at h;cases h
theorem Z9s {f:RFd}(h:fdE f=0):1≤f.kind∧f.kind≤4:=by
 rcases Jn h with⟨h,-⟩ | ⟨h,-⟩<;>omega
theorem Z4t:szN 2=8:=rfl
theorem Zd5:szN 3=2:=rfl
theorem Tg {α:Type}(a b:List α)(n:Nat)(h:a.length=n):(a++b).take n=a:=by
 subst h;exact List.take_left
theorem Vf {k:Int}{b:Bs}(hk:1≤k∧k≤4)(h3:k≠3)(hl:szN k≤b.length)(hv:¬((k=2∧big < nxV k b)∨(k=4∧1 < nxV k b))):nxE k b=0:=by
 unfold nxE
 rw[if_neg (fun h=>h hk),if_neg (by omega),if_neg hv,if_pos h3]
theorem Qn {f:RFd}{k n:Int}{s:ByteArray}(h1:f.kind=k)(h2:f.n=n)(h3:f.s=s):(⟨k,n,s⟩:RFd)=f:=by
 cases f;cases h1;cases h2;cases h3;rfl
theorem Zfi {f:RFd}(h:fdE f=0)(r:Bs):nxE f.kind (fdB f++r)=0∧nxF f.kind (fdB f++r)=f∧nxN f.kind (fdB f++r)=(fdB f).length:=by
 have hkr:=Z9s h
 rcases Jn h with⟨hk,hn,hs⟩ | ⟨hk,hs,hn⟩
 ·have hB:fdB f=byI ((f.s.size:Int) / 256)::byI f.s.size::f.s.data.toList:=by unfold fdB;rw[if_pos hk]
  have hsz:f.s.data.toList.length=f.s.size:=by rw[Array.length_toList];rfl
  have hV:nxV f.kind (fdB f++r)=f.s.size:=by
   unfold nxV
   rw[hk,hB]
   show(0 * 256+(byI ((f.s.size:Int) / 256)).toNat) * 256+(byI f.s.size).toNat=_
   have q1:=C9 ((f.s.size:Int) / 256)
   have q2:=C9 (f.s.size:Int)
   omega
  refine⟨?_,?_,?_⟩
  ·unfold nxE
   rw[if_neg (fun h=>h hkr),if_neg (by rw[hk,Zd5,hB];simp),if_neg (by omega),if_neg (fun h=>h hk),hV,if_neg (by omega),if_neg (by rw[hB];simp only[List.length_append,List.length_cons,hsz];omega)]
  ·unfold nxF
   rw[if_pos hk,hV]
   refine Qn hk hn ?_
   rw[hB]
   show f.s=⟨((f.s.data.toList++r).take f.s.size).toArray⟩
   rw[Tg _ _ _ hsz]
  ·unfold nxN
   rw[if_pos hk,hV,hB]
   simp only[List.length_cons,hsz];omega
 ·have h3:f.kind≠3:=by omega
  by_cases h2:f.kind=2
  ·have hB:fdB f=be8 f.n:=by unfold fdB;rw[if_neg h3,if_pos h2]
   have hL:(be8 f.n).length=8:=rfl
   have hV:((nxV f.kind (fdB f++r):Nat):Int)=f.n:=by
    unfold nxV
    rw[h2,Z4t,hB,Tg _ _ _ hL]
    exact Nk f.n hn (by omega)
   refine⟨Vf hkr h3 (by rw[h2,Z4t,hB,List.length_append,hL];omega) (by rw[hV];omega),?_,?_⟩
   ·unfold nxF;rw[if_neg h3,hV];exact Qn rfl rfl hs
   ·unfold nxN;rw[if_neg h3,h2,hB];rfl
  ·have hB:fdB f=[byI f.n]:=by unfold fdB;rw[if_neg h3,if_neg h2]
   have hz:szN f.kind=1:=by rcases hk with⟨h,-⟩ | ⟨h,-⟩ | ⟨h,-⟩<;>first | (rw[h];rfl) | omega
   have hV:((nxV f.kind (fdB f++r):Nat):Int)=f.n:=by
    unfold nxV
    rw[hz,hB]
    show((Ct [byI f.n]:Nat):Int)=f.n
    rw[Vl,C9];omega
   refine⟨Vf hkr h3 (by rw[hz,hB];simp) (by rw[hV];omega),?_,?_⟩
   ·unfold nxF;rw[if_neg h3,hV];exact Qn rfl rfl hs
   ·unfold nxN;rw[if_neg h3,hz,hB];rfl
theorem Rt:∀(l:List RFd) (r:Bs),Hh l=0→Ag (l.map RFd.kind) (G4 l++r)=⟨0,l,(G4 l).length⟩
 | [],r,_=>rfl
 | f::l,r,h=>by
  have hf:=Cw h f (by simp)
  have hl:Hh l=0:=by unfold Hh at h;rwa [if_pos hf] at h
  have eB:G4 (f::l)=fdB f++G4 l:=rfl
  obtain⟨n1,n2,n3⟩:=Zfi hf (G4 l++r)
  have ih:=Rt l r hl
  rw[eB,List.append_assoc,List.map_cons,D4,if_neg (fun h=>h n1),n2,n3,List.drop_left,ih,if_neg (fun h=>h rfl)]
  simp
theorem Zf4 {b:Bs}(h:8≤b.length):∃a1 a2 a3 a4 a5 a6 a7 a8,b.take 8=[a1,a2,a3,a4,a5,a6,a7,a8]:=by
 match b,h with
 | a1::a2::a3::a4::a5::a6::a7::a8::b,_=>exact⟨a1,a2,a3,a4,a5,a6,a7,a8,rfl⟩
theorem G8 {x:UInt8}{n:Int}(h:n % 256=x.toNat):byI n=x:=by
 have:=C9 n
 have h2:(byI n).toNat=x.toNat:=by omega
 exact UInt8.toNat_inj.1 h2
theorem Z5h (a1 a2 a3 a4 a5 a6 a7 a8:UInt8):be8 (Ct [a1,a2,a3,a4,a5,a6,a7,a8]:Nat)=[a1,a2,a3,a4,a5,a6,a7,a8]:=by
 have l1:=a1.toNat_lt
 have l2:=a2.toNat_lt
 have l3:=a3.toNat_lt
 have l4:=a4.toNat_lt
 have l5:=a5.toNat_lt
 have l6:=a6.toNat_lt
 have l7:=a7.toNat_lt
 have l8:=a8.toNat_lt
 have e:Ct [a1,a2,a3,a4,a5,a6,a7,a8]=(((((((0 * 256+a1.toNat) * 256+a2.toNat) * 256+a3.toNat) * 256+a4.toNat) * 256+a5.toNat) * 256+a6.toNat) * 256+a7.toNat) * 256+a8.toNat:=rfl
 unfold be8
 generalize Ct [a1,a2,a3,a4,a5,a6,a7,a8]=v at e
 rw[G8 (x:=a1) (by omega),G8 (x:=a2) (by omega),G8 (x:=a3) (by omega),G8 (x:=a4) (by omega),G8 (x:=a5) (by omega),G8 (x:=a6) (by omega),G8 (x:=a7) (by omega),G8 (x:=a8) (by omega)]
theorem Z3e (k:Int)(b:Bs):(nxF k b).kind=k:=by
 unfold nxF
 split
 ·next h=>exact h.symm
 ·rfl
theorem Zf6 {k:Int}{b:Bs}(h:nxE k b=0):fdE (nxF k b)=0∧fdB (nxF k b)=b.take (nxN k b):=by
 have h0:=h
 unfold nxE at h
 split at h
 ·cases h
 next h1 =>
 have h1:1≤k∧k≤4:=Decidable.not_not.1 h1
 split at h
 ·cases h
 next h2 =>
 split at h
 ·cases h
 next hv =>
 by_cases h3:k=3
 ·rw[if_neg (fun hh=>hh h3)] at h
  split at h
  ·cases h
  next hm =>
  split at h
  ·cases h
  next hl =>
  subst h3
  rw[Zd5] at h2
  have hsz:(((b.drop 2).take (nxV 3 b)).toArray:Array UInt8).size=nxV 3 b:=by rw[List.size_toArray,List.length_take,List.length_drop];omega
  have eF:nxF 3 b=⟨3,0,⟨((b.drop 2).take (nxV 3 b)).toArray⟩⟩:=rfl
  have eN:nxN 3 b=2+nxV 3 b:=rfl
  have hs2:(⟨((b.drop 2).take (nxV 3 b)).toArray⟩:ByteArray).size=nxV 3 b:=hsz
  rw[eF,eN]
  constructor
  ·unfold fdE
   rw[if_pos rfl,if_neg (fun hh=>hh rfl)]
   show(if(⟨((b.drop 2).take (nxV 3 b)).toArray⟩:ByteArray).size > 1024 then(22:Int) else 0)=0
   rw[hs2,if_neg (by omega)]
  ·show byI (((⟨((b.drop 2).take (nxV 3 b)).toArray⟩:ByteArray).size:Int) / 256)::byI (⟨((b.drop 2).take (nxV 3 b)).toArray⟩:ByteArray).size::(b.drop 2).take (nxV 3 b)=_
   rw[hs2]
   match b,h2,hm with
   | x::y::b,_,hm =>
    have l1:=x.toNat_lt
    have l2:=y.toNat_lt
    have e:nxV 3 (x::y::b)=(0 * 256+x.toNat) * 256+y.toNat:=rfl
    rw[show 2+nxV 3 (x::y::b)=nxV 3 (x::y::b)+1+1 by omega,List.take_succ_cons,List.take_succ_cons,G8 (x:=x) (by rw[e];omega),G8 (x:=y) (by rw[e];omega)]
    rfl
   | [],h2,_=>simp at h2
   | [_],h2,_=>simp at h2
 ·have eF:nxF k b=⟨k,nxV k b,eS⟩:=by unfold nxF;rw[if_neg h3];rfl
  have eN:nxN k b=szN k:=by unfold nxN;rw[if_neg h3]
  have hlt:=Ji (b.take (szN k))
  rw[List.length_take,Nat.min_eq_left (by omega)] at hlt
  rw[eF,eN]
  by_cases hk2:k=2
  ·subst hk2
   constructor
   ·unfold fdE
    rw[if_neg h3,if_neg (fun hh=>hh.elim (fun hh=>hh rfl) (fun hh=>by simp only at hh;omega)),if_neg (by simp),if_neg (by simp),if_pos ⟨rfl,by simp only;omega⟩]
   ·show be8 (nxV 2 b:Nat)=_
    obtain⟨a1,a2,a3,a4,a5,a6,a7,a8,e⟩:=Zf4 (b:=b) (by rw[Z4t] at h2;omega)
    unfold nxV
    rw[Z4t,e]
    exact Z5h a1 a2 a3 a4 a5 a6 a7 a8
  ·have hk14:k=1∨k=4:=by omega
   have hz:szN k=1:=by rcases hk14 with h | h<;>(rw[h];rfl)
   rw[hz] at hlt h2
   have hx:∃x,b.take 1=[x]:=by
    match b,h2 with
    | x::b,_=>exact⟨x,rfl⟩
    | [],h2=>simp at h2
   obtain⟨x,hx⟩:=hx
   have eV:nxV k b=x.toNat:=by unfold nxV;rw[hz,hx,Vl]
   have l1:=x.toNat_lt
   constructor
   ·unfold fdE
    rw[if_neg h3,if_neg (fun hh=>hh.elim (fun hh=>hh rfl) (fun hh=>by simp only at hh;omega))]
    simp only
    rw[eV] at hv⊢
    rcases hk14 with h | h
    ·rw[if_pos ⟨h,by omega⟩]
    ·rw[if_neg (by omega),if_pos ⟨h,by omega⟩]
   ·show(if k=3 then _ else if k=2 then _ else [byI (nxV k b:Nat)])=_
    rw[if_neg h3,if_neg hk2,hz,hx,G8 (x:=x) (by rw[eV];omega)]
theorem Ox:∀(ks:List Int) (b:Bs),(Ag ks b).e=0→Hh (Ag ks b).l=0∧G4 (Ag ks b).l=b.take (Ag ks b).n∧(Ag ks b).l.map RFd.kind=ks
 | [],b,_=>⟨rfl,by simp[Ag,G4],rfl⟩
 | k::ks,b,h=>by
  rw[D4] at h⊢
  by_cases h1:nxE k b≠0
  ·rw[if_pos h1] at h;exact absurd h h1
  rw[if_neg h1] at h⊢
  by_cases h2:(Ag ks (b.drop (nxN k b))).e≠0
  ·rw[if_pos h2] at h;exact absurd h h2
  rw[if_neg h2]
  obtain⟨i1,i2,i3⟩:=Ox ks (b.drop (nxN k b)) (Decidable.not_not.1 h2)
  obtain⟨f1,f2⟩:=Zf6 (Decidable.not_not.1 h1)
  refine⟨?_,?_,?_⟩
  ·show Hh (nxF k b::_)=0
   unfold Hh;rw[if_pos f1];exact i1
  ·show fdB (nxF k b)++G4 (Ag ks (b.drop (nxN k b))).l=b.take (nxN k b+_)
   rw[f2,i2,List.take_add]
  ·show(nxF k b).kind::_=_
   rw[Z3e,i3]
theorem Z5m {l m:List RFd}(h1:Hh l=0):Hh (l++m)=Hh m:=by
 induction l with
 | nil=>rfl
 | cons x l ih =>
  have hx:=Cw h1 x (by simp)
  have hl:Hh l=0:=by unfold Hh at h1;rwa [if_pos hx] at h1
  show(if fdE x=0 then Hh (l++m) else fdE x)=_
  rw[if_pos hx];exact ih hl
theorem Zg {l m:List RFd}(h:Hh (l++m)=0):Hh l=0 :=
 Iv fun x hx=>Cw h x (List.mem_append.2 (.inl hx))
theorem Vc (l m:List RFd):G4 (l++m)=G4 l++G4 m:=by unfold G4;rw[List.flatMap_append]
theorem No {ks:List Int}{b:Bs}(h:(L8 ks b).e=0):(Ag ks b).e=0∧(Ag ks b).n=b.length∧L8 ks b=Ag ks b:=by
 unfold L8 at h⊢
 by_cases h1:(Ag ks b).e≠0
 ·rw[if_pos h1] at h;exact absurd h h1
 rw[if_neg h1] at h⊢
 by_cases h2:(Ag ks b).n≠b.length
 ·rw[if_pos h2] at h;cases h
 ·rw[if_neg h2];exact⟨Decidable.not_not.1 h1,Decidable.not_not.1 h2,rfl⟩
theorem Tf {l:List RFd}(h:Hh l=0):L8 (l.map RFd.kind) (G4 l)=⟨0,l,(G4 l).length⟩:=by
 have:=Rt l [] h
 rw[List.append_nil] at this
 unfold L8
 rw[this,if_neg (fun h=>h rfl),if_neg (fun h=>h rfl)]
theorem T5 {f:RFd}{k:Int}(h:fdE f=0)(hk:f.kind=k)(h3:k≠3):(⟨k,f.n,eS⟩:RFd)=f:=by
 rcases Jn h with⟨h,-⟩ | ⟨-,h,-⟩
 ·omega
 ·exact Qn hk rfl h
theorem Zdk {f:RFd}(h:fdE f=0)(hk:f.kind=3):(⟨3,0,f.s⟩:RFd)=f:=by
 rcases Jn h with⟨h,h0,-⟩ | ⟨h,-⟩
 ·exact Qn hk h0 rfl
 ·omega
end Go.Proofs.YtihfaocdpmmooaaGreat

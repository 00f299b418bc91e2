
import Derived.Test.YtihfaocdpmmooaaGreatZM1
namespace Go.Proofs.YtihfaocdpmmooaaGreat
structure RFd where
 kind:Int
 n:Int
 s:ByteArray
abbrev Bs:=List UInt8
def byI (n:Int):UInt8:=UInt8.ofNat (n % 256).toNat
theorem Ci (n:Int):(((byI n).toNat:Nat):Int)=n % 256:=by
 unfold byI
 have h1:(n % 256).toNat < 256:=by omega
 have h2:(UInt8.ofNat (n % 256).toNat).toNat=(n % 256).toNat:=by
  rw[UInt8.toNat_ofNat']
  omega
 rw[h2];omega
def be8 (n:Int):Bs:=[byI (n / 72057594037927936),byI (n / 281474976710656),byI (n / 1099511627776),byI (n / 4294967296),byI (n / 16777216),byI (n / 65536),byI (n / 256),byI n]
def fdE (f:RFd):Int :=
 if f.kind=3 then(if f.n≠0 then 21 else if f.s.size > 1024 then 22 else 0)
 else if f.s≠⟨#[]⟩∨f.n < 0 then 21
 else if f.kind=1∧f.n≤255 then 0 else if f.kind=4∧f.n≤1 then 0 else if f.kind=2∧f.n≤big then 0 else 21
def fdB (f:RFd):Bs:=if f.kind=3 then byI ((f.s.size:Int) / 256)::byI f.s.size::f.s.data.toList else if f.kind=2 then be8 f.n else [byI f.n]
def M7:List RFd→Int
 | []=>0
 | f::l=>if fdE f=0 then M7 l else fdE f
def Hv (l:List RFd):Bs:=l.flatMap fdB
def Q4 (l:List RFd):Bs:=if M7 l=0 then Hv l else []
theorem Z16 {f:RFd}(h:fdE f=0):(fdB f).length≤1026:=by
 unfold fdB
 split
 ·next hk =>
  unfold fdE at h
  rw[db hk] at h
  have hs:f.s.data.toList.length=f.s.size:=by rw[cb];rfl
  by_cases h1:f.n≠0
  ·rw[db h1] at h;omega
  ·rw[da h1] at h
   by_cases h2:f.s.size > 1024
   ·rw[db h2] at h;omega
   ·simp only[List.length_cons,hs];omega
 ·split
  ·simp[be8]
  ·simp
theorem Yv {l:List RFd}{i:Nat}{f:RFd}(hi:l[i]?=some f)(h:∀x∈l.take i,fdE x=0)(hf:fdE f≠0):M7 l=fdE f:=by
 induction l generalizing i with
 | nil=>simp at hi
 | cons x l ih =>
  cases i with
  | zero=>simp at hi;subst hi;unfold M7;rw[da hf]
  | succ i =>
   have h0:=h x (by simp)
   unfold M7
   rw[db h0]
   exact ih (by simpa using hi) fun y hy=>h y (by simp[hy])
theorem J1 {l:List RFd}(h:∀x∈l,fdE x=0):M7 l=0:=by
 induction l with
 | nil=>rfl
 | cons x l ih=>unfold M7;rw[db (h x (by simp))];exact ih fun y hy=>h y (by simp[hy])
theorem L4 {l:List RFd}(h:∀x∈l,fdE x=0):(Hv l).length≤1026 * l.length:=by
 induction l with
 | nil=>simp[Hv]
 | cons x l ih =>
  have h1:=Z16 (h x (by simp))
  have h2:=ih fun y hy=>h y (by simp[hy])
  unfold Hv at *
  rw[List.flatMap_cons,aw,bc];omega
def szN (k:Int):Nat:=if k=1∨k=4 then 1 else if k=2 then 8 else if k=3 then 2 else 0
def D0 (b:Bs):Nat:=b.foldl (fun v x=>v * 256+x.toNat) 0
def nxV (k:Int)(b:Bs):Nat:=D0 (b.take (szN k))
def nxE (k:Int)(b:Bs):Int :=
 if ¬(1≤k∧k≤4) then 21 else if b.length < szN k then 20
 else if(k=2∧big < nxV k b)∨(k=4∧1 < nxV k b) then 21
 else if k≠3 then 0 else if 1024 < nxV k b then 22 else if b.length < 2+nxV k b then 20 else 0
def nxF (k:Int)(b:Bs):RFd:=if k=3 then⟨3,0,⟨((b.drop 2).take (nxV k b)).toArray⟩⟩ else⟨k,nxV k b,⟨#[]⟩⟩
def nxN (k:Int)(b:Bs):Nat:=if k=3 then 2+nxV k b else szN k
def fd0:RFd:=⟨0,0,⟨#[]⟩⟩
structure Sm where
 e:Int
 l:List RFd
 n:Nat
def Ah:List Int→Bs→Sm
 | [],_=>⟨0,[],0⟩
 | k::ks,b=>if nxE k b≠0 then⟨nxE k b,[],0⟩ else
  if(Ah ks (b.drop (nxN k b))).e≠0 then⟨(Ah ks (b.drop (nxN k b))).e,[],0⟩
  else⟨0,nxF k b::(Ah ks (b.drop (nxN k b))).l,nxN k b+(Ah ks (b.drop (nxN k b))).n⟩
theorem Dd (k:Int)(ks:List Int)(b:Bs):Ah (k::ks) b=if nxE k b≠0 then⟨nxE k b,[],0⟩ else
  if(Ah ks (b.drop (nxN k b))).e≠0 then⟨(Ah ks (b.drop (nxN k b))).e,[],0⟩
  else⟨0,nxF k b::(Ah ks (b.drop (nxN k b))).l,nxN k b+(Ah ks (b.drop (nxN k b))).n⟩:=rfl
theorem Lo (b:Bs)(x:UInt8):D0 (b++[x])=D0 b * 256+x.toNat:=by unfold D0;rw[List.foldl_append];rfl
theorem Gk (b:Bs):D0 b < 256 ^ b.length:=by
 have key:∀(b:Bs) (v:Nat) (m:Nat),v < m→b.foldl (fun v x=>v * 256+x.toNat) v < m * 256 ^ b.length:=by
  intro b
  induction b with
  | nil=>intro v m h;simpa using h
  | cons x b ih =>
   intro v m h
   have hx:=x.toNat_lt
   have:=ih (v * 256+x.toNat) (m * 256) (by omega)
   rw[List.foldl_cons,bc,Nat.pow_succ']
   rwa [←Nat.mul_assoc]
 have:=key b 0 1 (by omega)
 unfold D0
 simpa using this
theorem Z7a (k:Int):szN k≤8:=by unfold szN;split<;>(try split)<;>(try split)<;>omega
theorem Z9e {k:Int}(h:1≤k∧k≤4):1≤szN k:=by
 unfold szN
 split
 ·omega
 ·split
  ·omega
  ·split<;>omega
theorem Z7t {k:Int}{b:Bs}(h:nxE k b=0):nxN k b≤b.length∧1≤nxN k b:=by
 unfold nxE at h
 split at h
 ·cases h
 next h1 =>
 have h1:1≤k∧k≤4:=Decidable.not_not.1 h1
 split at h
 ·cases h
 next h2 =>
 split at h
 ·cases h
 unfold nxN
 by_cases h3:k=3
 ·rw[db h3]
  rw[da (by simp[h3])] at h
  split at h
  ·cases h
  split at h
  ·cases h
  omega
 ·rw[da h3]
  have:=Z9e h1
  omega
theorem Cg:∀(ks:List Int) (b:Bs),(Ah ks b).n≤b.length∧((Ah ks b).e=0→(Ah ks b).l.length=ks.length)
 | [],b=>⟨ah _,fun _=>rfl⟩
 | k::ks,b=>by
  have ih:=Cg ks (b.drop (nxN k b))
  unfold Ah
  split
  ·next h=>exact⟨ah _,fun h0=>dc h0 h⟩
  ·next h =>
   have h:=Z7t (Decidable.not_not.1 h)
   split
   ·next h2=>exact⟨ah _,fun h0=>dc h0 h2⟩
   ·next h2 =>
    have h2:=Decidable.not_not.1 h2
    have i1:=ih.1
    rw[ba] at i1
    exact⟨by simp only;omega,fun _=>by simp[ih.2 h2]⟩
theorem Z4q:∀(ks:List Int) (b:Bs),(Ah ks b).e≠0→Ah ks b=⟨(Ah ks b).e,[],0⟩
 | [],b,h=>dc rfl h
 | k::ks,b,h=>by
  unfold Ah at h⊢
  by_cases h1:nxE k b≠0
  ·rw[db h1]
  ·rw[da h1] at h⊢
   by_cases h2:(Ah ks (b.drop (nxN k b))).e≠0
   ·rw[db h2]
   ·rw[da h2] at h;exact dc rfl h
theorem Lg:∀(ks:List Int) (b:Bs) (k:Int),(Ah ks b).e=0→Ah (ks++[k]) b=if nxE k (b.drop (Ah ks b).n)≠0 then⟨nxE k (b.drop (Ah ks b).n),[],0⟩ else⟨0,(Ah ks b).l++[nxF k (b.drop (Ah ks b).n)],(Ah ks b).n+nxN k (b.drop (Ah ks b).n)⟩
 | [],b,k,_=>by
  show Ah [k] b=if nxE k (b.drop 0)≠0 then⟨nxE k (b.drop 0),[],0⟩ else⟨0,[]++[nxF k (b.drop 0)],0+nxN k (b.drop 0)⟩
  rw[List.drop_zero]
  unfold Ah
  by_cases h:nxE k b≠0
  ·rw[db h,db h]
  ·rw[da h,da h,da (fun h=>h rfl)]
   simp[Ah]
 | j::ks,b,k,h=>by
  by_cases h1:nxE j b≠0
  ·unfold Ah at h;rw[db h1] at h;exact dc h h1
  ·by_cases h2:(Ah ks (b.drop (nxN j b))).e≠0
   ·unfold Ah at h;rw[da h1,db h2] at h;exact dc h h2
   ·have h2:=Decidable.not_not.1 h2
    have ih:=Lg ks (b.drop (nxN j b)) k h2
    have e:Ah (j::ks) b=⟨0,nxF j b::(Ah ks (b.drop (nxN j b))).l,nxN j b+(Ah ks (b.drop (nxN j b))).n⟩:=by
     conv=>lhs;unfold Ah
     rw[da h1,da (fun h=>h h2)]
    rw[e]
    show Ah (j::(ks++[k])) b=_
    conv=>lhs;unfold Ah
    rw[da h1,ih,List.drop_drop]
    by_cases h3:nxE k (b.drop (nxN j b+(Ah ks (b.drop (nxN j b))).n))≠0
    ·rw[db h3,db h3];simp only;rw[db h3]
    ·rw[da h3,da h3];simp[Nat.add_assoc]
theorem Nv:∀(ks:List Int) (b:Bs) (i:Nat) (k:Int),ks[i]?=some k→(Ah (ks.take i) b).e=0→nxE k (b.drop (Ah (ks.take i) b).n)≠0→Ah ks b=⟨nxE k (b.drop (Ah (ks.take i) b).n),[],0⟩
 | [],b,i,k,h,_,_=>by simp at h
 | j::ks,b,0,k,h,_,h2=>by
  simp at h
  subst h
  have h2:nxE j (b.drop 0)≠0:=h2
  show Ah (j::ks) b=⟨nxE j (b.drop 0),[],0⟩
  rw[List.drop_zero] at h2⊢
  unfold Ah
  rw[db h2]
 | j::ks,b,i+1,k,h,h1,h2=>by
  have h:ks[i]?=some k:=by simpa using h
  rw[List.take_succ_cons] at h1 h2⊢
  by_cases g1:nxE j b≠0
  ·unfold Ah at h1;rw[db g1] at h1;exact dc h1 g1
  ·by_cases g2:(Ah (ks.take i) (b.drop (nxN j b))).e≠0
   ·unfold Ah at h1;rw[da g1,db g2] at h1;exact dc h1 g2
   ·have g2:=Decidable.not_not.1 g2
    have e:(Ah (j::ks.take i) b).n=nxN j b+(Ah (ks.take i) (b.drop (nxN j b))).n:=by
     rw[Dd,da g1,da (fun h=>h g2)]
    rw[e,←List.drop_drop] at h2⊢
    have ih:=Nv ks (b.drop (nxN j b)) i k h g2 h2
    conv=>lhs;unfold Ah
    rw[da g1,ih,db h2]
def Jy (ks:List Int)(b:Bs):Sm:=if(Ah ks b).e≠0 then⟨(Ah ks b).e,[],0⟩ else if(Ah ks b).n≠b.length then⟨21,[],0⟩ else Ah ks b
def eS:ByteArray:=⟨#[]⟩
def bI (b:Bool):Int:=if b then 1 else 0
def chF (c:RC)(v:Int):List RFd:=[⟨1,c.kind,eS⟩,⟨3,0,c.path⟩,⟨3,0,c.data⟩,⟨2,v,eS⟩,⟨4,bI c.ep,eS⟩,⟨4,bI c.sq,eS⟩]
def veP (v:Int):Int:=if v < big then v+1 else -1
def hdF (t:RT):List RFd:=[⟨1,t.kind,eS⟩,⟨2,t.se,eS⟩,⟨2,t.nu,eS⟩,⟨2,t.sp,eS⟩,⟨2,t.no,eS⟩,⟨1,t.l.length,eS⟩]
def Ziy (l:List RC):List RFd:=l.flatMap fun c=>chF c (veP c.ve)
def txF (t:RT):List RFd:=hdF t++Ziy t.l
def okT (t:RT):Prop:=t.l.length≤6∧M7 (txF t)=0∧(Hv (txF t)).length≤4096
instance (t:RT):Decidable (okT t):=inferInstanceAs (Decidable (_∧_∧_))
def eT (t:RT):Int:=if okT t then 0 else 110
theorem Ej:∀{l:List RFd},M7 l=0→∀f∈l,fdE f=0
 | [],_,f,hf=>by cases hf
 | x::l,h,f,hf=>by
  unfold M7 at h
  by_cases hx:fdE x=0
  ·rw[db hx] at h
   rcases bh.1 hf with rfl | hf
   ·exact hx
   ·exact Ej h f hf
  ·rw[da hx] at h;exact dc h hx
theorem P1:∀(ks ls:List Int) (b:Bs),(Ah ks b).e=0→Ah (ks++ls) b=if(Ah ls (b.drop (Ah ks b).n)).e≠0 then⟨(Ah ls (b.drop (Ah ks b).n)).e,[],0⟩ else⟨0,(Ah ks b).l++(Ah ls (b.drop (Ah ks b).n)).l,(Ah ks b).n+(Ah ls (b.drop (Ah ks b).n)).n⟩
 | [],ls,b,_=>by
  show Ah ls b=if(Ah ls (b.drop 0)).e≠0 then⟨(Ah ls (b.drop 0)).e,[],0⟩ else⟨0,[]++(Ah ls (b.drop 0)).l,0+(Ah ls (b.drop 0)).n⟩
  rw[List.drop_zero]
  by_cases h:(Ah ls b).e≠0
  ·rw[db h];exact Z4q ls b h
  ·have h0:=Decidable.not_not.1 h
   rw[da h,cx,ca]
   conv=>rhs;rw[←h0]
 | k::ks,ls,b,h=>by
  rw[Dd] at h
  by_cases h1:nxE k b≠0
  ·rw[db h1] at h;exact dc h h1
  rw[da h1] at h
  by_cases h2:(Ah ks (b.drop (nxN k b))).e≠0
  ·rw[db h2] at h;exact dc h h2
  have h2':=Decidable.not_not.1 h2
  have ih:=P1 ks ls (b.drop (nxN k b)) h2'
  have e:Ah (k::ks) b=⟨0,nxF k b::(Ah ks (b.drop (nxN k b))).l,nxN k b+(Ah ks (b.drop (nxN k b))).n⟩:=by rw[Dd,da h1,da h2]
  rw[c8,e,Dd,da h1,ih,List.drop_drop]
  by_cases h3:(Ah ls (b.drop (nxN k b+(Ah ks (b.drop (nxN k b))).n))).e≠0
  ·rw[db h3,db h3,db h3]
  ·rw[da h3,da h3,da (fun h=>h rfl)]
   simp[Nat.add_assoc]
theorem Ke:∀(ks ls:List Int) (b:Bs),(Ah ks b).e≠0→Ah (ks++ls) b=⟨(Ah ks b).e,[],0⟩
 | [],ls,b,h=>dc rfl h
 | k::ks,ls,b,h=>by
  rw[c8,Dd,Dd]
  by_cases h1:nxE k b≠0
  ·rw[db h1,db h1]
  rw[Dd,da h1] at h
  by_cases h2:(Ah ks (b.drop (nxN k b))).e≠0
  ·have ih:=Ke ks ls (b.drop (nxN k b)) h2
   rw[da h1,da h1,db h2,ih,db h2]
  ·rw[da h2] at h;exact dc rfl h
def kHd:List Int:=[1,2,2,2,2,1]
def kCh:List Int:=[1,3,3,2,4,4]
def Zhr:Nat→List Int
 | 0=>[]
 | i+1=>Zhr i++kCh
def Zhs (b:Bs):Int:=match(Ah kHd b).l with
 | [_,_,_,_,_,f]=>f.n
 | _=>0
def okD (b:Bs):Prop:=(Ah kHd b).e=0∧Zhs b≤6∧b.length≤4096∧(Jy (Zhr (Zhs b).toNat) (b.drop (Ah kHd b).n)).e=0
instance (b:Bs):Decidable (okD b):=inferInstanceAs (Decidable (_∧_∧_∧_))
def eD (b:Bs):Int:=if okD b then 0 else 110
theorem Ot (n:Int)(h0:0≤n)(h1:n≤big):(D0 (be8 n):Int)=n:=by
 have e:∀x:Int,((byI x).toNat:Int)=x % 256:=Ci
 unfold big at h1
 have q1:=e n
 have q2:=e (n / 256)
 have q3:=e (n / 65536)
 have q4:=e (n / 16777216)
 have q5:=e (n / 4294967296)
 have q6:=e (n / 1099511627776)
 have q7:=e (n / 281474976710656)
 have q8:=e (n / 72057594037927936)
 show((((((((((0 * 256+(byI (n / 72057594037927936)).toNat) * 256+(byI (n / 281474976710656)).toNat) * 256+(byI (n / 1099511627776)).toNat) * 256+(byI (n / 4294967296)).toNat) * 256+(byI (n / 16777216)).toNat) * 256+(byI (n / 65536)).toNat) * 256+(byI (n / 256)).toNat) * 256+(byI n).toNat:Nat)):Int)=n
 have d1:n / 65536=n / 256 / 256:=by omega
 have d2:n / 16777216=n / 256 / 256 / 256:=by omega
 have d3:n / 4294967296=n / 256 / 256 / 256 / 256:=by omega
 have d4:n / 1099511627776=n / 256 / 256 / 256 / 256 / 256:=by omega
 have d5:n / 281474976710656=n / 256 / 256 / 256 / 256 / 256 / 256:=by omega
 have d6:n / 72057594037927936=n / 256 / 256 / 256 / 256 / 256 / 256 / 256:=by omega
 rw[d1] at q3⊢
 rw[d2] at q4⊢
 rw[d3] at q5⊢
 rw[d4] at q6⊢
 rw[d5] at q7⊢
 rw[d6] at q8⊢
 omega
theorem Ve (x:UInt8):D0 [x]=x.toNat:=by show 0 * 256+x.toNat=_;omega
theorem Jf {f:RFd}(h:fdE f=0):(f.kind=3∧f.n=0∧f.s.size≤1024)∨((f.kind=1∧f.n≤255∨f.kind=4∧f.n≤1∨f.kind=2∧f.n≤big)∧f.s=eS∧0≤f.n):=by
 unfold fdE at h
 by_cases hk:f.kind=3
 ·rw[db hk] at h
  by_cases h1:f.n≠0
  ·rw[db h1] at h;cases h
  ·rw[da h1] at h
   by_cases h2:f.s.size > 1024
   ·rw[db h2] at h;cases h
   ·exact .inl ⟨hk,Decidable.not_not.1 h1,by omega⟩
 ·rw[da hk] at h
  by_cases h1:f.s≠⟨#[]⟩∨f.n < 0
  ·rw[db h1] at h;cases h
  ·rw[da h1] at h
   have hs:f.s=eS:=Decidable.not_not.1 fun hh=>h1 (.inl hh)
   have hn:0≤f.n:=Int.not_lt.1 fun hh=>h1 (.inr hh)
   refine .inr ⟨?_,hs,hn⟩
   by_cases a1:f.kind=1∧f.n≤255
   ·exact .inl a1
   ·rw[da a1] at h
    by_cases a2:f.kind=4∧f.n≤1
    ·exact .inr (.inl a2)
    ·rw[da a2] at h
     by_cases a3:f.kind=2∧f.n≤big
     ·exact .inr (.inr a3)
     ·rw[da a3] at h;cases h
theorem Zb8 {f:RFd}(h:fdE f=0):1≤f.kind∧f.kind≤4:=by
 rcases Jf h with⟨h,-⟩ | ⟨h,-⟩<;>omega
theorem Z6m:szN 2=8:=rfl
theorem Zfb:szN 3=2:=rfl
theorem Tr {α:Type}(a b:List α)(n:Nat)(h:a.length=n):(a++b).take n=a:=by
 subst h;exact List.take_left
theorem Uu {k:Int}{b:Bs}(hk:1≤k∧k≤4)(h3:k≠3)(hl:szN k≤b.length)(hv:¬((k=2∧big < nxV k b)∨(k=4∧1 < nxV k b))):nxE k b=0:=by
 unfold nxE
 rw[da (fun h=>h hk),da (by omega),da hv,db h3]
theorem R8 {f:RFd}{k n:Int}{s:ByteArray}(h1:f.kind=k)(h2:f.n=n)(h3:f.s=s):(⟨k,n,s⟩:RFd)=f:=by
 cases f;cases h1;cases h2;cases h3;rfl
theorem Zh3 {f:RFd}(h:fdE f=0)(r:Bs):nxE f.kind (fdB f++r)=0∧nxF f.kind (fdB f++r)=f∧nxN f.kind (fdB f++r)=(fdB f).length:=by
 have hkr:=Zb8 h
 rcases Jf h with⟨hk,hn,hs⟩ | ⟨hk,hs,hn⟩
 ·have hB:fdB f=byI ((f.s.size:Int) / 256)::byI f.s.size::f.s.data.toList:=by unfold fdB;rw[db hk]
  have hsz:f.s.data.toList.length=f.s.size:=by rw[cb];rfl
  have hV:nxV f.kind (fdB f++r)=f.s.size:=by
   unfold nxV
   rw[hk,hB]
   show(0 * 256+(byI ((f.s.size:Int) / 256)).toNat) * 256+(byI f.s.size).toNat=_
   have q1:=Ci ((f.s.size:Int) / 256)
   have q2:=Ci (f.s.size:Int)
   omega
  refine⟨?_,?_,?_⟩
  ·unfold nxE
   rw[da (fun h=>h hkr),da (by rw[hk,Zfb,hB];simp),da (by omega),da (fun h=>h hk),hV,da (by omega),da (by rw[hB];simp only[List.length_append,List.length_cons,hsz];omega)]
  ·unfold nxF
   rw[db hk,hV]
   refine R8 hk hn ?_
   rw[hB]
   show f.s=⟨((f.s.data.toList++r).take f.s.size).toArray⟩
   rw[Tr _ _ _ hsz]
  ·unfold nxN
   rw[db hk,hV,hB]
   simp only[List.length_cons,hsz];omega
 ·have h3:f.kind≠3:=by omega
  by_cases h2:f.kind=2
  ·have hB:fdB f=be8 f.n:=by unfold fdB;rw[da h3,db h2]
   have hL:(be8 f.n).length=8:=rfl
   have hV:((nxV f.kind (fdB f++r):Nat):Int)=f.n:=by
    unfold nxV
    rw[h2,Z6m,hB,Tr _ _ _ hL]
    exact Ot f.n hn (by omega)
   refine⟨Uu hkr h3 (by rw[h2,Z6m,hB,aw,hL];omega) (by rw[hV];omega),?_,?_⟩
   ·unfold nxF;rw[da h3,hV];exact R8 rfl rfl hs
   ·unfold nxN;rw[da h3,h2,hB];rfl
  ·have hB:fdB f=[byI f.n]:=by unfold fdB;rw[da h3,da h2]
   have hz:szN f.kind=1:=by rcases hk with⟨h,-⟩ | ⟨h,-⟩ | ⟨h,-⟩<;>first | (rw[h];rfl) | omega
   have hV:((nxV f.kind (fdB f++r):Nat):Int)=f.n:=by
    unfold nxV
    rw[hz,hB]
    show((D0 [byI f.n]:Nat):Int)=f.n
    rw[Ve,Ci];omega
   refine⟨Uu hkr h3 (by rw[hz,hB];simp) (by rw[hV];omega),?_,?_⟩
   ·unfold nxF;rw[da h3,hV];exact R8 rfl rfl hs
   ·unfold nxN;rw[da h3,hz,hB];rfl
theorem Zm:∀(l:List RFd) (r:Bs),M7 l=0→Ah (l.map RFd.kind) (Hv l++r)=⟨0,l,(Hv l).length⟩
 | [],r,_=>rfl
 | f::l,r,h=>by
  have hf:=Ej h f (by simp)
  have hl:M7 l=0:=by unfold M7 at h;rwa [db hf] at h
  have eB:Hv (f::l)=fdB f++Hv l:=rfl
  obtain⟨n1,n2,n3⟩:=Zh3 hf (Hv l++r)
  have ih:=Zm l r hl
  rw[eB,bw,cj,Dd,da (fun h=>h n1),n2,n3,List.drop_left,ih,da (fun h=>h rfl)]
  simp
theorem Zgj {b:Bs}(h:8≤b.length):∃a1 a2 a3 a4 a5 a6 a7 a8,b.take 8=[a1,a2,a3,a4,a5,a6,a7,a8]:=by
 match b,h with
 | a1::a2::a3::a4::a5::a6::a7::a8::b,_=>exact⟨a1,a2,a3,a4,a5,a6,a7,a8,rfl⟩
theorem Gj {x:UInt8}{n:Int}(h:n % 256=x.toNat):byI n=x:=by
 have:=Ci n
 have h2:(byI n).toNat=x.toNat:=by omega
 exact UInt8.toNat_inj.1 h2
theorem Z6q (a1 a2 a3 a4 a5 a6 a7 a8:UInt8):be8 (D0 [a1,a2,a3,a4,a5,a6,a7,a8]:Nat)=[a1,a2,a3,a4,a5,a6,a7,a8]:=by
 have l1:=a1.toNat_lt
 have l2:=a2.toNat_lt
 have l3:=a3.toNat_lt
 have l4:=a4.toNat_lt
 have l5:=a5.toNat_lt
 have l6:=a6.toNat_lt
 have l7:=a7.toNat_lt
 have l8:=a8.toNat_lt
 have e:D0 [a1,a2,a3,a4,a5,a6,a7,a8]=(((((((0 * 256+a1.toNat) * 256+a2.toNat) * 256+a3.toNat) * 256+a4.toNat) * 256+a5.toNat) * 256+a6.toNat) * 256+a7.toNat) * 256+a8.toNat:=rfl
 unfold be8
 generalize D0 [a1,a2,a3,a4,a5,a6,a7,a8]=v at e
 rw[Gj (x:=a1) (by omega),Gj (x:=a2) (by omega),Gj (x:=a3) (by omega),Gj (x:=a4) (by omega),Gj (x:=a5) (by omega),Gj (x:=a6) (by omega),Gj (x:=a7) (by omega),Gj (x:=a8) (by omega)]
theorem Z4j (k:Int)(b:Bs):(nxF k b).kind=k:=by
 unfold nxF
 split
 ·next h=>exact h.symm
 ·rfl
theorem Zh2 {k:Int}{b:Bs}(h:nxE k b=0):fdE (nxF k b)=0∧fdB (nxF k b)=b.take (nxN k b):=by
 have h0:=h
 unfold nxE at h
 split at h
 ·cases h
 next h1 =>
 have h1:1≤k∧k≤4:=Decidable.not_not.1 h1
 split at h
 ·cases h
 next h2 =>
 split at h
 ·cases h
 next hv =>
 by_cases h3:k=3
 ·rw[da (fun hh=>hh h3)] at h
  split at h
  ·cases h
  next hm =>
  split at h
  ·cases h
  next hl =>
  subst h3
  rw[Zfb] at h2
  have hsz:(((b.drop 2).take (nxV 3 b)).toArray:Array UInt8).size=nxV 3 b:=by rw[List.size_toArray,au,ba];omega
  have eF:nxF 3 b=⟨3,0,⟨((b.drop 2).take (nxV 3 b)).toArray⟩⟩:=rfl
  have eN:nxN 3 b=2+nxV 3 b:=rfl
  have hs2:(⟨((b.drop 2).take (nxV 3 b)).toArray⟩:ByteArray).size=nxV 3 b:=hsz
  rw[eF,eN]
  constructor
  ·unfold fdE
   rw[db rfl,da (fun hh=>hh rfl)]
   show(if(⟨((b.drop 2).take (nxV 3 b)).toArray⟩:ByteArray).size > 1024 then(22:Int) else 0)=0
   rw[hs2,da (by omega)]
  ·show byI (((⟨((b.drop 2).take (nxV 3 b)).toArray⟩:ByteArray).size:Int) / 256)::byI (⟨((b.drop 2).take (nxV 3 b)).toArray⟩:ByteArray).size::(b.drop 2).take (nxV 3 b)=_
   rw[hs2]
   match b,h2,hm with
   | x::y::b,_,hm =>
    have l1:=x.toNat_lt
    have l2:=y.toNat_lt
    have e:nxV 3 (x::y::b)=(0 * 256+x.toNat) * 256+y.toNat:=rfl
    rw[show 2+nxV 3 (x::y::b)=nxV 3 (x::y::b)+1+1 by omega,List.take_succ_cons,List.take_succ_cons,Gj (x:=x) (by rw[e];omega),Gj (x:=y) (by rw[e];omega)]
    rfl
   | [],h2,_=>simp at h2
   | [_],h2,_=>simp at h2
 ·have eF:nxF k b=⟨k,nxV k b,eS⟩:=by unfold nxF;rw[da h3];rfl
  have eN:nxN k b=szN k:=by unfold nxN;rw[da h3]
  have hlt:=Gk (b.take (szN k))
  rw[au,ce (by omega)] at hlt
  rw[eF,eN]
  by_cases hk2:k=2
  ·subst hk2
   constructor
   ·unfold fdE
    rw[da h3,da (fun hh=>hh.elim (fun hh=>hh rfl) (fun hh=>by simp only at hh;omega)),da (by simp),da (by simp),db ⟨rfl,by simp only;omega⟩]
   ·show be8 (nxV 2 b:Nat)=_
    obtain⟨a1,a2,a3,a4,a5,a6,a7,a8,e⟩:=Zgj (b:=b) (by rw[Z6m] at h2;omega)
    unfold nxV
    rw[Z6m,e]
    exact Z6q a1 a2 a3 a4 a5 a6 a7 a8
  ·have hk14:k=1∨k=4:=by omega
   have hz:szN k=1:=by rcases hk14 with h | h<;>(rw[h];rfl)
   rw[hz] at hlt h2
   have hx:∃x,b.take 1=[x]:=by
    match b,h2 with
    | x::b,_=>exact⟨x,rfl⟩
    | [],h2=>simp at h2
   obtain⟨x,hx⟩:=hx
   have eV:nxV k b=x.toNat:=by unfold nxV;rw[hz,hx,Ve]
   have l1:=x.toNat_lt
   constructor
   ·unfold fdE
    rw[da h3,da (fun hh=>hh.elim (fun hh=>hh rfl) (fun hh=>by simp only at hh;omega))]
    simp only
    rw[eV] at hv⊢
    rcases hk14 with h | h
    ·rw[db ⟨h,by omega⟩]
    ·rw[da (by omega),db ⟨h,by omega⟩]
   ·show(if k=3 then _ else if k=2 then _ else [byI (nxV k b:Nat)])=_
    rw[da h3,da hk2,hz,hx,Gj (x:=x) (by rw[eV];omega)]
theorem Nu:∀(ks:List Int) (b:Bs),(Ah ks b).e=0→M7 (Ah ks b).l=0∧Hv (Ah ks b).l=b.take (Ah ks b).n∧(Ah ks b).l.map RFd.kind=ks
 | [],b,_=>⟨rfl,by simp[Ah,Hv],rfl⟩
 | k::ks,b,h=>by
  rw[Dd] at h⊢
  by_cases h1:nxE k b≠0
  ·rw[db h1] at h;exact dc h h1
  rw[da h1] at h⊢
  by_cases h2:(Ah ks (b.drop (nxN k b))).e≠0
  ·rw[db h2] at h;exact dc h h2
  rw[da h2]
  obtain⟨i1,i2,i3⟩:=Nu ks (b.drop (nxN k b)) (Decidable.not_not.1 h2)
  obtain⟨f1,f2⟩:=Zh2 (Decidable.not_not.1 h1)
  refine⟨?_,?_,?_⟩
  ·show M7 (nxF k b::_)=0
   unfold M7;rw[db f1];exact i1
  ·show fdB (nxF k b)++Hv (Ah ks (b.drop (nxN k b))).l=b.take (nxN k b+_)
   rw[f2,i2,List.take_add]
  ·show(nxF k b).kind::_=_
   rw[Z4j,i3]
theorem Z6o (l m:List RFd):Hv (l++m)=Hv l++Hv m:=by unfold Hv;rw[List.flatMap_append]
theorem Lc {ks:List Int}{b:Bs}(h:(Jy ks b).e=0):(Ah ks b).e=0∧(Ah ks b).n=b.length∧Jy ks b=Ah ks b:=by
 unfold Jy at h⊢
 by_cases h1:(Ah ks b).e≠0
 ·rw[db h1] at h;exact dc h h1
 rw[da h1] at h⊢
 by_cases h2:(Ah ks b).n≠b.length
 ·rw[db h2] at h;cases h
 ·rw[da h2];exact⟨Decidable.not_not.1 h1,Decidable.not_not.1 h2,rfl⟩
theorem Z3y {l:List RFd}(h:M7 l=0):Jy (l.map RFd.kind) (Hv l)=⟨0,l,(Hv l).length⟩:=by
 have:=Zm l [] h
 rw[cy] at this
 unfold Jy
 rw[this,da (fun h=>h rfl),da (fun h=>h rfl)]
theorem Se {f:RFd}{k:Int}(h:fdE f=0)(hk:f.kind=k)(h3:k≠3):(⟨k,f.n,eS⟩:RFd)=f:=by
 rcases Jf h with⟨h,-⟩ | ⟨-,h,-⟩
 ·omega
 ·exact R8 hk rfl h
theorem Zeu {f:RFd}(h:fdE f=0)(hk:f.kind=3):(⟨3,0,f.s⟩:RFd)=f:=by
 rcases Jf h with⟨h,h0,-⟩ | ⟨h,-⟩
 ·exact R8 hk h0 rfl
 ·omega
end Go.Proofs.YtihfaocdpmmooaaGreat

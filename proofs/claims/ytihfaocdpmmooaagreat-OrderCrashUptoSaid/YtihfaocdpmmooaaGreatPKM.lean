
import Derived.Test.YtihfaocdpmmooaaGreatZM1
namespace Go.Proofs.YtihfaocdpmmooaaGreat
structure RFd where
 kind:Int
 n:Int
 s:ByteArray
abbrev Bs:=List UInt8
def byI (n:Int):UInt8:=UInt8.ofNat (n % 256).toNat
theorem Cy (n:Int):(((byI n).toNat:Nat):Int)=n % 256:=by
 unfold byI;have b:(n % 256).toNat < 256:=by omega
 have a:(UInt8.ofNat (n % 256).toNat).toNat=(n % 256).toNat:=by rw[UInt8.toNat_ofNat'];omega
 rw[a];omega
def be8 (n:Int):Bs:=[byI (n / 72057594037927936),byI (n / 281474976710656),byI (n / 1099511627776),byI (n / 4294967296),byI (n / 16777216),byI (n / 65536),byI (n / 256),byI n]
def fdE (f:RFd):Int :=
 if f.kind=3 then(if f.n≠0 then 21 else if f.s.size > 1024 then 22 else 0)
 else if f.s≠⟨#[]⟩∨f.n < 0 then 21
 else if f.kind=1∧f.n≤255 then 0 else if f.kind=4∧f.n≤1 then 0 else if f.kind=2∧f.n≤big then 0 else 21
def fdB (f:RFd):Bs:=if f.kind=3 then byI ((f.s.size:Int) / 256)::byI f.s.size::f.s.data.toList else if f.kind=2 then be8 f.n else [byI f.n]
def Ie:List RFd→Int
 | []=>0
 | f::l=>if fdE f=0 then Ie l else fdE f
def Gv (l:List RFd):Bs:=l.flatMap fdB
def Sv (l:List RFd):Bs:=if Ie l=0 then Gv l else []
theorem Z2v {f:RFd}(h:fdE f=0):(fdB f).length≤1026:=by
 unfold fdB;split
 ·next b =>
  unfold fdE at h;rw[dc b] at h;have c:f.s.data.toList.length=f.s.size:=by rw[cd];rfl
  by_cases a:f.n≠0
  ·rw[dc a] at h;omega
  ·rw[db a] at h;by_cases d:f.s.size > 1024
   ·rw[dc d] at h;omega
   ·simp only[List.length_cons,c];omega
 ·split
  ·simp[be8]
  ·simp
theorem Z3c {l:List RFd}{i:Nat}{f:RFd}(hi:l[i]?=some f)(h:∀x∈l.take i,fdE x=0)(hf:fdE f≠0):Ie l=fdE f:=by
 induction l generalizing i with
 | nil=>simp at hi
 | cons x l ih =>
  cases i with
  | zero=>simp at hi;subst hi;unfold Ie;rw[db hf]
  | succ i =>
   have a:=h x (by simp);unfold Ie;rw[dc a];exact ih (by simpa using hi) fun y hy=>h y (by simp[hy])
theorem Hu {l:List RFd}(h:∀x∈l,fdE x=0):Ie l=0:=by
 induction l with
 | nil=>rfl
 | cons x l ih=>unfold Ie;rw[dc (h x (by simp))];exact ih fun y hy=>h y (by simp[hy])
theorem Li {l:List RFd}(h:∀x∈l,fdE x=0):(Gv l).length≤1026 * l.length:=by
 induction l with
 | nil=>simp[Gv]
 | cons x l ih =>
  have a:=Z2v (h x (by simp));have b:=ih fun y hy=>h y (by simp[hy]);unfold Gv at *;rw[List.flatMap_cons,ax,bd];omega
def szN (k:Int):Nat:=if k=1∨k=4 then 1 else if k=2 then 8 else if k=3 then 2 else 0
def Dc (b:Bs):Nat:=b.foldl (fun v x=>v * 256+x.toNat) 0
def nxV (k:Int)(b:Bs):Nat:=Dc (b.take (szN k))
def nxE (k:Int)(b:Bs):Int :=
 if ¬(1≤k∧k≤4) then 21 else if b.length < szN k then 20
 else if(k=2∧big < nxV k b)∨(k=4∧1 < nxV k b) then 21
 else if k≠3 then 0 else if 1024 < nxV k b then 22 else if b.length < 2+nxV k b then 20 else 0
def nxF (k:Int)(b:Bs):RFd:=if k=3 then⟨3,0,⟨((b.drop 2).take (nxV k b)).toArray⟩⟩ else⟨k,nxV k b,⟨#[]⟩⟩
def nxN (k:Int)(b:Bs):Nat:=if k=3 then 2+nxV k b else szN k
def fd0:RFd:=⟨0,0,⟨#[]⟩⟩
structure Sm where
 e:Int
 l:List RFd
 n:Nat
def Aj:List Int→Bs→Sm
 | [],_=>⟨0,[],0⟩
 | k::ks,b=>if nxE k b≠0 then⟨nxE k b,[],0⟩ else
  if(Aj ks (b.drop (nxN k b))).e≠0 then⟨(Aj ks (b.drop (nxN k b))).e,[],0⟩
  else⟨0,nxF k b::(Aj ks (b.drop (nxN k b))).l,nxN k b+(Aj ks (b.drop (nxN k b))).n⟩
theorem Du (k:Int)(ks:List Int)(b:Bs):Aj (k::ks) b=if nxE k b≠0 then⟨nxE k b,[],0⟩ else
  if(Aj ks (b.drop (nxN k b))).e≠0 then⟨(Aj ks (b.drop (nxN k b))).e,[],0⟩
  else⟨0,nxF k b::(Aj ks (b.drop (nxN k b))).l,nxN k b+(Aj ks (b.drop (nxN k b))).n⟩:=rfl
theorem Mn (b:Bs)(x:UInt8):Dc (b++[x])=Dc b * 256+x.toNat:=by unfold Dc;rw[List.foldl_append];rfl
theorem Hf (b:Bs):Dc b < 256 ^ b.length:=by
 have key:∀(b:Bs) (v:Nat) (m:Nat),v < m→b.foldl (fun v x=>v * 256+x.toNat) v < m * 256 ^ b.length:=by
  intro b
  induction b with
  | nil=>intro v m h;simpa using h
  | cons x b ih =>
   intro v m h;have a:=x.toNat_lt;have:=ih (v * 256+x.toNat) (m * 256) (by omega);rw[List.foldl_cons,bd,Nat.pow_succ']
   rwa [←Nat.mul_assoc]
 have:=key b 0 1 (by omega);unfold Dc;simpa using this
theorem Za1 (k:Int):szN k≤8:=by unfold szN;split<;>(try split)<;>(try split)<;>omega
theorem Zd2 {k:Int}(h:1≤k∧k≤4):1≤szN k:=by
 unfold szN;split
 ·omega
 ·split
  ·omega
  ·split<;>omega
theorem Zaz {k:Int}{b:Bs}(h:nxE k b=0):nxN k b≤b.length∧1≤nxN k b:=by
 unfold nxE at h;split at h
 ·cases h
 next a =>
 have a:1≤k∧k≤4:=Decidable.not_not.1 a;split at h
 ·cases h
 next d =>
 split at h
 ·cases h
 unfold nxN;by_cases c:k=3
 ·rw[dc c];rw[db (by simp[c])] at h;split at h
  ·cases h
  split at h
  ·cases h
  omega
 ·rw[db c];have:=Zd2 a;omega
theorem Cu:∀(ks:List Int) (b:Bs),(Aj ks b).n≤b.length∧((Aj ks b).e=0→(Aj ks b).l.length=ks.length)
 | [],b=>⟨ah _,fun _=>rfl⟩
 | k::ks,b=>by
  have d:=Cu ks (b.drop (nxN k b));unfold Aj;split
  ·next h=>exact⟨ah _,fun c=>de c h⟩
  ·next h =>
   have h:=Zaz (Decidable.not_not.1 h);split
   ·next a=>exact⟨ah _,fun c=>de c a⟩
   ·next a =>
    have a:=Decidable.not_not.1 a;have f:=d.1;rw[bc] at f;exact⟨by simp only;omega,fun _=>by simp[d.2 a]⟩
theorem Z9c:∀(ks:List Int) (b:Bs),(Aj ks b).e≠0→Aj ks b=⟨(Aj ks b).e,[],0⟩
 | [],b,h=>de rfl h
 | k::ks,b,h=>by
  unfold Aj at h⊢;by_cases a:nxE k b≠0
  ·rw[dc a]
  ·rw[db a] at h⊢;by_cases c:(Aj ks (b.drop (nxN k b))).e≠0
   ·rw[dc c]
   ·rw[db c] at h;exact de rfl h
theorem My:∀(ks:List Int) (b:Bs) (k:Int),(Aj ks b).e=0→Aj (ks++[k]) b=if nxE k (b.drop (Aj ks b).n)≠0 then⟨nxE k (b.drop (Aj ks b).n),[],0⟩ else⟨0,(Aj ks b).l++[nxF k (b.drop (Aj ks b).n)],(Aj ks b).n+nxN k (b.drop (Aj ks b).n)⟩
 | [],b,k,_=>by
  show Aj [k] b=if nxE k (b.drop 0)≠0 then⟨nxE k (b.drop 0),[],0⟩ else⟨0,[]++[nxF k (b.drop 0)],0+nxN k (b.drop 0)⟩;rw[List.drop_zero];unfold Aj;by_cases h:nxE k b≠0
  ·rw[dc h,dc h]
  ·rw[db h,db h,db (fun h=>h rfl)];simp[Aj]
 | j::ks,b,k,h=>by
  by_cases c:nxE j b≠0
  ·unfold Aj at h;rw[dc c] at h;exact de h c
  ·by_cases a:(Aj ks (b.drop (nxN j b))).e≠0
   ·unfold Aj at h;rw[db c,dc a] at h;exact de h a
   ·have a:=Decidable.not_not.1 a;have f:=My ks (b.drop (nxN j b)) k a;have e:Aj (j::ks) b=⟨0,nxF j b::(Aj ks (b.drop (nxN j b))).l,nxN j b+(Aj ks (b.drop (nxN j b))).n⟩:=by
     conv=>lhs;unfold Aj
     rw[db c,db (fun h=>h a)]
    rw[e];show Aj (j::(ks++[k])) b=_
    conv=>lhs;unfold Aj
    rw[db c,f,List.drop_drop];by_cases d:nxE k (b.drop (nxN j b+(Aj ks (b.drop (nxN j b))).n))≠0
    ·rw[dc d,dc d];simp only;rw[dc d]
    ·rw[db d,db d];simp[Nat.add_assoc]
theorem Oy:∀(ks:List Int) (b:Bs) (i:Nat) (k:Int),ks[i]?=some k→(Aj (ks.take i) b).e=0→nxE k (b.drop (Aj (ks.take i) b).n)≠0→Aj ks b=⟨nxE k (b.drop (Aj (ks.take i) b).n),[],0⟩
 | [],b,i,k,h,_,_=>by simp at h
 | j::ks,b,0,k,h,_,a=>by simp at h;subst h;have a:nxE j (b.drop 0)≠0:=a;show Aj (j::ks) b=⟨nxE j (b.drop 0),[],0⟩;rw[List.drop_zero] at a⊢;unfold Aj;rw[dc a]
 | j::ks,b,i+1,k,h,h1,a=>by
  have h:ks[i]?=some k:=by simpa using h
  rw[List.take_succ_cons] at h1 a⊢;by_cases d:nxE j b≠0
  ·unfold Aj at h1;rw[dc d] at h1;exact de h1 d
  ·by_cases c:(Aj (ks.take i) (b.drop (nxN j b))).e≠0
   ·unfold Aj at h1;rw[db d,dc c] at h1;exact de h1 c
   ·have c:=Decidable.not_not.1 c;have e:(Aj (j::ks.take i) b).n=nxN j b+(Aj (ks.take i) (b.drop (nxN j b))).n:=by
     rw[Du,db d,db (fun h=>h c)]
    rw[e,←List.drop_drop] at a⊢;have f:=Oy ks (b.drop (nxN j b)) i k h c a
    conv=>lhs;unfold Aj
    rw[db d,f,dc a]
def K2 (ks:List Int)(b:Bs):Sm:=if(Aj ks b).e≠0 then⟨(Aj ks b).e,[],0⟩ else if(Aj ks b).n≠b.length then⟨21,[],0⟩ else Aj ks b
def eS:ByteArray:=⟨#[]⟩
def bI (b:Bool):Int:=if b then 1 else 0
def chF (c:RC)(v:Int):List RFd:=[⟨1,c.kind,eS⟩,⟨3,0,c.path⟩,⟨3,0,c.data⟩,⟨2,v,eS⟩,⟨4,bI c.ep,eS⟩,⟨4,bI c.sq,eS⟩]
def veP (v:Int):Int:=if v < big then v+1 else -1
def hdF (t:RT):List RFd:=[⟨1,t.kind,eS⟩,⟨2,t.se,eS⟩,⟨2,t.nu,eS⟩,⟨2,t.sp,eS⟩,⟨2,t.no,eS⟩,⟨1,t.l.length,eS⟩]
def Zlc (l:List RC):List RFd:=l.flatMap fun c=>chF c (veP c.ve)
def txF (t:RT):List RFd:=hdF t++Zlc t.l
def okT (t:RT):Prop:=t.l.length≤6∧Ie (txF t)=0∧(Gv (txF t)).length≤4096
instance (t:RT):Decidable (okT t):=inferInstanceAs (Decidable (_∧_∧_))
def eT (t:RT):Int:=if okT t then 0 else 110
theorem Dz:∀{l:List RFd},Ie l=0→∀f∈l,fdE f=0
 | [],_,f,hf=>by cases hf
 | x::l,h,f,hf=>by
  unfold Ie at h;by_cases a:fdE x=0
  ·rw[dc a] at h;rcases bi.1 hf with rfl | hf
   ·exact a
   ·exact Dz h f hf
  ·rw[db a] at h;exact de h a
theorem Ot:∀(ks a:List Int) (b:Bs),(Aj ks b).e=0→Aj (ks++a) b=if(Aj a (b.drop (Aj ks b).n)).e≠0 then⟨(Aj a (b.drop (Aj ks b).n)).e,[],0⟩ else⟨0,(Aj ks b).l++(Aj a (b.drop (Aj ks b).n)).l,(Aj ks b).n+(Aj a (b.drop (Aj ks b).n)).n⟩
 | [],a,b,_=>by
  show Aj a b=if(Aj a (b.drop 0)).e≠0 then⟨(Aj a (b.drop 0)).e,[],0⟩ else⟨0,[]++(Aj a (b.drop 0)).l,0+(Aj a (b.drop 0)).n⟩;rw[List.drop_zero];by_cases h:(Aj a b).e≠0
  ·rw[dc h];exact Z9c a b h
  ·have i:=Decidable.not_not.1 h;rw[db h,cy,cb]
   conv=>rhs;rw[←i]
 | k::ks,a,b,h=>by
  rw[Du] at h;by_cases c:nxE k b≠0
  ·rw[dc c] at h;exact de h c
  rw[db c] at h;by_cases f:(Aj ks (b.drop (nxN k b))).e≠0
  ·rw[dc f] at h;exact de h f
  have g:=Decidable.not_not.1 f;have j:=Ot ks a (b.drop (nxN k b)) g;have e:Aj (k::ks) b=⟨0,nxF k b::(Aj ks (b.drop (nxN k b))).l,nxN k b+(Aj ks (b.drop (nxN k b))).n⟩:=by rw[Du,db c,db f]
  rw[c9,e,Du,db c,j,List.drop_drop];by_cases d:(Aj a (b.drop (nxN k b+(Aj ks (b.drop (nxN k b))).n))).e≠0
  ·rw[dc d,dc d,dc d]
  ·rw[db d,db d,db (fun h=>h rfl)];simp[Nat.add_assoc]
theorem L5:∀(ks c:List Int) (b:Bs),(Aj ks b).e≠0→Aj (ks++c) b=⟨(Aj ks b).e,[],0⟩
 | [],c,b,h=>de rfl h
 | k::ks,c,b,h=>by
  rw[c9,Du,Du];by_cases a:nxE k b≠0
  ·rw[dc a,dc a]
  rw[Du,db a] at h;by_cases d:(Aj ks (b.drop (nxN k b))).e≠0
  ·have f:=L5 ks c (b.drop (nxN k b)) d;rw[db a,db a,dc d,f,dc d]
  ·rw[db d] at h;exact de rfl h
def kHd:List Int:=[1,2,2,2,2,1]
def kCh:List Int:=[1,3,3,2,4,4]
def Zkr:Nat→List Int
 | 0=>[]
 | i+1=>Zkr i++kCh
def Zl6 (b:Bs):Int:=match(Aj kHd b).l with
 | [_,_,_,_,_,f]=>f.n
 | _=>0
def okD (b:Bs):Prop:=(Aj kHd b).e=0∧Zl6 b≤6∧b.length≤4096∧(K2 (Zkr (Zl6 b).toNat) (b.drop (Aj kHd b).n)).e=0
instance (b:Bs):Decidable (okD b):=inferInstanceAs (Decidable (_∧_∧_∧_))
def eD (b:Bs):Int:=if okD b then 0 else 110
theorem P0 (n:Int)(q:0≤n)(g:n≤big):(Dc (be8 n):Int)=n:=by
 have e:∀x:Int,((byI x).toNat:Int)=x % 256:=Cy;unfold big at g;have r:=e n;have p:=e (n / 256);have h:=e (n / 65536);have k:=e (n / 16777216);have l:=e (n / 4294967296);have j:=e (n / 1099511627776);have a:=e (n / 281474976710656);have b:=e (n / 72057594037927936);show((((((((((0 * 256+(byI (n / 72057594037927936)).toNat) * 256+(byI (n / 281474976710656)).toNat) * 256+(byI (n / 1099511627776)).toNat) * 256+(byI (n / 4294967296)).toNat) * 256+(byI (n / 16777216)).toNat) * 256+(byI (n / 65536)).toNat) * 256+(byI (n / 256)).toNat) * 256+(byI n).toNat:Nat)):Int)=n;have o:n / 65536=n / 256 / 256:=by omega
 have d:n / 16777216=n / 256 / 256 / 256:=by omega
 have f:n / 4294967296=n / 256 / 256 / 256 / 256:=by omega
 have m:n / 1099511627776=n / 256 / 256 / 256 / 256 / 256:=by omega
 have c:n / 281474976710656=n / 256 / 256 / 256 / 256 / 256 / 256:=by omega
 have i:n / 72057594037927936=n / 256 / 256 / 256 / 256 / 256 / 256 / 256:=by omega
 rw[o] at h⊢;rw[d] at k⊢;rw[f] at l⊢;rw[m] at j⊢;rw[c] at a⊢;rw[i] at b⊢;omega
theorem Wv (x:UInt8):Dc [x]=x.toNat:=by show 0 * 256+x.toNat=_;omega
theorem Ke {f:RFd}(h:fdE f=0):(f.kind=3∧f.n=0∧f.s.size≤1024)∨((f.kind=1∧f.n≤255∨f.kind=4∧f.n≤1∨f.kind=2∧f.n≤big)∧f.s=eS∧0≤f.n):=by
 unfold fdE at h;by_cases b:f.kind=3
 ·rw[dc b] at h;by_cases a:f.n≠0
  ·rw[dc a] at h;cases h
  ·rw[db a] at h;by_cases i:f.s.size > 1024
   ·rw[dc i] at h;cases h
   ·exact .inl ⟨b,Decidable.not_not.1 a,by omega⟩
 ·rw[db b] at h;by_cases a:f.s≠⟨#[]⟩∨f.n < 0
  ·rw[dc a] at h;cases h
  ·rw[db a] at h;have g:f.s=eS:=Decidable.not_not.1 fun c=>a (.inl c);have e:0≤f.n:=Int.not_lt.1 fun c=>a (.inr c);refine .inr ⟨?_,g,e⟩;by_cases a1:f.kind=1∧f.n≤255
   ·exact .inl a1
   ·rw[db a1] at h;by_cases a2:f.kind=4∧f.n≤1
    ·exact .inr (.inl a2)
    ·rw[db a2] at h;by_cases d:f.kind=2∧f.n≤big
     ·exact .inr (.inr d)
     ·rw[db d] at h;cases h
theorem Zb6 {f:RFd}(h:fdE f=0):1≤f.kind∧f.kind≤4:=by rcases Ke h with⟨h,-⟩ | ⟨h,-⟩<;>omega
theorem Z72:szN 2=8:=rfl
theorem Zgt:szN 3=2:=rfl
theorem Ye {α:Type}(a b:List α)(n:Nat)(h:a.length=n):(a++b).take n=a:=by subst h;exact List.take_left
theorem Wt {k:Int}{b:Bs}(a:1≤k∧k≤4)(d:k≠3)(e:szN k≤b.length)(c:¬((k=2∧big < nxV k b)∨(k=4∧1 < nxV k b))):nxE k b=0:=by unfold nxE;rw[db (fun h=>h a),db (by omega),db c,dc d]
theorem Sg {f:RFd}{k n:Int}{s:ByteArray}(a:f.kind=k)(c:f.n=n)(b:f.s=s):(⟨k,n,s⟩:RFd)=f:=by cases f;cases a;cases c;cases b;rfl
theorem Zjc {f:RFd}(h:fdE f=0)(r:Bs):nxE f.kind (fdB f++r)=0∧nxF f.kind (fdB f++r)=f∧nxN f.kind (fdB f++r)=(fdB f).length:=by
 have e:=Zb6 h;rcases Ke h with⟨b,hn,hs⟩ | ⟨b,hs,hn⟩
 ·have a:fdB f=byI ((f.s.size:Int) / 256)::byI f.s.size::f.s.data.toList:=by unfold fdB;rw[dc b]
  have g:f.s.data.toList.length=f.s.size:=by rw[cd];rfl
  have c:nxV f.kind (fdB f++r)=f.s.size:=by unfold nxV;rw[b,a];show(0 * 256+(byI ((f.s.size:Int) / 256)).toNat) * 256+(byI f.s.size).toNat=_;have m:=Cy ((f.s.size:Int) / 256);have l:=Cy (f.s.size:Int);omega
  refine⟨?_,?_,?_⟩
  ·unfold nxE;rw[db (fun h=>h e),db (by rw[b,Zgt,a];simp),db (by omega),db (fun h=>h b),c,db (by omega),db (by rw[a];simp only[List.length_append,List.length_cons,g];omega)]
  ·unfold nxF;rw[dc b,c];refine Sg b hn ?_;rw[a];show f.s=⟨((f.s.data.toList++r).take f.s.size).toArray⟩;rw[Ye _ _ _ g]
  ·unfold nxN;rw[dc b,c,a];simp only[List.length_cons,g];omega
 ·have d:f.kind≠3:=by omega
  by_cases i:f.kind=2
  ·have a:fdB f=be8 f.n:=by unfold fdB;rw[db d,dc i]
   have k:(be8 f.n).length=8:=rfl;have c:((nxV f.kind (fdB f++r):Nat):Int)=f.n:=by unfold nxV;rw[i,Z72,a,Ye _ _ _ k];exact P0 f.n hn (by omega)
   refine⟨Wt e d (by rw[i,Z72,a,ax,k];omega) (by rw[c];omega),?_,?_⟩
   ·unfold nxF;rw[db d,c];exact Sg rfl rfl hs
   ·unfold nxN;rw[db d,i,a];rfl
  ·have a:fdB f=[byI f.n]:=by unfold fdB;rw[db d,db i]
   have j:szN f.kind=1:=by rcases b with⟨h,-⟩ | ⟨h,-⟩ | ⟨h,-⟩<;>first | (rw[h];rfl) | omega
   have c:((nxV f.kind (fdB f++r):Nat):Int)=f.n:=by unfold nxV;rw[j,a];show((Dc [byI f.n]:Nat):Int)=f.n;rw[Wv,Cy];omega
   refine⟨Wt e d (by rw[j,a];simp) (by rw[c];omega),?_,?_⟩
   ·unfold nxF;rw[db d,c];exact Sg rfl rfl hs
   ·unfold nxN;rw[db d,j,a];rfl
theorem U7:∀(l:List RFd) (r:Bs),Ie l=0→Aj (l.map RFd.kind) (Gv l++r)=⟨0,l,(Gv l).length⟩
 | [],r,_=>rfl
 | f::l,r,h=>by
  have hf:=Dz h f (by simp);have e:Ie l=0:=by unfold Ie at h;rwa [dc hf] at h
  have d:Gv (f::l)=fdB f++Gv l:=rfl;obtain⟨a,c,b⟩:=Zjc hf (Gv l++r);have g:=U7 l r e;rw[d,bx,ck,Du,db (fun h=>h a),c,b,List.drop_left,g,db (fun h=>h rfl)];simp
theorem Zjo {b:Bs}(h:8≤b.length):∃a1 a2 g f d a e c,b.take 8=[a1,a2,g,f,d,a,e,c]:=by
 match b,h with
 | a1::a2::g::f::d::a::e::c::b,_=>exact⟨a1,a2,g,f,d,a,e,c,rfl⟩
theorem Hg {x:UInt8}{n:Int}(h:n % 256=x.toNat):byI n=x:=by
 have:=Cy n;have a:(byI n).toNat=x.toNat:=by omega
 exact UInt8.toNat_inj.1 a
theorem Z7m (a1 a2 g f c a d b:UInt8):be8 (Dc [a1,a2,g,f,c,a,d,b]:Nat)=[a1,a2,g,f,c,a,d,b]:=by have o:=a1.toNat_lt;have h:=a2.toNat_lt;have i:=g.toNat_lt;have m:=f.toNat_lt;have n:=c.toNat_lt;have k:=a.toNat_lt;have l:=d.toNat_lt;have j:=b.toNat_lt;have e:Dc [a1,a2,g,f,c,a,d,b]=(((((((0 * 256+a1.toNat) * 256+a2.toNat) * 256+g.toNat) * 256+f.toNat) * 256+c.toNat) * 256+a.toNat) * 256+d.toNat) * 256+b.toNat:=rfl;unfold be8;generalize Dc [a1,a2,g,f,c,a,d,b]=v at e;rw[Hg (x:=a1) (by omega),Hg (x:=a2) (by omega),Hg (x:=g) (by omega),Hg (x:=f) (by omega),Hg (x:=c) (by omega),Hg (x:=a) (by omega),Hg (x:=d) (by omega),Hg (x:=b) (by omega)]
theorem Z8m (k:Int)(b:Bs):(nxF k b).kind=k:=by
 unfold nxF;split
 ·next h=>exact h.symm
 ·rfl
theorem Zjl {k:Int}{b:Bs}(h:nxE k b=0):fdE (nxF k b)=0∧fdB (nxF k b)=b.take (nxN k b):=by
 have C:=h;unfold nxE at h;split at h
 ·cases h
 next q =>
 have q:1≤k∧k≤4:=Decidable.not_not.1 q;split at h
 ·cases h
 next c =>
 split at h
 ·cases h
 next z =>
 by_cases f:k=3
 ·rw[db (fun a=>a f)] at h;split at h
  ·cases h
  next r =>
  split at h
  ·cases h
  next E =>
  subst f;rw[Zgt] at c;have o:(((b.drop 2).take (nxV 3 b)).toArray:Array UInt8).size=nxV 3 b:=by rw[List.size_toArray,aw,bc];omega
  have l:nxF 3 b=⟨3,0,⟨((b.drop 2).take (nxV 3 b)).toArray⟩⟩:=rfl;have n:nxN 3 b=2+nxV 3 b:=rfl;have i:(⟨((b.drop 2).take (nxV 3 b)).toArray⟩:ByteArray).size=nxV 3 b:=o;rw[l,n];constructor
  ·unfold fdE;rw[dc rfl,db (fun a=>a rfl)];show(if(⟨((b.drop 2).take (nxV 3 b)).toArray⟩:ByteArray).size > 1024 then(22:Int) else 0)=0;rw[i,db (by omega)]
  ·show byI (((⟨((b.drop 2).take (nxV 3 b)).toArray⟩:ByteArray).size:Int) / 256)::byI (⟨((b.drop 2).take (nxV 3 b)).toArray⟩:ByteArray).size::(b.drop 2).take (nxV 3 b)=_;rw[i]
   match b,c,r with
   | x::y::b,_,r =>
    have B:=x.toNat_lt;have D:=y.toNat_lt;have e:nxV 3 (x::y::b)=(0 * 256+x.toNat) * 256+y.toNat:=rfl;rw[show 2+nxV 3 (x::y::b)=nxV 3 (x::y::b)+1+1 by omega,List.take_succ_cons,List.take_succ_cons,Hg (x:=x) (by rw[e];omega),Hg (x:=y) (by rw[e];omega)];rfl
   | [],c,_=>simp at c
   | [_],c,_=>simp at c
 ·have l:nxF k b=⟨k,nxV k b,eS⟩:=by unfold nxF;rw[db f];rfl
  have n:nxN k b=szN k:=by unfold nxN;rw[db f]
  have g:=Hf (b.take (szN k));rw[aw,cf (by omega)] at g;rw[l,n];by_cases hk2:k=2
  ·subst hk2;constructor
   ·unfold fdE;rw[db f,db (fun a=>a.elim (fun a=>a rfl) (fun a=>by simp only at a;omega)),db (by simp),db (by simp),dc ⟨rfl,by simp only;omega⟩]
   ·show be8 (nxV 2 b:Nat)=_;obtain⟨a1,a2,u,A,w,s,t,v,e⟩:=Zjo (b:=b) (by rw[Z72] at c;omega);unfold nxV;rw[Z72,e];exact Z7m a1 a2 u A w s t v
  ·have d:k=1∨k=4:=by omega
   have m:szN k=1:=by rcases d with h | h<;>(rw[h];rfl)
   rw[m] at g c;have j:∃x,b.take 1=[x]:=by
    match b,c with
    | x::b,_=>exact⟨x,rfl⟩
    | [],c=>simp at c
   obtain⟨x,j⟩:=j;have p:nxV k b=x.toNat:=by unfold nxV;rw[m,j,Wv]
   have B:=x.toNat_lt;constructor
   ·unfold fdE;rw[db f,db (fun a=>a.elim (fun a=>a rfl) (fun a=>by simp only at a;omega))];simp only;rw[p] at z⊢;rcases d with h | h
    ·rw[dc ⟨h,by omega⟩]
    ·rw[db (by omega),dc ⟨h,by omega⟩]
   ·show(if k=3 then _ else if k=2 then _ else [byI (nxV k b:Nat)])=_;rw[db f,db hk2,m,j,Hg (x:=x) (by rw[p];omega)]
theorem Pn:∀(ks:List Int) (b:Bs),(Aj ks b).e=0→Ie (Aj ks b).l=0∧Gv (Aj ks b).l=b.take (Aj ks b).n∧(Aj ks b).l.map RFd.kind=ks
 | [],b,_=>⟨rfl,by simp[Aj,Gv],rfl⟩
 | k::ks,b,h=>by
  rw[Du] at h⊢;by_cases a:nxE k b≠0
  ·rw[dc a] at h;exact de h a
  rw[db a] at h⊢;by_cases c:(Aj ks (b.drop (nxN k b))).e≠0
  ·rw[dc c] at h;exact de h c
  rw[db c];obtain⟨d,i,j⟩:=Pn ks (b.drop (nxN k b)) (Decidable.not_not.1 c);obtain⟨g,f⟩:=Zjl (Decidable.not_not.1 a);refine⟨?_,?_,?_⟩
  ·show Ie (nxF k b::_)=0;unfold Ie;rw[dc g];exact d
  ·show fdB (nxF k b)++Gv (Aj ks (b.drop (nxN k b))).l=b.take (nxN k b+_);rw[f,i,List.take_add]
  ·show(nxF k b).kind::_=_;rw[Z8m,j]
theorem Z8t {l m:List RFd}(a:Ie l=0):Ie (l++m)=Ie m:=by
 induction l with
 | nil=>rfl
 | cons x l ih =>
  have b:=Dz a x (by simp);have c:Ie l=0:=by unfold Ie at a;rwa [dc b] at a
  show(if fdE x=0 then Ie (l++m) else fdE x)=_;rw[dc b];exact ih c
theorem Z0c {l m:List RFd}(h:Ie (l++m)=0):Ie l=0 :=
 Hu fun x a=>Dz h x (bu.2 (.inl a))
theorem Xn (l m:List RFd):Gv (l++m)=Gv l++Gv m:=by unfold Gv;rw[List.flatMap_append]
theorem M2 {ks:List Int}{b:Bs}(h:(K2 ks b).e=0):(Aj ks b).e=0∧(Aj ks b).n=b.length∧K2 ks b=Aj ks b:=by
 unfold K2 at h⊢;by_cases a:(Aj ks b).e≠0
 ·rw[dc a] at h;exact de h a
 rw[db a] at h⊢;by_cases c:(Aj ks b).n≠b.length
 ·rw[dc c] at h;cases h
 ·rw[db c];exact⟨Decidable.not_not.1 a,Decidable.not_not.1 c,rfl⟩
theorem X0 {l:List RFd}(h:Ie l=0):K2 (l.map RFd.kind) (Gv l)=⟨0,l,(Gv l).length⟩:=by have:=U7 l [] h;rw[cz] at this;unfold K2;rw[this,db (fun h=>h rfl),db (fun h=>h rfl)]
theorem U6 {f:RFd}{k:Int}(h:fdE f=0)(a:f.kind=k)(b:k≠3):(⟨k,f.n,eS⟩:RFd)=f:=by
 rcases Ke h with⟨h,-⟩ | ⟨-,h,-⟩
 ·omega
 ·exact Sg a rfl h
theorem Zhi {f:RFd}(h:fdE f=0)(a:f.kind=3):(⟨3,0,f.s⟩:RFd)=f:=by
 rcases Ke h with⟨h,h0,-⟩ | ⟨h,-⟩
 ·exact Sg a h0 rfl
 ·omega
end Go.Proofs.YtihfaocdpmmooaaGreat

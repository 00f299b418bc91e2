
import Derived.Test.YtmmdikhljefeiaaGreatZM1
namespace Go.Proofs.YtmmdikhljefeiaaGreat
structure RFd where
 kind:Int
 n:Int
 s:ByteArray
abbrev Bs:=List UInt8
def byI (n:Int):UInt8:=UInt8.ofNat (n % 256).toNat
theorem J3 (n:Int):(((byI n).toNat:Nat):Int)=n % 256:=by
 unfold byI;have b:(n % 256).toNat < 256:=by omega
 have a:(UInt8.ofNat (n % 256).toNat).toNat=(n % 256).toNat:=by rw[UInt8.toNat_ofNat'];omega
 rw[a];omega
def be8 (n:Int):Bs:=[byI (n / 72057594037927936),byI (n / 281474976710656),byI (n / 1099511627776),byI (n / 4294967296),byI (n / 16777216),byI (n / 65536),byI (n / 256),byI n]
def fdE (f:RFd):Int :=
 if f.kind=3 then(if f.n≠0 then 21 else if f.s.size > 1024 then 22 else 0)
 else if f.s≠⟨#[]⟩\/f.n < 0 then 21
 else if f.kind=1/\f.n<=255 then 0 else if f.kind=4/\f.n<=1 then 0 else if f.kind=2/\f.n<=big then 0 else 21
def fdB (f:RFd):Bs:=if f.kind=3 then byI ((f.s.size:Int) / 256)::byI f.s.size::f.s.data.toList else if f.kind=2 then be8 f.n else [byI f.n]
def Jl:List RFd->Int
 | []=>0
 | f::l=>if fdE f=0 then Jl l else fdE f
def Fp (l:List RFd):Bs:=l.flatMap fdB
def Z60 (l:List RFd):Bs:=if Jl l=0 then Fp l else []
theorem Yq {f:RFd}(h:fdE f=0):(fdB f).length<=1026:=by
 unfold fdB;split
 .next d =>
  unfold fdE at h;rw[dp d] at h;have c:f.s.data.toList.length=f.s.size:=by rw[co];rfl
  by_cases a:f.n≠0
  .rw[dp a] at h;omega
  .rw[dn a] at h;by_cases b:f.s.size > 1024
   .rw[dp b] at h;omega
   .simp only[List.length_cons,c];omega
 .split
  .simp[be8]
  .simp
theorem Zu {l:List RFd}{i:Nat}{f:RFd}(a:l[i]?=some f)(h:∀x∈l.take i,fdE x=0)(c:fdE f≠0):Jl l=fdE f:=by
 induction l generalizing i with
 | nil=>simp at a
 | cons x l ih =>
  cases i with
  | zero=>simp at a;subst a;unfold Jl;rw[dn c]
  | succ i =>
   have b:=h x (by simp);unfold Jl;rw[dp b];exact ih (by simpa using a) λy d=>h y (by simp[d])
theorem P5 {l:List RFd}(h:∀x∈l,fdE x=0):Jl l=0:=by
 induction l with
 | nil=>rfl
 | cons x l ih=>unfold Jl;rw[dp (h x (by simp))];exact ih λy a=>h y (by simp[a])
theorem V6 {l:List RFd}(h:∀x∈l,fdE x=0):(Fp l).length<=1026 * l.length:=by
 induction l with
 | nil=>simp[Fp]
 | cons x l ih =>
  have b:=Yq (h x (by simp));have c:=ih λy a=>h y (by simp[a]);unfold Fp at *;rw[List.flatMap_cons,bf,bk];omega
def szN (k:Int):Nat:=if k=1\/k=4 then 1 else if k=2 then 8 else if k=3 then 2 else 0
def Oa (b:Bs):Nat:=b.foldl (λv x=>v * 256+x.toNat) 0
def nxV (k:Int)(b:Bs):Nat:=Oa (b.take (szN k))
def nxE (k:Int)(b:Bs):Int :=
 if ¬(1<=k/\k<=4) then 21 else if b.length < szN k then 20
 else if(k=2/\big < nxV k b)\/(k=4/\1 < nxV k b) then 21
 else if k≠3 then 0 else if 1024 < nxV k b then 22 else if b.length < 2+nxV k b then 20 else 0
def nxF (k:Int)(b:Bs):RFd:=if k=3 then⟨3,0,⟨((b.drop 2).take (nxV k b)).toArray⟩⟩ else⟨k,nxV k b,⟨#[]⟩⟩
def nxN (k:Int)(b:Bs):Nat:=if k=3 then 2+nxV k b else szN k
def fd0:RFd:=⟨0,0,⟨#[]⟩⟩
structure Sm where
 e:Int
 l:List RFd
 n:Nat
def Ay:List Int->Bs->Sm
 | [],_=>⟨0,[],0⟩
 | k::ks,b=>if nxE k b≠0 then⟨nxE k b,[],0⟩ else
  if(Ay ks (b.drop (nxN k b))).e≠0 then⟨(Ay ks (b.drop (nxN k b))).e,[],0⟩
  else⟨0,nxF k b::(Ay ks (b.drop (nxN k b))).l,nxN k b+(Ay ks (b.drop (nxN k b))).n⟩
theorem Ew (k:Int)(ks:List Int)(b:Bs):Ay (k::ks) b=if nxE k b≠0 then⟨nxE k b,[],0⟩ else
  if(Ay ks (b.drop (nxN k b))).e≠0 then⟨(Ay ks (b.drop (nxN k b))).e,[],0⟩
  else⟨0,nxF k b::(Ay ks (b.drop (nxN k b))).l,nxN k b+(Ay ks (b.drop (nxN k b))).n⟩:=rfl
theorem Pr (b:Bs)(x:UInt8):Oa (b++[x])=Oa b * 256+x.toNat:=by unfold Oa;rw[List.foldl_append];rfl
theorem Kv (b:Bs):Oa b < 256 ^ b.length:=by
 have key:∀(b:Bs) (v:Nat) (m:Nat),v < m->b.foldl (λv x=>v * 256+x.toNat) v < m * 256 ^ b.length:=by
  intro b
  induction b with
  | nil=>intro v m h;simpa using h
  | cons x b ih =>
   intro v m h;have a:=x.toNat_lt;have:=ih (v * 256+x.toNat) (m * 256) (by omega);rw[List.foldl_cons,bk,Nat.pow_succ']
   rwa [<-Nat.mul_assoc]
 have:=key b 0 1 (by omega);unfold Oa;simpa using this
theorem Z5f (k:Int):szN k<=8:=by unfold szN;split<;>(try split)<;>(try split)<;>omega
theorem Z6f {k:Int}(h:1<=k/\k<=4):1<=szN k:=by
 unfold szN;split
 .omega
 .split
  .omega
  .split<;>omega
theorem Z55 {k:Int}{b:Bs}(h:nxE k b=0):nxN k b<=b.length/\1<=nxN k b:=by
 unfold nxE at h;split at h
 .cases h
 next a =>
 have a:1<=k/\k<=4:=an.1 a;split at h
 .cases h
 next d =>
 split at h
 .cases h
 unfold nxN;by_cases c:k=3
 .rw[dp c];rw[dn (by simp[c])] at h;split at h
  .cases h
  split at h
  .cases h
  omega
 .rw[dn c];have:=Z6f a;omega
theorem Hs:∀(ks:List Int) (b:Bs),(Ay ks b).n<=b.length/\((Ay ks b).e=0->(Ay ks b).l.length=ks.length)
 | [],b=>⟨av _,λ_=>rfl⟩
 | k::ks,b=>by
  have d:=Hs ks (b.drop (nxN k b));unfold Ay;split
  .next h=>exact⟨av _,λc=>dq c h⟩
  .next h =>
   have h:=Z55 (an.1 h);split
   .next a=>exact⟨av _,λc=>dq c a⟩
   .next a =>
    have a:=an.1 a;have f:=d.1;rw[bj] at f;exact⟨by simp only;omega,λ_=>by simp[d.2 a]⟩
theorem Z4w:∀(ks:List Int) (b:Bs),(Ay ks b).e≠0->Ay ks b=⟨(Ay ks b).e,[],0⟩
 | [],b,h=>dq rfl h
 | k::ks,b,h=>by
  unfold Ay at h⊢;by_cases c:nxE k b≠0
  .rw[dp c]
  .rw[dn c] at h⊢;by_cases a:(Ay ks (b.drop (nxN k b))).e≠0
   .rw[dp a]
   .rw[dn a] at h;exact dq rfl h
theorem Lh:∀(ks:List Int) (b:Bs) (k:Int),(Ay ks b).e=0->Ay (ks++[k]) b=if nxE k (b.drop (Ay ks b).n)≠0 then⟨nxE k (b.drop (Ay ks b).n),[],0⟩ else⟨0,(Ay ks b).l++[nxF k (b.drop (Ay ks b).n)],(Ay ks b).n+nxN k (b.drop (Ay ks b).n)⟩
 | [],b,k,_=>by
  show Ay [k] b=if nxE k (b.drop 0)≠0 then⟨nxE k (b.drop 0),[],0⟩ else⟨0,[]++[nxF k (b.drop 0)],0+nxN k (b.drop 0)⟩;rw[List.drop_zero];unfold Ay;by_cases h:nxE k b≠0
  .rw[dp h,dp h]
  .rw[dn h,dn h,dn (λh=>h rfl)];simp[Ay]
 | j::ks,b,k,h=>by
  by_cases c:nxE j b≠0
  .unfold Ay at h;rw[dp c] at h;exact dq h c
  .by_cases a:(Ay ks (b.drop (nxN j b))).e≠0
   .unfold Ay at h;rw[dn c,dp a] at h;exact dq h a
   .have a:=an.1 a;have f:=Lh ks (b.drop (nxN j b)) k a;have e:Ay (j::ks) b=⟨0,nxF j b::(Ay ks (b.drop (nxN j b))).l,nxN j b+(Ay ks (b.drop (nxN j b))).n⟩:=by
     conv=>lhs;unfold Ay
     rw[dn c,dn (λh=>h a)]
    rw[e];show Ay (j::(ks++[k])) b=_
    conv=>lhs;unfold Ay
    rw[dn c,f,List.drop_drop];by_cases d:nxE k (b.drop (nxN j b+(Ay ks (b.drop (nxN j b))).n))≠0
    .rw[dp d,dp d];simp only;rw[dp d]
    .rw[dn d,dn d];simp[Nat.add_assoc]
theorem Np:∀(ks:List Int) (b:Bs) (i:Nat) (k:Int),ks[i]?=some k->(Ay (ks.take i) b).e=0->nxE k (b.drop (Ay (ks.take i) b).n)≠0->Ay ks b=⟨nxE k (b.drop (Ay (ks.take i) b).n),[],0⟩
 | [],b,i,k,h,_,_=>by simp at h
 | j::ks,b,0,k,h,_,a=>by simp at h;subst h;have a:nxE j (b.drop 0)≠0:=a;show Ay (j::ks) b=⟨nxE j (b.drop 0),[],0⟩;rw[List.drop_zero] at a⊢;unfold Ay;rw[dp a]
 | j::ks,b,i+1,k,h,h1,a=>by
  have h:ks[i]?=some k:=by simpa using h
  rw[List.take_succ_cons] at h1 a⊢;by_cases d:nxE j b≠0
  .unfold Ay at h1;rw[dp d] at h1;exact dq h1 d
  .by_cases c:(Ay (ks.take i) (b.drop (nxN j b))).e≠0
   .unfold Ay at h1;rw[dn d,dp c] at h1;exact dq h1 c
   .have c:=an.1 c;have e:(Ay (j::ks.take i) b).n=nxN j b+(Ay (ks.take i) (b.drop (nxN j b))).n:=by
     rw[Ew,dn d,dn (λh=>h c)]
    rw[e,<-List.drop_drop] at a⊢;have f:=Np ks (b.drop (nxN j b)) i k h c a
    conv=>lhs;unfold Ay
    rw[dn d,f,dp a]
def Hr (ks:List Int)(b:Bs):Sm:=if(Ay ks b).e≠0 then⟨(Ay ks b).e,[],0⟩ else if(Ay ks b).n≠b.length then⟨21,[],0⟩ else Ay ks b
def eS:ByteArray:=⟨#[]⟩
def bI (b:Bool):Int:=if b then 1 else 0
def chF (c:RC)(v:Int):List RFd:=[⟨1,c.kind,eS⟩,⟨3,0,c.path⟩,⟨3,0,c.data⟩,⟨2,v,eS⟩,⟨4,bI c.ep,eS⟩,⟨4,bI c.sq,eS⟩]
def veP (v:Int):Int:=if v < big then v+1 else -1
def hdF (t:RT):List RFd:=[⟨1,t.kind,eS⟩,⟨2,t.se,eS⟩,⟨2,t.nu,eS⟩,⟨2,t.sp,eS⟩,⟨2,t.no,eS⟩,⟨1,t.l.length,eS⟩]
def Zea (l:List RC):List RFd:=l.flatMap λc=>chF c (veP c.ve)
def txF (t:RT):List RFd:=hdF t++Zea t.l
def okT (t:RT):Prop:=t.l.length<=6/\Jl (txF t)=0/\(Fp (txF t)).length<=4096
instance (t:RT):Decidable (okT t):=inferInstanceAs (Decidable (_/\_/\_))
theorem I8:∀{l:List RFd},Jl l=0->∀f∈l,fdE f=0
 | [],_,f,a=>by cases a
 | x::l,h,f,a=>by
  unfold Jl at h;by_cases b:fdE x=0
  .rw[dp b] at h;rcases bo.1 a with rfl | a
   .exact b
   .exact I8 h f a
  .rw[dn b] at h;exact dq h b
theorem Uy:∀(ks a:List Int) (b:Bs),(Ay ks b).e=0->Ay (ks++a) b=if(Ay a (b.drop (Ay ks b).n)).e≠0 then⟨(Ay a (b.drop (Ay ks b).n)).e,[],0⟩ else⟨0,(Ay ks b).l++(Ay a (b.drop (Ay ks b).n)).l,(Ay ks b).n+(Ay a (b.drop (Ay ks b).n)).n⟩
 | [],a,b,_=>by
  show Ay a b=if(Ay a (b.drop 0)).e≠0 then⟨(Ay a (b.drop 0)).e,[],0⟩ else⟨0,[]++(Ay a (b.drop 0)).l,0+(Ay a (b.drop 0)).n⟩;rw[List.drop_zero];by_cases h:(Ay a b).e≠0
  .rw[dp h];exact Z4w a b h
  .have i:=an.1 h;rw[dn h,dh,cn]
   conv=>rhs;rw[<-i]
 | k::ks,a,b,h=>by
  rw[Ew] at h;by_cases c:nxE k b≠0
  .rw[dp c] at h;exact dq h c
  rw[dn c] at h;by_cases f:(Ay ks (b.drop (nxN k b))).e≠0
  .rw[dp f] at h;exact dq h f
  have g:=an.1 f;have j:=Uy ks a (b.drop (nxN k b)) g;have e:Ay (k::ks) b=⟨0,nxF k b::(Ay ks (b.drop (nxN k b))).l,nxN k b+(Ay ks (b.drop (nxN k b))).n⟩:=by rw[Ew,dn c,dn f]
  rw[dl,e,Ew,dn c,j,List.drop_drop];by_cases d:(Ay a (b.drop (nxN k b+(Ay ks (b.drop (nxN k b))).n))).e≠0
  .rw[dp d,dp d,dp d]
  .rw[dn d,dn d,dn (λh=>h rfl)];simp[Nat.add_assoc]
def kHd:List Int:=[1,2,2,2,2,1]
def kCh:List Int:=[1,3,3,2,4,4]
def Zdl:Nat->List Int
 | 0=>[]
 | i+1=>Zdl i++kCh
def Zdh (b:Bs):Int:=match(Ay kHd b).l with
 | [_,_,_,_,_,f]=>f.n
 | _=>0
def okD (b:Bs):Prop:=(Ay kHd b).e=0/\Zdh b<=6/\b.length<=4096/\(Hr (Zdl (Zdh b).toNat) (b.drop (Ay kHd b).n)).e=0
instance (b:Bs):Decidable (okD b):=inferInstanceAs (Decidable (_/\_/\_/\_))
def eD (b:Bs):Int:=if okD b then 0 else 110
theorem Z31 (n:Int)(p:0<=n)(f:n<=big):(Oa (be8 n):Int)=n:=by
 have e:∀x:Int,((byI x).toNat:Int)=x % 256:=J3;unfold big at f;have q:=e n;have r:=e (n / 256);have b:=e (n / 65536);have i:=e (n / 16777216);have h:=e (n / 4294967296);have c:=e (n / 1099511627776);have j:=e (n / 281474976710656);have a:=e (n / 72057594037927936);show((((((((((0 * 256+(byI (n / 72057594037927936)).toNat) * 256+(byI (n / 281474976710656)).toNat) * 256+(byI (n / 1099511627776)).toNat) * 256+(byI (n / 4294967296)).toNat) * 256+(byI (n / 16777216)).toNat) * 256+(byI (n / 65536)).toNat) * 256+(byI (n / 256)).toNat) * 256+(byI n).toNat:Nat)):Int)=n;have d:n / 65536=n / 256 / 256:=by omega
 have o:n / 16777216=n / 256 / 256 / 256:=by omega
 have k:n / 4294967296=n / 256 / 256 / 256 / 256:=by omega
 have m:n / 1099511627776=n / 256 / 256 / 256 / 256 / 256:=by omega
 have l:n / 281474976710656=n / 256 / 256 / 256 / 256 / 256 / 256:=by omega
 have g:n / 72057594037927936=n / 256 / 256 / 256 / 256 / 256 / 256 / 256:=by omega
 rw[d] at b⊢;rw[o] at i⊢;rw[k] at h⊢;rw[m] at c⊢;rw[l] at j⊢;rw[g] at a⊢;omega
theorem U2 (x:UInt8):Oa [x]=x.toNat:=by show 0 * 256+x.toNat=_;omega
theorem Lx {f:RFd}(h:fdE f=0):(f.kind=3/\f.n=0/\f.s.size<=1024)\/((f.kind=1/\f.n<=255\/f.kind=4/\f.n<=1\/f.kind=2/\f.n<=big)/\f.s=eS/\0<=f.n):=by
 unfold fdE at h;by_cases c:f.kind=3
 .rw[dp c] at h;by_cases a:f.n≠0
  .rw[dp a] at h;cases h
  .rw[dn a] at h;by_cases j:f.s.size > 1024
   .rw[dp j] at h;cases h
   .exact .inl ⟨c,an.1 a,by omega⟩
 .rw[dn c] at h;by_cases a:f.s≠⟨#[]⟩\/f.n < 0
  .rw[dp a] at h;cases h
  .rw[dn a] at h;have k:f.s=eS:=an.1 λb=>a (.inl b);have i:0<=f.n:=Int.not_lt.1 λb=>a (.inr b);refine .inr ⟨?_,k,i⟩;by_cases e:f.kind=1/\f.n<=255
   .exact .inl e
   .rw[dn e] at h;by_cases g:f.kind=4/\f.n<=1
    .exact .inr (.inl g)
    .rw[dn g] at h;by_cases d:f.kind=2/\f.n<=big
     .exact .inr (.inr d)
     .rw[dn d] at h;cases h
theorem Z7d {f:RFd}(h:fdE f=0):1<=f.kind/\f.kind<=4:=by rcases Lx h with⟨h,-⟩ | ⟨h,-⟩<;>omega
theorem Z3m:szN 2=8:=rfl
theorem Z9h:szN 3=2:=rfl
theorem V9 {α:Type}(a b:List α)(n:Nat)(h:a.length=n):(a++b).take n=a:=by subst h;exact List.take_left
theorem Tw {k:Int}{b:Bs}(d:1<=k/\k<=4)(c:k≠3)(e:szN k<=b.length)(a:¬((k=2/\big < nxV k b)\/(k=4/\1 < nxV k b))):nxE k b=0:=by unfold nxE;rw[dn (λh=>h d),dn (by omega),dn a,dp c]
theorem R4 {f:RFd}{k n:Int}{s:ByteArray}(a:f.kind=k)(c:f.n=n)(b:f.s=s):(⟨k,n,s⟩:RFd)=f:=by cases f;cases a;cases c;cases b;rfl
theorem Zd3 {f:RFd}(h:fdE f=0)(r:Bs):nxE f.kind (fdB f++r)=0/\nxF f.kind (fdB f++r)=f/\nxN f.kind (fdB f++r)=(fdB f).length:=by
 have e:=Z7d h;rcases Lx h with⟨c,hn,hs⟩ | ⟨c,hs,hn⟩
 .have a:fdB f=byI ((f.s.size:Int) / 256)::byI f.s.size::f.s.data.toList:=by unfold fdB;rw[dp c]
  have g:f.s.data.toList.length=f.s.size:=by rw[co];rfl
  have b:nxV f.kind (fdB f++r)=f.s.size:=by unfold nxV;rw[c,a];show(0 * 256+(byI ((f.s.size:Int) / 256)).toNat) * 256+(byI f.s.size).toNat=_;have l:=J3 ((f.s.size:Int) / 256);have m:=J3 (f.s.size:Int);omega
  refine⟨?_,?_,?_⟩
  .unfold nxE;rw[dn (λh=>h e),dn (by rw[c,Z9h,a];simp),dn (by omega),dn (λh=>h c),b,dn (by omega),dn (by rw[a];simp only[List.length_append,List.length_cons,g];omega)]
  .unfold nxF;rw[dp c,b];refine R4 c hn ?_;rw[a];show f.s=⟨((f.s.data.toList++r).take f.s.size).toArray⟩;rw[V9 _ _ _ g]
  .unfold nxN;rw[dp c,b,a];simp only[List.length_cons,g];omega
 .have d:f.kind≠3:=by omega
  by_cases i:f.kind=2
  .have a:fdB f=be8 f.n:=by unfold fdB;rw[dn d,dp i]
   have k:(be8 f.n).length=8:=rfl;have b:((nxV f.kind (fdB f++r):Nat):Int)=f.n:=by unfold nxV;rw[i,Z3m,a,V9 _ _ _ k];exact Z31 f.n hn (by omega)
   refine⟨Tw e d (by rw[i,Z3m,a,bf,k];omega) (by rw[b];omega),?_,?_⟩
   .unfold nxF;rw[dn d,b];exact R4 rfl rfl hs
   .unfold nxN;rw[dn d,i,a];rfl
  .have a:fdB f=[byI f.n]:=by unfold fdB;rw[dn d,dn i]
   have j:szN f.kind=1:=by rcases c with⟨h,-⟩ | ⟨h,-⟩ | ⟨h,-⟩<;>first | (rw[h];rfl) | omega
   have b:((nxV f.kind (fdB f++r):Nat):Int)=f.n:=by unfold nxV;rw[j,a];show((Oa [byI f.n]:Nat):Int)=f.n;rw[U2,J3];omega
   refine⟨Tw e d (by rw[j,a];simp) (by rw[b];omega),?_,?_⟩
   .unfold nxF;rw[dn d,b];exact R4 rfl rfl hs
   .unfold nxN;rw[dn d,j,a];rfl
theorem Rt:∀(l:List RFd) (r:Bs),Jl l=0->Ay (l.map RFd.kind) (Fp l++r)=⟨0,l,(Fp l).length⟩
 | [],r,_=>rfl
 | f::l,r,h=>by
  have a:=I8 h f (by simp);have c:Jl l=0:=by unfold Jl at h;rwa [dp a] at h
  have b:Fp (f::l)=fdB f++Fp l:=rfl;obtain⟨d,e,i⟩:=Zd3 a (Fp l++r);have g:=Rt l r c;rw[b,ce,cu,Ew,dn (λh=>h d),e,i,List.drop_left,g,dn (λh=>h rfl)];simp
theorem Zcx {b:Bs}(h:8<=b.length):∃e i a c j f g d,b.take 8=[e,i,a,c,j,f,g,d]:=by
 match b,h with
 | e::i::a::c::j::f::g::d::b,_=>exact⟨e,i,a,c,j,f,g,d,rfl⟩
theorem Ge {x:UInt8}{n:Int}(h:n % 256=x.toNat):byI n=x:=by
 have:=J3 n;have a:(byI n).toNat=x.toNat:=by omega
 exact UInt8.toNat_inj.1 a
theorem Z3x (d h a b i f g c:UInt8):be8 (Oa [d,h,a,b,i,f,g,c]:Nat)=[d,h,a,b,i,f,g,c]:=by have m:=d.toNat_lt;have o:=h.toNat_lt;have p:=a.toNat_lt;have j:=b.toNat_lt;have k:=i.toNat_lt;have q:=f.toNat_lt;have n:=g.toNat_lt;have l:=c.toNat_lt;have e:Oa [d,h,a,b,i,f,g,c]=(((((((0 * 256+d.toNat) * 256+h.toNat) * 256+a.toNat) * 256+b.toNat) * 256+i.toNat) * 256+f.toNat) * 256+g.toNat) * 256+c.toNat:=rfl;unfold be8;generalize Oa [d,h,a,b,i,f,g,c]=v at e;rw[Ge (x:=d) (by omega),Ge (x:=h) (by omega),Ge (x:=a) (by omega),Ge (x:=b) (by omega),Ge (x:=i) (by omega),Ge (x:=f) (by omega),Ge (x:=g) (by omega),Ge (x:=c) (by omega)]
theorem Z3p (k:Int)(b:Bs):(nxF k b).kind=k:=by
 unfold nxF;split
 .next h=>exact h.symm
 .rfl
theorem Zcc {k:Int}{b:Bs}(h:nxE k b=0):fdE (nxF k b)=0/\fdB (nxF k b)=b.take (nxN k b):=by
 have F:=h;unfold nxE at h;split at h
 .cases h
 next q =>
 have q:1<=k/\k<=4:=an.1 q;split at h
 .cases h
 next c =>
 split at h
 .cases h
 next A =>
 by_cases f:k=3
 .rw[dn (λa=>a f)] at h;split at h
  .cases h
  next r =>
  split at h
  .cases h
  next G =>
  subst f;rw[Z9h] at c;have o:(((b.drop 2).take (nxV 3 b)).toArray:Array UInt8).size=nxV 3 b:=by rw[List.size_toArray,be,bj];omega
  have p:nxF 3 b=⟨3,0,⟨((b.drop 2).take (nxV 3 b)).toArray⟩⟩:=rfl;have n:nxN 3 b=2+nxV 3 b:=rfl;have g:(⟨((b.drop 2).take (nxV 3 b)).toArray⟩:ByteArray).size=nxV 3 b:=o;rw[p,n];constructor
  .unfold fdE;rw[dp rfl,dn (λa=>a rfl)];show(if(⟨((b.drop 2).take (nxV 3 b)).toArray⟩:ByteArray).size > 1024 then(22:Int) else 0)=0;rw[g,dn (by omega)]
  .show byI (((⟨((b.drop 2).take (nxV 3 b)).toArray⟩:ByteArray).size:Int) / 256)::byI (⟨((b.drop 2).take (nxV 3 b)).toArray⟩:ByteArray).size::(b.drop 2).take (nxV 3 b)=_;rw[g]
   match b,c,r with
   | x::y::b,_,r =>
    have v:=x.toNat_lt;have H:=y.toNat_lt;have e:nxV 3 (x::y::b)=(0 * 256+x.toNat) * 256+y.toNat:=rfl;rw[show 2+nxV 3 (x::y::b)=nxV 3 (x::y::b)+1+1 by omega,List.take_succ_cons,List.take_succ_cons,Ge (x:=x) (by rw[e];omega),Ge (x:=y) (by rw[e];omega)];rfl
   | [],c,_=>simp at c
   | [_],c,_=>simp at c
 .have p:nxF k b=⟨k,nxV k b,eS⟩:=by unfold nxF;rw[dn f];rfl
  have n:nxN k b=szN k:=by unfold nxN;rw[dn f]
  have i:=Kv (b.take (szN k));rw[be,cp (by omega)] at i;rw[p,n];by_cases j:k=2
  .subst j;constructor
   .unfold fdE;rw[dn f,dn (λa=>a.elim (λa=>a rfl) (λa=>by simp only at a;omega)),dn (by simp),dn (by simp),dp ⟨rfl,by simp only;omega⟩]
   .show be8 (nxV 2 b:Nat)=_;obtain⟨C,z,t,u,E,D,w,B,e⟩:=Zcx (b:=b) (by rw[Z3m] at c;omega);unfold nxV;rw[Z3m,e];exact Z3x C z t u E D w B
  .have d:k=1\/k=4:=by omega
   have m:szN k=1:=by rcases d with h | h<;>(rw[h];rfl)
   rw[m] at i c;have l:∃x,b.take 1=[x]:=by
    match b,c with
    | x::b,_=>exact⟨x,rfl⟩
    | [],c=>simp at c
   obtain⟨x,l⟩:=l;have s:nxV k b=x.toNat:=by unfold nxV;rw[m,l,U2]
   have v:=x.toNat_lt;constructor
   .unfold fdE;rw[dn f,dn (λa=>a.elim (λa=>a rfl) (λa=>by simp only at a;omega))];simp only;rw[s] at A⊢;rcases d with h | h
    .rw[dp ⟨h,by omega⟩]
    .rw[dn (by omega),dp ⟨h,by omega⟩]
   .show(if k=3 then _ else if k=2 then _ else [byI (nxV k b:Nat)])=_;rw[dn f,dn j,m,l,Ge (x:=x) (by rw[s];omega)]
theorem T9:∀(ks:List Int) (b:Bs),(Ay ks b).e=0->Jl (Ay ks b).l=0/\Fp (Ay ks b).l=b.take (Ay ks b).n/\(Ay ks b).l.map RFd.kind=ks
 | [],b,_=>⟨rfl,by simp[Ay,Fp],rfl⟩
 | k::ks,b,h=>by
  rw[Ew] at h⊢;by_cases a:nxE k b≠0
  .rw[dp a] at h;exact dq h a
  rw[dn a] at h⊢;by_cases c:(Ay ks (b.drop (nxN k b))).e≠0
  .rw[dp c] at h;exact dq h c
  rw[dn c];obtain⟨i,g,d⟩:=T9 ks (b.drop (nxN k b)) (an.1 c);obtain⟨j,f⟩:=Zcc (an.1 a);refine⟨?_,?_,?_⟩
  .show Jl (nxF k b::_)=0;unfold Jl;rw[dp j];exact i
  .show fdB (nxF k b)++Fp (Ay ks (b.drop (nxN k b))).l=b.take (nxN k b+_);rw[f,g,List.take_add]
  .show(nxF k b).kind::_=_;rw[Z3p,d]
theorem Zx {l m:List RFd}(h:Jl (l++m)=0):Jl l=0 :=
 P5 λx a=>I8 h x (bz.2 (.inl a))
theorem Z1k (l m:List RFd):Fp (l++m)=Fp l++Fp m:=by unfold Fp;rw[List.flatMap_append]
theorem Sq {ks:List Int}{b:Bs}(h:(Hr ks b).e=0):(Ay ks b).e=0/\(Ay ks b).n=b.length/\Hr ks b=Ay ks b:=by
 unfold Hr at h⊢;by_cases a:(Ay ks b).e≠0
 .rw[dp a] at h;exact dq h a
 rw[dn a] at h⊢;by_cases c:(Ay ks b).n≠b.length
 .rw[dp c] at h;cases h
 .rw[dn c];exact⟨an.1 a,an.1 c,rfl⟩
theorem Z3l {l:List RFd}(h:Jl l=0):Hr (l.map RFd.kind) (Fp l)=⟨0,l,(Fp l).length⟩:=by have:=Rt l [] h;rw[dj] at this;unfold Hr;rw[this,dn (λh=>h rfl),dn (λh=>h rfl)]
theorem Zae {f:RFd}{k:Int}(h:fdE f=0)(a:f.kind=k)(b:k≠3):(⟨k,f.n,eS⟩:RFd)=f:=by
 rcases Lx h with⟨h,-⟩ | ⟨-,h,-⟩
 .omega
 .exact R4 a rfl h
theorem Zaw {f:RFd}(h:fdE f=0)(a:f.kind=3):(⟨3,0,f.s⟩:RFd)=f:=by
 rcases Lx h with⟨h,h0,-⟩ | ⟨h,-⟩
 .exact R4 a h0 rfl
 .omega
end Go.Proofs.YtmmdikhljefeiaaGreat


import Derived.Test.YtmmdikhljefeiaaGreatZM1
namespace Go.Proofs.YtmmdikhljefeiaaGreat
structure RFd where
 kind:Int
 n:Int
 s:ByteArray
abbrev Bs:=List UInt8
def byI (n:Int):UInt8:=UInt8.ofNat (n % 256).toNat
theorem M8 (n:Int):(((byI n).toNat:Nat):Int)=n % 256:=by
 unfold byI;have b:(n % 256).toNat < 256:=by omega
 have a:(UInt8.ofNat (n % 256).toNat).toNat=(n % 256).toNat:=by rw[UInt8.toNat_ofNat'];omega
 rw[a];omega
def be8 (n:Int):Bs:=[byI (n / 72057594037927936),byI (n / 281474976710656),byI (n / 1099511627776),byI (n / 4294967296),byI (n / 16777216),byI (n / 65536),byI (n / 256),byI n]
def fdE (f:RFd):Int :=
 if f.kind=3 then(if f.n≠0 then 21 else if f.s.size > 1024 then 22 else 0)
 else if f.s≠⟨#[]⟩\/f.n < 0 then 21
 else if f.kind=1/\f.n<=255 then 0 else if f.kind=4/\f.n<=1 then 0 else if f.kind=2/\f.n<=big then 0 else 21
def fdB (f:RFd):Bs:=if f.kind=3 then byI ((f.s.size:Int) / 256)::byI f.s.size::f.s.data.toList else if f.kind=2 then be8 f.n else [byI f.n]
def Ny:List RFd->Int
 | []=>0
 | f::l=>if fdE f=0 then Ny l else fdE f
def Ic (l:List RFd):Bs:=l.flatMap fdB
def Zdt (l:List RFd):Bs:=if Ny l=0 then Ic l else []
theorem Z8u {f:RFd}(h:fdE f=0):(fdB f).length<=1026:=by
 unfold fdB;split
 .next b =>
  unfold fdE at h;rw[dq b] at h;have c:f.s.data.toList.length=f.s.size:=by rw[cp];rfl
  by_cases a:f.n≠0
  .rw[dq a] at h;omega
  .rw[dp a] at h;by_cases d:f.s.size > 1024
   .rw[dq d] at h;omega
   .simp only[List.length_cons,c];omega
 .split
  .simp[be8]
  .simp
theorem Z98 {l:List RFd}{i:Nat}{f:RFd}(a:l[i]?=some f)(h:∀x∈l.take i,fdE x=0)(c:fdE f≠0):Ny l=fdE f:=by
 induction l generalizing i with
 | nil=>simp at a
 | cons x l ih =>
  cases i with
  | zero=>simp at a;subst a;unfold Ny;rw[dp c]
  | succ i =>
   have d:=h x (by simp);unfold Ny;rw[dq d];exact ih (by simpa using a) λy b=>h y (by simp[b])
theorem Vu {l:List RFd}(h:∀x∈l,fdE x=0):Ny l=0:=by
 induction l with
 | nil=>rfl
 | cons x l ih=>unfold Ny;rw[dq (h x (by simp))];exact ih λy a=>h y (by simp[a])
theorem Z4i {l:List RFd}(h:∀x∈l,fdE x=0):(Ic l).length<=1026 * l.length:=by
 induction l with
 | nil=>simp[Ic]
 | cons x l ih =>
  have c:=Z8u (h x (by simp));have b:=ih λy a=>h y (by simp[a]);unfold Ic at *;rw[List.flatMap_cons,bg,bn];omega
def szN (k:Int):Nat:=if k=1\/k=4 then 1 else if k=2 then 8 else if k=3 then 2 else 0
def Xz (b:Bs):Nat:=b.foldl (λv x=>v * 256+x.toNat) 0
def nxV (k:Int)(b:Bs):Nat:=Xz (b.take (szN k))
def nxE (k:Int)(b:Bs):Int :=
 if ¬(1<=k/\k<=4) then 21 else if b.length < szN k then 20
 else if(k=2/\big < nxV k b)\/(k=4/\1 < nxV k b) then 21
 else if k≠3 then 0 else if 1024 < nxV k b then 22 else if b.length < 2+nxV k b then 20 else 0
def nxF (k:Int)(b:Bs):RFd:=if k=3 then⟨3,0,⟨((b.drop 2).take (nxV k b)).toArray⟩⟩ else⟨k,nxV k b,⟨#[]⟩⟩
def nxN (k:Int)(b:Bs):Nat:=if k=3 then 2+nxV k b else szN k
def fd0:RFd:=⟨0,0,⟨#[]⟩⟩
structure Sm where
 e:Int
 l:List RFd
 n:Nat
def Ce:List Int->Bs->Sm
 | [],_=>⟨0,[],0⟩
 | k::ks,b=>if nxE k b≠0 then⟨nxE k b,[],0⟩ else
  if(Ce ks (b.drop (nxN k b))).e≠0 then⟨(Ce ks (b.drop (nxN k b))).e,[],0⟩
  else⟨0,nxF k b::(Ce ks (b.drop (nxN k b))).l,nxN k b+(Ce ks (b.drop (nxN k b))).n⟩
theorem Re (k:Int)(ks:List Int)(b:Bs):Ce (k::ks) b=if nxE k b≠0 then⟨nxE k b,[],0⟩ else
  if(Ce ks (b.drop (nxN k b))).e≠0 then⟨(Ce ks (b.drop (nxN k b))).e,[],0⟩
  else⟨0,nxF k b::(Ce ks (b.drop (nxN k b))).l,nxN k b+(Ce ks (b.drop (nxN k b))).n⟩:=rfl
theorem Z2c (b:Bs)(x:UInt8):Xz (b++[x])=Xz b * 256+x.toNat:=by unfold Xz;rw[List.foldl_append];rfl
theorem Z0c (b:Bs):Xz b < 256 ^ b.length:=by
 have key:∀(b:Bs) (v:Nat) (m:Nat),v < m->b.foldl (λv x=>v * 256+x.toNat) v < m * 256 ^ b.length:=by
  intro b
  induction b with
  | nil=>intro v m h;simpa using h
  | cons x b ih =>
   intro v m h;have a:=x.toNat_lt;have:=ih (v * 256+x.toNat) (m * 256) (by omega);rw[List.foldl_cons,bn,Nat.pow_succ']
   rwa [<-Nat.mul_assoc]
 have:=key b 0 1 (by omega);unfold Xz;simpa using this
theorem Zbt (k:Int):szN k<=8:=by unfold szN;split<;>(try split)<;>(try split)<;>omega
theorem Za9 {k:Int}(h:1<=k/\k<=4):1<=szN k:=by
 unfold szN;split
 .omega
 .split
  .omega
  .split<;>omega
theorem Z72 {k:Int}{b:Bs}(h:nxE k b=0):nxN k b<=b.length/\1<=nxN k b:=by
 unfold nxE at h;split at h
 .cases h
 next c =>
 have c:1<=k/\k<=4:=ao.1 c;split at h
 .cases h
 next d =>
 split at h
 .cases h
 unfold nxN;by_cases a:k=3
 .rw[dq a];rw[dp (by simp[a])] at h;split at h
  .cases h
  split at h
  .cases h
  omega
 .rw[dp a];have:=Za9 c;omega
theorem Ma:∀(ks:List Int) (b:Bs),(Ce ks b).n<=b.length/\((Ce ks b).e=0->(Ce ks b).l.length=ks.length)
 | [],b=>⟨aw _,λ_=>rfl⟩
 | k::ks,b=>by
  have d:=Ma ks (b.drop (nxN k b));unfold Ce;split
  .next h=>exact⟨aw _,λc=>dt c h⟩
  .next h =>
   have h:=Z72 (ao.1 h);split
   .next a=>exact⟨aw _,λc=>dt c a⟩
   .next a =>
    have a:=ao.1 a;have f:=d.1;rw[bm] at f;exact⟨by simp only;omega,λ_=>by simp[d.2 a]⟩
theorem Rh:∀(ks:List Int) (b:Bs) (k:Int),(Ce ks b).e=0->Ce (ks++[k]) b=if nxE k (b.drop (Ce ks b).n)≠0 then⟨nxE k (b.drop (Ce ks b).n),[],0⟩ else⟨0,(Ce ks b).l++[nxF k (b.drop (Ce ks b).n)],(Ce ks b).n+nxN k (b.drop (Ce ks b).n)⟩
 | [],b,k,_=>by
  show Ce [k] b=if nxE k (b.drop 0)≠0 then⟨nxE k (b.drop 0),[],0⟩ else⟨0,[]++[nxF k (b.drop 0)],0+nxN k (b.drop 0)⟩;rw[List.drop_zero];unfold Ce;by_cases h:nxE k b≠0
  .rw[dq h,dq h]
  .rw[dp h,dp h,dp (λh=>h rfl)];simp[Ce]
 | j::ks,b,k,h=>by
  by_cases c:nxE j b≠0
  .unfold Ce at h;rw[dq c] at h;exact dt h c
  .by_cases a:(Ce ks (b.drop (nxN j b))).e≠0
   .unfold Ce at h;rw[dp c,dq a] at h;exact dt h a
   .have a:=ao.1 a;have f:=Rh ks (b.drop (nxN j b)) k a;have e:Ce (j::ks) b=⟨0,nxF j b::(Ce ks (b.drop (nxN j b))).l,nxN j b+(Ce ks (b.drop (nxN j b))).n⟩:=by
     conv=>lhs;unfold Ce
     rw[dp c,dp (λh=>h a)]
    rw[e];show Ce (j::(ks++[k])) b=_
    conv=>lhs;unfold Ce
    rw[dp c,f,List.drop_drop];by_cases d:nxE k (b.drop (nxN j b+(Ce ks (b.drop (nxN j b))).n))≠0
    .rw[dq d,dq d];simp only;rw[dq d]
    .rw[dp d,dp d];simp[Nat.add_assoc]
theorem Uc:∀(ks:List Int) (b:Bs) (i:Nat) (k:Int),ks[i]?=some k->(Ce (ks.take i) b).e=0->nxE k (b.drop (Ce (ks.take i) b).n)≠0->Ce ks b=⟨nxE k (b.drop (Ce (ks.take i) b).n),[],0⟩
 | [],b,i,k,h,_,_=>by simp at h
 | j::ks,b,0,k,h,_,a=>by simp at h;subst h;have a:nxE j (b.drop 0)≠0:=a;show Ce (j::ks) b=⟨nxE j (b.drop 0),[],0⟩;rw[List.drop_zero] at a⊢;unfold Ce;rw[dq a]
 | j::ks,b,i+1,k,h,h1,a=>by
  have h:ks[i]?=some k:=by simpa using h
  rw[List.take_succ_cons] at h1 a⊢;by_cases d:nxE j b≠0
  .unfold Ce at h1;rw[dq d] at h1;exact dt h1 d
  .by_cases c:(Ce (ks.take i) (b.drop (nxN j b))).e≠0
   .unfold Ce at h1;rw[dp d,dq c] at h1;exact dt h1 c
   .have c:=ao.1 c;have e:(Ce (j::ks.take i) b).n=nxN j b+(Ce (ks.take i) (b.drop (nxN j b))).n:=by
     rw[Re,dp d,dp (λh=>h c)]
    rw[e,<-List.drop_drop] at a⊢;have f:=Uc ks (b.drop (nxN j b)) i k h c a
    conv=>lhs;unfold Ce
    rw[dp d,f,dq a]
def Rf (ks:List Int)(b:Bs):Sm:=if(Ce ks b).e≠0 then⟨(Ce ks b).e,[],0⟩ else if(Ce ks b).n≠b.length then⟨21,[],0⟩ else Ce ks b
def eS:ByteArray:=⟨#[]⟩
def bI (b:Bool):Int:=if b then 1 else 0
def chF (c:RC)(v:Int):List RFd:=[⟨1,c.kind,eS⟩,⟨3,0,c.path⟩,⟨3,0,c.data⟩,⟨2,v,eS⟩,⟨4,bI c.ep,eS⟩,⟨4,bI c.sq,eS⟩]
def veP (v:Int):Int:=if v < big then v+1 else -1
def hdF (t:RT):List RFd:=[⟨1,t.kind,eS⟩,⟨2,t.se,eS⟩,⟨2,t.nu,eS⟩,⟨2,t.sp,eS⟩,⟨2,t.no,eS⟩,⟨1,t.l.length,eS⟩]
def Zg8 (l:List RC):List RFd:=l.flatMap λc=>chF c (veP c.ve)
def txF (t:RT):List RFd:=hdF t++Zg8 t.l
def okT (t:RT):Prop:=t.l.length<=6/\Ny (txF t)=0/\(Ic (txF t)).length<=4096
instance (t:RT):Decidable (okT t):=inferInstanceAs (Decidable (_/\_/\_))
theorem Ml:∀{l:List RFd},Ny l=0->∀f∈l,fdE f=0
 | [],_,f,a=>by cases a
 | x::l,h,f,a=>by
  unfold Ny at h;by_cases b:fdE x=0
  .rw[dq b] at h;rcases bq.1 a with rfl | a
   .exact b
   .exact Ml h f a
  .rw[dp b] at h;exact dt h b
def kHd:List Int:=[1,2,2,2,2,1]
def kCh:List Int:=[1,3,3,2,4,4]
def Zfz:Nat->List Int
 | 0=>[]
 | i+1=>Zfz i++kCh
def Zfu (b:Bs):Int:=match(Ce kHd b).l with
 | [_,_,_,_,_,f]=>f.n
 | _=>0
def okD (b:Bs):Prop:=(Ce kHd b).e=0/\Zfu b<=6/\b.length<=4096/\(Rf (Zfz (Zfu b).toNat) (b.drop (Ce kHd b).n)).e=0
instance (b:Bs):Decidable (okD b):=inferInstanceAs (Decidable (_/\_/\_/\_))
def eD (b:Bs):Int:=if okD b then 0 else 110
theorem Z3j (n:Int)(q:0<=n)(h:n<=big):(Xz (be8 n):Int)=n:=by
 have e:∀x:Int,((byI x).toNat:Int)=x % 256:=M8;unfold big at h;have r:=e n;have p:=e (n / 256);have f:=e (n / 65536);have o:=e (n / 16777216);have b:=e (n / 4294967296);have c:=e (n / 1099511627776);have k:=e (n / 281474976710656);have a:=e (n / 72057594037927936);show((((((((((0 * 256+(byI (n / 72057594037927936)).toNat) * 256+(byI (n / 281474976710656)).toNat) * 256+(byI (n / 1099511627776)).toNat) * 256+(byI (n / 4294967296)).toNat) * 256+(byI (n / 16777216)).toNat) * 256+(byI (n / 65536)).toNat) * 256+(byI (n / 256)).toNat) * 256+(byI n).toNat:Nat)):Int)=n;have m:n / 65536=n / 256 / 256:=by omega
 have g:n / 16777216=n / 256 / 256 / 256:=by omega
 have d:n / 4294967296=n / 256 / 256 / 256 / 256:=by omega
 have l:n / 1099511627776=n / 256 / 256 / 256 / 256 / 256:=by omega
 have j:n / 281474976710656=n / 256 / 256 / 256 / 256 / 256 / 256:=by omega
 have i:n / 72057594037927936=n / 256 / 256 / 256 / 256 / 256 / 256 / 256:=by omega
 rw[m] at f⊢;rw[g] at o⊢;rw[d] at b⊢;rw[l] at c⊢;rw[j] at k⊢;rw[i] at a⊢;omega
theorem Z2y (x:UInt8):Xz [x]=x.toNat:=by show 0 * 256+x.toNat=_;omega
theorem Zl {f:RFd}(h:fdE f=0):(f.kind=3/\f.n=0/\f.s.size<=1024)\/((f.kind=1/\f.n<=255\/f.kind=4/\f.n<=1\/f.kind=2/\f.n<=big)/\f.s=eS/\0<=f.n):=by
 unfold fdE at h;by_cases b:f.kind=3
 .rw[dq b] at h;by_cases a:f.n≠0
  .rw[dq a] at h;cases h
  .rw[dp a] at h;by_cases g:f.s.size > 1024
   .rw[dq g] at h;cases h
   .exact .inl ⟨b,ao.1 a,by omega⟩
 .rw[dp b] at h;by_cases a:f.s≠⟨#[]⟩\/f.n < 0
  .rw[dq a] at h;cases h
  .rw[dp a] at h;have e:f.s=eS:=ao.1 λc=>a (.inl c);have i:0<=f.n:=Int.not_lt.1 λc=>a (.inr c);refine .inr ⟨?_,e,i⟩;by_cases a1:f.kind=1/\f.n<=255
   .exact .inl a1
   .rw[dp a1] at h;by_cases a2:f.kind=4/\f.n<=1
    .exact .inr (.inl a2)
    .rw[dp a2] at h;by_cases d:f.kind=2/\f.n<=big
     .exact .inr (.inr d)
     .rw[dp d] at h;cases h
theorem Z99 {f:RFd}(h:fdE f=0):1<=f.kind/\f.kind<=4:=by rcases Zl h with⟨h,-⟩ | ⟨h,-⟩<;>omega
theorem Zdl:szN 2=8:=rfl
theorem Zfi:szN 3=2:=rfl
theorem Vz {α:Type}(a b:List α)(n:Nat)(h:a.length=n):(a++b).take n=a:=by subst h;exact List.take_left
theorem W1 {k:Int}{b:Bs}(a:1<=k/\k<=4)(c:k≠3)(e:szN k<=b.length)(d:¬((k=2/\big < nxV k b)\/(k=4/\1 < nxV k b))):nxE k b=0:=by unfold nxE;rw[dp (λh=>h a),dp (by omega),dp d,dq c]
theorem Z08 {f:RFd}{k n:Int}{s:ByteArray}(c:f.kind=k)(b:f.n=n)(a:f.s=s):(⟨k,n,s⟩:RFd)=f:=by cases f;cases c;cases b;cases a;rfl
theorem Zej {f:RFd}(h:fdE f=0)(r:Bs):nxE f.kind (fdB f++r)=0/\nxF f.kind (fdB f++r)=f/\nxN f.kind (fdB f++r)=(fdB f).length:=by
 have e:=Z99 h;rcases Zl h with⟨b,hn,hs⟩ | ⟨b,hs,hn⟩
 .have a:fdB f=byI ((f.s.size:Int) / 256)::byI f.s.size::f.s.data.toList:=by unfold fdB;rw[dq b]
  have g:f.s.data.toList.length=f.s.size:=by rw[cp];rfl
  have c:nxV f.kind (fdB f++r)=f.s.size:=by unfold nxV;rw[b,a];show(0 * 256+(byI ((f.s.size:Int) / 256)).toNat) * 256+(byI f.s.size).toNat=_;have l:=M8 ((f.s.size:Int) / 256);have m:=M8 (f.s.size:Int);omega
  refine⟨?_,?_,?_⟩
  .unfold nxE;rw[dp (λh=>h e),dp (by rw[b,Zfi,a];simp),dp (by omega),dp (λh=>h b),c,dp (by omega),dp (by rw[a];simp only[List.length_append,List.length_cons,g];omega)]
  .unfold nxF;rw[dq b,c];refine Z08 b hn ?_;rw[a];show f.s=⟨((f.s.data.toList++r).take f.s.size).toArray⟩;rw[Vz _ _ _ g]
  .unfold nxN;rw[dq b,c,a];simp only[List.length_cons,g];omega
 .have d:f.kind≠3:=by omega
  by_cases i:f.kind=2
  .have a:fdB f=be8 f.n:=by unfold fdB;rw[dp d,dq i]
   have k:(be8 f.n).length=8:=rfl;have c:((nxV f.kind (fdB f++r):Nat):Int)=f.n:=by unfold nxV;rw[i,Zdl,a,Vz _ _ _ k];exact Z3j f.n hn (by omega)
   refine⟨W1 e d (by rw[i,Zdl,a,bg,k];omega) (by rw[c];omega),?_,?_⟩
   .unfold nxF;rw[dp d,c];exact Z08 rfl rfl hs
   .unfold nxN;rw[dp d,i,a];rfl
  .have a:fdB f=[byI f.n]:=by unfold fdB;rw[dp d,dp i]
   have j:szN f.kind=1:=by rcases b with⟨h,-⟩ | ⟨h,-⟩ | ⟨h,-⟩<;>first | (rw[h];rfl) | omega
   have c:((nxV f.kind (fdB f++r):Nat):Int)=f.n:=by unfold nxV;rw[j,a];show((Xz [byI f.n]:Nat):Int)=f.n;rw[Z2y,M8];omega
   refine⟨W1 e d (by rw[j,a];simp) (by rw[c];omega),?_,?_⟩
   .unfold nxF;rw[dp d,c];exact Z08 rfl rfl hs
   .unfold nxN;rw[dp d,j,a];rfl
theorem Sn:∀(l:List RFd) (r:Bs),Ny l=0->Ce (l.map RFd.kind) (Ic l++r)=⟨0,l,(Ic l).length⟩
 | [],r,_=>rfl
 | f::l,r,h=>by
  have a:=Ml h f (by simp);have b:Ny l=0:=by unfold Ny at h;rwa [dq a] at h
  have g:Ic (f::l)=fdB f++Ic l:=rfl;obtain⟨c,d,i⟩:=Zej a (Ic l++r);have e:=Sn l r b;rw[g,cf,cv,Re,dp (λh=>h c),d,i,List.drop_left,e,dp (λh=>h rfl)];simp
theorem Z24 {l m:List RFd}(h:Ny (l++m)=0):Ny l=0 :=
 Vu λx a=>Ml h x (cd.2 (.inl a))
theorem Z5k (l m:List RFd):Ic (l++m)=Ic l++Ic m:=by unfold Ic;rw[List.flatMap_append]
theorem Z8h {ks:List Int}{b:Bs}(h:(Rf ks b).e=0):(Ce ks b).e=0/\(Ce ks b).n=b.length/\Rf ks b=Ce ks b:=by
 unfold Rf at h⊢;by_cases a:(Ce ks b).e≠0
 .rw[dq a] at h;exact dt h a
 rw[dp a] at h⊢;by_cases c:(Ce ks b).n≠b.length
 .rw[dq c] at h;cases h
 .rw[dp c];exact⟨ao.1 a,ao.1 c,rfl⟩
theorem Z6a {l:List RFd}(h:Ny l=0):Rf (l.map RFd.kind) (Ic l)=⟨0,l,(Ic l).length⟩:=by have:=Sn l [] h;rw[dk] at this;unfold Rf;rw[this,dp (λh=>h rfl),dp (λh=>h rfl)]
end Go.Proofs.YtmmdikhljefeiaaGreat


import Derived.Test.YtmmdikhljefeiaaGreatZM1
namespace Go.Proofs.YtmmdikhljefeiaaGreat
structure RFd where
 kind:Int
 n:Int
 s:ByteArray
abbrev Bs:=List UInt8
def byI (n:Int):UInt8:=UInt8.ofNat (n % 256).toNat
theorem Lj (n:Int):(((byI n).toNat:Nat):Int)=n % 256:=by
 unfold byI;have b:(n % 256).toNat < 256:=by omega
 have a:(UInt8.ofNat (n % 256).toNat).toNat=(n % 256).toNat:=by rw[UInt8.toNat_ofNat'];omega
 rw[a];omega
def be8 (n:Int):Bs:=[byI (n / 72057594037927936),byI (n / 281474976710656),byI (n / 1099511627776),byI (n / 4294967296),byI (n / 16777216),byI (n / 65536),byI (n / 256),byI n]
def fdE (f:RFd):Int :=
 if f.kind=3 then(if f.n≠0 then 21 else if f.s.size > 1024 then 22 else 0)
 else if f.s≠⟨#[]⟩\/f.n < 0 then 21
 else if f.kind=1/\f.n<=255 then 0 else if f.kind=4/\f.n<=1 then 0 else if f.kind=2/\f.n<=big then 0 else 21
def fdB (f:RFd):Bs:=if f.kind=3 then byI ((f.s.size:Int) / 256)::byI f.s.size::f.s.data.toList else if f.kind=2 then be8 f.n else [byI f.n]
def O0:List RFd->Int
 | []=>0
 | f::l=>if fdE f=0 then O0 l else fdE f
def Il (l:List RFd):Bs:=l.flatMap fdB
def Ze3 (l:List RFd):Bs:=if O0 l=0 then Il l else []
theorem Z9g {f:RFd}(h:fdE f=0):(fdB f).length<=1026:=by
 unfold fdB;split
 .next b =>
  unfold fdE at h;rw[dt b] at h;have d:f.s.data.toList.length=f.s.size:=by rw[cq];rfl
  by_cases a:f.n≠0
  .rw[dt a] at h;omega
  .rw[dq a] at h;by_cases c:f.s.size > 1024
   .rw[dt c] at h;omega
   .simp only[List.length_cons,d];omega
 .split
  .simp[be8]
  .simp
theorem Zao {l:List RFd}{i:Nat}{f:RFd}(a:l[i]?=some f)(h:∀x∈l.take i,fdE x=0)(d:fdE f≠0):O0 l=fdE f:=by
 induction l generalizing i with
 | nil=>simp at a
 | cons x l ih =>
  cases i with
  | zero=>simp at a;subst a;unfold O0;rw[dq d]
  | succ i =>
   have c:=h x (by simp);unfold O0;rw[dt c];exact ih (by simpa using a) λy b=>h y (by simp[b])
theorem Wg {l:List RFd}(h:∀x∈l,fdE x=0):O0 l=0:=by
 induction l with
 | nil=>rfl
 | cons x l ih=>unfold O0;rw[dt (h x (by simp))];exact ih λy a=>h y (by simp[a])
theorem Z6g {l:List RFd}(h:∀x∈l,fdE x=0):(Il l).length<=1026 * l.length:=by
 induction l with
 | nil=>simp[Il]
 | cons x l ih =>
  have b:=Z9g (h x (by simp));have c:=ih λy a=>h y (by simp[a]);unfold Il at *;rw[List.flatMap_cons,bf,bm];omega
def szN (k:Int):Nat:=if k=1\/k=4 then 1 else if k=2 then 8 else if k=3 then 2 else 0
def Yj (b:Bs):Nat:=b.foldl (λv x=>v * 256+x.toNat) 0
def nxV (k:Int)(b:Bs):Nat:=Yj (b.take (szN k))
def nxE (k:Int)(b:Bs):Int :=
 if ¬(1<=k/\k<=4) then 21 else if b.length < szN k then 20
 else if(k=2/\big < nxV k b)\/(k=4/\1 < nxV k b) then 21
 else if k≠3 then 0 else if 1024 < nxV k b then 22 else if b.length < 2+nxV k b then 20 else 0
def nxF (k:Int)(b:Bs):RFd:=if k=3 then⟨3,0,⟨((b.drop 2).take (nxV k b)).toArray⟩⟩ else⟨k,nxV k b,⟨#[]⟩⟩
def nxN (k:Int)(b:Bs):Nat:=if k=3 then 2+nxV k b else szN k
def fd0:RFd:=⟨0,0,⟨#[]⟩⟩
structure Sm where
 e:Int
 l:List RFd
 n:Nat
def Cf:List Int->Bs->Sm
 | [],_=>⟨0,[],0⟩
 | k::ks,b=>if nxE k b≠0 then⟨nxE k b,[],0⟩ else
  if(Cf ks (b.drop (nxN k b))).e≠0 then⟨(Cf ks (b.drop (nxN k b))).e,[],0⟩
  else⟨0,nxF k b::(Cf ks (b.drop (nxN k b))).l,nxN k b+(Cf ks (b.drop (nxN k b))).n⟩
theorem Rl (k:Int)(ks:List Int)(b:Bs):Cf (k::ks) b=if nxE k b≠0 then⟨nxE k b,[],0⟩ else
  if(Cf ks (b.drop (nxN k b))).e≠0 then⟨(Cf ks (b.drop (nxN k b))).e,[],0⟩
  else⟨0,nxF k b::(Cf ks (b.drop (nxN k b))).l,nxN k b+(Cf ks (b.drop (nxN k b))).n⟩:=rfl
theorem Z08 (b:Bs)(x:UInt8):Yj (b++[x])=Yj b * 256+x.toNat:=by unfold Yj;rw[List.foldl_append];rfl
theorem Z1x (b:Bs):Yj b < 256 ^ b.length:=by
 have key:∀(b:Bs) (v:Nat) (m:Nat),v < m->b.foldl (λv x=>v * 256+x.toNat) v < m * 256 ^ b.length:=by
  intro b
  induction b with
  | nil=>intro v m h;simpa using h
  | cons x b ih =>
   intro v m h;have a:=x.toNat_lt;have:=ih (v * 256+x.toNat) (m * 256) (by omega);rw[List.foldl_cons,bm,Nat.pow_succ']
   rwa [<-Nat.mul_assoc]
 have:=key b 0 1 (by omega);unfold Yj;simpa using this
theorem Zcv (k:Int):szN k<=8:=by unfold szN;split<;>(try split)<;>(try split)<;>omega
theorem Z9p {k:Int}(h:1<=k/\k<=4):1<=szN k:=by
 unfold szN;split
 .omega
 .split
  .omega
  .split<;>omega
theorem Z7q {k:Int}{b:Bs}(h:nxE k b=0):nxN k b<=b.length/\1<=nxN k b:=by
 unfold nxE at h;split at h
 .cases h
 next a =>
 have a:1<=k/\k<=4:=an.1 a;split at h
 .cases h
 next d =>
 split at h
 .cases h
 unfold nxN;by_cases c:k=3
 .rw[dt c];rw[dq (by simp[c])] at h;split at h
  .cases h
  split at h
  .cases h
  omega
 .rw[dq c];have:=Z9p a;omega
theorem Lk:∀(ks:List Int) (b:Bs),(Cf ks b).n<=b.length/\((Cf ks b).e=0->(Cf ks b).l.length=ks.length)
 | [],b=>⟨av _,λ_=>rfl⟩
 | k::ks,b=>by
  have d:=Lk ks (b.drop (nxN k b));unfold Cf;split
  .next h=>exact⟨av _,λc=>du c h⟩
  .next h =>
   have h:=Z7q (an.1 h);split
   .next a=>exact⟨av _,λc=>du c a⟩
   .next a =>
    have a:=an.1 a;have f:=d.1;rw[bk] at f;exact⟨by simp only;omega,λ_=>by simp[d.2 a]⟩
theorem R5:∀(ks:List Int) (b:Bs) (k:Int),(Cf ks b).e=0->Cf (ks++[k]) b=if nxE k (b.drop (Cf ks b).n)≠0 then⟨nxE k (b.drop (Cf ks b).n),[],0⟩ else⟨0,(Cf ks b).l++[nxF k (b.drop (Cf ks b).n)],(Cf ks b).n+nxN k (b.drop (Cf ks b).n)⟩
 | [],b,k,_=>by
  show Cf [k] b=if nxE k (b.drop 0)≠0 then⟨nxE k (b.drop 0),[],0⟩ else⟨0,[]++[nxF k (b.drop 0)],0+nxN k (b.drop 0)⟩;rw[List.drop_zero];unfold Cf;by_cases h:nxE k b≠0
  .rw[dt h,dt h]
  .rw[dq h,dq h,dq (λh=>h rfl)];simp[Cf]
 | j::ks,b,k,h=>by
  by_cases c:nxE j b≠0
  .unfold Cf at h;rw[dt c] at h;exact du h c
  .by_cases a:(Cf ks (b.drop (nxN j b))).e≠0
   .unfold Cf at h;rw[dq c,dt a] at h;exact du h a
   .have a:=an.1 a;have f:=R5 ks (b.drop (nxN j b)) k a;have e:Cf (j::ks) b=⟨0,nxF j b::(Cf ks (b.drop (nxN j b))).l,nxN j b+(Cf ks (b.drop (nxN j b))).n⟩:=by
     conv=>lhs;unfold Cf
     rw[dq c,dq (λh=>h a)]
    rw[e];show Cf (j::(ks++[k])) b=_
    conv=>lhs;unfold Cf
    rw[dq c,f,List.drop_drop];by_cases d:nxE k (b.drop (nxN j b+(Cf ks (b.drop (nxN j b))).n))≠0
    .rw[dt d,dt d];simp only;rw[dt d]
    .rw[dq d,dq d];simp[Nat.add_assoc]
theorem We:∀(ks:List Int) (b:Bs) (i:Nat) (k:Int),ks[i]?=some k->(Cf (ks.take i) b).e=0->nxE k (b.drop (Cf (ks.take i) b).n)≠0->Cf ks b=⟨nxE k (b.drop (Cf (ks.take i) b).n),[],0⟩
 | [],b,i,k,h,_,_=>by simp at h
 | j::ks,b,0,k,h,_,a=>by simp at h;subst h;have a:nxE j (b.drop 0)≠0:=a;show Cf (j::ks) b=⟨nxE j (b.drop 0),[],0⟩;rw[List.drop_zero] at a⊢;unfold Cf;rw[dt a]
 | j::ks,b,i+1,k,h,h1,a=>by
  have h:ks[i]?=some k:=by simpa using h
  rw[List.take_succ_cons] at h1 a⊢;by_cases d:nxE j b≠0
  .unfold Cf at h1;rw[dt d] at h1;exact du h1 d
  .by_cases c:(Cf (ks.take i) (b.drop (nxN j b))).e≠0
   .unfold Cf at h1;rw[dq d,dt c] at h1;exact du h1 c
   .have c:=an.1 c;have e:(Cf (j::ks.take i) b).n=nxN j b+(Cf (ks.take i) (b.drop (nxN j b))).n:=by
     rw[Rl,dq d,dq (λh=>h c)]
    rw[e,<-List.drop_drop] at a⊢;have f:=We ks (b.drop (nxN j b)) i k h c a
    conv=>lhs;unfold Cf
    rw[dq d,f,dt a]
def S9 (ks:List Int)(b:Bs):Sm:=if(Cf ks b).e≠0 then⟨(Cf ks b).e,[],0⟩ else if(Cf ks b).n≠b.length then⟨21,[],0⟩ else Cf ks b
def eS:ByteArray:=⟨#[]⟩
def bI (b:Bool):Int:=if b then 1 else 0
def chF (c:RC)(v:Int):List RFd:=[⟨1,c.kind,eS⟩,⟨3,0,c.path⟩,⟨3,0,c.data⟩,⟨2,v,eS⟩,⟨4,bI c.ep,eS⟩,⟨4,bI c.sq,eS⟩]
def veP (v:Int):Int:=if v < big then v+1 else -1
def hdF (t:RT):List RFd:=[⟨1,t.kind,eS⟩,⟨2,t.se,eS⟩,⟨2,t.nu,eS⟩,⟨2,t.sp,eS⟩,⟨2,t.no,eS⟩,⟨1,t.l.length,eS⟩]
def Zh0 (l:List RC):List RFd:=l.flatMap λc=>chF c (veP c.ve)
def txF (t:RT):List RFd:=hdF t++Zh0 t.l
def okT (t:RT):Prop:=t.l.length<=6/\O0 (txF t)=0/\(Il (txF t)).length<=4096
instance (t:RT):Decidable (okT t):=inferInstanceAs (Decidable (_/\_/\_))
theorem Mb:∀{l:List RFd},O0 l=0->∀f∈l,fdE f=0
 | [],_,f,a=>by cases a
 | x::l,h,f,a=>by
  unfold O0 at h;by_cases b:fdE x=0
  .rw[dt b] at h;rcases bq.1 a with rfl | a
   .exact b
   .exact Mb h f a
  .rw[dq b] at h;exact du h b
def kHd:List Int:=[1,2,2,2,2,1]
def kCh:List Int:=[1,3,3,2,4,4]
def Zgc:Nat->List Int
 | 0=>[]
 | i+1=>Zgc i++kCh
def Zfy (b:Bs):Int:=match(Cf kHd b).l with
 | [_,_,_,_,_,f]=>f.n
 | _=>0
def okD (b:Bs):Prop:=(Cf kHd b).e=0/\Zfy b<=6/\b.length<=4096/\(S9 (Zgc (Zfy b).toNat) (b.drop (Cf kHd b).n)).e=0
instance (b:Bs):Decidable (okD b):=inferInstanceAs (Decidable (_/\_/\_/\_))
def eD (b:Bs):Int:=if okD b then 0 else 110
theorem Z3i (n:Int)(r:0<=n)(c:n<=big):(Yj (be8 n):Int)=n:=by
 have e:∀x:Int,((byI x).toNat:Int)=x % 256:=Lj;unfold big at c;have p:=e n;have q:=e (n / 256);have i:=e (n / 65536);have a:=e (n / 16777216);have d:=e (n / 4294967296);have b:=e (n / 1099511627776);have m:=e (n / 281474976710656);have g:=e (n / 72057594037927936);show((((((((((0 * 256+(byI (n / 72057594037927936)).toNat) * 256+(byI (n / 281474976710656)).toNat) * 256+(byI (n / 1099511627776)).toNat) * 256+(byI (n / 4294967296)).toNat) * 256+(byI (n / 16777216)).toNat) * 256+(byI (n / 65536)).toNat) * 256+(byI (n / 256)).toNat) * 256+(byI n).toNat:Nat)):Int)=n;have k:n / 65536=n / 256 / 256:=by omega
 have h:n / 16777216=n / 256 / 256 / 256:=by omega
 have j:n / 4294967296=n / 256 / 256 / 256 / 256:=by omega
 have o:n / 1099511627776=n / 256 / 256 / 256 / 256 / 256:=by omega
 have f:n / 281474976710656=n / 256 / 256 / 256 / 256 / 256 / 256:=by omega
 have l:n / 72057594037927936=n / 256 / 256 / 256 / 256 / 256 / 256 / 256:=by omega
 rw[k] at i⊢;rw[h] at a⊢;rw[j] at d⊢;rw[o] at b⊢;rw[f] at m⊢;rw[l] at g⊢;omega
theorem Z5z (x:UInt8):Yj [x]=x.toNat:=by show 0 * 256+x.toNat=_;omega
theorem Zs {f:RFd}(h:fdE f=0):(f.kind=3/\f.n=0/\f.s.size<=1024)\/((f.kind=1/\f.n<=255\/f.kind=4/\f.n<=1\/f.kind=2/\f.n<=big)/\f.s=eS/\0<=f.n):=by
 unfold fdE at h;by_cases b:f.kind=3
 .rw[dt b] at h;by_cases a:f.n≠0
  .rw[dt a] at h;cases h
  .rw[dq a] at h;by_cases g:f.s.size > 1024
   .rw[dt g] at h;cases h
   .exact .inl ⟨b,an.1 a,by omega⟩
 .rw[dq b] at h;by_cases a:f.s≠⟨#[]⟩\/f.n < 0
  .rw[dt a] at h;cases h
  .rw[dq a] at h;have i:f.s=eS:=an.1 λc=>a (.inl c);have e:0<=f.n:=Int.not_lt.1 λc=>a (.inr c);refine .inr ⟨?_,i,e⟩;by_cases a1:f.kind=1/\f.n<=255
   .exact .inl a1
   .rw[dq a1] at h;by_cases a2:f.kind=4/\f.n<=1
    .exact .inr (.inl a2)
    .rw[dq a2] at h;by_cases d:f.kind=2/\f.n<=big
     .exact .inr (.inr d)
     .rw[dq d] at h;cases h
theorem Z8y {f:RFd}(h:fdE f=0):1<=f.kind/\f.kind<=4:=by rcases Zs h with⟨h,-⟩ | ⟨h,-⟩<;>omega
theorem Zbm:szN 2=8:=rfl
theorem Zex:szN 3=2:=rfl
theorem Wn {α:Type}(a b:List α)(n:Nat)(h:a.length=n):(a++b).take n=a:=by subst h;exact List.take_left
theorem Ux {k:Int}{b:Bs}(c:1<=k/\k<=4)(a:k≠3)(e:szN k<=b.length)(d:¬((k=2/\big < nxV k b)\/(k=4/\1 < nxV k b))):nxE k b=0:=by unfold nxE;rw[dq (λh=>h c),dq (by omega),dq d,dt a]
theorem Z01 {f:RFd}{k n:Int}{s:ByteArray}(a:f.kind=k)(c:f.n=n)(b:f.s=s):(⟨k,n,s⟩:RFd)=f:=by cases f;cases a;cases c;cases b;rfl
theorem Zfk {f:RFd}(h:fdE f=0)(r:Bs):nxE f.kind (fdB f++r)=0/\nxF f.kind (fdB f++r)=f/\nxN f.kind (fdB f++r)=(fdB f).length:=by
 have e:=Z8y h;rcases Zs h with⟨c,hn,hs⟩ | ⟨c,hs,hn⟩
 .have a:fdB f=byI ((f.s.size:Int) / 256)::byI f.s.size::f.s.data.toList:=by unfold fdB;rw[dt c]
  have g:f.s.data.toList.length=f.s.size:=by rw[cq];rfl
  have b:nxV f.kind (fdB f++r)=f.s.size:=by unfold nxV;rw[c,a];show(0 * 256+(byI ((f.s.size:Int) / 256)).toNat) * 256+(byI f.s.size).toNat=_;have l:=Lj ((f.s.size:Int) / 256);have m:=Lj (f.s.size:Int);omega
  refine⟨?_,?_,?_⟩
  .unfold nxE;rw[dq (λh=>h e),dq (by rw[c,Zex,a];simp),dq (by omega),dq (λh=>h c),b,dq (by omega),dq (by rw[a];simp only[List.length_append,List.length_cons,g];omega)]
  .unfold nxF;rw[dt c,b];refine Z01 c hn ?_;rw[a];show f.s=⟨((f.s.data.toList++r).take f.s.size).toArray⟩;rw[Wn _ _ _ g]
  .unfold nxN;rw[dt c,b,a];simp only[List.length_cons,g];omega
 .have d:f.kind≠3:=by omega
  by_cases i:f.kind=2
  .have a:fdB f=be8 f.n:=by unfold fdB;rw[dq d,dt i]
   have k:(be8 f.n).length=8:=rfl;have b:((nxV f.kind (fdB f++r):Nat):Int)=f.n:=by unfold nxV;rw[i,Zbm,a,Wn _ _ _ k];exact Z3i f.n hn (by omega)
   refine⟨Ux e d (by rw[i,Zbm,a,bf,k];omega) (by rw[b];omega),?_,?_⟩
   .unfold nxF;rw[dq d,b];exact Z01 rfl rfl hs
   .unfold nxN;rw[dq d,i,a];rfl
  .have a:fdB f=[byI f.n]:=by unfold fdB;rw[dq d,dq i]
   have j:szN f.kind=1:=by rcases c with⟨h,-⟩ | ⟨h,-⟩ | ⟨h,-⟩<;>first | (rw[h];rfl) | omega
   have b:((nxV f.kind (fdB f++r):Nat):Int)=f.n:=by unfold nxV;rw[j,a];show((Yj [byI f.n]:Nat):Int)=f.n;rw[Z5z,Lj];omega
   refine⟨Ux e d (by rw[j,a];simp) (by rw[b];omega),?_,?_⟩
   .unfold nxF;rw[dq d,b];exact Z01 rfl rfl hs
   .unfold nxN;rw[dq d,j,a];rfl
theorem Tw:∀(l:List RFd) (r:Bs),O0 l=0->Cf (l.map RFd.kind) (Il l++r)=⟨0,l,(Il l).length⟩
 | [],r,_=>rfl
 | f::l,r,h=>by
  have a:=Mb h f (by simp);have g:O0 l=0:=by unfold O0 at h;rwa [dt a] at h
  have e:Il (f::l)=fdB f++Il l:=rfl;obtain⟨b,i,c⟩:=Zfk a (Il l++r);have d:=Tw l r g;rw[e,cg,cw,Rl,dq (λh=>h b),i,c,List.drop_left,d,dq (λh=>h rfl)];simp
theorem Z24 {l m:List RFd}(h:O0 (l++m)=0):O0 l=0 :=
 Wg λx a=>Mb h x (ce.2 (.inl a))
theorem Z3w (l m:List RFd):Il (l++m)=Il l++Il m:=by unfold Il;rw[List.flatMap_append]
theorem Zak {ks:List Int}{b:Bs}(h:(S9 ks b).e=0):(Cf ks b).e=0/\(Cf ks b).n=b.length/\S9 ks b=Cf ks b:=by
 unfold S9 at h⊢;by_cases a:(Cf ks b).e≠0
 .rw[dt a] at h;exact du h a
 rw[dq a] at h⊢;by_cases c:(Cf ks b).n≠b.length
 .rw[dt c] at h;cases h
 .rw[dq c];exact⟨an.1 a,an.1 c,rfl⟩
theorem Z6s {l:List RFd}(h:O0 l=0):S9 (l.map RFd.kind) (Il l)=⟨0,l,(Il l).length⟩:=by have:=Tw l [] h;rw[dl] at this;unfold S9;rw[this,dq (λh=>h rfl),dq (λh=>h rfl)]
end Go.Proofs.YtmmdikhljefeiaaGreat

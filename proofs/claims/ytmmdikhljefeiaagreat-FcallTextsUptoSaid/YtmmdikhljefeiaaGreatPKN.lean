
import Derived.Test.YtmmdikhljefeiaaGreatPKM
import Derived.Test.YtmmdikhljefeiaaGreatYFnu
import Derived.Test.YtmmdikhljefeiaaGreatSxMc
import Derived.Test.YtmmdikhljefeiaaGreatZM1
namespace Go.Proofs.YtmmdikhljefeiaaGreat
open Go.RowKit
set_option maxRecDepth 100000
abbrev tU8:Nat:=5
def N1 (f:RFd):List G:=[gI f.kind,gI f.n,gS f.s]
theorem Fh (n:Int):gBy (byI n)=[.v (.int .u8 (n % 256))]:=by unfold gBy;rw[J3]
theorem Zcu (a b:Bs)(ha:a.length+b.length<=1000000000):FnO Tryz.prog 95 [.osl 0,.osl 1] [.slc (a.map gBy) tU8 1,.slc (b.map gBy) tU8 1] λg rs=>g=.osl 2/\rs=[.gone,.gone,.slc ((a++b).map gBy) tU8 1]:=by refine Z3e Tryz.func95 (Ea _ _) ?_;refine⟨by simp;omega,?_⟩;refine .inr ⟨1,_,itL [(0,.gone),(1,.gone),(3,.slc ((a++b).map gBy) tU8 1)],.osl 2,rfl,⟨⟨⟨_,rfl,rfl,rfl⟩,⟨_,rfl,rfl,rfl⟩,⟨_,rfl,?_,rfl⟩,trivial⟩,rfl,⟨_,rfl⟩,rfl,rfl,⟨rfl,rfl⟩⟩⟩;exact eqR (by rw[az])
theorem Z9y (a:Bs)(b:Bs)(ha:a.length+b.length<=1000000000):FnO Tryz.prog 95 [.osl 0,.sl (b.map gBy)] [.slc (a.map gBy) tU8 1] λg rs=>g=.osl 1/\rs=[.gone,.slc ((a++b).map gBy) tU8 1]:=by refine Z3e Tryz.func95 (Ea _ _) ?_;refine⟨λr hr=>by obtain⟨c,-,rfl⟩:=bi.1 hr;exact⟨rfl,rfl⟩,⟨by simp;omega,?_⟩⟩;refine .inl ⟨itL [(0,.gone),(2,.slc ((a++b).map gBy) tU8 1)],.osl 1,⟨⟨⟨_,rfl,rfl,rfl⟩,⟨_,rfl,?_,rfl⟩,trivial⟩,rfl,⟨_,rfl⟩,rfl,rfl,⟨rfl,rfl⟩⟩⟩;exact eqR (by rw[az])
theorem Z8d (a b:Bs){c:List (List G)}(hr:c=b.map gBy)(ha:a.length+b.length<=1000000000):FnO Tryz.prog 95 [.osl 0,.osl 1] [.slc (a.map gBy) tU8 1,.slc c tU8 1] λg rs=>g=.osl 2/\rs=[.gone,.gone,.slc ((a++b).map gBy) tU8 1]:=by subst hr;exact Zcu a b ha
theorem Mi (a b:Bs){c:List (List G)}(hr:c=b.map gBy)(ha:a.length+b.length<=1000000000):FnO Tryz.prog 95 [.osl 0,.sl c] [.slc (a.map gBy) tU8 1] λg rs=>g=.osl 1/\rs=[.gone,.slc ((a++b).map gBy) tU8 1]:=by subst hr;exact Z9y a b ha
theorem Jv (n m:Int)(j k:Nat)(a:min j 64=k)(b:(2:Int) ^ k=m)(c:0<=m):n.fdiv (2 ^ min j 64)=n / m:=by rw[a,b];exact Int.fdiv_eq_ediv_of_nonneg _ c
def FdP (b:Bs)(f:RFd)(g:G)(rs:List R):Prop:=g=.tup [.osl 1,gI (fdE f)]/\rs=[.gone,.slc ((if fdE f=0 then b++fdB f else []).map gBy) tU8 1]
theorem FdP.bad {b:Bs}{f:RFd}{e:Int}(h:fdE f=e)(a:e≠0):FdP b f (.tup [.osl 1,gI e]) [.gone,.slc [] tU8 1]:=by unfold FdP;rw[h,dn a];exact⟨rfl,rfl⟩
theorem FdP.ok {b x:Bs}{f:RFd}(h:fdE f=0)(a:fdB f=x):FdP b f (.tup [.osl 1,gI 0]) [.gone,.slc ((b++x).map gBy) tU8 1]:=by unfold FdP;rw[h,dp rfl,a];exact⟨rfl,rfl⟩
theorem O6 (n:Int):IntKind.u8.wrap n=n % 256:=by simp[IntKind.wrap,IntKind.bits,IntKind.signed]
theorem Xs (n:Nat):[[G.v (.int .u8 (IntKind.u8.wrap (((n:Nat):Int).fdiv (2 ^ min (8:Int).toNat 64))))],[G.v (.int .u8 (IntKind.u8.wrap ((n:Nat):Int)))]]=[[G.v (.int .u8 ((((n:Nat):Int) / 256) % 256))],[G.v (.int .u8 (((n:Nat):Int) % 256))]]:=by rw[O6,O6,Jv n 256 _ 8 rfl (by decide) (by decide)]
theorem Z41 (n:Int):[[G.v (.int .u8 (IntKind.u8.wrap (n.fdiv (2 ^ min (56:Int).toNat 64))))],[G.v (.int .u8 (IntKind.u8.wrap (n.fdiv (2 ^ min (48:Int).toNat 64))))],[G.v (.int .u8 (IntKind.u8.wrap (n.fdiv (2 ^ min (40:Int).toNat 64))))],[G.v (.int .u8 (IntKind.u8.wrap (n.fdiv (2 ^ min (32:Int).toNat 64))))],[G.v (.int .u8 (IntKind.u8.wrap (n.fdiv (2 ^ min (24:Int).toNat 64))))],[G.v (.int .u8 (IntKind.u8.wrap (n.fdiv (2 ^ min (16:Int).toNat 64))))],[G.v (.int .u8 (IntKind.u8.wrap (n.fdiv (2 ^ min (8:Int).toNat 64))))],[G.v (.int .u8 (IntKind.u8.wrap n))]]=[[G.v (.int .u8 (n / 72057594037927936 % 256))],[G.v (.int .u8 (n / 281474976710656 % 256))],[G.v (.int .u8 (n / 1099511627776 % 256))],[G.v (.int .u8 (n / 4294967296 % 256))],[G.v (.int .u8 (n / 16777216 % 256))],[G.v (.int .u8 (n / 65536 % 256))],[G.v (.int .u8 (n / 256 % 256))],[G.v (.int .u8 (n % 256))]]:=by simp only[O6];rw[Jv n 72057594037927936 _ 56 rfl (by decide) (by decide),Jv n 281474976710656 _ 48 rfl (by decide) (by decide),Jv n 1099511627776 _ 40 rfl (by decide) (by decide),Jv n 4294967296 _ 32 rfl (by decide) (by decide),Jv n 16777216 _ 24 rfl (by decide) (by decide),Jv n 65536 _ 16 rfl (by decide) (by decide),Jv n 256 _ 8 rfl (by decide) (by decide)]
set_option maxHeartbeats 2000000 in
theorem Za7 (b:Bs)(f:RFd)(r:b.length<=900000000):FnO Tryz.prog 64 [.osl 0,.agg (N1 f)] [.slc (b.map gBy) tU8 1] (FdP b f):=by
 obtain⟨kd,n,s⟩:=f;refine Z3e Tryz.func64 (Ea _ _) ?_;refine dt (fun(d:kd=3)=>?_) (fun(d:¬kd=3)=>?_)
 .subst d;refine dx (λi=>?_) (λi=>?_)
  .refine .inr ⟨0,_,itL [(0,.gone),(3,.slc [] tU8 1)],.tup [.osl 1,gI 21],rfl,⟨⟨⟨_,rfl,rfl,rfl⟩,⟨_,rfl,rfl,rfl⟩,trivial⟩,rfl,⟨_,rfl⟩,rfl,rfl,.bad (e:=21) ?_ (by decide)⟩⟩;unfold fdE;rw[dp rfl,dp i]
  .have i:n=0:=i;subst i;refine dx (λh=>dq rfl h) λ_=>?_;refine du (λh=>dq h (show ¬(0:Int) < 0 by decide)) λ_=>?_;refine dt (λh=>dq h (show ¬(3:Int)=1 by decide)) λ_=>?_;refine dt (λh=>dq h (show ¬(3:Int)=4 by decide)) λ_=>?_;refine dt (λh=>dq h (show ¬(3:Int)=2 by decide)) λ_=>?_;refine dt (λ_=>?_) λh=>dq rfl h;refine du (λh=>?_) λh=>?_
   .refine .inr ⟨0,_,itL [(0,.gone),(3,.slc [] tU8 1)],.tup [.osl 1,gI 22],rfl,⟨⟨⟨_,rfl,rfl,rfl⟩,⟨_,rfl,rfl,rfl⟩,trivial⟩,rfl,⟨_,rfl⟩,rfl,rfl,.bad (e:=22) ?_ (by decide)⟩⟩;have h:((s.size:Nat):Int) > 1024:=h;unfold fdE;rw[dp rfl,dn (λh=>h rfl),dp (by show s.size > 1024;omega)]
   .refine⟨by decide,?_⟩;have h:¬((s.size:Nat):Int) > 1024:=h;have g:fdE ⟨3,0,s⟩=0:=by
     unfold fdE;rw[dp rfl,dn (λh=>h rfl),dn (by show ¬s.size > 1024;omega)]
    have j:(b++[byI ((s.size:Int) / 256),byI s.size]).length+s.data.toList.length<=1000000000:=by
     have:s.data.toList.length=s.size:=by rw[co];rfl
     simp only[List.length_append,List.length_cons,List.length_nil,this];omega
    have l:fdB ⟨3,0,s⟩=[byI ((s.size:Int) / 256),byI s.size]++s.data.toList:=by unfold fdB;rw[dp rfl];rfl
    refine⟨?_,?_⟩
    .refine⟨?_,?_⟩
     .refine dw ((Mi b [byI ((s.size:Int) / 256),byI s.size] ?hr (by simp;omega)).cal λq rs a=>?_)
      case hr =>
       simp only[List.map,Fh];exact Xs s.size
      obtain⟨rfl,rfl⟩:=a;refine dw ((Mi (b++[byI ((s.size:Int) / 256),byI s.size]) s.data.toList rfl j).cal λq rs a=>?_);obtain⟨rfl,rfl⟩:=a;refine .inl ⟨itL [(0,.gone),(5,.slc ((b++fdB ⟨3,0,s⟩).map gBy) tU8 1)],.tup [.osl 1,gI 0],⟨⟨⟨_,rfl,rfl,rfl⟩,⟨_,rfl,?_,rfl⟩,trivial⟩,rfl,⟨_,rfl⟩,rfl,rfl,.ok g rfl⟩⟩;exact eqR (by rw[l,<-ce])
     .refine dw ((Mi b [byI ((s.size:Int) / 256),byI s.size] ?hr (by simp;omega)).cal λq rs a=>?_)
      case hr =>
       simp only[List.map,Fh];exact Xs s.size
      obtain⟨rfl,rfl⟩:=a;refine dw ((Mi (b++[byI ((s.size:Int) / 256),byI s.size]) s.data.toList rfl j).cal λq rs a=>?_);obtain⟨rfl,rfl⟩:=a;refine .inl ⟨itL [(0,.gone),(5,.slc ((b++fdB ⟨3,0,s⟩).map gBy) tU8 1)],.tup [.osl 1,gI 0],⟨⟨⟨_,rfl,rfl,rfl⟩,⟨_,rfl,?_,rfl⟩,trivial⟩,rfl,⟨_,rfl⟩,rfl,rfl,.ok g rfl⟩⟩;exact eqR (by rw[l,<-ce])
    .refine dw ((Mi b [byI ((s.size:Int) / 256),byI s.size] ?hr (by simp;omega)).cal λq rs a=>?_)
     case hr =>
      simp only[List.map,Fh];exact Xs s.size
     obtain⟨rfl,rfl⟩:=a;refine dw ((Mi (b++[byI ((s.size:Int) / 256),byI s.size]) s.data.toList rfl j).cal λq rs a=>?_);obtain⟨rfl,rfl⟩:=a;refine .inl ⟨itL [(0,.gone),(5,.slc ((b++fdB ⟨3,0,s⟩).map gBy) tU8 1)],.tup [.osl 1,gI 0],⟨⟨⟨_,rfl,rfl,rfl⟩,⟨_,rfl,?_,rfl⟩,trivial⟩,rfl,⟨_,rfl⟩,rfl,rfl,.ok g rfl⟩⟩;exact eqR (by rw[l,<-ce])
 .refine dx (λ_=>?_) (λh=>dq h d);refine EvIf.bneS (fun(p:s≠⟨#[]⟩)=>?_) (fun(p:s=⟨#[]⟩)=>?_)
  .refine .inr ⟨0,_,itL [(0,.gone),(3,.slc [] tU8 1)],.tup [.osl 1,gI 21],rfl,⟨⟨⟨_,rfl,rfl,rfl⟩,⟨_,rfl,rfl,rfl⟩,trivial⟩,rfl,⟨_,rfl⟩,rfl,rfl,.bad (e:=21) (by unfold fdE;rw[dn d,dp (.inl p)]) (by decide)⟩⟩
  refine du (fun(i:n < 0)=>?_) (fun(i:¬n < 0)=>?_)
  .refine .inr ⟨0,_,itL [(0,.gone),(3,.slc [] tU8 1)],.tup [.osl 1,gI 21],rfl,⟨⟨⟨_,rfl,rfl,rfl⟩,⟨_,rfl,rfl,rfl⟩,trivial⟩,rfl,⟨_,rfl⟩,rfl,rfl,.bad (e:=21) (by unfold fdE;rw[dn d,dp (.inr i)]) (by decide)⟩⟩
  have c:¬(s≠⟨#[]⟩\/n < 0):=λh=>h.elim (λh=>h p) i;refine dt (fun(o:kd=1)=>?_) (fun(o:¬kd=1)=>?_)
  .subst o;refine du (fun(h:n < 256)=>?_) (fun(h:¬n < 256)=>?_)
   .have g:fdE ⟨1,n,s⟩=0:=by unfold fdE;rw[dn d,dn c,dp ⟨rfl,by show n<=255;omega⟩]
    refine dw ((Z8d b [byI n] (by simp only[List.map,Fh]) (by have:=r;simp only[List.length_cons,List.length_nil];omega)).cal λq rs a=>?_);obtain⟨rfl,rfl⟩:=a;refine .inl ⟨itL [(0,.gone),(4,.slc ((b++fdB ⟨1,n,s⟩).map gBy) tU8 1)],.tup [.osl 1,gI 0],⟨⟨⟨_,rfl,rfl,rfl⟩,⟨_,rfl,rfl,rfl⟩,trivial⟩,rfl,⟨_,rfl⟩,rfl,rfl,.ok g rfl⟩⟩
   .refine .inr ⟨0,_,itL [(0,.gone),(3,.slc [] tU8 1)],.tup [.osl 1,gI 21],rfl,⟨⟨⟨_,rfl,rfl,rfl⟩,⟨_,rfl,rfl,rfl⟩,trivial⟩,rfl,⟨_,rfl⟩,rfl,rfl,.bad (e:=21) (by unfold fdE;rw[dn d,dn c,dn (λk=>h (by have:n<=255:=k.2;omega)),dn (by rintro⟨h,-⟩;cases h),dn (by rintro⟨h,-⟩;cases h)]) (by decide)⟩⟩
  refine dt (fun(t:kd=4)=>?_) (fun(t:¬kd=4)=>?_)
  .subst t;refine du (fun(h:n < 2)=>?_) (fun(h:¬n < 2)=>?_)
   .have g:fdE ⟨4,n,s⟩=0:=by unfold fdE;rw[dn d,dn c,dn (by rintro⟨h,-⟩;cases h),dp ⟨rfl,by show n<=1;omega⟩]
    refine dw ((Z8d b [byI n] (by simp only[List.map,Fh]) (by have:=r;simp only[List.length_cons,List.length_nil];omega)).cal λq rs a=>?_);obtain⟨rfl,rfl⟩:=a;refine .inl ⟨itL [(0,.gone),(4,.slc ((b++fdB ⟨4,n,s⟩).map gBy) tU8 1)],.tup [.osl 1,gI 0],⟨⟨⟨_,rfl,rfl,rfl⟩,⟨_,rfl,rfl,rfl⟩,trivial⟩,rfl,⟨_,rfl⟩,rfl,rfl,.ok g rfl⟩⟩
   .refine .inr ⟨0,_,itL [(0,.gone),(3,.slc [] tU8 1)],.tup [.osl 1,gI 21],rfl,⟨⟨⟨_,rfl,rfl,rfl⟩,⟨_,rfl,rfl,rfl⟩,trivial⟩,rfl,⟨_,rfl⟩,rfl,rfl,.bad (e:=21) (by unfold fdE;rw[dn d,dn c,dn (by rintro⟨h,-⟩;cases h),dn (λk=>h (by have:n<=1:=k.2;omega)),dn (by rintro⟨h,-⟩;cases h)]) (by decide)⟩⟩
  refine dt (fun(m:kd=2)=>?_) (fun(m:¬kd=2)=>?_)
  .subst m;refine du (fun(h:n<=4611686018427387904)=>?_) (fun(h:¬n<=4611686018427387904)=>?_)
   .have g:fdE ⟨2,n,s⟩=0:=by unfold fdE;rw[dn d,dn c,dn (by rintro⟨h,-⟩;cases h),dn (by rintro⟨h,-⟩;cases h),dp ⟨rfl,h⟩]
    refine⟨by decide,⟨by decide,⟨by decide,⟨by decide,⟨by decide,⟨by decide,⟨by decide,?_⟩⟩⟩⟩⟩⟩⟩;refine dw ((Z8d b (be8 n) (by unfold be8;simp only[List.map,Fh];exact Z41 n) (by have:=r;simp only[be8,List.length_cons,List.length_nil];omega)).cal λq rs a=>?_);obtain⟨rfl,rfl⟩:=a;refine .inl ⟨itL [(0,.gone),(4,.slc ((b++fdB ⟨2,n,s⟩).map gBy) tU8 1)],.tup [.osl 1,gI 0],⟨⟨⟨_,rfl,rfl,rfl⟩,⟨_,rfl,rfl,rfl⟩,trivial⟩,rfl,⟨_,rfl⟩,rfl,rfl,.ok g rfl⟩⟩
   .refine .inr ⟨0,_,itL [(0,.gone),(3,.slc [] tU8 1)],.tup [.osl 1,gI 21],rfl,⟨⟨⟨_,rfl,rfl,rfl⟩,⟨_,rfl,rfl,rfl⟩,trivial⟩,rfl,⟨_,rfl⟩,rfl,rfl,.bad (e:=21) (by unfold fdE;rw[dn d,dn c,dn (by rintro⟨h,-⟩;cases h),dn (by rintro⟨h,-⟩;cases h),dn (λk=>h k.2)]) (by decide)⟩⟩
  refine dt (λh=>dq h d) λ_=>?_;refine .inr ⟨0,_,itL [(0,.gone),(3,.slc [] tU8 1)],.tup [.osl 1,gI 21],rfl,⟨⟨⟨_,rfl,rfl,rfl⟩,⟨_,rfl,rfl,rfl⟩,trivial⟩,rfl,⟨_,rfl⟩,rfl,rfl,.bad (e:=21) (by unfold fdE;rw[dn d,dn c,dn (λh=>o h.1),dn (λh=>t h.1),dn (λh=>m h.1)]) (by decide)⟩⟩
theorem Ra (l:List RFd)(x:RFd):Fp (l++[x])=Fp l++fdB x:=by unfold Fp;rw[List.flatMap_append];simp
theorem Z3a (l:List RFd)(n:l.length<=800000):FnO Tryz.prog 36 [.sl (l.map N1)] [] λg rs=>g=.tup [.osl 0,gI (Jl l)]/\rs=[.slc ((Z60 l).map gBy) tU8 1]:=by
 refine Z3e Tryz.func36 (Z84 _) ?_;refine Dt [0,2,3,9,10] [0] (λx:Nat=>[(11,gI x),(4,.osl 1)]) (λx=>[(1,.slc ((Fp (l.take x)).map gBy) tU8 1)]) (λx=>x<=l.length/\∀y∈l.take x,fdE y=0) (λx=>l.length - x) 0 ⟨by omega,by simp⟩ ⟨⟨rfl,rfl⟩,⟨rfl,rfl⟩,trivial⟩ ⟨RL1,trivial⟩ rfl λi k=>?_;obtain⟨k,b⟩:=k;refine du (λh=>?_) (λh=>?_)
 .refine EvIdx.of (by simpa using h) λx e=>?_;have m:=Ek e;have o:=V6 b;have hT:(l.take i).length<=800000:=by rw[be];omega
  refine dw ((Za7 (Fp (l.take i)) x (by omega)).cal λq rs f=>?_);unfold FdP at f;obtain⟨rfl,rfl⟩:=f;refine dx (fun(c:fdE x≠0)=>?_) (fun(c:fdE x=0)=>?_)
  .have d:=Zu e b c;refine .inl ⟨itL [(4,.slc [] tU8 1)],.tup [.osl 0,gI (fdE x)],⟨⟨⟨_,rfl,rfl,rfl⟩,trivial⟩,rfl,⟨_,rfl⟩,rfl,rfl,?_,?_⟩⟩
   .rw[d]
   .unfold Z60;rw[dn (by rw[d];exact c)];rfl
  .refine⟨by omega,i+1,⟨by omega,λy a=>?_⟩,(by dsimp only;omega),?_⟩
   .rw[Bu e] at a;rcases bz.1 a with a | a
    .exact b y a
    .rw[bw.1 a];exact c
   refine⟨?_,?_,rfl⟩<;>repeat' (first|exact trivial|with_reducible rfl|exact rfl|refine And.intro ?_ ?_)
   exact eqR (by rw[dp c,Bu e,Ra])
 .have j:l.take i=l:=ba (by simp at h;omega);rw[j] at b;have d:=P5 b;refine .inl ⟨itL [(1,.slc ((Fp (l.take i)).map gBy) tU8 1)],.tup [.osl 0,gI 0],⟨⟨⟨_,rfl,rfl,rfl⟩,trivial⟩,rfl,⟨_,rfl⟩,rfl,rfl,?_,?_⟩⟩
  .rw[d]
  .unfold Z60;rw[dp d,j];rfl
def szI (k:Int):Int:=if 1<=k/\k<=4 then(szN k:Int) else -1
theorem Za1 (k:Int):FnV Tryz.prog 96 [gI k] λg=>g=gI (szI k):=by
 refine fnG Tryz.func96 ?_;refine dt (fun(h:k=1)=>?_) (fun(a:¬k=1)=>?_)
 .subst h;exact dt (λ_=>rfl) (λh=>dq rfl h)
 refine dt (fun(h:k=4)=>?_) (fun(b:¬k=4)=>?_)
 .subst h;exact rfl
 refine dt (fun(h:k=2)=>?_) (fun(d:¬k=2)=>?_)
 .subst h;exact rfl
 refine dt (fun(h:k=3)=>?_) (fun(c:¬k=3)=>?_)
 .subst h;exact rfl
 refine(show gI (-1)=gI (szI k) from ?_);unfold szI;rw[dn (by omega)]
theorem Z9v (v x:Nat)(h:v < 2 ^ 56)(c:x < 256):IntKind.wrap .u64 ((BitVec.ofInt 64 (IntKind.wrap .u64 ((v:Int) * 2 ^ min (Int.toNat 8) 64)) ||| BitVec.ofInt 64 (IntKind.wrap .u64 (x:Int))).toNat:Nat)=((v * 256+x:Nat):Int):=by
 have a:IntKind.wrap .u64 ((v:Int) * 2 ^ min (Int.toNat 8) 64)=((v * 256:Nat):Int):=by
  have:(v:Int) * 2 ^ min (Int.toNat 8) 64=((v * 256:Nat):Int):=by rw[show(2:Int) ^ min (Int.toNat 8) 64=256 from rfl];omega
  rw[this];simp only[IntKind.wrap,IntKind.bits,IntKind.signed,Bool.false_and,if_false,Bool.false_eq_true];omega
 have d:IntKind.wrap .u64 (x:Int)=(x:Int):=by simp only[IntKind.wrap,IntKind.bits,IntKind.signed,Bool.false_and,if_false,Bool.false_eq_true];omega
 have e:∀n:Nat,n < 2 ^ 64->(BitVec.ofInt 64 (n:Int)).toNat=n:=λn g=>by rw[BitVec.toNat_ofInt];omega
 rw[a,d,BitVec.toNat_or,e _ (by omega),e _ (by omega)];have f:v * 256 ||| x=v * 256+x:=by have:=Nat.shiftLeft_add_eq_or_of_lt (i:=8) (b:=x) c v;rw[Nat.shiftLeft_eq] at this;exact this.symm
 rw[f];simp only[IntKind.wrap,IntKind.bits,IntKind.signed,Bool.false_and,if_false,Bool.false_eq_true];omega
def nxR (k:Int)(b:Bs):G:=.tup [.agg (N1 (if nxE k b=0 then nxF k b else fd0)),gI (if nxE k b=0 then(nxN k b:Int) else 0),gI (nxE k b)]
theorem Zah (k:Int)(b:Bs)(N:b.length<=1000000000):FnV Tryz.prog 68 [gI k,.sl (b.map gBy)] λg=>g=nxR k b:=by
 refine fnG Tryz.func68 ?_;refine(Za1 k).cal λq H=>?_;subst H;unfold nxR;refine du (fun(h:szI k < 0)=>?_) (fun(h:¬szI k < 0)=>?_)
 .have e:nxE k b=21:=by
   unfold nxE;rw[dp (λl=>by unfold szI at h;rw[dp l] at h;omega)]
  rw[e];exact rfl
 have l:1<=k/\k<=4:=Decidable.byContradiction λl=>h (by unfold szI;rw[dn l];decide);have K:szI k=szN k:=by unfold szI;rw[dp l]
 rw[K];have E:=Z5f k;refine du (λh=>?_) (λh=>?_)
 .have h:((b.length:Nat):Int) < szN k:=by simpa using h
  have e:nxE k b=20:=by unfold nxE;rw[dn (λh=>h l),dp (by omega)]
  rw[e];exact rfl
 have h:¬((b.length:Nat):Int) < szN k:=by simpa using h
 have t:=h;have f:∀r∈b.map gBy,r.length=1:=λr hr=>by obtain⟨x,-,rfl⟩:=bi.1 hr;rfl
 refine⟨⟨by omega,by omega,by rw[ao];omega⟩,⟨f,?_⟩⟩;have eS:Fo (b.map gBy) (0:Int).toNat ((szN k:Nat):Int).toNat=(b.take (szN k)).map gBy:=by unfold Fo;simp[List.map_take]
 rw[eS];have B:(b.take (szN k)).length=szN k:=by rw[be];omega
 refine Dt [0,1,4,5,6,7,8,28,29] [0,1] (λi:Nat=>[(30,gI i),(9,.v (.int .u64 (Oa ((b.take (szN k)).take i))))]) (λ_=>[]) (λi=>i<=szN k) (λi=>szN k - i) 0 (by omega) ⟨⟨rfl,rfl⟩,⟨rfl,rfl⟩,trivial⟩ trivial rfl λi M=>?_;refine du (λh=>?_) (λh=>?_)
 .have h:i < (b.take (szN k)).length:=by simpa using h
  refine EvIdx.of (by simpa using h) λx I=>?_;refine⟨by decide,⟨by omega,i+1,by omega,(by dsimp only;omega),?_⟩⟩;refine⟨?_,?_,rfl⟩<;>repeat' (first|exact trivial|with_reducible rfl|exact rfl|refine And.intro ?_ ?_)
  have u:Oa ((b.take (szN k)).take i) < 2 ^ 56:=by have F:=Kv ((b.take (szN k)).take i);refine bc F ?_;rw[show(2:Nat) ^ 56=256 ^ 7 by decide];exact Nat.pow_le_pow_right (by decide) (by rw[be];omega)
  rw[Bu I,Pr];exact congrArg (λn=>some (G.v (.int .u64 n))) (Z9v _ _ u x.toNat_lt)
 .have C:(b.take (szN k)).take i=b.take (szN k):=ba (by simp at h;omega);rw[C];have a:nxE k b=if(k=2/\big < nxV k b)\/(k=4/\1 < nxV k b) then 21 else if k≠3 then 0 else if 1024 < nxV k b then 22 else if b.length < 2+nxV k b then 20 else 0:=by
   unfold nxE;rw[dn (λh=>h l),dn (by omega)]
  have L:Oa (b.take (szN k))=nxV k b:=rfl;rw[L];generalize j:nxV k b=v at *;have p:nxN k b=if k=3 then 2+v else szN k:=by unfold nxN;rw[j]
  have s:nxF k b=if k=3 then⟨3,0,⟨((b.drop 2).take v).toArray⟩⟩ else⟨k,v,⟨#[]⟩⟩:=by unfold nxF;rw[j]
  refine dt (fun(z:k=2)=>?_) (fun(z:¬k=2)=>?_)
  .refine du (fun(h:(v:Int) > big)=>?_) (fun(h:¬(v:Int) > big)=>?_)
   .rw[dp (.inl ⟨z,h⟩)] at a;rw[a];exact rfl
   .rw[dn (by rintro(o | o)<;>omega),dp (by omega)] at a;refine dt (λD=>dq D (show ¬k=4 by omega)) λ_=>?_;refine dx (λ_=>?_) (λm=>dq m (show ¬k=3 by omega));rw[a,dp rfl,dp rfl,p,s,dn (by omega),dn (by omega)];exact⟨by unfold big at h;omega,rfl⟩
  .refine dt (fun(A:k=4)=>?_) (fun(A:¬k=4)=>?_)
   .refine du (fun(h:(v:Int) > 1)=>?_) (fun(h:¬(v:Int) > 1)=>?_)
    .rw[dp (.inr ⟨A,by omega⟩)] at a;rw[a];exact rfl
    .rw[dn (by rintro(o | o)<;>omega),dp (by omega)] at a;refine dx (λ_=>?_) (λm=>dq m (show ¬k=3 by omega));rw[a,dp rfl,dp rfl,p,s,dn (by omega),dn (by omega)];exact⟨by omega,rfl⟩
   .rw[dn (by rintro(o | o)<;>omega)] at a;have d:v < 256 ^ szN k:=by
     have:=Kv (b.take (szN k));rw[B] at this;rw[<-j];exact this
    refine dx (fun(m:k≠3)=>?_) (fun(m:k=3)=>?_)
    .have J:k=1:=by omega
     subst J;have d:v < 256:=d;rw[dp (by decide)] at a;rw[a,dp rfl,dp rfl,p,s,dn (by decide),dn (by decide)];exact⟨by omega,rfl⟩
    .subst m;have d:v < 65536:=d;rw[dn (λh=>h rfl)] at a;refine du (fun(h:(v:Int) > 1024)=>?_) (fun(h:¬(v:Int) > 1024)=>?_)
     .rw[dp (by omega)] at a;rw[a];exact rfl
     .rw[dn (by omega)] at a;have y:szN 3=2:=rfl;rw[y];have c:(b.map gBy).length=b.length:=ao _;rw[y] at t B;refine⟨by rw[c];omega,⟨by omega,?_⟩⟩;refine du (fun(w:(((b.map gBy).length:Nat):Int) - (2:Nat) < v)=>?_) (fun(w:¬(((b.map gBy).length:Nat):Int) - (2:Nat) < v)=>?_)
      .rw[c] at w;rw[dp (by omega)] at a;rw[a];exact rfl
      .rw[c] at w;rw[dn (by omega)] at a;rw[a,dp rfl,dp rfl,p,s,dp rfl,dp rfl];refine⟨by omega,⟨by omega,⟨⟨by omega,by omega,by rw[c];omega⟩,⟨f,EvBytes.mk ⟨(b.drop 2).take v,?_,⟨by omega,⟨by omega,rfl⟩⟩⟩⟩⟩⟩⟩;unfold Fo;rw[show(((2:Nat):Int)+(v:Int)).toNat=v+2 by omega,show(((2:Nat):Int)).toNat=2 from rfl,<-dc,<-List.map_drop,List.drop_take];rfl
abbrev tFd:Nat:=98
def gNi (k:Int):List G:=[gI k]
theorem Z1t (b:Bs)(n:Nat):Fo (b.map gBy) (n:Int).toNat (((b.map gBy).length:Nat):Int).toNat=(b.drop n).map gBy:=by unfold Fo;rw[bh,bh,ba (by simp),List.map_drop]
theorem Td (b:Bs):∀r∈b.map gBy,r.length=1:=λr hr=>by obtain⟨x,-,rfl⟩:=bi.1 hr;rfl
def smG (s:Sm):G:=.tup [.sl (s.l.map N1),gI s.n,gI s.e]
theorem Z5b (ks:List Int)(b:Bs)(u:ks.length<=1000000)(v:b.length<=1000000000):FnV Tryz.prog 39 [.sl (ks.map gNi),.sl (b.map gBy)] λg=>g=smG (Ay ks b):=by
 refine fnG Tryz.func39 ?_;refine Dt [0,1,5,6,14,15] [0] (λi:Nat=>[(16,gI i),(8,gI ((Ay (ks.take i) b).n:Int)),(7,.osl 1)]) (λi=>[(1,.slc ((Ay (ks.take i) b).l.map N1) tFd 3)]) (λi=>i<=ks.length/\(Ay (ks.take i) b).e=0) (λi=>ks.length - i) 0 ⟨by omega,rfl⟩ ⟨⟨rfl,rfl⟩,⟨rfl,rfl⟩,⟨rfl,rfl⟩,trivial⟩ ⟨RL1,trivial⟩ rfl λi o=>?_;obtain⟨o,c⟩:=o;refine du (λh=>?_) (λh=>?_)
 .refine EvIdx.of (by simpa using h) λk f=>?_;have t:=Ek f;have m:=Hs (ks.take i) b;refine⟨⟨by omega,by rw[ao];omega,by omega⟩,⟨Td b,?_⟩⟩;rw[Z1t];refine(Zah k (b.drop (Ay (ks.take i) b).n) (by rw[bj];omega)).cal λq p=>?_;subst p;unfold nxR;refine dx (λa=>?_) (λa=>?_)
  .rw[Np ks b i k f c a];exact rfl
  .have a:nxE k (b.drop (Ay (ks.take i) b).n)=0:=a;have d:=Lh (ks.take i) b k c;rw[<-Bu f,dn (λh=>h a)] at d;have r:=m.2 c;rw[be] at r;have j:=Z55 a;rw[bj] at j;rw[dp a,dp a];refine⟨by simp;omega,⟨by omega,⟨by omega,i+1,⟨by omega,by rw[d]⟩,(by dsimp only;omega),?_⟩⟩⟩;refine⟨?_,?_,rfl⟩<;>repeat' (first|exact trivial|with_reducible rfl|exact rfl|refine And.intro ?_ ?_)
   .exact eqI (by rw[d];simp only;omega)
   .exact eqR (by rw[d,az];rfl)
 .have s:ks.take i=ks:=ba (by simp at h;omega);rw[s] at c⊢;unfold smG;rw[c];exact rfl
theorem Z40 (ks:List Int)(b:Bs)(i:ks.length<=1000000)(d:b.length<=1000000000):FnV Tryz.prog 40 [.sl (ks.map gNi),.sl (b.map gBy)] λg=>g=.tup [.sl ((Hr ks b).l.map N1),gI (Hr ks b).e]:=by
 refine fnG Tryz.func40 ?_;refine(Z5b ks b i d).cal λq c=>?_;subst c;unfold smG Hr;have f:=(Hs ks b).1;refine dx (λa=>?_) (λa=>?_)
 .rw[dp a];exact rfl
 .have a:(Ay ks b).e=0:=a;rw[dn (λh=>h a)];refine du (λh=>?_) (λh=>?_)
  .have h:(((Ay ks b).n:Nat):Int) < b.length:=by simpa using h
   rw[dp (by omega)];exact rfl
  .have h:¬(((Ay ks b).n:Nat):Int) < b.length:=by simpa using h
   rw[dn (by omega),a];exact rfl
def Tn (n:Int)(r:Nat):Bs:=List.replicate (8 - r) 0++(be8 n).drop (8 - r)
theorem Z2l (n:Int)(r:Nat)(hr:r < 8):(Tn n r)[7 - r]?=some 0/\(Tn n r).set (7 - r) (byI (n / (256 ^ r:Nat)))=Tn n (r+1):=by
 match r,hr with
 | 0,_=>exact⟨rfl,by simp[Tn,be8,List.replicate]⟩
 | 1,_=>exact⟨rfl,by simp[Tn,be8,List.replicate]⟩
 | 2,_=>exact⟨rfl,by simp[Tn,be8,List.replicate]⟩
 | 3,_=>exact⟨rfl,by simp[Tn,be8,List.replicate]⟩
 | 4,_=>exact⟨rfl,by simp[Tn,be8,List.replicate]⟩
 | 5,_=>exact⟨rfl,by simp[Tn,be8,List.replicate]⟩
 | 6,_=>exact⟨rfl,by simp[Tn,be8,List.replicate]⟩
 | 7,_=>exact⟨rfl,by simp[Tn,be8]⟩
def Z7t (f:RFd):G:=.tup [.sl ((if fdE f=0 then fdB f else []).map gBy),gI (fdE f)]
theorem Em {f:RFd}{e:Int}(h:fdE f=e)(a:e≠0):G.tup [.sl [],gI e]=Z7t f:=by unfold Z7t;rw[h,dn a];rfl
theorem Si {f:RFd}{a:List (List G)}(h:fdE f=0)(hr:a=(fdB f).map gBy):G.tup [.sl a,gI 0]=Z7t f:=by unfold Z7t;rw[h,dp rfl,hr]
theorem Zd8 (f:RFd):FnV Tryz.prog 65 [.agg (N1 f)] λg=>g=Z7t f:=by
 obtain⟨kd,n,s⟩:=f;refine fnG Tryz.func65 ?_;refine dt (fun(a:kd=3)=>?_) (fun(a:¬kd=3)=>?_)
 .subst a;refine dx (λb=>?_) (λb=>?_)
  .exact Em (e:=21) (by unfold fdE;rw[dp rfl,dp b]) (by decide)
  .have b:n=0:=b;subst b;refine du (λh=>?_) (λh=>?_)
   .have h:((s.size:Nat):Int) > 1024:=h;exact Em (e:=22) (by unfold fdE;rw[dp rfl,dn (λh=>h rfl),dp (by show s.size > 1024;omega)]) (by decide)
   .have h:¬((s.size:Nat):Int) > 1024:=h;have w:fdE ⟨3,0,s⟩=0:=by
     unfold fdE;rw[dp rfl,dn (λh=>h rfl),dn (by show ¬s.size > 1024;omega)]
    have I:((s.size:Nat):Int).tdiv 256=((s.size / 256:Nat):Int):=rfl;have J:((s.size:Nat):Int).tmod 256=((s.size % 256:Nat):Int):=rfl;refine⟨by decide,⟨by show _<=((s.size:Nat):Int).tdiv 256/\((s.size:Nat):Int).tdiv 256<=_;rw[I];omega,⟨by decide,?_⟩⟩⟩;have z:s.data.toList.length=s.size:=by rw[co];rfl
    refine⟨by rw[ao];show 2+s.data.toList.length<=_;rw[z];omega,Si w ?_⟩;unfold fdB;rw[dp rfl];show [[G.v (.int .u8 (((s.size:Nat):Int).tdiv 256 % 256))],[G.v (.int .u8 (((s.size:Nat):Int).tmod 256 % 256))]]++_=_;simp only[List.map,Fh];rw[I,J];have O:((s.size / 256:Nat):Int) % 256=((s.size:Nat):Int) / 256 % 256:=by omega
    have N:((s.size % 256:Nat):Int) % 256=((s.size:Nat):Int) % 256:=by omega
    rw[O,N];rfl
 .refine EvIf.bneS (fun(A:s≠⟨#[]⟩)=>?_) (fun(A:s=⟨#[]⟩)=>?_)
  .exact Em (e:=21) (by unfold fdE;rw[dn a,dp (.inl A)]) (by decide)
  refine du (fun(b:n < 0)=>?_) (fun(b:¬n < 0)=>?_)
  .exact Em (e:=21) (by unfold fdE;rw[dn a,dp (.inr b)]) (by decide)
  have c:¬(s≠⟨#[]⟩\/n < 0):=λh=>h.elim (λh=>h A) b;have d:∀{k:Int} {m:Int},0<=n->n<=m->(k=1/\m=255\/k=4/\m=1)->kd=k->G.tup [.sl [[.v (.int .u8 (IntKind.u8.wrap n))]],gI 0]=Z7t ⟨kd,n,s⟩:=λ{k m} Q F D e=>by
   refine Si ?_ ?_
   .unfold fdE;rw[dn a,dn c];show(if kd=1/\n<=255 then(0:Int) else if kd=4/\n<=1 then 0 else if kd=2/\n<=big then 0 else 21)=0;by_cases l:kd=1/\n<=255
    .rw[dp l]
    .rw[dn l];rw[dp (by omega)]
   .unfold fdB;rw[dn a,dn (by show ¬kd=2;omega)];simp only[List.map,Fh,O6]
  have i:0<=n:=by omega
  have R:∀h:kd=1,¬n<=255->fdE ⟨kd,n,s⟩=21:=λh b=>by unfold fdE;rw[dn a,dn c];show(if kd=1/\n<=255 then(0:Int) else if kd=4/\n<=1 then 0 else if kd=2/\n<=big then 0 else 21)=21;rw[dn (by omega),dn (by omega),dn (by omega)]
  have q:¬(kd=1/\n<=255)->¬(kd=4/\n<=1)->¬(kd=2/\n<=big)->fdE ⟨kd,n,s⟩=21:=λF D P=>by unfold fdE;rw[dn a,dn c,dn F,dn D,dn P]
  refine dt (fun(u:kd=1)=>?_) (fun(u:¬kd=1)=>?_)
  .refine du (fun(h:n<=255)=>?_) (fun(h:¬n<=255)=>?_)
   .exact d i h (.inl ⟨rfl,rfl⟩) u
   .refine dt (λj=>dq j (show ¬kd=4 by omega)) λ_=>?_;refine dt (λj=>dq j (show ¬kd=2 by omega)) λ_=>?_;exact Em (q (by omega) (by omega) (by omega)) (by decide)
  refine dt (fun(B:kd=4)=>?_) (fun(B:¬kd=4)=>?_)
  .refine du (fun(h:n<=1)=>?_) (fun(h:¬n<=1)=>?_)
   .exact d i h (.inr ⟨rfl,rfl⟩) B
   .refine dt (λj=>dq j (show ¬kd=2 by omega)) λ_=>?_;exact Em (q (by omega) (by omega) (by omega)) (by decide)
  refine dt (fun(t:kd=2)=>?_) (fun(t:¬kd=2)=>?_)
  .refine du (fun(o:n<=big)=>?_) (fun(h:¬n<=big)=>?_)
   .have w:fdE ⟨kd,n,s⟩=0:=by
     unfold fdE;rw[dn a,dn c,dn (λh=>u h.1),dn (λh=>B h.1),dp ⟨t,o⟩]
    refine⟨by decide,?_⟩;refine Dt [1,2,3] [0,1] (λr:Nat=>[(6,gI (7 - r)),(5,gI (n / (256 ^ r:Nat))),(4,.osl 2)]) (λr=>[(2,.slc ((Tn n r).map gBy) tU8 1)]) (λr=>r<=8) (λr=>8 - r) 0 (by omega) ⟨⟨rfl,rfl⟩,⟨rfl,eqI (by simp)⟩,⟨rfl,rfl⟩,trivial⟩ ⟨RL1,trivial⟩ rfl λr hr=>?_;refine du (fun(h:(7:Int) - r >= 0)=>?_) (fun(h:¬(7:Int) - r >= 0)=>?_)
    .have p:((Tn n r).map gBy).length=8:=by rw[ao];unfold Tn be8;simp<;>omega
     refine⟨by decide,⟨⟨by omega,by rw[p];omega⟩,?_⟩⟩;obtain⟨L,H⟩:=Z2l n r (by omega);have C:((7:Int) - r).toNat=7 - r:=by omega
     refine EvSet.at (f:=gBy) (x:=0) (y:=byI (n / (256 ^ r:Nat))) (by rw[C]<;>exact L) (λk l=>?_) (by rw[C]<;>exact H) ?_
     .have e:gBy (byI (n / (256 ^ r:Nat)))=[.v (.int .u8 ((n / (256 ^ r:Nat)).tmod 256 % 256))]:=by
       rw[Fh,Int.tmod_eq_emod_of_nonneg (Int.ediv_nonneg i (by exact bq _)),Int.emod_emod]
      rw[e] at l;exact l
     .have E:(n / (256 ^ r:Nat)).tdiv 256=n / (256 ^ (r+1):Nat):=by
       rw[Int.tdiv_eq_ediv_of_nonneg (Int.ediv_nonneg i (by exact bq _)),Nat.pow_succ,Int.natCast_mul,Int.ediv_ediv_of_nonneg (by exact bq _)];rfl
      have M:n / (256 ^ (r+1):Nat)<=n:=Int.ediv_le_self _ i;have K:0<=n / (256 ^ (r+1):Nat):=Int.ediv_nonneg i (by exact bq _);refine⟨by decide,⟨by rw[E];unfold big at o;omega,⟨by omega,r+1,by omega,(by dsimp only;omega),?_⟩⟩⟩;refine⟨?_,?_,rfl⟩<;>repeat' (first|exact trivial|with_reducible rfl|exact rfl|refine And.intro ?_ ?_)
      .exact eqI (by omega)
      .exact eqI E
      .exact eqR (by rw[H])
    .have:r=8:=by omega
     subst this;exact Si w (by unfold fdB;rw[dn a,dp t];rfl)
   .exact Em (q (by omega) (by omega) (by omega)) (by decide)
  exact Em (q (by omega) (by omega) (by omega)) (by decide)
theorem Z1q (l:List RFd)(p:l.length<=800000):FnV Tryz.prog 37 [.sl (l.map N1)] λg=>g=.tup [.sl ((Z60 l).map gBy),gI (Jl l)]:=by
 refine fnG Tryz.func37 ?_;refine Dt [0,2,3] [0] (λx:Nat=>[(5,gI x),(4,.osl 1)]) (λx=>[(1,.slc ((Fp (l.take x)).map gBy) tU8 1)]) (λx=>x<=l.length/\∀y∈l.take x,fdE y=0) (λx=>l.length - x) 0 ⟨by omega,by simp⟩ ⟨⟨rfl,rfl⟩,⟨rfl,rfl⟩,trivial⟩ ⟨RL1,trivial⟩ rfl λi j=>?_;obtain⟨j,d⟩:=j;refine du (λh=>?_) (λh=>?_)
 .refine EvIdx.of (by simpa using h) λx e=>?_;have o:=Ek e;have s:=V6 d;have hT:(l.take i).length<=800000:=by rw[be];omega
  refine(Zd8 x).cal λq m=>?_;subst m;unfold Z7t;refine dx (fun(a:fdE x≠0)=>?_) (fun(a:fdE x=0)=>?_)
  .have f:=Zu e d a;unfold Z60;rw[f,dn a,dn a];exact rfl
  .rw[dp a];have k:=Yq a;refine⟨λr hr=>by obtain⟨c,-,rfl⟩:=bi.1 hr;exact⟨rfl,rfl⟩,⟨by simp;omega,⟨by omega,i+1,⟨by omega,λy b=>?_⟩,(by dsimp only;omega),?_⟩⟩⟩
   .rw[Bu e] at b;rcases bz.1 b with b | b
    .exact d y b
    .rw[bw.1 b];exact a
   refine⟨?_,?_,rfl⟩<;>repeat' (first|exact trivial|with_reducible rfl|exact rfl|refine And.intro ?_ ?_)
   exact eqR (by rw[Bu e,Ra,az])
 .have n:l.take i=l:=ba (by simp at h;omega);rw[n] at d⊢;have f:=P5 d;unfold Z60;rw[f,dp rfl];exact rfl
theorem Z6q (v x:Nat)(a:v * 256+x < 2 ^ 64)(b:x < 256):IntKind.wrap .u64 (IntKind.wrap .u64 ((v:Int) * 256)+IntKind.wrap .u64 (x:Int))=((v * 256+x:Nat):Int):=by simp only[IntKind.wrap,IntKind.bits,IntKind.signed,Bool.false_and,if_false,Bool.false_eq_true];omega
theorem Z2q (b:Bs)(j:b.length<=8):FnV Tryz.prog 69 [.sl (b.map gBy)] λg=>g=.v (.int .u64 (Oa b)):=by
 refine fnG Tryz.func69 ?_;refine Dt [0] [] (λi:Nat=>[(4,gI i),(3,.v (.int .u64 (Oa (b.take i))))]) (λ_=>[]) (λi=>i<=b.length) (λi=>b.length - i) 0 (by omega) ⟨⟨rfl,rfl⟩,⟨rfl,rfl⟩,trivial⟩ trivial rfl λi f=>?_;refine du (λh=>?_) (λh=>?_)
 .refine EvIdx.of (by simpa using h) λx c=>?_;have e:=Ek c;refine⟨by omega,i+1,by omega,(by dsimp only;omega),?_⟩;refine⟨?_,?_,rfl⟩<;>repeat' (first|exact trivial|with_reducible rfl|exact rfl|refine And.intro ?_ ?_)
  have a:Oa (b.take (i+1)) < 2 ^ 64:=by refine bc (Kv _) ?_;rw[show(2:Nat) ^ 64=256 ^ 8 by decide];exact Nat.pow_le_pow_right (by decide) (by rw[be];omega)
  rw[Bu c,Pr] at a⊢;exact congrArg (λn=>some (G.v (.int .u64 n))) (Z6q _ _ a x.toNat_lt)
 .have d:b.take i=b:=ba (by simp at h;omega);rw[d];exact rfl
theorem Z7p (b:Bs)(n m:Nat):Fo (b.map gBy) (n:Int).toNat ((n:Int)+(m:Int)).toNat=((b.drop n).take m).map gBy:=by
 unfold Fo;rw[show((n:Int)+(m:Int)).toNat=n+m by omega,bh,dc,List.map_drop,List.drop_take]
 congr 1;omega
set_option maxHeartbeats 1000000 in
theorem Z5s (ks:List Int)(b:Bs)(Q:ks.length<=1000000)(R:b.length<=1000000000):FnV Tryz.prog 42 [.sl (ks.map gNi),.sl (b.map gBy)] λg=>g=smG (Ay ks b):=by
 refine fnG Tryz.func42 ?_;refine Dt [0,1,5,6] [0] (λi:Nat=>[(9,gI i),(8,gI ((Ay (ks.take i) b).n:Int)),(7,.osl 1)]) (λi=>[(1,.slc ((Ay (ks.take i) b).l.map N1) tFd 3)]) (λi=>i<=ks.length/\(Ay (ks.take i) b).e=0) (λi=>ks.length - i) 0 ⟨by omega,rfl⟩ ⟨⟨rfl,rfl⟩,⟨rfl,rfl⟩,⟨rfl,rfl⟩,trivial⟩ ⟨RL1,trivial⟩ rfl λi D=>?_;obtain⟨D,p⟩:=D;refine du (λh=>?_) (λh=>?_)
 .refine EvIdx.of (by simpa using h) λk y=>?_;have N:=Ek y;have A:=Hs (ks.take i) b;have O:=Np ks b i k y p;have c:=Lh (ks.take i) b k p;rw[<-Bu y] at c;have K:=A.2 p;rw[be] at K;have bad:∀e:Int,e≠0->nxE k (b.drop (Ay (ks.take i) b).n)=e->smG ⟨e,[],0⟩=smG (Ay ks b):=λe x f=>by
   rw[O (by rw[f];exact x),f]
  generalize (Ay (ks.take i) b).n=at_ at *;generalize hd:b.drop at_=d at *;refine du (fun(x:k < 1)=>?_) (fun(x:¬k < 1)=>?_)
  .exact bad 21 (by decide) (by unfold nxE;rw[dp (by omega)])
  refine du (fun(f:k > 4)=>?_) (fun(f:¬k > 4)=>?_)
  .exact bad 21 (by decide) (by unfold nxE;rw[dp (by omega)])
  refine⟨⟨by omega,by show k < 5;omega⟩,?_⟩;have r:∀row:List G,[[G.v (.int .i64 0)],[.v (.int .i64 1)],[.v (.int .i64 8)],[.v (.int .i64 2)],[.v (.int .i64 1)]][((k.toNat:Nat):Int).toNat]?=some row->row=[gI (szN k)]:=λrow h=>by
   have u:k=1\/k=2\/k=3\/k=4:=by omega
   rcases u with e | e | e | e<;>(rw[e] at h⊢;exact(ct h).symm)
  have m:1<=k/\k<=4:=by omega
  have w:=Z5f k;have M:d.length=b.length - at_:=by rw[<-hd,bj]
  refine EvIdx.mk ⟨by omega,by show((k.toNat:Nat):Int) < 5;omega⟩ λrow hr=>?_;obtain rfl:=r row hr;refine⟨by omega,?_⟩;refine du (fun(o:(at_:Int)+szN k > (b.map gBy).length)=>?_) (fun(o:¬(at_:Int)+szN k > (b.map gBy).length)=>?_)
  .rw[ao] at o;exact bad 20 (by decide) (by unfold nxE;rw[dn (λh=>h m),dp (by omega)])
  rw[ao] at o;refine⟨by omega,⟨⟨by omega,by omega,by rw[ao];omega⟩,⟨Td b,?_⟩⟩⟩;rw[Z7p,hd];refine(Z2q (d.take (szN k)) (by rw[be];omega)).cal λq J=>?_;subst J;have j:nxV k d < 256 ^ szN k:=by have:=Kv (d.take (szN k));rw[be,cp (by omega)] at this;exact this
  have s:nxN k d=if k=3 then 2+nxV k d else szN k:=rfl;have t:nxF k d=if k=3 then⟨3,0,⟨((d.drop 2).take (nxV k d)).toArray⟩⟩ else⟨k,nxV k d,⟨#[]⟩⟩:=rfl;have a:nxE k d=if(k=2/\big < nxV k d)\/(k=4/\1 < nxV k d) then 21 else if k≠3 then 0 else if 1024 < nxV k d then 22 else if d.length < 2+nxV k d then 20 else 0:=by unfold nxE;rw[dn (λh=>h m),dn (by omega)]
  have P:Oa (d.take (szN k))=nxV k d:=rfl;rw[P];generalize nxV k d=v at *;refine⟨by omega,?_⟩;refine dt (fun(B:k=2)=>?_) (fun(B:¬k=2)=>?_)
  .refine du (fun(h:(v:Int) > big)=>?_) (fun(h:¬(v:Int) > big)=>?_)
   .rw[dp (.inl ⟨B,h⟩)] at a;exact bad 21 (by decide) a
   .rw[dn (by rintro(f | f)<;>omega),dp (by omega)] at a;refine dt (λI=>dq I (show ¬k=4 by omega)) λ_=>?_;refine dx (λ_=>?_) (λo=>dq o (show ¬k=3 by omega));rw[dn (λh=>h a),s,t,dn (by omega),dn (by omega)] at c;refine⟨by unfold big at h;omega,⟨by simp;omega,⟨by omega,i+1,⟨by omega,by rw[c]⟩,(by dsimp only;omega),?_⟩⟩⟩;refine⟨?_,?_,rfl⟩<;>repeat' (first|exact trivial|with_reducible rfl|exact rfl|refine And.intro ?_ ?_)
    .exact eqI (by rw[c];simp only;omega)
    .exact eqR (by rw[c,az];rfl)
  .refine dt (fun(E:k=4)=>?_) (fun(E:¬k=4)=>?_)
   .refine du (fun(h:(v:Int) > 1)=>?_) (fun(h:¬(v:Int) > 1)=>?_)
    .rw[dp (.inr ⟨E,by omega⟩)] at a;exact bad 21 (by decide) a
    .rw[dn (by rintro(f | f)<;>omega),dp (by omega)] at a;refine dx (λ_=>?_) (λo=>dq o (show ¬k=3 by omega));rw[dn (λh=>h a),s,t,dn (by omega),dn (by omega)] at c;refine⟨by omega,⟨by simp;omega,⟨by omega,i+1,⟨by omega,by rw[c]⟩,(by dsimp only;omega),?_⟩⟩⟩;refine⟨?_,?_,rfl⟩<;>repeat' (first|exact trivial|with_reducible rfl|exact rfl|refine And.intro ?_ ?_)
     .exact eqI (by rw[c];simp only;omega)
     .exact eqR (by rw[c,az];rfl)
   .rw[dn (by rintro(f | f)<;>omega)] at a;refine dx (fun(C:k≠3)=>?_) (fun(C:k=3)=>?_)
    .have L:k=1:=by omega
     subst L;have j:v < 256:=j;rw[dp (by decide)] at a;rw[dn (λh=>h a),s,t,dn (by decide),dn (by decide)] at c;refine⟨by omega,⟨by simp;omega,⟨by omega,i+1,⟨by omega,by rw[c]⟩,(by dsimp only;omega),?_⟩⟩⟩;refine⟨?_,?_,rfl⟩<;>repeat' (first|exact trivial|with_reducible rfl|exact rfl|refine And.intro ?_ ?_)
     .exact eqI (by rw[c];simp only;omega)
     .exact eqR (by rw[c,az];rfl)
    .subst C;have j:v < 65536:=j;have F:szN 3=2:=rfl;rw[F] at o w⊢;rw[dn (λh=>h rfl)] at a;refine du (fun(h:(v:Int) > 1024)=>?_) (fun(h:¬(v:Int) > 1024)=>?_)
     .rw[dp (by omega)] at a;exact bad 22 (by decide) a
     .rw[dn (by omega)] at a;refine⟨by omega,⟨by omega,?_⟩⟩;refine du (fun(z:(at_:Int)+(2:Nat)+v > (b.map gBy).length)=>?_) (fun(z:¬(at_:Int)+(2:Nat)+v > (b.map gBy).length)=>?_)
      .rw[ao] at z;rw[dp (by omega)] at a;exact bad 20 (by decide) a
      .rw[ao] at z;rw[dn (by omega)] at a;rw[dn (λh=>h a),s,t,dp rfl,dp rfl] at c;refine⟨by omega,⟨by omega,⟨⟨by omega,by omega,by rw[ao];omega⟩,⟨Td b,EvBytes.mk ⟨(d.drop 2).take v,?_,?_⟩⟩⟩⟩⟩
       .unfold Fo;rw[show((at_:Int)+(2:Nat)+(v:Int)).toNat=at_+2+v by omega,show((at_:Int)+(2:Nat)).toNat=at_+2 by omega,<-hd,List.drop_drop,dc,List.map_drop,List.drop_take]
        congr 1
        omega
       .refine⟨by simp;omega,⟨by omega,⟨by omega,⟨by omega,i+1,⟨by omega,by rw[c]⟩,(by dsimp only;omega),?_⟩⟩⟩⟩;refine⟨?_,?_,rfl⟩<;>repeat' (first|exact trivial|with_reducible rfl|exact rfl|refine And.intro ?_ ?_)
        .exact eqI (by rw[c];simp only;omega)
        .exact eqR (by rw[c,az];rfl)
 .have H:ks.take i=ks:=ba (by simp at h;omega);rw[H] at p⊢;unfold smG;rw[p];exact rfl
theorem Z1l (ks:List Int)(b:Bs)(i:ks.length<=1000000)(f:b.length<=1000000000):FnV Tryz.prog 43 [.sl (ks.map gNi),.sl (b.map gBy)] λg=>g=.tup [.sl ((Hr ks b).l.map N1),gI (Hr ks b).e]:=by
 refine fnG Tryz.func43 ?_;refine(Z5s ks b i f).cal λq d=>?_;subst d;unfold smG Hr;refine dx (λa=>?_) (λa=>?_)
 .rw[dp a];exact rfl
 .have a:(Ay ks b).e=0:=a;rw[dn (λh=>h a)];have c:(b.map gBy).length=b.length:=ao _;refine dx (λh=>?_) (λh=>?_)
  .have h:(((Ay ks b).n:Nat):Int)≠(b.map gBy).length:=h;rw[c] at h;rw[dp (by omega)];exact rfl
  .have h:(((Ay ks b).n:Nat):Int)=(b.map gBy).length:=h;rw[c] at h;rw[dn (by omega),a];exact rfl
end Go.Proofs.YtmmdikhljefeiaaGreat

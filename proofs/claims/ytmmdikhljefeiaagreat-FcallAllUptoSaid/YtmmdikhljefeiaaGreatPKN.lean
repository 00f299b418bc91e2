
import Derived.Test.YtmmdikhljefeiaaGreatPKM
import Derived.Test.YtmmdikhljefeiaaGreatYFnu
import Derived.Test.YtmmdikhljefeiaaGreatSxMc
import Derived.Test.YtmmdikhljefeiaaGreatZM1
namespace Go.Proofs.YtmmdikhljefeiaaGreat
open Go.RowKit
set_option maxRecDepth 100000
abbrev tU8:Nat:=5
def Yh (f:RFd):List G:=[gI f.kind,gI f.n,gS f.s]
theorem Kc (n:Int):gBy (byI n)=[.v (.int .u8 (n % 256))]:=by unfold gBy;rw[Lj]
theorem Zfc (a b:Bs)(ha:a.length+b.length<=1000000000):FnO Tryz.prog 95 [.osl 0,.osl 1] [.slc (a.map gBy) tU8 1,.slc (b.map gBy) tU8 1] λg rs=>g=.osl 2/\rs=[.gone,.gone,.slc ((a++b).map gBy) tU8 1]:=by refine Z5 Tryz.func95 (Cj _ _) ?_;refine⟨by simp;omega,?_⟩;refine .inr ⟨1,_,itL [(0,.gone),(1,.gone),(3,.slc ((a++b).map gBy) tU8 1)],.osl 2,rfl,⟨⟨⟨_,rfl,rfl,rfl⟩,⟨_,rfl,rfl,rfl⟩,⟨_,rfl,?_,rfl⟩,trivial⟩,rfl,⟨_,rfl⟩,rfl,rfl,⟨rfl,rfl⟩⟩⟩;exact eqR (by rw[az])
theorem Zb6 (a:Bs)(b:Bs)(ha:a.length+b.length<=1000000000):FnO Tryz.prog 95 [.osl 0,.sl (b.map gBy)] [.slc (a.map gBy) tU8 1] λg rs=>g=.osl 1/\rs=[.gone,.slc ((a++b).map gBy) tU8 1]:=by refine Z5 Tryz.func95 (Cj _ _) ?_;refine⟨λr hr=>by obtain⟨c,-,rfl⟩:=bj.1 hr;exact⟨rfl,rfl⟩,⟨by simp;omega,?_⟩⟩;refine .inl ⟨itL [(0,.gone),(2,.slc ((a++b).map gBy) tU8 1)],.osl 1,⟨⟨⟨_,rfl,rfl,rfl⟩,⟨_,rfl,?_,rfl⟩,trivial⟩,rfl,⟨_,rfl⟩,rfl,rfl,⟨rfl,rfl⟩⟩⟩;exact eqR (by rw[az])
theorem Z83 (a b:Bs){c:List (List G)}(hr:c=b.map gBy)(ha:a.length+b.length<=1000000000):FnO Tryz.prog 95 [.osl 0,.osl 1] [.slc (a.map gBy) tU8 1,.slc c tU8 1] λg rs=>g=.osl 2/\rs=[.gone,.gone,.slc ((a++b).map gBy) tU8 1]:=by subst hr;exact Zfc a b ha
theorem Nc (a b:Bs){c:List (List G)}(hr:c=b.map gBy)(ha:a.length+b.length<=1000000000):FnO Tryz.prog 95 [.osl 0,.sl c] [.slc (a.map gBy) tU8 1] λg rs=>g=.osl 1/\rs=[.gone,.slc ((a++b).map gBy) tU8 1]:=by subst hr;exact Zb6 a b ha
theorem Ks (n m:Int)(j k:Nat)(b:min j 64=k)(a:(2:Int) ^ k=m)(c:0<=m):n.fdiv (2 ^ min j 64)=n / m:=by rw[b,a];exact Int.fdiv_eq_ediv_of_nonneg _ c
def FdP (b:Bs)(f:RFd)(g:G)(rs:List R):Prop:=g=.tup [.osl 1,gI (fdE f)]/\rs=[.gone,.slc ((if fdE f=0 then b++fdB f else []).map gBy) tU8 1]
theorem FdP.bad {b:Bs}{f:RFd}{e:Int}(h:fdE f=e)(a:e≠0):FdP b f (.tup [.osl 1,gI e]) [.gone,.slc [] tU8 1]:=by unfold FdP;rw[h,dq a];exact⟨rfl,rfl⟩
theorem FdP.ok {b x:Bs}{f:RFd}(h:fdE f=0)(a:fdB f=x):FdP b f (.tup [.osl 1,gI 0]) [.gone,.slc ((b++x).map gBy) tU8 1]:=by unfold FdP;rw[h,dt rfl,a];exact⟨rfl,rfl⟩
theorem T7 (n:Int):IntKind.u8.wrap n=n % 256:=by simp[IntKind.wrap,IntKind.bits,IntKind.signed]
theorem Z0n (n:Nat):[[G.v (.int .u8 (IntKind.u8.wrap (((n:Nat):Int).fdiv (2 ^ min (8:Int).toNat 64))))],[G.v (.int .u8 (IntKind.u8.wrap ((n:Nat):Int)))]]=[[G.v (.int .u8 ((((n:Nat):Int) / 256) % 256))],[G.v (.int .u8 (((n:Nat):Int) % 256))]]:=by rw[T7,T7,Ks n 256 _ 8 rfl (by decide) (by decide)]
theorem Z4s (n:Int):[[G.v (.int .u8 (IntKind.u8.wrap (n.fdiv (2 ^ min (56:Int).toNat 64))))],[G.v (.int .u8 (IntKind.u8.wrap (n.fdiv (2 ^ min (48:Int).toNat 64))))],[G.v (.int .u8 (IntKind.u8.wrap (n.fdiv (2 ^ min (40:Int).toNat 64))))],[G.v (.int .u8 (IntKind.u8.wrap (n.fdiv (2 ^ min (32:Int).toNat 64))))],[G.v (.int .u8 (IntKind.u8.wrap (n.fdiv (2 ^ min (24:Int).toNat 64))))],[G.v (.int .u8 (IntKind.u8.wrap (n.fdiv (2 ^ min (16:Int).toNat 64))))],[G.v (.int .u8 (IntKind.u8.wrap (n.fdiv (2 ^ min (8:Int).toNat 64))))],[G.v (.int .u8 (IntKind.u8.wrap n))]]=[[G.v (.int .u8 (n / 72057594037927936 % 256))],[G.v (.int .u8 (n / 281474976710656 % 256))],[G.v (.int .u8 (n / 1099511627776 % 256))],[G.v (.int .u8 (n / 4294967296 % 256))],[G.v (.int .u8 (n / 16777216 % 256))],[G.v (.int .u8 (n / 65536 % 256))],[G.v (.int .u8 (n / 256 % 256))],[G.v (.int .u8 (n % 256))]]:=by simp only[T7];rw[Ks n 72057594037927936 _ 56 rfl (by decide) (by decide),Ks n 281474976710656 _ 48 rfl (by decide) (by decide),Ks n 1099511627776 _ 40 rfl (by decide) (by decide),Ks n 4294967296 _ 32 rfl (by decide) (by decide),Ks n 16777216 _ 24 rfl (by decide) (by decide),Ks n 65536 _ 16 rfl (by decide) (by decide),Ks n 256 _ 8 rfl (by decide) (by decide)]
set_option maxHeartbeats 2000000 in
theorem Zbz (b:Bs)(f:RFd)(m:b.length<=900000000):FnO Tryz.prog 64 [.osl 0,.agg (Yh f)] [.slc (b.map gBy) tU8 1] (FdP b f):=by
 obtain⟨kd,n,s⟩:=f;refine Z5 Tryz.func64 (Cj _ _) ?_;refine dv (fun(d:kd=3)=>?_) (fun(d:¬kd=3)=>?_)
 .subst d;refine dz (λi=>?_) (λi=>?_)
  .refine .inr ⟨0,_,itL [(0,.gone),(3,.slc [] tU8 1)],.tup [.osl 1,gI 21],rfl,⟨⟨⟨_,rfl,rfl,rfl⟩,⟨_,rfl,rfl,rfl⟩,trivial⟩,rfl,⟨_,rfl⟩,rfl,rfl,.bad (e:=21) ?_ (by decide)⟩⟩;unfold fdE;rw[dt rfl,dt i]
  .have i:n=0:=i;subst i;refine dz (λh=>du rfl h) λ_=>?_;refine dw (λh=>du h (show ¬(0:Int) < 0 by decide)) λ_=>?_;refine dv (λh=>du h (show ¬(3:Int)=1 by decide)) λ_=>?_;refine dv (λh=>du h (show ¬(3:Int)=4 by decide)) λ_=>?_;refine dv (λh=>du h (show ¬(3:Int)=2 by decide)) λ_=>?_;refine dv (λ_=>?_) λh=>du rfl h;refine dw (λh=>?_) λh=>?_
   .refine .inr ⟨0,_,itL [(0,.gone),(3,.slc [] tU8 1)],.tup [.osl 1,gI 22],rfl,⟨⟨⟨_,rfl,rfl,rfl⟩,⟨_,rfl,rfl,rfl⟩,trivial⟩,rfl,⟨_,rfl⟩,rfl,rfl,.bad (e:=22) ?_ (by decide)⟩⟩;have h:((s.size:Nat):Int) > 1024:=h;unfold fdE;rw[dt rfl,dq (λh=>h rfl),dt (by show s.size > 1024;omega)]
   .refine⟨by decide,?_⟩;have h:¬((s.size:Nat):Int) > 1024:=h;have g:fdE ⟨3,0,s⟩=0:=by
     unfold fdE;rw[dt rfl,dq (λh=>h rfl),dq (by show ¬s.size > 1024;omega)]
    have j:(b++[byI ((s.size:Int) / 256),byI s.size]).length+s.data.toList.length<=1000000000:=by
     have:s.data.toList.length=s.size:=by rw[cq];rfl
     simp only[List.length_append,List.length_cons,List.length_nil,this];omega
    have r:fdB ⟨3,0,s⟩=[byI ((s.size:Int) / 256),byI s.size]++s.data.toList:=by unfold fdB;rw[dt rfl];rfl
    refine⟨?_,?_⟩
    .refine⟨?_,?_⟩
     .refine dy ((Nc b [byI ((s.size:Int) / 256),byI s.size] ?hr (by simp;omega)).cal λq rs a=>?_)
      case hr =>
       simp only[List.map,Kc];exact Z0n s.size
      obtain⟨rfl,rfl⟩:=a;refine dy ((Nc (b++[byI ((s.size:Int) / 256),byI s.size]) s.data.toList rfl j).cal λq rs a=>?_);obtain⟨rfl,rfl⟩:=a;refine .inl ⟨itL [(0,.gone),(5,.slc ((b++fdB ⟨3,0,s⟩).map gBy) tU8 1)],.tup [.osl 1,gI 0],⟨⟨⟨_,rfl,rfl,rfl⟩,⟨_,rfl,?_,rfl⟩,trivial⟩,rfl,⟨_,rfl⟩,rfl,rfl,.ok g rfl⟩⟩;exact eqR (by rw[r,<-cg])
     .refine dy ((Nc b [byI ((s.size:Int) / 256),byI s.size] ?hr (by simp;omega)).cal λq rs a=>?_)
      case hr =>
       simp only[List.map,Kc];exact Z0n s.size
      obtain⟨rfl,rfl⟩:=a;refine dy ((Nc (b++[byI ((s.size:Int) / 256),byI s.size]) s.data.toList rfl j).cal λq rs a=>?_);obtain⟨rfl,rfl⟩:=a;refine .inl ⟨itL [(0,.gone),(5,.slc ((b++fdB ⟨3,0,s⟩).map gBy) tU8 1)],.tup [.osl 1,gI 0],⟨⟨⟨_,rfl,rfl,rfl⟩,⟨_,rfl,?_,rfl⟩,trivial⟩,rfl,⟨_,rfl⟩,rfl,rfl,.ok g rfl⟩⟩;exact eqR (by rw[r,<-cg])
    .refine dy ((Nc b [byI ((s.size:Int) / 256),byI s.size] ?hr (by simp;omega)).cal λq rs a=>?_)
     case hr =>
      simp only[List.map,Kc];exact Z0n s.size
     obtain⟨rfl,rfl⟩:=a;refine dy ((Nc (b++[byI ((s.size:Int) / 256),byI s.size]) s.data.toList rfl j).cal λq rs a=>?_);obtain⟨rfl,rfl⟩:=a;refine .inl ⟨itL [(0,.gone),(5,.slc ((b++fdB ⟨3,0,s⟩).map gBy) tU8 1)],.tup [.osl 1,gI 0],⟨⟨⟨_,rfl,rfl,rfl⟩,⟨_,rfl,?_,rfl⟩,trivial⟩,rfl,⟨_,rfl⟩,rfl,rfl,.ok g rfl⟩⟩;exact eqR (by rw[r,<-cg])
 .refine dz (λ_=>?_) (λh=>du h d);refine EvIf.bneS (fun(p:s≠⟨#[]⟩)=>?_) (fun(p:s=⟨#[]⟩)=>?_)
  .refine .inr ⟨0,_,itL [(0,.gone),(3,.slc [] tU8 1)],.tup [.osl 1,gI 21],rfl,⟨⟨⟨_,rfl,rfl,rfl⟩,⟨_,rfl,rfl,rfl⟩,trivial⟩,rfl,⟨_,rfl⟩,rfl,rfl,.bad (e:=21) (by unfold fdE;rw[dq d,dt (.inl p)]) (by decide)⟩⟩
  refine dw (fun(i:n < 0)=>?_) (fun(i:¬n < 0)=>?_)
  .refine .inr ⟨0,_,itL [(0,.gone),(3,.slc [] tU8 1)],.tup [.osl 1,gI 21],rfl,⟨⟨⟨_,rfl,rfl,rfl⟩,⟨_,rfl,rfl,rfl⟩,trivial⟩,rfl,⟨_,rfl⟩,rfl,rfl,.bad (e:=21) (by unfold fdE;rw[dq d,dt (.inr i)]) (by decide)⟩⟩
  have c:¬(s≠⟨#[]⟩\/n < 0):=λh=>h.elim (λh=>h p) i;refine dv (fun(l:kd=1)=>?_) (fun(l:¬kd=1)=>?_)
  .subst l;refine dw (fun(h:n < 256)=>?_) (fun(h:¬n < 256)=>?_)
   .have g:fdE ⟨1,n,s⟩=0:=by unfold fdE;rw[dq d,dq c,dt ⟨rfl,by show n<=255;omega⟩]
    refine dy ((Z83 b [byI n] (by simp only[List.map,Kc]) (by have:=m;simp only[List.length_cons,List.length_nil];omega)).cal λq rs a=>?_);obtain⟨rfl,rfl⟩:=a;refine .inl ⟨itL [(0,.gone),(4,.slc ((b++fdB ⟨1,n,s⟩).map gBy) tU8 1)],.tup [.osl 1,gI 0],⟨⟨⟨_,rfl,rfl,rfl⟩,⟨_,rfl,rfl,rfl⟩,trivial⟩,rfl,⟨_,rfl⟩,rfl,rfl,.ok g rfl⟩⟩
   .refine .inr ⟨0,_,itL [(0,.gone),(3,.slc [] tU8 1)],.tup [.osl 1,gI 21],rfl,⟨⟨⟨_,rfl,rfl,rfl⟩,⟨_,rfl,rfl,rfl⟩,trivial⟩,rfl,⟨_,rfl⟩,rfl,rfl,.bad (e:=21) (by unfold fdE;rw[dq d,dq c,dq (λk=>h (by have:n<=255:=k.2;omega)),dq (by rintro⟨h,-⟩;cases h),dq (by rintro⟨h,-⟩;cases h)]) (by decide)⟩⟩
  refine dv (fun(o:kd=4)=>?_) (fun(o:¬kd=4)=>?_)
  .subst o;refine dw (fun(h:n < 2)=>?_) (fun(h:¬n < 2)=>?_)
   .have g:fdE ⟨4,n,s⟩=0:=by unfold fdE;rw[dq d,dq c,dq (by rintro⟨h,-⟩;cases h),dt ⟨rfl,by show n<=1;omega⟩]
    refine dy ((Z83 b [byI n] (by simp only[List.map,Kc]) (by have:=m;simp only[List.length_cons,List.length_nil];omega)).cal λq rs a=>?_);obtain⟨rfl,rfl⟩:=a;refine .inl ⟨itL [(0,.gone),(4,.slc ((b++fdB ⟨4,n,s⟩).map gBy) tU8 1)],.tup [.osl 1,gI 0],⟨⟨⟨_,rfl,rfl,rfl⟩,⟨_,rfl,rfl,rfl⟩,trivial⟩,rfl,⟨_,rfl⟩,rfl,rfl,.ok g rfl⟩⟩
   .refine .inr ⟨0,_,itL [(0,.gone),(3,.slc [] tU8 1)],.tup [.osl 1,gI 21],rfl,⟨⟨⟨_,rfl,rfl,rfl⟩,⟨_,rfl,rfl,rfl⟩,trivial⟩,rfl,⟨_,rfl⟩,rfl,rfl,.bad (e:=21) (by unfold fdE;rw[dq d,dq c,dq (by rintro⟨h,-⟩;cases h),dq (λk=>h (by have:n<=1:=k.2;omega)),dq (by rintro⟨h,-⟩;cases h)]) (by decide)⟩⟩
  refine dv (fun(t:kd=2)=>?_) (fun(t:¬kd=2)=>?_)
  .subst t;refine dw (fun(h:n<=4611686018427387904)=>?_) (fun(h:¬n<=4611686018427387904)=>?_)
   .have g:fdE ⟨2,n,s⟩=0:=by unfold fdE;rw[dq d,dq c,dq (by rintro⟨h,-⟩;cases h),dq (by rintro⟨h,-⟩;cases h),dt ⟨rfl,h⟩]
    refine⟨by decide,⟨by decide,⟨by decide,⟨by decide,⟨by decide,⟨by decide,⟨by decide,?_⟩⟩⟩⟩⟩⟩⟩;refine dy ((Z83 b (be8 n) (by unfold be8;simp only[List.map,Kc];exact Z4s n) (by have:=m;simp only[be8,List.length_cons,List.length_nil];omega)).cal λq rs a=>?_);obtain⟨rfl,rfl⟩:=a;refine .inl ⟨itL [(0,.gone),(4,.slc ((b++fdB ⟨2,n,s⟩).map gBy) tU8 1)],.tup [.osl 1,gI 0],⟨⟨⟨_,rfl,rfl,rfl⟩,⟨_,rfl,rfl,rfl⟩,trivial⟩,rfl,⟨_,rfl⟩,rfl,rfl,.ok g rfl⟩⟩
   .refine .inr ⟨0,_,itL [(0,.gone),(3,.slc [] tU8 1)],.tup [.osl 1,gI 21],rfl,⟨⟨⟨_,rfl,rfl,rfl⟩,⟨_,rfl,rfl,rfl⟩,trivial⟩,rfl,⟨_,rfl⟩,rfl,rfl,.bad (e:=21) (by unfold fdE;rw[dq d,dq c,dq (by rintro⟨h,-⟩;cases h),dq (by rintro⟨h,-⟩;cases h),dq (λk=>h k.2)]) (by decide)⟩⟩
  refine dv (λh=>du h d) λ_=>?_;refine .inr ⟨0,_,itL [(0,.gone),(3,.slc [] tU8 1)],.tup [.osl 1,gI 21],rfl,⟨⟨⟨_,rfl,rfl,rfl⟩,⟨_,rfl,rfl,rfl⟩,trivial⟩,rfl,⟨_,rfl⟩,rfl,rfl,.bad (e:=21) (by unfold fdE;rw[dq d,dq c,dq (λh=>l h.1),dq (λh=>o h.1),dq (λh=>t h.1)]) (by decide)⟩⟩
theorem Yu (l:List RFd)(x:RFd):Il (l++[x])=Il l++fdB x:=by unfold Il;rw[List.flatMap_append];simp
theorem Z4o (l:List RFd)(n:l.length<=800000):FnO Tryz.prog 36 [.sl (l.map Yh)] [] λg rs=>g=.tup [.osl 0,gI (O0 l)]/\rs=[.slc ((Ze3 l).map gBy) tU8 1]:=by
 refine Z5 Tryz.func36 (Z3m _) ?_;refine As [0,2,3,9,10] [0] (λx:Nat=>[(11,gI x),(4,.osl 1)]) (λx=>[(1,.slc ((Il (l.take x)).map gBy) tU8 1)]) (λx=>x<=l.length/\∀y∈l.take x,fdE y=0) (λx=>l.length - x) 0 ⟨by omega,by simp⟩ ⟨⟨rfl,rfl⟩,⟨rfl,rfl⟩,trivial⟩ ⟨RL1,trivial⟩ rfl λi k=>?_;obtain⟨k,c⟩:=k;refine dw (λh=>?_) (λh=>?_)
 .refine ef (by simpa using h) λx e=>?_;have m:=B8 e;have o:=Z6g c;have hT:(l.take i).length<=800000:=by rw[be];omega
  refine dy ((Zbz (Il (l.take i)) x (by omega)).cal λq rs f=>?_);unfold FdP at f;obtain⟨rfl,rfl⟩:=f;refine dz (fun(d:fdE x≠0)=>?_) (fun(d:fdE x=0)=>?_)
  .have b:=Zao e c d;refine .inl ⟨itL [(4,.slc [] tU8 1)],.tup [.osl 0,gI (fdE x)],⟨⟨⟨_,rfl,rfl,rfl⟩,trivial⟩,rfl,⟨_,rfl⟩,rfl,rfl,?_,?_⟩⟩
   .rw[b]
   .unfold Ze3;rw[dq (by rw[b];exact d)];rfl
  .refine⟨by omega,i+1,⟨by omega,λy a=>?_⟩,(by dsimp only;omega),?_⟩
   .rw[Bb e] at a;rcases ce.1 a with a | a
    .exact c y a
    .rw[bx.1 a];exact d
   refine⟨?_,?_,rfl⟩<;>repeat' (first|exact trivial|with_reducible rfl|exact rfl|refine And.intro ?_ ?_)
   exact eqR (by rw[dt d,Bb e,Yu])
 .have j:l.take i=l:=ba (by simp at h;omega);rw[j] at c;have b:=Wg c;refine .inl ⟨itL [(1,.slc ((Il (l.take i)).map gBy) tU8 1)],.tup [.osl 0,gI 0],⟨⟨⟨_,rfl,rfl,rfl⟩,trivial⟩,rfl,⟨_,rfl⟩,rfl,rfl,?_,?_⟩⟩
  .rw[b]
  .unfold Ze3;rw[dt b,j];rfl
def szI (k:Int):Int:=if 1<=k/\k<=4 then(szN k:Int) else -1
theorem Zcm (k:Int):FnV Tryz.prog 96 [gI k] λg=>g=gI (szI k):=by
 refine fnG Tryz.func96 ?_;refine dv (fun(h:k=1)=>?_) (fun(a:¬k=1)=>?_)
 .subst h;exact dv (λ_=>rfl) (λh=>du rfl h)
 refine dv (fun(h:k=4)=>?_) (fun(d:¬k=4)=>?_)
 .subst h;exact rfl
 refine dv (fun(h:k=2)=>?_) (fun(c:¬k=2)=>?_)
 .subst h;exact rfl
 refine dv (fun(h:k=3)=>?_) (fun(b:¬k=3)=>?_)
 .subst h;exact rfl
 refine(show gI (-1)=gI (szI k) from ?_);unfold szI;rw[dq (by omega)]
theorem Zbd (v x:Nat)(h:v < 2 ^ 56)(a:x < 256):IntKind.wrap .u64 ((BitVec.ofInt 64 (IntKind.wrap .u64 ((v:Int) * 2 ^ min (Int.toNat 8) 64)) ||| BitVec.ofInt 64 (IntKind.wrap .u64 (x:Int))).toNat:Nat)=((v * 256+x:Nat):Int):=by
 have f:IntKind.wrap .u64 ((v:Int) * 2 ^ min (Int.toNat 8) 64)=((v * 256:Nat):Int):=by
  have:(v:Int) * 2 ^ min (Int.toNat 8) 64=((v * 256:Nat):Int):=by rw[show(2:Int) ^ min (Int.toNat 8) 64=256 from rfl];omega
  rw[this];simp only[IntKind.wrap,IntKind.bits,IntKind.signed,Bool.false_and,if_false,Bool.false_eq_true];omega
 have c:IntKind.wrap .u64 (x:Int)=(x:Int):=by simp only[IntKind.wrap,IntKind.bits,IntKind.signed,Bool.false_and,if_false,Bool.false_eq_true];omega
 have e:∀n:Nat,n < 2 ^ 64->(BitVec.ofInt 64 (n:Int)).toNat=n:=λn g=>by rw[BitVec.toNat_ofInt];omega
 rw[f,c,BitVec.toNat_or,e _ (by omega),e _ (by omega)];have d:v * 256 ||| x=v * 256+x:=by have:=Nat.shiftLeft_add_eq_or_of_lt (i:=8) (b:=x) a v;rw[Nat.shiftLeft_eq] at this;exact this.symm
 rw[d];simp only[IntKind.wrap,IntKind.bits,IntKind.signed,Bool.false_and,if_false,Bool.false_eq_true];omega
def nxR (k:Int)(b:Bs):G:=.tup [.agg (Yh (if nxE k b=0 then nxF k b else fd0)),gI (if nxE k b=0 then(nxN k b:Int) else 0),gI (nxE k b)]
theorem Zdk (k:Int)(b:Bs)(N:b.length<=1000000000):FnV Tryz.prog 68 [gI k,.sl (b.map gBy)] λg=>g=nxR k b:=by
 refine fnG Tryz.func68 ?_;refine(Zcm k).cal λq H=>?_;subst H;unfold nxR;refine dw (fun(h:szI k < 0)=>?_) (fun(h:¬szI k < 0)=>?_)
 .have e:nxE k b=21:=by
   unfold nxE;rw[dt (λl=>by unfold szI at h;rw[dt l] at h;omega)]
  rw[e];exact rfl
 have l:1<=k/\k<=4:=Decidable.byContradiction λl=>h (by unfold szI;rw[dq l];decide);have I:szI k=szN k:=by unfold szI;rw[dt l]
 rw[I];have K:=Zcv k;refine dw (λh=>?_) (λh=>?_)
 .have h:((b.length:Nat):Int) < szN k:=by simpa using h
  have e:nxE k b=20:=by unfold nxE;rw[dq (λh=>h l),dt (by omega)]
  rw[e];exact rfl
 have h:¬((b.length:Nat):Int) < szN k:=by simpa using h
 have u:=h;have f:∀r∈b.map gBy,r.length=1:=λr hr=>by obtain⟨x,-,rfl⟩:=bj.1 hr;rfl
 refine⟨⟨by omega,by omega,by rw[ao];omega⟩,⟨f,?_⟩⟩;have eS:Fr (b.map gBy) (0:Int).toNat ((szN k:Nat):Int).toNat=(b.take (szN k)).map gBy:=by unfold Fr;simp[List.map_take]
 rw[eS];have A:(b.take (szN k)).length=szN k:=by rw[be];omega
 refine As [0,1,4,5,6,7,8,28,29] [0,1] (λi:Nat=>[(30,gI i),(9,.v (.int .u64 (Yj ((b.take (szN k)).take i))))]) (λ_=>[]) (λi=>i<=szN k) (λi=>szN k - i) 0 (by omega) ⟨⟨rfl,rfl⟩,⟨rfl,rfl⟩,trivial⟩ trivial rfl λi M=>?_;refine dw (λh=>?_) (λh=>?_)
 .have h:i < (b.take (szN k)).length:=by simpa using h
  refine ef (by simpa using h) λx E=>?_;refine⟨by decide,⟨by omega,i+1,by omega,(by dsimp only;omega),?_⟩⟩;refine⟨?_,?_,rfl⟩<;>repeat' (first|exact trivial|with_reducible rfl|exact rfl|refine And.intro ?_ ?_)
  have w:Yj ((b.take (szN k)).take i) < 2 ^ 56:=by have C:=Z1x ((b.take (szN k)).take i);refine bc C ?_;rw[show(2:Nat) ^ 56=256 ^ 7 by decide];exact Nat.pow_le_pow_right (by decide) (by rw[be];omega)
  rw[Bb E,Z08];exact congrArg (λn=>some (G.v (.int .u64 n))) (Zbd _ _ w x.toNat_lt)
 .have F:(b.take (szN k)).take i=b.take (szN k):=ba (by simp at h;omega);rw[F];have a:nxE k b=if(k=2/\big < nxV k b)\/(k=4/\1 < nxV k b) then 21 else if k≠3 then 0 else if 1024 < nxV k b then 22 else if b.length < 2+nxV k b then 20 else 0:=by
   unfold nxE;rw[dq (λh=>h l),dq (by omega)]
  have L:Yj (b.take (szN k))=nxV k b:=rfl;rw[L];generalize j:nxV k b=v at *;have p:nxN k b=if k=3 then 2+v else szN k:=by unfold nxN;rw[j]
  have s:nxF k b=if k=3 then⟨3,0,⟨((b.drop 2).take v).toArray⟩⟩ else⟨k,v,⟨#[]⟩⟩:=by unfold nxF;rw[j]
  refine dv (fun(y:k=2)=>?_) (fun(y:¬k=2)=>?_)
  .refine dw (fun(h:(v:Int) > big)=>?_) (fun(h:¬(v:Int) > big)=>?_)
   .rw[dt (.inl ⟨y,h⟩)] at a;rw[a];exact rfl
   .rw[dq (by rintro(o | o)<;>omega),dt (by omega)] at a;refine dv (λD=>du D (show ¬k=4 by omega)) λ_=>?_;refine dz (λ_=>?_) (λm=>du m (show ¬k=3 by omega));rw[a,dt rfl,dt rfl,p,s,dq (by omega),dq (by omega)];exact⟨by unfold big at h;omega,rfl⟩
  .refine dv (fun(z:k=4)=>?_) (fun(z:¬k=4)=>?_)
   .refine dw (fun(h:(v:Int) > 1)=>?_) (fun(h:¬(v:Int) > 1)=>?_)
    .rw[dt (.inr ⟨z,by omega⟩)] at a;rw[a];exact rfl
    .rw[dq (by rintro(o | o)<;>omega),dt (by omega)] at a;refine dz (λ_=>?_) (λm=>du m (show ¬k=3 by omega));rw[a,dt rfl,dt rfl,p,s,dq (by omega),dq (by omega)];exact⟨by omega,rfl⟩
   .rw[dq (by rintro(o | o)<;>omega)] at a;have c:v < 256 ^ szN k:=by
     have:=Z1x (b.take (szN k));rw[A] at this;rw[<-j];exact this
    refine dz (fun(m:k≠3)=>?_) (fun(m:k=3)=>?_)
    .have J:k=1:=by omega
     subst J;have c:v < 256:=c;rw[dt (by decide)] at a;rw[a,dt rfl,dt rfl,p,s,dq (by decide),dq (by decide)];exact⟨by omega,rfl⟩
    .subst m;have c:v < 65536:=c;rw[dq (λh=>h rfl)] at a;refine dw (fun(h:(v:Int) > 1024)=>?_) (fun(h:¬(v:Int) > 1024)=>?_)
     .rw[dt (by omega)] at a;rw[a];exact rfl
     .rw[dq (by omega)] at a;have B:szN 3=2:=rfl;rw[B];have d:(b.map gBy).length=b.length:=ao _;rw[B] at u A;refine⟨by rw[d];omega,⟨by omega,?_⟩⟩;refine dw (fun(t:(((b.map gBy).length:Nat):Int) - (2:Nat) < v)=>?_) (fun(t:¬(((b.map gBy).length:Nat):Int) - (2:Nat) < v)=>?_)
      .rw[d] at t;rw[dt (by omega)] at a;rw[a];exact rfl
      .rw[d] at t;rw[dq (by omega)] at a;rw[a,dt rfl,dt rfl,p,s,dt rfl,dt rfl];refine⟨by omega,⟨by omega,⟨⟨by omega,by omega,by rw[d];omega⟩,⟨f,EvBytes.mk ⟨(b.drop 2).take v,?_,⟨by omega,⟨by omega,rfl⟩⟩⟩⟩⟩⟩⟩;unfold Fr;rw[show(((2:Nat):Int)+(v:Int)).toNat=v+2 by omega,show(((2:Nat):Int)).toNat=2 from rfl,<-dh,<-List.map_drop,List.drop_take];rfl
abbrev tFd:Nat:=98
def gNi (k:Int):List G:=[gI k]
theorem Z69 (b:Bs)(n:Nat):Fr (b.map gBy) (n:Int).toNat (((b.map gBy).length:Nat):Int).toNat=(b.drop n).map gBy:=by unfold Fr;rw[bh,bh,ba (by simp),List.map_drop]
theorem Z8a (b:Bs):∀r∈b.map gBy,r.length=1:=λr hr=>by obtain⟨x,-,rfl⟩:=bj.1 hr;rfl
def smG (s:Sm):G:=.tup [.sl (s.l.map Yh),gI s.n,gI s.e]
theorem Z7u (ks:List Int)(b:Bs)(u:ks.length<=1000000)(v:b.length<=1000000000):FnV Tryz.prog 39 [.sl (ks.map gNi),.sl (b.map gBy)] λg=>g=smG (Cf ks b):=by
 refine fnG Tryz.func39 ?_;refine As [0,1,5,6,14,15] [0] (λi:Nat=>[(16,gI i),(8,gI ((Cf (ks.take i) b).n:Int)),(7,.osl 1)]) (λi=>[(1,.slc ((Cf (ks.take i) b).l.map Yh) tFd 3)]) (λi=>i<=ks.length/\(Cf (ks.take i) b).e=0) (λi=>ks.length - i) 0 ⟨by omega,rfl⟩ ⟨⟨rfl,rfl⟩,⟨rfl,rfl⟩,⟨rfl,rfl⟩,trivial⟩ ⟨RL1,trivial⟩ rfl λi o=>?_;obtain⟨o,c⟩:=o;refine dw (λh=>?_) (λh=>?_)
 .refine ef (by simpa using h) λk f=>?_;have p:=B8 f;have j:=Lk (ks.take i) b;refine⟨⟨by omega,by rw[ao];omega,by omega⟩,⟨Z8a b,?_⟩⟩;rw[Z69];refine(Zdk k (b.drop (Cf (ks.take i) b).n) (by rw[bk];omega)).cal λq t=>?_;subst t;unfold nxR;refine dz (λa=>?_) (λa=>?_)
  .rw[We ks b i k f c a];exact rfl
  .have a:nxE k (b.drop (Cf (ks.take i) b).n)=0:=a;have d:=R5 (ks.take i) b k c;rw[<-Bb f,dq (λh=>h a)] at d;have s:=j.2 c;rw[be] at s;have m:=Z7q a;rw[bk] at m;rw[dt a,dt a];refine⟨by simp;omega,⟨by omega,⟨by omega,i+1,⟨by omega,by rw[d]⟩,(by dsimp only;omega),?_⟩⟩⟩;refine⟨?_,?_,rfl⟩<;>repeat' (first|exact trivial|with_reducible rfl|exact rfl|refine And.intro ?_ ?_)
   .exact eqI (by rw[d];simp only;omega)
   .exact eqR (by rw[d,az];rfl)
 .have r:ks.take i=ks:=ba (by simp at h;omega);rw[r] at c⊢;unfold smG;rw[c];exact rfl
theorem Z5l (ks:List Int)(b:Bs)(d:ks.length<=1000000)(c:b.length<=1000000000):FnV Tryz.prog 40 [.sl (ks.map gNi),.sl (b.map gBy)] λg=>g=.tup [.sl ((S9 ks b).l.map Yh),gI (S9 ks b).e]:=by
 refine fnG Tryz.func40 ?_;refine(Z7u ks b d c).cal λq i=>?_;subst i;unfold smG S9;have f:=(Lk ks b).1;refine dz (λa=>?_) (λa=>?_)
 .rw[dt a];exact rfl
 .have a:(Cf ks b).e=0:=a;rw[dq (λh=>h a)];refine dw (λh=>?_) (λh=>?_)
  .have h:(((Cf ks b).n:Nat):Int) < b.length:=by simpa using h
   rw[dt (by omega)];exact rfl
  .have h:¬(((Cf ks b).n:Nat):Int) < b.length:=by simpa using h
   rw[dq (by omega),a];exact rfl
end Go.Proofs.YtmmdikhljefeiaaGreat


import Derived.Test.YtmmdikhljefeiaaGreatPKM
import Derived.Test.YtmmdikhljefeiaaGreatYFnu
import Derived.Test.YtmmdikhljefeiaaGreatSxMc
import Derived.Test.YtmmdikhljefeiaaGreatZM1
namespace Go.Proofs.YtmmdikhljefeiaaGreat
open Go.RowKit
set_option maxRecDepth 100000
abbrev tU8:Nat:=5
def Y4 (f:RFd):List G:=[gI f.kind,gI f.n,gS f.s]
theorem Jl (n:Int):gBy (byI n)=[.v (.int .u8 (n % 256))]:=by unfold gBy;rw[M8]
theorem Zf0 (a b:Bs)(ha:a.length+b.length<=1000000000):FnO Tryz.prog 95 [.osl 0,.osl 1] [.slc (a.map gBy) tU8 1,.slc (b.map gBy) tU8 1] λg rs=>g=.osl 2/\rs=[.gone,.gone,.slc ((a++b).map gBy) tU8 1]:=by refine Z5u Tryz.func95 (Dh _ _) ?_;refine⟨by simp;omega,?_⟩;refine .inr ⟨1,_,itL [(0,.gone),(1,.gone),(3,.slc ((a++b).map gBy) tU8 1)],.osl 2,rfl,⟨⟨⟨_,rfl,rfl,rfl⟩,⟨_,rfl,rfl,rfl⟩,⟨_,rfl,?_,rfl⟩,trivial⟩,rfl,⟨_,rfl⟩,rfl,rfl,⟨rfl,rfl⟩⟩⟩;exact eqR (by rw[ba])
theorem Zdd (a:Bs)(b:Bs)(ha:a.length+b.length<=1000000000):FnO Tryz.prog 95 [.osl 0,.sl (b.map gBy)] [.slc (a.map gBy) tU8 1] λg rs=>g=.osl 1/\rs=[.gone,.slc ((a++b).map gBy) tU8 1]:=by refine Z5u Tryz.func95 (Dh _ _) ?_;refine⟨λr hr=>by obtain⟨c,-,rfl⟩:=bk.1 hr;exact⟨rfl,rfl⟩,⟨by simp;omega,?_⟩⟩;refine .inl ⟨itL [(0,.gone),(2,.slc ((a++b).map gBy) tU8 1)],.osl 1,⟨⟨⟨_,rfl,rfl,rfl⟩,⟨_,rfl,?_,rfl⟩,trivial⟩,rfl,⟨_,rfl⟩,rfl,rfl,⟨rfl,rfl⟩⟩⟩;exact eqR (by rw[ba])
theorem Z9n (a b:Bs){c:List (List G)}(hr:c=b.map gBy)(ha:a.length+b.length<=1000000000):FnO Tryz.prog 95 [.osl 0,.osl 1] [.slc (a.map gBy) tU8 1,.slc c tU8 1] λg rs=>g=.osl 2/\rs=[.gone,.gone,.slc ((a++b).map gBy) tU8 1]:=by subst hr;exact Zf0 a b ha
theorem Ng (a b:Bs){c:List (List G)}(hr:c=b.map gBy)(ha:a.length+b.length<=1000000000):FnO Tryz.prog 95 [.osl 0,.sl c] [.slc (a.map gBy) tU8 1] λg rs=>g=.osl 1/\rs=[.gone,.slc ((a++b).map gBy) tU8 1]:=by subst hr;exact Zdd a b ha
theorem Kp (n m:Int)(j k:Nat)(a:min j 64=k)(b:(2:Int) ^ k=m)(c:0<=m):n.fdiv (2 ^ min j 64)=n / m:=by rw[a,b];exact Int.fdiv_eq_ediv_of_nonneg _ c
def FdP (b:Bs)(f:RFd)(g:G)(rs:List R):Prop:=g=.tup [.osl 1,gI (fdE f)]/\rs=[.gone,.slc ((if fdE f=0 then b++fdB f else []).map gBy) tU8 1]
theorem FdP.bad {b:Bs}{f:RFd}{e:Int}(h:fdE f=e)(a:e≠0):FdP b f (.tup [.osl 1,gI e]) [.gone,.slc [] tU8 1]:=by unfold FdP;rw[h,dp a];exact⟨rfl,rfl⟩
theorem FdP.ok {b x:Bs}{f:RFd}(h:fdE f=0)(a:fdB f=x):FdP b f (.tup [.osl 1,gI 0]) [.gone,.slc ((b++x).map gBy) tU8 1]:=by unfold FdP;rw[h,dq rfl,a];exact⟨rfl,rfl⟩
theorem Sy (n:Int):IntKind.u8.wrap n=n % 256:=by simp[IntKind.wrap,IntKind.bits,IntKind.signed]
theorem Z1o (n:Nat):[[G.v (.int .u8 (IntKind.u8.wrap (((n:Nat):Int).fdiv (2 ^ min (8:Int).toNat 64))))],[G.v (.int .u8 (IntKind.u8.wrap ((n:Nat):Int)))]]=[[G.v (.int .u8 ((((n:Nat):Int) / 256) % 256))],[G.v (.int .u8 (((n:Nat):Int) % 256))]]:=by rw[Sy,Sy,Kp n 256 _ 8 rfl (by decide) (by decide)]
theorem Z62 (n:Int):[[G.v (.int .u8 (IntKind.u8.wrap (n.fdiv (2 ^ min (56:Int).toNat 64))))],[G.v (.int .u8 (IntKind.u8.wrap (n.fdiv (2 ^ min (48:Int).toNat 64))))],[G.v (.int .u8 (IntKind.u8.wrap (n.fdiv (2 ^ min (40:Int).toNat 64))))],[G.v (.int .u8 (IntKind.u8.wrap (n.fdiv (2 ^ min (32:Int).toNat 64))))],[G.v (.int .u8 (IntKind.u8.wrap (n.fdiv (2 ^ min (24:Int).toNat 64))))],[G.v (.int .u8 (IntKind.u8.wrap (n.fdiv (2 ^ min (16:Int).toNat 64))))],[G.v (.int .u8 (IntKind.u8.wrap (n.fdiv (2 ^ min (8:Int).toNat 64))))],[G.v (.int .u8 (IntKind.u8.wrap n))]]=[[G.v (.int .u8 (n / 72057594037927936 % 256))],[G.v (.int .u8 (n / 281474976710656 % 256))],[G.v (.int .u8 (n / 1099511627776 % 256))],[G.v (.int .u8 (n / 4294967296 % 256))],[G.v (.int .u8 (n / 16777216 % 256))],[G.v (.int .u8 (n / 65536 % 256))],[G.v (.int .u8 (n / 256 % 256))],[G.v (.int .u8 (n % 256))]]:=by simp only[Sy];rw[Kp n 72057594037927936 _ 56 rfl (by decide) (by decide),Kp n 281474976710656 _ 48 rfl (by decide) (by decide),Kp n 1099511627776 _ 40 rfl (by decide) (by decide),Kp n 4294967296 _ 32 rfl (by decide) (by decide),Kp n 16777216 _ 24 rfl (by decide) (by decide),Kp n 65536 _ 16 rfl (by decide) (by decide),Kp n 256 _ 8 rfl (by decide) (by decide)]
set_option maxHeartbeats 2000000 in
theorem Zbl (b:Bs)(f:RFd)(o:b.length<=900000000):FnO Tryz.prog 64 [.osl 0,.agg (Y4 f)] [.slc (b.map gBy) tU8 1] (FdP b f):=by
 obtain⟨kd,n,s⟩:=f;refine Z5u Tryz.func64 (Dh _ _) ?_;refine du (fun(d:kd=3)=>?_) (fun(d:¬kd=3)=>?_)
 .subst d;refine dy (λi=>?_) (λi=>?_)
  .refine .inr ⟨0,_,itL [(0,.gone),(3,.slc [] tU8 1)],.tup [.osl 1,gI 21],rfl,⟨⟨⟨_,rfl,rfl,rfl⟩,⟨_,rfl,rfl,rfl⟩,trivial⟩,rfl,⟨_,rfl⟩,rfl,rfl,.bad (e:=21) ?_ (by decide)⟩⟩;unfold fdE;rw[dq rfl,dq i]
  .have i:n=0:=i;subst i;refine dy (λh=>dt rfl h) λ_=>?_;refine dv (λh=>dt h (show ¬(0:Int) < 0 by decide)) λ_=>?_;refine du (λh=>dt h (show ¬(3:Int)=1 by decide)) λ_=>?_;refine du (λh=>dt h (show ¬(3:Int)=4 by decide)) λ_=>?_;refine du (λh=>dt h (show ¬(3:Int)=2 by decide)) λ_=>?_;refine du (λ_=>?_) λh=>dt rfl h;refine dv (λh=>?_) λh=>?_
   .refine .inr ⟨0,_,itL [(0,.gone),(3,.slc [] tU8 1)],.tup [.osl 1,gI 22],rfl,⟨⟨⟨_,rfl,rfl,rfl⟩,⟨_,rfl,rfl,rfl⟩,trivial⟩,rfl,⟨_,rfl⟩,rfl,rfl,.bad (e:=22) ?_ (by decide)⟩⟩;have h:((s.size:Nat):Int) > 1024:=h;unfold fdE;rw[dq rfl,dp (λh=>h rfl),dq (by show s.size > 1024;omega)]
   .refine⟨by decide,?_⟩;have h:¬((s.size:Nat):Int) > 1024:=h;have g:fdE ⟨3,0,s⟩=0:=by
     unfold fdE;rw[dq rfl,dp (λh=>h rfl),dp (by show ¬s.size > 1024;omega)]
    have j:(b++[byI ((s.size:Int) / 256),byI s.size]).length+s.data.toList.length<=1000000000:=by
     have:s.data.toList.length=s.size:=by rw[cp];rfl
     simp only[List.length_append,List.length_cons,List.length_nil,this];omega
    have t:fdB ⟨3,0,s⟩=[byI ((s.size:Int) / 256),byI s.size]++s.data.toList:=by unfold fdB;rw[dq rfl];rfl
    refine⟨?_,?_⟩
    .refine⟨?_,?_⟩
     .refine dx ((Ng b [byI ((s.size:Int) / 256),byI s.size] ?hr (by simp;omega)).cal λq rs a=>?_)
      case hr =>
       simp only[List.map,Jl];exact Z1o s.size
      obtain⟨rfl,rfl⟩:=a;refine dx ((Ng (b++[byI ((s.size:Int) / 256),byI s.size]) s.data.toList rfl j).cal λq rs a=>?_);obtain⟨rfl,rfl⟩:=a;refine .inl ⟨itL [(0,.gone),(5,.slc ((b++fdB ⟨3,0,s⟩).map gBy) tU8 1)],.tup [.osl 1,gI 0],⟨⟨⟨_,rfl,rfl,rfl⟩,⟨_,rfl,?_,rfl⟩,trivial⟩,rfl,⟨_,rfl⟩,rfl,rfl,.ok g rfl⟩⟩;exact eqR (by rw[t,<-cf])
     .refine dx ((Ng b [byI ((s.size:Int) / 256),byI s.size] ?hr (by simp;omega)).cal λq rs a=>?_)
      case hr =>
       simp only[List.map,Jl];exact Z1o s.size
      obtain⟨rfl,rfl⟩:=a;refine dx ((Ng (b++[byI ((s.size:Int) / 256),byI s.size]) s.data.toList rfl j).cal λq rs a=>?_);obtain⟨rfl,rfl⟩:=a;refine .inl ⟨itL [(0,.gone),(5,.slc ((b++fdB ⟨3,0,s⟩).map gBy) tU8 1)],.tup [.osl 1,gI 0],⟨⟨⟨_,rfl,rfl,rfl⟩,⟨_,rfl,?_,rfl⟩,trivial⟩,rfl,⟨_,rfl⟩,rfl,rfl,.ok g rfl⟩⟩;exact eqR (by rw[t,<-cf])
    .refine dx ((Ng b [byI ((s.size:Int) / 256),byI s.size] ?hr (by simp;omega)).cal λq rs a=>?_)
     case hr =>
      simp only[List.map,Jl];exact Z1o s.size
     obtain⟨rfl,rfl⟩:=a;refine dx ((Ng (b++[byI ((s.size:Int) / 256),byI s.size]) s.data.toList rfl j).cal λq rs a=>?_);obtain⟨rfl,rfl⟩:=a;refine .inl ⟨itL [(0,.gone),(5,.slc ((b++fdB ⟨3,0,s⟩).map gBy) tU8 1)],.tup [.osl 1,gI 0],⟨⟨⟨_,rfl,rfl,rfl⟩,⟨_,rfl,?_,rfl⟩,trivial⟩,rfl,⟨_,rfl⟩,rfl,rfl,.ok g rfl⟩⟩;exact eqR (by rw[t,<-cf])
 .refine dy (λ_=>?_) (λh=>dt h d);refine EvIf.bneS (fun(l:s≠⟨#[]⟩)=>?_) (fun(l:s=⟨#[]⟩)=>?_)
  .refine .inr ⟨0,_,itL [(0,.gone),(3,.slc [] tU8 1)],.tup [.osl 1,gI 21],rfl,⟨⟨⟨_,rfl,rfl,rfl⟩,⟨_,rfl,rfl,rfl⟩,trivial⟩,rfl,⟨_,rfl⟩,rfl,rfl,.bad (e:=21) (by unfold fdE;rw[dp d,dq (.inl l)]) (by decide)⟩⟩
  refine dv (fun(i:n < 0)=>?_) (fun(i:¬n < 0)=>?_)
  .refine .inr ⟨0,_,itL [(0,.gone),(3,.slc [] tU8 1)],.tup [.osl 1,gI 21],rfl,⟨⟨⟨_,rfl,rfl,rfl⟩,⟨_,rfl,rfl,rfl⟩,trivial⟩,rfl,⟨_,rfl⟩,rfl,rfl,.bad (e:=21) (by unfold fdE;rw[dp d,dq (.inr i)]) (by decide)⟩⟩
  have c:¬(s≠⟨#[]⟩\/n < 0):=λh=>h.elim (λh=>h l) i;refine du (fun(r:kd=1)=>?_) (fun(r:¬kd=1)=>?_)
  .subst r;refine dv (fun(h:n < 256)=>?_) (fun(h:¬n < 256)=>?_)
   .have g:fdE ⟨1,n,s⟩=0:=by unfold fdE;rw[dp d,dp c,dq ⟨rfl,by show n<=255;omega⟩]
    refine dx ((Z9n b [byI n] (by simp only[List.map,Jl]) (by have:=o;simp only[List.length_cons,List.length_nil];omega)).cal λq rs a=>?_);obtain⟨rfl,rfl⟩:=a;refine .inl ⟨itL [(0,.gone),(4,.slc ((b++fdB ⟨1,n,s⟩).map gBy) tU8 1)],.tup [.osl 1,gI 0],⟨⟨⟨_,rfl,rfl,rfl⟩,⟨_,rfl,rfl,rfl⟩,trivial⟩,rfl,⟨_,rfl⟩,rfl,rfl,.ok g rfl⟩⟩
   .refine .inr ⟨0,_,itL [(0,.gone),(3,.slc [] tU8 1)],.tup [.osl 1,gI 21],rfl,⟨⟨⟨_,rfl,rfl,rfl⟩,⟨_,rfl,rfl,rfl⟩,trivial⟩,rfl,⟨_,rfl⟩,rfl,rfl,.bad (e:=21) (by unfold fdE;rw[dp d,dp c,dp (λk=>h (by have:n<=255:=k.2;omega)),dp (by rintro⟨h,-⟩;cases h),dp (by rintro⟨h,-⟩;cases h)]) (by decide)⟩⟩
  refine du (fun(p:kd=4)=>?_) (fun(p:¬kd=4)=>?_)
  .subst p;refine dv (fun(h:n < 2)=>?_) (fun(h:¬n < 2)=>?_)
   .have g:fdE ⟨4,n,s⟩=0:=by unfold fdE;rw[dp d,dp c,dp (by rintro⟨h,-⟩;cases h),dq ⟨rfl,by show n<=1;omega⟩]
    refine dx ((Z9n b [byI n] (by simp only[List.map,Jl]) (by have:=o;simp only[List.length_cons,List.length_nil];omega)).cal λq rs a=>?_);obtain⟨rfl,rfl⟩:=a;refine .inl ⟨itL [(0,.gone),(4,.slc ((b++fdB ⟨4,n,s⟩).map gBy) tU8 1)],.tup [.osl 1,gI 0],⟨⟨⟨_,rfl,rfl,rfl⟩,⟨_,rfl,rfl,rfl⟩,trivial⟩,rfl,⟨_,rfl⟩,rfl,rfl,.ok g rfl⟩⟩
   .refine .inr ⟨0,_,itL [(0,.gone),(3,.slc [] tU8 1)],.tup [.osl 1,gI 21],rfl,⟨⟨⟨_,rfl,rfl,rfl⟩,⟨_,rfl,rfl,rfl⟩,trivial⟩,rfl,⟨_,rfl⟩,rfl,rfl,.bad (e:=21) (by unfold fdE;rw[dp d,dp c,dp (by rintro⟨h,-⟩;cases h),dp (λk=>h (by have:n<=1:=k.2;omega)),dp (by rintro⟨h,-⟩;cases h)]) (by decide)⟩⟩
  refine du (fun(m:kd=2)=>?_) (fun(m:¬kd=2)=>?_)
  .subst m;refine dv (fun(h:n<=4611686018427387904)=>?_) (fun(h:¬n<=4611686018427387904)=>?_)
   .have g:fdE ⟨2,n,s⟩=0:=by unfold fdE;rw[dp d,dp c,dp (by rintro⟨h,-⟩;cases h),dp (by rintro⟨h,-⟩;cases h),dq ⟨rfl,h⟩]
    refine⟨by decide,⟨by decide,⟨by decide,⟨by decide,⟨by decide,⟨by decide,⟨by decide,?_⟩⟩⟩⟩⟩⟩⟩;refine dx ((Z9n b (be8 n) (by unfold be8;simp only[List.map,Jl];exact Z62 n) (by have:=o;simp only[be8,List.length_cons,List.length_nil];omega)).cal λq rs a=>?_);obtain⟨rfl,rfl⟩:=a;refine .inl ⟨itL [(0,.gone),(4,.slc ((b++fdB ⟨2,n,s⟩).map gBy) tU8 1)],.tup [.osl 1,gI 0],⟨⟨⟨_,rfl,rfl,rfl⟩,⟨_,rfl,rfl,rfl⟩,trivial⟩,rfl,⟨_,rfl⟩,rfl,rfl,.ok g rfl⟩⟩
   .refine .inr ⟨0,_,itL [(0,.gone),(3,.slc [] tU8 1)],.tup [.osl 1,gI 21],rfl,⟨⟨⟨_,rfl,rfl,rfl⟩,⟨_,rfl,rfl,rfl⟩,trivial⟩,rfl,⟨_,rfl⟩,rfl,rfl,.bad (e:=21) (by unfold fdE;rw[dp d,dp c,dp (by rintro⟨h,-⟩;cases h),dp (by rintro⟨h,-⟩;cases h),dp (λk=>h k.2)]) (by decide)⟩⟩
  refine du (λh=>dt h d) λ_=>?_;refine .inr ⟨0,_,itL [(0,.gone),(3,.slc [] tU8 1)],.tup [.osl 1,gI 21],rfl,⟨⟨⟨_,rfl,rfl,rfl⟩,⟨_,rfl,rfl,rfl⟩,trivial⟩,rfl,⟨_,rfl⟩,rfl,rfl,.bad (e:=21) (by unfold fdE;rw[dp d,dp c,dp (λh=>r h.1),dp (λh=>p h.1),dp (λh=>m h.1)]) (by decide)⟩⟩
theorem Yw (l:List RFd)(x:RFd):Ic (l++[x])=Ic l++fdB x:=by unfold Ic;rw[List.flatMap_append];simp
theorem Z3b (l:List RFd)(n:l.length<=800000):FnO Tryz.prog 36 [.sl (l.map Y4)] [] λg rs=>g=.tup [.osl 0,gI (Ny l)]/\rs=[.slc ((Zdt l).map gBy) tU8 1]:=by
 refine Z5u Tryz.func36 (Z8k _) ?_;refine Ax [0,2,3,9,10] [0] (λx:Nat=>[(11,gI x),(4,.osl 1)]) (λx=>[(1,.slc ((Ic (l.take x)).map gBy) tU8 1)]) (λx=>x<=l.length/\∀y∈l.take x,fdE y=0) (λx=>l.length - x) 0 ⟨by omega,by simp⟩ ⟨⟨rfl,rfl⟩,⟨rfl,rfl⟩,trivial⟩ ⟨RL1,trivial⟩ rfl λi k=>?_;obtain⟨k,c⟩:=k;refine dv (λh=>?_) (λh=>?_)
 .refine ee (by simpa using h) λx e=>?_;have m:=Bd e;have o:=Z4i c;have hT:(l.take i).length<=800000:=by rw[bf];omega
  refine dx ((Zbl (Ic (l.take i)) x (by omega)).cal λq rs j=>?_);unfold FdP at j;obtain⟨rfl,rfl⟩:=j;refine dy (fun(d:fdE x≠0)=>?_) (fun(d:fdE x=0)=>?_)
  .have b:=Z98 e c d;refine .inl ⟨itL [(4,.slc [] tU8 1)],.tup [.osl 0,gI (fdE x)],⟨⟨⟨_,rfl,rfl,rfl⟩,trivial⟩,rfl,⟨_,rfl⟩,rfl,rfl,?_,?_⟩⟩
   .rw[b]
   .unfold Zdt;rw[dp (by rw[b];exact d)];rfl
  .refine⟨by omega,i+1,⟨by omega,λy a=>?_⟩,(by dsimp only;omega),?_⟩
   .rw[B9 e] at a;rcases cd.1 a with a | a
    .exact c y a
    .rw[bx.1 a];exact d
   refine⟨?_,?_,rfl⟩<;>repeat' (first|exact trivial|with_reducible rfl|exact rfl|refine And.intro ?_ ?_)
   exact eqR (by rw[dq d,B9 e,Yw])
 .have f:l.take i=l:=bc (by simp at h;omega);rw[f] at c;have b:=Vu c;refine .inl ⟨itL [(1,.slc ((Ic (l.take i)).map gBy) tU8 1)],.tup [.osl 0,gI 0],⟨⟨⟨_,rfl,rfl,rfl⟩,trivial⟩,rfl,⟨_,rfl⟩,rfl,rfl,?_,?_⟩⟩
  .rw[b]
  .unfold Zdt;rw[dq b,f];rfl
def szI (k:Int):Int:=if 1<=k/\k<=4 then(szN k:Int) else -1
theorem Zdf (k:Int):FnV Tryz.prog 96 [gI k] λg=>g=gI (szI k):=by
 refine fnG Tryz.func96 ?_;refine du (fun(h:k=1)=>?_) (fun(c:¬k=1)=>?_)
 .subst h;exact du (λ_=>rfl) (λh=>dt rfl h)
 refine du (fun(h:k=4)=>?_) (fun(d:¬k=4)=>?_)
 .subst h;exact rfl
 refine du (fun(h:k=2)=>?_) (fun(b:¬k=2)=>?_)
 .subst h;exact rfl
 refine du (fun(h:k=3)=>?_) (fun(a:¬k=3)=>?_)
 .subst h;exact rfl
 refine(show gI (-1)=gI (szI k) from ?_);unfold szI;rw[dp (by omega)]
theorem Zbc (v x:Nat)(h:v < 2 ^ 56)(f:x < 256):IntKind.wrap .u64 ((BitVec.ofInt 64 (IntKind.wrap .u64 ((v:Int) * 2 ^ min (Int.toNat 8) 64)) ||| BitVec.ofInt 64 (IntKind.wrap .u64 (x:Int))).toNat:Nat)=((v * 256+x:Nat):Int):=by
 have c:IntKind.wrap .u64 ((v:Int) * 2 ^ min (Int.toNat 8) 64)=((v * 256:Nat):Int):=by
  have:(v:Int) * 2 ^ min (Int.toNat 8) 64=((v * 256:Nat):Int):=by rw[show(2:Int) ^ min (Int.toNat 8) 64=256 from rfl];omega
  rw[this];simp only[IntKind.wrap,IntKind.bits,IntKind.signed,Bool.false_and,if_false,Bool.false_eq_true];omega
 have a:IntKind.wrap .u64 (x:Int)=(x:Int):=by simp only[IntKind.wrap,IntKind.bits,IntKind.signed,Bool.false_and,if_false,Bool.false_eq_true];omega
 have e:∀n:Nat,n < 2 ^ 64->(BitVec.ofInt 64 (n:Int)).toNat=n:=λn g=>by rw[BitVec.toNat_ofInt];omega
 rw[c,a,BitVec.toNat_or,e _ (by omega),e _ (by omega)];have d:v * 256 ||| x=v * 256+x:=by have:=Nat.shiftLeft_add_eq_or_of_lt (i:=8) (b:=x) f v;rw[Nat.shiftLeft_eq] at this;exact this.symm
 rw[d];simp only[IntKind.wrap,IntKind.bits,IntKind.signed,Bool.false_and,if_false,Bool.false_eq_true];omega
def nxR (k:Int)(b:Bs):G:=.tup [.agg (Y4 (if nxE k b=0 then nxF k b else fd0)),gI (if nxE k b=0 then(nxN k b:Int) else 0),gI (nxE k b)]
theorem Zd6 (k:Int)(b:Bs)(N:b.length<=1000000000):FnV Tryz.prog 68 [gI k,.sl (b.map gBy)] λg=>g=nxR k b:=by
 refine fnG Tryz.func68 ?_;refine(Zdf k).cal λq L=>?_;subst L;unfold nxR;refine dv (fun(h:szI k < 0)=>?_) (fun(h:¬szI k < 0)=>?_)
 .have e:nxE k b=21:=by
   unfold nxE;rw[dq (λj=>by unfold szI at h;rw[dq j] at h;omega)]
  rw[e];exact rfl
 have j:1<=k/\k<=4:=Decidable.byContradiction λj=>h (by unfold szI;rw[dp j];decide);have I:szI k=szN k:=by unfold szI;rw[dq j]
 rw[I];have C:=Zbt k;refine dv (λh=>?_) (λh=>?_)
 .have h:((b.length:Nat):Int) < szN k:=by simpa using h
  have e:nxE k b=20:=by unfold nxE;rw[dp (λh=>h j),dq (by omega)]
  rw[e];exact rfl
 have h:¬((b.length:Nat):Int) < szN k:=by simpa using h
 have t:=h;have f:∀r∈b.map gBy,r.length=1:=λr hr=>by obtain⟨x,-,rfl⟩:=bk.1 hr;rfl
 refine⟨⟨by omega,by omega,by rw[ap];omega⟩,⟨f,?_⟩⟩;have eS:Fo (b.map gBy) (0:Int).toNat ((szN k:Nat):Int).toNat=(b.take (szN k)).map gBy:=by unfold Fo;simp[List.map_take]
 rw[eS];have y:(b.take (szN k)).length=szN k:=by rw[bf];omega
 refine Ax [0,1,4,5,6,7,8,28,29] [0,1] (λi:Nat=>[(30,gI i),(9,.v (.int .u64 (Xz ((b.take (szN k)).take i))))]) (λ_=>[]) (λi=>i<=szN k) (λi=>szN k - i) 0 (by omega) ⟨⟨rfl,rfl⟩,⟨rfl,rfl⟩,trivial⟩ trivial rfl λi M=>?_;refine dv (λh=>?_) (λh=>?_)
 .have h:i < (b.take (szN k)).length:=by simpa using h
  refine ee (by simpa using h) λx H=>?_;refine⟨by decide,⟨by omega,i+1,by omega,(by dsimp only;omega),?_⟩⟩;refine⟨?_,?_,rfl⟩<;>repeat' (first|exact trivial|with_reducible rfl|exact rfl|refine And.intro ?_ ?_)
  have w:Xz ((b.take (szN k)).take i) < 2 ^ 56:=by have F:=Z0c ((b.take (szN k)).take i);refine bd F ?_;rw[show(2:Nat) ^ 56=256 ^ 7 by decide];exact Nat.pow_le_pow_right (by decide) (by rw[bf];omega)
  rw[B9 H,Z2c];exact congrArg (λn=>some (G.v (.int .u64 n))) (Zbc _ _ w x.toNat_lt)
 .have E:(b.take (szN k)).take i=b.take (szN k):=bc (by simp at h;omega);rw[E];have a:nxE k b=if(k=2/\big < nxV k b)\/(k=4/\1 < nxV k b) then 21 else if k≠3 then 0 else if 1024 < nxV k b then 22 else if b.length < 2+nxV k b then 20 else 0:=by
   unfold nxE;rw[dp (λh=>h j),dp (by omega)]
  have J:Xz (b.take (szN k))=nxV k b:=rfl;rw[J];generalize l:nxV k b=v at *;have s:nxN k b=if k=3 then 2+v else szN k:=by unfold nxN;rw[l]
  have p:nxF k b=if k=3 then⟨3,0,⟨((b.drop 2).take v).toArray⟩⟩ else⟨k,v,⟨#[]⟩⟩:=by unfold nxF;rw[l]
  refine du (fun(z:k=2)=>?_) (fun(z:¬k=2)=>?_)
  .refine dv (fun(h:(v:Int) > big)=>?_) (fun(h:¬(v:Int) > big)=>?_)
   .rw[dq (.inl ⟨z,h⟩)] at a;rw[a];exact rfl
   .rw[dp (by rintro(o | o)<;>omega),dq (by omega)] at a;refine du (λK=>dt K (show ¬k=4 by omega)) λ_=>?_;refine dy (λ_=>?_) (λm=>dt m (show ¬k=3 by omega));rw[a,dq rfl,dq rfl,s,p,dp (by omega),dp (by omega)];exact⟨by unfold big at h;omega,rfl⟩
  .refine du (fun(A:k=4)=>?_) (fun(A:¬k=4)=>?_)
   .refine dv (fun(h:(v:Int) > 1)=>?_) (fun(h:¬(v:Int) > 1)=>?_)
    .rw[dq (.inr ⟨A,by omega⟩)] at a;rw[a];exact rfl
    .rw[dp (by rintro(o | o)<;>omega),dq (by omega)] at a;refine dy (λ_=>?_) (λm=>dt m (show ¬k=3 by omega));rw[a,dq rfl,dq rfl,s,p,dp (by omega),dp (by omega)];exact⟨by omega,rfl⟩
   .rw[dp (by rintro(o | o)<;>omega)] at a;have c:v < 256 ^ szN k:=by
     have:=Z0c (b.take (szN k));rw[y] at this;rw[<-l];exact this
    refine dy (fun(m:k≠3)=>?_) (fun(m:k=3)=>?_)
    .have D:k=1:=by omega
     subst D;have c:v < 256:=c;rw[dq (by decide)] at a;rw[a,dq rfl,dq rfl,s,p,dp (by decide),dp (by decide)];exact⟨by omega,rfl⟩
    .subst m;have c:v < 65536:=c;rw[dp (λh=>h rfl)] at a;refine dv (fun(h:(v:Int) > 1024)=>?_) (fun(h:¬(v:Int) > 1024)=>?_)
     .rw[dq (by omega)] at a;rw[a];exact rfl
     .rw[dp (by omega)] at a;have B:szN 3=2:=rfl;rw[B];have d:(b.map gBy).length=b.length:=ap _;rw[B] at t y;refine⟨by rw[d];omega,⟨by omega,?_⟩⟩;refine dv (fun(u:(((b.map gBy).length:Nat):Int) - (2:Nat) < v)=>?_) (fun(u:¬(((b.map gBy).length:Nat):Int) - (2:Nat) < v)=>?_)
      .rw[d] at u;rw[dq (by omega)] at a;rw[a];exact rfl
      .rw[d] at u;rw[dp (by omega)] at a;rw[a,dq rfl,dq rfl,s,p,dq rfl,dq rfl];refine⟨by omega,⟨by omega,⟨⟨by omega,by omega,by rw[d];omega⟩,⟨f,EvBytes.mk ⟨(b.drop 2).take v,?_,⟨by omega,⟨by omega,rfl⟩⟩⟩⟩⟩⟩⟩;unfold Fo;rw[show(((2:Nat):Int)+(v:Int)).toNat=v+2 by omega,show(((2:Nat):Int)).toNat=2 from rfl,<-de,<-List.map_drop,List.drop_take];rfl
abbrev tFd:Nat:=98
def gNi (k:Int):List G:=[gI k]
theorem Z6c (b:Bs)(n:Nat):Fo (b.map gBy) (n:Int).toNat (((b.map gBy).length:Nat):Int).toNat=(b.drop n).map gBy:=by unfold Fo;rw[bj,bj,bc (by simp),List.map_drop]
theorem Z9i (b:Bs):∀r∈b.map gBy,r.length=1:=λr hr=>by obtain⟨x,-,rfl⟩:=bk.1 hr;rfl
def smG (s:Sm):G:=.tup [.sl (s.l.map Y4),gI s.n,gI s.e]
theorem Z7d (ks:List Int)(b:Bs)(u:ks.length<=1000000)(v:b.length<=1000000000):FnV Tryz.prog 39 [.sl (ks.map gNi),.sl (b.map gBy)] λg=>g=smG (Ce ks b):=by
 refine fnG Tryz.func39 ?_;refine Ax [0,1,5,6,14,15] [0] (λi:Nat=>[(16,gI i),(8,gI ((Ce (ks.take i) b).n:Int)),(7,.osl 1)]) (λi=>[(1,.slc ((Ce (ks.take i) b).l.map Y4) tFd 3)]) (λi=>i<=ks.length/\(Ce (ks.take i) b).e=0) (λi=>ks.length - i) 0 ⟨by omega,rfl⟩ ⟨⟨rfl,rfl⟩,⟨rfl,rfl⟩,⟨rfl,rfl⟩,trivial⟩ ⟨RL1,trivial⟩ rfl λi o=>?_;obtain⟨o,c⟩:=o;refine dv (λh=>?_) (λh=>?_)
 .refine ee (by simpa using h) λk m=>?_;have t:=Bd m;have f:=Ma (ks.take i) b;refine⟨⟨by omega,by rw[ap];omega,by omega⟩,⟨Z9i b,?_⟩⟩;rw[Z6c];refine(Zd6 k (b.drop (Ce (ks.take i) b).n) (by rw[bm];omega)).cal λq s=>?_;subst s;unfold nxR;refine dy (λa=>?_) (λa=>?_)
  .rw[Uc ks b i k m c a];exact rfl
  .have a:nxE k (b.drop (Ce (ks.take i) b).n)=0:=a;have d:=Rh (ks.take i) b k c;rw[<-B9 m,dp (λh=>h a)] at d;have r:=f.2 c;rw[bf] at r;have j:=Z72 a;rw[bm] at j;rw[dq a,dq a];refine⟨by simp;omega,⟨by omega,⟨by omega,i+1,⟨by omega,by rw[d]⟩,(by dsimp only;omega),?_⟩⟩⟩;refine⟨?_,?_,rfl⟩<;>repeat' (first|exact trivial|with_reducible rfl|exact rfl|refine And.intro ?_ ?_)
   .exact eqI (by rw[d];simp only;omega)
   .exact eqR (by rw[d,ba];rfl)
 .have p:ks.take i=ks:=bc (by simp at h;omega);rw[p] at c⊢;unfold smG;rw[c];exact rfl
theorem Z4j (ks:List Int)(b:Bs)(c:ks.length<=1000000)(f:b.length<=1000000000):FnV Tryz.prog 40 [.sl (ks.map gNi),.sl (b.map gBy)] λg=>g=.tup [.sl ((Rf ks b).l.map Y4),gI (Rf ks b).e]:=by
 refine fnG Tryz.func40 ?_;refine(Z7d ks b c f).cal λq d=>?_;subst d;unfold smG Rf;have i:=(Ma ks b).1;refine dy (λa=>?_) (λa=>?_)
 .rw[dq a];exact rfl
 .have a:(Ce ks b).e=0:=a;rw[dp (λh=>h a)];refine dv (λh=>?_) (λh=>?_)
  .have h:(((Ce ks b).n:Nat):Int) < b.length:=by simpa using h
   rw[dq (by omega)];exact rfl
  .have h:¬(((Ce ks b).n:Nat):Int) < b.length:=by simpa using h
   rw[dp (by omega),a];exact rfl
end Go.Proofs.YtmmdikhljefeiaaGreat


import Derived.Test.YtihfaocdpmmooaaGreatNMq
import Derived.Test.YtihfaocdpmmooaaGreatNMp
namespace Go.Proofs.YtihfaocdpmmooaaGreat
open Go.RowKit
set_option maxRecDepth 100000
theorem Hr:∀(l:List REnt) (v:Int) (n:PN),∃log st out dead,(Ac l v n).1=⟨n.self,n.many,n.pmd,n.normal,log,n.cmt,n.lds,n.std,n.jns,n.first,n.aks,n.hrd,out,dead,st⟩∧out.length≤n.out.length
 | [],v,n=>⟨n.log,n.st,n.out,n.dead,rfl,af _⟩
 | e::l,v,n=>by
  unfold Ac;split
  ·exact⟨n.log,n.st,n.out,n.dead,rfl,af _⟩
  ·split
   ·exact Hr l v n
   ·obtain⟨k,g,c,d,i⟩:=D4 {n with log:=n.log++[e]} (Ce 3 e.v e.n e.b);have d:F8 n e=_:=d;split
    ·obtain⟨f,j,h,a,m,o⟩:=Hr l e.v (F8 n e);rw[d] at m o;rw[d];exact⟨f,j,h,a,m,ca o i⟩
    ·exact⟨_,k,g,c,d,i⟩
set_option maxHeartbeats 4000000 in
theorem Yj (k:Nat)(n:PN)(b e f:Nat)(m:RM)(h:WNk k n)(r:n.lds=true→n.std=true)(hm:okM m=true)(R:m.kind=1):FnO Tryz.prog 73 [.ptr 0 0,gI f,.agg (enM m)] (cA n b e) fun g rs=>g=.tup []∧∃s,rs=cS s (A4 n f m) b e∧(n.dead=false→ShN s (A4 n f m)):=by
 obtain⟨C,D,G,A,E,H,L,N,I,B,J,K,M,F,P⟩:=n;obtain⟨kd,c,y,nu,l⟩:=m;have R:kd=1:=R;subst R;obtain⟨h1,hkk,h2,h3,h4,h5,h6,h7,Y,hst⟩:=h;obtain⟨hm1,-,z,T⟩:=Az hm;dsimp only at h1 h2 h3 h4 h5 h6 h7 r z Y T;have p:ShN true ⟨C,D,G,A,E,H,L,N,I,B,J,K,M,F,P⟩:=⟨fun h=>(by cases h),fun _ _=>r⟩;have e1:c > G→El ⟨C,D,G,A,E,H,L,N,I,B,J,K,M,F,P⟩ c=true→A4 ⟨C,D,G,A,E,H,L,N,I,B,J,K,M,F,P⟩ f ⟨1,c,y,nu,l⟩=Ao (Cq ⟨C,D,G,A,E,H,L,N,I,B,J,K,M,F,P⟩ c) f ⟨2,c,A,0,E⟩:=fun a b=>by unfold A4;rw[dc rfl,dc a,dc b]
 have e2:c > G→El ⟨C,D,G,A,E,H,L,N,I,B,J,K,M,F,P⟩ c=false→A4 ⟨C,D,G,A,E,H,L,N,I,B,J,K,M,F,P⟩ f ⟨1,c,y,nu,l⟩=Cq ⟨C,D,G,A,E,H,L,N,I,B,J,K,M,F,P⟩ c:=fun a b=>by unfold A4;rw[dc rfl,dc a,db (by rw[b];decide)]
 have e3:¬c > G→(c=G∧c > A∧L=false)→A4 ⟨C,D,G,A,E,H,L,N,I,B,J,K,M,F,P⟩ f ⟨1,c,y,nu,l⟩=Ao ⟨C,D,G,A,E,H,L,N,I,B,J,K,M,F,P⟩ f ⟨2,c,A,0,E⟩:=fun a b=>by unfold A4;rw[dc rfl,db a,dc b]
 have U:¬c > G→¬(c=G∧c > A∧L=false)→A4 ⟨C,D,G,A,E,H,L,N,I,B,J,K,M,F,P⟩ f ⟨1,c,y,nu,l⟩=⟨C,D,G,A,E,H,L,N,I,B,J,K,M,F,P⟩:=fun a b=>by unfold A4;rw[dc rfl,db a,db b]
 obtain⟨j,i,d,x,Z⟩:=D4 ⟨C,D,c,A,E,H,false,false,I,B,J,K,M,F,P⟩ (Ce 1 c 0 eS);have x:Cq ⟨C,D,G,A,E,H,L,N,I,B,J,K,M,F,P⟩ c=⟨C,D,c,A,E,H,false,false,I,B,J,K,i,d,j⟩:=x;dsimp only at Z;refine Bq Tryz.func73 (A6 (O:=oAs ⟨C,D,G,A,E,H,L,N,I,B,J,K,M,F,P⟩ b e) (n0:=5) rfl) ?_;refine df (fun(X:G=c)=>df (fun(Q:A=c)=>?_) fun(Q:A≠c)=>?_) fun(X:G≠c)=>?_
 all_goals
  refine df (fun _=>?_) fun h=>de rfl h;refine dg (fun(t:c > G)=>?_) fun(t:¬c > G)=>?_
  ·refine dh (.close (oAs ⟨C,D,G,A,E,H,L,N,I,B,J,K,M,F,P⟩ b e) [] (by exact RL5) ⟨_,rfl⟩ rfl (.done (.same ((Zb0 ⟨C,D,G,A,E,H,L,N,I,B,J,K,M,F,P⟩ b e (h1.wk (by omega)) (by show E.length≤_;omega) c).cal fun q rs w=>?_))));obtain⟨rfl,rfl⟩:=w;cases ha:El ⟨C,D,G,A,E,H,L,N,I,B,J,K,M,F,P⟩ c with
   | true =>
    rw[e1 t ha,x];refine .opn 0 _ _ _ rfl rfl rfl (.done ?_);refine dk (fun h=>de h (by decide)) fun _=>?_;refine df (fun _=>?_) fun h=>de rfl h;refine dg (fun _=>?_) fun h=>de (show c > A by omega) h;refine dk (fun _=>?_) fun h=>(by cases h);have v:=Vl ⟨C,D,c,A,E,H,false,false,I,B,J,K,i,d,j⟩ (cl (oLs j e)) f ⟨2,c,A,0,E⟩ (by show E.length≤_;omega) (by show i.length≤_;omega);obtain⟨o,S⟩:=(A9 ⟨C,D,c,A,E,H,false,false,I,B,J,K,i,d,j⟩ f ⟨2,c,A,0,E⟩).to;rw[S] at v⊢;refine v.cal fun q rs w=>?_;obtain⟨rfl,rfl⟩:=w;exact .inl (A1 (oBs ⟨C,D,c,A,E,H,false,false,I,B,J,K,o,d,j⟩ b e) [(1,6),(2,7),(3,10),(4,9)] (by exact RL5) rfl ⟨_,rfl⟩ rfl rfl ⟨rfl,false,rfl,fun _=>⟨fun _=>⟨rfl,by show A < c;omega⟩,fun h=>(by cases h)⟩⟩)
   | false =>
    rw[e2 t ha,x];refine .done ?_;refine dk (fun _=>?_) fun h=>de h (by decide);exact .inl (A7 rfl rfl ⟨rfl,false,rfl,fun _=>⟨fun _=>⟨rfl,by show A < c;omega⟩,fun h=>(by cases h)⟩⟩)
  refine df (fun(V:c=G)=>?_) fun(V:c≠G)=>?_
  ·refine dg (fun(W:c > A)=>?_) fun(W:¬c > A)=>?_
   ·refine dk (fun u=>?_) fun u=>?_
    ·have u:L=false:=by simpa using u
     rw[e3 t ⟨V,W,u⟩];have v:=Ij ⟨C,D,G,A,E,H,L,N,I,B,J,K,M,F,P⟩ (cl (oLs P e)) f ⟨2,c,A,0,E⟩ (.oag [gI 2,gI c,gI A,gI 0,.osl 1]) rfl (by show E.length≤_;omega) (by show M.length≤_;omega);obtain⟨o,S⟩:=(A9 ⟨C,D,G,A,E,H,L,N,I,B,J,K,M,F,P⟩ f ⟨2,c,A,0,E⟩).to;rw[S] at v⊢;refine di (v.cal fun q rs w=>?_);obtain⟨rfl,rfl⟩:=w;exact .inl (A1 (oAs ⟨C,D,G,A,E,H,L,N,I,B,J,K,o,F,P⟩ b e) [(3,6)] (by exact RL5) rfl ⟨_,rfl⟩ rfl rfl ⟨rfl,true,rfl,fun _=>⟨fun h=>(by cases h),fun _ _=>r⟩⟩)
    ·rw[U t (fun h=>by rw[h.2.2] at u;cases u)];exact .inl (A1 (oAs ⟨C,D,G,A,E,H,L,N,I,B,J,K,M,F,P⟩ b e) [] (by exact RL5) rfl ⟨_,rfl⟩ rfl rfl ⟨rfl,true,rfl,fun _=>p⟩)
   ·rw[U t (fun h=>W h.2.1)];exact .inl (A1 (oAs ⟨C,D,G,A,E,H,L,N,I,B,J,K,M,F,P⟩ b e) [] (by exact RL5) rfl ⟨_,rfl⟩ rfl rfl ⟨rfl,true,rfl,fun _=>p⟩)
  rw[U t (fun h=>V h.1)];exact .inl (A1 (oAs ⟨C,D,G,A,E,H,L,N,I,B,J,K,M,F,P⟩ b e) [] (by exact RL5) rfl ⟨_,rfl⟩ rfl rfl ⟨rfl,true,rfl,fun _=>p⟩)
set_option maxHeartbeats 4000000 in
theorem Yv (k:Nat)(n:PN)(b e f:Nat)(m:RM)(h:WNk k n)(r:n.std=false∧n.normal < n.pmd)(hm:okM m=true)(R:m.kind=1):FnO Tryz.prog 73 [.ptr 0 0,gI f,.agg (enM m)] (cB n b e) fun g rs=>g=.tup []∧∃s,rs=cS s (A4 n f m) b e∧(n.dead=false→ShN s (A4 n f m)):=by
 obtain⟨C,D,G,A,E,H,L,N,I,B,J,K,M,F,P⟩:=n;obtain⟨kd,c,y,nu,l⟩:=m;have R:kd=1:=R;subst R;obtain⟨h1,hkk,h2,h3,h4,h5,h6,h7,Y,hst⟩:=h;obtain⟨hm1,-,z,T⟩:=Az hm;dsimp only at h1 h2 h3 h4 h5 h6 h7 r z Y T;have p:ShN false ⟨C,D,G,A,E,H,L,N,I,B,J,K,M,F,P⟩:=⟨fun _=>r,fun h=>(by cases h)⟩;have e1:c > G→El ⟨C,D,G,A,E,H,L,N,I,B,J,K,M,F,P⟩ c=true→A4 ⟨C,D,G,A,E,H,L,N,I,B,J,K,M,F,P⟩ f ⟨1,c,y,nu,l⟩=Ao (Cq ⟨C,D,G,A,E,H,L,N,I,B,J,K,M,F,P⟩ c) f ⟨2,c,A,0,E⟩:=fun a b=>by unfold A4;rw[dc rfl,dc a,dc b]
 have e2:c > G→El ⟨C,D,G,A,E,H,L,N,I,B,J,K,M,F,P⟩ c=false→A4 ⟨C,D,G,A,E,H,L,N,I,B,J,K,M,F,P⟩ f ⟨1,c,y,nu,l⟩=Cq ⟨C,D,G,A,E,H,L,N,I,B,J,K,M,F,P⟩ c:=fun a b=>by unfold A4;rw[dc rfl,dc a,db (by rw[b];decide)]
 have e3:¬c > G→(c=G∧c > A∧L=false)→A4 ⟨C,D,G,A,E,H,L,N,I,B,J,K,M,F,P⟩ f ⟨1,c,y,nu,l⟩=Ao ⟨C,D,G,A,E,H,L,N,I,B,J,K,M,F,P⟩ f ⟨2,c,A,0,E⟩:=fun a b=>by unfold A4;rw[dc rfl,db a,dc b]
 have U:¬c > G→¬(c=G∧c > A∧L=false)→A4 ⟨C,D,G,A,E,H,L,N,I,B,J,K,M,F,P⟩ f ⟨1,c,y,nu,l⟩=⟨C,D,G,A,E,H,L,N,I,B,J,K,M,F,P⟩:=fun a b=>by unfold A4;rw[dc rfl,db a,db b]
 obtain⟨j,i,d,x,Z⟩:=D4 ⟨C,D,c,A,E,H,false,false,I,B,J,K,M,F,P⟩ (Ce 1 c 0 eS);have x:Cq ⟨C,D,G,A,E,H,L,N,I,B,J,K,M,F,P⟩ c=⟨C,D,c,A,E,H,false,false,I,B,J,K,i,d,j⟩:=x;dsimp only at Z;refine Bq Tryz.func73 (A6 (O:=oBs ⟨C,D,G,A,E,H,L,N,I,B,J,K,M,F,P⟩ b e) (n0:=5) rfl) ?_;refine df (fun(X:G=c)=>df (fun(Q:A=c)=>?_) fun(Q:A≠c)=>?_) fun(X:G≠c)=>?_
 all_goals
  refine df (fun _=>?_) fun h=>de rfl h;refine dg (fun(t:c > G)=>?_) fun(t:¬c > G)=>?_
  ·refine dh (.close (oBs ⟨C,D,G,A,E,H,L,N,I,B,J,K,M,F,P⟩ b e) [] (by exact RL5) ⟨_,rfl⟩ rfl (.done (.same ((Zaq ⟨C,D,G,A,E,H,L,N,I,B,J,K,M,F,P⟩ b e (h1.wk (by omega)) (by show E.length≤_;omega) c).cal fun q rs w=>?_))));obtain⟨rfl,rfl⟩:=w;cases ha:El ⟨C,D,G,A,E,H,L,N,I,B,J,K,M,F,P⟩ c with
   | true =>
    rw[e1 t ha,x];refine .opn 0 _ _ _ rfl rfl rfl (.done ?_);refine dk (fun h=>de h (by decide)) fun _=>?_;refine df (fun _=>?_) fun h=>de rfl h;refine dg (fun _=>?_) fun h=>de (show c > A by omega) h;refine dk (fun _=>?_) fun h=>(by cases h);have v:=Vl ⟨C,D,c,A,E,H,false,false,I,B,J,K,i,d,j⟩ (cl (oLs j e)) f ⟨2,c,A,0,E⟩ (by show E.length≤_;omega) (by show i.length≤_;omega);obtain⟨o,S⟩:=(A9 ⟨C,D,c,A,E,H,false,false,I,B,J,K,i,d,j⟩ f ⟨2,c,A,0,E⟩).to;rw[S] at v⊢;refine v.cal fun q rs w=>?_;obtain⟨rfl,rfl⟩:=w;exact .inl (A1 (oBs ⟨C,D,c,A,E,H,false,false,I,B,J,K,o,d,j⟩ b e) [(1,6),(2,7),(3,10),(4,9)] (by exact RL5) rfl ⟨_,rfl⟩ rfl rfl ⟨rfl,false,rfl,fun _=>⟨fun _=>⟨rfl,by show A < c;omega⟩,fun h=>(by cases h)⟩⟩)
   | false =>
    rw[e2 t ha,x];refine .done ?_;refine dk (fun _=>?_) fun h=>de h (by decide);exact .inl (A7 rfl rfl ⟨rfl,false,rfl,fun _=>⟨fun _=>⟨rfl,by show A < c;omega⟩,fun h=>(by cases h)⟩⟩)
  refine df (fun(V:c=G)=>?_) fun(V:c≠G)=>?_
  ·refine dg (fun(W:c > A)=>?_) fun(W:¬c > A)=>?_
   ·refine dk (fun u=>?_) fun u=>?_
    ·have u:L=false:=by simpa using u
     rw[e3 t ⟨V,W,u⟩];have v:=Vl ⟨C,D,G,A,E,H,L,N,I,B,J,K,M,F,P⟩ (cl (oLs P e)) f ⟨2,c,A,0,E⟩ (by show E.length≤_;omega) (by show M.length≤_;omega);obtain⟨o,S⟩:=(A9 ⟨C,D,G,A,E,H,L,N,I,B,J,K,M,F,P⟩ f ⟨2,c,A,0,E⟩).to;rw[S] at v⊢;refine v.cal fun q rs w=>?_;obtain⟨rfl,rfl⟩:=w;exact .inl (A1 (oBs ⟨C,D,G,A,E,H,L,N,I,B,J,K,o,F,P⟩ b e) [(3,6)] (by exact RL5) rfl ⟨_,rfl⟩ rfl rfl ⟨rfl,false,rfl,fun _=>⟨fun _=>r,fun h=>(by cases h)⟩⟩)
    ·rw[U t (fun h=>by rw[h.2.2] at u;cases u)];exact .inl (A1 (oBs ⟨C,D,G,A,E,H,L,N,I,B,J,K,M,F,P⟩ b e) [] (by exact RL5) rfl ⟨_,rfl⟩ rfl rfl ⟨rfl,false,rfl,fun _=>p⟩)
   ·rw[U t (fun h=>W h.2.1)];exact .inl (A1 (oBs ⟨C,D,G,A,E,H,L,N,I,B,J,K,M,F,P⟩ b e) [] (by exact RL5) rfl ⟨_,rfl⟩ rfl rfl ⟨rfl,false,rfl,fun _=>p⟩)
  rw[U t (fun h=>V h.1)];exact .inl (A1 (oBs ⟨C,D,G,A,E,H,L,N,I,B,J,K,M,F,P⟩ b e) [] (by exact RL5) rfl ⟨_,rfl⟩ rfl rfl ⟨rfl,false,rfl,fun _=>p⟩)
set_option maxHeartbeats 4000000 in
theorem Z0 (k:Nat)(n:PN)(b e f:Nat)(m:RM)(h:WNk k n)(u:n.lds=true→n.std=true)(hm:okM m=true)(Z:m.kind=3):FnO Tryz.prog 73 [.ptr 0 0,gI f,.agg (enM m)] (cA n b e) fun g rs=>g=.tup []∧∃s,rs=cS s (A4 n f m) b e∧(n.dead=false→ShN s (A4 n f m)):=by
 obtain⟨C,D,E,A,G,H,M,N,I,B,J,K,L,F,P⟩:=n;obtain⟨kd,d,T,nu,l⟩:=m;have Z:kd=3:=Z;subst Z;obtain⟨h1,hkk,h2,h3,h4,h5,h6,h7,hnp,hst⟩:=h;obtain⟨hm1,-,W,hme⟩:=Az hm;dsimp only at h1 h2 h3 h4 h5 h6 h7 u W hnp hme;have t:ShN true ⟨C,D,E,A,G,H,M,N,I,B,J,K,L,F,P⟩:=⟨fun h=>(by cases h),fun _ _=>u⟩;have e1:d ≥ E→d > A→Bu ⟨C,D,E,A,G,H,false,false,I,B,J,K,L,F,P⟩ d l=true→A4 ⟨C,D,E,A,G,H,M,N,I,B,J,K,L,F,P⟩ f ⟨3,d,T,nu,l⟩=Ao (Ba ⟨C,D,E,A,G,H,false,false,I,B,J,K,L,F,P⟩ d l) f ⟨5,d,0,A3 l,[]⟩:=fun a b c=>by unfold A4;rw[db (show ¬(3:Int)=1 by decide),dc rfl,dc ⟨a,b⟩,dc c]
 have e2:d ≥ E→d > A→Bu ⟨C,D,E,A,G,H,false,false,I,B,J,K,L,F,P⟩ d l=false→A4 ⟨C,D,E,A,G,H,M,N,I,B,J,K,L,F,P⟩ f ⟨3,d,T,nu,l⟩=Ba ⟨C,D,E,A,G,H,false,false,I,B,J,K,L,F,P⟩ d l:=fun a b c=>by unfold A4;rw[db (show ¬(3:Int)=1 by decide),dc rfl,dc ⟨a,b⟩,db (by rw[c];decide)]
 have e3:¬(d ≥ E∧d > A)→(d=E∧d=A)→A4 ⟨C,D,E,A,G,H,M,N,I,B,J,K,L,F,P⟩ f ⟨3,d,T,nu,l⟩=Ao ⟨C,D,E,A,G,H,M,N,I,B,J,K,L,F,P⟩ f ⟨5,d,0,A3 G,[]⟩:=fun a b=>by unfold A4;rw[db (show ¬(3:Int)=1 by decide),dc rfl,db a,dc b]
 have R:¬(d ≥ E∧d > A)→¬(d=E∧d=A)→A4 ⟨C,D,E,A,G,H,M,N,I,B,J,K,L,F,P⟩ f ⟨3,d,T,nu,l⟩=⟨C,D,E,A,G,H,M,N,I,B,J,K,L,F,P⟩:=fun a b=>by unfold A4;rw[db (show ¬(3:Int)=1 by decide),dc rfl,db a,db b]
 obtain⟨r,p,i,S,Q⟩:=Iy ⟨C,D,E,A,G,H,false,false,I,B,J,K,L,F,P⟩ d l;have Q:p.length≤L.length:=Q;have Y:Bu ⟨C,D,E,A,G,H,false,false,I,B,J,K,L,F,P⟩ d l=false→i=true:=fun h=>by have:=G1 h;rw[S] at this;exact this
 dsimp only at S;refine Bq Tryz.func73 (A6 (O:=oAs ⟨C,D,E,A,G,H,M,N,I,B,J,K,L,F,P⟩ b e) (n0:=5) rfl) ?_;refine df (fun(hf1:E=d)=>df (fun(X:A=d)=>?_) fun(X:A≠d)=>?_) fun(hf1:E≠d)=>?_
 all_goals
  refine df (fun h=>de h (by show ¬((3:Int)=1);decide)) fun _=>?_;refine df (fun _=>?_) fun h=>de rfl h;refine dg (fun(V:d ≥ E)=>?_) fun(V:¬d ≥ E)=>?_
  ·refine dg (fun(U:d > A)=>?_) fun(U:¬d > A)=>?_
   ·refine dh (.seen 0 _ _ rfl (.close (oAs ⟨C,D,E,A,G,H,false,false,I,B,J,K,L,F,P⟩ b e) [] (by exact RL5) ⟨_,rfl⟩ rfl (.done (.same ((Zbd ⟨C,D,E,A,G,H,false,false,I,B,J,K,L,F,P⟩ b e (h1.wk (by omega)) d l (by omega)).cal fun q rs y=>?_)))));obtain⟨rfl,rfl⟩:=y;cases ha:Bu ⟨C,D,E,A,G,H,false,false,I,B,J,K,L,F,P⟩ d l with
    | true =>
     rw[e1 V U ha,S];refine .opn 0 _ _ _ rfl rfl rfl (.done ?_);refine dk (fun h=>de h (by decide)) fun _=>?_;refine df (fun _=>?_) fun h=>de rfl h;refine df (fun _=>?_) fun h=>de rfl h;have v:=Mc ⟨C,D,d,d,l,min H (A3 l),false,false,I,B,J,K,p,i,r⟩ (cl (oLs r e)) f ⟨5,d,0,A3 l,[]⟩ (ah _) (by show p.length≤_;omega);obtain⟨o,z⟩:=(A9 ⟨C,D,d,d,l,min H (A3 l),false,false,I,B,J,K,p,i,r⟩ f ⟨5,d,0,A3 l,[]⟩).to;rw[z] at v⊢;refine v.cal fun q rs y=>?_;obtain⟨rfl,rfl⟩:=y;exact .inl (A1 (oAs ⟨C,D,d,d,l,min H (A3 l),false,false,I,B,J,K,o,i,r⟩ b e) [(1,6),(2,7),(3,10),(4,9)] (by exact RL5) rfl ⟨_,rfl⟩ rfl rfl ⟨rfl,true,rfl,fun _=>⟨fun h=>(by cases h),fun _ _ h=>(by cases h)⟩⟩)
    | false =>
     have hd:=Y ha;rw[e2 V U ha,S];refine .done ?_;refine dk (fun _=>?_) fun h=>de h (by decide);exact .inl (A7 rfl rfl ⟨rfl,true,rfl,fun _=>⟨fun h=>(by cases h),fun _ h=>de (show i=false from h) (by rw[hd];decide)⟩⟩)
   ·have j:¬(d ≥ E∧d > A):=fun h=>U h.2;refine df (fun(w:d=E)=>?_) fun(w:d≠E)=>?_
    ·refine df (fun(x:d=A)=>?_) fun(x:d≠A)=>?_
     ·rw[e3 j ⟨w,x⟩];have v:=Mc ⟨C,D,E,A,G,H,M,N,I,B,J,K,L,F,P⟩ (cl (oLs P e)) f ⟨5,d,0,A3 G,[]⟩ (ah _) (by show L.length≤_;omega);obtain⟨o,z⟩:=(A9 ⟨C,D,E,A,G,H,M,N,I,B,J,K,L,F,P⟩ f ⟨5,d,0,A3 G,[]⟩).to;rw[z] at v⊢;refine v.cal fun q rs y=>?_;obtain⟨rfl,rfl⟩:=y;exact .inl (A1 (oAs ⟨C,D,E,A,G,H,M,N,I,B,J,K,o,F,P⟩ b e) [(3,6)] (by exact RL5) rfl ⟨_,rfl⟩ rfl rfl ⟨rfl,true,rfl,fun _=>⟨fun h=>(by cases h),fun _ _=>u⟩⟩)
     ·rw[R j (fun h=>x h.2)];exact .inl (A1 (oAs ⟨C,D,E,A,G,H,M,N,I,B,J,K,L,F,P⟩ b e) [] (by exact RL5) rfl ⟨_,rfl⟩ rfl rfl ⟨rfl,true,rfl,fun _=>t⟩)
    rw[R j (fun h=>w h.1)];exact .inl (A1 (oAs ⟨C,D,E,A,G,H,M,N,I,B,J,K,L,F,P⟩ b e) [] (by exact RL5) rfl ⟨_,rfl⟩ rfl rfl ⟨rfl,true,rfl,fun _=>t⟩)
  have j:¬(d ≥ E∧d > A):=fun h=>V h.1;refine df (fun(w:d=E)=>?_) fun(w:d≠E)=>?_
  ·refine df (fun(x:d=A)=>?_) fun(x:d≠A)=>?_
   ·rw[e3 j ⟨w,x⟩];have v:=Mc ⟨C,D,E,A,G,H,M,N,I,B,J,K,L,F,P⟩ (cl (oLs P e)) f ⟨5,d,0,A3 G,[]⟩ (ah _) (by show L.length≤_;omega);obtain⟨o,z⟩:=(A9 ⟨C,D,E,A,G,H,M,N,I,B,J,K,L,F,P⟩ f ⟨5,d,0,A3 G,[]⟩).to;rw[z] at v⊢;refine v.cal fun q rs y=>?_;obtain⟨rfl,rfl⟩:=y;exact .inl (A1 (oAs ⟨C,D,E,A,G,H,M,N,I,B,J,K,o,F,P⟩ b e) [(3,6)] (by exact RL5) rfl ⟨_,rfl⟩ rfl rfl ⟨rfl,true,rfl,fun _=>⟨fun h=>(by cases h),fun _ _=>u⟩⟩)
   ·rw[R j (fun h=>x h.2)];exact .inl (A1 (oAs ⟨C,D,E,A,G,H,M,N,I,B,J,K,L,F,P⟩ b e) [] (by exact RL5) rfl ⟨_,rfl⟩ rfl rfl ⟨rfl,true,rfl,fun _=>t⟩)
  rw[R j (fun h=>w h.1)];exact .inl (A1 (oAs ⟨C,D,E,A,G,H,M,N,I,B,J,K,L,F,P⟩ b e) [] (by exact RL5) rfl ⟨_,rfl⟩ rfl rfl ⟨rfl,true,rfl,fun _=>t⟩)
set_option maxHeartbeats 4000000 in
theorem Zq (k:Nat)(n:PN)(b e f:Nat)(m:RM)(h:WNk k n)(u:n.std=false∧n.normal < n.pmd)(hm:okM m=true)(W:m.kind=3):FnO Tryz.prog 73 [.ptr 0 0,gI f,.agg (enM m)] (cB n b e) fun g rs=>g=.tup []∧∃s,rs=cS s (A4 n f m) b e∧(n.dead=false→ShN s (A4 n f m)):=by
 obtain⟨D,E,C,A,K,G,M,N,H,B,I,J,L,F,P⟩:=n;obtain⟨kd,d,Q,nu,l⟩:=m;have W:kd=3:=W;subst W;obtain⟨h1,hkk,h2,h3,h4,h5,h6,h7,hnp,hst⟩:=h;obtain⟨hm1,-,T,X⟩:=Az hm;dsimp only at h1 h2 h3 h4 h5 h6 h7 u T hnp X;have t:ShN false ⟨D,E,C,A,K,G,M,N,H,B,I,J,L,F,P⟩:=⟨fun _=>u,fun h=>(by cases h)⟩;have e1:d ≥ C→d > A→Bu ⟨D,E,C,A,K,G,false,false,H,B,I,J,L,F,P⟩ d l=true→A4 ⟨D,E,C,A,K,G,M,N,H,B,I,J,L,F,P⟩ f ⟨3,d,Q,nu,l⟩=Ao (Ba ⟨D,E,C,A,K,G,false,false,H,B,I,J,L,F,P⟩ d l) f ⟨5,d,0,A3 l,[]⟩:=fun a b c=>by unfold A4;rw[db (show ¬(3:Int)=1 by decide),dc rfl,dc ⟨a,b⟩,dc c]
 have e2:d ≥ C→d > A→Bu ⟨D,E,C,A,K,G,false,false,H,B,I,J,L,F,P⟩ d l=false→A4 ⟨D,E,C,A,K,G,M,N,H,B,I,J,L,F,P⟩ f ⟨3,d,Q,nu,l⟩=Ba ⟨D,E,C,A,K,G,false,false,H,B,I,J,L,F,P⟩ d l:=fun a b c=>by unfold A4;rw[db (show ¬(3:Int)=1 by decide),dc rfl,dc ⟨a,b⟩,db (by rw[c];decide)]
 have e3:¬(d ≥ C∧d > A)→(d=C∧d=A)→A4 ⟨D,E,C,A,K,G,M,N,H,B,I,J,L,F,P⟩ f ⟨3,d,Q,nu,l⟩=Ao ⟨D,E,C,A,K,G,M,N,H,B,I,J,L,F,P⟩ f ⟨5,d,0,A3 K,[]⟩:=fun a b=>by unfold A4;rw[db (show ¬(3:Int)=1 by decide),dc rfl,db a,dc b]
 have y:¬(d ≥ C∧d > A)→¬(d=C∧d=A)→A4 ⟨D,E,C,A,K,G,M,N,H,B,I,J,L,F,P⟩ f ⟨3,d,Q,nu,l⟩=⟨D,E,C,A,K,G,M,N,H,B,I,J,L,F,P⟩:=fun a b=>by unfold A4;rw[db (show ¬(3:Int)=1 by decide),dc rfl,db a,db b]
 obtain⟨r,j,i,z,x⟩:=Iy ⟨D,E,C,A,K,G,false,false,H,B,I,J,L,F,P⟩ d l;have x:j.length≤L.length:=x;have V:Bu ⟨D,E,C,A,K,G,false,false,H,B,I,J,L,F,P⟩ d l=false→i=true:=fun h=>by have:=G1 h;rw[z] at this;exact this
 dsimp only at z;refine Bq Tryz.func73 (A6 (O:=oBs ⟨D,E,C,A,K,G,M,N,H,B,I,J,L,F,P⟩ b e) (n0:=5) rfl) ?_;refine df (fun(Y:C=d)=>df (fun(U:A=d)=>?_) fun(U:A≠d)=>?_) fun(Y:C≠d)=>?_
 all_goals
  refine df (fun h=>de h (by show ¬((3:Int)=1);decide)) fun _=>?_;refine df (fun _=>?_) fun h=>de rfl h;refine dg (fun(S:d ≥ C)=>?_) fun(S:¬d ≥ C)=>?_
  ·refine dg (fun(R:d > A)=>?_) fun(R:¬d > A)=>?_
   ·refine dh (.seen 0 _ _ rfl (.close (oBs ⟨D,E,C,A,K,G,false,false,H,B,I,J,L,F,P⟩ b e) [] (by exact RL5) ⟨_,rfl⟩ rfl (.done (.same ((Z07 ⟨D,E,C,A,K,G,false,false,H,B,I,J,L,F,P⟩ b e (h1.wk (by omega)) d l (by omega)).cal fun q rs Z=>?_)))));obtain⟨rfl,rfl⟩:=Z;cases ha:Bu ⟨D,E,C,A,K,G,false,false,H,B,I,J,L,F,P⟩ d l with
    | true =>
     rw[e1 S R ha,z];refine .opn 0 _ _ _ rfl rfl rfl (.done ?_);refine dk (fun h=>de h (by decide)) fun _=>?_;refine df (fun _=>?_) fun h=>de rfl h;refine df (fun _=>?_) fun h=>de rfl h;have hS:=Mc ⟨D,E,d,d,l,min G (A3 l),false,false,H,B,I,J,j,i,r⟩ (cl (oLs r e)) f ⟨5,d,0,A3 l,[]⟩ (ah _) (by show j.length≤_;omega);obtain⟨o,hs⟩:=(A9 ⟨D,E,d,d,l,min G (A3 l),false,false,H,B,I,J,j,i,r⟩ f ⟨5,d,0,A3 l,[]⟩).to;rw[hs] at hS⊢;refine hS.cal fun q rs Z=>?_;obtain⟨rfl,rfl⟩:=Z;exact .inl (A1 (oAs ⟨D,E,d,d,l,min G (A3 l),false,false,H,B,I,J,o,i,r⟩ b e) [(1,6),(2,7),(3,10),(4,9)] (by exact RL5) rfl ⟨_,rfl⟩ rfl rfl ⟨rfl,true,rfl,fun _=>⟨fun h=>(by cases h),fun _ _ h=>(by cases h)⟩⟩)
    | false =>
     have hd:=V ha;rw[e2 S R ha,z];refine .done ?_;refine dk (fun _=>?_) fun h=>de h (by decide);exact .inl (A7 rfl rfl ⟨rfl,true,rfl,fun _=>⟨fun h=>(by cases h),fun _ h=>de (show i=false from h) (by rw[hd];decide)⟩⟩)
   ·have p:¬(d ≥ C∧d > A):=fun h=>R h.2;refine df (fun(v:d=C)=>?_) fun(v:d≠C)=>?_
    ·refine df (fun(w:d=A)=>de u.2 (by omega)) fun(w:d≠A)=>?_;rw[y p (fun h=>w h.2)];exact .inl (A1 (oBs ⟨D,E,C,A,K,G,M,N,H,B,I,J,L,F,P⟩ b e) [] (by exact RL5) rfl ⟨_,rfl⟩ rfl rfl ⟨rfl,false,rfl,fun _=>t⟩)
    rw[y p (fun h=>v h.1)];exact .inl (A1 (oBs ⟨D,E,C,A,K,G,M,N,H,B,I,J,L,F,P⟩ b e) [] (by exact RL5) rfl ⟨_,rfl⟩ rfl rfl ⟨rfl,false,rfl,fun _=>t⟩)
  have p:¬(d ≥ C∧d > A):=fun h=>S h.1;refine df (fun(v:d=C)=>?_) fun(v:d≠C)=>?_
  ·refine df (fun(w:d=A)=>de u.2 (by omega)) fun(w:d≠A)=>?_;rw[y p (fun h=>w h.2)];exact .inl (A1 (oBs ⟨D,E,C,A,K,G,M,N,H,B,I,J,L,F,P⟩ b e) [] (by exact RL5) rfl ⟨_,rfl⟩ rfl rfl ⟨rfl,false,rfl,fun _=>t⟩)
  rw[y p (fun h=>v h.1)];exact .inl (A1 (oBs ⟨D,E,C,A,K,G,M,N,H,B,I,J,L,F,P⟩ b e) [] (by exact RL5) rfl ⟨_,rfl⟩ rfl rfl ⟨rfl,false,rfl,fun _=>t⟩)
set_option maxHeartbeats 4000000 in
theorem Zn (k:Nat)(n:PN)(b e f:Nat)(m:RM)(h:WNk k n)(v:n.lds=true→n.std=true)(hm:okM m=true)(T:m.kind=4):FnO Tryz.prog 73 [.ptr 0 0,gI f,.agg (enM m)] (cA n b e) fun g rs=>g=.tup []∧∃s,rs=cS s (A4 n f m) b e∧(n.dead=false→ShN s (A4 n f m)):=by
 obtain⟨C,D,F,A,G,I,H,J,K,B,L,M,N,E,P⟩:=n;obtain⟨kd,i,X,nu,l⟩:=m;have T:kd=4:=T;subst T;obtain⟨h1,U,h2,h3,h4,h5,h6,h7,Z,hst⟩:=h;obtain⟨hm1,-,Q,R⟩:=Az hm;dsimp only at h1 h2 h3 h4 h5 h6 h7 v Q Z R;have y:ShN true ⟨C,D,F,A,G,I,H,J,K,B,L,M,N,E,P⟩:=⟨fun h=>(by cases h),fun _ _=>v⟩;have e1:F=i→A=i→H=false→(Ac l (vw 1 G) ⟨C,D,F,A,G,I,H,J,K,B,L,M,N,E,P⟩).2=true→A4 ⟨C,D,F,A,G,I,H,J,K,B,L,M,N,E,P⟩ f ⟨4,i,X,nu,l⟩=Ao (Ac l (vw 1 G) ⟨C,D,F,A,G,I,H,J,K,B,L,M,N,E,P⟩).1 f ⟨5,i,0,A3 (Ac l (vw 1 G) ⟨C,D,F,A,G,I,H,J,K,B,L,M,N,E,P⟩).1.log,[]⟩:=fun a b c d=>by unfold A4;rw[db (show ¬(4:Int)=1 by decide),db (show ¬(4:Int)=3 by decide),dc rfl,dc ⟨a,b,c⟩];dsimp only;rw[dc d]
 have e2:F=i→A=i→H=false→(Ac l (vw 1 G) ⟨C,D,F,A,G,I,H,J,K,B,L,M,N,E,P⟩).2=false→A4 ⟨C,D,F,A,G,I,H,J,K,B,L,M,N,E,P⟩ f ⟨4,i,X,nu,l⟩=(Ac l (vw 1 G) ⟨C,D,F,A,G,I,H,J,K,B,L,M,N,E,P⟩).1:=fun a b c d=>by unfold A4;rw[db (show ¬(4:Int)=1 by decide),db (show ¬(4:Int)=3 by decide),dc rfl,dc ⟨a,b,c⟩];dsimp only;rw[db (by rw[d];decide)]
 have V:¬(F=i∧A=i∧H=false)→A4 ⟨C,D,F,A,G,I,H,J,K,B,L,M,N,E,P⟩ f ⟨4,i,X,nu,l⟩=⟨C,D,F,A,G,I,H,J,K,B,L,M,N,E,P⟩:=fun a=>by unfold A4;rw[db (show ¬(4:Int)=1 by decide),db (show ¬(4:Int)=3 by decide),dc rfl,db a]
 obtain⟨j,u,r,p,W,S⟩:=Hr l (vw 1 G) ⟨C,D,F,A,G,I,H,J,K,B,L,M,N,E,P⟩;have S:r.length≤N.length:=S;dsimp only at W;refine Bq Tryz.func73 (A6 (O:=oAs ⟨C,D,F,A,G,I,H,J,K,B,L,M,N,E,P⟩ b e) (n0:=5) rfl) ?_;refine df (fun(w:F=i)=>?_) fun(w:F≠i)=>?_
 ·refine df (fun(t:A=i)=>?_) fun(t:A≠i)=>?_
  ·skip
   refine df (fun h=>de h (by show ¬((4:Int)=1);decide)) fun _=>?_;refine df (fun h=>de h (by show ¬((4:Int)=3);decide)) fun _=>?_;refine df (fun _=>?_) fun h=>de rfl h;refine dk (fun z=>?_) fun z=>?_
   ·have z:H=false:=by simpa using z
    refine dh (.close (oAs ⟨C,D,F,A,G,I,H,J,K,B,L,M,N,E,P⟩ b e) [] (by exact RL5) ⟨_,rfl⟩ rfl (.done (.same ((Z9b k ⟨C,D,F,A,G,I,H,J,K,B,L,M,N,E,P⟩ b e h1 U h5 l Q (fun x hx=>(R x hx).1.2)).cal fun q rs Y=>?_))));obtain⟨rfl,rfl⟩:=Y;cases ha:(Ac l (vw 1 G) ⟨C,D,F,A,G,I,H,J,K,B,L,M,N,E,P⟩).2 with
    | true =>
     rw[e1 w t z ha,W];refine .opn 0 _ _ _ rfl rfl rfl (.done ?_);refine dk (fun _=>?_) fun h=>(by cases h);have hS:=Mc ⟨C,D,F,A,j,I,H,J,K,B,L,M,r,p,u⟩ (cl (oLs u e)) f ⟨5,i,0,A3 j,[]⟩ (ah _) (by show r.length≤_;omega);obtain⟨o,hs⟩:=(A9 ⟨C,D,F,A,j,I,H,J,K,B,L,M,r,p,u⟩ f ⟨5,i,0,A3 j,[]⟩).to;rw[hs] at hS⊢;refine hS.cal fun q rs Y=>?_;obtain⟨rfl,rfl⟩:=Y;exact .inl (A1 (oAs ⟨C,D,F,A,j,I,H,J,K,B,L,M,o,p,u⟩ b e) [(1,6),(2,7),(3,10),(4,9)] (by exact RL5) rfl ⟨_,rfl⟩ rfl rfl ⟨rfl,true,rfl,fun _=>⟨fun h=>(by cases h),fun _ _=>v⟩⟩)
    | false =>
     rw[e2 w t z ha,W];refine .done ?_;refine dk (fun h=>(by cases h)) fun _=>?_;exact .inl (A7 rfl rfl ⟨rfl,true,rfl,fun _=>⟨fun h=>(by cases h),fun _ _=>v⟩⟩)
   rw[V (fun h=>by rw[h.2.2] at z;cases z)];exact .inl (A1 (oAs ⟨C,D,F,A,G,I,H,J,K,B,L,M,N,E,P⟩ b e) [] (by exact RL5) rfl ⟨_,rfl⟩ rfl rfl ⟨rfl,true,rfl,fun _=>y⟩)
  ·skip
   refine df (fun h=>de h (by show ¬((4:Int)=1);decide)) fun _=>?_;refine df (fun h=>de h (by show ¬((4:Int)=3);decide)) fun _=>?_;refine df (fun _=>?_) fun h=>de rfl h;rw[V (fun h=>t h.2.1)];exact .inl (A1 (oAs ⟨C,D,F,A,G,I,H,J,K,B,L,M,N,E,P⟩ b e) [] (by exact RL5) rfl ⟨_,rfl⟩ rfl rfl ⟨rfl,true,rfl,fun _=>y⟩)
 ·skip
  refine df (fun h=>de h (by show ¬((4:Int)=1);decide)) fun _=>?_;refine df (fun h=>de h (by show ¬((4:Int)=3);decide)) fun _=>?_;refine df (fun _=>?_) fun h=>de rfl h;rw[V (fun h=>w h.1)];exact .inl (A1 (oAs ⟨C,D,F,A,G,I,H,J,K,B,L,M,N,E,P⟩ b e) [] (by exact RL5) rfl ⟨_,rfl⟩ rfl rfl ⟨rfl,true,rfl,fun _=>y⟩)
set_option maxHeartbeats 4000000 in
theorem Yk (k:Nat)(n:PN)(b e f:Nat)(m:RM)(h:WNk k n)(c:n.std=false∧n.normal < n.pmd)(T:okM m=true)(o:m.kind=4):FnO Tryz.prog 73 [.ptr 0 0,gI f,.agg (enM m)] (cB n b e) fun g rs=>g=.tup []∧∃s,rs=cS s (A4 n f m) b e∧(n.dead=false→ShN s (A4 n f m)):=by
 obtain⟨C,D,F,A,G,H,I,J,K,B,L,M,N,E,P⟩:=n;obtain⟨kd,a,Q,nu,l⟩:=m;have o:kd=4:=o;subst o;obtain⟨t,x,u,w,R,U,V,v,r,S⟩:=h;obtain⟨y,-,i,p⟩:=Az T;dsimp only at t u w R U V v c i r p;have d:ShN false ⟨C,D,F,A,G,H,I,J,K,B,L,M,N,E,P⟩:=⟨fun _=>c,fun h=>(by cases h)⟩;have z:A4 ⟨C,D,F,A,G,H,I,J,K,B,L,M,N,E,P⟩ f ⟨4,a,Q,nu,l⟩=⟨C,D,F,A,G,H,I,J,K,B,L,M,N,E,P⟩:=by unfold A4;rw[db (show ¬(4:Int)=1 by decide),db (show ¬(4:Int)=3 by decide),dc rfl,db (fun h=>de c.2 (by have t:F=a:=h.1;have u:A=a:=h.2.1;omega))]
 rw[z];refine Bq Tryz.func73 (A6 (O:=oBs ⟨C,D,F,A,G,H,I,J,K,B,L,M,N,E,P⟩ b e) (n0:=5) rfl) ?_;refine df (fun(q:F=a)=>?_) fun(q:F≠a)=>?_
 ·refine df (fun(j:A=a)=>de c.2 (by omega)) fun(j:A≠a)=>?_;refine df (fun h=>de h (by show ¬((4:Int)=1);decide)) fun _=>?_;refine df (fun h=>de h (by show ¬((4:Int)=3);decide)) fun _=>?_;refine df (fun _=>?_) fun h=>de rfl h;exact .inl (A1 (oBs ⟨C,D,F,A,G,H,I,J,K,B,L,M,N,E,P⟩ b e) [] (by exact RL5) rfl ⟨_,rfl⟩ rfl rfl ⟨rfl,false,rfl,fun _=>d⟩)
 ·skip
  refine df (fun h=>de h (by show ¬((4:Int)=1);decide)) fun _=>?_;refine df (fun h=>de h (by show ¬((4:Int)=3);decide)) fun _=>?_;refine df (fun _=>?_) fun h=>de rfl h;exact .inl (A1 (oBs ⟨C,D,F,A,G,H,I,J,K,B,L,M,N,E,P⟩ b e) [] (by exact RL5) rfl ⟨_,rfl⟩ rfl rfl ⟨rfl,false,rfl,fun _=>d⟩)
set_option maxHeartbeats 4000000 in
theorem Zl (k:Nat)(n:PN)(b e f:Nat)(m:RM)(h:WNk k n)(o:n.lds=true→n.std=true)(X:okM m=true)(t:m.kind=6):FnO Tryz.prog 73 [.ptr 0 0,gI f,.agg (enM m)] (cA n b e) fun g rs=>g=.tup []∧∃s,rs=cS s (A4 n f m) b e∧(n.dead=false→ShN s (A4 n f m)):=by
 obtain⟨C,D,F,A,H,I,G,J,K,B,L,M,N,E,P⟩:=n;obtain⟨kd,d,x,nu,l⟩:=m;have t:kd=6:=t;subst t;obtain⟨z,S,U,R,V,Y,Z,y,w,W⟩:=h;obtain⟨T,-,r,u⟩:=Az X;dsimp only at z U R V Y Z y o r w u;have j:ShN true ⟨C,D,F,A,H,I,G,J,K,B,L,M,N,E,P⟩:=⟨fun h=>(by cases h),fun _ _=>o⟩;have Q:F=d→A=d→G=false→A4 ⟨C,D,F,A,H,I,G,J,K,B,L,M,N,E,P⟩ f ⟨6,d,x,nu,l⟩=⟨C,D,F,A,H,max I (min nu (A3 H)),G,J,K,B,L,M,N,E,P⟩:=fun a b c=>by unfold A4;rw[db (show ¬(6:Int)=1 by decide),db (show ¬(6:Int)=3 by decide),db (show ¬(6:Int)=4 by decide),dc rfl,dc ⟨a,b,c⟩]
 have v:¬(F=d∧A=d∧G=false)→A4 ⟨C,D,F,A,H,I,G,J,K,B,L,M,N,E,P⟩ f ⟨6,d,x,nu,l⟩=⟨C,D,F,A,H,I,G,J,K,B,L,M,N,E,P⟩:=fun a=>by unfold A4;rw[db (show ¬(6:Int)=1 by decide),db (show ¬(6:Int)=3 by decide),db (show ¬(6:Int)=4 by decide),dc rfl,db a]
 refine Bq Tryz.func73 (A6 (O:=oAs ⟨C,D,F,A,H,I,G,J,K,B,L,M,N,E,P⟩ b e) (n0:=5) rfl) ?_;refine df (fun(p:F=d)=>?_) fun(p:F≠d)=>?_
 ·refine df (fun(i:A=d)=>?_) fun(i:A≠d)=>?_
  ·skip
   refine df (fun h=>de h (by show ¬((6:Int)=1);decide)) fun _=>?_;refine df (fun h=>de h (by show ¬((6:Int)=3);decide)) fun _=>?_;refine df (fun h=>de h (by show ¬((6:Int)=4);decide)) fun _=>?_;refine df (fun _=>?_) fun h=>de rfl h;refine dk (fun q=>?_) fun q=>?_
   ·have q:G=false:=by simpa using q
    rw[Q p i q];exact .inl (A1 (oAs ⟨C,D,F,A,H,max I (min nu (A3 H)),G,J,K,B,L,M,N,E,P⟩ b e) [] (by exact RL5) rfl ⟨_,rfl⟩ rfl rfl ⟨rfl,true,rfl,fun _=>⟨fun h=>(by cases h),fun _ _=>o⟩⟩)
   rw[v (fun h=>by rw[h.2.2] at q;cases q)];exact .inl (A1 (oAs ⟨C,D,F,A,H,I,G,J,K,B,L,M,N,E,P⟩ b e) [] (by exact RL5) rfl ⟨_,rfl⟩ rfl rfl ⟨rfl,true,rfl,fun _=>j⟩)
  ·skip
   refine df (fun h=>de h (by show ¬((6:Int)=1);decide)) fun _=>?_;refine df (fun h=>de h (by show ¬((6:Int)=3);decide)) fun _=>?_;refine df (fun h=>de h (by show ¬((6:Int)=4);decide)) fun _=>?_;refine df (fun _=>?_) fun h=>de rfl h;rw[v (fun h=>i h.2.1)];exact .inl (A1 (oAs ⟨C,D,F,A,H,I,G,J,K,B,L,M,N,E,P⟩ b e) [] (by exact RL5) rfl ⟨_,rfl⟩ rfl rfl ⟨rfl,true,rfl,fun _=>j⟩)
 ·skip
  refine df (fun h=>de h (by show ¬((6:Int)=1);decide)) fun _=>?_;refine df (fun h=>de h (by show ¬((6:Int)=3);decide)) fun _=>?_;refine df (fun h=>de h (by show ¬((6:Int)=4);decide)) fun _=>?_;refine df (fun _=>?_) fun h=>de rfl h;rw[v (fun h=>p h.1)];exact .inl (A1 (oAs ⟨C,D,F,A,H,I,G,J,K,B,L,M,N,E,P⟩ b e) [] (by exact RL5) rfl ⟨_,rfl⟩ rfl rfl ⟨rfl,true,rfl,fun _=>j⟩)
set_option maxHeartbeats 4000000 in
theorem Yl (k:Nat)(n:PN)(b e f:Nat)(m:RM)(h:WNk k n)(c:n.std=false∧n.normal < n.pmd)(T:okM m=true)(o:m.kind=6):FnO Tryz.prog 73 [.ptr 0 0,gI f,.agg (enM m)] (cB n b e) fun g rs=>g=.tup []∧∃s,rs=cS s (A4 n f m) b e∧(n.dead=false→ShN s (A4 n f m)):=by
 obtain⟨C,D,F,A,G,H,I,J,K,B,L,M,N,E,P⟩:=n;obtain⟨kd,a,Q,nu,l⟩:=m;have o:kd=6:=o;subst o;obtain⟨t,x,u,w,R,U,V,v,r,S⟩:=h;obtain⟨y,-,i,p⟩:=Az T;dsimp only at t u w R U V v c i r p;have d:ShN false ⟨C,D,F,A,G,H,I,J,K,B,L,M,N,E,P⟩:=⟨fun _=>c,fun h=>(by cases h)⟩;have z:A4 ⟨C,D,F,A,G,H,I,J,K,B,L,M,N,E,P⟩ f ⟨6,a,Q,nu,l⟩=⟨C,D,F,A,G,H,I,J,K,B,L,M,N,E,P⟩:=by unfold A4;rw[db (show ¬(6:Int)=1 by decide),db (show ¬(6:Int)=3 by decide),db (show ¬(6:Int)=4 by decide),dc rfl,db (fun h=>de c.2 (by have t:F=a:=h.1;have u:A=a:=h.2.1;omega))]
 rw[z];refine Bq Tryz.func73 (A6 (O:=oBs ⟨C,D,F,A,G,H,I,J,K,B,L,M,N,E,P⟩ b e) (n0:=5) rfl) ?_;refine df (fun(q:F=a)=>?_) fun(q:F≠a)=>?_
 ·refine df (fun(j:A=a)=>de c.2 (by omega)) fun(j:A≠a)=>?_;refine df (fun h=>de h (by show ¬((6:Int)=1);decide)) fun _=>?_;refine df (fun h=>de h (by show ¬((6:Int)=3);decide)) fun _=>?_;refine df (fun h=>de h (by show ¬((6:Int)=4);decide)) fun _=>?_;refine df (fun _=>?_) fun h=>de rfl h;exact .inl (A1 (oBs ⟨C,D,F,A,G,H,I,J,K,B,L,M,N,E,P⟩ b e) [] (by exact RL5) rfl ⟨_,rfl⟩ rfl rfl ⟨rfl,false,rfl,fun _=>d⟩)
 ·skip
  refine df (fun h=>de h (by show ¬((6:Int)=1);decide)) fun _=>?_;refine df (fun h=>de h (by show ¬((6:Int)=3);decide)) fun _=>?_;refine df (fun h=>de h (by show ¬((6:Int)=4);decide)) fun _=>?_;refine df (fun _=>?_) fun h=>de rfl h;exact .inl (A1 (oBs ⟨C,D,F,A,G,H,I,J,K,B,L,M,N,E,P⟩ b e) [] (by exact RL5) rfl ⟨_,rfl⟩ rfl rfl ⟨rfl,false,rfl,fun _=>d⟩)
end Go.Proofs.YtihfaocdpmmooaaGreat


import Derived.Test.YtihfaocdpmmooaaGreatZNs
import Derived.Test.YtihfaocdpmmooaaGreatNMq
namespace Go.Proofs.YtihfaocdpmmooaaGreat
open Go.RowKit
set_option maxRecDepth 100000
theorem U9 {b:Bs}(h:Gw b):okM (mD b)=true:=(Zbs h).1
theorem Yn {k:Nat}{n:PN}{f:Nat}{m:RM}(_hw:WNk k n)(q:ShN true n)(hd:n.dead=false):ShN true (Aq n f m):=by
 refine⟨fun h=>(by cases h),fun _ s g=>?_⟩;have key:∀j:PN,j.lds=n.lds→j.std=n.std→j.lds=true→j.std=true:=fun j a b c=>by rw[b];exact q.a rfl hd (by rw[←a];exact c)
 unfold Aq at g⊢;split at g
 ·next h=>rw[dc h];exact key n rfl rfl g
 ·next h =>
  rw[db h];have p:n.lds=true:=by
   cases hx:n.lds with
   | true=>rfl
   | false=>exact de (.inl hx) h
  have d:=q.a rfl hd p;rw[db (by rw[d];rintro⟨-,h⟩;cases h)] at g⊢;split at g
  ·next l =>
   rw[dc l];obtain⟨c,o,e⟩:=Cb {n with aks:=fun i=>if i=f then max (n.aks f) m.num else n.aks i,hrd:=fun i=>if i=f then true else n.hrd i};rw[e];dsimp only;split
   ·obtain⟨t,r⟩:=(A9 (PN.mk n.self n.many n.pmd n.normal n.log c n.lds n.std n.jns n.first (fun i=>if i=f then max (n.aks f) m.num else n.aks i) (fun i=>if i=f then true else n.hrd i) o n.dead n.st) f ⟨4,n.pmd,0,m.num,n.log.drop m.num.toNat⟩).to;rw[r];exact d
   ·exact d
  ·next l=>rw[db l];exact d
set_option maxHeartbeats 4000000 in
theorem Zhf (k:Nat)(n:PN)(b e:Nat)(p:RPk)(h:n.dead=false→WNk k n)(z:n.dead=false→ShN true n)(Q:p.body.size≤2000000):FnO Tryz.prog 32 [.ptr 0 0,.agg (pkG p)] (cA n b e) fun g rs=>g=.tup []∧∃s,rs=cS s (Dd n p) b e∧(n.dead=false→ShN s (Dd n p)):=by
 obtain⟨D,B,F,A,G,H,I,J,K,C,L,M,N,E,P⟩:=n;obtain⟨frm,to,body⟩:=p;have Q:body.size≤2000000:=Q;have no:(E=true∨¬Gw body.data.toList∨to≠D∨frm=D∨frm < 0∨frm ≥ B)→Dd ⟨D,B,F,A,G,H,I,J,K,C,L,M,N,E,P⟩ ⟨frm,to,body⟩=⟨D,B,F,A,G,H,I,J,K,C,L,M,N,E,P⟩:=fun T=>by unfold Dd;rw[dc T]
 refine Bq Tryz.func32 (A6 (O:=oAs ⟨D,B,F,A,G,H,I,J,K,C,L,M,N,E,P⟩ b e) (n0:=5) rfl) ?_;refine(So body Q).cal fun q d=>?_;subst d;unfold rdM;refine dk (fun hd=>?_) fun hd=>?_
 ·have hd:E=true:=hd;rw[no (.inl hd)];exact .inl (A1 (oAs ⟨D,B,F,A,G,H,I,J,K,C,L,M,N,E,P⟩ b e) [] (by exact RL5) rfl ⟨_,rfl⟩ rfl rfl ⟨rfl,true,rfl,fun h=>by rw[hd] at h;cases h⟩)
 have hd:E=false:=hd;have t:=h hd;have i:=z hd;clear h z;refine dj (fun l=>?_) fun l=>?_
 ·rw[no (.inr (.inl (fun S=>l (dc S))))];exact .inl (A1 (oAs ⟨D,B,F,A,G,H,I,J,K,C,L,M,N,E,P⟩ b e) [] (by exact RL5) rfl ⟨_,rfl⟩ rfl rfl ⟨rfl,true,rfl,fun _=>i⟩)
 have r:Gw body.data.toList:=bz fun S=>by have l:eMd body.data.toList=0:=l;unfold eMd at l;rw[db S] at l;cases l
 refine dj (fun(R:to≠D)=>?_) fun(R:to=D)=>?_
 ·rw[no (.inr (.inr (.inl R)))];exact .inl (A1 (oAs ⟨D,B,F,A,G,H,I,J,K,C,L,M,N,E,P⟩ b e) [] (by exact RL5) rfl ⟨_,rfl⟩ rfl rfl ⟨rfl,true,rfl,fun _=>i⟩)
 refine df (fun(hf:frm=D)=>?_) fun(hf:frm≠D)=>?_
 ·rw[no (.inr (.inr (.inr (.inl hf))))];exact .inl (A1 (oAs ⟨D,B,F,A,G,H,I,J,K,C,L,M,N,E,P⟩ b e) [] (by exact RL5) rfl ⟨_,rfl⟩ rfl rfl ⟨rfl,true,rfl,fun _=>i⟩)
 refine dg (fun(o:frm < 0)=>?_) fun(o:¬frm < 0)=>?_
 ·rw[no (.inr (.inr (.inr (.inr (.inl o)))))];exact .inl (A1 (oAs ⟨D,B,F,A,G,H,I,J,K,C,L,M,N,E,P⟩ b e) [] (by exact RL5) rfl ⟨_,rfl⟩ rfl rfl ⟨rfl,true,rfl,fun _=>i⟩)
 refine dg (fun(u:frm ≥ B)=>?_) fun(u:¬frm ≥ B)=>?_
 ·rw[no (.inr (.inr (.inr (.inr (.inr u)))))];exact .inl (A1 (oAs ⟨D,B,F,A,G,H,I,J,K,C,L,M,N,E,P⟩ b e) [] (by exact RL5) rfl ⟨_,rfl⟩ rfl rfl ⟨rfl,true,rfl,fun _=>i⟩)
 have v:=U9 r;have w:¬(E=true∨¬Gw body.data.toList∨to≠D∨frm=D∨frm < 0∨frm ≥ B):=by
  rw[hd];rintro(h | h | h | h | h | h)
  ·cases h
  ·exact h r
  ·exact h R
  ·exact hf h
  ·exact o h
  ·exact u h
 have eT:Dd ⟨D,B,F,A,G,H,I,J,K,C,L,M,N,E,P⟩ ⟨frm,to,body⟩=if(mD body.data.toList).kind=2∨(mD body.data.toList).kind=5 then Aq ⟨D,B,F,A,G,H,I,J,K,C,L,M,N,E,P⟩ frm.toNat (mD body.data.toList) else if A8 (mD body.data.toList).view B≠frm then⟨D,B,F,A,G,H,I,J,K,C,L,M,N,E,P⟩ else A4 ⟨D,B,F,A,G,H,I,J,K,C,L,M,N,E,P⟩ frm.toNat (mD body.data.toList):=by unfold Dd;rw[db w]
 obtain⟨f,rfl⟩:∃f:Nat,frm=(f:Int):=⟨frm.toNat,by omega⟩;rw[az] at eT;have y:=t.m7;have y:B≤7:=y;generalize mD body.data.toList=m at eT v⊢;clear no w l r;have U:=(Az v).2.1;rw[eT];refine df (fun(j:m.kind=1)=>?_) fun(hk1:m.kind≠1)=>?_
 ·rw[db (by omega)];refine df (fun _=>?_) fun h=>de j h;refine(Df _ _).cal fun q d=>?_;subst d;refine dj (fun c=>?_) fun c=>?_
  ·rw[dc c];exact .inl (A1 (oAs ⟨D,B,F,A,G,H,I,J,K,C,L,M,N,E,P⟩ b e) [] (by exact RL5) rfl ⟨_,rfl⟩ rfl rfl ⟨rfl,true,rfl,fun _=>i⟩)
  ·have c:A8 m.view B=f:=c;rw[db (fun h=>h c)];refine dh (.close (oAs ⟨D,B,F,A,G,H,I,J,K,C,L,M,N,E,P⟩ b e) [] (by exact RL5) ⟨_,rfl⟩ rfl (.done (.same ((Yj k ⟨D,B,F,A,G,H,I,J,K,C,L,M,N,E,P⟩ b e f m t (i.a rfl hd) v j).cal fun q rs d=>?_))));obtain⟨rfl,s,rfl,d⟩:=d;have d:=d hd;refine .done ?_;exact .inl (A7 rfl rfl ⟨rfl,s,rfl,fun _=>d⟩)
 refine df (fun(j:m.kind=3)=>?_) fun(hk3:m.kind≠3)=>?_
 ·rw[db (by omega)];refine df (fun _=>?_) fun h=>de j h;refine(Df _ _).cal fun q d=>?_;subst d;refine dj (fun c=>?_) fun c=>?_
  ·rw[dc c];exact .inl (A1 (oAs ⟨D,B,F,A,G,H,I,J,K,C,L,M,N,E,P⟩ b e) [] (by exact RL5) rfl ⟨_,rfl⟩ rfl rfl ⟨rfl,true,rfl,fun _=>i⟩)
  ·have c:A8 m.view B=f:=c;rw[db (fun h=>h c)];refine dh (.close (oAs ⟨D,B,F,A,G,H,I,J,K,C,L,M,N,E,P⟩ b e) [] (by exact RL5) ⟨_,rfl⟩ rfl (.done (.same ((Z0 k ⟨D,B,F,A,G,H,I,J,K,C,L,M,N,E,P⟩ b e f m t (i.a rfl hd) v j).cal fun q rs d=>?_))));obtain⟨rfl,s,rfl,d⟩:=d;have d:=d hd;refine .done ?_;exact .inl (A7 rfl rfl ⟨rfl,s,rfl,fun _=>d⟩)
 refine df (fun(j:m.kind=4)=>?_) fun(hk4:m.kind≠4)=>?_
 ·rw[db (by omega)];refine df (fun _=>?_) fun h=>de j h;refine(Df _ _).cal fun q d=>?_;subst d;refine dj (fun c=>?_) fun c=>?_
  ·rw[dc c];exact .inl (A1 (oAs ⟨D,B,F,A,G,H,I,J,K,C,L,M,N,E,P⟩ b e) [] (by exact RL5) rfl ⟨_,rfl⟩ rfl rfl ⟨rfl,true,rfl,fun _=>i⟩)
  ·have c:A8 m.view B=f:=c;rw[db (fun h=>h c)];refine dh (.close (oAs ⟨D,B,F,A,G,H,I,J,K,C,L,M,N,E,P⟩ b e) [] (by exact RL5) ⟨_,rfl⟩ rfl (.done (.same ((Zn k ⟨D,B,F,A,G,H,I,J,K,C,L,M,N,E,P⟩ b e f m t (i.a rfl hd) v j).cal fun q rs d=>?_))));obtain⟨rfl,s,rfl,d⟩:=d;have d:=d hd;refine .done ?_;exact .inl (A7 rfl rfl ⟨rfl,s,rfl,fun _=>d⟩)
 refine df (fun(j:m.kind=6)=>?_) fun(hk6:m.kind≠6)=>?_
 ·rw[db (by omega)];refine(Df _ _).cal fun q d=>?_;subst d;refine dj (fun c=>?_) fun c=>?_
  ·rw[dc c];exact .inl (A1 (oAs ⟨D,B,F,A,G,H,I,J,K,C,L,M,N,E,P⟩ b e) [] (by exact RL5) rfl ⟨_,rfl⟩ rfl rfl ⟨rfl,true,rfl,fun _=>i⟩)
  ·have c:A8 m.view B=f:=c;rw[db (fun h=>h c)];refine dh (.close (oAs ⟨D,B,F,A,G,H,I,J,K,C,L,M,N,E,P⟩ b e) [] (by exact RL5) ⟨_,rfl⟩ rfl (.done (.same ((Zl k ⟨D,B,F,A,G,H,I,J,K,C,L,M,N,E,P⟩ b e f m t (i.a rfl hd) v j).cal fun q rs d=>?_))));obtain⟨rfl,s,rfl,d⟩:=d;have d:=d hd;refine .done ?_;exact .inl (A7 rfl rfl ⟨rfl,s,rfl,fun _=>d⟩)
 have x:m.kind=2∨m.kind=5:=by omega
 rw[dc x];refine dh (.close (oAs ⟨D,B,F,A,G,H,I,J,K,C,L,M,N,E,P⟩ b e) [] (by exact RL5) ⟨_,rfl⟩ rfl (.done (.same ((Z2g k ⟨D,B,F,A,G,H,I,J,K,C,L,M,N,E,P⟩ b e f (by omega) m t (i.a rfl hd) v).cal fun q rs d=>?_))));obtain⟨rfl,rfl⟩:=d;refine .done ?_;exact .inl (A7 rfl rfl ⟨rfl,true,rfl,fun _=>Yn t i hd⟩)
set_option maxHeartbeats 4000000 in
theorem Zga (k:Nat)(n:PN)(b e:Nat)(p:RPk)(h:n.dead=false→WNk k n)(y:n.dead=false→ShN false n)(z:p.body.size≤2000000):FnO Tryz.prog 32 [.ptr 0 0,.agg (pkG p)] (cB n b e) fun g rs=>g=.tup []∧∃s,rs=cS s (Dd n p) b e∧(n.dead=false→ShN s (Dd n p)):=by
 obtain⟨D,B,F,A,G,H,I,J,K,C,L,M,N,E,P⟩:=n;obtain⟨frm,to,body⟩:=p;have z:body.size≤2000000:=z;have no:(E=true∨¬Gw body.data.toList∨to≠D∨frm=D∨frm < 0∨frm ≥ B)→Dd ⟨D,B,F,A,G,H,I,J,K,C,L,M,N,E,P⟩ ⟨frm,to,body⟩=⟨D,B,F,A,G,H,I,J,K,C,L,M,N,E,P⟩:=fun S=>by unfold Dd;rw[dc S]
 refine Bq Tryz.func32 (A6 (O:=oBs ⟨D,B,F,A,G,H,I,J,K,C,L,M,N,E,P⟩ b e) (n0:=5) rfl) ?_;refine(So body z).cal fun q c=>?_;subst c;unfold rdM;refine dk (fun hd=>?_) fun hd=>?_
 ·have hd:E=true:=hd;rw[no (.inl hd)];exact .inl (A1 (oBs ⟨D,B,F,A,G,H,I,J,K,C,L,M,N,E,P⟩ b e) [] (by exact RL5) rfl ⟨_,rfl⟩ rfl rfl ⟨rfl,false,rfl,fun h=>by rw[hd] at h;cases h⟩)
 have hd:E=false:=hd;have u:=h hd;have d:=y hd;clear h y;refine dj (fun j=>?_) fun j=>?_
 ·rw[no (.inr (.inl (fun R=>j (dc R))))];exact .inl (A1 (oBs ⟨D,B,F,A,G,H,I,J,K,C,L,M,N,E,P⟩ b e) [] (by exact RL5) rfl ⟨_,rfl⟩ rfl rfl ⟨rfl,false,rfl,fun _=>d⟩)
 have o:Gw body.data.toList:=bz fun R=>by have j:eMd body.data.toList=0:=j;unfold eMd at j;rw[db R] at j;cases j
 refine dj (fun(Q:to≠D)=>?_) fun(Q:to=D)=>?_
 ·rw[no (.inr (.inr (.inl Q)))];exact .inl (A1 (oBs ⟨D,B,F,A,G,H,I,J,K,C,L,M,N,E,P⟩ b e) [] (by exact RL5) rfl ⟨_,rfl⟩ rfl rfl ⟨rfl,false,rfl,fun _=>d⟩)
 refine df (fun(hf:frm=D)=>?_) fun(hf:frm≠D)=>?_
 ·rw[no (.inr (.inr (.inr (.inl hf))))];exact .inl (A1 (oBs ⟨D,B,F,A,G,H,I,J,K,C,L,M,N,E,P⟩ b e) [] (by exact RL5) rfl ⟨_,rfl⟩ rfl rfl ⟨rfl,false,rfl,fun _=>d⟩)
 refine dg (fun(l:frm < 0)=>?_) fun(l:¬frm < 0)=>?_
 ·rw[no (.inr (.inr (.inr (.inr (.inl l)))))];exact .inl (A1 (oBs ⟨D,B,F,A,G,H,I,J,K,C,L,M,N,E,P⟩ b e) [] (by exact RL5) rfl ⟨_,rfl⟩ rfl rfl ⟨rfl,false,rfl,fun _=>d⟩)
 refine dg (fun(r:frm ≥ B)=>?_) fun(r:¬frm ≥ B)=>?_
 ·rw[no (.inr (.inr (.inr (.inr (.inr r)))))];exact .inl (A1 (oBs ⟨D,B,F,A,G,H,I,J,K,C,L,M,N,E,P⟩ b e) [] (by exact RL5) rfl ⟨_,rfl⟩ rfl rfl ⟨rfl,false,rfl,fun _=>d⟩)
 have t:=U9 o;have v:¬(E=true∨¬Gw body.data.toList∨to≠D∨frm=D∨frm < 0∨frm ≥ B):=by
  rw[hd];rintro(h | h | h | h | h | h)
  ·cases h
  ·exact h o
  ·exact h Q
  ·exact hf h
  ·exact l h
  ·exact r h
 have eT:Dd ⟨D,B,F,A,G,H,I,J,K,C,L,M,N,E,P⟩ ⟨frm,to,body⟩=if(mD body.data.toList).kind=2∨(mD body.data.toList).kind=5 then Aq ⟨D,B,F,A,G,H,I,J,K,C,L,M,N,E,P⟩ frm.toNat (mD body.data.toList) else if A8 (mD body.data.toList).view B≠frm then⟨D,B,F,A,G,H,I,J,K,C,L,M,N,E,P⟩ else A4 ⟨D,B,F,A,G,H,I,J,K,C,L,M,N,E,P⟩ frm.toNat (mD body.data.toList):=by unfold Dd;rw[db v]
 obtain⟨f,rfl⟩:∃f:Nat,frm=(f:Int):=⟨frm.toNat,by omega⟩;rw[az] at eT;have x:=u.m7;have x:B≤7:=x;generalize mD body.data.toList=m at eT t⊢;clear no v j o;have T:=(Az t).2.1;rw[eT];refine df (fun(i:m.kind=1)=>?_) fun(hk1:m.kind≠1)=>?_
 ·rw[db (by omega)];refine df (fun _=>?_) fun h=>de i h;refine(Df _ _).cal fun q c=>?_;subst c;refine dj (fun a=>?_) fun a=>?_
  ·rw[dc a];exact .inl (A1 (oBs ⟨D,B,F,A,G,H,I,J,K,C,L,M,N,E,P⟩ b e) [] (by exact RL5) rfl ⟨_,rfl⟩ rfl rfl ⟨rfl,false,rfl,fun _=>d⟩)
  ·have a:A8 m.view B=f:=a;rw[db (fun h=>h a)];refine dh (.close (oBs ⟨D,B,F,A,G,H,I,J,K,C,L,M,N,E,P⟩ b e) [] (by exact RL5) ⟨_,rfl⟩ rfl (.done (.same ((Yv k ⟨D,B,F,A,G,H,I,J,K,C,L,M,N,E,P⟩ b e f m u (d.b rfl) t i).cal fun q rs c=>?_))));obtain⟨rfl,s,rfl,c⟩:=c;have c:=c hd;refine .done ?_;exact .inl (A7 rfl rfl ⟨rfl,s,rfl,fun _=>c⟩)
 refine df (fun(i:m.kind=3)=>?_) fun(hk3:m.kind≠3)=>?_
 ·rw[db (by omega)];refine df (fun _=>?_) fun h=>de i h;refine(Df _ _).cal fun q c=>?_;subst c;refine dj (fun a=>?_) fun a=>?_
  ·rw[dc a];exact .inl (A1 (oBs ⟨D,B,F,A,G,H,I,J,K,C,L,M,N,E,P⟩ b e) [] (by exact RL5) rfl ⟨_,rfl⟩ rfl rfl ⟨rfl,false,rfl,fun _=>d⟩)
  ·have a:A8 m.view B=f:=a;rw[db (fun h=>h a)];refine dh (.close (oBs ⟨D,B,F,A,G,H,I,J,K,C,L,M,N,E,P⟩ b e) [] (by exact RL5) ⟨_,rfl⟩ rfl (.done (.same ((Zq k ⟨D,B,F,A,G,H,I,J,K,C,L,M,N,E,P⟩ b e f m u (d.b rfl) t i).cal fun q rs c=>?_))));obtain⟨rfl,s,rfl,c⟩:=c;have c:=c hd;refine .done ?_;exact .inl (A7 rfl rfl ⟨rfl,s,rfl,fun _=>c⟩)
 refine df (fun(i:m.kind=4)=>?_) fun(hk4:m.kind≠4)=>?_
 ·rw[db (by omega)];refine df (fun _=>?_) fun h=>de i h;refine(Df _ _).cal fun q c=>?_;subst c;refine dj (fun a=>?_) fun a=>?_
  ·rw[dc a];exact .inl (A1 (oBs ⟨D,B,F,A,G,H,I,J,K,C,L,M,N,E,P⟩ b e) [] (by exact RL5) rfl ⟨_,rfl⟩ rfl rfl ⟨rfl,false,rfl,fun _=>d⟩)
  ·have a:A8 m.view B=f:=a;rw[db (fun h=>h a)];refine dh (.close (oBs ⟨D,B,F,A,G,H,I,J,K,C,L,M,N,E,P⟩ b e) [] (by exact RL5) ⟨_,rfl⟩ rfl (.done (.same ((Yk k ⟨D,B,F,A,G,H,I,J,K,C,L,M,N,E,P⟩ b e f m u (d.b rfl) t i).cal fun q rs c=>?_))));obtain⟨rfl,s,rfl,c⟩:=c;have c:=c hd;refine .done ?_;exact .inl (A7 rfl rfl ⟨rfl,s,rfl,fun _=>c⟩)
 refine df (fun(i:m.kind=6)=>?_) fun(hk6:m.kind≠6)=>?_
 ·rw[db (by omega)];refine(Df _ _).cal fun q c=>?_;subst c;refine dj (fun a=>?_) fun a=>?_
  ·rw[dc a];exact .inl (A1 (oBs ⟨D,B,F,A,G,H,I,J,K,C,L,M,N,E,P⟩ b e) [] (by exact RL5) rfl ⟨_,rfl⟩ rfl rfl ⟨rfl,false,rfl,fun _=>d⟩)
  ·have a:A8 m.view B=f:=a;rw[db (fun h=>h a)];refine dh (.close (oBs ⟨D,B,F,A,G,H,I,J,K,C,L,M,N,E,P⟩ b e) [] (by exact RL5) ⟨_,rfl⟩ rfl (.done (.same ((Yl k ⟨D,B,F,A,G,H,I,J,K,C,L,M,N,E,P⟩ b e f m u (d.b rfl) t i).cal fun q rs c=>?_))));obtain⟨rfl,s,rfl,c⟩:=c;have c:=c hd;refine .done ?_;exact .inl (A7 rfl rfl ⟨rfl,s,rfl,fun _=>c⟩)
 have w:m.kind=2∨m.kind=5:=by omega
 rw[dc w];refine dh (.close (oBs ⟨D,B,F,A,G,H,I,J,K,C,L,M,N,E,P⟩ b e) [] (by exact RL5) ⟨_,rfl⟩ rfl (.done (.same ((Z3j k ⟨D,B,F,A,G,H,I,J,K,C,L,M,N,E,P⟩ b e f (by omega) m u (d.b rfl) t).cal fun q rs c=>?_))));obtain⟨rfl,s,rfl,c⟩:=c;refine .done ?_;exact .inl (A7 rfl rfl ⟨rfl,s,rfl,fun _=>c⟩)
end Go.Proofs.YtihfaocdpmmooaaGreat


import Derived.Test.YtihfaocdpmmooaaGreatSMM
import Derived.Test.YtihfaocdpmmooaaGreatZNm
namespace Go.Proofs.YtihfaocdpmmooaaGreat
theorem NI.up {k j:Nat}{n:PN}(h:NI k n)(b:k≤j)(a:j≤900000000):NI j n:=⟨⟨h.sl.ws.up b,h.sl.rl,a,h.sl.ld⟩,h.arm,h.nv,h.dead,h.self,h.m7,h.com,h.ld,h.st,h.jn,h.jl⟩
theorem Uo {l:List REnt}{v u:Int}(h:Aw l v=true)(a:u≤v):vw u l≤v:=by
 unfold vw;cases hg:l.getLast? with
 | none=>exact a
 | some e =>
  unfold Aw at h;rw[List.all_eq_true] at h;exact of_decide_eq_true (h e (List.mem_of_getLast? hg))
theorem Ny {l:List REnt}{e:REnt}(h:Bo l=true)(i:e.n=A3 l+1)(d:vw 1 l≤e.v)(g:e.v≤big)(f:e.b.size≤200)(j:l.length < 150):Bo (l++[e])=true:=by
 have a:=Dy l;unfold Bo at h⊢;rw[au,decide_eq_true_iff] at h;rw[M7,h.1,ax];have c:Ap (vw 1 l) (0+l.length) [e]=true:=by show(okB (vw 1 l) (0+l.length) e&&true)=true;unfold okB;rw[decide_eq_true ⟨by omega,d,g,f⟩];rfl
 rw[c,decide_eq_true (by show l.length+1≤150;omega)];rfl
theorem Ri {l:List REnt}{e:REnt}{v:Int}(h:Aw l v=true)(a:e.v≤v):Aw (l++[e]) v=true:=by unfold Aw at *;rw[List.all_append,h];show(true&&(decide (e.v≤v)&&true))=true;rw[decide_eq_true a];rfl
theorem Lr {k:Nat}{n:PN}(hi:NI k n){e:REnt}(o:e.n=A3 n.log+1)(i:vw 1 n.log≤e.v)(g:1≤e.v)(l:e.v≤n.normal)(w:e.b.size≤200)(u:n.log.length < 150) :
  Lx n e=true∧NV {n with log:=n.log++[e]}∧∃st,F8 n e={n with log:=n.log++[e],st:=st}∧WSt (k+1) st∧RLd st∧st.d.armed=0∧B1 st.all (0,0,[])=some (n.pmd,n.normal,n.log++[e]):=by
 have h:=hi.nv.p;have m:=Dy n.log;have hN:NV {n with log:=n.log++[e]}:=⟨h,Ny hi.nv.log o i (by omega) w u,Ri hi.nv.top l⟩;have x:=Wr;have y:=(Fq (k:=3) (a:=e.v) (b:=e.n) (s:=e.b) (by omega) (by omega) (by omega) (by omega)).1;obtain⟨c,f,j,q⟩:=Rj (n:={n with log:=n.log++[e]}) (r:=Ce 3 e.v e.n e.b) hi.sl.ws hi.sl.rl hi.sl.kk hi.arm hN (by omega) (by show B1 (n.st.all++[Ce 3 e.v e.n e.b]) (0,0,[])=some (n.pmd,n.normal,n.log++[e]);rw[He,hi.sl.ld];show Dj (n.pmd,n.normal,n.log) (Ce 3 e.v e.n e.b)=_;rw[Z4x (by omega) (by omega) (by omega)])
 have t:=(Fr (n:={n with log:=n.log++[e]}) hi.sl.ws (Ce 3 e.v e.n e.b) c).1;exact⟨c,hN,_,Ht c,t,f,j,q⟩
theorem Wu (n:PN)(i:Nat)(x:Int)(l:List REnt)(st:LD)(hd:Nat→Bool):By {n with log:=l,st:=st,hrd:=hd,aks:=fun j=>if j=i then x else n.aks j}=(By n).set i x:=by
 refine cp fun j=>?_;unfold By;show((List.range n.many).map fun j=>if j=i then x else n.aks j)[j]?=_;rw[aj,cn,aa,List.length_range,aj];by_cases a:j < n.many
 ·rw[cq a];by_cases h:i=j
  ·rw[dc h,dc (by omega)];show some (if j=i then _ else _)=_;rw[dc h.symm]
  ·rw[db h];show some (if j=i then _ else _)=_;rw[db (fun e=>h e.symm)];rfl
 ·rw[b9 (by rw[List.length_range];omega)];by_cases h:i=j
  ·rw[dc h,db (by omega)];rfl
  ·rw[db h];rfl
theorem Ti {n:PN}{i:Nat}(h:i < n.many):(By n)[i]?.getD 0=n.aks i:=by unfold By;rw[aj,cq h];rfl
theorem M1 {k:Nat}{n:PN}{r:RN}(h:Sim n r)(hi:NI k n)(v:k+1≤900000000)(s:ByteArray):(Bc n s).2=(Bd r s).2∧Sim (Bc n s).1 (Bd r s).1∧NI (k+1) (Bc n s).1:=by
 have up:NI (k+1) n:=hi.up (by omega) v;obtain⟨rs,A,rp,K,rl,rc,q,O,J,B,W,N⟩:=r;obtain rfl:rs=n.self:=h.self;obtain rfl:A=n.many:=h.many;obtain rfl:rp=n.pmd:=h.pmd;obtain rfl:K=n.normal:=h.normal;obtain rfl:rl=n.log:=h.log;obtain rfl:rc=n.cmt:=h.cmt;obtain rfl:N=n.out:=h.out;have f:q=if n.lds=true then(if n.std=true then 2 else 1) else 0:=h.phase;unfold Bc Bd;dsimp only;by_cases a:n.std=false
 ·rw[dc (.inr (.inl a)),dc (.inl (by rw[f,a];split<;>decide))];exact⟨rfl,h,up⟩
 ·have a:n.std=true:=by simpa using a
  obtain⟨g,y,z,Y,D⟩:=hi.st a;rw[g,a,dc rfl,dc rfl] at f;subst f;by_cases m:n.log.length ≥ 150∨s.size > 200
  ·rw[dc (.inr (.inr m)),dc (.inr m)];exact⟨rfl,h,up⟩
  ·rw[db (by rw[hi.dead,a];rintro(h | h | h);cases h;cases h;exact m h)];obtain⟨a1,a2,E⟩:=h.aks g a;obtain rfl:J=By n:=a1;obtain rfl:B=n.first:=a2
   have w:=hi.ld g;have X:=hi.nv.p;have l:=Dy n.log;obtain⟨G,t,st,L,Q,U,H,F⟩:=Lr hi (e:=⟨n.pmd,A3 n.log+1,s⟩) rfl (Uo (by rw[←y];exact hi.nv.top) w.2) w.2 (by show n.pmd≤_;omega) (by show s.size≤200;omega) (by omega);rw[dc G,L,db (by rintro(h | h);exact h rfl;exact m h)];have c:=hi.self;have em:(⟨4,n.pmd,0,A3 n.log+1 - 1,[⟨n.pmd,A3 n.log+1,s⟩]⟩:RM)=⟨4,n.pmd,0,(n.log.length:Int),[⟨n.pmd,(n.log.length:Int)+1,s⟩]⟩:=by rw[l,Int.add_sub_cancel]
   have V:okM ⟨4,n.pmd,0,A3 n.log+1 - 1,[⟨n.pmd,A3 n.log+1,s⟩]⟩=true:=by rw[em];exact Zdn (by omega) (by omega) (by omega)
   have P:=Wu n n.self (A3 n.log+1) (n.log++[⟨n.pmd,A3 n.log+1,s⟩]) st n.hrd;have M:A3 (n.log++[⟨n.pmd,A3 n.log+1,s⟩])=A3 n.log+1:=by rw[Dy,ax,l];show((n.log.length+1:Nat):Int)=_;omega
   have I:Sim {n with log:=n.log++[⟨n.pmd,A3 n.log+1,s⟩],st:=st,aks:=fun i=>if i=n.self then A3 n.log+1 else n.aks i} (Bp (J9 ⟨n.self,n.many,n.pmd,n.normal,n.log,n.cmt,2,O,By n,n.first,W,n.out⟩ ⟨n.pmd,A3 n.log+1,s⟩) n.self (A3 n.log+1)):=by
    refine⟨rfl,rfl,rfl,rfl,rfl,rfl,rfl,?_,fun _ b=>de a (by have b:n.std=false:=b;rw[b];decide),fun _ _=>⟨?_,rfl,E⟩⟩
    ·show(2:Int)=if n.lds=true then(if n.std=true then 2 else 1) else 0;rw[g,a];rfl
    ·refine Eq.trans ?_ P.symm;show(By n).set (n.self:Int).toNat (max ((By n)[(n.self:Int).toNat]?.getD 0) (A3 n.log+1))=_;rw[az,Ti c];have:=(z n.self).2;rw[show max (n.aks n.self) (A3 n.log+1)=A3 n.log+1 by omega]
   have hN:NI (k+1) {n with log:=n.log++[⟨n.pmd,A3 n.log+1,s⟩],st:=st,aks:=fun i=>if i=n.self then A3 n.log+1 else n.aks i}:=by
    have u:=hi.com;have d:(n.log++[(⟨n.pmd,A3 n.log+1,s⟩:REnt)]).length=n.log.length+1:=by rw[ax];rfl
    refine⟨⟨Q,U,v,F⟩,H,⟨t.p,t.log,t.top⟩,hi.dead,hi.self,hi.m7,?_,hi.ld,fun _=>⟨g,y,fun x=>?_,?_,?_⟩,fun _ b=>de a (by have b:n.std=false:=b;rw[b];decide),hi.jl⟩
    ·show 0≤n.cmt∧n.cmt≤((n.log++[(⟨n.pmd,A3 n.log+1,s⟩:REnt)]).length:Int);rw[d];omega
    ·show 0≤(if x=n.self then A3 n.log+1 else n.aks x)∧(if x=n.self then A3 n.log+1 else n.aks x)≤((n.log++[(⟨n.pmd,A3 n.log+1,s⟩:REnt)]).length:Int);rw[d];have:=z x;split<;>omega
    ·show 0≤n.first∧n.first≤((n.log++[(⟨n.pmd,A3 n.log+1,s⟩:REnt)]).length:Int)
     rw[d];omega
    ·show Aw ((n.log++[(⟨n.pmd,A3 n.log+1,s⟩:REnt)]).take n.first.toNat) (n.pmd - 1)=true;rw[List.take_append_of_le_length (by omega)];exact D
   have C:=I.spread V;have j:=A2 {n with log:=n.log++[⟨n.pmd,A3 n.log+1,s⟩],st:=st,aks:=fun i=>if i=n.self then A3 n.log+1 else n.aks i} ⟨4,n.pmd,0,A3 n.log+1 - 1,[⟨n.pmd,A3 n.log+1,s⟩]⟩;have R:=hN.same j;obtain⟨o,e⟩:=j.to;obtain⟨S,T,-⟩:=Py C R (by rw[e];exact a);exact⟨rfl,S,T⟩
theorem Tx {j:Nat→RJ}{m i:Nat}(h:i < m)(n:RN)(c:n.jns=jrL j m):Kl n i=(j i).is:=by
 unfold Kl;rw[c];unfold jrL;rw[List.any_map];cases hj:(j i).is with
 | true =>
  rw[List.any_eq_true];exact⟨i,List.mem_filter.2 ⟨List.mem_range.2 h,hj⟩,by simp⟩
 | false =>
  rw[List.any_eq_false];intro x d;obtain⟨e,b⟩:=List.mem_filter.1 d;intro a;have a:(x:Int)=(i:Int):=by simpa using a
  have:x=i:=by omega
  rw[this,hj] at b;cases b
theorem Zlb:¬(0:Int)=1:=by decide
theorem Zjz:¬(0:Int)=2:=by decide
theorem Ze9:¬(1:Int)=2:=by decide
theorem Zla:¬(2:Int)=1:=by decide
theorem Qn {n:RN}{i:Nat}(h:¬n.phase=1):Fs n i=n:=by unfold Fs;rw[db (fun a=>h a.1)]
theorem Jv {n:RN}{i:Nat}(h:¬n.phase=2):Fe n i=n:=by unfold Fe;rw[db (fun a=>h a.1)]
theorem Ji {n:RN}{i:Nat}(h:¬n.phase=2):F7 n i=n:=by unfold F7;rw[db (fun a=>h a.1)]
theorem K4 {n:RN}{i:Nat}(h:¬n.phase=2):F4 n i=n:=by unfold F4;rw[db h]
theorem Z4n {k:Nat}{n:PN}{r:RN}(h:Sim n r)(hi:NI k n):Sim (Bv n) (Do r)∧NI k (Bv n):=by
 obtain⟨rs,B,rp,F,rl,rc,b,m,j,d,q,H⟩:=r;obtain rfl:rs=n.self:=h.self;obtain rfl:B=n.many:=h.many;obtain rfl:rp=n.pmd:=h.pmd;obtain rfl:F=n.normal:=h.normal;obtain rfl:rl=n.log:=h.log;obtain rfl:rc=n.cmt:=h.cmt;obtain rfl:H=n.out:=h.out;have a:b=if n.lds=true then(if n.std=true then 2 else 1) else 0:=h.phase;have O:=hi.nv.p;have z:=hi.com;have x:=hi.nv.ents.1;have fin:∀(f:RN→Nat→RN) (g:Nat→List RPk),(∀o i,i < n.many→f ⟨n.self,n.many,n.pmd,n.normal,n.log,n.cmt,b,m,j,d,q,o⟩ i=⟨n.self,n.many,n.pmd,n.normal,n.log,n.cmt,b,m,j,d,q,o++g i⟩)→Ma f ⟨n.self,n.many,n.pmd,n.normal,n.log,n.cmt,b,m,j,d,q,n.out⟩ n.many=⟨n.self,n.many,n.pmd,n.normal,n.log,n.cmt,b,m,j,d,q,n.out++(Yy n.self n.many).flatMap g⟩:=fun f g hf=>Pa (f:=f) (g:=g) (r:=⟨n.self,n.many,n.pmd,n.normal,n.log,n.cmt,b,m,j,d,q,n.out⟩) (s:=n.self) rfl n.many fun o i hi=>hf o i hi;unfold Do;dsimp only;rw[az];cases hl:n.lds with
 | false =>
  rw[hl] at a;have a:b=0:=a;subst a;have e:Bv n=n:=by unfold Bv;rw[dc (.inr hl)]
  rw[e,fin _ (fun _=>[]) fun o i _=>?_]
  ·refine⟨?_,hi⟩;have G:((Yy n.self n.many).flatMap fun _=>([]:List RPk))=[]:=by simp
   rw[G,cz];exact h
  ·rw[Qn Zlb,Jv Zjz,Ji Zjz,K4 Zjz,cz]
 | true =>
  obtain⟨R,Q⟩:=hi.ld hl;cases hs:n.std with
  | false =>
   rw[hl,hs] at a;have a:b=1:=a;subst a;have C:=h.jns hl hs;have e:Bv n={n with out:=n.out++(Yy n.self n.many).flatMap fun i:Nat=>if(n.jns i).is=true then [] else [⟨(n.self:Int),(i:Int),⟨(bM ⟨1,n.pmd,0,0,[]⟩).toArray⟩⟩]}:=by
    unfold Bv;rw[db (by rw[hi.dead,hl];rintro(h | h)<;>cases h),db (by rw[hs];decide)];refine Lv (g:=fun i:Nat=>if(n.jns i).is=true then [] else [⟨(n.self:Int),(i:Int),⟨(bM ⟨1,n.pmd,0,0,[]⟩).toArray⟩⟩]) n.many fun o i c=>?_;unfold E0;dsimp only;split
    ·next t=>rw[cz]
    ·next t=>rw[Gi (Z35 (by omega))]
   rw[e,fin _ (fun i:Nat=>if(n.jns i).is=true then [] else [⟨(n.self:Int),(i:Int),⟨(bM ⟨1,n.pmd,0,0,[]⟩).toArray⟩⟩]) fun o i c=>?_]
   ·exact⟨h.snd _,hi.snd _⟩
   ·have M:Kl ⟨n.self,n.many,n.pmd,n.normal,n.log,n.cmt,1,m,j,d,q,o⟩ i=(n.jns i).is:=Tx c _ C;unfold Fs;dsimp only;rw[M];cases hji:(n.jns i).is with
    | true =>
     rw[db (by rintro⟨-,h⟩;cases h),dc rfl,cz];rw[Jv Ze9,Ji Ze9,K4 Ze9]
    | false =>
     rw[dc ⟨rfl,rfl⟩,db (by decide)];unfold Av;rw[Jv Ze9,Ji Ze9,K4 Ze9]
  | true =>
   rw[hl,hs] at a;have a:b=2:=a;subst a;obtain⟨N,J,K,P,D⟩:=hi.st hs;obtain⟨a1,a2,E⟩:=h.aks hl hs;obtain rfl:j=By n:=a1;obtain rfl:d=n.first:=a2
   have L:∀i:Nat,okM ⟨4,n.pmd,0,n.aks i,n.log.drop (n.aks i).toNat⟩=true:=fun i=>by
    have:=K i;have:=Z42 (v:=n.pmd) (k:=(n.aks i).toNat) (l:=n.log) (by omega) (by omega) hi.nv.log (by rw[←J];exact hi.nv.top)
    rwa [show(((n.aks i).toNat:Nat):Int)=n.aks i by omega] at this
   have w:Bo (n.log.take n.first.toNat)=true:=by have hr:=hi.nv.log;unfold Bo at hr⊢;rw[au,decide_eq_true_iff] at hr;have A:=hr.1;rw[←cx n.first.toNat n.log,M7,au] at A;rw[A.1,decide_eq_true (by rw[aw];omega)];rfl
   have I:okM ⟨3,n.pmd,0,0,n.log.take n.first.toNat⟩=true:=Rf (by omega) w D;have y:okM ⟨6,n.pmd,0,n.cmt,[]⟩=true:=Xk (by omega) (by omega);let g:Nat→List RPk:=fun i:Nat=>(if n.hrd i=true then [⟨(n.self:Int),(i:Int),⟨(bM ⟨4,n.pmd,0,n.aks i,n.log.drop (n.aks i).toNat⟩).toArray⟩⟩] else [⟨(n.self:Int),(i:Int),⟨(bM ⟨3,n.pmd,0,0,n.log.take n.first.toNat⟩).toArray⟩⟩])++[⟨(n.self:Int),(i:Int),⟨(bM ⟨6,n.pmd,0,n.cmt,[]⟩).toArray⟩⟩];have e:Bv n={n with out:=n.out++(Yy n.self n.many).flatMap g}:=by
    unfold Bv;rw[db (by rw[hi.dead,hl];rintro(h | h)<;>cases h),dc hs];refine Lv (g:=g) n.many fun o i c=>?_;unfold Dv;dsimp only[g];split
    ·next t=>rw[Gi (L i),Gi y];dsimp only;rw[bx]
    ·next t=>rw[Gi I,Gi y];dsimp only;rw[bx]
   rw[e,fin _ g fun o i c=>?_]
   ·exact⟨h.snd _,hi.snd _⟩
   ·have u:∀o,Eh ⟨n.self,n.many,n.pmd,n.normal,n.log,n.cmt,2,m,By n,n.first,q,o⟩ i=n.hrd i:=fun o=>E i c;rw[Qn Zla];unfold Fe;rw[u];dsimp only;rw[Ti c];dsimp only[g];cases t:n.hrd i with
    | true =>
     rw[dc ⟨rfl,rfl⟩,dc rfl];unfold Av F7;dsimp only;rw[u,t,db (by rintro⟨-,h⟩;cases h)];unfold F4;rw[dc rfl];unfold Av;dsimp only;rw[bx]
    | false =>
     rw[db (by rintro⟨-,h⟩;cases h),db (by decide)];unfold F7;rw[u,t,dc ⟨rfl,rfl⟩];unfold Av F4;rw[dc rfl];unfold Av;dsimp only;rw[bx]
theorem Oj:∀{l:List REnt} {v:Int} {k:Nat},Gq k v l=true→Aw l big=true→Ap v k l=true
 | [],_,_,_,_=>rfl
 | e::l,v,k,h,hm=>by unfold Gq at h;rw[au,decide_eq_true_iff] at h;have a:(decide (e.v≤big)&&Aw l big)=true:=hm;rw[au,decide_eq_true_iff] at a;show(okB v k e&&Ap e.v (k+1) l)=true;have:=Oj (l:=l) (v:=e.v) (k:=k+1) (by rw[show((k+1:Nat):Int)=(k:Int)+1 by omega];exact h.2) a.2;rw[this];unfold okB;rw[decide_eq_true ⟨h.1.1,h.1.2.2.1,a.1,h.1.2.2.2⟩];rfl
theorem Vh {l:List REnt}{v:Int}(h:Hp 0 l=true)(a:Aw l v=true)(b:v≤big):Bo l=true:=by unfold Hp at h;rw[au] at h;unfold Bo;rw[Oj (k:=0) h.1 (Fi a (fun e c=>c) b),h.2];rfl
theorem Zg1 {m:RM}(h:okM m=true)(b:m.kind=2):Bo m.l=true∧Aw m.l m.normal=true:=by obtain⟨c,-⟩:=Az h;unfold okM at h;rw[au] at h;have a:=h.2;rw[b,db (by decide),dc rfl,au,au] at a;exact⟨Vh a.1.2 a.2 (by omega),a.2⟩
theorem Zen {m:RM}(h:okM m=true)(b:m.kind=3):Bo m.l=true∧Aw m.l (m.view - 1)=true:=by obtain⟨c,-⟩:=Az h;unfold okM at h;rw[au] at h;have a:=h.2;rw[b,db (by decide),db (by decide),dc rfl,au,au] at a;exact⟨Vh a.1.2 a.2 (by omega),a.2⟩
theorem Zhc {m:RM}(h:okM m=true)(b:m.kind=4):Gq m.num 1 m.l=true∧Aw m.l m.view=true:=by unfold okM at h;rw[au] at h;have a:=h.2;rw[b,db (by decide),db (by decide),db (by decide),dc rfl,au,au] at a;unfold Hp at a;rw[au] at a;exact⟨a.1.2.1,a.2⟩
theorem NI.fol {k:Nat}{n:PN}(sl:SL k n)(arm:n.st.d.armed=0)(nv:NV n)(dead:n.dead=false)(self:n.self < n.many)(m7:n.many≤7)(com:0≤n.cmt∧n.cmt≤n.log.length)(a:n.lds=false)(b:n.std=false)(jl:∀i,(n.jns i).l.length≤150):NI k n :=
 ⟨sl,arm,nv,dead,self,m7,com,fun h=>de h (by rw[a];decide),fun h=>de h (by rw[b];decide),fun h=>de h (by rw[a];decide),jl⟩
theorem Sim.fol {n:PN}{r:RN}(self:r.self=n.self)(many:r.many=n.many)(pmd:r.pmd=n.pmd)(normal:r.normal=n.normal)(log:r.log=n.log)(cmt:r.cmt=n.cmt)(out:r.out=n.out)(phase:r.phase=0)(a:n.lds=false):Sim n r :=
 ⟨self,many,pmd,normal,log,cmt,out,by rw[phase,a];rfl,fun h=>de h (by rw[a];decide),fun h=>de h (by rw[a];decide)⟩
theorem NI.unst {k:Nat}{n:PN}(h:NI k n)(a:n.lds=false):n.std=false:=by
 cases hs:n.std with
 | false=>rfl
 | true=>have:=(h.st hs).1;rw[a] at this;cases this
theorem Y6:∀(A B:List RJn) (j:RJn),(∀x∈A,x.frm < j.frm)→(∀x∈B,j.frm < x.frm)→Lf (A++B) j=A++j::B
 | [],[],j,_,_=>rfl
 | [],x::B,j,_,h=>by show(if x.frm > j.frm then j::x::B else x::Lf B j)=_;rw[dc (h x (by simp))];rfl
 | x::A,B,j,h,h2=>by show(if x.frm > j.frm then j::x::(A++B) else x::Lf (A++B) j)=_;rw[db (by have:=h x (by simp);omega),Y6 A B j (fun y hy=>h y (by simp[hy])) h2];rfl
theorem X6 {α β:Type}(p:α→Bool)(f:α→β):∀l:List α,(l.filter p).map f=l.flatMap fun x=>if p x=true then [f x] else []
 | []=>rfl
 | x::l=>by
  rw[List.flatMap_cons,←X6 p f l];by_cases h:p x=true
  ·rw[List.filter_cons_of_pos h,dc h];rfl
  ·rw[List.filter_cons_of_neg h,db h];rfl
theorem Z4p (j:Nat→RJ)(m:Nat):jrL j m=(List.range m).flatMap fun i:Nat=>if(j i).is=true then [⟨(i:Int),(j i).normal,A3 (j i).l,(j i).l⟩] else []:=X6 (fun i=>(j i).is) _ _
theorem Kq {α β:Type}{f g:α→List β}:∀{l:List α},(∀x∈l,f x=g x)→l.flatMap f=l.flatMap g
 | [],_=>rfl
 | x::l,h=>by rw[List.flatMap_cons,List.flatMap_cons,h x (by simp),Kq fun y hy=>h y (by simp[hy])]
theorem Z9v {j:Nat→RJ}{m i:Nat}(hi:i < m)(g:(j i).is=false)(q:Int)(l:List REnt):Lf (jrL j m) ⟨i,q,A3 l,l⟩=jrL (fun y=>if y=i then⟨true,q,l⟩ else j y) m:=by
 obtain⟨d,rfl⟩:∃d,m=i+(1+d):=⟨m - i - 1,by omega⟩;rw[Z4p,Z4p,List.range_add,List.flatMap_append,List.flatMap_append,List.range_add,ao,List.flatMap_append,List.flatMap_append];have f:(List.range i).flatMap (fun y:Nat=>if(if y=i then(⟨true,q,l⟩:RJ) else j y).is=true then [(⟨(y:Int),(if y=i then(⟨true,q,l⟩:RJ) else j y).normal,A3 (if y=i then(⟨true,q,l⟩:RJ) else j y).l,(if y=i then(⟨true,q,l⟩:RJ) else j y).l⟩:RJn)] else [])=(List.range i).flatMap fun y:Nat=>if(j y).is=true then [(⟨(y:Int),(j y).normal,A3 (j y).l,(j y).l⟩:RJn)] else []:=Kq fun y hy=>by have:=List.mem_range.1 hy;rw[db (by omega:¬y=i)]
 have e:(((List.range d).map fun x=>1+x).map fun x=>i+x).flatMap (fun y:Nat=>if(if y=i then(⟨true,q,l⟩:RJ) else j y).is=true then [(⟨(y:Int),(if y=i then(⟨true,q,l⟩:RJ) else j y).normal,A3 (if y=i then(⟨true,q,l⟩:RJ) else j y).l,(if y=i then(⟨true,q,l⟩:RJ) else j y).l⟩:RJn)] else [])=(((List.range d).map fun x=>1+x).map fun x=>i+x).flatMap fun y:Nat=>if(j y).is=true then [(⟨(y:Int),(j y).normal,A3 (j y).l,(j y).l⟩:RJn)] else []:=Kq fun y hy=>by obtain⟨x,b,rfl⟩:=ba.1 hy;obtain⟨z,-,rfl⟩:=ba.1 b;rw[db (by omega:¬i+(1+z)=i)]
 rw[f,e];have h:((List.range 1).map fun x=>i+x)=[i]:=rfl;rw[h];have c:[i].flatMap (fun y:Nat=>if(j y).is=true then [(⟨(y:Int),(j y).normal,A3 (j y).l,(j y).l⟩:RJn)] else [])=[]:=by show(if(j i).is=true then _ else _)++[]=_;rw[g];rfl
 have k:[i].flatMap (fun y:Nat=>if(if y=i then(⟨true,q,l⟩:RJ) else j y).is=true then [(⟨(y:Int),(if y=i then(⟨true,q,l⟩:RJ) else j y).normal,A3 (if y=i then(⟨true,q,l⟩:RJ) else j y).l,(if y=i then(⟨true,q,l⟩:RJ) else j y).l⟩:RJn)] else [])=[(⟨i,q,A3 l,l⟩:RJn)]:=by show(if(if i=i then(⟨true,q,l⟩:RJ) else j i).is=true then _ else _)++[]=_;rw[dc rfl];rfl
 rw[c,k,cy];refine Y6 _ _ _ (fun x b=>?_) fun x b=>?_
 ·obtain⟨y,hy,b⟩:=List.mem_flatMap.1 b;have:=List.mem_range.1 hy;split at b
  ·obtain rfl:=bo.1 b;show(y:Int) < (i:Int);omega
  ·cases b
 ·obtain⟨y,hy,b⟩:=List.mem_flatMap.1 b;obtain⟨a,ha,rfl⟩:=ba.1 hy;obtain⟨z,-,rfl⟩:=ba.1 ha;split at b
  ·obtain rfl:=bo.1 b;show(i:Int) < ((i+(1+z):Nat):Int);omega
  ·cases b
def NJr (r:RN):Prop:=r.phase=1→(r.jns.length:Int) < Ag r.many
theorem Sim.st {n:PN}{r:RN}(h:Sim n r):(r.phase=0↔n.lds=false)∧(n.lds=true→n.std=false→r.phase=1)∧(n.lds=true→n.std=true→r.phase=2):=by
 have:=h.phase;cases hl:n.lds with
 | false=>rw[hl] at this;exact⟨⟨fun _=>rfl,fun _=>this⟩,fun h=>(by cases h),fun h=>(by cases h)⟩
 | true =>
  cases hs:n.std with
  | false=>rw[hl,hs] at this;exact⟨⟨fun h=>(by rw[this] at h;cases h),fun h=>(by cases h)⟩,fun _ _=>this,fun _ h=>(by cases h)⟩
  | true=>rw[hl,hs] at this;exact⟨⟨fun h=>(by rw[this] at h;cases h),fun h=>(by cases h)⟩,fun _ h=>(by cases h),fun _ _=>this⟩
theorem Z8u {k:Nat}{n:PN}{r:RN}(h:Sim n r)(hi:NI k n)(u:k+1≤900000000)(x:NJr r)(d:n.lds=true)(e:n.std=false){f:Nat}(hf:f < n.many){m:RM}(t:okM m=true)(hk2:m.kind=2)(z:n.pmd=m.view) :
  Sim (B2 (if(n.jns f).is=true then n else {n with jns:=fun i=>if i=f then⟨true,m.normal,m.l⟩ else n.jns i})) (Bn r f m)∧NI (k+1) (B2 (if(n.jns f).is=true then n else {n with jns:=fun i=>if i=f then⟨true,m.normal,m.l⟩ else n.jns i})):=by
 have g:=h.st.2.1 d e;have q:=h.jns d e;have c:=Tx hf r q;unfold Bn;cases hjf:(n.jns f).is with
 | true =>
  rw[dc rfl,dc (.inr (.inr (by rw[c,hjf])))];have v:B2 n=n:=by unfold B2;rw[dc];have:=x g;rw[q,Wm,h.many] at this;exact this
  rw[v];exact⟨h,hi.up (by omega) u⟩
 | false =>
  rw[db (by decide),db (by rintro(a | a | a);exact a g;rw[h.pmd] at a;exact a z;rw[c,hjf] at a;cases a)];obtain⟨j,-,o,-⟩:=Az t;obtain⟨y,w⟩:=Zg1 t hk2;refine R0 (n:={n with jns:=fun i=>if i=f then⟨true,m.normal,m.l⟩ else n.jns i}) (r:=Em r ⟨f,m.normal,A3 m.l,m.l⟩) ?_ ?_ u d e
  ·refine⟨h.self,h.many,h.pmd,h.normal,h.log,h.cmt,h.out,h.phase,fun _ _=>?_,h.aks⟩;show Lf r.jns ⟨f,m.normal,A3 m.l,m.l⟩=jrL (fun i=>if i=f then⟨true,m.normal,m.l⟩ else n.jns i) n.many;rw[q];exact Z9v hf hjf _ _
  ·refine⟨⟨hi.sl.ws,hi.sl.rl,hi.sl.kk,hi.sl.ld⟩,hi.arm,⟨hi.nv.p,hi.nv.log,hi.nv.top⟩,hi.dead,hi.self,hi.m7,hi.com,hi.ld,hi.st,fun _ _=>⟨(hi.jn d e).1,fun i b=>?_⟩,fun i=>?_⟩
   ·dsimp only at b⊢;split
    ·exact⟨⟨j.2.2.1,by show m.normal < n.pmd;omega⟩,y,w⟩
    ·next s=>rw[db s] at b;exact(hi.jn d e).2 i b
   ·dsimp only;split
    ·exact o
    ·exact hi.jl i
theorem Z2j (r:RN)(f i:Nat):Eh {r with hrd:=r.hrd++[(f:Int)]} i=if i=f then true else Eh r i:=by
 unfold Eh;show(r.hrd++[(f:Int)]).any _=_;rw[List.any_append];show(_||(decide ((f:Int)=(i:Int))||false))=_;by_cases h:i=f
 ·subst h;rw[dc rfl,decide_eq_true rfl];simp
 ·rw[db h,decide_eq_false (by omega)];simp
theorem Zbo {k:Nat}{n:PN}{r:RN}(h:Sim n r)(hi:NI k n)(q:n.lds=true)(e:n.std=true){f:Nat}(hf:f < n.many){m:RM}(H:okM m=true)(I:n.pmd=m.view)(K:m.num≤n.log.length) :
  Sim ((fun a:PN=>if m.num < a.log.length then Ao a f ⟨4,a.pmd,0,m.num,a.log.drop m.num.toNat⟩ else a)
   (Cj {n with aks:=fun i=>if i=f then max (n.aks f) m.num else n.aks i,hrd:=fun i=>if i=f then true else n.hrd i})) (C5 r f m)∧NI k ((fun a:PN=>if m.num < a.log.length then Ao a f ⟨4,a.pmd,0,m.num,a.log.drop m.num.toNat⟩ else a)
   (Cj {n with aks:=fun i=>if i=f then max (n.aks f) m.num else n.aks i,hrd:=fun i=>if i=f then true else n.hrd i})):=by
 have t:=h.st.2.2 q e;obtain⟨A,x,z,E,B⟩:=hi.st e;obtain⟨a1,a2,C⟩:=h.aks q e;obtain⟨F,-,-,-⟩:=Az H;have J:=hi.nv.p;have G:=hi.ld q;unfold C5;rw[db (by rintro(b | b | b);exact b t;rw[h.pmd] at b;exact b I;rw[h.log] at b;omega)];have D:Sim {n with aks:=fun i=>if i=f then max (n.aks f) m.num else n.aks i,hrd:=fun i=>if i=f then true else n.hrd i} (Bp {r with hrd:=r.hrd++[(f:Int)]} f m.num):=by
  refine⟨h.self,h.many,h.pmd,h.normal,h.log,h.cmt,h.out,h.phase,h.jns,fun _ _=>⟨?_,a2,fun i s=>?_⟩⟩
  ·show r.aks.set (f:Int).toNat (max (r.aks[(f:Int).toNat]?.getD 0) m.num)=_;rw[az,a1,Ti hf];exact(Wu n f (max (n.aks f) m.num) n.log n.st _).symm
  ·refine(Z2j r f i).trans ?_;show _=if i=f then true else n.hrd i;rw[C i s]
 have hN:NI k {n with aks:=fun i=>if i=f then max (n.aks f) m.num else n.aks i,hrd:=fun i=>if i=f then true else n.hrd i}:=by refine⟨⟨hi.sl.ws,hi.sl.rl,hi.sl.kk,hi.sl.ld⟩,hi.arm,⟨hi.nv.p,hi.nv.log,hi.nv.top⟩,hi.dead,hi.self,hi.m7,hi.com,hi.ld,fun _=>⟨A,x,fun i=>?_,E,B⟩,hi.jn,hi.jl⟩;show 0≤(if i=f then max (n.aks f) m.num else n.aks i)∧(if i=f then max (n.aks f) m.num else n.aks i)≤(n.log.length:Int);have:=z i;have:=z f;split<;>omega
 obtain⟨j,y,o,d⟩:=Py D hN e;have o:(Cj {n with aks:=fun i=>if i=f then max (n.aks f) m.num else n.aks i,hrd:=fun i=>if i=f then true else n.hrd i}).log=n.log:=o;have d:(Cj {n with aks:=fun i=>if i=f then max (n.aks f) m.num else n.aks i,hrd:=fun i=>if i=f then true else n.hrd i}).pmd=n.pmd:=d
 change Sim _ (if m.num < (Ck (Bp {r with hrd:=r.hrd++[(f:Int)]} f m.num)).log.length then Av (Ck (Bp {r with hrd:=r.hrd++[(f:Int)]} f m.num)) f ⟨4,(Ck (Bp {r with hrd:=r.hrd++[(f:Int)]} f m.num)).pmd,0,m.num,(Ck (Bp {r with hrd:=r.hrd++[(f:Int)]} f m.num)).log.drop m.num.toNat⟩ else Ck (Bp {r with hrd:=r.hrd++[(f:Int)]} f m.num))∧_
 have w:=j.log;have u:=j.pmd;rw[o] at w;rw[d] at u;generalize Cj {n with aks:=fun i=>if i=f then max (n.aks f) m.num else n.aks i,hrd:=fun i=>if i=f then true else n.hrd i}=a at *;generalize Ck (Bp {r with hrd:=r.hrd++[(f:Int)]} f m.num)=r2' at *;dsimp only;rw[w,u,o,d];by_cases g:m.num < n.log.length
 ·rw[dc g,dc g];have c:=Z42 (v:=n.pmd) (k:=m.num.toNat) (l:=n.log) (by omega) (by omega) hi.nv.log (by rw[←x];exact hi.nv.top);rw[show((m.num.toNat:Nat):Int)=m.num by omega] at c;exact⟨j.send c,y.same (A9 _ _ _)⟩
 ·rw[db g,db g];exact⟨j,y⟩
theorem Z8o {l:List REnt}(h:l.length≠0)(a b:Int):vw a l=vw b l:=by
 unfold vw;cases hg:l.getLast? with
 | none=>rw[List.getLast?_eq_none_iff] at hg;rw[hg] at h;exact de rfl h
 | some e=>rfl
theorem Hx:∀(l:List REnt) {n:PN} {r:RN} {k:Nat} {num v:Int},Sim n r→NI k n→n.lds=false→Gq num v l=true→0≤num→1≤v→Aw l n.normal=true→k+l.length≤900000000 →
  (Ac l (vw 1 n.log) n).2=true∧Sim (Ac l (vw 1 n.log) n).1 (Cm l r)∧NI (k+l.length) (Ac l (vw 1 n.log) n).1∧(Ac l (vw 1 n.log) n).1.lds=false∧(Ac l (vw 1 n.log) n).1.pmd=n.pmd
 | [],n,r,k,num,v,h,hi,hl,_,_,_,_,_=>⟨rfl,h,hi,hl,rfl⟩
 | e::l,n,r,k,num,v,h,hi,hl,hr,h0,hv,hm,hk=>by
  unfold Gq at hr;rw[au,decide_eq_true_iff] at hr;obtain⟨⟨D,B,C,z⟩,u⟩:=hr;have a:(decide (e.v≤n.normal)&&Aw l n.normal)=true:=hm;rw[au,decide_eq_true_iff] at a;have y:=Dy n.log;rw[bd] at hk⊢;unfold Ac Cm;rw[h.log];by_cases g:e.n > n.log.length+1
  ·rw[dc g,dc g];exact⟨rfl,h,hi.up (by omega) (by omega),hl,rfl⟩
  ·rw[db g,db g];by_cases b:e.n≤n.log.length∨e.v < vw 1 n.log
   ·rw[dc b,db (fun⟨d1,i⟩=>by
     rcases b with b | b
     ·omega
     ·by_cases c:n.log.length=0
      ·rw[am c] at b;have:e.v < 1:=b;omega
      ·rw[Z8o c 1 0] at b;rcases i with i | i
       ·exact c i
       ·omega)]
    obtain⟨f,o,d,m,j⟩:=Hx l (r:=r) h hi hl u (by omega) (by omega) a.2 (by omega);exact⟨f,o,d.up (by omega) (by omega),m,j⟩
   ·rw[db b];obtain⟨p1,s,st,p2,p3,p4,w,x⟩:=Lr hi (e:=e) (by omega) (by omega) (by omega) a.1 z (by omega);rw[dc p1,p2,dc ⟨by omega,by
     by_cases c:n.log.length=0
     ·exact .inl c
     ·refine .inr ?_;rw[←Z8o c 1 0];omega⟩]
    have t:=hi.com;have q:(n.log++[e]).length=n.log.length+1:=by rw[ax];rfl
    have A:Sim {n with log:=n.log++[e],st:=st} (J9 r e):=Sim.fol h.self h.many h.pmd h.normal (by show r.log++[e]=n.log++[e];rw[h.log]) h.cmt h.out (h.st.1.2 hl) hl;have hN:NI (k+1) {n with log:=n.log++[e],st:=st}:=NI.fol ⟨p3,p4,by omega,x⟩ w ⟨s.p,s.log,s.top⟩ hi.dead hi.self hi.m7 (by show 0≤n.cmt∧n.cmt≤((n.log++[e]).length:Int);rw[q];omega) hl (hi.unst hl) hi.jl;obtain⟨f,o,d,m,j⟩:=Hx l A hN hl u (by omega) (by omega) a.2 (by omega);have ev:vw 1 (PN.log {n with log:=n.log++[e],st:=st})=e.v:=Qk _ _ _;rw[ev] at f o d m j;exact⟨f,o,d.up (by omega) (by omega),m,j⟩
theorem Zbq {k:Nat}{n:PN}{r:RN}(h:Sim n r)(hi:NI k n)(z:k+150≤900000000){f:Nat}(V:f≠n.self){m:RM}(N:okM m=true)(F:A8 m.view n.many=f)(G:m.kind=1∨m.kind=3∨m.kind=4∨m.kind=6) :
  Sim (A4 n f m) (if m.kind=1 then Bh r f m else if m.kind=3 then Ax r f m else if m.kind=4 then Ca r f m
   else if r.pmd=m.view∧r.normal=m.view∧r.phase=0 then {r with cmt:=max r.cmt (min m.num (A3 r.log))} else r)∧NI (k+150) (A4 n f m):=by
 have up:NI (k+150) n:=hi.up (by omega) z;obtain⟨u,-,Z,hb4⟩:=Az N;have Y:=hi.nv.p;have x:=hi.com;have R:=hi.nv.ents.1;have U:=Dy n.log;have d:=h.st.1;have K:=hi.dead;have A:m.view=n.pmd→n.lds=false:=fun e=>by
  cases hl:n.lds with
  | false=>rfl
  | true=>have:=(hi.ld hl).1;rw[←e,F] at this;omega
 unfold A4;rcases G with hk1 | hk3 | hk4 | hk6
 ·rw[dc hk1,dc hk1];unfold Bh Fw;by_cases g:m.view > n.pmd
  ·have t:m.view > r.pmd:=by rw[h.pmd];exact g
   obtain⟨H,st,E,J,M,C,B⟩:=Ss hi g u.2.1;rw[dc g,dc H,E,dc t,dc ⟨rfl,by show m.view > r.normal;rw[h.normal];omega,rfl⟩];have D:Sim {n with pmd:=m.view,lds:=false,std:=false,st:=st} {r with pmd:=m.view,phase:=0}:=Sim.fol h.self h.many rfl h.normal h.log h.cmt h.out rfl rfl;have hN:NI (k+150) {n with pmd:=m.view,lds:=false,std:=false,st:=st}:=NI.fol ⟨J.up (by omega),M,z,B⟩ C ⟨⟨Y.1,by show n.normal≤m.view;omega,u.2.1⟩,hi.nv.log,hi.nv.top⟩ hi.dead hi.self hi.m7 x rfl rfl hi.jl;have s:=Xr (v:=m.view) (q:=n.normal) (l:=n.log) (by omega) (by omega) hi.nv.log hi.nv.top;have:=D.send (i:=f) s;refine⟨?_,hN.same (A9 _ _ _)⟩;have e:(⟨2,m.view,r.normal,0,r.log⟩:RM)=⟨2,m.view,n.normal,0,n.log⟩:=by rw[h.normal,h.log]
   show Sim _ (Av {r with pmd:=m.view,phase:=0} f ⟨2,m.view,r.normal,0,r.log⟩);rw[e];exact this
  ·have t:¬m.view > r.pmd:=by rw[h.pmd];exact g
   rw[db g,db t];by_cases c:m.view=n.pmd∧m.view > n.normal∧n.lds=false
   ·rw[dc c,dc ⟨by rw[h.pmd];exact c.1,by rw[h.normal];exact c.2.1,d.2 c.2.2⟩];have s:=Xr (v:=m.view) (q:=n.normal) (l:=n.log) (by omega) (by omega) hi.nv.log hi.nv.top;rw[h.normal,h.log];exact⟨h.send s,up.same (A9 _ _ _)⟩
   ·rw[db c,db (by rw[h.pmd,h.normal,d];exact c)];exact⟨h,up⟩
 ·have o:¬m.kind=1:=by omega
  rw[db o,db o,dc hk3,dc hk3];unfold Ax Cg;rw[h.pmd,h.normal];by_cases g:m.view ≥ n.pmd∧m.view > n.normal
  ·obtain⟨L,I⟩:=Zen N hk3;have j:NV (B6 {n with lds:=false,std:=false} m.view m.l):=⟨⟨by show 0≤m.view;omega,br _,u.2.1⟩,L,Fi I (fun e W=>W) (by show m.view - 1≤m.view;omega)⟩;obtain⟨H,st,E,J,M,C,B⟩:=Mu (n:={n with lds:=false,std:=false}) hi.sl.ws hi.sl.rl hi.arm j;rw[dc g,dc H,E,dc g,dc ⟨rfl,rfl⟩];have T:=Dy m.l;have D:Sim {B6 {n with lds:=false,std:=false} m.view m.l with st:=st} {r with pmd:=m.view,normal:=m.view,log:=m.l,cmt:=min r.cmt (A3 m.l),phase:=0}:=Sim.fol h.self h.many rfl rfl rfl (by show min r.cmt (A3 m.l)=min n.cmt (A3 m.l);rw[h.cmt]) h.out rfl rfl;have hN:NI (k+150) {B6 {n with lds:=false,std:=false} m.view m.l with st:=st}:=NI.fol ⟨J.up (by omega),M,z,B⟩ C ⟨j.p,j.log,j.top⟩ hi.dead hi.self hi.m7 (by show 0≤min n.cmt (A3 m.l)∧min n.cmt (A3 m.l)≤(m.l.length:Int);omega) rfl rfl hi.jl;exact⟨D.send (Tw (by omega) (by omega)),hN.same (A9 _ _ _)⟩
  ·rw[db g,db g,h.pmd,h.normal,h.log];by_cases c:m.view=n.pmd∧m.view=n.normal
   ·rw[dc c,dc c];exact⟨h.send (Tw (by omega) (by omega)),up.same (A9 _ _ _)⟩
   ·rw[db c,db c];exact⟨h,up⟩
 ·have o:¬m.kind=1:=by omega
  have y:¬m.kind=3:=by omega
  rw[db o,db o,db y,db y,dc hk4,dc hk4];unfold Ca;by_cases c:n.pmd=m.view∧n.normal=m.view∧n.lds=false
  ·obtain⟨L,I⟩:=Zhc N hk4;obtain⟨X,Q,O,z4,z5⟩:=Hx m.l h hi c.2.2 L (by omega) (by omega) (by rw[c.2.1];exact I) (by omega);rw[dc c,db (by rw[h.pmd,h.normal];rintro(w | w | w);exact w c.1;exact w c.2.1;exact w (d.2 c.2.2))];dsimp only;rw[dc X,Q.log];generalize (Ac m.l (vw 1 n.log) n).1=n2 at *;have hl2:=O.nv.ents.1;have P:=Dy n2.log;exact⟨Q.send (Tw (by omega) (by omega)),(O.up (by omega) z).same (A9 _ _ _)⟩
  ·rw[db c,dc (by
    rw[h.pmd,h.normal];by_cases a:n.pmd=m.view
    ·by_cases b:n.normal=m.view
     ·exact .inr (.inr fun e=>c ⟨a,b,d.1 e⟩)
     ·exact .inr (.inl b)
    ·exact .inl a)]
   exact⟨h,up⟩
 ·have o:¬m.kind=1:=by omega
  have y:¬m.kind=3:=by omega
  have S:¬m.kind=4:=by omega
  rw[db o,db o,db y,db y,db S,db S,dc hk6];by_cases c:n.pmd=m.view∧n.normal=m.view∧n.lds=false
  ·rw[dc c,dc ⟨by rw[h.pmd];exact c.1,by rw[h.normal];exact c.2.1,d.2 c.2.2⟩];refine⟨Sim.fol h.self h.many h.pmd h.normal h.log (by show max r.cmt (min m.num (A3 r.log))=max n.cmt (min m.num (A3 n.log));rw[h.cmt,h.log]) h.out (d.2 c.2.2) c.2.2,?_⟩;exact NI.fol ⟨hi.sl.ws.up (by omega),hi.sl.rl,z,hi.sl.ld⟩ hi.arm ⟨hi.nv.p,hi.nv.log,hi.nv.top⟩ hi.dead hi.self hi.m7 (by show 0≤max n.cmt (min m.num (A3 n.log))∧max n.cmt (min m.num (A3 n.log))≤(n.log.length:Int);omega) c.2.2 (hi.unst c.2.2) hi.jl
  ·rw[db c,db (fun e=>c ⟨by rw[←h.pmd];exact e.1,by rw[←h.normal];exact e.2.1,d.1 e.2.2⟩)];exact⟨h,up⟩
theorem Xs {k:Nat}{n:PN}{r:RN}(h:Sim n r)(hi:NI k n)(u:k+150≤900000000)(D:NJr r)(p:RPk):Sim (Dd n p) (Dw r p)∧NI (k+150) (Dd n p):=by
 have up:NI (k+150) n:=hi.up (by omega) u;have t:=h.st.1;unfold Dd Dw;rw[hi.dead];have j:(¬Gw p.body.data.toList∨p.to≠r.self∨p.frm=r.self∨p.frm < 0∨p.frm ≥ r.many)↔(¬Gw p.body.data.toList∨p.to≠n.self∨p.frm=n.self∨p.frm < 0∨p.frm ≥ n.many):=by rw[h.self,h.many]
 by_cases o:¬Gw p.body.data.toList∨p.to≠n.self∨p.frm=n.self∨p.frm < 0∨p.frm ≥ n.many
 ·rw[dc (.inr o),dc (j.2 o)];exact⟨h,up⟩
 ·rw[db (by rintro(h | h);cases h;exact o h),db (fun e=>o (j.1 e))];clear j;have y:Gw p.body.data.toList:=bz fun e=>o (.inl e);have x:=(Zbs y).1;obtain⟨f,hf⟩:∃f:Nat,p.frm=f:=⟨p.frm.toNat,by omega⟩;rw[hf,az];have q:f < n.many:=by omega
  have z:f≠n.self:=by omega
  obtain⟨C,B,-,-⟩:=Az x;generalize mD p.body.data.toList=m at *;by_cases l:m.kind=2
  ·rw[dc (.inl l),dc l];unfold Aq;by_cases c:n.lds=false∨n.pmd≠m.view
   ·rw[dc c];unfold Bn;rw[dc (by
     rcases c with c | c
     ·exact .inl (by rw[t.2 c];decide)
     ·exact .inr (.inl (by rw[h.pmd];exact c)))]
    exact⟨h,up⟩
   ·rw[db c];have g:n.lds=true:=by
     cases hx:n.lds with
     | true=>rfl
     | false=>exact de (.inl hx) c
    have A:n.pmd=m.view:=bz fun e=>c (.inr e);cases hs:n.std with
    | false =>
     rw[dc ⟨l,rfl⟩];obtain⟨v,w⟩:=Z8u h hi (by omega) D g hs q x l A;rw[hs] at v w;exact⟨v,w.up (by omega) u⟩
    | true =>
     rw[db (by rintro⟨-,e⟩;cases e),db (by omega)];unfold Bn;rw[dc (.inl (by rw[h.st.2.2 g hs];decide))];exact⟨h,up⟩
  ·rw[db l];by_cases s:m.kind=5
   ·rw[dc (.inr s),dc s];unfold Aq;have no:(n.lds=false∨n.pmd≠m.view∨n.std=false∨¬m.num≤n.log.length)→C5 r f m=r:=fun i=>by
     unfold C5;rw[dc (by
      rcases i with i | i | i | i
      ·exact .inl (by rw[t.2 i];decide)
      ·exact .inr (.inl (by rw[h.pmd];exact i))
      ·refine .inl fun e=>?_;have:=h.phase;rw[e,i] at this;split at this
       ·exact de this (by decide)
       ·exact de this (by decide)
      ·exact .inr (.inr (by rw[h.log];omega)))]
    by_cases c:n.lds=false∨n.pmd≠m.view
    ·rw[dc c,no (by rcases c with c | c;exact .inl c;exact .inr (.inl c))];exact⟨h,up⟩
    ·rw[db c,db (fun e=>l e.1)];have g:n.lds=true:=by
      cases hx:n.lds with
      | true=>rfl
      | false=>exact de (.inl hx) c
     have A:n.pmd=m.view:=bz fun e=>c (.inr e);by_cases hc2:m.kind=5∧n.std=true∧m.num≤n.log.length
     ·rw[dc hc2];obtain⟨v,w⟩:=Zbo h hi g hc2.2.1 q x A hc2.2.2;exact⟨v,w.up (by omega) u⟩
     ·rw[db hc2,no (by
       by_cases a:n.std=true
       ·exact .inr (.inr (.inr fun b=>hc2 ⟨s,a,b⟩))
       ·exact .inr (.inr (.inl (by simpa using a))))]
      exact⟨h,up⟩
   ·rw[db (by rintro(e | e);exact l e;exact s e),db s];by_cases d:A8 m.view n.many=f
    ·rw[db (fun e=>e d),db (fun e=>e (by rw[h.many];exact d))];exact Zbq h hi u z x d (by omega)
    ·rw[dc d,dc (by rw[h.many];exact d)];exact⟨h,up⟩
def SameJ (n a:RN):Prop:=a.phase=n.phase∧a.jns=n.jns∧a.many=n.many
theorem SameJ.nj {n a:RN}(h:SameJ n a)(b:NJr n):NJr a:=fun e=>by rw[h.2.1,h.2.2];exact b (by rw[←h.1];exact e)
theorem SameJ.refl (n:RN):SameJ n n:=⟨rfl,rfl,rfl⟩
theorem SameJ.trans {a b c:RN}(h:SameJ a b)(d:SameJ b c):SameJ a c:=⟨d.1.trans h.1,d.2.1.trans h.2.1,d.2.2.trans h.2.2⟩
theorem Ww {f:RN→Nat→RN}(hf:∀n i,SameJ n (f n i))(n:RN):∀k,SameJ n (Ma f n k)
 | 0=>SameJ.refl n
 | k+1=>by
  rw[Dh];split
  ·exact Ww hf n k
  ·exact(Ww hf n k).trans (hf _ _)
theorem Ga (n:RN)(t:Int)(m:RM):SameJ n (Av n t m):=⟨rfl,rfl,rfl⟩
theorem G5 (n:RN)(m:RM):SameJ n (Au n m):=Ww (fun n i=>Ga n i m) n _
theorem Ua (n:RN):SameJ n (Ck n):=by
 unfold Ck;split
 ·exact SameJ.trans (b:={n with cmt:=Bi n.aks}) ⟨rfl,rfl,rfl⟩ (G5 _ _)
 ·exact SameJ.refl n
theorem Zau {n:RN}(h:n.phase=2):NJr n:=fun e=>by rw[h] at e;cases e
theorem Km {n:RN}(h:n.phase=0):NJr n:=fun e=>by rw[h] at e;cases e
theorem Yf (n:RN):NJr (Cf n):=by
 unfold Cf;split
 ·next h=>exact fun _=>h
 ·exact Zau (by rw[(Ua _).1,(G5 _ _).1];rfl)
theorem Z27 {n:RN}(h:NJr n)(v:Int):NJr (Cx n v).1:=by
 unfold Cx;split
 ·exact h
 ·exact Yf _
theorem Y9 {n:RN}(h:NJr n)(s:ByteArray):NJr (Bd n s).1:=by
 unfold Bd;split
 ·exact h
 ·next a =>
  have b:n.phase=2:=bz fun e=>a (.inl e);exact Zau (by rw[(Ua _).1,(G5 _ _).1];exact b)
theorem Z87 {n:RN}(h:NJr n):NJr (Do n):=by
 refine(Ww (fun n i=>?_) n _).nj h;have a:∀n,SameJ n (Fs n i):=fun n=>by unfold Fs;split;exact Ga _ _ _;exact SameJ.refl n
 have b:∀n,SameJ n (Fe n i):=fun n=>by unfold Fe;split;exact Ga _ _ _;exact SameJ.refl n
 have c:∀n,SameJ n (F7 n i):=fun n=>by unfold F7;split;exact Ga _ _ _;exact SameJ.refl n
 have d:∀n,SameJ n (F4 n i):=fun n=>by unfold F4;split;exact Ga _ _ _;exact SameJ.refl n
 exact(((a n).trans (b _)).trans (c _)).trans (d _)
theorem Z13:∀(l:List REnt) (n:RN),SameJ n (Cm l n)
 | [],n=>SameJ.refl n
 | e::l,n=>by
  unfold Cm;split
  ·exact SameJ.refl n
  ·split
   ·exact SameJ.trans (b:=J9 n e) ⟨rfl,rfl,rfl⟩ (Z13 l _)
   ·exact Z13 l n
theorem Zfw (n:RN)(f:Int)(m:RM):SameJ n (C5 n f m):=by
 unfold C5;have h:SameJ n (H7 n f m):=SameJ.trans (b:=Bp {n with hrd:=n.hrd++[f]} f m.num) ⟨rfl,rfl,rfl⟩ (Ua _);split
 ·exact SameJ.refl n
 ·split
  ·exact h.trans (Ga _ _ _)
  ·exact h
theorem Z34 {n:RN}(h:NJr n)(p:RPk):NJr (Dw n p):=by
 unfold Dw;generalize mD p.body.data.toList=m;split
 ·exact h
 split
 ·unfold Bn;split
  ·exact h
  ·exact Yf _
 split
 ·exact(Zfw _ _ _).nj h
 split
 ·exact h
 split
 ·have a:NJr (Fw n m):=by
   unfold Fw;split
   ·exact Km rfl
   ·exact h
  unfold Bh;split
  ·exact(Ga _ _ _).nj a
  ·exact a
 split
 ·have a:NJr (Cg n m):=by
   unfold Cg;split
   ·exact Km rfl
   ·exact h
  unfold Ax;split
  ·exact(Ga _ _ _).nj a
  ·exact a
 split
 ·unfold Ca;split
  ·exact h
  ·exact((Z13 _ _).trans (Ga _ _ _)).nj h
 split
 ·exact SameJ.nj (n:=n) ⟨rfl,rfl,rfl⟩ h
 ·exact h
structure GM where
 s:Bool
 n:PN
 b:Nat
 e:Nat
 r:RN
structure MOk (k:Nat)(x:GM):Prop where
 sim:Sim x.n x.r
 ni:NI k x.n
 nj:NJr x.r
 sh:ShN x.s x.n
def stN:LD:=⟨0,0,0,[],[],false,Z5 1100⟩
theorem Zbr:Z5g (Z5 1100)=some stN:=W7 (m:=0) (h:=0) (all:=[]) rfl Z15 (by decide) (by nofun)
theorem W6:(Z5 1100).now.length=1100:=by show(List.replicate (Z1a 1100) sec0).length=1100;rw[List.length_replicate];rfl
theorem Zhz:WSt 0 stN:=⟨Z2w 1100,W6,by show(0:Int)≤_;decide,rfl,by show 0 < 2;decide,rfl,by show 0≤_;decide,af _,rfl,rfl⟩
theorem Zg4:RLd stN:=⟨Z15,rfl,rfl,by nofun⟩
theorem Mz {m:Nat}(a:1≤m)(h:m≤7):Ag m≠0:=by have:=Lj a h;omega
theorem Vn {i m:Nat}(hi:i < m)(a:m≤7):Nd (Z5 1100) i m=some (Da i m (0,0,[]) stN):=by
 unfold Nd;rw[db,Zbr]
 ·dsimp only;have e:B1 stN.all (0,0,[])=some (0,0,[]):=rfl;rw[e];dsimp only;rw[dc ⟨by decide,by decide,by decide⟩,az,az]
 ·rw[W6];rintro(h | h | h | h)
  ·exact Mz (by omega) a h
  ·omega
  ·omega
  ·exact de h (by decide)
theorem Z2h {i m:Nat}(hi:i < m)(a:m≤7)(b e:Nat):MOk 0 ⟨true,Da i m (0,0,[]) stN,b,e,J1 i m⟩:=by refine⟨Sim.fol rfl rfl rfl rfl rfl rfl rfl rfl rfl,NI.fol ⟨Zhz,Zg4,by decide,rfl⟩ rfl ⟨⟨br _,br _,by show(0:Int)≤big;decide⟩,rfl,rfl⟩ rfl hi a ⟨br _,br _⟩ rfl rfl fun _=>ah _,Km rfl,⟨fun h=>(by cases h),fun _ _ h=>(by cases h)⟩⟩
def OkP (p:RPk):Prop:=p.body.size≤1000000
def OB (c:Nat)(n:RN):Prop:=n.out.length≤c∧∀p∈n.out,OkP p
theorem Zcz (l:List REnt):(L9 l).length=3 * l.length:=by
 induction l with
 | nil=>rfl
 | cons e l ih =>
  show(enF e++L9 l).length=_;rw[ax,ih,bd];show 3+_=_;omega
theorem Zhj (m:RM):(bM m).length≤1000000:=by
 unfold bM;split
 ·next h =>
  obtain⟨a,b,c,d⟩:=Az h;have e:(mF m).length≤455:=by unfold mF;rw[ax,Zcz];show 5+_≤_;omega
  have:=Li (l:=mF m) (Dz (Qo h));omega
 ·exact ah _
theorem OB.up {c d:Nat}{n:RN}(h:OB c n)(hd:c≤d):OB d n:=⟨ca h.1 hd,h.2⟩
theorem Gd {c:Nat}{n:RN}(h:OB c n)(t:Int)(m:RM):OB (c+1) (Av n t m):=by
 refine⟨?_,fun p a=>?_⟩
 ·show(n.out++[_]).length≤_;rw[ax];have:=h.1;show _+1≤_;omega
 ·rcases bu.1 a with a | a
  ·exact h.2 p a
  ·obtain rfl:=bo.1 a;exact Zhj m
theorem Z0t {f:RN→Nat→RN}{a:Nat}(hf:∀n i c,OB c n→OB (c+a) (f n i)){n:RN}{c:Nat}(h:OB c n):∀k,OB (c+a * k) (Ma f n k)
 | 0=>h
 | k+1=>by
  rw[Dh];have b:=Z0t hf h k;split
  ·exact b.up (by rw[Nat.mul_succ];omega)
  ·exact(hf _ k _ b).up (by rw[Nat.mul_succ];omega)
theorem Ja {c k:Nat}{n:RN}(h:OB c n)(b:n.many=(k:Int))(m:RM):OB (c+k) (Au n m):=by have:=Z0t (f:=fun n i=>Av n i m) (a:=1) (fun n i c h=>Gd h i m) h n.many.toNat;unfold Au;refine this.up ?_;rw[b,az];omega
theorem Ug {c k:Nat}{n:RN}(h:OB c n)(a:n.many=(k:Int)):OB (c+k) (Ck n):=by
 unfold Ck;split
 ·exact Ja (n:={n with cmt:=Bi n.aks}) h a _
 ·exact h.up (by omega)
theorem Yb {c k:Nat}{n:RN}(h:OB c n)(a:n.many=(k:Int)):OB (c+k+k) (Cf n):=by
 unfold Cf;split
 ·exact h.up (by omega)
 ·have b:=Ja (n:=E5 n (Gl n)) h a ⟨3,n.pmd,0,0,Gl n⟩;exact Ug b (by rw[(G5 _ _).2.2];exact a)
theorem Z28 {c k:Nat}{n:RN}(h:OB c n)(a:n.many=(k:Int))(v:Int):OB (c+k+k+k) (Cx n v).1:=by
 unfold Cx;split
 ·exact h.up (by omega)
 ·have b:=Ja (n:={n with pmd:=v,phase:=1,jns:=[⟨n.self,n.normal,A3 n.log,n.log⟩]}) h a ⟨1,v,0,0,[]⟩;exact Yb b (by rw[(G5 _ _).2.2];exact a)
theorem We {c k:Nat}{n:RN}(h:OB c n)(a:n.many=(k:Int))(s:ByteArray):OB (c+k+k) (Bd n s).1:=by
 unfold Bd;split
 ·exact h.up (by omega)
 ·have b:=Ja (n:=Bp (J9 n (Ej n s)) n.self (Ej n s).n) h a ⟨4,n.pmd,0,(Ej n s).n - 1,[Ej n s]⟩;exact Ug b (by rw[(G5 _ _).2.2];exact a)
theorem Z95 {c k:Nat}{n:RN}(h:OB c n)(g:n.many=(k:Int)):OB (c+4 * k) (Do n):=by
 have:=Z0t (f:=fun n i=>F4 (F7 (Fe (Fs n i) i) i) i) (a:=4) (fun n i c h=>?_) h n.many.toNat
 ·unfold Do;refine this.up ?_;rw[g,az];omega
 ·have a:∀n c,OB c n→OB (c+1) (Fs n i):=fun n c h=>by unfold Fs;split;exact Gd h _ _;exact h.up (by omega)
  have b:∀n c,OB c n→OB (c+1) (Fe n i):=fun n c h=>by unfold Fe;split;exact Gd h _ _;exact h.up (by omega)
  have d:∀n c,OB c n→OB (c+1) (F7 n i):=fun n c h=>by unfold F7;split;exact Gd h _ _;exact h.up (by omega)
  have e:∀n c,OB c n→OB (c+1) (F4 n i):=fun n c h=>by unfold F4;split;exact Gd h _ _;exact h.up (by omega)
  exact e _ _ (d _ _ (b _ _ (a _ _ h)))
theorem Tg:∀(l:List REnt) (n:RN),(Cm l n).out=n.out
 | [],n=>rfl
 | e::l,n=>by
  unfold Cm;split
  ·rfl
  ·split
   ·exact Tg l _
   ·exact Tg l n
theorem Z3h {c k:Nat}{n:RN}(h:OB c n)(e:n.many=(k:Int))(p:RPk):OB (c+k+k+1) (Dw n p):=by
 have b:=h.up (d:=c+k+k+1) (by omega);unfold Dw;generalize mD p.body.data.toList=m;split
 ·exact b
 split
 ·unfold Bn;split
  ·exact b
  ·exact(Yb (n:=Em n _) h e).up (by omega)
 split
 ·unfold C5;have a:OB (c+k) (H7 n p.frm m):=Ug (n:=Bp {n with hrd:=n.hrd++[p.frm]} p.frm m.num) h e;split
  ·exact b
  ·split
   ·exact(Gd a _ _).up (by omega)
   ·exact a.up (by omega)
 split
 ·exact b
 split
 ·have a:OB c (Fw n m):=by
   unfold Fw;split
   ·exact h
   ·exact h
  unfold Bh;split
  ·exact(Gd a _ _).up (by omega)
  ·exact a.up (by omega)
 split
 ·have a:OB c (Cg n m):=by
   unfold Cg;split
   ·exact h
   ·exact h
  unfold Ax;split
  ·exact(Gd a _ _).up (by omega)
  ·exact a.up (by omega)
 split
 ·unfold Ca;split
  ·exact b
  ·have a:OB c (Cm m.l n):=by
    unfold OB;rw[Tg];exact h
   exact(Gd a _ _).up (by omega)
 split
 ·exact b
 ·exact b
end Go.Proofs.YtihfaocdpmmooaaGreat

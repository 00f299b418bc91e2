
import Derived.Test.YtihfaocdpmmooaaGreatSMM
import Derived.Test.YtihfaocdpmmooaaGreatZNl
namespace Go.Proofs.YtihfaocdpmmooaaGreat
theorem NI.up {k j:Nat}{n:PN}(h:NI k n)(hj:k≤j)(hb:j≤900000000):NI j n:=⟨⟨h.sl.ws.up hj,h.sl.rl,hb,h.sl.ld⟩,h.arm,h.nv,h.dead,h.self,h.m7,h.com,h.ld,h.st,h.jn,h.jl⟩
theorem Zn {l:List REnt}{v u:Int}(h:B7 l v=true)(hu:u≤v):vw u l≤v:=by
 unfold vw
 cases hg:l.getLast? with
 | none=>exact hu
 | some e =>
  unfold B7 at h
  rw[List.all_eq_true] at h
  exact of_decide_eq_true (h e (List.mem_of_getLast? hg))
theorem Vl {l:List REnt}{e:REnt}(h:B2 l=true)(hn:e.n=A3 l+1)(h1:vw 1 l≤e.v)(h2:e.v≤big)(hs:e.b.size≤200)(hl:l.length < 150):B2 (l++[e])=true:=by
 have hle:=Dr l
 unfold B2 at h⊢
 rw[Bool.and_eq_true,decide_eq_true_iff] at h
 rw[Pt,h.1,List.length_append]
 have e2:Af (vw 1 l) (0+l.length) [e]=true:=by
  show(okB (vw 1 l) (0+l.length) e&&true)=true
  unfold okB
  rw[decide_eq_true ⟨by omega,h1,h2,hs⟩]
  rfl
 rw[e2,decide_eq_true (by show l.length+1≤150;omega)]
 rfl
theorem Yc {l:List REnt}{e:REnt}{v:Int}(h:B7 l v=true)(he:e.v≤v):B7 (l++[e]) v=true:=by
 unfold B7 at *
 rw[List.all_append,h]
 show(true&&(decide (e.v≤v)&&true))=true
 rw[decide_eq_true he];rfl
theorem O0 {k:Nat}{n:PN}(hi:NI k n){e:REnt}(hn:e.n=A3 n.log+1)(h1:vw 1 n.log≤e.v)(h10:1≤e.v)(h2:e.v≤n.normal)(hs:e.b.size≤200)(hl:n.log.length < 150) :
  W8 n e=true∧NV {n with log:=n.log++[e]}∧∃st,J2 n e={n with log:=n.log++[e],st:=st}∧WSt (k+1) st∧RLd st∧st.d.armed=0∧B5 st.all (0,0,[])=some (n.pmd,n.normal,n.log++[e]):=by
 have hp:=hi.nv.p
 have hle:=Dr n.log
 have hN:NV {n with log:=n.log++[e]}:=⟨hp,Vl hi.nv.log hn h1 (by omega) hs hl,Yc hi.nv.top h2⟩
 have hb:=Z04
 have hz:=(Fe (k:=3) (a:=e.v) (b:=e.n) (s:=e.b) (by omega) (by omega) (by omega) (by omega)).1
 obtain⟨q1,q2,q3,q4⟩:=Q5 (n:={n with log:=n.log++[e]}) (r:=Ce 3 e.v e.n e.b) hi.sl.ws hi.sl.rl hi.sl.kk hi.arm hN (by omega) (by
  show B5 (n.st.all++[Ce 3 e.v e.n e.b]) (0,0,[])=some (n.pmd,n.normal,n.log++[e])
  rw[Kr,hi.sl.ld]
  show Cn (n.pmd,n.normal,n.log) (Ce 3 e.v e.n e.b)=_
  rw[Z56 (by omega) (by omega) (by omega)])
 have q5:=(Kg (n:={n with log:=n.log++[e]}) hi.sl.ws (Ce 3 e.v e.n e.b) q1).1
 exact⟨q1,hN,_,M7 q1,q5,q2,q3,q4⟩
theorem T2 (n:PN)(i:Nat)(x:Int)(l:List REnt)(st:LD)(hd:Nat→Bool):Bk {n with log:=l,st:=st,hrd:=hd,aks:=fun j=>if j=i then x else n.aks j}=(Bk n).set i x:=by
 refine List.ext_getElem? fun j=>?_
 unfold Bk
 show((List.range n.many).map fun j=>if j=i then x else n.aks j)[j]?=_
 rw[List.getElem?_map,List.getElem?_set,List.length_map,List.length_range,List.getElem?_map]
 by_cases hj:j < n.many
 ·rw[List.getElem?_range hj]
  by_cases h:i=j
  ·rw[if_pos h,if_pos (by omega)]
   show some (if j=i then _ else _)=_
   rw[if_pos h.symm]
  ·rw[if_neg h]
   show some (if j=i then _ else _)=_
   rw[if_neg (fun e=>h e.symm)];rfl
 ·rw[List.getElem?_eq_none (by rw[List.length_range];omega)]
  by_cases h:i=j
  ·rw[if_pos h,if_neg (by omega)];rfl
  ·rw[if_neg h];rfl
theorem Ya {n:PN}{i:Nat}(h:i < n.many):(Bk n)[i]?.getD 0=n.aks i:=by
 unfold Bk
 rw[List.getElem?_map,List.getElem?_range h];rfl
theorem Xd {k:Nat}{n:PN}{r:RN}(h:Sim n r)(hi:NI k n)(hk:k+1≤900000000)(s:ByteArray):(D0 n s).2=(Cx r s).2∧Sim (D0 n s).1 (Cx r s).1∧NI (k+1) (D0 n s).1:=by
 have up:NI (k+1) n:=hi.up (by omega) hk
 obtain⟨rs,rm,rp,rn,rl,rc,rph,rj,ra,rf,rh,ro⟩:=r
 obtain rfl:rs=n.self:=h.self
 obtain rfl:rm=n.many:=h.many
 obtain rfl:rp=n.pmd:=h.pmd
 obtain rfl:rn=n.normal:=h.normal
 obtain rfl:rl=n.log:=h.log
 obtain rfl:rc=n.cmt:=h.cmt
 obtain rfl:ro=n.out:=h.out
 have hph:rph=if n.lds=true then(if n.std=true then 2 else 1) else 0:=h.phase
 unfold D0 Cx
 dsimp only
 by_cases hs:n.std=false
 ·rw[if_pos (.inr (.inl hs)),if_pos (.inl (by rw[hph,hs];split<;>decide))]
  exact⟨rfl,h,up⟩
 ·have hs:n.std=true:=by simpa using hs
  obtain⟨s1,s2,s3,s4,s5⟩:=hi.st hs
  rw[s1,hs,if_pos rfl,if_pos rfl] at hph
  subst hph
  by_cases hc:n.log.length ≥ 150∨s.size > 200
  ·rw[if_pos (.inr (.inr hc)),if_pos (.inr hc)]
   exact⟨rfl,h,up⟩
  ·rw[if_neg (by rw[hi.dead,hs];rintro(h | h | h);cases h;cases h;exact hc h)]
   obtain⟨a1,a2,a3⟩:=h.aks s1 hs
   obtain rfl:ra=Bk n:=a1
   obtain rfl:rf=n.first:=a2
   have hl:=hi.ld s1
   have hp:=hi.nv.p
   have hle:=Dr n.log
   obtain⟨q1,qv,st,q2,q3,q4,q5,q6⟩:=O0 hi (e:=⟨n.pmd,A3 n.log+1,s⟩) rfl (Zn (by rw[←s2];exact hi.nv.top) hl.2) hl.2 (by show n.pmd≤_;omega) (by show s.size≤200;omega) (by omega)
   rw[if_pos q1,q2,if_neg (by rintro(h | h);exact h rfl;exact hc h)]
   have hself:=hi.self
   have em:(⟨4,n.pmd,0,A3 n.log+1 - 1,[⟨n.pmd,A3 n.log+1,s⟩]⟩:RM)=⟨4,n.pmd,0,(n.log.length:Int),[⟨n.pmd,(n.log.length:Int)+1,s⟩]⟩:=by rw[hle,Int.add_sub_cancel]
   have hm:okM ⟨4,n.pmd,0,A3 n.log+1 - 1,[⟨n.pmd,A3 n.log+1,s⟩]⟩=true:=by rw[em];exact Z81 (by omega) (by omega) (by omega)
   have eA:=T2 n n.self (A3 n.log+1) (n.log++[⟨n.pmd,A3 n.log+1,s⟩]) st n.hrd
   have hlA:A3 (n.log++[⟨n.pmd,A3 n.log+1,s⟩])=A3 n.log+1:=by rw[Dr,List.length_append,hle];show((n.log.length+1:Nat):Int)=_;omega
   have hS:Sim {n with log:=n.log++[⟨n.pmd,A3 n.log+1,s⟩],st:=st,aks:=fun i=>if i=n.self then A3 n.log+1 else n.aks i} (Dg (Z18 ⟨n.self,n.many,n.pmd,n.normal,n.log,n.cmt,2,rj,Bk n,n.first,rh,n.out⟩ ⟨n.pmd,A3 n.log+1,s⟩) n.self (A3 n.log+1)):=by
    refine⟨rfl,rfl,rfl,rfl,rfl,rfl,rfl,?_,fun _ hh=>absurd hs (by have hh:n.std=false:=hh;rw[hh];decide),fun _ _=>⟨?_,rfl,a3⟩⟩
    ·show(2:Int)=if n.lds=true then(if n.std=true then 2 else 1) else 0
     rw[s1,hs];rfl
    ·refine Eq.trans ?_ eA.symm
     show(Bk n).set (n.self:Int).toNat (max ((Bk n)[(n.self:Int).toNat]?.getD 0) (A3 n.log+1))=_
     rw[Int.toNat_natCast,Ya hself]
     have:=(s3 n.self).2
     rw[show max (n.aks n.self) (A3 n.log+1)=A3 n.log+1 by omega]
   have hN:NI (k+1) {n with log:=n.log++[⟨n.pmd,A3 n.log+1,s⟩],st:=st,aks:=fun i=>if i=n.self then A3 n.log+1 else n.aks i}:=by
    have hcom:=hi.com
    have hll:(n.log++[(⟨n.pmd,A3 n.log+1,s⟩:REnt)]).length=n.log.length+1:=by rw[List.length_append];rfl
    refine⟨⟨q3,q4,hk,q6⟩,q5,⟨qv.p,qv.log,qv.top⟩,hi.dead,hi.self,hi.m7,?_,hi.ld,fun _=>⟨s1,s2,fun x=>?_,?_,?_⟩,fun _ hh=>absurd hs (by have hh:n.std=false:=hh;rw[hh];decide),hi.jl⟩
    ·show 0≤n.cmt∧n.cmt≤((n.log++[(⟨n.pmd,A3 n.log+1,s⟩:REnt)]).length:Int)
     rw[hll];omega
    ·show 0≤(if x=n.self then A3 n.log+1 else n.aks x)∧(if x=n.self then A3 n.log+1 else n.aks x)≤((n.log++[(⟨n.pmd,A3 n.log+1,s⟩:REnt)]).length:Int)
     rw[hll]
     have:=s3 x
     split<;>omega
    ·show 0≤n.first∧n.first≤((n.log++[(⟨n.pmd,A3 n.log+1,s⟩:REnt)]).length:Int)
     rw[hll];omega
    ·show B7 ((n.log++[(⟨n.pmd,A3 n.log+1,s⟩:REnt)]).take n.first.toNat) (n.pmd - 1)=true
     rw[List.take_append_of_le_length (by omega)];exact s5
   have h1:=hS.spread hm
   have hss:=A6 {n with log:=n.log++[⟨n.pmd,A3 n.log+1,s⟩],st:=st,aks:=fun i=>if i=n.self then A3 n.log+1 else n.aks i} ⟨4,n.pmd,0,A3 n.log+1 - 1,[⟨n.pmd,A3 n.log+1,s⟩]⟩
   have h2:=hN.same hss
   obtain⟨o,e⟩:=hss.to
   obtain⟨r1,r2,-⟩:=Mz h1 h2 (by rw[e];exact hs)
   exact⟨rfl,r1,r2⟩
theorem Z5v {j:Nat→RJ}{m i:Nat}(h:i < m)(n:RN)(hn:n.jns=jrL j m):Z69 n i=(j i).is:=by
 unfold Z69
 rw[hn]
 unfold jrL
 rw[List.any_map]
 cases hj:(j i).is with
 | true =>
  rw[List.any_eq_true]
  exact⟨i,List.mem_filter.2 ⟨List.mem_range.2 h,hj⟩,by simp⟩
 | false =>
  rw[List.any_eq_false]
  intro x hx
  obtain⟨h1,h2⟩:=List.mem_filter.1 hx
  intro h3
  have h3:(x:Int)=(i:Int):=by simpa using h3
  have:x=i:=by omega
  rw[this,hj] at h2
  cases h2
end Go.Proofs.YtihfaocdpmmooaaGreat
namespace Go.Proofs.YtihfaocdpmmooaaGreat
theorem Ll:∀{l:List REnt} {v:Int} {k:Nat},G1 k v l=true→B7 l big=true→Af v k l=true
 | [],_,_,_,_=>rfl
 | e::l,v,k,h,hm=>by
  unfold G1 at h
  rw[Bool.and_eq_true,decide_eq_true_iff] at h
  have hm0:(decide (e.v≤big)&&B7 l big)=true:=hm
  rw[Bool.and_eq_true,decide_eq_true_iff] at hm0
  show(okB v k e&&Af e.v (k+1) l)=true
  have:=Ll (l:=l) (v:=e.v) (k:=k+1) (by rw[show((k+1:Nat):Int)=(k:Int)+1 by omega];exact h.2) hm0.2
  rw[this]
  unfold okB
  rw[decide_eq_true ⟨h.1.1,h.1.2.2.1,hm0.1,h.1.2.2.2⟩];rfl
theorem Tv {l:List REnt}{v:Int}(h:Jn 0 l=true)(hm:B7 l v=true)(hv:v≤big):B2 l=true:=by
 unfold Jn at h
 rw[Bool.and_eq_true] at h
 unfold B2
 rw[Ll (k:=0) h.1 (Fr hm (fun e he=>he) hv),h.2];rfl
theorem Zc3 {m:RM}(h:okM m=true)(hk:m.kind=2):B2 m.l=true∧B7 m.l m.normal=true:=by
 obtain⟨hb,-⟩:=Ax h
 unfold okM at h
 rw[Bool.and_eq_true] at h
 have h2:=h.2
 rw[hk,if_neg (by decide),if_pos rfl,Bool.and_eq_true,Bool.and_eq_true] at h2
 exact⟨Tv h2.1.2 h2.2 (by omega),h2.2⟩
theorem Zcv {m:RM}(h:okM m=true)(hk:m.kind=3):B2 m.l=true∧B7 m.l (m.view - 1)=true:=by
 obtain⟨hb,-⟩:=Ax h
 unfold okM at h
 rw[Bool.and_eq_true] at h
 have h2:=h.2
 rw[hk,if_neg (by decide),if_neg (by decide),if_pos rfl,Bool.and_eq_true,Bool.and_eq_true] at h2
 exact⟨Tv h2.1.2 h2.2 (by omega),h2.2⟩
theorem Zca {m:RM}(h:okM m=true)(hk:m.kind=4):G1 m.num 1 m.l=true∧B7 m.l m.view=true:=by
 unfold okM at h
 rw[Bool.and_eq_true] at h
 have h2:=h.2
 rw[hk,if_neg (by decide),if_neg (by decide),if_neg (by decide),if_pos rfl,Bool.and_eq_true,Bool.and_eq_true] at h2
 unfold Jn at h2
 rw[Bool.and_eq_true] at h2
 exact⟨h2.1.2.1,h2.2⟩
theorem NI.fol {k:Nat}{n:PN}(sl:SL k n)(arm:n.st.d.armed=0)(nv:NV n)(dead:n.dead=false)(self:n.self < n.many)(m7:n.many≤7)(com:0≤n.cmt∧n.cmt≤n.log.length)(hl:n.lds=false)(hs:n.std=false)(jl:∀i,(n.jns i).l.length≤150):NI k n :=
 ⟨sl,arm,nv,dead,self,m7,com,fun h=>absurd h (by rw[hl];decide),fun h=>absurd h (by rw[hs];decide),fun h=>absurd h (by rw[hl];decide),jl⟩
theorem Sim.fol {n:PN}{r:RN}(self:r.self=n.self)(many:r.many=n.many)(pmd:r.pmd=n.pmd)(normal:r.normal=n.normal)(log:r.log=n.log)(cmt:r.cmt=n.cmt)(out:r.out=n.out)(phase:r.phase=0)(hl:n.lds=false):Sim n r :=
 ⟨self,many,pmd,normal,log,cmt,out,by rw[phase,hl];rfl,fun h=>absurd h (by rw[hl];decide),fun h=>absurd h (by rw[hl];decide)⟩
theorem NI.unst {k:Nat}{n:PN}(h:NI k n)(hl:n.lds=false):n.std=false:=by
 cases hs:n.std with
 | false=>rfl
 | true=>have:=(h.st hs).1;rw[hl] at this;cases this
theorem Sg:∀(A B:List RJn) (j:RJn),(∀x∈A,x.frm < j.frm)→(∀x∈B,j.frm < x.frm)→Z5g (A++B) j=A++j::B
 | [],[],j,_,_=>rfl
 | [],x::B,j,_,h=>by
  show(if x.frm > j.frm then j::x::B else x::Z5g B j)=_
  rw[if_pos (h x (by simp))];rfl
 | x::A,B,j,h,h2=>by
  show(if x.frm > j.frm then j::x::(A++B) else x::Z5g (A++B) j)=_
  rw[if_neg (by have:=h x (by simp);omega),Sg A B j (fun y hy=>h y (by simp[hy])) h2];rfl
theorem Sn {α β:Type}(p:α→Bool)(f:α→β):∀l:List α,(l.filter p).map f=l.flatMap fun x=>if p x=true then [f x] else []
 | []=>rfl
 | x::l=>by
  rw[List.flatMap_cons,←Sn p f l]
  by_cases h:p x=true
  ·rw[List.filter_cons_of_pos h,if_pos h];rfl
  ·rw[List.filter_cons_of_neg h,if_neg h];rfl
theorem Zw (j:Nat→RJ)(m:Nat):jrL j m=(List.range m).flatMap fun i:Nat=>if(j i).is=true then [⟨(i:Int),(j i).normal,A3 (j i).l,(j i).l⟩] else []:=Sn (fun i=>(j i).is) _ _
theorem Ib {α β:Type}{f g:α→List β}:∀{l:List α},(∀x∈l,f x=g x)→l.flatMap f=l.flatMap g
 | [],_=>rfl
 | x::l,h=>by rw[List.flatMap_cons,List.flatMap_cons,h x (by simp),Ib fun y hy=>h y (by simp[hy])]
theorem Z9t {j:Nat→RJ}{m i:Nat}(hi:i < m)(hj:(j i).is=false)(q:Int)(l:List REnt):Z5g (jrL j m) ⟨i,q,A3 l,l⟩=jrL (fun y=>if y=i then⟨true,q,l⟩ else j y) m:=by
 obtain⟨d,rfl⟩:∃d,m=i+(1+d):=⟨m - i - 1,by omega⟩
 rw[Zw,Zw,List.range_add,List.flatMap_append,List.flatMap_append,List.range_add,List.map_append,List.flatMap_append,List.flatMap_append]
 have e1:(List.range i).flatMap (fun y:Nat=>if(if y=i then(⟨true,q,l⟩:RJ) else j y).is=true then [(⟨(y:Int),(if y=i then(⟨true,q,l⟩:RJ) else j y).normal,A3 (if y=i then(⟨true,q,l⟩:RJ) else j y).l,(if y=i then(⟨true,q,l⟩:RJ) else j y).l⟩:RJn)] else [])=(List.range i).flatMap fun y:Nat=>if(j y).is=true then [(⟨(y:Int),(j y).normal,A3 (j y).l,(j y).l⟩:RJn)] else []:=Ib fun y hy=>by
  have:=List.mem_range.1 hy
  rw[if_neg (by omega:¬y=i)]
 have e2:(((List.range d).map fun x=>1+x).map fun x=>i+x).flatMap (fun y:Nat=>if(if y=i then(⟨true,q,l⟩:RJ) else j y).is=true then [(⟨(y:Int),(if y=i then(⟨true,q,l⟩:RJ) else j y).normal,A3 (if y=i then(⟨true,q,l⟩:RJ) else j y).l,(if y=i then(⟨true,q,l⟩:RJ) else j y).l⟩:RJn)] else [])=(((List.range d).map fun x=>1+x).map fun x=>i+x).flatMap fun y:Nat=>if(j y).is=true then [(⟨(y:Int),(j y).normal,A3 (j y).l,(j y).l⟩:RJn)] else []:=Ib fun y hy=>by
  obtain⟨x,hx,rfl⟩:=List.mem_map.1 hy
  obtain⟨z,-,rfl⟩:=List.mem_map.1 hx
  rw[if_neg (by omega:¬i+(1+z)=i)]
 rw[e1,e2]
 have e3:((List.range 1).map fun x=>i+x)=[i]:=rfl
 rw[e3]
 have e4:[i].flatMap (fun y:Nat=>if(j y).is=true then [(⟨(y:Int),(j y).normal,A3 (j y).l,(j y).l⟩:RJn)] else [])=[]:=by
  show(if(j i).is=true then _ else _)++[]=_
  rw[hj];rfl
 have e5:[i].flatMap (fun y:Nat=>if(if y=i then(⟨true,q,l⟩:RJ) else j y).is=true then [(⟨(y:Int),(if y=i then(⟨true,q,l⟩:RJ) else j y).normal,A3 (if y=i then(⟨true,q,l⟩:RJ) else j y).l,(if y=i then(⟨true,q,l⟩:RJ) else j y).l⟩:RJn)] else [])=[(⟨i,q,A3 l,l⟩:RJn)]:=by
  show(if(if i=i then(⟨true,q,l⟩:RJ) else j i).is=true then _ else _)++[]=_
  rw[if_pos rfl];rfl
 rw[e4,e5,List.nil_append]
 refine Sg _ _ _ (fun x hx=>?_) fun x hx=>?_
 ·obtain⟨y,hy,hx⟩:=List.mem_flatMap.1 hx
  have:=List.mem_range.1 hy
  split at hx
  ·obtain rfl:=List.mem_singleton.1 hx
   show(y:Int) < (i:Int);omega
  ·cases hx
 ·obtain⟨y,hy,hx⟩:=List.mem_flatMap.1 hx
  obtain⟨a,ha,rfl⟩:=List.mem_map.1 hy
  obtain⟨z,-,rfl⟩:=List.mem_map.1 ha
  split at hx
  ·obtain rfl:=List.mem_singleton.1 hx
   show(i:Int) < ((i+(1+z):Nat):Int);omega
  ·cases hx
def NJr (r:RN):Prop:=r.phase=1→(r.jns.length:Int) < Ad r.many
theorem Sim.st {n:PN}{r:RN}(h:Sim n r):(r.phase=0↔n.lds=false)∧(n.lds=true→n.std=false→r.phase=1)∧(n.lds=true→n.std=true→r.phase=2):=by
 have:=h.phase
 cases hl:n.lds with
 | false=>rw[hl] at this;exact⟨⟨fun _=>rfl,fun _=>this⟩,fun h=>(by cases h),fun h=>(by cases h)⟩
 | true =>
  cases hs:n.std with
  | false=>rw[hl,hs] at this;exact⟨⟨fun h=>(by rw[this] at h;cases h),fun h=>(by cases h)⟩,fun _ _=>this,fun _ h=>(by cases h)⟩
  | true=>rw[hl,hs] at this;exact⟨⟨fun h=>(by rw[this] at h;cases h),fun h=>(by cases h)⟩,fun _ h=>(by cases h),fun _ _=>this⟩
theorem Z3r {k:Nat}{n:PN}{r:RN}(h:Sim n r)(hi:NI k n)(hk:k+1≤900000000)(hq:NJr r)(hl:n.lds=true)(hs:n.std=false){f:Nat}(hf:f < n.many){m:RM}(hm:okM m=true)(hk2:m.kind=2)(hv:n.pmd=m.view) :
  Sim (Bt (if(n.jns f).is=true then n else {n with jns:=fun i=>if i=f then⟨true,m.normal,m.l⟩ else n.jns i})) (Db r f m)∧NI (k+1) (Bt (if(n.jns f).is=true then n else {n with jns:=fun i=>if i=f then⟨true,m.normal,m.l⟩ else n.jns i})):=by
 have hph:=h.st.2.1 hl hs
 have hj:=h.jns hl hs
 have hfr:=Z5v hf r hj
 unfold Db
 cases hjf:(n.jns f).is with
 | true =>
  rw[if_pos rfl,if_pos (.inr (.inr (by rw[hfr,hjf])))]
  have hb:Bt n=n:=by
   unfold Bt
   rw[if_pos]
   have:=hq hph
   rw[hj,Z5e,h.many] at this
   exact this
  rw[hb]
  exact⟨h,hi.up (by omega) hk⟩
 | false =>
  rw[if_neg (by decide),if_neg (by rintro(h1 | h1 | h1);exact h1 hph;rw[h.pmd] at h1;exact h1 hv;rw[hfr,hjf] at h1;cases h1)]
  obtain⟨hb1,-,hb3,-⟩:=Ax hm
  obtain⟨m1,m2⟩:=Zc3 hm hk2
  refine Oo (n:={n with jns:=fun i=>if i=f then⟨true,m.normal,m.l⟩ else n.jns i}) (r:=Md r ⟨f,m.normal,A3 m.l,m.l⟩) ?_ ?_ hk hl hs
  ·refine⟨h.self,h.many,h.pmd,h.normal,h.log,h.cmt,h.out,h.phase,fun _ _=>?_,h.aks⟩
   show Z5g r.jns ⟨f,m.normal,A3 m.l,m.l⟩=jrL (fun i=>if i=f then⟨true,m.normal,m.l⟩ else n.jns i) n.many
   rw[hj]
   exact Z9t hf hjf _ _
  ·refine⟨⟨hi.sl.ws,hi.sl.rl,hi.sl.kk,hi.sl.ld⟩,hi.arm,⟨hi.nv.p,hi.nv.log,hi.nv.top⟩,hi.dead,hi.self,hi.m7,hi.com,hi.ld,hi.st,fun _ _=>⟨(hi.jn hl hs).1,fun i hii=>?_⟩,fun i=>?_⟩
   ·dsimp only at hii⊢
    split
    ·exact⟨⟨hb1.2.2.1,by show m.normal < n.pmd;omega⟩,m1,m2⟩
    ·next hne=>rw[if_neg hne] at hii;exact(hi.jn hl hs).2 i hii
   ·dsimp only
    split
    ·exact hb3
    ·exact hi.jl i
theorem Yd (r:RN)(f i:Nat):Ud {r with hrd:=r.hrd++[(f:Int)]} i=if i=f then true else Ud r i:=by
 unfold Ud
 show(r.hrd++[(f:Int)]).any _=_
 rw[List.any_append]
 show(_||(decide ((f:Int)=(i:Int))||false))=_
 by_cases h:i=f
 ·subst h;rw[if_pos rfl,decide_eq_true rfl];simp
 ·rw[if_neg h,decide_eq_false (by omega)];simp
theorem Z5k {k:Nat}{n:PN}{r:RN}(h:Sim n r)(hi:NI k n)(hl:n.lds=true)(hs:n.std=true){f:Nat}(hf:f < n.many){m:RM}(hm:okM m=true)(hv:n.pmd=m.view)(hn:m.num≤n.log.length) :
  Sim ((fun n2:PN=>if m.num < n2.log.length then B3 n2 f ⟨4,n2.pmd,0,m.num,n2.log.drop m.num.toNat⟩ else n2)
   (D8 {n with aks:=fun i=>if i=f then max (n.aks f) m.num else n.aks i,hrd:=fun i=>if i=f then true else n.hrd i})) (Dk r f m)∧NI k ((fun n2:PN=>if m.num < n2.log.length then B3 n2 f ⟨4,n2.pmd,0,m.num,n2.log.drop m.num.toNat⟩ else n2)
   (D8 {n with aks:=fun i=>if i=f then max (n.aks f) m.num else n.aks i,hrd:=fun i=>if i=f then true else n.hrd i})):=by
 have hph:=h.st.2.2 hl hs
 obtain⟨s1,s2,s3,s4,s5⟩:=hi.st hs
 obtain⟨a1,a2,a3⟩:=h.aks hl hs
 obtain⟨hb1,-,-,-⟩:=Ax hm
 have hp:=hi.nv.p
 have hld:=hi.ld hl
 unfold Dk
 rw[if_neg (by rintro(h1 | h1 | h1);exact h1 hph;rw[h.pmd] at h1;exact h1 hv;rw[h.log] at h1;omega)]
 have hS:Sim {n with aks:=fun i=>if i=f then max (n.aks f) m.num else n.aks i,hrd:=fun i=>if i=f then true else n.hrd i} (Dg {r with hrd:=r.hrd++[(f:Int)]} f m.num):=by
  refine⟨h.self,h.many,h.pmd,h.normal,h.log,h.cmt,h.out,h.phase,h.jns,fun _ _=>⟨?_,a2,fun i hin=>?_⟩⟩
  ·show r.aks.set (f:Int).toNat (max (r.aks[(f:Int).toNat]?.getD 0) m.num)=_
   rw[Int.toNat_natCast,a1,Ya hf]
   exact(T2 n f (max (n.aks f) m.num) n.log n.st _).symm
  ·refine(Yd r f i).trans ?_
   show _=if i=f then true else n.hrd i
   rw[a3 i hin]
 have hN:NI k {n with aks:=fun i=>if i=f then max (n.aks f) m.num else n.aks i,hrd:=fun i=>if i=f then true else n.hrd i}:=by
  refine⟨⟨hi.sl.ws,hi.sl.rl,hi.sl.kk,hi.sl.ld⟩,hi.arm,⟨hi.nv.p,hi.nv.log,hi.nv.top⟩,hi.dead,hi.self,hi.m7,hi.com,hi.ld,fun _=>⟨s1,s2,fun i=>?_,s4,s5⟩,hi.jn,hi.jl⟩
  show 0≤(if i=f then max (n.aks f) m.num else n.aks i)∧(if i=f then max (n.aks f) m.num else n.aks i)≤(n.log.length:Int)
  have:=s3 i
  have:=s3 f
  split<;>omega
 obtain⟨r1,r2,r3,r4⟩:=Mz hS hN hs
 have r3:(D8 {n with aks:=fun i=>if i=f then max (n.aks f) m.num else n.aks i,hrd:=fun i=>if i=f then true else n.hrd i}).log=n.log:=r3
 have r4:(D8 {n with aks:=fun i=>if i=f then max (n.aks f) m.num else n.aks i,hrd:=fun i=>if i=f then true else n.hrd i}).pmd=n.pmd:=r4
 change Sim _ (if m.num < (E5 (Dg {r with hrd:=r.hrd++[(f:Int)]} f m.num)).log.length then H0 (E5 (Dg {r with hrd:=r.hrd++[(f:Int)]} f m.num)) f ⟨4,(E5 (Dg {r with hrd:=r.hrd++[(f:Int)]} f m.num)).pmd,0,m.num,(E5 (Dg {r with hrd:=r.hrd++[(f:Int)]} f m.num)).log.drop m.num.toNat⟩ else E5 (Dg {r with hrd:=r.hrd++[(f:Int)]} f m.num))∧_
 have e1:=r1.log
 have e2:=r1.pmd
 rw[r3] at e1
 rw[r4] at e2
 generalize D8 {n with aks:=fun i=>if i=f then max (n.aks f) m.num else n.aks i,hrd:=fun i=>if i=f then true else n.hrd i}=n2 at *
 generalize E5 (Dg {r with hrd:=r.hrd++[(f:Int)]} f m.num)=r2' at *
 dsimp only
 rw[e1,e2,r3,r4]
 by_cases hc:m.num < n.log.length
 ·rw[if_pos hc,if_pos hc]
  have hmp:=Z78 (v:=n.pmd) (k:=m.num.toNat) (l:=n.log) (by omega) (by omega) hi.nv.log (by rw[←s2];exact hi.nv.top)
  rw[show((m.num.toNat:Nat):Int)=m.num by omega] at hmp
  exact⟨r1.send hmp,r2.same (A5 _ _ _)⟩
 ·rw[if_neg hc,if_neg hc]
  exact⟨r1,r2⟩
theorem Z8r {l:List REnt}(h:l.length≠0)(a b:Int):vw a l=vw b l:=by
 unfold vw
 cases hg:l.getLast? with
 | none=>rw[List.getLast?_eq_none_iff] at hg;rw[hg] at h;exact absurd rfl h
 | some e=>rfl
theorem If:∀(l:List REnt) {n:PN} {r:RN} {k:Nat} {num v:Int},Sim n r→NI k n→n.lds=false→G1 num v l=true→0≤num→1≤v→B7 l n.normal=true→k+l.length≤900000000 →
  (Ak l (vw 1 n.log) n).2=true∧Sim (Ak l (vw 1 n.log) n).1 (Ha l r)∧NI (k+l.length) (Ak l (vw 1 n.log) n).1∧(Ak l (vw 1 n.log) n).1.lds=false∧(Ak l (vw 1 n.log) n).1.pmd=n.pmd
 | [],n,r,k,num,v,h,hi,hl,_,_,_,_,_=>⟨rfl,h,hi,hl,rfl⟩
 | e::l,n,r,k,num,v,h,hi,hl,hr,h0,hv,hm,hk=>by
  unfold G1 at hr
  rw[Bool.and_eq_true,decide_eq_true_iff] at hr
  obtain⟨⟨q1,q2,q3,q4⟩,q5⟩:=hr
  have hm0:(decide (e.v≤n.normal)&&B7 l n.normal)=true:=hm
  rw[Bool.and_eq_true,decide_eq_true_iff] at hm0
  have hle:=Dr n.log
  rw[List.length_cons] at hk⊢
  unfold Ak Ha
  rw[h.log]
  by_cases c1:e.n > n.log.length+1
  ·rw[if_pos c1,if_pos c1]
   exact⟨rfl,h,hi.up (by omega) (by omega),hl,rfl⟩
  ·rw[if_neg c1,if_neg c1]
   by_cases c2:e.n≤n.log.length∨e.v < vw 1 n.log
   ·rw[if_pos c2,if_neg (fun⟨d1,d2⟩=>by
     rcases c2 with c2 | c2
     ·omega
     ·by_cases hz:n.log.length=0
      ·rw[List.eq_nil_of_length_eq_zero hz] at c2
       have:e.v < 1:=c2
       omega
      ·rw[Z8r hz 1 0] at c2
       rcases d2 with d2 | d2
       ·exact hz d2
       ·omega)]
    obtain⟨z1,z2,z3,z4,z5⟩:=If l (r:=r) h hi hl q5 (by omega) (by omega) hm0.2 (by omega)
    exact⟨z1,z2,z3.up (by omega) (by omega),z4,z5⟩
   ·rw[if_neg c2]
    obtain⟨p1,pv,st,p2,p3,p4,p5,p6⟩:=O0 hi (e:=e) (by omega) (by omega) (by omega) hm0.1 q4 (by omega)
    rw[if_pos p1,p2,if_pos ⟨by omega,by
     by_cases hz:n.log.length=0
     ·exact .inl hz
     ·refine .inr ?_
      rw[←Z8r hz 1 0];omega⟩]
    have hcom:=hi.com
    have hll:(n.log++[e]).length=n.log.length+1:=by rw[List.length_append];rfl
    have hS:Sim {n with log:=n.log++[e],st:=st} (Z18 r e):=Sim.fol h.self h.many h.pmd h.normal (by show r.log++[e]=n.log++[e];rw[h.log]) h.cmt h.out (h.st.1.2 hl) hl
    have hN:NI (k+1) {n with log:=n.log++[e],st:=st}:=NI.fol ⟨p3,p4,by omega,p6⟩ p5 ⟨pv.p,pv.log,pv.top⟩ hi.dead hi.self hi.m7 (by show 0≤n.cmt∧n.cmt≤((n.log++[e]).length:Int);rw[hll];omega) hl (hi.unst hl) hi.jl
    obtain⟨z1,z2,z3,z4,z5⟩:=If l hS hN hl q5 (by omega) (by omega) hm0.2 (by omega)
    have ev:vw 1 (PN.log {n with log:=n.log++[e],st:=st})=e.v:=Yt _ _ _
    rw[ev] at z1 z2 z3 z4 z5
    exact⟨z1,z2,z3.up (by omega) (by omega),z4,z5⟩
end Go.Proofs.YtihfaocdpmmooaaGreat
namespace Go.Proofs.YtihfaocdpmmooaaGreat
theorem Z5n {k:Nat}{n:PN}{r:RN}(h:Sim n r)(hi:NI k n)(hk:k+150≤900000000){f:Nat}(hfs:f≠n.self){m:RM}(hm:okM m=true)(hp0:Am m.view n.many=f)(hkd:m.kind=1∨m.kind=3∨m.kind=4∨m.kind=6) :
  Sim (A4 n f m) (if m.kind=1 then Fx r f m else if m.kind=3 then Dm r f m else if m.kind=4 then Fp r f m
   else if r.pmd=m.view∧r.normal=m.view∧r.phase=0 then {r with cmt:=max r.cmt (min m.num (A3 r.log))} else r)∧NI (k+150) (A4 n f m):=by
 have up:NI (k+150) n:=hi.up (by omega) hk
 obtain⟨hb1,-,hb3,hb4⟩:=Ax hm
 have hp:=hi.nv.p
 have hcom:=hi.com
 have hlen:=hi.nv.ents.1
 have hle:=Dr n.log
 have hph:=h.st.1
 have hdead:=hi.dead
 have nlead:m.view=n.pmd→n.lds=false:=fun e=>by
  cases hl:n.lds with
  | false=>rfl
  | true=>have:=(hi.ld hl).1;rw[←e,hp0] at this;omega
 unfold A4
 rcases hkd with hk1 | hk3 | hk4 | hk6
 ·rw[if_pos hk1,if_pos hk1]
  unfold Fx Ic
  by_cases hv:m.view > n.pmd
  ·have hv':m.view > r.pmd:=by rw[h.pmd];exact hv
   obtain⟨q1,st,q2,q3,q4,q5,q6⟩:=Ow hi hv hb1.2.1
   rw[if_pos hv,if_pos q1,q2,if_pos hv',if_pos ⟨rfl,by show m.view > r.normal;rw[h.normal];omega,rfl⟩]
   have hS:Sim {n with pmd:=m.view,lds:=false,std:=false,st:=st} {r with pmd:=m.view,phase:=0}:=Sim.fol h.self h.many rfl h.normal h.log h.cmt h.out rfl rfl
   have hN:NI (k+150) {n with pmd:=m.view,lds:=false,std:=false,st:=st}:=NI.fol ⟨q3.up (by omega),q4,hk,q6⟩ q5 ⟨⟨hp.1,by show n.normal≤m.view;omega,hb1.2.1⟩,hi.nv.log,hi.nv.top⟩ hi.dead hi.self hi.m7 hcom rfl rfl hi.jl
   have hmj:=Ty (v:=m.view) (q:=n.normal) (l:=n.log) (by omega) (by omega) hi.nv.log hi.nv.top
   have:=hS.send (i:=f) hmj
   refine⟨?_,hN.same (A5 _ _ _)⟩
   have e:(⟨2,m.view,r.normal,0,r.log⟩:RM)=⟨2,m.view,n.normal,0,n.log⟩:=by rw[h.normal,h.log]
   show Sim _ (H0 {r with pmd:=m.view,phase:=0} f ⟨2,m.view,r.normal,0,r.log⟩)
   rw[e]
   exact this
  ·have hv':¬m.view > r.pmd:=by rw[h.pmd];exact hv
   rw[if_neg hv,if_neg hv']
   by_cases hc:m.view=n.pmd∧m.view > n.normal∧n.lds=false
   ·rw[if_pos hc,if_pos ⟨by rw[h.pmd];exact hc.1,by rw[h.normal];exact hc.2.1,hph.2 hc.2.2⟩]
    have hmj:=Ty (v:=m.view) (q:=n.normal) (l:=n.log) (by omega) (by omega) hi.nv.log hi.nv.top
    rw[h.normal,h.log]
    exact⟨h.send hmj,up.same (A5 _ _ _)⟩
   ·rw[if_neg hc,if_neg (by rw[h.pmd,h.normal,hph];exact hc)]
    exact⟨h,up⟩
 ·have n1:¬m.kind=1:=by omega
  rw[if_neg n1,if_neg n1,if_pos hk3,if_pos hk3]
  unfold Dm Dp
  rw[h.pmd,h.normal]
  by_cases hv:m.view ≥ n.pmd∧m.view > n.normal
  ·obtain⟨m1,m2⟩:=Zcv hm hk3
   have hN0:NV (Be {n with lds:=false,std:=false} m.view m.l):=⟨⟨by show 0≤m.view;omega,Int.le_refl _,hb1.2.1⟩,m1,Fr m2 (fun e he=>he) (by show m.view - 1≤m.view;omega)⟩
   obtain⟨q1,st,q2,q3,q4,q5,q6⟩:=Kn (n:={n with lds:=false,std:=false}) hi.sl.ws hi.sl.rl hi.arm hN0
   rw[if_pos hv,if_pos q1,q2,if_pos hv,if_pos ⟨rfl,rfl⟩]
   have hlm:=Dr m.l
   have hS:Sim {Be {n with lds:=false,std:=false} m.view m.l with st:=st} {r with pmd:=m.view,normal:=m.view,log:=m.l,cmt:=min r.cmt (A3 m.l),phase:=0}:=Sim.fol h.self h.many rfl rfl rfl (by show min r.cmt (A3 m.l)=min n.cmt (A3 m.l);rw[h.cmt]) h.out rfl rfl
   have hN:NI (k+150) {Be {n with lds:=false,std:=false} m.view m.l with st:=st}:=NI.fol ⟨q3.up (by omega),q4,hk,q6⟩ q5 ⟨hN0.p,hN0.log,hN0.top⟩ hi.dead hi.self hi.m7 (by show 0≤min n.cmt (A3 m.l)∧min n.cmt (A3 m.l)≤(m.l.length:Int);omega) rfl rfl hi.jl
   exact⟨hS.send (Qr (by omega) (by omega)),hN.same (A5 _ _ _)⟩
  ·rw[if_neg hv,if_neg hv,h.pmd,h.normal,h.log]
   by_cases hc:m.view=n.pmd∧m.view=n.normal
   ·rw[if_pos hc,if_pos hc]
    exact⟨h.send (Qr (by omega) (by omega)),up.same (A5 _ _ _)⟩
   ·rw[if_neg hc,if_neg hc]
    exact⟨h,up⟩
 ·have n1:¬m.kind=1:=by omega
  have n3:¬m.kind=3:=by omega
  rw[if_neg n1,if_neg n1,if_neg n3,if_neg n3,if_pos hk4,if_pos hk4]
  unfold Fp
  by_cases hc:n.pmd=m.view∧n.normal=m.view∧n.lds=false
  ·obtain⟨m1,m2⟩:=Zca hm hk4
   obtain⟨z1,z2,z3,z4,z5⟩:=If m.l h hi hc.2.2 m1 (by omega) (by omega) (by rw[hc.2.1];exact m2) (by omega)
   rw[if_pos hc,if_neg (by rw[h.pmd,h.normal];rintro(h1 | h1 | h1);exact h1 hc.1;exact h1 hc.2.1;exact h1 (hph.2 hc.2.2))]
   dsimp only
   rw[if_pos z1,z2.log]
   generalize (Ak m.l (vw 1 n.log) n).1=n2 at *
   have hl2:=z3.nv.ents.1
   have hle2:=Dr n2.log
   exact⟨z2.send (Qr (by omega) (by omega)),(z3.up (by omega) hk).same (A5 _ _ _)⟩
  ·rw[if_neg hc,if_pos (by
    rw[h.pmd,h.normal]
    by_cases a:n.pmd=m.view
    ·by_cases b:n.normal=m.view
     ·exact .inr (.inr fun e=>hc ⟨a,b,hph.1 e⟩)
     ·exact .inr (.inl b)
    ·exact .inl a)]
   exact⟨h,up⟩
 ·have n1:¬m.kind=1:=by omega
  have n3:¬m.kind=3:=by omega
  have n4:¬m.kind=4:=by omega
  rw[if_neg n1,if_neg n1,if_neg n3,if_neg n3,if_neg n4,if_neg n4,if_pos hk6]
  by_cases hc:n.pmd=m.view∧n.normal=m.view∧n.lds=false
  ·rw[if_pos hc,if_pos ⟨by rw[h.pmd];exact hc.1,by rw[h.normal];exact hc.2.1,hph.2 hc.2.2⟩]
   refine⟨Sim.fol h.self h.many h.pmd h.normal h.log (by show max r.cmt (min m.num (A3 r.log))=max n.cmt (min m.num (A3 n.log));rw[h.cmt,h.log]) h.out (hph.2 hc.2.2) hc.2.2,?_⟩
   exact NI.fol ⟨hi.sl.ws.up (by omega),hi.sl.rl,hk,hi.sl.ld⟩ hi.arm ⟨hi.nv.p,hi.nv.log,hi.nv.top⟩ hi.dead hi.self hi.m7 (by show 0≤max n.cmt (min m.num (A3 n.log))∧max n.cmt (min m.num (A3 n.log))≤(n.log.length:Int);omega) hc.2.2 (hi.unst hc.2.2) hi.jl
  ·rw[if_neg hc,if_neg (fun e=>hc ⟨by rw[←h.pmd];exact e.1,by rw[←h.normal];exact e.2.1,hph.1 e.2.2⟩)]
   exact⟨h,up⟩
theorem Z38 {k:Nat}{n:PN}{r:RN}(h:Sim n r)(hi:NI k n)(hk:k+150≤900000000)(hq:NJr r)(p:RPk):Sim (Dt n p) (Em r p)∧NI (k+150) (Dt n p):=by
 have up:NI (k+150) n:=hi.up (by omega) hk
 have hph:=h.st.1
 unfold Dt Em
 rw[hi.dead]
 have hcr:(¬Kx p.body.data.toList∨p.to≠r.self∨p.frm=r.self∨p.frm < 0∨p.frm ≥ r.many)↔(¬Kx p.body.data.toList∨p.to≠n.self∨p.frm=n.self∨p.frm < 0∨p.frm ≥ n.many):=by rw[h.self,h.many]
 by_cases hc:¬Kx p.body.data.toList∨p.to≠n.self∨p.frm=n.self∨p.frm < 0∨p.frm ≥ n.many
 ·rw[if_pos (.inr hc),if_pos (hcr.2 hc)]
  exact⟨h,up⟩
 ·rw[if_neg (by rintro(h | h);cases h;exact hc h),if_neg (fun e=>hc (hcr.1 e))]
  clear hcr
  have hok:Kx p.body.data.toList:=Classical.byContradiction fun e=>hc (.inl e)
  have hm:=(Z9v hok).1
  obtain⟨f,hf⟩:∃f:Nat,p.frm=f:=⟨p.frm.toNat,by omega⟩
  rw[hf,Int.toNat_natCast]
  have hfm:f < n.many:=by omega
  have hfs:f≠n.self:=by omega
  obtain⟨hb1,hb2,-,-⟩:=Ax hm
  generalize mD p.body.data.toList=m at *
  by_cases h2:m.kind=2
  ·rw[if_pos (.inl h2),if_pos h2]
   unfold Aw
   by_cases hl:n.lds=false∨n.pmd≠m.view
   ·rw[if_pos hl]
    unfold Db
    rw[if_pos (by
     rcases hl with hl | hl
     ·exact .inl (by rw[hph.2 hl];decide)
     ·exact .inr (.inl (by rw[h.pmd];exact hl)))]
    exact⟨h,up⟩
   ·rw[if_neg hl]
    have hld:n.lds=true:=by
     cases hx:n.lds with
     | true=>rfl
     | false=>exact absurd (.inl hx) hl
    have hv:n.pmd=m.view:=Classical.byContradiction fun e=>hl (.inr e)
    cases hs:n.std with
    | false =>
     rw[if_pos ⟨h2,rfl⟩]
     obtain⟨r1,r2⟩:=Z3r h hi (by omega) hq hld hs hfm hm h2 hv
     rw[hs] at r1 r2
     exact⟨r1,r2.up (by omega) hk⟩
    | true =>
     rw[if_neg (by rintro⟨-,e⟩;cases e),if_neg (by omega)]
     unfold Db
     rw[if_pos (.inl (by rw[h.st.2.2 hld hs];decide))]
     exact⟨h,up⟩
  ·rw[if_neg h2]
   by_cases h5:m.kind=5
   ·rw[if_pos (.inr h5),if_pos h5]
    unfold Aw
    have no:(n.lds=false∨n.pmd≠m.view∨n.std=false∨¬m.num≤n.log.length)→Dk r f m=r:=fun hh=>by
     unfold Dk
     rw[if_pos (by
      rcases hh with hh | hh | hh | hh
      ·exact .inl (by rw[hph.2 hh];decide)
      ·exact .inr (.inl (by rw[h.pmd];exact hh))
      ·refine .inl fun e=>?_
       have:=h.phase
       rw[e,hh] at this
       split at this
       ·exact absurd this (by decide)
       ·exact absurd this (by decide)
      ·exact .inr (.inr (by rw[h.log];omega)))]
    by_cases hl:n.lds=false∨n.pmd≠m.view
    ·rw[if_pos hl,no (by rcases hl with hl | hl;exact .inl hl;exact .inr (.inl hl))]
     exact⟨h,up⟩
    ·rw[if_neg hl,if_neg (fun e=>h2 e.1)]
     have hld:n.lds=true:=by
      cases hx:n.lds with
      | true=>rfl
      | false=>exact absurd (.inl hx) hl
     have hv:n.pmd=m.view:=Classical.byContradiction fun e=>hl (.inr e)
     by_cases hc2:m.kind=5∧n.std=true∧m.num≤n.log.length
     ·rw[if_pos hc2]
      obtain⟨r1,r2⟩:=Z5k h hi hld hc2.2.1 hfm hm hv hc2.2.2
      exact⟨r1,r2.up (by omega) hk⟩
     ·rw[if_neg hc2,no (by
       by_cases a:n.std=true
       ·exact .inr (.inr (.inr fun b=>hc2 ⟨h5,a,b⟩))
       ·exact .inr (.inr (.inl (by simpa using a))))]
      exact⟨h,up⟩
   ·rw[if_neg (by rintro(e | e);exact h2 e;exact h5 e),if_neg h5]
    by_cases hpr:Am m.view n.many=f
    ·rw[if_neg (fun e=>e hpr),if_neg (fun e=>e (by rw[h.many];exact hpr))]
     exact Z5n h hi hk hfs hm hpr (by omega)
    ·rw[if_pos hpr,if_pos (by rw[h.many];exact hpr)]
     exact⟨h,up⟩
def SameJ (n n':RN):Prop:=n'.phase=n.phase∧n'.jns=n.jns∧n'.many=n.many
theorem SameJ.nj {n n':RN}(h:SameJ n n')(hq:NJr n):NJr n':=fun e=>by rw[h.2.1,h.2.2];exact hq (by rw[←h.1];exact e)
theorem SameJ.refl (n:RN):SameJ n n:=⟨rfl,rfl,rfl⟩
theorem SameJ.trans {a b c:RN}(h:SameJ a b)(h2:SameJ b c):SameJ a c:=⟨h2.1.trans h.1,h2.2.1.trans h.2.1,h2.2.2.trans h.2.2⟩
theorem Z01 {f:RN→Nat→RN}(hf:∀n i,SameJ n (f n i))(n:RN):∀k,SameJ n (U4 f n k)
 | 0=>SameJ.refl n
 | k+1=>by
  rw[F8]
  split
  ·exact Z01 hf n k
  ·exact(Z01 hf n k).trans (hf _ _)
theorem K5 (n:RN)(t:Int)(m:RM):SameJ n (H0 n t m):=⟨rfl,rfl,rfl⟩
theorem Eb (n:RN)(m:RM):SameJ n (C6 n m):=Z01 (fun n i=>K5 n i m) n _
theorem S1 (n:RN):SameJ n (E5 n):=by
 unfold E5
 split
 ·exact SameJ.trans (b:={n with cmt:=Br n.aks}) ⟨rfl,rfl,rfl⟩ (Eb _ _)
 ·exact SameJ.refl n
theorem Z41 {n:RN}(h:n.phase=2):NJr n:=fun e=>by rw[h] at e;cases e
theorem Mh {n:RN}(h:n.phase=0):NJr n:=fun e=>by rw[h] at e;cases e
theorem Uc (n:RN):NJr (F3 n):=by
 unfold F3
 split
 ·next h=>exact fun _=>h
 ·exact Z41 (by rw[(S1 _).1,(Eb _ _).1];rfl)
theorem Z82 {n:RN}(h:NJr n)(v:Int):NJr (L4 n v).1:=by
 unfold L4
 split
 ·exact h
 ·exact Uc _
theorem Z2v {n:RN}(h:NJr n)(s:ByteArray):NJr (Cx n s).1:=by
 unfold Cx
 split
 ·exact h
 ·next hc =>
  have h2:n.phase=2:=Classical.byContradiction fun e=>hc (.inl e)
  exact Z41 (by rw[(S1 _).1,(Eb _ _).1];exact h2)
theorem X1:∀(l:List REnt) (n:RN),SameJ n (Ha l n)
 | [],n=>SameJ.refl n
 | e::l,n=>by
  unfold Ha
  split
  ·exact SameJ.refl n
  ·split
   ·exact SameJ.trans (b:=Z18 n e) ⟨rfl,rfl,rfl⟩ (X1 l _)
   ·exact X1 l n
theorem Zag (n:RN)(f:Int)(m:RM):SameJ n (Dk n f m):=by
 unfold Dk
 have h:SameJ n (My n f m):=SameJ.trans (b:=Dg {n with hrd:=n.hrd++[f]} f m.num) ⟨rfl,rfl,rfl⟩ (S1 _)
 split
 ·exact SameJ.refl n
 ·split
  ·exact h.trans (K5 _ _ _)
  ·exact h
theorem Z7y {n:RN}(h:NJr n)(p:RPk):NJr (Em n p):=by
 unfold Em
 generalize mD p.body.data.toList=m
 split
 ·exact h
 split
 ·unfold Db
  split
  ·exact h
  ·exact Uc _
 split
 ·exact(Zag _ _ _).nj h
 split
 ·exact h
 split
 ·have h0:NJr (Ic n m):=by
   unfold Ic
   split
   ·exact Mh rfl
   ·exact h
  unfold Fx
  split
  ·exact(K5 _ _ _).nj h0
  ·exact h0
 split
 ·have h0:NJr (Dp n m):=by
   unfold Dp
   split
   ·exact Mh rfl
   ·exact h
  unfold Dm
  split
  ·exact(K5 _ _ _).nj h0
  ·exact h0
 split
 ·unfold Fp
  split
  ·exact h
  ·exact((X1 _ _).trans (K5 _ _ _)).nj h
 split
 ·exact SameJ.nj (n:=n) ⟨rfl,rfl,rfl⟩ h
 ·exact h
end Go.Proofs.YtihfaocdpmmooaaGreat
namespace Go.Proofs.YtihfaocdpmmooaaGreat
structure GM where
 s:Bool
 n:PN
 b:Nat
 e:Nat
 r:RN
structure MOk (k:Nat)(x:GM):Prop where
 sim:Sim x.n x.r
 ni:NI k x.n
 nj:NJr x.r
 sh:ShN x.s x.n
def stN:LD:=⟨0,0,0,[],[],false,Ij 1100⟩
theorem Z5t:Z0l (Ij 1100)=some stN:=Z3w (m:=0) (h:=0) (all:=[]) rfl Xw (by decide) (by nofun)
theorem Uh:(Ij 1100).now.length=1100:=by
 show(List.replicate (Qv 1100) sec0).length=1100
 rw[List.length_replicate];rfl
theorem Z9b:WSt 0 stN:=⟨Hx 1100,Uh,by show(0:Int)≤_;decide,rfl,by show 0 < 2;decide,rfl,by show 0≤_;decide,Nat.le_refl _,rfl,rfl⟩
theorem Zaz:RLd stN:=⟨Xw,rfl,rfl,by nofun⟩
theorem Yp {m:Nat}(h0:1≤m)(h:m≤7):Ad m≠0:=by have:=S7 h0 h;omega
theorem Nb {i m:Nat}(hi:i < m)(hm:m≤7):Kh (Ij 1100) i m=some (Hg i m (0,0,[]) stN):=by
 unfold Kh
 rw[if_neg,Z5t]
 ·dsimp only
  have e:B5 stN.all (0,0,[])=some (0,0,[]):=rfl
  rw[e]
  dsimp only
  rw[if_pos ⟨by decide,by decide,by decide⟩,Int.toNat_natCast,Int.toNat_natCast]
 ·rw[Uh]
  rintro(h | h | h | h)
  ·exact Yp (by omega) hm h
  ·omega
  ·omega
  ·exact absurd h (by decide)
theorem Z6h {i m:Nat}(hi:i < m)(hm:m≤7)(b e:Nat):MOk 0 ⟨true,Hg i m (0,0,[]) stN,b,e,Gt i m⟩:=by
 refine⟨Sim.fol rfl rfl rfl rfl rfl rfl rfl rfl rfl,NI.fol ⟨Z9b,Zaz,by decide,rfl⟩ rfl ⟨⟨Int.le_refl _,Int.le_refl _,by show(0:Int)≤big;decide⟩,rfl,rfl⟩ rfl hi hm ⟨Int.le_refl _,Int.le_refl _⟩ rfl rfl fun _=>Nat.zero_le _,Mh rfl,⟨fun h=>(by cases h),fun _ _ h=>(by cases h)⟩⟩
end Go.Proofs.YtihfaocdpmmooaaGreat
namespace Go.Proofs.YtihfaocdpmmooaaGreat
def OkP (p:RPk):Prop:=p.body.size≤1000000
def OB (c:Nat)(n:RN):Prop:=n.out.length≤c∧∀p∈n.out,OkP p
theorem Z6r (l:List REnt):(Qx l).length=3 * l.length:=by
 induction l with
 | nil=>rfl
 | cons e l ih =>
  show(enF e++Qx l).length=_
  rw[List.length_append,ih,List.length_cons]
  show 3+_=_;omega
theorem Zad (m:RM):(bM m).length≤1000000:=by
 unfold bM
 split
 ·next h =>
  obtain⟨a,b,c,d⟩:=Ax h
  have hl:(mF m).length≤455:=by
   unfold mF
   rw[List.length_append,Z6r]
   show 5+_≤_
   omega
  have:=N2 (l:=mF m) (E0 (Ym h))
  omega
 ·exact Nat.zero_le _
theorem OB.up {c d:Nat}{n:RN}(h:OB c n)(hd:c≤d):OB d n:=⟨Nat.le_trans h.1 hd,h.2⟩
theorem Ku {c:Nat}{n:RN}(h:OB c n)(t:Int)(m:RM):OB (c+1) (H0 n t m):=by
 refine⟨?_,fun p hp=>?_⟩
 ·show(n.out++[_]).length≤_
  rw[List.length_append]
  have:=h.1
  show _+1≤_;omega
 ·rcases List.mem_append.1 hp with hp | hp
  ·exact h.2 p hp
  ·obtain rfl:=List.mem_singleton.1 hp
   exact Zad m
theorem Z4p {f:RN→Nat→RN}{a:Nat}(hf:∀n i c,OB c n→OB (c+a) (f n i)){n:RN}{c:Nat}(h:OB c n):∀k,OB (c+a * k) (U4 f n k)
 | 0=>h
 | k+1=>by
  rw[F8]
  have ih:=Z4p hf h k
  split
  ·exact ih.up (by rw[Nat.mul_succ];omega)
  ·exact(hf _ k _ ih).up (by rw[Nat.mul_succ];omega)
theorem Hk {c k:Nat}{n:RN}(h:OB c n)(hm:n.many=(k:Int))(m:RM):OB (c+k) (C6 n m):=by
 have:=Z4p (f:=fun n i=>H0 n i m) (a:=1) (fun n i c h=>Ku h i m) h n.many.toNat
 unfold C6
 refine this.up ?_
 rw[hm,Int.toNat_natCast];omega
theorem Qu {c k:Nat}{n:RN}(h:OB c n)(hm:n.many=(k:Int)):OB (c+k) (E5 n):=by
 unfold E5
 split
 ·exact Hk (n:={n with cmt:=Br n.aks}) h hm _
 ·exact h.up (by omega)
theorem T5 {c k:Nat}{n:RN}(h:OB c n)(hm:n.many=(k:Int)):OB (c+k+k) (F3 n):=by
 unfold F3
 split
 ·exact h.up (by omega)
 ·have h1:=Hk (n:=P8 n (L1 n)) h hm ⟨3,n.pmd,0,0,L1 n⟩
  exact Qu h1 (by rw[(Eb _ _).2.2];exact hm)
theorem Z61 {c k:Nat}{n:RN}(h:OB c n)(hm:n.many=(k:Int))(v:Int):OB (c+k+k+k) (L4 n v).1:=by
 unfold L4
 split
 ·exact h.up (by omega)
 ·have h1:=Hk (n:={n with pmd:=v,phase:=1,jns:=[⟨n.self,n.normal,A3 n.log,n.log⟩]}) h hm ⟨1,v,0,0,[]⟩
  exact T5 h1 (by rw[(Eb _ _).2.2];exact hm)
theorem Z28 {c k:Nat}{n:RN}(h:OB c n)(hm:n.many=(k:Int))(s:ByteArray):OB (c+k+k) (Cx n s).1:=by
 unfold Cx
 split
 ·exact h.up (by omega)
 ·have h1:=Hk (n:=Dg (Z18 n (Qa n s)) n.self (Qa n s).n) h hm ⟨4,n.pmd,0,(Qa n s).n - 1,[Qa n s]⟩
  exact Qu h1 (by rw[(Eb _ _).2.2];exact hm)
theorem Rh:∀(l:List REnt) (n:RN),(Ha l n).out=n.out
 | [],n=>rfl
 | e::l,n=>by
  unfold Ha
  split
  ·rfl
  ·split
   ·exact Rh l _
   ·exact Rh l n
theorem Z6i {c k:Nat}{n:RN}(h:OB c n)(hm:n.many=(k:Int))(p:RPk):OB (c+k+k+1) (Em n p):=by
 have h0:=h.up (d:=c+k+k+1) (by omega)
 unfold Em
 generalize mD p.body.data.toList=m
 split
 ·exact h0
 split
 ·unfold Db
  split
  ·exact h0
  ·exact(T5 (n:=Md n _) h hm).up (by omega)
 split
 ·unfold Dk
  have h1:OB (c+k) (My n p.frm m):=Qu (n:=Dg {n with hrd:=n.hrd++[p.frm]} p.frm m.num) h hm
  split
  ·exact h0
  ·split
   ·exact(Ku h1 _ _).up (by omega)
   ·exact h1.up (by omega)
 split
 ·exact h0
 split
 ·have h1:OB c (Ic n m):=by
   unfold Ic
   split
   ·exact h
   ·exact h
  unfold Fx
  split
  ·exact(Ku h1 _ _).up (by omega)
  ·exact h1.up (by omega)
 split
 ·have h1:OB c (Dp n m):=by
   unfold Dp
   split
   ·exact h
   ·exact h
  unfold Dm
  split
  ·exact(Ku h1 _ _).up (by omega)
  ·exact h1.up (by omega)
 split
 ·unfold Fp
  split
  ·exact h0
  ·have h1:OB c (Ha m.l n):=by
    unfold OB
    rw[Rh];exact h
   exact(Ku h1 _ _).up (by omega)
 split
 ·exact h0
 ·exact h0
end Go.Proofs.YtihfaocdpmmooaaGreat

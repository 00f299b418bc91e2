
import Derived.Test.YtihfaocdpmmooaaGreatSMM
import Derived.Test.YtihfaocdpmmooaaGreatZNl
namespace Go.Proofs.YtihfaocdpmmooaaGreat
theorem NI.up {k j:Nat}{n:PN}(h:NI k n)(hj:k≤j)(hb:j≤900000000):NI j n:=⟨⟨h.sl.ws.up hj,h.sl.rl,hb,h.sl.ld⟩,h.arm,h.nv,h.dead,h.self,h.m7,h.com,h.ld,h.st,h.jn,h.jl⟩
theorem Z3 {l:List REnt}{v u:Int}(h:Aq l v=true)(hu:u≤v):vw u l≤v:=by
 unfold vw
 cases hg:l.getLast? with
 | none=>exact hu
 | some e =>
  unfold Aq at h
  rw[List.all_eq_true] at h
  exact of_decide_eq_true (h e (List.mem_of_getLast? hg))
theorem Vq {l:List REnt}{e:REnt}(h:Bl l=true)(hn:e.n=A3 l+1)(h1:vw 1 l≤e.v)(h2:e.v≤big)(hs:e.b.size≤200)(hl:l.length < 150):Bl (l++[e])=true:=by
 have hle:=Dw l
 unfold Bl at h⊢
 rw[Bool.and_eq_true,decide_eq_true_iff] at h
 rw[Q6,h.1,List.length_append]
 have e2:Ah (vw 1 l) (0+l.length) [e]=true:=by
  show(okB (vw 1 l) (0+l.length) e&&true)=true
  unfold okB
  rw[decide_eq_true ⟨by omega,h1,h2,hs⟩]
  rfl
 rw[e2,decide_eq_true (by show l.length+1≤150;omega)]
 rfl
theorem Wv {l:List REnt}{e:REnt}{v:Int}(h:Aq l v=true)(he:e.v≤v):Aq (l++[e]) v=true:=by
 unfold Aq at *
 rw[List.all_append,h]
 show(true&&(decide (e.v≤v)&&true))=true
 rw[decide_eq_true he];rfl
theorem Mm {k:Nat}{n:PN}(hi:NI k n){e:REnt}(hn:e.n=A3 n.log+1)(h1:vw 1 n.log≤e.v)(h10:1≤e.v)(h2:e.v≤n.normal)(hs:e.b.size≤200)(hl:n.log.length < 150) :
  Wo n e=true∧NV {n with log:=n.log++[e]}∧∃st,J8 n e={n with log:=n.log++[e],st:=st}∧WSt (k+1) st∧RLd st∧st.d.armed=0∧B5 st.all (0,0,[])=some (n.pmd,n.normal,n.log++[e]):=by
 have hp:=hi.nv.p
 have hle:=Dw n.log
 have hN:NV {n with log:=n.log++[e]}:=⟨hp,Vq hi.nv.log hn h1 (by omega) hs hl,Wv hi.nv.top h2⟩
 have hb:=Zv
 have hz:=(Fn (k:=3) (a:=e.v) (b:=e.n) (s:=e.b) (by omega) (by omega) (by omega) (by omega)).1
 obtain⟨q1,q2,q3,q4⟩:=Pf (n:={n with log:=n.log++[e]}) (r:=C9 3 e.v e.n e.b) hi.sl.ws hi.sl.rl hi.sl.kk hi.arm hN (by omega) (by
  show B5 (n.st.all++[C9 3 e.v e.n e.b]) (0,0,[])=some (n.pmd,n.normal,n.log++[e])
  rw[Kb,hi.sl.ld]
  show Cn (n.pmd,n.normal,n.log) (C9 3 e.v e.n e.b)=_
  rw[Z5r (by omega) (by omega) (by omega)])
 have q5:=(L3 (n:={n with log:=n.log++[e]}) hi.sl.ws (C9 3 e.v e.n e.b) q1).1
 exact⟨q1,hN,_,Lq q1,q5,q2,q3,q4⟩
theorem T6 (n:PN)(i:Nat)(x:Int)(l:List REnt)(st:LD)(hd:Nat→Bool):Bm {n with log:=l,st:=st,hrd:=hd,aks:=fun j=>if j=i then x else n.aks j}=(Bm n).set i x:=by
 refine List.ext_getElem? fun j=>?_
 unfold Bm
 show((List.range n.many).map fun j=>if j=i then x else n.aks j)[j]?=_
 rw[List.getElem?_map,List.getElem?_set,List.length_map,List.length_range,List.getElem?_map]
 by_cases hj:j < n.many
 ·rw[List.getElem?_range hj]
  by_cases h:i=j
  ·rw[if_pos h,if_pos (by omega)]
   show some (if j=i then _ else _)=_
   rw[if_pos h.symm]
  ·rw[if_neg h]
   show some (if j=i then _ else _)=_
   rw[if_neg (fun e=>h e.symm)];rfl
 ·rw[List.getElem?_eq_none (by rw[List.length_range];omega)]
  by_cases h:i=j
  ·rw[if_pos h,if_neg (by omega)];rfl
  ·rw[if_neg h];rfl
theorem Z0m {n:PN}{i:Nat}(h:i < n.many):(Bm n)[i]?.getD 0=n.aks i:=by
 unfold Bm
 rw[List.getElem?_map,List.getElem?_range h];rfl
theorem Za {k:Nat}{n:PN}{r:RN}(h:Sim n r)(hi:NI k n)(hk:k+1≤900000000)(s:ByteArray):(Cy n s).2=(Ct r s).2∧Sim (Cy n s).1 (Ct r s).1∧NI (k+1) (Cy n s).1:=by
 have up:NI (k+1) n:=hi.up (by omega) hk
 obtain⟨rs,rm,rp,rn,rl,rc,rph,rj,ra,rf,rh,ro⟩:=r
 obtain rfl:rs=n.self:=h.self
 obtain rfl:rm=n.many:=h.many
 obtain rfl:rp=n.pmd:=h.pmd
 obtain rfl:rn=n.normal:=h.normal
 obtain rfl:rl=n.log:=h.log
 obtain rfl:rc=n.cmt:=h.cmt
 obtain rfl:ro=n.out:=h.out
 have hph:rph=if n.lds=true then(if n.std=true then 2 else 1) else 0:=h.phase
 unfold Cy Ct
 dsimp only
 by_cases hs:n.std=false
 ·rw[if_pos (.inr (.inl hs)),if_pos (.inl (by rw[hph,hs];split<;>decide))]
  exact⟨rfl,h,up⟩
 ·have hs:n.std=true:=by simpa using hs
  obtain⟨s1,s2,s3,s4,s5⟩:=hi.st hs
  rw[s1,hs,if_pos rfl,if_pos rfl] at hph
  subst hph
  by_cases hc:n.log.length ≥ 150∨s.size > 200
  ·rw[if_pos (.inr (.inr hc)),if_pos (.inr hc)]
   exact⟨rfl,h,up⟩
  ·rw[if_neg (by rw[hi.dead,hs];rintro(h | h | h);cases h;cases h;exact hc h)]
   obtain⟨a1,a2,a3⟩:=h.aks s1 hs
   obtain rfl:ra=Bm n:=a1
   obtain rfl:rf=n.first:=a2
   have hl:=hi.ld s1
   have hp:=hi.nv.p
   have hle:=Dw n.log
   obtain⟨q1,qv,st,q2,q3,q4,q5,q6⟩:=Mm hi (e:=⟨n.pmd,A3 n.log+1,s⟩) rfl (Z3 (by rw[←s2];exact hi.nv.top) hl.2) hl.2 (by show n.pmd≤_;omega) (by show s.size≤200;omega) (by omega)
   rw[if_pos q1,q2,if_neg (by rintro(h | h);exact h rfl;exact hc h)]
   have hself:=hi.self
   have em:(⟨4,n.pmd,0,A3 n.log+1 - 1,[⟨n.pmd,A3 n.log+1,s⟩]⟩:RM)=⟨4,n.pmd,0,(n.log.length:Int),[⟨n.pmd,(n.log.length:Int)+1,s⟩]⟩:=by rw[hle,Int.add_sub_cancel]
   have hm:okM ⟨4,n.pmd,0,A3 n.log+1 - 1,[⟨n.pmd,A3 n.log+1,s⟩]⟩=true:=by rw[em];exact Z6q (by omega) (by omega) (by omega)
   have eA:=T6 n n.self (A3 n.log+1) (n.log++[⟨n.pmd,A3 n.log+1,s⟩]) st n.hrd
   have hlA:A3 (n.log++[⟨n.pmd,A3 n.log+1,s⟩])=A3 n.log+1:=by rw[Dw,List.length_append,hle];show((n.log.length+1:Nat):Int)=_;omega
   have hS:Sim {n with log:=n.log++[⟨n.pmd,A3 n.log+1,s⟩],st:=st,aks:=fun i=>if i=n.self then A3 n.log+1 else n.aks i} (Dg (Z2f ⟨n.self,n.many,n.pmd,n.normal,n.log,n.cmt,2,rj,Bm n,n.first,rh,n.out⟩ ⟨n.pmd,A3 n.log+1,s⟩) n.self (A3 n.log+1)):=by
    refine⟨rfl,rfl,rfl,rfl,rfl,rfl,rfl,?_,fun _ hh=>absurd hs (by have hh:n.std=false:=hh;rw[hh];decide),fun _ _=>⟨?_,rfl,a3⟩⟩
    ·show(2:Int)=if n.lds=true then(if n.std=true then 2 else 1) else 0
     rw[s1,hs];rfl
    ·refine Eq.trans ?_ eA.symm
     show(Bm n).set (n.self:Int).toNat (max ((Bm n)[(n.self:Int).toNat]?.getD 0) (A3 n.log+1))=_
     rw[Int.toNat_natCast,Z0m hself]
     have:=(s3 n.self).2
     rw[show max (n.aks n.self) (A3 n.log+1)=A3 n.log+1 by omega]
   have hN:NI (k+1) {n with log:=n.log++[⟨n.pmd,A3 n.log+1,s⟩],st:=st,aks:=fun i=>if i=n.self then A3 n.log+1 else n.aks i}:=by
    have hcom:=hi.com
    have hll:(n.log++[(⟨n.pmd,A3 n.log+1,s⟩:REnt)]).length=n.log.length+1:=by rw[List.length_append];rfl
    refine⟨⟨q3,q4,hk,q6⟩,q5,⟨qv.p,qv.log,qv.top⟩,hi.dead,hi.self,hi.m7,?_,hi.ld,fun _=>⟨s1,s2,fun x=>?_,?_,?_⟩,fun _ hh=>absurd hs (by have hh:n.std=false:=hh;rw[hh];decide),hi.jl⟩
    ·show 0≤n.cmt∧n.cmt≤((n.log++[(⟨n.pmd,A3 n.log+1,s⟩:REnt)]).length:Int)
     rw[hll];omega
    ·show 0≤(if x=n.self then A3 n.log+1 else n.aks x)∧(if x=n.self then A3 n.log+1 else n.aks x)≤((n.log++[(⟨n.pmd,A3 n.log+1,s⟩:REnt)]).length:Int)
     rw[hll]
     have:=s3 x
     split<;>omega
    ·show 0≤n.first∧n.first≤((n.log++[(⟨n.pmd,A3 n.log+1,s⟩:REnt)]).length:Int)
     rw[hll];omega
    ·show Aq ((n.log++[(⟨n.pmd,A3 n.log+1,s⟩:REnt)]).take n.first.toNat) (n.pmd - 1)=true
     rw[List.take_append_of_le_length (by omega)];exact s5
   have h1:=hS.spread hm
   have hss:=A6 {n with log:=n.log++[⟨n.pmd,A3 n.log+1,s⟩],st:=st,aks:=fun i=>if i=n.self then A3 n.log+1 else n.aks i} ⟨4,n.pmd,0,A3 n.log+1 - 1,[⟨n.pmd,A3 n.log+1,s⟩]⟩
   have h2:=hN.same hss
   obtain⟨o,e⟩:=hss.to
   obtain⟨r1,r2,-⟩:=Ml h1 h2 (by rw[e];exact hs)
   exact⟨rfl,r1,r2⟩
theorem Z7g {j:Nat→RJ}{m i:Nat}(h:i < m)(n:RN)(hn:n.jns=jrL j m):Z8t n i=(j i).is:=by
 unfold Z8t
 rw[hn]
 unfold jrL
 rw[List.any_map]
 cases hj:(j i).is with
 | true =>
  rw[List.any_eq_true]
  exact⟨i,List.mem_filter.2 ⟨List.mem_range.2 h,hj⟩,by simp⟩
 | false =>
  rw[List.any_eq_false]
  intro x hx
  obtain⟨h1,h2⟩:=List.mem_filter.1 hx
  intro h3
  have h3:(x:Int)=(i:Int):=by simpa using h3
  have:x=i:=by omega
  rw[this,hj] at h2
  cases h2
end Go.Proofs.YtihfaocdpmmooaaGreat
namespace Go.Proofs.YtihfaocdpmmooaaGreat
theorem M1:∀{l:List REnt} {v:Int} {k:Nat},F7 k v l=true→Aq l big=true→Ah v k l=true
 | [],_,_,_,_=>rfl
 | e::l,v,k,h,hm=>by
  unfold F7 at h
  rw[Bool.and_eq_true,decide_eq_true_iff] at h
  have hm0:(decide (e.v≤big)&&Aq l big)=true:=hm
  rw[Bool.and_eq_true,decide_eq_true_iff] at hm0
  show(okB v k e&&Ah e.v (k+1) l)=true
  have:=M1 (l:=l) (v:=e.v) (k:=k+1) (by rw[show((k+1:Nat):Int)=(k:Int)+1 by omega];exact h.2) hm0.2
  rw[this]
  unfold okB
  rw[decide_eq_true ⟨h.1.1,h.1.2.2.1,hm0.1,h.1.2.2.2⟩];rfl
theorem Td {l:List REnt}{v:Int}(h:Fu 0 l=true)(hm:Aq l v=true)(hv:v≤big):Bl l=true:=by
 unfold Fu at h
 rw[Bool.and_eq_true] at h
 unfold Bl
 rw[M1 (k:=0) h.1 (G0 hm (fun e he=>he) hv),h.2];rfl
theorem Zda {m:RM}(h:okM m=true)(hk:m.kind=2):Bl m.l=true∧Aq m.l m.normal=true:=by
 obtain⟨hb,-⟩:=Ar h
 unfold okM at h
 rw[Bool.and_eq_true] at h
 have h2:=h.2
 rw[hk,if_neg (by decide),if_pos rfl,Bool.and_eq_true,Bool.and_eq_true] at h2
 exact⟨Td h2.1.2 h2.2 (by omega),h2.2⟩
theorem Zdv {m:RM}(h:okM m=true)(hk:m.kind=3):Bl m.l=true∧Aq m.l (m.view - 1)=true:=by
 obtain⟨hb,-⟩:=Ar h
 unfold okM at h
 rw[Bool.and_eq_true] at h
 have h2:=h.2
 rw[hk,if_neg (by decide),if_neg (by decide),if_pos rfl,Bool.and_eq_true,Bool.and_eq_true] at h2
 exact⟨Td h2.1.2 h2.2 (by omega),h2.2⟩
theorem Zd5 {m:RM}(h:okM m=true)(hk:m.kind=4):F7 m.num 1 m.l=true∧Aq m.l m.view=true:=by
 unfold okM at h
 rw[Bool.and_eq_true] at h
 have h2:=h.2
 rw[hk,if_neg (by decide),if_neg (by decide),if_neg (by decide),if_pos rfl,Bool.and_eq_true,Bool.and_eq_true] at h2
 unfold Fu at h2
 rw[Bool.and_eq_true] at h2
 exact⟨h2.1.2.1,h2.2⟩
theorem NI.fol {k:Nat}{n:PN}(sl:SL k n)(arm:n.st.d.armed=0)(nv:NV n)(dead:n.dead=false)(self:n.self < n.many)(m7:n.many≤7)(com:0≤n.cmt∧n.cmt≤n.log.length)(hl:n.lds=false)(hs:n.std=false)(jl:∀i,(n.jns i).l.length≤150):NI k n :=
 ⟨sl,arm,nv,dead,self,m7,com,fun h=>absurd h (by rw[hl];decide),fun h=>absurd h (by rw[hs];decide),fun h=>absurd h (by rw[hl];decide),jl⟩
theorem Sim.fol {n:PN}{r:RN}(self:r.self=n.self)(many:r.many=n.many)(pmd:r.pmd=n.pmd)(normal:r.normal=n.normal)(log:r.log=n.log)(cmt:r.cmt=n.cmt)(out:r.out=n.out)(phase:r.phase=0)(hl:n.lds=false):Sim n r :=
 ⟨self,many,pmd,normal,log,cmt,out,by rw[phase,hl];rfl,fun h=>absurd h (by rw[hl];decide),fun h=>absurd h (by rw[hl];decide)⟩
theorem NI.unst {k:Nat}{n:PN}(h:NI k n)(hl:n.lds=false):n.std=false:=by
 cases hs:n.std with
 | false=>rfl
 | true=>have:=(h.st hs).1;rw[hl] at this;cases this
theorem Tx:∀(A B:List RJn) (j:RJn),(∀x∈A,x.frm < j.frm)→(∀x∈B,j.frm < x.frm)→Z7q (A++B) j=A++j::B
 | [],[],j,_,_=>rfl
 | [],x::B,j,_,h=>by
  show(if x.frm > j.frm then j::x::B else x::Z7q B j)=_
  rw[if_pos (h x (by simp))];rfl
 | x::A,B,j,h,h2=>by
  show(if x.frm > j.frm then j::x::(A++B) else x::Z7q (A++B) j)=_
  rw[if_neg (by have:=h x (by simp);omega),Tx A B j (fun y hy=>h y (by simp[hy])) h2];rfl
theorem T5 {α β:Type}(p:α→Bool)(f:α→β):∀l:List α,(l.filter p).map f=l.flatMap fun x=>if p x=true then [f x] else []
 | []=>rfl
 | x::l=>by
  rw[List.flatMap_cons,←T5 p f l]
  by_cases h:p x=true
  ·rw[List.filter_cons_of_pos h,if_pos h];rfl
  ·rw[List.filter_cons_of_neg h,if_neg h];rfl
theorem Zz (j:Nat→RJ)(m:Nat):jrL j m=(List.range m).flatMap fun i:Nat=>if(j i).is=true then [⟨(i:Int),(j i).normal,A3 (j i).l,(j i).l⟩] else []:=T5 (fun i=>(j i).is) _ _
theorem Ix {α β:Type}{f g:α→List β}:∀{l:List α},(∀x∈l,f x=g x)→l.flatMap f=l.flatMap g
 | [],_=>rfl
 | x::l,h=>by rw[List.flatMap_cons,List.flatMap_cons,h x (by simp),Ix fun y hy=>h y (by simp[hy])]
theorem Z9y {j:Nat→RJ}{m i:Nat}(hi:i < m)(hj:(j i).is=false)(q:Int)(l:List REnt):Z7q (jrL j m) ⟨i,q,A3 l,l⟩=jrL (fun y=>if y=i then⟨true,q,l⟩ else j y) m:=by
 obtain⟨d,rfl⟩:∃d,m=i+(1+d):=⟨m - i - 1,by omega⟩
 rw[Zz,Zz,List.range_add,List.flatMap_append,List.flatMap_append,List.range_add,List.map_append,List.flatMap_append,List.flatMap_append]
 have e1:(List.range i).flatMap (fun y:Nat=>if(if y=i then(⟨true,q,l⟩:RJ) else j y).is=true then [(⟨(y:Int),(if y=i then(⟨true,q,l⟩:RJ) else j y).normal,A3 (if y=i then(⟨true,q,l⟩:RJ) else j y).l,(if y=i then(⟨true,q,l⟩:RJ) else j y).l⟩:RJn)] else [])=(List.range i).flatMap fun y:Nat=>if(j y).is=true then [(⟨(y:Int),(j y).normal,A3 (j y).l,(j y).l⟩:RJn)] else []:=Ix fun y hy=>by
  have:=List.mem_range.1 hy
  rw[if_neg (by omega:¬y=i)]
 have e2:(((List.range d).map fun x=>1+x).map fun x=>i+x).flatMap (fun y:Nat=>if(if y=i then(⟨true,q,l⟩:RJ) else j y).is=true then [(⟨(y:Int),(if y=i then(⟨true,q,l⟩:RJ) else j y).normal,A3 (if y=i then(⟨true,q,l⟩:RJ) else j y).l,(if y=i then(⟨true,q,l⟩:RJ) else j y).l⟩:RJn)] else [])=(((List.range d).map fun x=>1+x).map fun x=>i+x).flatMap fun y:Nat=>if(j y).is=true then [(⟨(y:Int),(j y).normal,A3 (j y).l,(j y).l⟩:RJn)] else []:=Ix fun y hy=>by
  obtain⟨x,hx,rfl⟩:=List.mem_map.1 hy
  obtain⟨z,-,rfl⟩:=List.mem_map.1 hx
  rw[if_neg (by omega:¬i+(1+z)=i)]
 rw[e1,e2]
 have e3:((List.range 1).map fun x=>i+x)=[i]:=rfl
 rw[e3]
 have e4:[i].flatMap (fun y:Nat=>if(j y).is=true then [(⟨(y:Int),(j y).normal,A3 (j y).l,(j y).l⟩:RJn)] else [])=[]:=by
  show(if(j i).is=true then _ else _)++[]=_
  rw[hj];rfl
 have e5:[i].flatMap (fun y:Nat=>if(if y=i then(⟨true,q,l⟩:RJ) else j y).is=true then [(⟨(y:Int),(if y=i then(⟨true,q,l⟩:RJ) else j y).normal,A3 (if y=i then(⟨true,q,l⟩:RJ) else j y).l,(if y=i then(⟨true,q,l⟩:RJ) else j y).l⟩:RJn)] else [])=[(⟨i,q,A3 l,l⟩:RJn)]:=by
  show(if(if i=i then(⟨true,q,l⟩:RJ) else j i).is=true then _ else _)++[]=_
  rw[if_pos rfl];rfl
 rw[e4,e5,List.nil_append]
 refine Tx _ _ _ (fun x hx=>?_) fun x hx=>?_
 ·obtain⟨y,hy,hx⟩:=List.mem_flatMap.1 hx
  have:=List.mem_range.1 hy
  split at hx
  ·obtain rfl:=List.mem_singleton.1 hx
   show(y:Int) < (i:Int);omega
  ·cases hx
 ·obtain⟨y,hy,hx⟩:=List.mem_flatMap.1 hx
  obtain⟨a,ha,rfl⟩:=List.mem_map.1 hy
  obtain⟨z,-,rfl⟩:=List.mem_map.1 ha
  split at hx
  ·obtain rfl:=List.mem_singleton.1 hx
   show(i:Int) < ((i+(1+z):Nat):Int);omega
  ·cases hx
def NJr (r:RN):Prop:=r.phase=1→(r.jns.length:Int) < Aj r.many
theorem Sim.st {n:PN}{r:RN}(h:Sim n r):(r.phase=0↔n.lds=false)∧(n.lds=true→n.std=false→r.phase=1)∧(n.lds=true→n.std=true→r.phase=2):=by
 have:=h.phase
 cases hl:n.lds with
 | false=>rw[hl] at this;exact⟨⟨fun _=>rfl,fun _=>this⟩,fun h=>(by cases h),fun h=>(by cases h)⟩
 | true =>
  cases hs:n.std with
  | false=>rw[hl,hs] at this;exact⟨⟨fun h=>(by rw[this] at h;cases h),fun h=>(by cases h)⟩,fun _ _=>this,fun _ h=>(by cases h)⟩
  | true=>rw[hl,hs] at this;exact⟨⟨fun h=>(by rw[this] at h;cases h),fun h=>(by cases h)⟩,fun _ h=>(by cases h),fun _ _=>this⟩
theorem Z3z {k:Nat}{n:PN}{r:RN}(h:Sim n r)(hi:NI k n)(hk:k+1≤900000000)(hq:NJr r)(hl:n.lds=true)(hs:n.std=false){f:Nat}(hf:f < n.many){m:RM}(hm:okM m=true)(hk2:m.kind=2)(hv:n.pmd=m.view) :
  Sim (Bv (if(n.jns f).is=true then n else {n with jns:=fun i=>if i=f then⟨true,m.normal,m.l⟩ else n.jns i})) (D9 r f m)∧NI (k+1) (Bv (if(n.jns f).is=true then n else {n with jns:=fun i=>if i=f then⟨true,m.normal,m.l⟩ else n.jns i})):=by
 have hph:=h.st.2.1 hl hs
 have hj:=h.jns hl hs
 have hfr:=Z7g hf r hj
 unfold D9
 cases hjf:(n.jns f).is with
 | true =>
  rw[if_pos rfl,if_pos (.inr (.inr (by rw[hfr,hjf])))]
  have hb:Bv n=n:=by
   unfold Bv
   rw[if_pos]
   have:=hq hph
   rw[hj,Z4t,h.many] at this
   exact this
  rw[hb]
  exact⟨h,hi.up (by omega) hk⟩
 | false =>
  rw[if_neg (by decide),if_neg (by rintro(h1 | h1 | h1);exact h1 hph;rw[h.pmd] at h1;exact h1 hv;rw[hfr,hjf] at h1;cases h1)]
  obtain⟨hb1,-,hb3,-⟩:=Ar hm
  obtain⟨m1,m2⟩:=Zda hm hk2
  refine Q7 (n:={n with jns:=fun i=>if i=f then⟨true,m.normal,m.l⟩ else n.jns i}) (r:=O5 r ⟨f,m.normal,A3 m.l,m.l⟩) ?_ ?_ hk hl hs
  ·refine⟨h.self,h.many,h.pmd,h.normal,h.log,h.cmt,h.out,h.phase,fun _ _=>?_,h.aks⟩
   show Z7q r.jns ⟨f,m.normal,A3 m.l,m.l⟩=jrL (fun i=>if i=f then⟨true,m.normal,m.l⟩ else n.jns i) n.many
   rw[hj]
   exact Z9y hf hjf _ _
  ·refine⟨⟨hi.sl.ws,hi.sl.rl,hi.sl.kk,hi.sl.ld⟩,hi.arm,⟨hi.nv.p,hi.nv.log,hi.nv.top⟩,hi.dead,hi.self,hi.m7,hi.com,hi.ld,hi.st,fun _ _=>⟨(hi.jn hl hs).1,fun i hii=>?_⟩,fun i=>?_⟩
   ·dsimp only at hii⊢
    split
    ·exact⟨⟨hb1.2.2.1,by show m.normal < n.pmd;omega⟩,m1,m2⟩
    ·next hne=>rw[if_neg hne] at hii;exact(hi.jn hl hs).2 i hii
   ·dsimp only
    split
    ·exact hb3
    ·exact hi.jl i
theorem Y6 (r:RN)(f i:Nat):Tm {r with hrd:=r.hrd++[(f:Int)]} i=if i=f then true else Tm r i:=by
 unfold Tm
 show(r.hrd++[(f:Int)]).any _=_
 rw[List.any_append]
 show(_||(decide ((f:Int)=(i:Int))||false))=_
 by_cases h:i=f
 ·subst h;rw[if_pos rfl,decide_eq_true rfl];simp
 ·rw[if_neg h,decide_eq_false (by omega)];simp
theorem Z6z {k:Nat}{n:PN}{r:RN}(h:Sim n r)(hi:NI k n)(hl:n.lds=true)(hs:n.std=true){f:Nat}(hf:f < n.many){m:RM}(hm:okM m=true)(hv:n.pmd=m.view)(hn:m.num≤n.log.length) :
  Sim ((fun n2:PN=>if m.num < n2.log.length then B4 n2 f ⟨4,n2.pmd,0,m.num,n2.log.drop m.num.toNat⟩ else n2)
   (D7 {n with aks:=fun i=>if i=f then max (n.aks f) m.num else n.aks i,hrd:=fun i=>if i=f then true else n.hrd i})) (Dk r f m)∧NI k ((fun n2:PN=>if m.num < n2.log.length then B4 n2 f ⟨4,n2.pmd,0,m.num,n2.log.drop m.num.toNat⟩ else n2)
   (D7 {n with aks:=fun i=>if i=f then max (n.aks f) m.num else n.aks i,hrd:=fun i=>if i=f then true else n.hrd i})):=by
 have hph:=h.st.2.2 hl hs
 obtain⟨s1,s2,s3,s4,s5⟩:=hi.st hs
 obtain⟨a1,a2,a3⟩:=h.aks hl hs
 obtain⟨hb1,-,-,-⟩:=Ar hm
 have hp:=hi.nv.p
 have hld:=hi.ld hl
 unfold Dk
 rw[if_neg (by rintro(h1 | h1 | h1);exact h1 hph;rw[h.pmd] at h1;exact h1 hv;rw[h.log] at h1;omega)]
 have hS:Sim {n with aks:=fun i=>if i=f then max (n.aks f) m.num else n.aks i,hrd:=fun i=>if i=f then true else n.hrd i} (Dg {r with hrd:=r.hrd++[(f:Int)]} f m.num):=by
  refine⟨h.self,h.many,h.pmd,h.normal,h.log,h.cmt,h.out,h.phase,h.jns,fun _ _=>⟨?_,a2,fun i hin=>?_⟩⟩
  ·show r.aks.set (f:Int).toNat (max (r.aks[(f:Int).toNat]?.getD 0) m.num)=_
   rw[Int.toNat_natCast,a1,Z0m hf]
   exact(T6 n f (max (n.aks f) m.num) n.log n.st _).symm
  ·refine(Y6 r f i).trans ?_
   show _=if i=f then true else n.hrd i
   rw[a3 i hin]
 have hN:NI k {n with aks:=fun i=>if i=f then max (n.aks f) m.num else n.aks i,hrd:=fun i=>if i=f then true else n.hrd i}:=by
  refine⟨⟨hi.sl.ws,hi.sl.rl,hi.sl.kk,hi.sl.ld⟩,hi.arm,⟨hi.nv.p,hi.nv.log,hi.nv.top⟩,hi.dead,hi.self,hi.m7,hi.com,hi.ld,fun _=>⟨s1,s2,fun i=>?_,s4,s5⟩,hi.jn,hi.jl⟩
  show 0≤(if i=f then max (n.aks f) m.num else n.aks i)∧(if i=f then max (n.aks f) m.num else n.aks i)≤(n.log.length:Int)
  have:=s3 i
  have:=s3 f
  split<;>omega
 obtain⟨r1,r2,r3,r4⟩:=Ml hS hN hs
 have r3:(D7 {n with aks:=fun i=>if i=f then max (n.aks f) m.num else n.aks i,hrd:=fun i=>if i=f then true else n.hrd i}).log=n.log:=r3
 have r4:(D7 {n with aks:=fun i=>if i=f then max (n.aks f) m.num else n.aks i,hrd:=fun i=>if i=f then true else n.hrd i}).pmd=n.pmd:=r4
 change Sim _ (if m.num < (Ea (Dg {r with hrd:=r.hrd++[(f:Int)]} f m.num)).log.length then Hh (Ea (Dg {r with hrd:=r.hrd++[(f:Int)]} f m.num)) f ⟨4,(Ea (Dg {r with hrd:=r.hrd++[(f:Int)]} f m.num)).pmd,0,m.num,(Ea (Dg {r with hrd:=r.hrd++[(f:Int)]} f m.num)).log.drop m.num.toNat⟩ else Ea (Dg {r with hrd:=r.hrd++[(f:Int)]} f m.num))∧_
 have e1:=r1.log
 have e2:=r1.pmd
 rw[r3] at e1
 rw[r4] at e2
 generalize D7 {n with aks:=fun i=>if i=f then max (n.aks f) m.num else n.aks i,hrd:=fun i=>if i=f then true else n.hrd i}=n2 at *
 generalize Ea (Dg {r with hrd:=r.hrd++[(f:Int)]} f m.num)=r2' at *
 dsimp only
 rw[e1,e2,r3,r4]
 by_cases hc:m.num < n.log.length
 ·rw[if_pos hc,if_pos hc]
  have hmp:=Z8w (v:=n.pmd) (k:=m.num.toNat) (l:=n.log) (by omega) (by omega) hi.nv.log (by rw[←s2];exact hi.nv.top)
  rw[show((m.num.toNat:Nat):Int)=m.num by omega] at hmp
  exact⟨r1.send hmp,r2.same (A5 _ _ _)⟩
 ·rw[if_neg hc,if_neg hc]
  exact⟨r1,r2⟩
theorem Z9m {l:List REnt}(h:l.length≠0)(a b:Int):vw a l=vw b l:=by
 unfold vw
 cases hg:l.getLast? with
 | none=>rw[List.getLast?_eq_none_iff] at hg;rw[hg] at h;exact absurd rfl h
 | some e=>rfl
theorem Ia:∀(l:List REnt) {n:PN} {r:RN} {k:Nat} {num v:Int},Sim n r→NI k n→n.lds=false→F7 num v l=true→0≤num→1≤v→Aq l n.normal=true→k+l.length≤900000000 →
  (Ak l (vw 1 n.log) n).2=true∧Sim (Ak l (vw 1 n.log) n).1 (Hr l r)∧NI (k+l.length) (Ak l (vw 1 n.log) n).1∧(Ak l (vw 1 n.log) n).1.lds=false∧(Ak l (vw 1 n.log) n).1.pmd=n.pmd
 | [],n,r,k,num,v,h,hi,hl,_,_,_,_,_=>⟨rfl,h,hi,hl,rfl⟩
 | e::l,n,r,k,num,v,h,hi,hl,hr,h0,hv,hm,hk=>by
  unfold F7 at hr
  rw[Bool.and_eq_true,decide_eq_true_iff] at hr
  obtain⟨⟨q1,q2,q3,q4⟩,q5⟩:=hr
  have hm0:(decide (e.v≤n.normal)&&Aq l n.normal)=true:=hm
  rw[Bool.and_eq_true,decide_eq_true_iff] at hm0
  have hle:=Dw n.log
  rw[List.length_cons] at hk⊢
  unfold Ak Hr
  rw[h.log]
  by_cases c1:e.n > n.log.length+1
  ·rw[if_pos c1,if_pos c1]
   exact⟨rfl,h,hi.up (by omega) (by omega),hl,rfl⟩
  ·rw[if_neg c1,if_neg c1]
   by_cases c2:e.n≤n.log.length∨e.v < vw 1 n.log
   ·rw[if_pos c2,if_neg (fun⟨d1,d2⟩=>by
     rcases c2 with c2 | c2
     ·omega
     ·by_cases hz:n.log.length=0
      ·rw[List.eq_nil_of_length_eq_zero hz] at c2
       have:e.v < 1:=c2
       omega
      ·rw[Z9m hz 1 0] at c2
       rcases d2 with d2 | d2
       ·exact hz d2
       ·omega)]
    obtain⟨z1,z2,z3,z4,z5⟩:=Ia l (r:=r) h hi hl q5 (by omega) (by omega) hm0.2 (by omega)
    exact⟨z1,z2,z3.up (by omega) (by omega),z4,z5⟩
   ·rw[if_neg c2]
    obtain⟨p1,pv,st,p2,p3,p4,p5,p6⟩:=Mm hi (e:=e) (by omega) (by omega) (by omega) hm0.1 q4 (by omega)
    rw[if_pos p1,p2,if_pos ⟨by omega,by
     by_cases hz:n.log.length=0
     ·exact .inl hz
     ·refine .inr ?_
      rw[←Z9m hz 1 0];omega⟩]
    have hcom:=hi.com
    have hll:(n.log++[e]).length=n.log.length+1:=by rw[List.length_append];rfl
    have hS:Sim {n with log:=n.log++[e],st:=st} (Z2f r e):=Sim.fol h.self h.many h.pmd h.normal (by show r.log++[e]=n.log++[e];rw[h.log]) h.cmt h.out (h.st.1.2 hl) hl
    have hN:NI (k+1) {n with log:=n.log++[e],st:=st}:=NI.fol ⟨p3,p4,by omega,p6⟩ p5 ⟨pv.p,pv.log,pv.top⟩ hi.dead hi.self hi.m7 (by show 0≤n.cmt∧n.cmt≤((n.log++[e]).length:Int);rw[hll];omega) hl (hi.unst hl) hi.jl
    obtain⟨z1,z2,z3,z4,z5⟩:=Ia l hS hN hl q5 (by omega) (by omega) hm0.2 (by omega)
    have ev:vw 1 (PN.log {n with log:=n.log++[e],st:=st})=e.v:=S0 _ _ _
    rw[ev] at z1 z2 z3 z4 z5
    exact⟨z1,z2,z3.up (by omega) (by omega),z4,z5⟩
end Go.Proofs.YtihfaocdpmmooaaGreat
namespace Go.Proofs.YtihfaocdpmmooaaGreat
theorem Z71 {k:Nat}{n:PN}{r:RN}(h:Sim n r)(hi:NI k n)(hk:k+150≤900000000){f:Nat}(hfs:f≠n.self){m:RM}(hm:okM m=true)(hp0:Am m.view n.many=f)(hkd:m.kind=1∨m.kind=3∨m.kind=4∨m.kind=6) :
  Sim (A4 n f m) (if m.kind=1 then G6 r f m else if m.kind=3 then Dq r f m else if m.kind=4 then G3 r f m
   else if r.pmd=m.view∧r.normal=m.view∧r.phase=0 then {r with cmt:=max r.cmt (min m.num (A3 r.log))} else r)∧NI (k+150) (A4 n f m):=by
 have up:NI (k+150) n:=hi.up (by omega) hk
 obtain⟨hb1,-,hb3,hb4⟩:=Ar hm
 have hp:=hi.nv.p
 have hcom:=hi.com
 have hlen:=hi.nv.ents.1
 have hle:=Dw n.log
 have hph:=h.st.1
 have hdead:=hi.dead
 have nlead:m.view=n.pmd→n.lds=false:=fun e=>by
  cases hl:n.lds with
  | false=>rfl
  | true=>have:=(hi.ld hl).1;rw[←e,hp0] at this;omega
 unfold A4
 rcases hkd with hk1 | hk3 | hk4 | hk6
 ·rw[if_pos hk1,if_pos hk1]
  unfold G6 J2
  by_cases hv:m.view > n.pmd
  ·have hv':m.view > r.pmd:=by rw[h.pmd];exact hv
   obtain⟨q1,st,q2,q3,q4,q5,q6⟩:=Pi hi hv hb1.2.1
   rw[if_pos hv,if_pos q1,q2,if_pos hv',if_pos ⟨rfl,by show m.view > r.normal;rw[h.normal];omega,rfl⟩]
   have hS:Sim {n with pmd:=m.view,lds:=false,std:=false,st:=st} {r with pmd:=m.view,phase:=0}:=Sim.fol h.self h.many rfl h.normal h.log h.cmt h.out rfl rfl
   have hN:NI (k+150) {n with pmd:=m.view,lds:=false,std:=false,st:=st}:=NI.fol ⟨q3.up (by omega),q4,hk,q6⟩ q5 ⟨⟨hp.1,by show n.normal≤m.view;omega,hb1.2.1⟩,hi.nv.log,hi.nv.top⟩ hi.dead hi.self hi.m7 hcom rfl rfl hi.jl
   have hmj:=Ty (v:=m.view) (q:=n.normal) (l:=n.log) (by omega) (by omega) hi.nv.log hi.nv.top
   have:=hS.send (i:=f) hmj
   refine⟨?_,hN.same (A5 _ _ _)⟩
   have e:(⟨2,m.view,r.normal,0,r.log⟩:RM)=⟨2,m.view,n.normal,0,n.log⟩:=by rw[h.normal,h.log]
   show Sim _ (Hh {r with pmd:=m.view,phase:=0} f ⟨2,m.view,r.normal,0,r.log⟩)
   rw[e]
   exact this
  ·have hv':¬m.view > r.pmd:=by rw[h.pmd];exact hv
   rw[if_neg hv,if_neg hv']
   by_cases hc:m.view=n.pmd∧m.view > n.normal∧n.lds=false
   ·rw[if_pos hc,if_pos ⟨by rw[h.pmd];exact hc.1,by rw[h.normal];exact hc.2.1,hph.2 hc.2.2⟩]
    have hmj:=Ty (v:=m.view) (q:=n.normal) (l:=n.log) (by omega) (by omega) hi.nv.log hi.nv.top
    rw[h.normal,h.log]
    exact⟨h.send hmj,up.same (A5 _ _ _)⟩
   ·rw[if_neg hc,if_neg (by rw[h.pmd,h.normal,hph];exact hc)]
    exact⟨h,up⟩
 ·have n1:¬m.kind=1:=by omega
  rw[if_neg n1,if_neg n1,if_pos hk3,if_pos hk3]
  unfold Dq Dx
  rw[h.pmd,h.normal]
  by_cases hv:m.view ≥ n.pmd∧m.view > n.normal
  ·obtain⟨m1,m2⟩:=Zdv hm hk3
   have hN0:NV (Bg {n with lds:=false,std:=false} m.view m.l):=⟨⟨by show 0≤m.view;omega,Int.le_refl _,hb1.2.1⟩,m1,G0 m2 (fun e he=>he) (by show m.view - 1≤m.view;omega)⟩
   obtain⟨q1,st,q2,q3,q4,q5,q6⟩:=Kp (n:={n with lds:=false,std:=false}) hi.sl.ws hi.sl.rl hi.arm hN0
   rw[if_pos hv,if_pos q1,q2,if_pos hv,if_pos ⟨rfl,rfl⟩]
   have hlm:=Dw m.l
   have hS:Sim {Bg {n with lds:=false,std:=false} m.view m.l with st:=st} {r with pmd:=m.view,normal:=m.view,log:=m.l,cmt:=min r.cmt (A3 m.l),phase:=0}:=Sim.fol h.self h.many rfl rfl rfl (by show min r.cmt (A3 m.l)=min n.cmt (A3 m.l);rw[h.cmt]) h.out rfl rfl
   have hN:NI (k+150) {Bg {n with lds:=false,std:=false} m.view m.l with st:=st}:=NI.fol ⟨q3.up (by omega),q4,hk,q6⟩ q5 ⟨hN0.p,hN0.log,hN0.top⟩ hi.dead hi.self hi.m7 (by show 0≤min n.cmt (A3 m.l)∧min n.cmt (A3 m.l)≤(m.l.length:Int);omega) rfl rfl hi.jl
   exact⟨hS.send (Rt (by omega) (by omega)),hN.same (A5 _ _ _)⟩
  ·rw[if_neg hv,if_neg hv,h.pmd,h.normal,h.log]
   by_cases hc:m.view=n.pmd∧m.view=n.normal
   ·rw[if_pos hc,if_pos hc]
    exact⟨h.send (Rt (by omega) (by omega)),up.same (A5 _ _ _)⟩
   ·rw[if_neg hc,if_neg hc]
    exact⟨h,up⟩
 ·have n1:¬m.kind=1:=by omega
  have n3:¬m.kind=3:=by omega
  rw[if_neg n1,if_neg n1,if_neg n3,if_neg n3,if_pos hk4,if_pos hk4]
  unfold G3
  by_cases hc:n.pmd=m.view∧n.normal=m.view∧n.lds=false
  ·obtain⟨m1,m2⟩:=Zd5 hm hk4
   obtain⟨z1,z2,z3,z4,z5⟩:=Ia m.l h hi hc.2.2 m1 (by omega) (by omega) (by rw[hc.2.1];exact m2) (by omega)
   rw[if_pos hc,if_neg (by rw[h.pmd,h.normal];rintro(h1 | h1 | h1);exact h1 hc.1;exact h1 hc.2.1;exact h1 (hph.2 hc.2.2))]
   dsimp only
   rw[if_pos z1,z2.log]
   generalize (Ak m.l (vw 1 n.log) n).1=n2 at *
   have hl2:=z3.nv.ents.1
   have hle2:=Dw n2.log
   exact⟨z2.send (Rt (by omega) (by omega)),(z3.up (by omega) hk).same (A5 _ _ _)⟩
  ·rw[if_neg hc,if_pos (by
    rw[h.pmd,h.normal]
    by_cases a:n.pmd=m.view
    ·by_cases b:n.normal=m.view
     ·exact .inr (.inr fun e=>hc ⟨a,b,hph.1 e⟩)
     ·exact .inr (.inl b)
    ·exact .inl a)]
   exact⟨h,up⟩
 ·have n1:¬m.kind=1:=by omega
  have n3:¬m.kind=3:=by omega
  have n4:¬m.kind=4:=by omega
  rw[if_neg n1,if_neg n1,if_neg n3,if_neg n3,if_neg n4,if_neg n4,if_pos hk6]
  by_cases hc:n.pmd=m.view∧n.normal=m.view∧n.lds=false
  ·rw[if_pos hc,if_pos ⟨by rw[h.pmd];exact hc.1,by rw[h.normal];exact hc.2.1,hph.2 hc.2.2⟩]
   refine⟨Sim.fol h.self h.many h.pmd h.normal h.log (by show max r.cmt (min m.num (A3 r.log))=max n.cmt (min m.num (A3 n.log));rw[h.cmt,h.log]) h.out (hph.2 hc.2.2) hc.2.2,?_⟩
   exact NI.fol ⟨hi.sl.ws.up (by omega),hi.sl.rl,hk,hi.sl.ld⟩ hi.arm ⟨hi.nv.p,hi.nv.log,hi.nv.top⟩ hi.dead hi.self hi.m7 (by show 0≤max n.cmt (min m.num (A3 n.log))∧max n.cmt (min m.num (A3 n.log))≤(n.log.length:Int);omega) hc.2.2 (hi.unst hc.2.2) hi.jl
  ·rw[if_neg hc,if_neg (fun e=>hc ⟨by rw[←h.pmd];exact e.1,by rw[←h.normal];exact e.2.1,hph.1 e.2.2⟩)]
   exact⟨h,up⟩
theorem Z28 {k:Nat}{n:PN}{r:RN}(h:Sim n r)(hi:NI k n)(hk:k+150≤900000000)(hq:NJr r)(p:RPk):Sim (Dv n p) (Ey r p)∧NI (k+150) (Dv n p):=by
 have up:NI (k+150) n:=hi.up (by omega) hk
 have hph:=h.st.1
 unfold Dv Ey
 rw[hi.dead]
 have hcr:(¬Gg p.body.data.toList∨p.to≠r.self∨p.frm=r.self∨p.frm < 0∨p.frm ≥ r.many)↔(¬Gg p.body.data.toList∨p.to≠n.self∨p.frm=n.self∨p.frm < 0∨p.frm ≥ n.many):=by rw[h.self,h.many]
 by_cases hc:¬Gg p.body.data.toList∨p.to≠n.self∨p.frm=n.self∨p.frm < 0∨p.frm ≥ n.many
 ·rw[if_pos (.inr hc),if_pos (hcr.2 hc)]
  exact⟨h,up⟩
 ·rw[if_neg (by rintro(h | h);cases h;exact hc h),if_neg (fun e=>hc (hcr.1 e))]
  clear hcr
  have hok:Gg p.body.data.toList:=Classical.byContradiction fun e=>hc (.inl e)
  have hm:=(Z2g hok).1
  obtain⟨f,hf⟩:∃f:Nat,p.frm=f:=⟨p.frm.toNat,by omega⟩
  rw[hf,Int.toNat_natCast]
  have hfm:f < n.many:=by omega
  have hfs:f≠n.self:=by omega
  obtain⟨hb1,hb2,-,-⟩:=Ar hm
  generalize mD p.body.data.toList=m at *
  by_cases h2:m.kind=2
  ·rw[if_pos (.inl h2),if_pos h2]
   unfold Az
   by_cases hl:n.lds=false∨n.pmd≠m.view
   ·rw[if_pos hl]
    unfold D9
    rw[if_pos (by
     rcases hl with hl | hl
     ·exact .inl (by rw[hph.2 hl];decide)
     ·exact .inr (.inl (by rw[h.pmd];exact hl)))]
    exact⟨h,up⟩
   ·rw[if_neg hl]
    have hld:n.lds=true:=by
     cases hx:n.lds with
     | true=>rfl
     | false=>exact absurd (.inl hx) hl
    have hv:n.pmd=m.view:=Classical.byContradiction fun e=>hl (.inr e)
    cases hs:n.std with
    | false =>
     rw[if_pos ⟨h2,rfl⟩]
     obtain⟨r1,r2⟩:=Z3z h hi (by omega) hq hld hs hfm hm h2 hv
     rw[hs] at r1 r2
     exact⟨r1,r2.up (by omega) hk⟩
    | true =>
     rw[if_neg (by rintro⟨-,e⟩;cases e),if_neg (by omega)]
     unfold D9
     rw[if_pos (.inl (by rw[h.st.2.2 hld hs];decide))]
     exact⟨h,up⟩
  ·rw[if_neg h2]
   by_cases h5:m.kind=5
   ·rw[if_pos (.inr h5),if_pos h5]
    unfold Az
    have no:(n.lds=false∨n.pmd≠m.view∨n.std=false∨¬m.num≤n.log.length)→Dk r f m=r:=fun hh=>by
     unfold Dk
     rw[if_pos (by
      rcases hh with hh | hh | hh | hh
      ·exact .inl (by rw[hph.2 hh];decide)
      ·exact .inr (.inl (by rw[h.pmd];exact hh))
      ·refine .inl fun e=>?_
       have:=h.phase
       rw[e,hh] at this
       split at this
       ·exact absurd this (by decide)
       ·exact absurd this (by decide)
      ·exact .inr (.inr (by rw[h.log];omega)))]
    by_cases hl:n.lds=false∨n.pmd≠m.view
    ·rw[if_pos hl,no (by rcases hl with hl | hl;exact .inl hl;exact .inr (.inl hl))]
     exact⟨h,up⟩
    ·rw[if_neg hl,if_neg (fun e=>h2 e.1)]
     have hld:n.lds=true:=by
      cases hx:n.lds with
      | true=>rfl
      | false=>exact absurd (.inl hx) hl
     have hv:n.pmd=m.view:=Classical.byContradiction fun e=>hl (.inr e)
     by_cases hc2:m.kind=5∧n.std=true∧m.num≤n.log.length
     ·rw[if_pos hc2]
      obtain⟨r1,r2⟩:=Z6z h hi hld hc2.2.1 hfm hm hv hc2.2.2
      exact⟨r1,r2.up (by omega) hk⟩
     ·rw[if_neg hc2,no (by
       by_cases a:n.std=true
       ·exact .inr (.inr (.inr fun b=>hc2 ⟨h5,a,b⟩))
       ·exact .inr (.inr (.inl (by simpa using a))))]
      exact⟨h,up⟩
   ·rw[if_neg (by rintro(e | e);exact h2 e;exact h5 e),if_neg h5]
    by_cases hpr:Am m.view n.many=f
    ·rw[if_neg (fun e=>e hpr),if_neg (fun e=>e (by rw[h.many];exact hpr))]
     exact Z71 h hi hk hfs hm hpr (by omega)
    ·rw[if_pos hpr,if_pos (by rw[h.many];exact hpr)]
     exact⟨h,up⟩
def SameJ (n n':RN):Prop:=n'.phase=n.phase∧n'.jns=n.jns∧n'.many=n.many
theorem SameJ.nj {n n':RN}(h:SameJ n n')(hq:NJr n):NJr n':=fun e=>by rw[h.2.1,h.2.2];exact hq (by rw[←h.1];exact e)
theorem SameJ.refl (n:RN):SameJ n n:=⟨rfl,rfl,rfl⟩
theorem SameJ.trans {a b c:RN}(h:SameJ a b)(h2:SameJ b c):SameJ a c:=⟨h2.1.trans h.1,h2.2.1.trans h.2.1,h2.2.2.trans h.2.2⟩
theorem Zc {f:RN→Nat→RN}(hf:∀n i,SameJ n (f n i))(n:RN):∀k,SameJ n (Su f n k)
 | 0=>SameJ.refl n
 | k+1=>by
  rw[Fg]
  split
  ·exact Zc hf n k
  ·exact(Zc hf n k).trans (hf _ _)
theorem Jw (n:RN)(t:Int)(m:RM):SameJ n (Hh n t m):=⟨rfl,rfl,rfl⟩
theorem Eg (n:RN)(m:RM):SameJ n (C6 n m):=Zc (fun n i=>Jw n i m) n _
theorem Rq (n:RN):SameJ n (Ea n):=by
 unfold Ea
 split
 ·exact SameJ.trans (b:={n with cmt:=Bu n.aks}) ⟨rfl,rfl,rfl⟩ (Eg _ _)
 ·exact SameJ.refl n
theorem Z5c {n:RN}(h:n.phase=2):NJr n:=fun e=>by rw[h] at e;cases e
theorem O1 {n:RN}(h:n.phase=0):NJr n:=fun e=>by rw[h] at e;cases e
theorem Uf (n:RN):NJr (Fi n):=by
 unfold Fi
 split
 ·next h=>exact fun _=>h
 ·exact Z5c (by rw[(Rq _).1,(Eg _ _).1];rfl)
theorem Z7e {n:RN}(h:NJr n)(v:Int):NJr (Lg n v).1:=by
 unfold Lg
 split
 ·exact h
 ·exact Uf _
theorem Z2y {n:RN}(h:NJr n)(s:ByteArray):NJr (Ct n s).1:=by
 unfold Ct
 split
 ·exact h
 ·next hc =>
  have h2:n.phase=2:=Classical.byContradiction fun e=>hc (.inl e)
  exact Z5c (by rw[(Rq _).1,(Eg _ _).1];exact h2)
theorem Ym:∀(l:List REnt) (n:RN),SameJ n (Hr l n)
 | [],n=>SameJ.refl n
 | e::l,n=>by
  unfold Hr
  split
  ·exact SameJ.refl n
  ·split
   ·exact SameJ.trans (b:=Z2f n e) ⟨rfl,rfl,rfl⟩ (Ym l _)
   ·exact Ym l n
theorem Zby (n:RN)(f:Int)(m:RM):SameJ n (Dk n f m):=by
 unfold Dk
 have h:SameJ n (Ny n f m):=SameJ.trans (b:=Dg {n with hrd:=n.hrd++[f]} f m.num) ⟨rfl,rfl,rfl⟩ (Rq _)
 split
 ·exact SameJ.refl n
 ·split
  ·exact h.trans (Jw _ _ _)
  ·exact h
theorem Z7t {n:RN}(h:NJr n)(p:RPk):NJr (Ey n p):=by
 unfold Ey
 generalize mD p.body.data.toList=m
 split
 ·exact h
 split
 ·unfold D9
  split
  ·exact h
  ·exact Uf _
 split
 ·exact(Zby _ _ _).nj h
 split
 ·exact h
 split
 ·have h0:NJr (J2 n m):=by
   unfold J2
   split
   ·exact O1 rfl
   ·exact h
  unfold G6
  split
  ·exact(Jw _ _ _).nj h0
  ·exact h0
 split
 ·have h0:NJr (Dx n m):=by
   unfold Dx
   split
   ·exact O1 rfl
   ·exact h
  unfold Dq
  split
  ·exact(Jw _ _ _).nj h0
  ·exact h0
 split
 ·unfold G3
  split
  ·exact h
  ·exact((Ym _ _).trans (Jw _ _ _)).nj h
 split
 ·exact SameJ.nj (n:=n) ⟨rfl,rfl,rfl⟩ h
 ·exact h
end Go.Proofs.YtihfaocdpmmooaaGreat
namespace Go.Proofs.YtihfaocdpmmooaaGreat
structure GM where
 s:Bool
 n:PN
 b:Nat
 e:Nat
 r:RN
structure MOk (k:Nat)(x:GM):Prop where
 sim:Sim x.n x.r
 ni:NI k x.n
 nj:NJr x.r
 sh:ShN x.s x.n
def stN:LD:=⟨0,0,0,[],[],false,W2 1100⟩
theorem Z87:Z1d (W2 1100)=some stN:=Z3g (m:=0) (h:=0) (all:=[]) rfl Zm (by decide) (by nofun)
theorem Sc:(W2 1100).now.length=1100:=by
 show(List.replicate (Wu 1100) sec0).length=1100
 rw[List.length_replicate];rfl
theorem Z9x:WSt 0 stN:=⟨Yc 1100,Sc,by show(0:Int)≤_;decide,rfl,by show 0 < 2;decide,rfl,by show 0≤_;decide,Nat.le_refl _,rfl,rfl⟩
theorem Zag:RLd stN:=⟨Zm,rfl,rfl,by nofun⟩
theorem Z0l {m:Nat}(h0:1≤m)(h:m≤7):Aj m≠0:=by have:=U4 h0 h;omega
theorem Te {i m:Nat}(hi:i < m)(hm:m≤7):Pk (W2 1100) i m=some (H9 i m (0,0,[]) stN):=by
 unfold Pk
 rw[if_neg,Z87]
 ·dsimp only
  have e:B5 stN.all (0,0,[])=some (0,0,[]):=rfl
  rw[e]
  dsimp only
  rw[if_pos ⟨by decide,by decide,by decide⟩,Int.toNat_natCast,Int.toNat_natCast]
 ·rw[Sc]
  rintro(h | h | h | h)
  ·exact Z0l (by omega) hm h
  ·omega
  ·omega
  ·exact absurd h (by decide)
theorem Z84 {i m:Nat}(hi:i < m)(hm:m≤7)(b e:Nat):MOk 0 ⟨true,H9 i m (0,0,[]) stN,b,e,H7 i m⟩:=by
 refine⟨Sim.fol rfl rfl rfl rfl rfl rfl rfl rfl rfl,NI.fol ⟨Z9x,Zag,by decide,rfl⟩ rfl ⟨⟨Int.le_refl _,Int.le_refl _,by show(0:Int)≤big;decide⟩,rfl,rfl⟩ rfl hi hm ⟨Int.le_refl _,Int.le_refl _⟩ rfl rfl fun _=>Nat.zero_le _,O1 rfl,⟨fun h=>(by cases h),fun _ _ h=>(by cases h)⟩⟩
end Go.Proofs.YtihfaocdpmmooaaGreat
namespace Go.Proofs.YtihfaocdpmmooaaGreat
def OkP (p:RPk):Prop:=p.body.size≤1000000
def OB (c:Nat)(n:RN):Prop:=n.out.length≤c∧∀p∈n.out,OkP p
theorem Z6k (l:List REnt):(Jj l).length=3 * l.length:=by
 induction l with
 | nil=>rfl
 | cons e l ih =>
  show(enF e++Jj l).length=_
  rw[List.length_append,ih,List.length_cons]
  show 3+_=_;omega
theorem Z5f (m:RM):(bM m).length≤1000000:=by
 unfold bM
 split
 ·next h =>
  obtain⟨a,b,c,d⟩:=Ar h
  have hl:(mF m).length≤455:=by
   unfold mF
   rw[List.length_append,Z6k]
   show 5+_≤_
   omega
  have:=Jo (l:=mF m) (Cu (O8 h))
  omega
 ·exact Nat.zero_le _
theorem OB.up {c d:Nat}{n:RN}(h:OB c n)(hd:c≤d):OB d n:=⟨Nat.le_trans h.1 hd,h.2⟩
theorem Jy {c:Nat}{n:RN}(h:OB c n)(t:Int)(m:RM):OB (c+1) (Hh n t m):=by
 refine⟨?_,fun p hp=>?_⟩
 ·show(n.out++[_]).length≤_
  rw[List.length_append]
  have:=h.1
  show _+1≤_;omega
 ·rcases List.mem_append.1 hp with hp | hp
  ·exact h.2 p hp
  ·obtain rfl:=List.mem_singleton.1 hp
   exact Z5f m
theorem Z4u {f:RN→Nat→RN}{a:Nat}(hf:∀n i c,OB c n→OB (c+a) (f n i)){n:RN}{c:Nat}(h:OB c n):∀k,OB (c+a * k) (Su f n k)
 | 0=>h
 | k+1=>by
  rw[Fg]
  have ih:=Z4u hf h k
  split
  ·exact ih.up (by rw[Nat.mul_succ];omega)
  ·exact(hf _ k _ ih).up (by rw[Nat.mul_succ];omega)
theorem Hv {c k:Nat}{n:RN}(h:OB c n)(hm:n.many=(k:Int))(m:RM):OB (c+k) (C6 n m):=by
 have:=Z4u (f:=fun n i=>Hh n i m) (a:=1) (fun n i c h=>Jy h i m) h n.many.toNat
 unfold C6
 refine this.up ?_
 rw[hm,Int.toNat_natCast];omega
theorem Qm {c k:Nat}{n:RN}(h:OB c n)(hm:n.many=(k:Int)):OB (c+k) (Ea n):=by
 unfold Ea
 split
 ·exact Hv (n:={n with cmt:=Bu n.aks}) h hm _
 ·exact h.up (by omega)
theorem T2 {c k:Nat}{n:RN}(h:OB c n)(hm:n.many=(k:Int)):OB (c+k+k) (Fi n):=by
 unfold Fi
 split
 ·exact h.up (by omega)
 ·have h1:=Hv (n:=Or n (Lo n)) h hm ⟨3,n.pmd,0,0,Lo n⟩
  exact Qm h1 (by rw[(Eg _ _).2.2];exact hm)
theorem Z6p {c k:Nat}{n:RN}(h:OB c n)(hm:n.many=(k:Int))(v:Int):OB (c+k+k+k) (Lg n v).1:=by
 unfold Lg
 split
 ·exact h.up (by omega)
 ·have h1:=Hv (n:={n with pmd:=v,phase:=1,jns:=[⟨n.self,n.normal,A3 n.log,n.log⟩]}) h hm ⟨1,v,0,0,[]⟩
  exact T2 h1 (by rw[(Eg _ _).2.2];exact hm)
theorem Z1n {c k:Nat}{n:RN}(h:OB c n)(hm:n.many=(k:Int))(s:ByteArray):OB (c+k+k) (Ct n s).1:=by
 unfold Ct
 split
 ·exact h.up (by omega)
 ·have h1:=Hv (n:=Dg (Z2f n (Qh n s)) n.self (Qh n s).n) h hm ⟨4,n.pmd,0,(Qh n s).n - 1,[Qh n s]⟩
  exact Qm h1 (by rw[(Eg _ _).2.2];exact hm)
theorem S2:∀(l:List REnt) (n:RN),(Hr l n).out=n.out
 | [],n=>rfl
 | e::l,n=>by
  unfold Hr
  split
  ·rfl
  ·split
   ·exact S2 l _
   ·exact S2 l n
theorem Z8a {c k:Nat}{n:RN}(h:OB c n)(hm:n.many=(k:Int))(p:RPk):OB (c+k+k+1) (Ey n p):=by
 have h0:=h.up (d:=c+k+k+1) (by omega)
 unfold Ey
 generalize mD p.body.data.toList=m
 split
 ·exact h0
 split
 ·unfold D9
  split
  ·exact h0
  ·exact(T2 (n:=O5 n _) h hm).up (by omega)
 split
 ·unfold Dk
  have h1:OB (c+k) (Ny n p.frm m):=Qm (n:=Dg {n with hrd:=n.hrd++[p.frm]} p.frm m.num) h hm
  split
  ·exact h0
  ·split
   ·exact(Jy h1 _ _).up (by omega)
   ·exact h1.up (by omega)
 split
 ·exact h0
 split
 ·have h1:OB c (J2 n m):=by
   unfold J2
   split
   ·exact h
   ·exact h
  unfold G6
  split
  ·exact(Jy h1 _ _).up (by omega)
  ·exact h1.up (by omega)
 split
 ·have h1:OB c (Dx n m):=by
   unfold Dx
   split
   ·exact h
   ·exact h
  unfold Dq
  split
  ·exact(Jy h1 _ _).up (by omega)
  ·exact h1.up (by omega)
 split
 ·unfold G3
  split
  ·exact h0
  ·have h1:OB c (Hr m.l n):=by
    unfold OB
    rw[S2];exact h
   exact(Jy h1 _ _).up (by omega)
 split
 ·exact h0
 ·exact h0
end Go.Proofs.YtihfaocdpmmooaaGreat

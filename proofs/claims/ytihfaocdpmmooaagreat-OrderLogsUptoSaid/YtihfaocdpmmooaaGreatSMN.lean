
import Derived.Test.YtihfaocdpmmooaaGreatSMM
import Derived.Test.YtihfaocdpmmooaaGreatZNm
namespace Go.Proofs.YtihfaocdpmmooaaGreat
theorem NI.up {k j:Nat}{n:PN}(h:NI k n)(hj:k≤j)(hb:j≤900000000):NI j n:=⟨⟨h.sl.ws.up hj,h.sl.rl,hb,h.sl.ld⟩,h.arm,h.nv,h.dead,h.self,h.m7,h.com,h.ld,h.st,h.jn,h.jl⟩
theorem Z0e {l:List REnt}{v u:Int}(h:B7 l v=true)(hu:u≤v):vw u l≤v:=by
 unfold vw
 cases hg:l.getLast? with
 | none=>exact hu
 | some e =>
  unfold B7 at h
  rw[List.all_eq_true] at h
  exact of_decide_eq_true (h e (List.mem_of_getLast? hg))
theorem Wa {l:List REnt}{e:REnt}(h:B3 l=true)(hn:e.n=A5 l+1)(h1:vw 1 l≤e.v)(h2:e.v≤big)(hs:e.b.size≤200)(hl:l.length < 150):B3 (l++[e])=true:=by
 have hle:=Dj l
 unfold B3 at h⊢
 rw[Bool.and_eq_true,decide_eq_true_iff] at h
 rw[Kw,h.1,List.length_append]
 have e2:Ag (vw 1 l) (0+l.length) [e]=true:=by
  show(okB (vw 1 l) (0+l.length) e&&true)=true
  unfold okB
  rw[decide_eq_true ⟨by omega,h1,h2,hs⟩]
  rfl
 rw[e2,decide_eq_true (by show l.length+1≤150;omega)]
 rfl
theorem Zx {l:List REnt}{e:REnt}{v:Int}(h:B7 l v=true)(he:e.v≤v):B7 (l++[e]) v=true:=by
 unfold B7 at *
 rw[List.all_append,h]
 show(true&&(decide (e.v≤v)&&true))=true
 rw[decide_eq_true he];rfl
theorem O0 {k:Nat}{n:PN}(hi:NI k n){e:REnt}(hn:e.n=A5 n.log+1)(h1:vw 1 n.log≤e.v)(h10:1≤e.v)(h2:e.v≤n.normal)(hs:e.b.size≤200)(hl:n.log.length < 150) :
  X6 n e=true∧NV {n with log:=n.log++[e]}∧∃st,Jl n e={n with log:=n.log++[e],st:=st}∧WSt (k+1) st∧RLd st∧st.d.armed=0∧B4 st.all (0,0,[])=some (n.pmd,n.normal,n.log++[e]):=by
 have hp:=hi.nv.p
 have hle:=Dj n.log
 have hN:NV {n with log:=n.log++[e]}:=⟨hp,Wa hi.nv.log hn h1 (by omega) hs hl,Zx hi.nv.top h2⟩
 have hb:=Yk
 have hz:=(Fz (k:=3) (a:=e.v) (b:=e.n) (s:=e.b) (by omega) (by omega) (by omega) (by omega)).1
 obtain⟨q1,q2,q3,q4⟩:=Pu (n:={n with log:=n.log++[e]}) (r:=Ca 3 e.v e.n e.b) hi.sl.ws hi.sl.rl hi.sl.kk hi.arm hN (by omega) (by
  show B4 (n.st.all++[Ca 3 e.v e.n e.b]) (0,0,[])=some (n.pmd,n.normal,n.log++[e])
  rw[Kz,hi.sl.ld]
  show Cr (n.pmd,n.normal,n.log) (Ca 3 e.v e.n e.b)=_
  rw[Z6f (by omega) (by omega) (by omega)])
 have q5:=(Jc (n:={n with log:=n.log++[e]}) hi.sl.ws (Ca 3 e.v e.n e.b) q1).1
 exact⟨q1,hN,_,Mi q1,q5,q2,q3,q4⟩
theorem Uv (n:PN)(i:Nat)(x:Int)(l:List REnt)(st:LD)(hd:Nat→Bool):Bk {n with log:=l,st:=st,hrd:=hd,aks:=fun j=>if j=i then x else n.aks j}=(Bk n).set i x:=by
 refine List.ext_getElem? fun j=>?_
 unfold Bk
 show((List.range n.many).map fun j=>if j=i then x else n.aks j)[j]?=_
 rw[List.getElem?_map,List.getElem?_set,List.length_map,List.length_range,List.getElem?_map]
 by_cases hj:j < n.many
 ·rw[List.getElem?_range hj]
  by_cases h:i=j
  ·rw[if_pos h,if_pos (by omega)]
   show some (if j=i then _ else _)=_
   rw[if_pos h.symm]
  ·rw[if_neg h]
   show some (if j=i then _ else _)=_
   rw[if_neg (fun e=>h e.symm)];rfl
 ·rw[List.getElem?_eq_none (by rw[List.length_range];omega)]
  by_cases h:i=j
  ·rw[if_pos h,if_neg (by omega)];rfl
  ·rw[if_neg h];rfl
theorem Sc {n:PN}{i:Nat}(h:i < n.many):(Bk n)[i]?.getD 0=n.aks i:=by
 unfold Bk
 rw[List.getElem?_map,List.getElem?_range h];rfl
theorem Y2 {k:Nat}{n:PN}{r:RN}(h:Sim n r)(hi:NI k n)(hk:k+1≤900000000)(s:ByteArray):(Bp n s).2=(Cq r s).2∧Sim (Bp n s).1 (Cq r s).1∧NI (k+1) (Bp n s).1:=by
 have up:NI (k+1) n:=hi.up (by omega) hk
 obtain⟨rs,rm,rp,rn,rl,rc,rph,rj,ra,rf,rh,ro⟩:=r
 obtain rfl:rs=n.self:=h.self
 obtain rfl:rm=n.many:=h.many
 obtain rfl:rp=n.pmd:=h.pmd
 obtain rfl:rn=n.normal:=h.normal
 obtain rfl:rl=n.log:=h.log
 obtain rfl:rc=n.cmt:=h.cmt
 obtain rfl:ro=n.out:=h.out
 have hph:rph=if n.lds=true then(if n.std=true then 2 else 1) else 0:=h.phase
 unfold Bp Cq
 dsimp only
 by_cases hs:n.std=false
 ·rw[if_pos (.inr (.inl hs)),if_pos (.inl (by rw[hph,hs];split<;>decide))]
  exact⟨rfl,h,up⟩
 ·have hs:n.std=true:=by simpa using hs
  obtain⟨s1,s2,s3,s4,s5⟩:=hi.st hs
  rw[s1,hs,if_pos rfl,if_pos rfl] at hph
  subst hph
  by_cases hc:n.log.length ≥ 150∨s.size > 200
  ·rw[if_pos (.inr (.inr hc)),if_pos (.inr hc)]
   exact⟨rfl,h,up⟩
  ·rw[if_neg (by rw[hi.dead,hs];rintro(h | h | h);cases h;cases h;exact hc h)]
   obtain⟨a1,a2,a3⟩:=h.aks s1 hs
   obtain rfl:ra=Bk n:=a1
   obtain rfl:rf=n.first:=a2
   have hl:=hi.ld s1
   have hp:=hi.nv.p
   have hle:=Dj n.log
   obtain⟨q1,qv,st,q2,q3,q4,q5,q6⟩:=O0 hi (e:=⟨n.pmd,A5 n.log+1,s⟩) rfl (Z0e (by rw[←s2];exact hi.nv.top) hl.2) hl.2 (by show n.pmd≤_;omega) (by show s.size≤200;omega) (by omega)
   rw[if_pos q1,q2,if_neg (by rintro(h | h);exact h rfl;exact hc h)]
   have hself:=hi.self
   have em:(⟨4,n.pmd,0,A5 n.log+1 - 1,[⟨n.pmd,A5 n.log+1,s⟩]⟩:RM)=⟨4,n.pmd,0,(n.log.length:Int),[⟨n.pmd,(n.log.length:Int)+1,s⟩]⟩:=by rw[hle,Int.add_sub_cancel]
   have hm:okM ⟨4,n.pmd,0,A5 n.log+1 - 1,[⟨n.pmd,A5 n.log+1,s⟩]⟩=true:=by rw[em];exact Z7n (by omega) (by omega) (by omega)
   have eA:=Uv n n.self (A5 n.log+1) (n.log++[⟨n.pmd,A5 n.log+1,s⟩]) st n.hrd
   have hlA:A5 (n.log++[⟨n.pmd,A5 n.log+1,s⟩])=A5 n.log+1:=by rw[Dj,List.length_append,hle];show((n.log.length+1:Nat):Int)=_;omega
   have hS:Sim {n with log:=n.log++[⟨n.pmd,A5 n.log+1,s⟩],st:=st,aks:=fun i=>if i=n.self then A5 n.log+1 else n.aks i} (Dn (Z2q ⟨n.self,n.many,n.pmd,n.normal,n.log,n.cmt,2,rj,Bk n,n.first,rh,n.out⟩ ⟨n.pmd,A5 n.log+1,s⟩) n.self (A5 n.log+1)):=by
    refine⟨rfl,rfl,rfl,rfl,rfl,rfl,rfl,?_,fun _ hh=>absurd hs (by have hh:n.std=false:=hh;rw[hh];decide),fun _ _=>⟨?_,rfl,a3⟩⟩
    ·show(2:Int)=if n.lds=true then(if n.std=true then 2 else 1) else 0
     rw[s1,hs];rfl
    ·refine Eq.trans ?_ eA.symm
     show(Bk n).set (n.self:Int).toNat (max ((Bk n)[(n.self:Int).toNat]?.getD 0) (A5 n.log+1))=_
     rw[Int.toNat_natCast,Sc hself]
     have:=(s3 n.self).2
     rw[show max (n.aks n.self) (A5 n.log+1)=A5 n.log+1 by omega]
   have hN:NI (k+1) {n with log:=n.log++[⟨n.pmd,A5 n.log+1,s⟩],st:=st,aks:=fun i=>if i=n.self then A5 n.log+1 else n.aks i}:=by
    have hcom:=hi.com
    have hll:(n.log++[(⟨n.pmd,A5 n.log+1,s⟩:REnt)]).length=n.log.length+1:=by rw[List.length_append];rfl
    refine⟨⟨q3,q4,hk,q6⟩,q5,⟨qv.p,qv.log,qv.top⟩,hi.dead,hi.self,hi.m7,?_,hi.ld,fun _=>⟨s1,s2,fun x=>?_,?_,?_⟩,fun _ hh=>absurd hs (by have hh:n.std=false:=hh;rw[hh];decide),hi.jl⟩
    ·show 0≤n.cmt∧n.cmt≤((n.log++[(⟨n.pmd,A5 n.log+1,s⟩:REnt)]).length:Int)
     rw[hll];omega
    ·show 0≤(if x=n.self then A5 n.log+1 else n.aks x)∧(if x=n.self then A5 n.log+1 else n.aks x)≤((n.log++[(⟨n.pmd,A5 n.log+1,s⟩:REnt)]).length:Int)
     rw[hll]
     have:=s3 x
     split<;>omega
    ·show 0≤n.first∧n.first≤((n.log++[(⟨n.pmd,A5 n.log+1,s⟩:REnt)]).length:Int)
     rw[hll];omega
    ·show B7 ((n.log++[(⟨n.pmd,A5 n.log+1,s⟩:REnt)]).take n.first.toNat) (n.pmd - 1)=true
     rw[List.take_append_of_le_length (by omega)];exact s5
   have h1:=hS.spread hm
   have hss:=A2 {n with log:=n.log++[⟨n.pmd,A5 n.log+1,s⟩],st:=st,aks:=fun i=>if i=n.self then A5 n.log+1 else n.aks i} ⟨4,n.pmd,0,A5 n.log+1 - 1,[⟨n.pmd,A5 n.log+1,s⟩]⟩
   have h2:=hN.same hss
   obtain⟨o,e⟩:=hss.to
   obtain⟨r1,r2,-⟩:=Ol h1 h2 (by rw[e];exact hs)
   exact⟨rfl,r1,r2⟩
theorem Xb {j:Nat→RJ}{m i:Nat}(h:i < m)(n:RN)(hn:n.jns=jrL j m):Zv n i=(j i).is:=by
 unfold Zv
 rw[hn]
 unfold jrL
 rw[List.any_map]
 cases hj:(j i).is with
 | true =>
  rw[List.any_eq_true]
  exact⟨i,List.mem_filter.2 ⟨List.mem_range.2 h,hj⟩,by simp⟩
 | false =>
  rw[List.any_eq_false]
  intro x hx
  obtain⟨h1,h2⟩:=List.mem_filter.1 hx
  intro h3
  have h3:(x:Int)=(i:Int):=by simpa using h3
  have:x=i:=by omega
  rw[this,hj] at h2
  cases h2
theorem Zg1:¬(0:Int)=1:=by decide
theorem Zeq:¬(0:Int)=2:=by decide
theorem Z9s:¬(1:Int)=2:=by decide
theorem Zg6:¬(2:Int)=1:=by decide
theorem Tq {n:RN}{i:Nat}(h:¬n.phase=1):Jw n i=n:=by unfold Jw;rw[if_neg (fun hh=>h hh.1)]
theorem N2 {n:RN}{i:Nat}(h:¬n.phase=2):Ju n i=n:=by unfold Ju;rw[if_neg (fun hh=>h hh.1)]
theorem N0 {n:RN}{i:Nat}(h:¬n.phase=2):J4 n i=n:=by unfold J4;rw[if_neg (fun hh=>h hh.1)]
theorem Of {n:RN}{i:Nat}(h:¬n.phase=2):J3 n i=n:=by unfold J3;rw[if_neg h]
theorem Xi {k:Nat}{n:PN}{r:RN}(h:Sim n r)(hi:NI k n):Sim (Bm n) (F7 r)∧NI k (Bm n):=by
 obtain⟨rs,rm,rp,rn,rl,rc,rph,rj,ra,rf,rh,ro⟩:=r
 obtain rfl:rs=n.self:=h.self
 obtain rfl:rm=n.many:=h.many
 obtain rfl:rp=n.pmd:=h.pmd
 obtain rfl:rn=n.normal:=h.normal
 obtain rfl:rl=n.log:=h.log
 obtain rfl:rc=n.cmt:=h.cmt
 obtain rfl:ro=n.out:=h.out
 have hph:rph=if n.lds=true then(if n.std=true then 2 else 1) else 0:=h.phase
 have hp:=hi.nv.p
 have hcom:=hi.com
 have hlen:=hi.nv.ents.1
 have fin:∀(f:RN→Nat→RN) (g:Nat→List RPk),(∀o i,i < n.many→f ⟨n.self,n.many,n.pmd,n.normal,n.log,n.cmt,rph,rj,ra,rf,rh,o⟩ i=⟨n.self,n.many,n.pmd,n.normal,n.log,n.cmt,rph,rj,ra,rf,rh,o++g i⟩)→Ox f ⟨n.self,n.many,n.pmd,n.normal,n.log,n.cmt,rph,rj,ra,rf,rh,n.out⟩ n.many=⟨n.self,n.many,n.pmd,n.normal,n.log,n.cmt,rph,rj,ra,rf,rh,n.out++(W5 n.self n.many).flatMap g⟩:=fun f g hf=>O6 (f:=f) (g:=g) (r:=⟨n.self,n.many,n.pmd,n.normal,n.log,n.cmt,rph,rj,ra,rf,rh,n.out⟩) (s:=n.self) rfl n.many fun o i hi=>hf o i hi
 unfold F7
 dsimp only
 rw[Int.toNat_natCast]
 cases hl:n.lds with
 | false =>
  rw[hl] at hph
  have hph:rph=0:=hph
  subst hph
  have e:Bm n=n:=by unfold Bm;rw[if_pos (.inr hl)]
  rw[e,fin _ (fun _=>[]) fun o i _=>?_]
  ·refine⟨?_,hi⟩
   have e0:((W5 n.self n.many).flatMap fun _=>([]:List RPk))=[]:=by simp
   rw[e0,List.append_nil]
   exact h
  ·rw[Tq Zg1,N2 Zeq,N0 Zeq,Of Zeq,List.append_nil]
 | true =>
  obtain⟨l1,l2⟩:=hi.ld hl
  cases hs:n.std with
  | false =>
   rw[hl,hs] at hph
   have hph:rph=1:=hph
   subst hph
   have hj:=h.jns hl hs
   have e:Bm n={n with out:=n.out++(W5 n.self n.many).flatMap fun i:Nat=>if(n.jns i).is=true then [] else [⟨(n.self:Int),(i:Int),⟨(bM ⟨1,n.pmd,0,0,[]⟩).toArray⟩⟩]}:=by
    unfold Bm
    rw[if_neg (by rw[hi.dead,hl];rintro(h | h)<;>cases h),if_neg (by rw[hs];decide)]
    refine K8 (g:=fun i:Nat=>if(n.jns i).is=true then [] else [⟨(n.self:Int),(i:Int),⟨(bM ⟨1,n.pmd,0,0,[]⟩).toArray⟩⟩]) n.many fun o i hin=>?_
    unfold Eh
    dsimp only
    split
    ·next hh=>rw[List.append_nil]
    ·next hh=>rw[Ff (Yh (by omega))]
   rw[e,fin _ (fun i:Nat=>if(n.jns i).is=true then [] else [⟨(n.self:Int),(i:Int),⟨(bM ⟨1,n.pmd,0,0,[]⟩).toArray⟩⟩]) fun o i hin=>?_]
   ·exact⟨h.snd _,hi.snd _⟩
   ·have ef:Zv ⟨n.self,n.many,n.pmd,n.normal,n.log,n.cmt,1,rj,ra,rf,rh,o⟩ i=(n.jns i).is:=Xb hin _ hj
    unfold Jw
    dsimp only
    rw[ef]
    cases hji:(n.jns i).is with
    | true =>
     rw[if_neg (by rintro⟨-,h⟩;cases h),if_pos rfl,List.append_nil]
     rw[N2 Z9s,N0 Z9s,Of Z9s]
    | false =>
     rw[if_pos ⟨rfl,rfl⟩,if_neg (by decide)]
     unfold Dw
     rw[N2 Z9s,N0 Z9s,Of Z9s]
  | true =>
   rw[hl,hs] at hph
   have hph:rph=2:=hph
   subst hph
   obtain⟨s1,s2,s3,s4,s5⟩:=hi.st hs
   obtain⟨a1,a2,a3⟩:=h.aks hl hs
   obtain rfl:ra=Bk n:=a1
   obtain rfl:rf=n.first:=a2
   have m1:∀i:Nat,okM ⟨4,n.pmd,0,n.aks i,n.log.drop (n.aks i).toNat⟩=true:=fun i=>by
    have:=s3 i
    have:=Z07 (v:=n.pmd) (k:=(n.aks i).toNat) (l:=n.log) (by omega) (by omega) hi.nv.log (by rw[←s2];exact hi.nv.top)
    rwa [show(((n.aks i).toNat:Nat):Int)=n.aks i by omega] at this
   have hrt:B3 (n.log.take n.first.toNat)=true:=by
    have hr:=hi.nv.log
    unfold B3 at hr⊢
    rw[Bool.and_eq_true,decide_eq_true_iff] at hr
    have h2:=hr.1
    rw[←List.take_append_drop n.first.toNat n.log,Kw,Bool.and_eq_true] at h2
    rw[h2.1,decide_eq_true (by rw[List.length_take];omega)]
    rfl
   have m2:okM ⟨3,n.pmd,0,0,n.log.take n.first.toNat⟩=true:=P0 (by omega) hrt s5
   have m3:okM ⟨6,n.pmd,0,n.cmt,[]⟩=true:=U8 (by omega) (by omega)
   let g:Nat→List RPk:=fun i:Nat=>(if n.hrd i=true then [⟨(n.self:Int),(i:Int),⟨(bM ⟨4,n.pmd,0,n.aks i,n.log.drop (n.aks i).toNat⟩).toArray⟩⟩] else [⟨(n.self:Int),(i:Int),⟨(bM ⟨3,n.pmd,0,0,n.log.take n.first.toNat⟩).toArray⟩⟩])++[⟨(n.self:Int),(i:Int),⟨(bM ⟨6,n.pmd,0,n.cmt,[]⟩).toArray⟩⟩]
   have e:Bm n={n with out:=n.out++(W5 n.self n.many).flatMap g}:=by
    unfold Bm
    rw[if_neg (by rw[hi.dead,hl];rintro(h | h)<;>cases h),if_pos hs]
    refine K8 (g:=g) n.many fun o i hin=>?_
    unfold Eg
    dsimp only[g]
    split
    ·next hh=>rw[Ff (m1 i),Ff m3];dsimp only;rw[List.append_assoc]
    ·next hh=>rw[Ff m2,Ff m3];dsimp only;rw[List.append_assoc]
   rw[e,fin _ g fun o i hin=>?_]
   ·exact⟨h.snd _,hi.snd _⟩
   ·have eh:∀o,L0 ⟨n.self,n.many,n.pmd,n.normal,n.log,n.cmt,2,rj,Bk n,n.first,rh,o⟩ i=n.hrd i:=fun o=>a3 i hin
    rw[Tq Zg6]
    unfold Ju
    rw[eh]
    dsimp only
    rw[Sc hin]
    dsimp only[g]
    cases hh:n.hrd i with
    | true =>
     rw[if_pos ⟨rfl,rfl⟩,if_pos rfl]
     unfold Dw J4
     dsimp only
     rw[eh,hh,if_neg (by rintro⟨-,h⟩;cases h)]
     unfold J3
     rw[if_pos rfl]
     unfold Dw
     dsimp only
     rw[List.append_assoc]
    | false =>
     rw[if_neg (by rintro⟨-,h⟩;cases h),if_neg (by decide)]
     unfold J4
     rw[eh,hh,if_pos ⟨rfl,rfl⟩]
     unfold Dw J3
     rw[if_pos rfl]
     unfold Dw
     dsimp only
     rw[List.append_assoc]
end Go.Proofs.YtihfaocdpmmooaaGreat
namespace Go.Proofs.YtihfaocdpmmooaaGreat
theorem Me:∀{l:List REnt} {v:Int} {k:Nat},Gm k v l=true→B7 l big=true→Ag v k l=true
 | [],_,_,_,_=>rfl
 | e::l,v,k,h,hm=>by
  unfold Gm at h
  rw[Bool.and_eq_true,decide_eq_true_iff] at h
  have hm0:(decide (e.v≤big)&&B7 l big)=true:=hm
  rw[Bool.and_eq_true,decide_eq_true_iff] at hm0
  show(okB v k e&&Ag e.v (k+1) l)=true
  have:=Me (l:=l) (v:=e.v) (k:=k+1) (by rw[show((k+1:Nat):Int)=(k:Int)+1 by omega];exact h.2) hm0.2
  rw[this]
  unfold okB
  rw[decide_eq_true ⟨h.1.1,h.1.2.2.1,hm0.1,h.1.2.2.2⟩];rfl
theorem Sr {l:List REnt}{v:Int}(h:L2 0 l=true)(hm:B7 l v=true)(hv:v≤big):B3 l=true:=by
 unfold L2 at h
 rw[Bool.and_eq_true] at h
 unfold B3
 rw[Me (k:=0) h.1 (Gc hm (fun e he=>he) hv),h.2];rfl
theorem Zeh {m:RM}(h:okM m=true)(hk:m.kind=2):B3 m.l=true∧B7 m.l m.normal=true:=by
 obtain⟨hb,-⟩:=Az h
 unfold okM at h
 rw[Bool.and_eq_true] at h
 have h2:=h.2
 rw[hk,if_neg (by decide),if_pos rfl,Bool.and_eq_true,Bool.and_eq_true] at h2
 exact⟨Sr h2.1.2 h2.2 (by omega),h2.2⟩
theorem Ze8 {m:RM}(h:okM m=true)(hk:m.kind=3):B3 m.l=true∧B7 m.l (m.view - 1)=true:=by
 obtain⟨hb,-⟩:=Az h
 unfold okM at h
 rw[Bool.and_eq_true] at h
 have h2:=h.2
 rw[hk,if_neg (by decide),if_neg (by decide),if_pos rfl,Bool.and_eq_true,Bool.and_eq_true] at h2
 exact⟨Sr h2.1.2 h2.2 (by omega),h2.2⟩
theorem Zev {m:RM}(h:okM m=true)(hk:m.kind=4):Gm m.num 1 m.l=true∧B7 m.l m.view=true:=by
 unfold okM at h
 rw[Bool.and_eq_true] at h
 have h2:=h.2
 rw[hk,if_neg (by decide),if_neg (by decide),if_neg (by decide),if_pos rfl,Bool.and_eq_true,Bool.and_eq_true] at h2
 unfold L2 at h2
 rw[Bool.and_eq_true] at h2
 exact⟨h2.1.2.1,h2.2⟩
theorem NI.fol {k:Nat}{n:PN}(sl:SL k n)(arm:n.st.d.armed=0)(nv:NV n)(dead:n.dead=false)(self:n.self < n.many)(m7:n.many≤7)(com:0≤n.cmt∧n.cmt≤n.log.length)(hl:n.lds=false)(hs:n.std=false)(jl:∀i,(n.jns i).l.length≤150):NI k n :=
 ⟨sl,arm,nv,dead,self,m7,com,fun h=>absurd h (by rw[hl];decide),fun h=>absurd h (by rw[hs];decide),fun h=>absurd h (by rw[hl];decide),jl⟩
theorem Sim.fol {n:PN}{r:RN}(self:r.self=n.self)(many:r.many=n.many)(pmd:r.pmd=n.pmd)(normal:r.normal=n.normal)(log:r.log=n.log)(cmt:r.cmt=n.cmt)(out:r.out=n.out)(phase:r.phase=0)(hl:n.lds=false):Sim n r :=
 ⟨self,many,pmd,normal,log,cmt,out,by rw[phase,hl];rfl,fun h=>absurd h (by rw[hl];decide),fun h=>absurd h (by rw[hl];decide)⟩
theorem NI.unst {k:Nat}{n:PN}(h:NI k n)(hl:n.lds=false):n.std=false:=by
 cases hs:n.std with
 | false=>rfl
 | true=>have:=(h.st hs).1;rw[hl] at this;cases this
theorem Up:∀(A B:List RJn) (j:RJn),(∀x∈A,x.frm < j.frm)→(∀x∈B,j.frm < x.frm)→Z83 (A++B) j=A++j::B
 | [],[],j,_,_=>rfl
 | [],x::B,j,_,h=>by
  show(if x.frm > j.frm then j::x::B else x::Z83 B j)=_
  rw[if_pos (h x (by simp))];rfl
 | x::A,B,j,h,h2=>by
  show(if x.frm > j.frm then j::x::(A++B) else x::Z83 (A++B) j)=_
  rw[if_neg (by have:=h x (by simp);omega),Up A B j (fun y hy=>h y (by simp[hy])) h2];rfl
theorem Ui {α β:Type}(p:α→Bool)(f:α→β):∀l:List α,(l.filter p).map f=l.flatMap fun x=>if p x=true then [f x] else []
 | []=>rfl
 | x::l=>by
  rw[List.flatMap_cons,←Ui p f l]
  by_cases h:p x=true
  ·rw[List.filter_cons_of_pos h,if_pos h];rfl
  ·rw[List.filter_cons_of_neg h,if_neg h];rfl
theorem Z0h (j:Nat→RJ)(m:Nat):jrL j m=(List.range m).flatMap fun i:Nat=>if(j i).is=true then [⟨(i:Int),(j i).normal,A5 (j i).l,(j i).l⟩] else []:=Ui (fun i=>(j i).is) _ _
theorem Iw {α β:Type}{f g:α→List β}:∀{l:List α},(∀x∈l,f x=g x)→l.flatMap f=l.flatMap g
 | [],_=>rfl
 | x::l,h=>by rw[List.flatMap_cons,List.flatMap_cons,h x (by simp),Iw fun y hy=>h y (by simp[hy])]
theorem Zby {j:Nat→RJ}{m i:Nat}(hi:i < m)(hj:(j i).is=false)(q:Int)(l:List REnt):Z83 (jrL j m) ⟨i,q,A5 l,l⟩=jrL (fun y=>if y=i then⟨true,q,l⟩ else j y) m:=by
 obtain⟨d,rfl⟩:∃d,m=i+(1+d):=⟨m - i - 1,by omega⟩
 rw[Z0h,Z0h,List.range_add,List.flatMap_append,List.flatMap_append,List.range_add,List.map_append,List.flatMap_append,List.flatMap_append]
 have e1:(List.range i).flatMap (fun y:Nat=>if(if y=i then(⟨true,q,l⟩:RJ) else j y).is=true then [(⟨(y:Int),(if y=i then(⟨true,q,l⟩:RJ) else j y).normal,A5 (if y=i then(⟨true,q,l⟩:RJ) else j y).l,(if y=i then(⟨true,q,l⟩:RJ) else j y).l⟩:RJn)] else [])=(List.range i).flatMap fun y:Nat=>if(j y).is=true then [(⟨(y:Int),(j y).normal,A5 (j y).l,(j y).l⟩:RJn)] else []:=Iw fun y hy=>by
  have:=List.mem_range.1 hy
  rw[if_neg (by omega:¬y=i)]
 have e2:(((List.range d).map fun x=>1+x).map fun x=>i+x).flatMap (fun y:Nat=>if(if y=i then(⟨true,q,l⟩:RJ) else j y).is=true then [(⟨(y:Int),(if y=i then(⟨true,q,l⟩:RJ) else j y).normal,A5 (if y=i then(⟨true,q,l⟩:RJ) else j y).l,(if y=i then(⟨true,q,l⟩:RJ) else j y).l⟩:RJn)] else [])=(((List.range d).map fun x=>1+x).map fun x=>i+x).flatMap fun y:Nat=>if(j y).is=true then [(⟨(y:Int),(j y).normal,A5 (j y).l,(j y).l⟩:RJn)] else []:=Iw fun y hy=>by
  obtain⟨x,hx,rfl⟩:=List.mem_map.1 hy
  obtain⟨z,-,rfl⟩:=List.mem_map.1 hx
  rw[if_neg (by omega:¬i+(1+z)=i)]
 rw[e1,e2]
 have e3:((List.range 1).map fun x=>i+x)=[i]:=rfl
 rw[e3]
 have e4:[i].flatMap (fun y:Nat=>if(j y).is=true then [(⟨(y:Int),(j y).normal,A5 (j y).l,(j y).l⟩:RJn)] else [])=[]:=by
  show(if(j i).is=true then _ else _)++[]=_
  rw[hj];rfl
 have e5:[i].flatMap (fun y:Nat=>if(if y=i then(⟨true,q,l⟩:RJ) else j y).is=true then [(⟨(y:Int),(if y=i then(⟨true,q,l⟩:RJ) else j y).normal,A5 (if y=i then(⟨true,q,l⟩:RJ) else j y).l,(if y=i then(⟨true,q,l⟩:RJ) else j y).l⟩:RJn)] else [])=[(⟨i,q,A5 l,l⟩:RJn)]:=by
  show(if(if i=i then(⟨true,q,l⟩:RJ) else j i).is=true then _ else _)++[]=_
  rw[if_pos rfl];rfl
 rw[e4,e5,List.nil_append]
 refine Up _ _ _ (fun x hx=>?_) fun x hx=>?_
 ·obtain⟨y,hy,hx⟩:=List.mem_flatMap.1 hx
  have:=List.mem_range.1 hy
  split at hx
  ·obtain rfl:=List.mem_singleton.1 hx
   show(y:Int) < (i:Int);omega
  ·cases hx
 ·obtain⟨y,hy,hx⟩:=List.mem_flatMap.1 hx
  obtain⟨a,ha,rfl⟩:=List.mem_map.1 hy
  obtain⟨z,-,rfl⟩:=List.mem_map.1 ha
  split at hx
  ·obtain rfl:=List.mem_singleton.1 hx
   show(i:Int) < ((i+(1+z):Nat):Int);omega
  ·cases hx
def NJr (r:RN):Prop:=r.phase=1→(r.jns.length:Int) < Ak r.many
theorem Sim.st {n:PN}{r:RN}(h:Sim n r):(r.phase=0↔n.lds=false)∧(n.lds=true→n.std=false→r.phase=1)∧(n.lds=true→n.std=true→r.phase=2):=by
 have:=h.phase
 cases hl:n.lds with
 | false=>rw[hl] at this;exact⟨⟨fun _=>rfl,fun _=>this⟩,fun h=>(by cases h),fun h=>(by cases h)⟩
 | true =>
  cases hs:n.std with
  | false=>rw[hl,hs] at this;exact⟨⟨fun h=>(by rw[this] at h;cases h),fun h=>(by cases h)⟩,fun _ _=>this,fun _ h=>(by cases h)⟩
  | true=>rw[hl,hs] at this;exact⟨⟨fun h=>(by rw[this] at h;cases h),fun h=>(by cases h)⟩,fun _ h=>(by cases h),fun _ _=>this⟩
theorem Z4u {k:Nat}{n:PN}{r:RN}(h:Sim n r)(hi:NI k n)(hk:k+1≤900000000)(hq:NJr r)(hl:n.lds=true)(hs:n.std=false){f:Nat}(hf:f < n.many){m:RM}(hm:okM m=true)(hk2:m.kind=2)(hv:n.pmd=m.view) :
  Sim (C2 (if(n.jns f).is=true then n else {n with jns:=fun i=>if i=f then⟨true,m.normal,m.l⟩ else n.jns i})) (Df r f m)∧NI (k+1) (C2 (if(n.jns f).is=true then n else {n with jns:=fun i=>if i=f then⟨true,m.normal,m.l⟩ else n.jns i})):=by
 have hph:=h.st.2.1 hl hs
 have hj:=h.jns hl hs
 have hfr:=Xb hf r hj
 unfold Df
 cases hjf:(n.jns f).is with
 | true =>
  rw[if_pos rfl,if_pos (.inr (.inr (by rw[hfr,hjf])))]
  have hb:C2 n=n:=by
   unfold C2
   rw[if_pos]
   have:=hq hph
   rw[hj,Z6y,h.many] at this
   exact this
  rw[hb]
  exact⟨h,hi.up (by omega) hk⟩
 | false =>
  rw[if_neg (by decide),if_neg (by rintro(h1 | h1 | h1);exact h1 hph;rw[h.pmd] at h1;exact h1 hv;rw[hfr,hjf] at h1;cases h1)]
  obtain⟨hb1,-,hb3,-⟩:=Az hm
  obtain⟨m1,m2⟩:=Zeh hm hk2
  refine Q4 (n:={n with jns:=fun i=>if i=f then⟨true,m.normal,m.l⟩ else n.jns i}) (r:=Ni r ⟨f,m.normal,A5 m.l,m.l⟩) ?_ ?_ hk hl hs
  ·refine⟨h.self,h.many,h.pmd,h.normal,h.log,h.cmt,h.out,h.phase,fun _ _=>?_,h.aks⟩
   show Z83 r.jns ⟨f,m.normal,A5 m.l,m.l⟩=jrL (fun i=>if i=f then⟨true,m.normal,m.l⟩ else n.jns i) n.many
   rw[hj]
   exact Zby hf hjf _ _
  ·refine⟨⟨hi.sl.ws,hi.sl.rl,hi.sl.kk,hi.sl.ld⟩,hi.arm,⟨hi.nv.p,hi.nv.log,hi.nv.top⟩,hi.dead,hi.self,hi.m7,hi.com,hi.ld,hi.st,fun _ _=>⟨(hi.jn hl hs).1,fun i hii=>?_⟩,fun i=>?_⟩
   ·dsimp only at hii⊢
    split
    ·exact⟨⟨hb1.2.2.1,by show m.normal < n.pmd;omega⟩,m1,m2⟩
    ·next hne=>rw[if_neg hne] at hii;exact(hi.jn hl hs).2 i hii
   ·dsimp only
    split
    ·exact hb3
    ·exact hi.jl i
theorem Zp (r:RN)(f i:Nat):L0 {r with hrd:=r.hrd++[(f:Int)]} i=if i=f then true else L0 r i:=by
 unfold L0
 show(r.hrd++[(f:Int)]).any _=_
 rw[List.any_append]
 show(_||(decide ((f:Int)=(i:Int))||false))=_
 by_cases h:i=f
 ·subst h;rw[if_pos rfl,decide_eq_true rfl];simp
 ·rw[if_neg h,decide_eq_false (by omega)];simp
theorem Z86 {k:Nat}{n:PN}{r:RN}(h:Sim n r)(hi:NI k n)(hl:n.lds=true)(hs:n.std=true){f:Nat}(hf:f < n.many){m:RM}(hm:okM m=true)(hv:n.pmd=m.view)(hn:m.num≤n.log.length) :
  Sim ((fun n2:PN=>if m.num < n2.log.length then Ar n2 f ⟨4,n2.pmd,0,m.num,n2.log.drop m.num.toNat⟩ else n2)
   (Dh {n with aks:=fun i=>if i=f then max (n.aks f) m.num else n.aks i,hrd:=fun i=>if i=f then true else n.hrd i})) (Dy r f m)∧NI k ((fun n2:PN=>if m.num < n2.log.length then Ar n2 f ⟨4,n2.pmd,0,m.num,n2.log.drop m.num.toNat⟩ else n2)
   (Dh {n with aks:=fun i=>if i=f then max (n.aks f) m.num else n.aks i,hrd:=fun i=>if i=f then true else n.hrd i})):=by
 have hph:=h.st.2.2 hl hs
 obtain⟨s1,s2,s3,s4,s5⟩:=hi.st hs
 obtain⟨a1,a2,a3⟩:=h.aks hl hs
 obtain⟨hb1,-,-,-⟩:=Az hm
 have hp:=hi.nv.p
 have hld:=hi.ld hl
 unfold Dy
 rw[if_neg (by rintro(h1 | h1 | h1);exact h1 hph;rw[h.pmd] at h1;exact h1 hv;rw[h.log] at h1;omega)]
 have hS:Sim {n with aks:=fun i=>if i=f then max (n.aks f) m.num else n.aks i,hrd:=fun i=>if i=f then true else n.hrd i} (Dn {r with hrd:=r.hrd++[(f:Int)]} f m.num):=by
  refine⟨h.self,h.many,h.pmd,h.normal,h.log,h.cmt,h.out,h.phase,h.jns,fun _ _=>⟨?_,a2,fun i hin=>?_⟩⟩
  ·show r.aks.set (f:Int).toNat (max (r.aks[(f:Int).toNat]?.getD 0) m.num)=_
   rw[Int.toNat_natCast,a1,Sc hf]
   exact(Uv n f (max (n.aks f) m.num) n.log n.st _).symm
  ·refine(Zp r f i).trans ?_
   show _=if i=f then true else n.hrd i
   rw[a3 i hin]
 have hN:NI k {n with aks:=fun i=>if i=f then max (n.aks f) m.num else n.aks i,hrd:=fun i=>if i=f then true else n.hrd i}:=by
  refine⟨⟨hi.sl.ws,hi.sl.rl,hi.sl.kk,hi.sl.ld⟩,hi.arm,⟨hi.nv.p,hi.nv.log,hi.nv.top⟩,hi.dead,hi.self,hi.m7,hi.com,hi.ld,fun _=>⟨s1,s2,fun i=>?_,s4,s5⟩,hi.jn,hi.jl⟩
  show 0≤(if i=f then max (n.aks f) m.num else n.aks i)∧(if i=f then max (n.aks f) m.num else n.aks i)≤(n.log.length:Int)
  have:=s3 i
  have:=s3 f
  split<;>omega
 obtain⟨r1,r2,r3,r4⟩:=Ol hS hN hs
 have r3:(Dh {n with aks:=fun i=>if i=f then max (n.aks f) m.num else n.aks i,hrd:=fun i=>if i=f then true else n.hrd i}).log=n.log:=r3
 have r4:(Dh {n with aks:=fun i=>if i=f then max (n.aks f) m.num else n.aks i,hrd:=fun i=>if i=f then true else n.hrd i}).pmd=n.pmd:=r4
 change Sim _ (if m.num < (Dv (Dn {r with hrd:=r.hrd++[(f:Int)]} f m.num)).log.length then Dw (Dv (Dn {r with hrd:=r.hrd++[(f:Int)]} f m.num)) f ⟨4,(Dv (Dn {r with hrd:=r.hrd++[(f:Int)]} f m.num)).pmd,0,m.num,(Dv (Dn {r with hrd:=r.hrd++[(f:Int)]} f m.num)).log.drop m.num.toNat⟩ else Dv (Dn {r with hrd:=r.hrd++[(f:Int)]} f m.num))∧_
 have e1:=r1.log
 have e2:=r1.pmd
 rw[r3] at e1
 rw[r4] at e2
 generalize Dh {n with aks:=fun i=>if i=f then max (n.aks f) m.num else n.aks i,hrd:=fun i=>if i=f then true else n.hrd i}=n2 at *
 generalize Dv (Dn {r with hrd:=r.hrd++[(f:Int)]} f m.num)=r2' at *
 dsimp only
 rw[e1,e2,r3,r4]
 by_cases hc:m.num < n.log.length
 ·rw[if_pos hc,if_pos hc]
  have hmp:=Z07 (v:=n.pmd) (k:=m.num.toNat) (l:=n.log) (by omega) (by omega) hi.nv.log (by rw[←s2];exact hi.nv.top)
  rw[show((m.num.toNat:Nat):Int)=m.num by omega] at hmp
  exact⟨r1.send hmp,r2.same (A8 _ _ _)⟩
 ·rw[if_neg hc,if_neg hc]
  exact⟨r1,r2⟩
theorem Zb1 {l:List REnt}(h:l.length≠0)(a b:Int):vw a l=vw b l:=by
 unfold vw
 cases hg:l.getLast? with
 | none=>rw[List.getLast?_eq_none_iff] at hg;rw[hg] at h;exact absurd rfl h
 | some e=>rfl
theorem Jd:∀(l:List REnt) {n:PN} {r:RN} {k:Nat} {num v:Int},Sim n r→NI k n→n.lds=false→Gm num v l=true→0≤num→1≤v→B7 l n.normal=true→k+l.length≤900000000 →
  (An l (vw 1 n.log) n).2=true∧Sim (An l (vw 1 n.log) n).1 (Ii l r)∧NI (k+l.length) (An l (vw 1 n.log) n).1∧(An l (vw 1 n.log) n).1.lds=false∧(An l (vw 1 n.log) n).1.pmd=n.pmd
 | [],n,r,k,num,v,h,hi,hl,_,_,_,_,_=>⟨rfl,h,hi,hl,rfl⟩
 | e::l,n,r,k,num,v,h,hi,hl,hr,h0,hv,hm,hk=>by
  unfold Gm at hr
  rw[Bool.and_eq_true,decide_eq_true_iff] at hr
  obtain⟨⟨q1,q2,q3,q4⟩,q5⟩:=hr
  have hm0:(decide (e.v≤n.normal)&&B7 l n.normal)=true:=hm
  rw[Bool.and_eq_true,decide_eq_true_iff] at hm0
  have hle:=Dj n.log
  rw[List.length_cons] at hk⊢
  unfold An Ii
  rw[h.log]
  by_cases c1:e.n > n.log.length+1
  ·rw[if_pos c1,if_pos c1]
   exact⟨rfl,h,hi.up (by omega) (by omega),hl,rfl⟩
  ·rw[if_neg c1,if_neg c1]
   by_cases c2:e.n≤n.log.length∨e.v < vw 1 n.log
   ·rw[if_pos c2,if_neg (fun⟨d1,d2⟩=>by
     rcases c2 with c2 | c2
     ·omega
     ·by_cases hz:n.log.length=0
      ·rw[List.eq_nil_of_length_eq_zero hz] at c2
       have:e.v < 1:=c2
       omega
      ·rw[Zb1 hz 1 0] at c2
       rcases d2 with d2 | d2
       ·exact hz d2
       ·omega)]
    obtain⟨z1,z2,z3,z4,z5⟩:=Jd l (r:=r) h hi hl q5 (by omega) (by omega) hm0.2 (by omega)
    exact⟨z1,z2,z3.up (by omega) (by omega),z4,z5⟩
   ·rw[if_neg c2]
    obtain⟨p1,pv,st,p2,p3,p4,p5,p6⟩:=O0 hi (e:=e) (by omega) (by omega) (by omega) hm0.1 q4 (by omega)
    rw[if_pos p1,p2,if_pos ⟨by omega,by
     by_cases hz:n.log.length=0
     ·exact .inl hz
     ·refine .inr ?_
      rw[←Zb1 hz 1 0];omega⟩]
    have hcom:=hi.com
    have hll:(n.log++[e]).length=n.log.length+1:=by rw[List.length_append];rfl
    have hS:Sim {n with log:=n.log++[e],st:=st} (Z2q r e):=Sim.fol h.self h.many h.pmd h.normal (by show r.log++[e]=n.log++[e];rw[h.log]) h.cmt h.out (h.st.1.2 hl) hl
    have hN:NI (k+1) {n with log:=n.log++[e],st:=st}:=NI.fol ⟨p3,p4,by omega,p6⟩ p5 ⟨pv.p,pv.log,pv.top⟩ hi.dead hi.self hi.m7 (by show 0≤n.cmt∧n.cmt≤((n.log++[e]).length:Int);rw[hll];omega) hl (hi.unst hl) hi.jl
    obtain⟨z1,z2,z3,z4,z5⟩:=Jd l hS hN hl q5 (by omega) (by omega) hm0.2 (by omega)
    have ev:vw 1 (PN.log {n with log:=n.log++[e],st:=st})=e.v:=Zk _ _ _
    rw[ev] at z1 z2 z3 z4 z5
    exact⟨z1,z2,z3.up (by omega) (by omega),z4,z5⟩
end Go.Proofs.YtihfaocdpmmooaaGreat
namespace Go.Proofs.YtihfaocdpmmooaaGreat
theorem Z77 {k:Nat}{n:PN}{r:RN}(h:Sim n r)(hi:NI k n)(hk:k+150≤900000000){f:Nat}(hfs:f≠n.self){m:RM}(hm:okM m=true)(hp0:Ab m.view n.many=f)(hkd:m.kind=1∨m.kind=3∨m.kind=4∨m.kind=6) :
  Sim (A4 n f m) (if m.kind=1 then Gg r f m else if m.kind=3 then E2 r f m else if m.kind=4 then Gi r f m
   else if r.pmd=m.view∧r.normal=m.view∧r.phase=0 then {r with cmt:=max r.cmt (min m.num (A5 r.log))} else r)∧NI (k+150) (A4 n f m):=by
 have up:NI (k+150) n:=hi.up (by omega) hk
 obtain⟨hb1,-,hb3,hb4⟩:=Az hm
 have hp:=hi.nv.p
 have hcom:=hi.com
 have hlen:=hi.nv.ents.1
 have hle:=Dj n.log
 have hph:=h.st.1
 have hdead:=hi.dead
 have nlead:m.view=n.pmd→n.lds=false:=fun e=>by
  cases hl:n.lds with
  | false=>rfl
  | true=>have:=(hi.ld hl).1;rw[←e,hp0] at this;omega
 unfold A4
 rcases hkd with hk1 | hk3 | hk4 | hk6
 ·rw[if_pos hk1,if_pos hk1]
  unfold Gg Jh
  by_cases hv:m.view > n.pmd
  ·have hv':m.view > r.pmd:=by rw[h.pmd];exact hv
   obtain⟨q1,st,q2,q3,q4,q5,q6⟩:=Qb hi hv hb1.2.1
   rw[if_pos hv,if_pos q1,q2,if_pos hv',if_pos ⟨rfl,by show m.view > r.normal;rw[h.normal];omega,rfl⟩]
   have hS:Sim {n with pmd:=m.view,lds:=false,std:=false,st:=st} {r with pmd:=m.view,phase:=0}:=Sim.fol h.self h.many rfl h.normal h.log h.cmt h.out rfl rfl
   have hN:NI (k+150) {n with pmd:=m.view,lds:=false,std:=false,st:=st}:=NI.fol ⟨q3.up (by omega),q4,hk,q6⟩ q5 ⟨⟨hp.1,by show n.normal≤m.view;omega,hb1.2.1⟩,hi.nv.log,hi.nv.top⟩ hi.dead hi.self hi.m7 hcom rfl rfl hi.jl
   have hmj:=T8 (v:=m.view) (q:=n.normal) (l:=n.log) (by omega) (by omega) hi.nv.log hi.nv.top
   have:=hS.send (i:=f) hmj
   refine⟨?_,hN.same (A8 _ _ _)⟩
   have e:(⟨2,m.view,r.normal,0,r.log⟩:RM)=⟨2,m.view,n.normal,0,n.log⟩:=by rw[h.normal,h.log]
   show Sim _ (Dw {r with pmd:=m.view,phase:=0} f ⟨2,m.view,r.normal,0,r.log⟩)
   rw[e]
   exact this
  ·have hv':¬m.view > r.pmd:=by rw[h.pmd];exact hv
   rw[if_neg hv,if_neg hv']
   by_cases hc:m.view=n.pmd∧m.view > n.normal∧n.lds=false
   ·rw[if_pos hc,if_pos ⟨by rw[h.pmd];exact hc.1,by rw[h.normal];exact hc.2.1,hph.2 hc.2.2⟩]
    have hmj:=T8 (v:=m.view) (q:=n.normal) (l:=n.log) (by omega) (by omega) hi.nv.log hi.nv.top
    rw[h.normal,h.log]
    exact⟨h.send hmj,up.same (A8 _ _ _)⟩
   ·rw[if_neg hc,if_neg (by rw[h.pmd,h.normal,hph];exact hc)]
    exact⟨h,up⟩
 ·have n1:¬m.kind=1:=by omega
  rw[if_neg n1,if_neg n1,if_pos hk3,if_pos hk3]
  unfold E2 E4
  rw[h.pmd,h.normal]
  by_cases hv:m.view ≥ n.pmd∧m.view > n.normal
  ·obtain⟨m1,m2⟩:=Ze8 hm hk3
   have hN0:NV (Bj {n with lds:=false,std:=false} m.view m.l):=⟨⟨by show 0≤m.view;omega,Int.le_refl _,hb1.2.1⟩,m1,Gc m2 (fun e he=>he) (by show m.view - 1≤m.view;omega)⟩
   obtain⟨q1,st,q2,q3,q4,q5,q6⟩:=L5 (n:={n with lds:=false,std:=false}) hi.sl.ws hi.sl.rl hi.arm hN0
   rw[if_pos hv,if_pos q1,q2,if_pos hv,if_pos ⟨rfl,rfl⟩]
   have hlm:=Dj m.l
   have hS:Sim {Bj {n with lds:=false,std:=false} m.view m.l with st:=st} {r with pmd:=m.view,normal:=m.view,log:=m.l,cmt:=min r.cmt (A5 m.l),phase:=0}:=Sim.fol h.self h.many rfl rfl rfl (by show min r.cmt (A5 m.l)=min n.cmt (A5 m.l);rw[h.cmt]) h.out rfl rfl
   have hN:NI (k+150) {Bj {n with lds:=false,std:=false} m.view m.l with st:=st}:=NI.fol ⟨q3.up (by omega),q4,hk,q6⟩ q5 ⟨hN0.p,hN0.log,hN0.top⟩ hi.dead hi.self hi.m7 (by show 0≤min n.cmt (A5 m.l)∧min n.cmt (A5 m.l)≤(m.l.length:Int);omega) rfl rfl hi.jl
   exact⟨hS.send (S7 (by omega) (by omega)),hN.same (A8 _ _ _)⟩
  ·rw[if_neg hv,if_neg hv,h.pmd,h.normal,h.log]
   by_cases hc:m.view=n.pmd∧m.view=n.normal
   ·rw[if_pos hc,if_pos hc]
    exact⟨h.send (S7 (by omega) (by omega)),up.same (A8 _ _ _)⟩
   ·rw[if_neg hc,if_neg hc]
    exact⟨h,up⟩
 ·have n1:¬m.kind=1:=by omega
  have n3:¬m.kind=3:=by omega
  rw[if_neg n1,if_neg n1,if_neg n3,if_neg n3,if_pos hk4,if_pos hk4]
  unfold Gi
  by_cases hc:n.pmd=m.view∧n.normal=m.view∧n.lds=false
  ·obtain⟨m1,m2⟩:=Zev hm hk4
   obtain⟨z1,z2,z3,z4,z5⟩:=Jd m.l h hi hc.2.2 m1 (by omega) (by omega) (by rw[hc.2.1];exact m2) (by omega)
   rw[if_pos hc,if_neg (by rw[h.pmd,h.normal];rintro(h1 | h1 | h1);exact h1 hc.1;exact h1 hc.2.1;exact h1 (hph.2 hc.2.2))]
   dsimp only
   rw[if_pos z1,z2.log]
   generalize (An m.l (vw 1 n.log) n).1=n2 at *
   have hl2:=z3.nv.ents.1
   have hle2:=Dj n2.log
   exact⟨z2.send (S7 (by omega) (by omega)),(z3.up (by omega) hk).same (A8 _ _ _)⟩
  ·rw[if_neg hc,if_pos (by
    rw[h.pmd,h.normal]
    by_cases a:n.pmd=m.view
    ·by_cases b:n.normal=m.view
     ·exact .inr (.inr fun e=>hc ⟨a,b,hph.1 e⟩)
     ·exact .inr (.inl b)
    ·exact .inl a)]
   exact⟨h,up⟩
 ·have n1:¬m.kind=1:=by omega
  have n3:¬m.kind=3:=by omega
  have n4:¬m.kind=4:=by omega
  rw[if_neg n1,if_neg n1,if_neg n3,if_neg n3,if_neg n4,if_neg n4,if_pos hk6]
  by_cases hc:n.pmd=m.view∧n.normal=m.view∧n.lds=false
  ·rw[if_pos hc,if_pos ⟨by rw[h.pmd];exact hc.1,by rw[h.normal];exact hc.2.1,hph.2 hc.2.2⟩]
   refine⟨Sim.fol h.self h.many h.pmd h.normal h.log (by show max r.cmt (min m.num (A5 r.log))=max n.cmt (min m.num (A5 n.log));rw[h.cmt,h.log]) h.out (hph.2 hc.2.2) hc.2.2,?_⟩
   exact NI.fol ⟨hi.sl.ws.up (by omega),hi.sl.rl,hk,hi.sl.ld⟩ hi.arm ⟨hi.nv.p,hi.nv.log,hi.nv.top⟩ hi.dead hi.self hi.m7 (by show 0≤max n.cmt (min m.num (A5 n.log))∧max n.cmt (min m.num (A5 n.log))≤(n.log.length:Int);omega) hc.2.2 (hi.unst hc.2.2) hi.jl
  ·rw[if_neg hc,if_neg (fun e=>hc ⟨by rw[←h.pmd];exact e.1,by rw[←h.normal];exact e.2.1,hph.1 e.2.2⟩)]
   exact⟨h,up⟩
theorem Z3r {k:Nat}{n:PN}{r:RN}(h:Sim n r)(hi:NI k n)(hk:k+150≤900000000)(hq:NJr r)(p:RPk):Sim (Dt n p) (Ef r p)∧NI (k+150) (Dt n p):=by
 have up:NI (k+150) n:=hi.up (by omega) hk
 have hph:=h.st.1
 unfold Dt Ef
 rw[hi.dead]
 have hcr:(¬Lr p.body.data.toList∨p.to≠r.self∨p.frm=r.self∨p.frm < 0∨p.frm ≥ r.many)↔(¬Lr p.body.data.toList∨p.to≠n.self∨p.frm=n.self∨p.frm < 0∨p.frm ≥ n.many):=by rw[h.self,h.many]
 by_cases hc:¬Lr p.body.data.toList∨p.to≠n.self∨p.frm=n.self∨p.frm < 0∨p.frm ≥ n.many
 ·rw[if_pos (.inr hc),if_pos (hcr.2 hc)]
  exact⟨h,up⟩
 ·rw[if_neg (by rintro(h | h);cases h;exact hc h),if_neg (fun e=>hc (hcr.1 e))]
  clear hcr
  have hok:Lr p.body.data.toList:=Classical.byContradiction fun e=>hc (.inl e)
  have hm:=(Za3 hok).1
  obtain⟨f,hf⟩:∃f:Nat,p.frm=f:=⟨p.frm.toNat,by omega⟩
  rw[hf,Int.toNat_natCast]
  have hfm:f < n.many:=by omega
  have hfs:f≠n.self:=by omega
  obtain⟨hb1,hb2,-,-⟩:=Az hm
  generalize mD p.body.data.toList=m at *
  by_cases h2:m.kind=2
  ·rw[if_pos (.inl h2),if_pos h2]
   unfold Ay
   by_cases hl:n.lds=false∨n.pmd≠m.view
   ·rw[if_pos hl]
    unfold Df
    rw[if_pos (by
     rcases hl with hl | hl
     ·exact .inl (by rw[hph.2 hl];decide)
     ·exact .inr (.inl (by rw[h.pmd];exact hl)))]
    exact⟨h,up⟩
   ·rw[if_neg hl]
    have hld:n.lds=true:=by
     cases hx:n.lds with
     | true=>rfl
     | false=>exact absurd (.inl hx) hl
    have hv:n.pmd=m.view:=Classical.byContradiction fun e=>hl (.inr e)
    cases hs:n.std with
    | false =>
     rw[if_pos ⟨h2,rfl⟩]
     obtain⟨r1,r2⟩:=Z4u h hi (by omega) hq hld hs hfm hm h2 hv
     rw[hs] at r1 r2
     exact⟨r1,r2.up (by omega) hk⟩
    | true =>
     rw[if_neg (by rintro⟨-,e⟩;cases e),if_neg (by omega)]
     unfold Df
     rw[if_pos (.inl (by rw[h.st.2.2 hld hs];decide))]
     exact⟨h,up⟩
  ·rw[if_neg h2]
   by_cases h5:m.kind=5
   ·rw[if_pos (.inr h5),if_pos h5]
    unfold Ay
    have no:(n.lds=false∨n.pmd≠m.view∨n.std=false∨¬m.num≤n.log.length)→Dy r f m=r:=fun hh=>by
     unfold Dy
     rw[if_pos (by
      rcases hh with hh | hh | hh | hh
      ·exact .inl (by rw[hph.2 hh];decide)
      ·exact .inr (.inl (by rw[h.pmd];exact hh))
      ·refine .inl fun e=>?_
       have:=h.phase
       rw[e,hh] at this
       split at this
       ·exact absurd this (by decide)
       ·exact absurd this (by decide)
      ·exact .inr (.inr (by rw[h.log];omega)))]
    by_cases hl:n.lds=false∨n.pmd≠m.view
    ·rw[if_pos hl,no (by rcases hl with hl | hl;exact .inl hl;exact .inr (.inl hl))]
     exact⟨h,up⟩
    ·rw[if_neg hl,if_neg (fun e=>h2 e.1)]
     have hld:n.lds=true:=by
      cases hx:n.lds with
      | true=>rfl
      | false=>exact absurd (.inl hx) hl
     have hv:n.pmd=m.view:=Classical.byContradiction fun e=>hl (.inr e)
     by_cases hc2:m.kind=5∧n.std=true∧m.num≤n.log.length
     ·rw[if_pos hc2]
      obtain⟨r1,r2⟩:=Z86 h hi hld hc2.2.1 hfm hm hv hc2.2.2
      exact⟨r1,r2.up (by omega) hk⟩
     ·rw[if_neg hc2,no (by
       by_cases a:n.std=true
       ·exact .inr (.inr (.inr fun b=>hc2 ⟨h5,a,b⟩))
       ·exact .inr (.inr (.inl (by simpa using a))))]
      exact⟨h,up⟩
   ·rw[if_neg (by rintro(e | e);exact h2 e;exact h5 e),if_neg h5]
    by_cases hpr:Ab m.view n.many=f
    ·rw[if_neg (fun e=>e hpr),if_neg (fun e=>e (by rw[h.many];exact hpr))]
     exact Z77 h hi hk hfs hm hpr (by omega)
    ·rw[if_pos hpr,if_pos (by rw[h.many];exact hpr)]
     exact⟨h,up⟩
def SameJ (n n':RN):Prop:=n'.phase=n.phase∧n'.jns=n.jns∧n'.many=n.many
theorem SameJ.nj {n n':RN}(h:SameJ n n')(hq:NJr n):NJr n':=fun e=>by rw[h.2.1,h.2.2];exact hq (by rw[←h.1];exact e)
theorem SameJ.refl (n:RN):SameJ n n:=⟨rfl,rfl,rfl⟩
theorem SameJ.trans {a b c:RN}(h:SameJ a b)(h2:SameJ b c):SameJ a c:=⟨h2.1.trans h.1,h2.2.1.trans h.2.1,h2.2.2.trans h.2.2⟩
theorem Uz {f:RN→Nat→RN}(hf:∀n i,SameJ n (f n i))(n:RN):∀k,SameJ n (Ox f n k)
 | 0=>SameJ.refl n
 | k+1=>by
  rw[Ev]
  split
  ·exact Uz hf n k
  ·exact(Uz hf n k).trans (hf _ _)
theorem Fe (n:RN)(t:Int)(m:RM):SameJ n (Dw n t m):=⟨rfl,rfl,rfl⟩
theorem F1 (n:RN)(m:RM):SameJ n (Bn n m):=Uz (fun n i=>Fe n i m) n _
theorem S9 (n:RN):SameJ n (Dv n):=by
 unfold Dv
 split
 ·exact SameJ.trans (b:={n with cmt:=Bx n.aks}) ⟨rfl,rfl,rfl⟩ (F1 _ _)
 ·exact SameJ.refl n
theorem Z65 {n:RN}(h:n.phase=2):NJr n:=fun e=>by rw[h] at e;cases e
theorem Ln {n:RN}(h:n.phase=0):NJr n:=fun e=>by rw[h] at e;cases e
theorem Tw (n:RN):NJr (Ej n):=by
 unfold Ej
 split
 ·next h=>exact fun _=>h
 ·exact Z65 (by rw[(S9 _).1,(F1 _ _).1];rfl)
theorem Xs {n:RN}(h:NJr n)(v:Int):NJr (F8 n v).1:=by
 unfold F8
 split
 ·exact h
 ·exact Tw _
theorem Z58 {n:RN}(h:NJr n)(s:ByteArray):NJr (Cq n s).1:=by
 unfold Cq
 split
 ·exact h
 ·next hc =>
  have h2:n.phase=2:=Classical.byContradiction fun e=>hc (.inl e)
  exact Z65 (by rw[(S9 _).1,(F1 _ _).1];exact h2)
theorem Z3j {n:RN}(h:NJr n):NJr (F7 n):=by
 refine(Uz (fun n i=>?_) n _).nj h
 have a:∀n,SameJ n (Jw n i):=fun n=>by unfold Jw;split;exact Fe _ _ _;exact SameJ.refl n
 have b:∀n,SameJ n (Ju n i):=fun n=>by unfold Ju;split;exact Fe _ _ _;exact SameJ.refl n
 have c:∀n,SameJ n (J4 n i):=fun n=>by unfold J4;split;exact Fe _ _ _;exact SameJ.refl n
 have d:∀n,SameJ n (J3 n i):=fun n=>by unfold J3;split;exact Fe _ _ _;exact SameJ.refl n
 exact(((a n).trans (b _)).trans (c _)).trans (d _)
theorem Z1a:∀(l:List REnt) (n:RN),SameJ n (Ii l n)
 | [],n=>SameJ.refl n
 | e::l,n=>by
  unfold Ii
  split
  ·exact SameJ.refl n
  ·split
   ·exact SameJ.trans (b:=Z2q n e) ⟨rfl,rfl,rfl⟩ (Z1a l _)
   ·exact Z1a l n
theorem Zce (n:RN)(f:Int)(m:RM):SameJ n (Dy n f m):=by
 unfold Dy
 have h:SameJ n (Oi n f m):=SameJ.trans (b:=Dn {n with hrd:=n.hrd++[f]} f m.num) ⟨rfl,rfl,rfl⟩ (S9 _)
 split
 ·exact SameJ.refl n
 ·split
  ·exact h.trans (Fe _ _ _)
  ·exact h
theorem Z79 {n:RN}(h:NJr n)(p:RPk):NJr (Ef n p):=by
 unfold Ef
 generalize mD p.body.data.toList=m
 split
 ·exact h
 split
 ·unfold Df
  split
  ·exact h
  ·exact Tw _
 split
 ·exact(Zce _ _ _).nj h
 split
 ·exact h
 split
 ·have h0:NJr (Jh n m):=by
   unfold Jh
   split
   ·exact Ln rfl
   ·exact h
  unfold Gg
  split
  ·exact(Fe _ _ _).nj h0
  ·exact h0
 split
 ·have h0:NJr (E4 n m):=by
   unfold E4
   split
   ·exact Ln rfl
   ·exact h
  unfold E2
  split
  ·exact(Fe _ _ _).nj h0
  ·exact h0
 split
 ·unfold Gi
  split
  ·exact h
  ·exact((Z1a _ _).trans (Fe _ _ _)).nj h
 split
 ·exact SameJ.nj (n:=n) ⟨rfl,rfl,rfl⟩ h
 ·exact h
end Go.Proofs.YtihfaocdpmmooaaGreat
namespace Go.Proofs.YtihfaocdpmmooaaGreat
structure GM where
 s:Bool
 n:PN
 b:Nat
 e:Nat
 r:RN
structure MOk (k:Nat)(x:GM):Prop where
 sim:Sim x.n x.r
 ni:NI k x.n
 nj:NJr x.r
 sh:ShN x.s x.n
def stN:LD:=⟨0,0,0,[],[],false,Vs 1100⟩
theorem Z8i:Zm (Vs 1100)=some stN:=Vf (m:=0) (h:=0) (all:=[]) rfl Zd (by decide) (by nofun)
theorem T3:(Vs 1100).now.length=1100:=by
 show(List.replicate (Yq 1100) sec0).length=1100
 rw[List.length_replicate];rfl
theorem Zat:WSt 0 stN:=⟨Z0l 1100,T3,by show(0:Int)≤_;decide,rfl,by show 0 < 2;decide,rfl,by show 0≤_;decide,Nat.le_refl _,rfl,rfl⟩
theorem Zcg:RLd stN:=⟨Zd,rfl,rfl,by nofun⟩
theorem Qc {m:Nat}(h0:1≤m)(h:m≤7):Ak m≠0:=by have:=Sz h0 h;omega
theorem To {i m:Nat}(hi:i < m)(hm:m≤7):Mg (Vs 1100) i m=some (Hj i m (0,0,[]) stN):=by
 unfold Mg
 rw[if_neg,Z8i]
 ·dsimp only
  have e:B4 stN.all (0,0,[])=some (0,0,[]):=rfl
  rw[e]
  dsimp only
  rw[if_pos ⟨by decide,by decide,by decide⟩,Int.toNat_natCast,Int.toNat_natCast]
 ·rw[T3]
  rintro(h | h | h | h)
  ·exact Qc (by omega) hm h
  ·omega
  ·omega
  ·exact absurd h (by decide)
theorem Z8l {i m:Nat}(hi:i < m)(hm:m≤7)(b e:Nat):MOk 0 ⟨true,Hj i m (0,0,[]) stN,b,e,Gl i m⟩:=by
 refine⟨Sim.fol rfl rfl rfl rfl rfl rfl rfl rfl rfl,NI.fol ⟨Zat,Zcg,by decide,rfl⟩ rfl ⟨⟨Int.le_refl _,Int.le_refl _,by show(0:Int)≤big;decide⟩,rfl,rfl⟩ rfl hi hm ⟨Int.le_refl _,Int.le_refl _⟩ rfl rfl fun _=>Nat.zero_le _,Ln rfl,⟨fun h=>(by cases h),fun _ _ h=>(by cases h)⟩⟩
end Go.Proofs.YtihfaocdpmmooaaGreat
namespace Go.Proofs.YtihfaocdpmmooaaGreat
def OkP (p:RPk):Prop:=p.body.size≤1000000
def OB (c:Nat)(n:RN):Prop:=n.out.length≤c∧∀p∈n.out,OkP p
theorem Z84 (l:List REnt):(Sf l).length=3 * l.length:=by
 induction l with
 | nil=>rfl
 | cons e l ih =>
  show(enF e++Sf l).length=_
  rw[List.length_append,ih,List.length_cons]
  show 3+_=_;omega
theorem Zcb (m:RM):(bM m).length≤1000000:=by
 unfold bM
 split
 ·next h =>
  obtain⟨a,b,c,d⟩:=Az h
  have hl:(mF m).length≤455:=by
   unfold mF
   rw[List.length_append,Z84]
   show 5+_≤_
   omega
  have:=Na (l:=mF m) (Ee (Z1i h))
  omega
 ·exact Nat.zero_le _
theorem OB.up {c d:Nat}{n:RN}(h:OB c n)(hd:c≤d):OB d n:=⟨Nat.le_trans h.1 hd,h.2⟩
theorem Fb {c:Nat}{n:RN}(h:OB c n)(t:Int)(m:RM):OB (c+1) (Dw n t m):=by
 refine⟨?_,fun p hp=>?_⟩
 ·show(n.out++[_]).length≤_
  rw[List.length_append]
  have:=h.1
  show _+1≤_;omega
 ·rcases List.mem_append.1 hp with hp | hp
  ·exact h.2 p hp
  ·obtain rfl:=List.mem_singleton.1 hp
   exact Zcb m
theorem Z18 {f:RN→Nat→RN}{a:Nat}(hf:∀n i c,OB c n→OB (c+a) (f n i)){n:RN}{c:Nat}(h:OB c n):∀k,OB (c+a * k) (Ox f n k)
 | 0=>h
 | k+1=>by
  rw[Ev]
  have ih:=Z18 hf h k
  split
  ·exact ih.up (by rw[Nat.mul_succ];omega)
  ·exact(hf _ k _ ih).up (by rw[Nat.mul_succ];omega)
theorem I9 {c k:Nat}{n:RN}(h:OB c n)(hm:n.many=(k:Int))(m:RM):OB (c+k) (Bn n m):=by
 have:=Z18 (f:=fun n i=>Dw n i m) (a:=1) (fun n i c h=>Fb h i m) h n.many.toNat
 unfold Bn
 refine this.up ?_
 rw[hm,Int.toNat_natCast];omega
theorem Sa {c k:Nat}{n:RN}(h:OB c n)(hm:n.many=(k:Int)):OB (c+k) (Dv n):=by
 unfold Dv
 split
 ·exact I9 (n:={n with cmt:=Bx n.aks}) h hm _
 ·exact h.up (by omega)
theorem Su {c k:Nat}{n:RN}(h:OB c n)(hm:n.many=(k:Int)):OB (c+k+k) (Ej n):=by
 unfold Ej
 split
 ·exact h.up (by omega)
 ·have h1:=I9 (n:=Li n (Hl n)) h hm ⟨3,n.pmd,0,0,Hl n⟩
  exact Sa h1 (by rw[(F1 _ _).2.2];exact hm)
theorem Z00 {c k:Nat}{n:RN}(h:OB c n)(hm:n.many=(k:Int))(v:Int):OB (c+k+k+k) (F8 n v).1:=by
 unfold F8
 split
 ·exact h.up (by omega)
 ·have h1:=I9 (n:={n with pmd:=v,phase:=1,jns:=[⟨n.self,n.normal,A5 n.log,n.log⟩]}) h hm ⟨1,v,0,0,[]⟩
  exact Su h1 (by rw[(F1 _ _).2.2];exact hm)
theorem Tb {c k:Nat}{n:RN}(h:OB c n)(hm:n.many=(k:Int))(s:ByteArray):OB (c+k+k) (Cq n s).1:=by
 unfold Cq
 split
 ·exact h.up (by omega)
 ·have h1:=I9 (n:=Dn (Z2q n (Qy n s)) n.self (Qy n s).n) h hm ⟨4,n.pmd,0,(Qy n s).n - 1,[Qy n s]⟩
  exact Sa h1 (by rw[(F1 _ _).2.2];exact hm)
theorem Z35 {c k:Nat}{n:RN}(h:OB c n)(hm:n.many=(k:Int)):OB (c+4 * k) (F7 n):=by
 have:=Z18 (f:=fun n i=>J3 (J4 (Ju (Jw n i) i) i) i) (a:=4) (fun n i c h=>?_) h n.many.toNat
 ·unfold F7
  refine this.up ?_
  rw[hm,Int.toNat_natCast];omega
 ·have a:∀n c,OB c n→OB (c+1) (Jw n i):=fun n c h=>by unfold Jw;split;exact Fb h _ _;exact h.up (by omega)
  have b:∀n c,OB c n→OB (c+1) (Ju n i):=fun n c h=>by unfold Ju;split;exact Fb h _ _;exact h.up (by omega)
  have d:∀n c,OB c n→OB (c+1) (J4 n i):=fun n c h=>by unfold J4;split;exact Fb h _ _;exact h.up (by omega)
  have e:∀n c,OB c n→OB (c+1) (J3 n i):=fun n c h=>by unfold J3;split;exact Fb h _ _;exact h.up (by omega)
  exact e _ _ (d _ _ (b _ _ (a _ _ h)))
theorem Sk:∀(l:List REnt) (n:RN),(Ii l n).out=n.out
 | [],n=>rfl
 | e::l,n=>by
  unfold Ii
  split
  ·rfl
  ·split
   ·exact Sk l _
   ·exact Sk l n
theorem Z1h {c k:Nat}{n:RN}(h:OB c n)(hm:n.many=(k:Int))(p:RPk):OB (c+k+k+1) (Ef n p):=by
 have h0:=h.up (d:=c+k+k+1) (by omega)
 unfold Ef
 generalize mD p.body.data.toList=m
 split
 ·exact h0
 split
 ·unfold Df
  split
  ·exact h0
  ·exact(Su (n:=Ni n _) h hm).up (by omega)
 split
 ·unfold Dy
  have h1:OB (c+k) (Oi n p.frm m):=Sa (n:=Dn {n with hrd:=n.hrd++[p.frm]} p.frm m.num) h hm
  split
  ·exact h0
  ·split
   ·exact(Fb h1 _ _).up (by omega)
   ·exact h1.up (by omega)
 split
 ·exact h0
 split
 ·have h1:OB c (Jh n m):=by
   unfold Jh
   split
   ·exact h
   ·exact h
  unfold Gg
  split
  ·exact(Fb h1 _ _).up (by omega)
  ·exact h1.up (by omega)
 split
 ·have h1:OB c (E4 n m):=by
   unfold E4
   split
   ·exact h
   ·exact h
  unfold E2
  split
  ·exact(Fb h1 _ _).up (by omega)
  ·exact h1.up (by omega)
 split
 ·unfold Gi
  split
  ·exact h0
  ·have h1:OB c (Ii m.l n):=by
    unfold OB
    rw[Sk];exact h
   exact(Fb h1 _ _).up (by omega)
 split
 ·exact h0
 ·exact h0
end Go.Proofs.YtihfaocdpmmooaaGreat

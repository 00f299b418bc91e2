
import Derived.Test.YtihfaocdpmmooaaGreatSMM
import Derived.Test.YtihfaocdpmmooaaGreatZNm
namespace Go.Proofs.YtihfaocdpmmooaaGreat
theorem NI.up {k j:Nat}{n:PN}(h:NI k n)(hj:k≤j)(hb:j≤900000000):NI j n:=⟨⟨h.sl.ws.up hj,h.sl.rl,hb,h.sl.ld⟩,h.arm,h.nv,h.dead,h.self,h.m7,h.com,h.ld,h.st,h.jn,h.jl⟩
theorem Xy {l:List REnt}{v u:Int}(h:B9 l v=true)(hu:u≤v):vw u l≤v:=by
 unfold vw
 cases hg:l.getLast? with
 | none=>exact hu
 | some e =>
  unfold B9 at h
  rw[List.all_eq_true] at h
  exact of_decide_eq_true (h e (List.mem_of_getLast? hg))
theorem Xe {l:List REnt}{e:REnt}(h:Bg l=true)(hn:e.n=A5 l+1)(h1:vw 1 l≤e.v)(h2:e.v≤big)(hs:e.b.size≤200)(hl:l.length < 150):Bg (l++[e])=true:=by
 have hle:=Dg l
 unfold Bg at h⊢
 rw[Bool.and_eq_true,decide_eq_true_iff] at h
 rw[Lv,h.1,List.length_append]
 have e2:Ai (vw 1 l) (0+l.length) [e]=true:=by
  show(okB (vw 1 l) (0+l.length) e&&true)=true
  unfold okB
  rw[decide_eq_true ⟨by omega,h1,h2,hs⟩]
  rfl
 rw[e2,decide_eq_true (by show l.length+1≤150;omega)]
 rfl
theorem Zv {l:List REnt}{e:REnt}{v:Int}(h:B9 l v=true)(he:e.v≤v):B9 (l++[e]) v=true:=by
 unfold B9 at *
 rw[List.all_append,h]
 show(true&&(decide (e.v≤v)&&true))=true
 rw[decide_eq_true he];rfl
theorem Ov {k:Nat}{n:PN}(hi:NI k n){e:REnt}(hn:e.n=A5 n.log+1)(h1:vw 1 n.log≤e.v)(h10:1≤e.v)(h2:e.v≤n.normal)(hs:e.b.size≤200)(hl:n.log.length < 150) :
  Xt n e=true∧NV {n with log:=n.log++[e]}∧∃st,He n e={n with log:=n.log++[e],st:=st}∧WSt (k+1) st∧RLd st∧st.d.armed=0∧B6 st.all (0,0,[])=some (n.pmd,n.normal,n.log++[e]):=by
 have hp:=hi.nv.p
 have hle:=Dg n.log
 have hN:NV {n with log:=n.log++[e]}:=⟨hp,Xe hi.nv.log hn h1 (by omega) hs hl,Zv hi.nv.top h2⟩
 have hb:=Z28
 have hz:=(G7 (k:=3) (a:=e.v) (b:=e.n) (s:=e.b) (by omega) (by omega) (by omega) (by omega)).1
 obtain⟨q1,q2,q3,q4⟩:=Qx (n:={n with log:=n.log++[e]}) (r:=Cb 3 e.v e.n e.b) hi.sl.ws hi.sl.rl hi.sl.kk hi.arm hN (by omega) (by
  show B6 (n.st.all++[Cb 3 e.v e.n e.b]) (0,0,[])=some (n.pmd,n.normal,n.log++[e])
  rw[Lg,hi.sl.ld]
  show Cu (n.pmd,n.normal,n.log) (Cb 3 e.v e.n e.b)=_
  rw[Z73 (by omega) (by omega) (by omega)])
 have q5:=(Jm (n:={n with log:=n.log++[e]}) hi.sl.ws (Cb 3 e.v e.n e.b) q1).1
 exact⟨q1,hN,_,N3 q1,q5,q2,q3,q4⟩
theorem Ul (n:PN)(i:Nat)(x:Int)(l:List REnt)(st:LD)(hd:Nat→Bool):Bm {n with log:=l,st:=st,hrd:=hd,aks:=fun j=>if j=i then x else n.aks j}=(Bm n).set i x:=by
 refine List.ext_getElem? fun j=>?_
 unfold Bm
 show((List.range n.many).map fun j=>if j=i then x else n.aks j)[j]?=_
 rw[List.getElem?_map,List.getElem?_set,List.length_map,List.length_range,List.getElem?_map]
 by_cases hj:j < n.many
 ·rw[List.getElem?_range hj]
  by_cases h:i=j
  ·rw[if_pos h,if_pos (by omega)]
   show some (if j=i then _ else _)=_
   rw[if_pos h.symm]
  ·rw[if_neg h]
   show some (if j=i then _ else _)=_
   rw[if_neg (fun e=>h e.symm)];rfl
 ·rw[List.getElem?_eq_none (by rw[List.length_range];omega)]
  by_cases h:i=j
  ·rw[if_pos h,if_neg (by omega)];rfl
  ·rw[if_neg h];rfl
theorem Rl {n:PN}{i:Nat}(h:i < n.many):(Bm n)[i]?.getD 0=n.aks i:=by
 unfold Bm
 rw[List.getElem?_map,List.getElem?_range h];rfl
theorem Yr {k:Nat}{n:PN}{r:RN}(h:Sim n r)(hi:NI k n)(hk:k+1≤900000000)(s:ByteArray):(B3 n s).2=(Cs r s).2∧Sim (B3 n s).1 (Cs r s).1∧NI (k+1) (B3 n s).1:=by
 have up:NI (k+1) n:=hi.up (by omega) hk
 obtain⟨rs,rm,rp,rn,rl,rc,rph,rj,ra,rf,rh,ro⟩:=r
 obtain rfl:rs=n.self:=h.self
 obtain rfl:rm=n.many:=h.many
 obtain rfl:rp=n.pmd:=h.pmd
 obtain rfl:rn=n.normal:=h.normal
 obtain rfl:rl=n.log:=h.log
 obtain rfl:rc=n.cmt:=h.cmt
 obtain rfl:ro=n.out:=h.out
 have hph:rph=if n.lds=true then(if n.std=true then 2 else 1) else 0:=h.phase
 unfold B3 Cs
 dsimp only
 by_cases hs:n.std=false
 ·rw[if_pos (.inr (.inl hs)),if_pos (.inl (by rw[hph,hs];split<;>decide))]
  exact⟨rfl,h,up⟩
 ·have hs:n.std=true:=by simpa using hs
  obtain⟨s1,s2,s3,s4,s5⟩:=hi.st hs
  rw[s1,hs,if_pos rfl,if_pos rfl] at hph
  subst hph
  by_cases hc:n.log.length ≥ 150∨s.size > 200
  ·rw[if_pos (.inr (.inr hc)),if_pos (.inr hc)]
   exact⟨rfl,h,up⟩
  ·rw[if_neg (by rw[hi.dead,hs];rintro(h | h | h);cases h;cases h;exact hc h)]
   obtain⟨a1,a2,a3⟩:=h.aks s1 hs
   obtain rfl:ra=Bm n:=a1
   obtain rfl:rf=n.first:=a2
   have hl:=hi.ld s1
   have hp:=hi.nv.p
   have hle:=Dg n.log
   obtain⟨q1,qv,st,q2,q3,q4,q5,q6⟩:=Ov hi (e:=⟨n.pmd,A5 n.log+1,s⟩) rfl (Xy (by rw[←s2];exact hi.nv.top) hl.2) hl.2 (by show n.pmd≤_;omega) (by show s.size≤200;omega) (by omega)
   rw[if_pos q1,q2,if_neg (by rintro(h | h);exact h rfl;exact hc h)]
   have hself:=hi.self
   have em:(⟨4,n.pmd,0,A5 n.log+1 - 1,[⟨n.pmd,A5 n.log+1,s⟩]⟩:RM)=⟨4,n.pmd,0,(n.log.length:Int),[⟨n.pmd,(n.log.length:Int)+1,s⟩]⟩:=by rw[hle,Int.add_sub_cancel]
   have hm:okM ⟨4,n.pmd,0,A5 n.log+1 - 1,[⟨n.pmd,A5 n.log+1,s⟩]⟩=true:=by rw[em];exact Z86 (by omega) (by omega) (by omega)
   have eA:=Ul n n.self (A5 n.log+1) (n.log++[⟨n.pmd,A5 n.log+1,s⟩]) st n.hrd
   have hlA:A5 (n.log++[⟨n.pmd,A5 n.log+1,s⟩])=A5 n.log+1:=by rw[Dg,List.length_append,hle];show((n.log.length+1:Nat):Int)=_;omega
   have hS:Sim {n with log:=n.log++[⟨n.pmd,A5 n.log+1,s⟩],st:=st,aks:=fun i=>if i=n.self then A5 n.log+1 else n.aks i} (Dv (Z47 ⟨n.self,n.many,n.pmd,n.normal,n.log,n.cmt,2,rj,Bm n,n.first,rh,n.out⟩ ⟨n.pmd,A5 n.log+1,s⟩) n.self (A5 n.log+1)):=by
    refine⟨rfl,rfl,rfl,rfl,rfl,rfl,rfl,?_,fun _ hh=>absurd hs (by have hh:n.std=false:=hh;rw[hh];decide),fun _ _=>⟨?_,rfl,a3⟩⟩
    ·show(2:Int)=if n.lds=true then(if n.std=true then 2 else 1) else 0
     rw[s1,hs];rfl
    ·refine Eq.trans ?_ eA.symm
     show(Bm n).set (n.self:Int).toNat (max ((Bm n)[(n.self:Int).toNat]?.getD 0) (A5 n.log+1))=_
     rw[Int.toNat_natCast,Rl hself]
     have:=(s3 n.self).2
     rw[show max (n.aks n.self) (A5 n.log+1)=A5 n.log+1 by omega]
   have hN:NI (k+1) {n with log:=n.log++[⟨n.pmd,A5 n.log+1,s⟩],st:=st,aks:=fun i=>if i=n.self then A5 n.log+1 else n.aks i}:=by
    have hcom:=hi.com
    have hll:(n.log++[(⟨n.pmd,A5 n.log+1,s⟩:REnt)]).length=n.log.length+1:=by rw[List.length_append];rfl
    refine⟨⟨q3,q4,hk,q6⟩,q5,⟨qv.p,qv.log,qv.top⟩,hi.dead,hi.self,hi.m7,?_,hi.ld,fun _=>⟨s1,s2,fun x=>?_,?_,?_⟩,fun _ hh=>absurd hs (by have hh:n.std=false:=hh;rw[hh];decide),hi.jl⟩
    ·show 0≤n.cmt∧n.cmt≤((n.log++[(⟨n.pmd,A5 n.log+1,s⟩:REnt)]).length:Int)
     rw[hll];omega
    ·show 0≤(if x=n.self then A5 n.log+1 else n.aks x)∧(if x=n.self then A5 n.log+1 else n.aks x)≤((n.log++[(⟨n.pmd,A5 n.log+1,s⟩:REnt)]).length:Int)
     rw[hll]
     have:=s3 x
     split<;>omega
    ·show 0≤n.first∧n.first≤((n.log++[(⟨n.pmd,A5 n.log+1,s⟩:REnt)]).length:Int)
     rw[hll];omega
    ·show B9 ((n.log++[(⟨n.pmd,A5 n.log+1,s⟩:REnt)]).take n.first.toNat) (n.pmd - 1)=true
     rw[List.take_append_of_le_length (by omega)];exact s5
   have h1:=hS.spread hm
   have hss:=A2 {n with log:=n.log++[⟨n.pmd,A5 n.log+1,s⟩],st:=st,aks:=fun i=>if i=n.self then A5 n.log+1 else n.aks i} ⟨4,n.pmd,0,A5 n.log+1 - 1,[⟨n.pmd,A5 n.log+1,s⟩]⟩
   have h2:=hN.same hss
   obtain⟨o,e⟩:=hss.to
   obtain⟨r1,r2,-⟩:=P8 h1 h2 (by rw[e];exact hs)
   exact⟨rfl,r1,r2⟩
theorem Y5 {j:Nat→RJ}{m i:Nat}(h:i < m)(n:RN)(hn:n.jns=jrL j m):Ze n i=(j i).is:=by
 unfold Ze
 rw[hn]
 unfold jrL
 rw[List.any_map]
 cases hj:(j i).is with
 | true =>
  rw[List.any_eq_true]
  exact⟨i,List.mem_filter.2 ⟨List.mem_range.2 h,hj⟩,by simp⟩
 | false =>
  rw[List.any_eq_false]
  intro x hx
  obtain⟨h1,h2⟩:=List.mem_filter.1 hx
  intro h3
  have h3:(x:Int)=(i:Int):=by simpa using h3
  have:x=i:=by omega
  rw[this,hj] at h2
  cases h2
theorem Zgk:¬(0:Int)=1:=by decide
theorem Zen:¬(0:Int)=2:=by decide
theorem Zad:¬(1:Int)=2:=by decide
theorem Zgj:¬(2:Int)=1:=by decide
theorem Tb {n:RN}{i:Nat}(h:¬n.phase=1):K5 n i=n:=by unfold K5;rw[if_neg (fun hh=>h hh.1)]
theorem O1 {n:RN}{i:Nat}(h:¬n.phase=2):K6 n i=n:=by unfold K6;rw[if_neg (fun hh=>h hh.1)]
theorem Ns {n:RN}{i:Nat}(h:¬n.phase=2):J7 n i=n:=by unfold J7;rw[if_neg (fun hh=>h hh.1)]
theorem Nu {n:RN}{i:Nat}(h:¬n.phase=2):Js n i=n:=by unfold Js;rw[if_neg h]
theorem Z0n {k:Nat}{n:PN}{r:RN}(h:Sim n r)(hi:NI k n):Sim (Bl n) (Fb r)∧NI k (Bl n):=by
 obtain⟨rs,rm,rp,rn,rl,rc,rph,rj,ra,rf,rh,ro⟩:=r
 obtain rfl:rs=n.self:=h.self
 obtain rfl:rm=n.many:=h.many
 obtain rfl:rp=n.pmd:=h.pmd
 obtain rfl:rn=n.normal:=h.normal
 obtain rfl:rl=n.log:=h.log
 obtain rfl:rc=n.cmt:=h.cmt
 obtain rfl:ro=n.out:=h.out
 have hph:rph=if n.lds=true then(if n.std=true then 2 else 1) else 0:=h.phase
 have hp:=hi.nv.p
 have hcom:=hi.com
 have hlen:=hi.nv.ents.1
 have fin:∀(f:RN→Nat→RN) (g:Nat→List RPk),(∀o i,i < n.many→f ⟨n.self,n.many,n.pmd,n.normal,n.log,n.cmt,rph,rj,ra,rf,rh,o⟩ i=⟨n.self,n.many,n.pmd,n.normal,n.log,n.cmt,rph,rj,ra,rf,rh,o++g i⟩)→P9 f ⟨n.self,n.many,n.pmd,n.normal,n.log,n.cmt,rph,rj,ra,rf,rh,n.out⟩ n.many=⟨n.self,n.many,n.pmd,n.normal,n.log,n.cmt,rph,rj,ra,rf,rh,n.out++(Wc n.self n.many).flatMap g⟩:=fun f g hf=>O4 (f:=f) (g:=g) (r:=⟨n.self,n.many,n.pmd,n.normal,n.log,n.cmt,rph,rj,ra,rf,rh,n.out⟩) (s:=n.self) rfl n.many fun o i hi=>hf o i hi
 unfold Fb
 dsimp only
 rw[Int.toNat_natCast]
 cases hl:n.lds with
 | false =>
  rw[hl] at hph
  have hph:rph=0:=hph
  subst hph
  have e:Bl n=n:=by unfold Bl;rw[if_pos (.inr hl)]
  rw[e,fin _ (fun _=>[]) fun o i _=>?_]
  ·refine⟨?_,hi⟩
   have e0:((Wc n.self n.many).flatMap fun _=>([]:List RPk))=[]:=by simp
   rw[e0,List.append_nil]
   exact h
  ·rw[Tb Zgk,O1 Zen,Ns Zen,Nu Zen,List.append_nil]
 | true =>
  obtain⟨l1,l2⟩:=hi.ld hl
  cases hs:n.std with
  | false =>
   rw[hl,hs] at hph
   have hph:rph=1:=hph
   subst hph
   have hj:=h.jns hl hs
   have e:Bl n={n with out:=n.out++(Wc n.self n.many).flatMap fun i:Nat=>if(n.jns i).is=true then [] else [⟨(n.self:Int),(i:Int),⟨(bM ⟨1,n.pmd,0,0,[]⟩).toArray⟩⟩]}:=by
    unfold Bl
    rw[if_neg (by rw[hi.dead,hl];rintro(h | h)<;>cases h),if_neg (by rw[hs];decide)]
    refine Kl (g:=fun i:Nat=>if(n.jns i).is=true then [] else [⟨(n.self:Int),(i:Int),⟨(bM ⟨1,n.pmd,0,0,[]⟩).toArray⟩⟩]) n.many fun o i hin=>?_
    unfold Em
    dsimp only
    split
    ·next hh=>rw[List.append_nil]
    ·next hh=>rw[Fl (Zr (by omega))]
   rw[e,fin _ (fun i:Nat=>if(n.jns i).is=true then [] else [⟨(n.self:Int),(i:Int),⟨(bM ⟨1,n.pmd,0,0,[]⟩).toArray⟩⟩]) fun o i hin=>?_]
   ·exact⟨h.snd _,hi.snd _⟩
   ·have ef:Ze ⟨n.self,n.many,n.pmd,n.normal,n.log,n.cmt,1,rj,ra,rf,rh,o⟩ i=(n.jns i).is:=Y5 hin _ hj
    unfold K5
    dsimp only
    rw[ef]
    cases hji:(n.jns i).is with
    | true =>
     rw[if_neg (by rintro⟨-,h⟩;cases h),if_pos rfl,List.append_nil]
     rw[O1 Zad,Ns Zad,Nu Zad]
    | false =>
     rw[if_pos ⟨rfl,rfl⟩,if_neg (by decide)]
     unfold E0
     rw[O1 Zad,Ns Zad,Nu Zad]
  | true =>
   rw[hl,hs] at hph
   have hph:rph=2:=hph
   subst hph
   obtain⟨s1,s2,s3,s4,s5⟩:=hi.st hs
   obtain⟨a1,a2,a3⟩:=h.aks hl hs
   obtain rfl:ra=Bm n:=a1
   obtain rfl:rf=n.first:=a2
   have m1:∀i:Nat,okM ⟨4,n.pmd,0,n.aks i,n.log.drop (n.aks i).toNat⟩=true:=fun i=>by
    have:=s3 i
    have:=Zm (v:=n.pmd) (k:=(n.aks i).toNat) (l:=n.log) (by omega) (by omega) hi.nv.log (by rw[←s2];exact hi.nv.top)
    rwa [show(((n.aks i).toNat:Nat):Int)=n.aks i by omega] at this
   have hrt:Bg (n.log.take n.first.toNat)=true:=by
    have hr:=hi.nv.log
    unfold Bg at hr⊢
    rw[Bool.and_eq_true,decide_eq_true_iff] at hr
    have h2:=hr.1
    rw[←List.take_append_drop n.first.toNat n.log,Lv,Bool.and_eq_true] at h2
    rw[h2.1,decide_eq_true (by rw[List.length_take];omega)]
    rfl
   have m2:okM ⟨3,n.pmd,0,0,n.log.take n.first.toNat⟩=true:=Ps (by omega) hrt s5
   have m3:okM ⟨6,n.pmd,0,n.cmt,[]⟩=true:=U1 (by omega) (by omega)
   let g:Nat→List RPk:=fun i:Nat=>(if n.hrd i=true then [⟨(n.self:Int),(i:Int),⟨(bM ⟨4,n.pmd,0,n.aks i,n.log.drop (n.aks i).toNat⟩).toArray⟩⟩] else [⟨(n.self:Int),(i:Int),⟨(bM ⟨3,n.pmd,0,0,n.log.take n.first.toNat⟩).toArray⟩⟩])++[⟨(n.self:Int),(i:Int),⟨(bM ⟨6,n.pmd,0,n.cmt,[]⟩).toArray⟩⟩]
   have e:Bl n={n with out:=n.out++(Wc n.self n.many).flatMap g}:=by
    unfold Bl
    rw[if_neg (by rw[hi.dead,hl];rintro(h | h)<;>cases h),if_pos hs]
    refine Kl (g:=g) n.many fun o i hin=>?_
    unfold Eh
    dsimp only[g]
    split
    ·next hh=>rw[Fl (m1 i),Fl m3];dsimp only;rw[List.append_assoc]
    ·next hh=>rw[Fl m2,Fl m3];dsimp only;rw[List.append_assoc]
   rw[e,fin _ g fun o i hin=>?_]
   ·exact⟨h.snd _,hi.snd _⟩
   ·have eh:∀o,Lo ⟨n.self,n.many,n.pmd,n.normal,n.log,n.cmt,2,rj,Bm n,n.first,rh,o⟩ i=n.hrd i:=fun o=>a3 i hin
    rw[Tb Zgj]
    unfold K6
    rw[eh]
    dsimp only
    rw[Rl hin]
    dsimp only[g]
    cases hh:n.hrd i with
    | true =>
     rw[if_pos ⟨rfl,rfl⟩,if_pos rfl]
     unfold E0 J7
     dsimp only
     rw[eh,hh,if_neg (by rintro⟨-,h⟩;cases h)]
     unfold Js
     rw[if_pos rfl]
     unfold E0
     dsimp only
     rw[List.append_assoc]
    | false =>
     rw[if_neg (by rintro⟨-,h⟩;cases h),if_neg (by decide)]
     unfold J7
     rw[eh,hh,if_pos ⟨rfl,rfl⟩]
     unfold E0 Js
     rw[if_pos rfl]
     unfold E0
     dsimp only
     rw[List.append_assoc]
end Go.Proofs.YtihfaocdpmmooaaGreat
namespace Go.Proofs.YtihfaocdpmmooaaGreat
theorem Mn:∀{l:List REnt} {v:Int} {k:Nat},H8 k v l=true→B9 l big=true→Ai v k l=true
 | [],_,_,_,_=>rfl
 | e::l,v,k,h,hm=>by
  unfold H8 at h
  rw[Bool.and_eq_true,decide_eq_true_iff] at h
  have hm0:(decide (e.v≤big)&&B9 l big)=true:=hm
  rw[Bool.and_eq_true,decide_eq_true_iff] at hm0
  show(okB v k e&&Ai e.v (k+1) l)=true
  have:=Mn (l:=l) (v:=e.v) (k:=k+1) (by rw[show((k+1:Nat):Int)=(k:Int)+1 by omega];exact h.2) hm0.2
  rw[this]
  unfold okB
  rw[decide_eq_true ⟨h.1.1,h.1.2.2.1,hm0.1,h.1.2.2.2⟩];rfl
theorem Uy {l:List REnt}{v:Int}(h:Lw 0 l=true)(hm:B9 l v=true)(hv:v≤big):Bg l=true:=by
 unfold Lw at h
 rw[Bool.and_eq_true] at h
 unfold Bg
 rw[Mn (k:=0) h.1 (Gr hm (fun e he=>he) hv),h.2];rfl
theorem Zfl {m:RM}(h:okM m=true)(hk:m.kind=2):Bg m.l=true∧B9 m.l m.normal=true:=by
 obtain⟨hb,-⟩:=Ay h
 unfold okM at h
 rw[Bool.and_eq_true] at h
 have h2:=h.2
 rw[hk,if_neg (by decide),if_pos rfl,Bool.and_eq_true,Bool.and_eq_true] at h2
 exact⟨Uy h2.1.2 h2.2 (by omega),h2.2⟩
theorem Zeq {m:RM}(h:okM m=true)(hk:m.kind=3):Bg m.l=true∧B9 m.l (m.view - 1)=true:=by
 obtain⟨hb,-⟩:=Ay h
 unfold okM at h
 rw[Bool.and_eq_true] at h
 have h2:=h.2
 rw[hk,if_neg (by decide),if_neg (by decide),if_pos rfl,Bool.and_eq_true,Bool.and_eq_true] at h2
 exact⟨Uy h2.1.2 h2.2 (by omega),h2.2⟩
theorem Zeu {m:RM}(h:okM m=true)(hk:m.kind=4):H8 m.num 1 m.l=true∧B9 m.l m.view=true:=by
 unfold okM at h
 rw[Bool.and_eq_true] at h
 have h2:=h.2
 rw[hk,if_neg (by decide),if_neg (by decide),if_neg (by decide),if_pos rfl,Bool.and_eq_true,Bool.and_eq_true] at h2
 unfold Lw at h2
 rw[Bool.and_eq_true] at h2
 exact⟨h2.1.2.1,h2.2⟩
theorem NI.fol {k:Nat}{n:PN}(sl:SL k n)(arm:n.st.d.armed=0)(nv:NV n)(dead:n.dead=false)(self:n.self < n.many)(m7:n.many≤7)(com:0≤n.cmt∧n.cmt≤n.log.length)(hl:n.lds=false)(hs:n.std=false)(jl:∀i,(n.jns i).l.length≤150):NI k n :=
 ⟨sl,arm,nv,dead,self,m7,com,fun h=>absurd h (by rw[hl];decide),fun h=>absurd h (by rw[hs];decide),fun h=>absurd h (by rw[hl];decide),jl⟩
theorem Sim.fol {n:PN}{r:RN}(self:r.self=n.self)(many:r.many=n.many)(pmd:r.pmd=n.pmd)(normal:r.normal=n.normal)(log:r.log=n.log)(cmt:r.cmt=n.cmt)(out:r.out=n.out)(phase:r.phase=0)(hl:n.lds=false):Sim n r :=
 ⟨self,many,pmd,normal,log,cmt,out,by rw[phase,hl];rfl,fun h=>absurd h (by rw[hl];decide),fun h=>absurd h (by rw[hl];decide)⟩
theorem NI.unst {k:Nat}{n:PN}(h:NI k n)(hl:n.lds=false):n.std=false:=by
 cases hs:n.std with
 | false=>rfl
 | true=>have:=(h.st hs).1;rw[hl] at this;cases this
theorem U3:∀(A B:List RJn) (j:RJn),(∀x∈A,x.frm < j.frm)→(∀x∈B,j.frm < x.frm)→Z98 (A++B) j=A++j::B
 | [],[],j,_,_=>rfl
 | [],x::B,j,_,h=>by
  show(if x.frm > j.frm then j::x::B else x::Z98 B j)=_
  rw[if_pos (h x (by simp))];rfl
 | x::A,B,j,h,h2=>by
  show(if x.frm > j.frm then j::x::(A++B) else x::Z98 (A++B) j)=_
  rw[if_neg (by have:=h x (by simp);omega),U3 A B j (fun y hy=>h y (by simp[hy])) h2];rfl
theorem Tr {α β:Type}(p:α→Bool)(f:α→β):∀l:List α,(l.filter p).map f=l.flatMap fun x=>if p x=true then [f x] else []
 | []=>rfl
 | x::l=>by
  rw[List.flatMap_cons,←Tr p f l]
  by_cases h:p x=true
  ·rw[List.filter_cons_of_pos h,if_pos h];rfl
  ·rw[List.filter_cons_of_neg h,if_neg h];rfl
theorem Z7 (j:Nat→RJ)(m:Nat):jrL j m=(List.range m).flatMap fun i:Nat=>if(j i).is=true then [⟨(i:Int),(j i).normal,A5 (j i).l,(j i).l⟩] else []:=Tr (fun i=>(j i).is) _ _
theorem Jo {α β:Type}{f g:α→List β}:∀{l:List α},(∀x∈l,f x=g x)→l.flatMap f=l.flatMap g
 | [],_=>rfl
 | x::l,h=>by rw[List.flatMap_cons,List.flatMap_cons,h x (by simp),Jo fun y hy=>h y (by simp[hy])]
theorem Zcw {j:Nat→RJ}{m i:Nat}(hi:i < m)(hj:(j i).is=false)(q:Int)(l:List REnt):Z98 (jrL j m) ⟨i,q,A5 l,l⟩=jrL (fun y=>if y=i then⟨true,q,l⟩ else j y) m:=by
 obtain⟨d,rfl⟩:∃d,m=i+(1+d):=⟨m - i - 1,by omega⟩
 rw[Z7,Z7,List.range_add,List.flatMap_append,List.flatMap_append,List.range_add,List.map_append,List.flatMap_append,List.flatMap_append]
 have e1:(List.range i).flatMap (fun y:Nat=>if(if y=i then(⟨true,q,l⟩:RJ) else j y).is=true then [(⟨(y:Int),(if y=i then(⟨true,q,l⟩:RJ) else j y).normal,A5 (if y=i then(⟨true,q,l⟩:RJ) else j y).l,(if y=i then(⟨true,q,l⟩:RJ) else j y).l⟩:RJn)] else [])=(List.range i).flatMap fun y:Nat=>if(j y).is=true then [(⟨(y:Int),(j y).normal,A5 (j y).l,(j y).l⟩:RJn)] else []:=Jo fun y hy=>by
  have:=List.mem_range.1 hy
  rw[if_neg (by omega:¬y=i)]
 have e2:(((List.range d).map fun x=>1+x).map fun x=>i+x).flatMap (fun y:Nat=>if(if y=i then(⟨true,q,l⟩:RJ) else j y).is=true then [(⟨(y:Int),(if y=i then(⟨true,q,l⟩:RJ) else j y).normal,A5 (if y=i then(⟨true,q,l⟩:RJ) else j y).l,(if y=i then(⟨true,q,l⟩:RJ) else j y).l⟩:RJn)] else [])=(((List.range d).map fun x=>1+x).map fun x=>i+x).flatMap fun y:Nat=>if(j y).is=true then [(⟨(y:Int),(j y).normal,A5 (j y).l,(j y).l⟩:RJn)] else []:=Jo fun y hy=>by
  obtain⟨x,hx,rfl⟩:=List.mem_map.1 hy
  obtain⟨z,-,rfl⟩:=List.mem_map.1 hx
  rw[if_neg (by omega:¬i+(1+z)=i)]
 rw[e1,e2]
 have e3:((List.range 1).map fun x=>i+x)=[i]:=rfl
 rw[e3]
 have e4:[i].flatMap (fun y:Nat=>if(j y).is=true then [(⟨(y:Int),(j y).normal,A5 (j y).l,(j y).l⟩:RJn)] else [])=[]:=by
  show(if(j i).is=true then _ else _)++[]=_
  rw[hj];rfl
 have e5:[i].flatMap (fun y:Nat=>if(if y=i then(⟨true,q,l⟩:RJ) else j y).is=true then [(⟨(y:Int),(if y=i then(⟨true,q,l⟩:RJ) else j y).normal,A5 (if y=i then(⟨true,q,l⟩:RJ) else j y).l,(if y=i then(⟨true,q,l⟩:RJ) else j y).l⟩:RJn)] else [])=[(⟨i,q,A5 l,l⟩:RJn)]:=by
  show(if(if i=i then(⟨true,q,l⟩:RJ) else j i).is=true then _ else _)++[]=_
  rw[if_pos rfl];rfl
 rw[e4,e5,List.nil_append]
 refine U3 _ _ _ (fun x hx=>?_) fun x hx=>?_
 ·obtain⟨y,hy,hx⟩:=List.mem_flatMap.1 hx
  have:=List.mem_range.1 hy
  split at hx
  ·obtain rfl:=List.mem_singleton.1 hx
   show(y:Int) < (i:Int);omega
  ·cases hx
 ·obtain⟨y,hy,hx⟩:=List.mem_flatMap.1 hx
  obtain⟨a,ha,rfl⟩:=List.mem_map.1 hy
  obtain⟨z,-,rfl⟩:=List.mem_map.1 ha
  split at hx
  ·obtain rfl:=List.mem_singleton.1 hx
   show(i:Int) < ((i+(1+z):Nat):Int);omega
  ·cases hx
def NJr (r:RN):Prop:=r.phase=1→(r.jns.length:Int) < Am r.many
theorem Sim.st {n:PN}{r:RN}(h:Sim n r):(r.phase=0↔n.lds=false)∧(n.lds=true→n.std=false→r.phase=1)∧(n.lds=true→n.std=true→r.phase=2):=by
 have:=h.phase
 cases hl:n.lds with
 | false=>rw[hl] at this;exact⟨⟨fun _=>rfl,fun _=>this⟩,fun h=>(by cases h),fun h=>(by cases h)⟩
 | true =>
  cases hs:n.std with
  | false=>rw[hl,hs] at this;exact⟨⟨fun h=>(by rw[this] at h;cases h),fun h=>(by cases h)⟩,fun _ _=>this,fun _ h=>(by cases h)⟩
  | true=>rw[hl,hs] at this;exact⟨⟨fun h=>(by rw[this] at h;cases h),fun h=>(by cases h)⟩,fun _ h=>(by cases h),fun _ _=>this⟩
theorem Z59 {k:Nat}{n:PN}{r:RN}(h:Sim n r)(hi:NI k n)(hk:k+1≤900000000)(hq:NJr r)(hl:n.lds=true)(hs:n.std=false){f:Nat}(hf:f < n.many){m:RM}(hm:okM m=true)(hk2:m.kind=2)(hv:n.pmd=m.view) :
  Sim (Br (if(n.jns f).is=true then n else {n with jns:=fun i=>if i=f then⟨true,m.normal,m.l⟩ else n.jns i})) (Dq r f m)∧NI (k+1) (Br (if(n.jns f).is=true then n else {n with jns:=fun i=>if i=f then⟨true,m.normal,m.l⟩ else n.jns i})):=by
 have hph:=h.st.2.1 hl hs
 have hj:=h.jns hl hs
 have hfr:=Y5 hf r hj
 unfold Dq
 cases hjf:(n.jns f).is with
 | true =>
  rw[if_pos rfl,if_pos (.inr (.inr (by rw[hfr,hjf])))]
  have hb:Br n=n:=by
   unfold Br
   rw[if_pos]
   have:=hq hph
   rw[hj,Z70,h.many] at this
   exact this
  rw[hb]
  exact⟨h,hi.up (by omega) hk⟩
 | false =>
  rw[if_neg (by decide),if_neg (by rintro(h1 | h1 | h1);exact h1 hph;rw[h.pmd] at h1;exact h1 hv;rw[hfr,hjf] at h1;cases h1)]
  obtain⟨hb1,-,hb3,-⟩:=Ay hm
  obtain⟨m1,m2⟩:=Zfl hm hk2
  refine Pe (n:={n with jns:=fun i=>if i=f then⟨true,m.normal,m.l⟩ else n.jns i}) (r:=Nz r ⟨f,m.normal,A5 m.l,m.l⟩) ?_ ?_ hk hl hs
  ·refine⟨h.self,h.many,h.pmd,h.normal,h.log,h.cmt,h.out,h.phase,fun _ _=>?_,h.aks⟩
   show Z98 r.jns ⟨f,m.normal,A5 m.l,m.l⟩=jrL (fun i=>if i=f then⟨true,m.normal,m.l⟩ else n.jns i) n.many
   rw[hj]
   exact Zcw hf hjf _ _
  ·refine⟨⟨hi.sl.ws,hi.sl.rl,hi.sl.kk,hi.sl.ld⟩,hi.arm,⟨hi.nv.p,hi.nv.log,hi.nv.top⟩,hi.dead,hi.self,hi.m7,hi.com,hi.ld,hi.st,fun _ _=>⟨(hi.jn hl hs).1,fun i hii=>?_⟩,fun i=>?_⟩
   ·dsimp only at hii⊢
    split
    ·exact⟨⟨hb1.2.2.1,by show m.normal < n.pmd;omega⟩,m1,m2⟩
    ·next hne=>rw[if_neg hne] at hii;exact(hi.jn hl hs).2 i hii
   ·dsimp only
    split
    ·exact hb3
    ·exact hi.jl i
theorem Z23 (r:RN)(f i:Nat):Lo {r with hrd:=r.hrd++[(f:Int)]} i=if i=f then true else Lo r i:=by
 unfold Lo
 show(r.hrd++[(f:Int)]).any _=_
 rw[List.any_append]
 show(_||(decide ((f:Int)=(i:Int))||false))=_
 by_cases h:i=f
 ·subst h;rw[if_pos rfl,decide_eq_true rfl];simp
 ·rw[if_neg h,decide_eq_false (by omega)];simp
theorem Z8j {k:Nat}{n:PN}{r:RN}(h:Sim n r)(hi:NI k n)(hl:n.lds=true)(hs:n.std=true){f:Nat}(hf:f < n.many){m:RM}(hm:okM m=true)(hv:n.pmd=m.view)(hn:m.num≤n.log.length) :
  Sim ((fun n2:PN=>if m.num < n2.log.length then Aq n2 f ⟨4,n2.pmd,0,m.num,n2.log.drop m.num.toNat⟩ else n2)
   (Cp {n with aks:=fun i=>if i=f then max (n.aks f) m.num else n.aks i,hrd:=fun i=>if i=f then true else n.hrd i})) (E3 r f m)∧NI k ((fun n2:PN=>if m.num < n2.log.length then Aq n2 f ⟨4,n2.pmd,0,m.num,n2.log.drop m.num.toNat⟩ else n2)
   (Cp {n with aks:=fun i=>if i=f then max (n.aks f) m.num else n.aks i,hrd:=fun i=>if i=f then true else n.hrd i})):=by
 have hph:=h.st.2.2 hl hs
 obtain⟨s1,s2,s3,s4,s5⟩:=hi.st hs
 obtain⟨a1,a2,a3⟩:=h.aks hl hs
 obtain⟨hb1,-,-,-⟩:=Ay hm
 have hp:=hi.nv.p
 have hld:=hi.ld hl
 unfold E3
 rw[if_neg (by rintro(h1 | h1 | h1);exact h1 hph;rw[h.pmd] at h1;exact h1 hv;rw[h.log] at h1;omega)]
 have hS:Sim {n with aks:=fun i=>if i=f then max (n.aks f) m.num else n.aks i,hrd:=fun i=>if i=f then true else n.hrd i} (Dv {r with hrd:=r.hrd++[(f:Int)]} f m.num):=by
  refine⟨h.self,h.many,h.pmd,h.normal,h.log,h.cmt,h.out,h.phase,h.jns,fun _ _=>⟨?_,a2,fun i hin=>?_⟩⟩
  ·show r.aks.set (f:Int).toNat (max (r.aks[(f:Int).toNat]?.getD 0) m.num)=_
   rw[Int.toNat_natCast,a1,Rl hf]
   exact(Ul n f (max (n.aks f) m.num) n.log n.st _).symm
  ·refine(Z23 r f i).trans ?_
   show _=if i=f then true else n.hrd i
   rw[a3 i hin]
 have hN:NI k {n with aks:=fun i=>if i=f then max (n.aks f) m.num else n.aks i,hrd:=fun i=>if i=f then true else n.hrd i}:=by
  refine⟨⟨hi.sl.ws,hi.sl.rl,hi.sl.kk,hi.sl.ld⟩,hi.arm,⟨hi.nv.p,hi.nv.log,hi.nv.top⟩,hi.dead,hi.self,hi.m7,hi.com,hi.ld,fun _=>⟨s1,s2,fun i=>?_,s4,s5⟩,hi.jn,hi.jl⟩
  show 0≤(if i=f then max (n.aks f) m.num else n.aks i)∧(if i=f then max (n.aks f) m.num else n.aks i)≤(n.log.length:Int)
  have:=s3 i
  have:=s3 f
  split<;>omega
 obtain⟨r1,r2,r3,r4⟩:=P8 hS hN hs
 have r3:(Cp {n with aks:=fun i=>if i=f then max (n.aks f) m.num else n.aks i,hrd:=fun i=>if i=f then true else n.hrd i}).log=n.log:=r3
 have r4:(Cp {n with aks:=fun i=>if i=f then max (n.aks f) m.num else n.aks i,hrd:=fun i=>if i=f then true else n.hrd i}).pmd=n.pmd:=r4
 change Sim _ (if m.num < (E6 (Dv {r with hrd:=r.hrd++[(f:Int)]} f m.num)).log.length then E0 (E6 (Dv {r with hrd:=r.hrd++[(f:Int)]} f m.num)) f ⟨4,(E6 (Dv {r with hrd:=r.hrd++[(f:Int)]} f m.num)).pmd,0,m.num,(E6 (Dv {r with hrd:=r.hrd++[(f:Int)]} f m.num)).log.drop m.num.toNat⟩ else E6 (Dv {r with hrd:=r.hrd++[(f:Int)]} f m.num))∧_
 have e1:=r1.log
 have e2:=r1.pmd
 rw[r3] at e1
 rw[r4] at e2
 generalize Cp {n with aks:=fun i=>if i=f then max (n.aks f) m.num else n.aks i,hrd:=fun i=>if i=f then true else n.hrd i}=n2 at *
 generalize E6 (Dv {r with hrd:=r.hrd++[(f:Int)]} f m.num)=r2' at *
 dsimp only
 rw[e1,e2,r3,r4]
 by_cases hc:m.num < n.log.length
 ·rw[if_pos hc,if_pos hc]
  have hmp:=Zm (v:=n.pmd) (k:=m.num.toNat) (l:=n.log) (by omega) (by omega) hi.nv.log (by rw[←s2];exact hi.nv.top)
  rw[show((m.num.toNat:Nat):Int)=m.num by omega] at hmp
  exact⟨r1.send hmp,r2.same (A8 _ _ _)⟩
 ·rw[if_neg hc,if_neg hc]
  exact⟨r1,r2⟩
theorem Zap {l:List REnt}(h:l.length≠0)(a b:Int):vw a l=vw b l:=by
 unfold vw
 cases hg:l.getLast? with
 | none=>rw[List.getLast?_eq_none_iff] at hg;rw[hg] at h;exact absurd rfl h
 | some e=>rfl
theorem Jh:∀(l:List REnt) {n:PN} {r:RN} {k:Nat} {num v:Int},Sim n r→NI k n→n.lds=false→H8 num v l=true→0≤num→1≤v→B9 l n.normal=true→k+l.length≤900000000 →
  (Aj l (vw 1 n.log) n).2=true∧Sim (Aj l (vw 1 n.log) n).1 (I8 l r)∧NI (k+l.length) (Aj l (vw 1 n.log) n).1∧(Aj l (vw 1 n.log) n).1.lds=false∧(Aj l (vw 1 n.log) n).1.pmd=n.pmd
 | [],n,r,k,num,v,h,hi,hl,_,_,_,_,_=>⟨rfl,h,hi,hl,rfl⟩
 | e::l,n,r,k,num,v,h,hi,hl,hr,h0,hv,hm,hk=>by
  unfold H8 at hr
  rw[Bool.and_eq_true,decide_eq_true_iff] at hr
  obtain⟨⟨q1,q2,q3,q4⟩,q5⟩:=hr
  have hm0:(decide (e.v≤n.normal)&&B9 l n.normal)=true:=hm
  rw[Bool.and_eq_true,decide_eq_true_iff] at hm0
  have hle:=Dg n.log
  rw[List.length_cons] at hk⊢
  unfold Aj I8
  rw[h.log]
  by_cases c1:e.n > n.log.length+1
  ·rw[if_pos c1,if_pos c1]
   exact⟨rfl,h,hi.up (by omega) (by omega),hl,rfl⟩
  ·rw[if_neg c1,if_neg c1]
   by_cases c2:e.n≤n.log.length∨e.v < vw 1 n.log
   ·rw[if_pos c2,if_neg (fun⟨d1,d2⟩=>by
     rcases c2 with c2 | c2
     ·omega
     ·by_cases hz:n.log.length=0
      ·rw[List.eq_nil_of_length_eq_zero hz] at c2
       have:e.v < 1:=c2
       omega
      ·rw[Zap hz 1 0] at c2
       rcases d2 with d2 | d2
       ·exact hz d2
       ·omega)]
    obtain⟨z1,z2,z3,z4,z5⟩:=Jh l (r:=r) h hi hl q5 (by omega) (by omega) hm0.2 (by omega)
    exact⟨z1,z2,z3.up (by omega) (by omega),z4,z5⟩
   ·rw[if_neg c2]
    obtain⟨p1,pv,st,p2,p3,p4,p5,p6⟩:=Ov hi (e:=e) (by omega) (by omega) (by omega) hm0.1 q4 (by omega)
    rw[if_pos p1,p2,if_pos ⟨by omega,by
     by_cases hz:n.log.length=0
     ·exact .inl hz
     ·refine .inr ?_
      rw[←Zap hz 1 0];omega⟩]
    have hcom:=hi.com
    have hll:(n.log++[e]).length=n.log.length+1:=by rw[List.length_append];rfl
    have hS:Sim {n with log:=n.log++[e],st:=st} (Z47 r e):=Sim.fol h.self h.many h.pmd h.normal (by show r.log++[e]=n.log++[e];rw[h.log]) h.cmt h.out (h.st.1.2 hl) hl
    have hN:NI (k+1) {n with log:=n.log++[e],st:=st}:=NI.fol ⟨p3,p4,by omega,p6⟩ p5 ⟨pv.p,pv.log,pv.top⟩ hi.dead hi.self hi.m7 (by show 0≤n.cmt∧n.cmt≤((n.log++[e]).length:Int);rw[hll];omega) hl (hi.unst hl) hi.jl
    obtain⟨z1,z2,z3,z4,z5⟩:=Jh l hS hN hl q5 (by omega) (by omega) hm0.2 (by omega)
    have ev:vw 1 (PN.log {n with log:=n.log++[e],st:=st})=e.v:=Z2g _ _ _
    rw[ev] at z1 z2 z3 z4 z5
    exact⟨z1,z2,z3.up (by omega) (by omega),z4,z5⟩
end Go.Proofs.YtihfaocdpmmooaaGreat
namespace Go.Proofs.YtihfaocdpmmooaaGreat
theorem Z7y {k:Nat}{n:PN}{r:RN}(h:Sim n r)(hi:NI k n)(hk:k+150≤900000000){f:Nat}(hfs:f≠n.self){m:RM}(hm:okM m=true)(hp0:Aa m.view n.many=f)(hkd:m.kind=1∨m.kind=3∨m.kind=4∨m.kind=6) :
  Sim (A4 n f m) (if m.kind=1 then Gm r f m else if m.kind=3 then E8 r f m else if m.kind=4 then Gq r f m
   else if r.pmd=m.view∧r.normal=m.view∧r.phase=0 then {r with cmt:=max r.cmt (min m.num (A5 r.log))} else r)∧NI (k+150) (A4 n f m):=by
 have up:NI (k+150) n:=hi.up (by omega) hk
 obtain⟨hb1,-,hb3,hb4⟩:=Ay hm
 have hp:=hi.nv.p
 have hcom:=hi.com
 have hlen:=hi.nv.ents.1
 have hle:=Dg n.log
 have hph:=h.st.1
 have hdead:=hi.dead
 have nlead:m.view=n.pmd→n.lds=false:=fun e=>by
  cases hl:n.lds with
  | false=>rfl
  | true=>have:=(hi.ld hl).1;rw[←e,hp0] at this;omega
 unfold A4
 rcases hkd with hk1 | hk3 | hk4 | hk6
 ·rw[if_pos hk1,if_pos hk1]
  unfold Gm J5
  by_cases hv:m.view > n.pmd
  ·have hv':m.view > r.pmd:=by rw[h.pmd];exact hv
   obtain⟨q1,st,q2,q3,q4,q5,q6⟩:=Pk hi hv hb1.2.1
   rw[if_pos hv,if_pos q1,q2,if_pos hv',if_pos ⟨rfl,by show m.view > r.normal;rw[h.normal];omega,rfl⟩]
   have hS:Sim {n with pmd:=m.view,lds:=false,std:=false,st:=st} {r with pmd:=m.view,phase:=0}:=Sim.fol h.self h.many rfl h.normal h.log h.cmt h.out rfl rfl
   have hN:NI (k+150) {n with pmd:=m.view,lds:=false,std:=false,st:=st}:=NI.fol ⟨q3.up (by omega),q4,hk,q6⟩ q5 ⟨⟨hp.1,by show n.normal≤m.view;omega,hb1.2.1⟩,hi.nv.log,hi.nv.top⟩ hi.dead hi.self hi.m7 hcom rfl rfl hi.jl
   have hmj:=Uj (v:=m.view) (q:=n.normal) (l:=n.log) (by omega) (by omega) hi.nv.log hi.nv.top
   have:=hS.send (i:=f) hmj
   refine⟨?_,hN.same (A8 _ _ _)⟩
   have e:(⟨2,m.view,r.normal,0,r.log⟩:RM)=⟨2,m.view,n.normal,0,n.log⟩:=by rw[h.normal,h.log]
   show Sim _ (E0 {r with pmd:=m.view,phase:=0} f ⟨2,m.view,r.normal,0,r.log⟩)
   rw[e]
   exact this
  ·have hv':¬m.view > r.pmd:=by rw[h.pmd];exact hv
   rw[if_neg hv,if_neg hv']
   by_cases hc:m.view=n.pmd∧m.view > n.normal∧n.lds=false
   ·rw[if_pos hc,if_pos ⟨by rw[h.pmd];exact hc.1,by rw[h.normal];exact hc.2.1,hph.2 hc.2.2⟩]
    have hmj:=Uj (v:=m.view) (q:=n.normal) (l:=n.log) (by omega) (by omega) hi.nv.log hi.nv.top
    rw[h.normal,h.log]
    exact⟨h.send hmj,up.same (A8 _ _ _)⟩
   ·rw[if_neg hc,if_neg (by rw[h.pmd,h.normal,hph];exact hc)]
    exact⟨h,up⟩
 ·have n1:¬m.kind=1:=by omega
  rw[if_neg n1,if_neg n1,if_pos hk3,if_pos hk3]
  unfold E8 El
  rw[h.pmd,h.normal]
  by_cases hv:m.view ≥ n.pmd∧m.view > n.normal
  ·obtain⟨m1,m2⟩:=Zeq hm hk3
   have hN0:NV (Bj {n with lds:=false,std:=false} m.view m.l):=⟨⟨by show 0≤m.view;omega,Int.le_refl _,hb1.2.1⟩,m1,Gr m2 (fun e he=>he) (by show m.view - 1≤m.view;omega)⟩
   obtain⟨q1,st,q2,q3,q4,q5,q6⟩:=Kr (n:={n with lds:=false,std:=false}) hi.sl.ws hi.sl.rl hi.arm hN0
   rw[if_pos hv,if_pos q1,q2,if_pos hv,if_pos ⟨rfl,rfl⟩]
   have hlm:=Dg m.l
   have hS:Sim {Bj {n with lds:=false,std:=false} m.view m.l with st:=st} {r with pmd:=m.view,normal:=m.view,log:=m.l,cmt:=min r.cmt (A5 m.l),phase:=0}:=Sim.fol h.self h.many rfl rfl rfl (by show min r.cmt (A5 m.l)=min n.cmt (A5 m.l);rw[h.cmt]) h.out rfl rfl
   have hN:NI (k+150) {Bj {n with lds:=false,std:=false} m.view m.l with st:=st}:=NI.fol ⟨q3.up (by omega),q4,hk,q6⟩ q5 ⟨hN0.p,hN0.log,hN0.top⟩ hi.dead hi.self hi.m7 (by show 0≤min n.cmt (A5 m.l)∧min n.cmt (A5 m.l)≤(m.l.length:Int);omega) rfl rfl hi.jl
   exact⟨hS.send (Sb (by omega) (by omega)),hN.same (A8 _ _ _)⟩
  ·rw[if_neg hv,if_neg hv,h.pmd,h.normal,h.log]
   by_cases hc:m.view=n.pmd∧m.view=n.normal
   ·rw[if_pos hc,if_pos hc]
    exact⟨h.send (Sb (by omega) (by omega)),up.same (A8 _ _ _)⟩
   ·rw[if_neg hc,if_neg hc]
    exact⟨h,up⟩
 ·have n1:¬m.kind=1:=by omega
  have n3:¬m.kind=3:=by omega
  rw[if_neg n1,if_neg n1,if_neg n3,if_neg n3,if_pos hk4,if_pos hk4]
  unfold Gq
  by_cases hc:n.pmd=m.view∧n.normal=m.view∧n.lds=false
  ·obtain⟨m1,m2⟩:=Zeu hm hk4
   obtain⟨z1,z2,z3,z4,z5⟩:=Jh m.l h hi hc.2.2 m1 (by omega) (by omega) (by rw[hc.2.1];exact m2) (by omega)
   rw[if_pos hc,if_neg (by rw[h.pmd,h.normal];rintro(h1 | h1 | h1);exact h1 hc.1;exact h1 hc.2.1;exact h1 (hph.2 hc.2.2))]
   dsimp only
   rw[if_pos z1,z2.log]
   generalize (Aj m.l (vw 1 n.log) n).1=n2 at *
   have hl2:=z3.nv.ents.1
   have hle2:=Dg n2.log
   exact⟨z2.send (Sb (by omega) (by omega)),(z3.up (by omega) hk).same (A8 _ _ _)⟩
  ·rw[if_neg hc,if_pos (by
    rw[h.pmd,h.normal]
    by_cases a:n.pmd=m.view
    ·by_cases b:n.normal=m.view
     ·exact .inr (.inr fun e=>hc ⟨a,b,hph.1 e⟩)
     ·exact .inr (.inl b)
    ·exact .inl a)]
   exact⟨h,up⟩
 ·have n1:¬m.kind=1:=by omega
  have n3:¬m.kind=3:=by omega
  have n4:¬m.kind=4:=by omega
  rw[if_neg n1,if_neg n1,if_neg n3,if_neg n3,if_neg n4,if_neg n4,if_pos hk6]
  by_cases hc:n.pmd=m.view∧n.normal=m.view∧n.lds=false
  ·rw[if_pos hc,if_pos ⟨by rw[h.pmd];exact hc.1,by rw[h.normal];exact hc.2.1,hph.2 hc.2.2⟩]
   refine⟨Sim.fol h.self h.many h.pmd h.normal h.log (by show max r.cmt (min m.num (A5 r.log))=max n.cmt (min m.num (A5 n.log));rw[h.cmt,h.log]) h.out (hph.2 hc.2.2) hc.2.2,?_⟩
   exact NI.fol ⟨hi.sl.ws.up (by omega),hi.sl.rl,hk,hi.sl.ld⟩ hi.arm ⟨hi.nv.p,hi.nv.log,hi.nv.top⟩ hi.dead hi.self hi.m7 (by show 0≤max n.cmt (min m.num (A5 n.log))∧max n.cmt (min m.num (A5 n.log))≤(n.log.length:Int);omega) hc.2.2 (hi.unst hc.2.2) hi.jl
  ·rw[if_neg hc,if_neg (fun e=>hc ⟨by rw[←h.pmd];exact e.1,by rw[←h.normal];exact e.2.1,hph.1 e.2.2⟩)]
   exact⟨h,up⟩
theorem Z3m {k:Nat}{n:PN}{r:RN}(h:Sim n r)(hi:NI k n)(hk:k+150≤900000000)(hq:NJr r)(p:RPk):Sim (Dm n p) (Er r p)∧NI (k+150) (Dm n p):=by
 have up:NI (k+150) n:=hi.up (by omega) hk
 have hph:=h.st.1
 unfold Dm Er
 rw[hi.dead]
 have hcr:(¬Kp p.body.data.toList∨p.to≠r.self∨p.frm=r.self∨p.frm < 0∨p.frm ≥ r.many)↔(¬Kp p.body.data.toList∨p.to≠n.self∨p.frm=n.self∨p.frm < 0∨p.frm ≥ n.many):=by rw[h.self,h.many]
 by_cases hc:¬Kp p.body.data.toList∨p.to≠n.self∨p.frm=n.self∨p.frm < 0∨p.frm ≥ n.many
 ·rw[if_pos (.inr hc),if_pos (hcr.2 hc)]
  exact⟨h,up⟩
 ·rw[if_neg (by rintro(h | h);cases h;exact hc h),if_neg (fun e=>hc (hcr.1 e))]
  clear hcr
  have hok:Kp p.body.data.toList:=Classical.byContradiction fun e=>hc (.inl e)
  have hm:=(Zbw hok).1
  obtain⟨f,hf⟩:∃f:Nat,p.frm=f:=⟨p.frm.toNat,by omega⟩
  rw[hf,Int.toNat_natCast]
  have hfm:f < n.many:=by omega
  have hfs:f≠n.self:=by omega
  obtain⟨hb1,hb2,-,-⟩:=Ay hm
  generalize mD p.body.data.toList=m at *
  by_cases h2:m.kind=2
  ·rw[if_pos (.inl h2),if_pos h2]
   unfold As
   by_cases hl:n.lds=false∨n.pmd≠m.view
   ·rw[if_pos hl]
    unfold Dq
    rw[if_pos (by
     rcases hl with hl | hl
     ·exact .inl (by rw[hph.2 hl];decide)
     ·exact .inr (.inl (by rw[h.pmd];exact hl)))]
    exact⟨h,up⟩
   ·rw[if_neg hl]
    have hld:n.lds=true:=by
     cases hx:n.lds with
     | true=>rfl
     | false=>exact absurd (.inl hx) hl
    have hv:n.pmd=m.view:=Classical.byContradiction fun e=>hl (.inr e)
    cases hs:n.std with
    | false =>
     rw[if_pos ⟨h2,rfl⟩]
     obtain⟨r1,r2⟩:=Z59 h hi (by omega) hq hld hs hfm hm h2 hv
     rw[hs] at r1 r2
     exact⟨r1,r2.up (by omega) hk⟩
    | true =>
     rw[if_neg (by rintro⟨-,e⟩;cases e),if_neg (by omega)]
     unfold Dq
     rw[if_pos (.inl (by rw[h.st.2.2 hld hs];decide))]
     exact⟨h,up⟩
  ·rw[if_neg h2]
   by_cases h5:m.kind=5
   ·rw[if_pos (.inr h5),if_pos h5]
    unfold As
    have no:(n.lds=false∨n.pmd≠m.view∨n.std=false∨¬m.num≤n.log.length)→E3 r f m=r:=fun hh=>by
     unfold E3
     rw[if_pos (by
      rcases hh with hh | hh | hh | hh
      ·exact .inl (by rw[hph.2 hh];decide)
      ·exact .inr (.inl (by rw[h.pmd];exact hh))
      ·refine .inl fun e=>?_
       have:=h.phase
       rw[e,hh] at this
       split at this
       ·exact absurd this (by decide)
       ·exact absurd this (by decide)
      ·exact .inr (.inr (by rw[h.log];omega)))]
    by_cases hl:n.lds=false∨n.pmd≠m.view
    ·rw[if_pos hl,no (by rcases hl with hl | hl;exact .inl hl;exact .inr (.inl hl))]
     exact⟨h,up⟩
    ·rw[if_neg hl,if_neg (fun e=>h2 e.1)]
     have hld:n.lds=true:=by
      cases hx:n.lds with
      | true=>rfl
      | false=>exact absurd (.inl hx) hl
     have hv:n.pmd=m.view:=Classical.byContradiction fun e=>hl (.inr e)
     by_cases hc2:m.kind=5∧n.std=true∧m.num≤n.log.length
     ·rw[if_pos hc2]
      obtain⟨r1,r2⟩:=Z8j h hi hld hc2.2.1 hfm hm hv hc2.2.2
      exact⟨r1,r2.up (by omega) hk⟩
     ·rw[if_neg hc2,no (by
       by_cases a:n.std=true
       ·exact .inr (.inr (.inr fun b=>hc2 ⟨h5,a,b⟩))
       ·exact .inr (.inr (.inl (by simpa using a))))]
      exact⟨h,up⟩
   ·rw[if_neg (by rintro(e | e);exact h2 e;exact h5 e),if_neg h5]
    by_cases hpr:Aa m.view n.many=f
    ·rw[if_neg (fun e=>e hpr),if_neg (fun e=>e (by rw[h.many];exact hpr))]
     exact Z7y h hi hk hfs hm hpr (by omega)
    ·rw[if_pos hpr,if_pos (by rw[h.many];exact hpr)]
     exact⟨h,up⟩
def SameJ (n n':RN):Prop:=n'.phase=n.phase∧n'.jns=n.jns∧n'.many=n.many
theorem SameJ.nj {n n':RN}(h:SameJ n n')(hq:NJr n):NJr n':=fun e=>by rw[h.2.1,h.2.2];exact hq (by rw[←h.1];exact e)
theorem SameJ.refl (n:RN):SameJ n n:=⟨rfl,rfl,rfl⟩
theorem SameJ.trans {a b c:RN}(h:SameJ a b)(h2:SameJ b c):SameJ a c:=⟨h2.1.trans h.1,h2.2.1.trans h.2.1,h2.2.2.trans h.2.2⟩
theorem V6 {f:RN→Nat→RN}(hf:∀n i,SameJ n (f n i))(n:RN):∀k,SameJ n (P9 f n k)
 | 0=>SameJ.refl n
 | k+1=>by
  rw[Ff]
  split
  ·exact V6 hf n k
  ·exact(V6 hf n k).trans (hf _ _)
theorem Ft (n:RN)(t:Int)(m:RM):SameJ n (E0 n t m):=⟨rfl,rfl,rfl⟩
theorem F8 (n:RN)(m:RM):SameJ n (Bq n m):=V6 (fun n i=>Ft n i m) n _
theorem Sg (n:RN):SameJ n (E6 n):=by
 unfold E6
 split
 ·exact SameJ.trans (b:={n with cmt:=Bu n.aks}) ⟨rfl,rfl,rfl⟩ (F8 _ _)
 ·exact SameJ.refl n
theorem Z75 {n:RN}(h:n.phase=2):NJr n:=fun e=>by rw[h] at e;cases e
theorem L5 {n:RN}(h:n.phase=0):NJr n:=fun e=>by rw[h] at e;cases e
theorem Ut (n:RN):NJr (Ev n):=by
 unfold Ev
 split
 ·next h=>exact fun _=>h
 ·exact Z75 (by rw[(Sg _).1,(F8 _ _).1];rfl)
theorem Xz {n:RN}(h:NJr n)(v:Int):NJr (Fk n v).1:=by
 unfold Fk
 split
 ·exact h
 ·exact Ut _
theorem Z4d {n:RN}(h:NJr n)(s:ByteArray):NJr (Cs n s).1:=by
 unfold Cs
 split
 ·exact h
 ·next hc =>
  have h2:n.phase=2:=Classical.byContradiction fun e=>hc (.inl e)
  exact Z75 (by rw[(Sg _).1,(F8 _ _).1];exact h2)
theorem Z4j {n:RN}(h:NJr n):NJr (Fb n):=by
 refine(V6 (fun n i=>?_) n _).nj h
 have a:∀n,SameJ n (K5 n i):=fun n=>by unfold K5;split;exact Ft _ _ _;exact SameJ.refl n
 have b:∀n,SameJ n (K6 n i):=fun n=>by unfold K6;split;exact Ft _ _ _;exact SameJ.refl n
 have c:∀n,SameJ n (J7 n i):=fun n=>by unfold J7;split;exact Ft _ _ _;exact SameJ.refl n
 have d:∀n,SameJ n (Js n i):=fun n=>by unfold Js;split;exact Ft _ _ _;exact SameJ.refl n
 exact(((a n).trans (b _)).trans (c _)).trans (d _)
theorem Y2:∀(l:List REnt) (n:RN),SameJ n (I8 l n)
 | [],n=>SameJ.refl n
 | e::l,n=>by
  unfold I8
  split
  ·exact SameJ.refl n
  ·split
   ·exact SameJ.trans (b:=Z47 n e) ⟨rfl,rfl,rfl⟩ (Y2 l _)
   ·exact Y2 l n
theorem Zb1 (n:RN)(f:Int)(m:RM):SameJ n (E3 n f m):=by
 unfold E3
 have h:SameJ n (P4 n f m):=SameJ.trans (b:=Dv {n with hrd:=n.hrd++[f]} f m.num) ⟨rfl,rfl,rfl⟩ (Sg _)
 split
 ·exact SameJ.refl n
 ·split
  ·exact h.trans (Ft _ _ _)
  ·exact h
theorem Z9m {n:RN}(h:NJr n)(p:RPk):NJr (Er n p):=by
 unfold Er
 generalize mD p.body.data.toList=m
 split
 ·exact h
 split
 ·unfold Dq
  split
  ·exact h
  ·exact Ut _
 split
 ·exact(Zb1 _ _ _).nj h
 split
 ·exact h
 split
 ·have h0:NJr (J5 n m):=by
   unfold J5
   split
   ·exact L5 rfl
   ·exact h
  unfold Gm
  split
  ·exact(Ft _ _ _).nj h0
  ·exact h0
 split
 ·have h0:NJr (El n m):=by
   unfold El
   split
   ·exact L5 rfl
   ·exact h
  unfold E8
  split
  ·exact(Ft _ _ _).nj h0
  ·exact h0
 split
 ·unfold Gq
  split
  ·exact h
  ·exact((Y2 _ _).trans (Ft _ _ _)).nj h
 split
 ·exact SameJ.nj (n:=n) ⟨rfl,rfl,rfl⟩ h
 ·exact h
end Go.Proofs.YtihfaocdpmmooaaGreat
namespace Go.Proofs.YtihfaocdpmmooaaGreat
structure GM where
 s:Bool
 n:PN
 b:Nat
 e:Nat
 r:RN
structure MOk (k:Nat)(x:GM):Prop where
 sim:Sim x.n x.r
 ni:NI k x.n
 nj:NJr x.r
 sh:ShN x.s x.n
def stN:LD:=⟨0,0,0,[],[],false,Xb 1100⟩
theorem Z7o:Z08 (Xb 1100)=some stN:=Ue (m:=0) (h:=0) (all:=[]) rfl Yx (by decide) (by nofun)
theorem Vb:(Xb 1100).now.length=1100:=by
 show(List.replicate (Ye 1100) sec0).length=1100
 rw[List.length_replicate];rfl
theorem Zb5:WSt 0 stN:=⟨Za 1100,Vb,by show(0:Int)≤_;decide,rfl,by show 0 < 2;decide,rfl,by show 0≤_;decide,Nat.le_refl _,rfl,rfl⟩
theorem Zce:RLd stN:=⟨Yx,rfl,rfl,by nofun⟩
theorem Pq {m:Nat}(h0:1≤m)(h:m≤7):Am m≠0:=by have:=Uf h0 h;omega
theorem Ta {i m:Nat}(hi:i < m)(hm:m≤7):Ml (Xb 1100) i m=some (I4 i m (0,0,[]) stN):=by
 unfold Ml
 rw[if_neg,Z7o]
 ·dsimp only
  have e:B6 stN.all (0,0,[])=some (0,0,[]):=rfl
  rw[e]
  dsimp only
  rw[if_pos ⟨by decide,by decide,by decide⟩,Int.toNat_natCast,Int.toNat_natCast]
 ·rw[Vb]
  rintro(h | h | h | h)
  ·exact Pq (by omega) hm h
  ·omega
  ·omega
  ·exact absurd h (by decide)
theorem Z7s {i m:Nat}(hi:i < m)(hm:m≤7)(b e:Nat):MOk 0 ⟨true,I4 i m (0,0,[]) stN,b,e,H1 i m⟩:=by
 refine⟨Sim.fol rfl rfl rfl rfl rfl rfl rfl rfl rfl,NI.fol ⟨Zb5,Zce,by decide,rfl⟩ rfl ⟨⟨Int.le_refl _,Int.le_refl _,by show(0:Int)≤big;decide⟩,rfl,rfl⟩ rfl hi hm ⟨Int.le_refl _,Int.le_refl _⟩ rfl rfl fun _=>Nat.zero_le _,L5 rfl,⟨fun h=>(by cases h),fun _ _ h=>(by cases h)⟩⟩
end Go.Proofs.YtihfaocdpmmooaaGreat
namespace Go.Proofs.YtihfaocdpmmooaaGreat
def OkP (p:RPk):Prop:=p.body.size≤1000000
def OB (c:Nat)(n:RN):Prop:=n.out.length≤c∧∀p∈n.out,OkP p
theorem Z9t (l:List REnt):(Kd l).length=3 * l.length:=by
 induction l with
 | nil=>rfl
 | cons e l ih =>
  show(enF e++Kd l).length=_
  rw[List.length_append,ih,List.length_cons]
  show 3+_=_;omega
theorem Zbz (m:RM):(bM m).length≤1000000:=by
 unfold bM
 split
 ·next h =>
  obtain⟨a,b,c,d⟩:=Ay h
  have hl:(mF m).length≤455:=by
   unfold mF
   rw[List.length_append,Z9t]
   show 5+_≤_
   omega
  have:=Ok (l:=mF m) (Cw (Su h))
  omega
 ·exact Nat.zero_le _
theorem OB.up {c d:Nat}{n:RN}(h:OB c n)(hd:c≤d):OB d n:=⟨Nat.le_trans h.1 hd,h.2⟩
theorem Fj {c:Nat}{n:RN}(h:OB c n)(t:Int)(m:RM):OB (c+1) (E0 n t m):=by
 refine⟨?_,fun p hp=>?_⟩
 ·show(n.out++[_]).length≤_
  rw[List.length_append]
  have:=h.1
  show _+1≤_;omega
 ·rcases List.mem_append.1 hp with hp | hp
  ·exact h.2 p hp
  ·obtain rfl:=List.mem_singleton.1 hp
   exact Zbz m
theorem Z1s {f:RN→Nat→RN}{a:Nat}(hf:∀n i c,OB c n→OB (c+a) (f n i)){n:RN}{c:Nat}(h:OB c n):∀k,OB (c+a * k) (P9 f n k)
 | 0=>h
 | k+1=>by
  rw[Ff]
  have ih:=Z1s hf h k
  split
  ·exact ih.up (by rw[Nat.mul_succ];omega)
  ·exact(hf _ k _ ih).up (by rw[Nat.mul_succ];omega)
theorem Iy {c k:Nat}{n:RN}(h:OB c n)(hm:n.many=(k:Int))(m:RM):OB (c+k) (Bq n m):=by
 have:=Z1s (f:=fun n i=>E0 n i m) (a:=1) (fun n i c h=>Fj h i m) h n.many.toNat
 unfold Bq
 refine this.up ?_
 rw[hm,Int.toNat_natCast];omega
theorem Sv {c k:Nat}{n:RN}(h:OB c n)(hm:n.many=(k:Int)):OB (c+k) (E6 n):=by
 unfold E6
 split
 ·exact Iy (n:={n with cmt:=Bu n.aks}) h hm _
 ·exact h.up (by omega)
theorem Vk {c k:Nat}{n:RN}(h:OB c n)(hm:n.many=(k:Int)):OB (c+k+k) (Ev n):=by
 unfold Ev
 split
 ·exact h.up (by omega)
 ·have h1:=Iy (n:=L0 n (Ir n)) h hm ⟨3,n.pmd,0,0,Ir n⟩
  exact Sv h1 (by rw[(F8 _ _).2.2];exact hm)
theorem Yg {c k:Nat}{n:RN}(h:OB c n)(hm:n.many=(k:Int))(v:Int):OB (c+k+k+k) (Fk n v).1:=by
 unfold Fk
 split
 ·exact h.up (by omega)
 ·have h1:=Iy (n:={n with pmd:=v,phase:=1,jns:=[⟨n.self,n.normal,A5 n.log,n.log⟩]}) h hm ⟨1,v,0,0,[]⟩
  exact Vk h1 (by rw[(F8 _ _).2.2];exact hm)
theorem Np {c k:Nat}{n:RN}(h:OB c n)(hm:n.many=(k:Int))(s:ByteArray):OB (c+k+k) (Cs n s).1:=by
 unfold Cs
 split
 ·exact h.up (by omega)
 ·have h1:=Iy (n:=Dv (Z47 n (Rg n s)) n.self (Rg n s).n) h hm ⟨4,n.pmd,0,(Rg n s).n - 1,[Rg n s]⟩
  exact Sv h1 (by rw[(F8 _ _).2.2];exact hm)
theorem Z3i {c k:Nat}{n:RN}(h:OB c n)(hm:n.many=(k:Int)):OB (c+4 * k) (Fb n):=by
 have:=Z1s (f:=fun n i=>Js (J7 (K6 (K5 n i) i) i) i) (a:=4) (fun n i c h=>?_) h n.many.toNat
 ·unfold Fb
  refine this.up ?_
  rw[hm,Int.toNat_natCast];omega
 ·have a:∀n c,OB c n→OB (c+1) (K5 n i):=fun n c h=>by unfold K5;split;exact Fj h _ _;exact h.up (by omega)
  have b:∀n c,OB c n→OB (c+1) (K6 n i):=fun n c h=>by unfold K6;split;exact Fj h _ _;exact h.up (by omega)
  have d:∀n c,OB c n→OB (c+1) (J7 n i):=fun n c h=>by unfold J7;split;exact Fj h _ _;exact h.up (by omega)
  have e:∀n c,OB c n→OB (c+1) (Js n i):=fun n c h=>by unfold Js;split;exact Fj h _ _;exact h.up (by omega)
  exact e _ _ (d _ _ (b _ _ (a _ _ h)))
theorem Rx:∀(l:List REnt) (n:RN),(I8 l n).out=n.out
 | [],n=>rfl
 | e::l,n=>by
  unfold I8
  split
  ·rfl
  ·split
   ·exact Rx l _
   ·exact Rx l n
theorem Z0e {c k:Nat}{n:RN}(h:OB c n)(hm:n.many=(k:Int))(p:RPk):OB (c+k+k+1) (Er n p):=by
 have h0:=h.up (d:=c+k+k+1) (by omega)
 unfold Er
 generalize mD p.body.data.toList=m
 split
 ·exact h0
 split
 ·unfold Dq
  split
  ·exact h0
  ·exact(Vk (n:=Nz n _) h hm).up (by omega)
 split
 ·unfold E3
  have h1:OB (c+k) (P4 n p.frm m):=Sv (n:=Dv {n with hrd:=n.hrd++[p.frm]} p.frm m.num) h hm
  split
  ·exact h0
  ·split
   ·exact(Fj h1 _ _).up (by omega)
   ·exact h1.up (by omega)
 split
 ·exact h0
 split
 ·have h1:OB c (J5 n m):=by
   unfold J5
   split
   ·exact h
   ·exact h
  unfold Gm
  split
  ·exact(Fj h1 _ _).up (by omega)
  ·exact h1.up (by omega)
 split
 ·have h1:OB c (El n m):=by
   unfold El
   split
   ·exact h
   ·exact h
  unfold E8
  split
  ·exact(Fj h1 _ _).up (by omega)
  ·exact h1.up (by omega)
 split
 ·unfold Gq
  split
  ·exact h0
  ·have h1:OB c (I8 m.l n):=by
    unfold OB
    rw[Rx];exact h
   exact(Fj h1 _ _).up (by omega)
 split
 ·exact h0
 ·exact h0
end Go.Proofs.YtihfaocdpmmooaaGreat

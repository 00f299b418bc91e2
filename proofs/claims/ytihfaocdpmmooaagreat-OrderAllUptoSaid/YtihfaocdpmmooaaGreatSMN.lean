
import Derived.Test.YtihfaocdpmmooaaGreatSMM
import Derived.Test.YtihfaocdpmmooaaGreatZNm
namespace Go.Proofs.YtihfaocdpmmooaaGreat
theorem NI.up {k j:Nat}{n:PN}(h:NI k n)(hj:k≤j)(hb:j≤900000000):NI j n:=⟨⟨h.sl.ws.up hj,h.sl.rl,hb,h.sl.ld⟩,h.arm,h.nv,h.dead,h.self,h.m7,h.com,h.ld,h.st,h.jn,h.jl⟩
theorem Z3e {l:List REnt}{v u:Int}(h:Au l v=true)(hu:u≤v):vw u l≤v:=by
 unfold vw
 cases hg:l.getLast? with
 | none=>exact hu
 | some e =>
  unfold Au at h
  rw[List.all_eq_true] at h
  exact of_decide_eq_true (h e (List.mem_of_getLast? hg))
theorem Xx {l:List REnt}{e:REnt}(h:Bo l=true)(hn:e.n=A4 l+1)(h1:vw 1 l≤e.v)(h2:e.v≤big)(hs:e.b.size≤200)(hl:l.length < 150):Bo (l++[e])=true:=by
 have hle:=E1 l
 unfold Bo at h⊢
 rw[aq,decide_eq_true_iff] at h
 rw[M9,h.1,aw]
 have e2:Aj (vw 1 l) (0+l.length) [e]=true:=by
  show(okB (vw 1 l) (0+l.length) e&&true)=true
  unfold okB
  rw[decide_eq_true ⟨by omega,h1,h2,hs⟩]
  rfl
 rw[e2,decide_eq_true (by show l.length+1≤150;omega)]
 rfl
theorem Z0y {l:List REnt}{e:REnt}{v:Int}(h:Au l v=true)(he:e.v≤v):Au (l++[e]) v=true:=by
 unfold Au at *
 rw[List.all_append,h]
 show(true&&(decide (e.v≤v)&&true))=true
 rw[decide_eq_true he];rfl
theorem No {k:Nat}{n:PN}(hi:NI k n){e:REnt}(hn:e.n=A4 n.log+1)(h1:vw 1 n.log≤e.v)(h10:1≤e.v)(h2:e.v≤n.normal)(hs:e.b.size≤200)(hl:n.log.length < 150) :
  Ye n e=true∧NV {n with log:=n.log++[e]}∧∃st,Kf n e={n with log:=n.log++[e],st:=st}∧WSt (k+1) st∧RLd st∧st.d.armed=0∧Bf st.all (0,0,[])=some (n.pmd,n.normal,n.log++[e]):=by
 have hp:=hi.nv.p
 have hle:=E1 n.log
 have hN:NV {n with log:=n.log++[e]}:=⟨hp,Xx hi.nv.log hn h1 (by omega) hs hl,Z0y hi.nv.top h2⟩
 have hb:=Z0t
 have hz:=(H1 (k:=3) (a:=e.v) (b:=e.n) (s:=e.b) (by omega) (by omega) (by omega) (by omega)).1
 obtain⟨q1,q2,q3,q4⟩:=Qy (n:={n with log:=n.log++[e]}) (r:=Cp 3 e.v e.n e.b) hi.sl.ws hi.sl.rl hi.sl.kk hi.arm hN (by omega) (by
  show Bf (n.st.all++[Cp 3 e.v e.n e.b]) (0,0,[])=some (n.pmd,n.normal,n.log++[e])
  rw[Ls,hi.sl.ld]
  show Db (n.pmd,n.normal,n.log) (Cp 3 e.v e.n e.b)=_
  rw[Z85 (by omega) (by omega) (by omega)])
 have q5:=(Jn (n:={n with log:=n.log++[e]}) hi.sl.ws (Cp 3 e.v e.n e.b) q1).1
 exact⟨q1,hN,_,Nc q1,q5,q2,q3,q4⟩
theorem V8 (n:PN)(i:Nat)(x:Int)(l:List REnt)(st:LD)(hd:Nat→Bool):Bx {n with log:=l,st:=st,hrd:=hd,aks:=fun j=>if j=i then x else n.aks j}=(Bx n).set i x:=by
 refine co fun j=>?_
 unfold Bx
 show((List.range n.many).map fun j=>if j=i then x else n.aks j)[j]?=_
 rw[aj,ck,aa,List.length_range,aj]
 by_cases hj:j < n.many
 ·rw[cp hj]
  by_cases h:i=j
  ·rw[db h,db (by omega)]
   show some (if j=i then _ else _)=_
   rw[db h.symm]
  ·rw[da h]
   show some (if j=i then _ else _)=_
   rw[da (fun e=>h e.symm)];rfl
 ·rw[b8 (by rw[List.length_range];omega)]
  by_cases h:i=j
  ·rw[db h,da (by omega)];rfl
  ·rw[da h];rfl
theorem Ss {n:PN}{i:Nat}(h:i < n.many):(Bx n)[i]?.getD 0=n.aks i:=by
 unfold Bx
 rw[aj,cp h];rfl
theorem Qo {k:Nat}{n:PN}{r:RN}(h:Sim n r)(hi:NI k n)(hk:k+1≤900000000)(s:ByteArray):(C8 n s).2=(B9 r s).2∧Sim (C8 n s).1 (B9 r s).1∧NI (k+1) (C8 n s).1:=by
 have up:NI (k+1) n:=hi.up (by omega) hk
 obtain⟨rs,rm,rp,rn,rl,rc,rph,rj,ra,rf,rh,ro⟩:=r
 obtain rfl:rs=n.self:=h.self
 obtain rfl:rm=n.many:=h.many
 obtain rfl:rp=n.pmd:=h.pmd
 obtain rfl:rn=n.normal:=h.normal
 obtain rfl:rl=n.log:=h.log
 obtain rfl:rc=n.cmt:=h.cmt
 obtain rfl:ro=n.out:=h.out
 have hph:rph=if n.lds=true then(if n.std=true then 2 else 1) else 0:=h.phase
 unfold C8 B9
 dsimp only
 by_cases hs:n.std=false
 ·rw[db (.inr (.inl hs)),db (.inl (by rw[hph,hs];split<;>decide))]
  exact⟨rfl,h,up⟩
 ·have hs:n.std=true:=by simpa using hs
  obtain⟨s1,s2,s3,s4,s5⟩:=hi.st hs
  rw[s1,hs,db rfl,db rfl] at hph
  subst hph
  by_cases hc:n.log.length ≥ 150∨s.size > 200
  ·rw[db (.inr (.inr hc)),db (.inr hc)]
   exact⟨rfl,h,up⟩
  ·rw[da (by rw[hi.dead,hs];rintro(h | h | h);cases h;cases h;exact hc h)]
   obtain⟨a1,a2,a3⟩:=h.aks s1 hs
   obtain rfl:ra=Bx n:=a1
   obtain rfl:rf=n.first:=a2
   have hl:=hi.ld s1
   have hp:=hi.nv.p
   have hle:=E1 n.log
   obtain⟨q1,qv,st,q2,q3,q4,q5,q6⟩:=No hi (e:=⟨n.pmd,A4 n.log+1,s⟩) rfl (Z3e (by rw[←s2];exact hi.nv.top) hl.2) hl.2 (by show n.pmd≤_;omega) (by show s.size≤200;omega) (by omega)
   rw[db q1,q2,da (by rintro(h | h);exact h rfl;exact hc h)]
   have hself:=hi.self
   have em:(⟨4,n.pmd,0,A4 n.log+1 - 1,[⟨n.pmd,A4 n.log+1,s⟩]⟩:RM)=⟨4,n.pmd,0,(n.log.length:Int),[⟨n.pmd,(n.log.length:Int)+1,s⟩]⟩:=by rw[hle,Int.add_sub_cancel]
   have hm:okM ⟨4,n.pmd,0,A4 n.log+1 - 1,[⟨n.pmd,A4 n.log+1,s⟩]⟩=true:=by rw[em];exact Z93 (by omega) (by omega) (by omega)
   have eA:=V8 n n.self (A4 n.log+1) (n.log++[⟨n.pmd,A4 n.log+1,s⟩]) st n.hrd
   have hlA:A4 (n.log++[⟨n.pmd,A4 n.log+1,s⟩])=A4 n.log+1:=by rw[E1,aw,hle];show((n.log.length+1:Nat):Int)=_;omega
   have hS:Sim {n with log:=n.log++[⟨n.pmd,A4 n.log+1,s⟩],st:=st,aks:=fun i=>if i=n.self then A4 n.log+1 else n.aks i} (Bc (My ⟨n.self,n.many,n.pmd,n.normal,n.log,n.cmt,2,rj,Bx n,n.first,rh,n.out⟩ ⟨n.pmd,A4 n.log+1,s⟩) n.self (A4 n.log+1)):=by
    refine⟨rfl,rfl,rfl,rfl,rfl,rfl,rfl,?_,fun _ hh=>dc hs (by have hh:n.std=false:=hh;rw[hh];decide),fun _ _=>⟨?_,rfl,a3⟩⟩
    ·show(2:Int)=if n.lds=true then(if n.std=true then 2 else 1) else 0
     rw[s1,hs];rfl
    ·refine Eq.trans ?_ eA.symm
     show(Bx n).set (n.self:Int).toNat (max ((Bx n)[(n.self:Int).toNat]?.getD 0) (A4 n.log+1))=_
     rw[ay,Ss hself]
     have:=(s3 n.self).2
     rw[show max (n.aks n.self) (A4 n.log+1)=A4 n.log+1 by omega]
   have hN:NI (k+1) {n with log:=n.log++[⟨n.pmd,A4 n.log+1,s⟩],st:=st,aks:=fun i=>if i=n.self then A4 n.log+1 else n.aks i}:=by
    have hcom:=hi.com
    have hll:(n.log++[(⟨n.pmd,A4 n.log+1,s⟩:REnt)]).length=n.log.length+1:=by rw[aw];rfl
    refine⟨⟨q3,q4,hk,q6⟩,q5,⟨qv.p,qv.log,qv.top⟩,hi.dead,hi.self,hi.m7,?_,hi.ld,fun _=>⟨s1,s2,fun x=>?_,?_,?_⟩,fun _ hh=>dc hs (by have hh:n.std=false:=hh;rw[hh];decide),hi.jl⟩
    ·show 0≤n.cmt∧n.cmt≤((n.log++[(⟨n.pmd,A4 n.log+1,s⟩:REnt)]).length:Int)
     rw[hll];omega
    ·show 0≤(if x=n.self then A4 n.log+1 else n.aks x)∧(if x=n.self then A4 n.log+1 else n.aks x)≤((n.log++[(⟨n.pmd,A4 n.log+1,s⟩:REnt)]).length:Int)
     rw[hll]
     have:=s3 x
     split<;>omega
    ·show 0≤n.first∧n.first≤((n.log++[(⟨n.pmd,A4 n.log+1,s⟩:REnt)]).length:Int)
     rw[hll];omega
    ·show Au ((n.log++[(⟨n.pmd,A4 n.log+1,s⟩:REnt)]).take n.first.toNat) (n.pmd - 1)=true
     rw[List.take_append_of_le_length (by omega)];exact s5
   have h1:=hS.spread hm
   have hss:=A2 {n with log:=n.log++[⟨n.pmd,A4 n.log+1,s⟩],st:=st,aks:=fun i=>if i=n.self then A4 n.log+1 else n.aks i} ⟨4,n.pmd,0,A4 n.log+1 - 1,[⟨n.pmd,A4 n.log+1,s⟩]⟩
   have h2:=hN.same hss
   obtain⟨o,e⟩:=hss.to
   obtain⟨r1,r2,-⟩:=Pb h1 h2 (by rw[e];exact hs)
   exact⟨rfl,r1,r2⟩
theorem Yq {j:Nat→RJ}{m i:Nat}(h:i < m)(n:RN)(hn:n.jns=jrL j m):Jx n i=(j i).is:=by
 unfold Jx
 rw[hn]
 unfold jrL
 rw[List.any_map]
 cases hj:(j i).is with
 | true =>
  rw[List.any_eq_true]
  exact⟨i,List.mem_filter.2 ⟨List.mem_range.2 h,hj⟩,by simp⟩
 | false =>
  rw[List.any_eq_false]
  intro x hx
  obtain⟨h1,h2⟩:=List.mem_filter.1 hx
  intro h3
  have h3:(x:Int)=(i:Int):=by simpa using h3
  have:x=i:=by omega
  rw[this,hj] at h2
  cases h2
theorem Zio:¬(0:Int)=1:=by decide
theorem Zgl:¬(0:Int)=2:=by decide
theorem Zc3:¬(1:Int)=2:=by decide
theorem Zih:¬(2:Int)=1:=by decide
theorem O0 {n:RN}{i:Nat}(h:¬n.phase=1):Fb n i=n:=by unfold Fb;rw[da (fun hh=>h hh.1)]
theorem Jb {n:RN}{i:Nat}(h:¬n.phase=2):Ev n i=n:=by unfold Ev;rw[da (fun hh=>h hh.1)]
theorem Jc {n:RN}{i:Nat}(h:¬n.phase=2):Ek n i=n:=by unfold Ek;rw[da (fun hh=>h hh.1)]
theorem J9 {n:RN}{i:Nat}(h:¬n.phase=2):En n i=n:=by unfold En;rw[da h]
theorem Z2r {k:Nat}{n:PN}{r:RN}(h:Sim n r)(hi:NI k n):Sim (C1 n) (D8 r)∧NI k (C1 n):=by
 obtain⟨rs,rm,rp,rn,rl,rc,rph,rj,ra,rf,rh,ro⟩:=r
 obtain rfl:rs=n.self:=h.self
 obtain rfl:rm=n.many:=h.many
 obtain rfl:rp=n.pmd:=h.pmd
 obtain rfl:rn=n.normal:=h.normal
 obtain rfl:rl=n.log:=h.log
 obtain rfl:rc=n.cmt:=h.cmt
 obtain rfl:ro=n.out:=h.out
 have hph:rph=if n.lds=true then(if n.std=true then 2 else 1) else 0:=h.phase
 have hp:=hi.nv.p
 have hcom:=hi.com
 have hlen:=hi.nv.ents.1
 have fin:∀(f:RN→Nat→RN) (g:Nat→List RPk),(∀o i,i < n.many→f ⟨n.self,n.many,n.pmd,n.normal,n.log,n.cmt,rph,rj,ra,rf,rh,o⟩ i=⟨n.self,n.many,n.pmd,n.normal,n.log,n.cmt,rph,rj,ra,rf,rh,o++g i⟩)→Lk f ⟨n.self,n.many,n.pmd,n.normal,n.log,n.cmt,rph,rj,ra,rf,rh,n.out⟩ n.many=⟨n.self,n.many,n.pmd,n.normal,n.log,n.cmt,rph,rj,ra,rf,rh,n.out++(Xn n.self n.many).flatMap g⟩:=fun f g hf=>P6 (f:=f) (g:=g) (r:=⟨n.self,n.many,n.pmd,n.normal,n.log,n.cmt,rph,rj,ra,rf,rh,n.out⟩) (s:=n.self) rfl n.many fun o i hi=>hf o i hi
 unfold D8
 dsimp only
 rw[ay]
 cases hl:n.lds with
 | false =>
  rw[hl] at hph
  have hph:rph=0:=hph
  subst hph
  have e:C1 n=n:=by unfold C1;rw[db (.inr hl)]
  rw[e,fin _ (fun _=>[]) fun o i _=>?_]
  ·refine⟨?_,hi⟩
   have e0:((Xn n.self n.many).flatMap fun _=>([]:List RPk))=[]:=by simp
   rw[e0,cy]
   exact h
  ·rw[O0 Zio,Jb Zgl,Jc Zgl,J9 Zgl,cy]
 | true =>
  obtain⟨l1,l2⟩:=hi.ld hl
  cases hs:n.std with
  | false =>
   rw[hl,hs] at hph
   have hph:rph=1:=hph
   subst hph
   have hj:=h.jns hl hs
   have e:C1 n={n with out:=n.out++(Xn n.self n.many).flatMap fun i:Nat=>if(n.jns i).is=true then [] else [⟨(n.self:Int),(i:Int),⟨(bM ⟨1,n.pmd,0,0,[]⟩).toArray⟩⟩]}:=by
    unfold C1
    rw[da (by rw[hi.dead,hl];rintro(h | h)<;>cases h),da (by rw[hs];decide)]
    refine L2 (g:=fun i:Nat=>if(n.jns i).is=true then [] else [⟨(n.self:Int),(i:Int),⟨(bM ⟨1,n.pmd,0,0,[]⟩).toArray⟩⟩]) n.many fun o i hin=>?_
    unfold Ew
    dsimp only
    split
    ·next hh=>rw[cy]
    ·next hh=>rw[G3 (Z2z (by omega))]
   rw[e,fin _ (fun i:Nat=>if(n.jns i).is=true then [] else [⟨(n.self:Int),(i:Int),⟨(bM ⟨1,n.pmd,0,0,[]⟩).toArray⟩⟩]) fun o i hin=>?_]
   ·exact⟨h.snd _,hi.snd _⟩
   ·have ef:Jx ⟨n.self,n.many,n.pmd,n.normal,n.log,n.cmt,1,rj,ra,rf,rh,o⟩ i=(n.jns i).is:=Yq hin _ hj
    unfold Fb
    dsimp only
    rw[ef]
    cases hji:(n.jns i).is with
    | true =>
     rw[da (by rintro⟨-,h⟩;cases h),db rfl,cy]
     rw[Jb Zc3,Jc Zc3,J9 Zc3]
    | false =>
     rw[db ⟨rfl,rfl⟩,da (by decide)]
     unfold Ar
     rw[Jb Zc3,Jc Zc3,J9 Zc3]
  | true =>
   rw[hl,hs] at hph
   have hph:rph=2:=hph
   subst hph
   obtain⟨s1,s2,s3,s4,s5⟩:=hi.st hs
   obtain⟨a1,a2,a3⟩:=h.aks hl hs
   obtain rfl:ra=Bx n:=a1
   obtain rfl:rf=n.first:=a2
   have m1:∀i:Nat,okM ⟨4,n.pmd,0,n.aks i,n.log.drop (n.aks i).toNat⟩=true:=fun i=>by
    have:=s3 i
    have:=Z1i (v:=n.pmd) (k:=(n.aks i).toNat) (l:=n.log) (by omega) (by omega) hi.nv.log (by rw[←s2];exact hi.nv.top)
    rwa [show(((n.aks i).toNat:Nat):Int)=n.aks i by omega] at this
   have hrt:Bo (n.log.take n.first.toNat)=true:=by
    have hr:=hi.nv.log
    unfold Bo at hr⊢
    rw[aq,decide_eq_true_iff] at hr
    have h2:=hr.1
    rw[←cw n.first.toNat n.log,M9,aq] at h2
    rw[h2.1,decide_eq_true (by rw[au];omega)]
    rfl
   have m2:okM ⟨3,n.pmd,0,0,n.log.take n.first.toNat⟩=true:=Pp (by omega) hrt s5
   have m3:okM ⟨6,n.pmd,0,n.cmt,[]⟩=true:=V9 (by omega) (by omega)
   let g:Nat→List RPk:=fun i:Nat=>(if n.hrd i=true then [⟨(n.self:Int),(i:Int),⟨(bM ⟨4,n.pmd,0,n.aks i,n.log.drop (n.aks i).toNat⟩).toArray⟩⟩] else [⟨(n.self:Int),(i:Int),⟨(bM ⟨3,n.pmd,0,0,n.log.take n.first.toNat⟩).toArray⟩⟩])++[⟨(n.self:Int),(i:Int),⟨(bM ⟨6,n.pmd,0,n.cmt,[]⟩).toArray⟩⟩]
   have e:C1 n={n with out:=n.out++(Xn n.self n.many).flatMap g}:=by
    unfold C1
    rw[da (by rw[hi.dead,hl];rintro(h | h)<;>cases h),db hs]
    refine L2 (g:=g) n.many fun o i hin=>?_
    unfold F0
    dsimp only[g]
    split
    ·next hh=>rw[G3 (m1 i),G3 m3];dsimp only;rw[bw]
    ·next hh=>rw[G3 m2,G3 m3];dsimp only;rw[bw]
   rw[e,fin _ g fun o i hin=>?_]
   ·exact⟨h.snd _,hi.snd _⟩
   ·have eh:∀o,Dx ⟨n.self,n.many,n.pmd,n.normal,n.log,n.cmt,2,rj,Bx n,n.first,rh,o⟩ i=n.hrd i:=fun o=>a3 i hin
    rw[O0 Zih]
    unfold Ev
    rw[eh]
    dsimp only
    rw[Ss hin]
    dsimp only[g]
    cases hh:n.hrd i with
    | true =>
     rw[db ⟨rfl,rfl⟩,db rfl]
     unfold Ar Ek
     dsimp only
     rw[eh,hh,da (by rintro⟨-,h⟩;cases h)]
     unfold En
     rw[db rfl]
     unfold Ar
     dsimp only
     rw[bw]
    | false =>
     rw[da (by rintro⟨-,h⟩;cases h),da (by decide)]
     unfold Ek
     rw[eh,hh,db ⟨rfl,rfl⟩]
     unfold Ar En
     rw[db rfl]
     unfold Ar
     dsimp only
     rw[bw]
theorem Mw:∀{l:List REnt} {v:Int} {k:Nat},Gd k v l=true→Au l big=true→Aj v k l=true
 | [],_,_,_,_=>rfl
 | e::l,v,k,h,hm=>by
  unfold Gd at h
  rw[aq,decide_eq_true_iff] at h
  have hm0:(decide (e.v≤big)&&Au l big)=true:=hm
  rw[aq,decide_eq_true_iff] at hm0
  show(okB v k e&&Aj e.v (k+1) l)=true
  have:=Mw (l:=l) (v:=e.v) (k:=k+1) (by rw[show((k+1:Nat):Int)=(k:Int)+1 by omega];exact h.2) hm0.2
  rw[this]
  unfold okB
  rw[decide_eq_true ⟨h.1.1,h.1.2.2.1,hm0.1,h.1.2.2.2⟩];rfl
theorem Vb {l:List REnt}{v:Int}(h:Gq 0 l=true)(hm:Au l v=true)(hv:v≤big):Bo l=true:=by
 unfold Gq at h
 rw[aq] at h
 unfold Bo
 rw[Mw (k:=0) h.1 (Ha hm (fun e he=>he) hv),h.2];rfl
theorem Zgo {m:RM}(h:okM m=true)(hk:m.kind=2):Bo m.l=true∧Au m.l m.normal=true:=by
 obtain⟨hb,-⟩:=Aw h
 unfold okM at h
 rw[aq] at h
 have h2:=h.2
 rw[hk,da (by decide),db rfl,aq,aq] at h2
 exact⟨Vb h2.1.2 h2.2 (by omega),h2.2⟩
theorem Zgw {m:RM}(h:okM m=true)(hk:m.kind=3):Bo m.l=true∧Au m.l (m.view - 1)=true:=by
 obtain⟨hb,-⟩:=Aw h
 unfold okM at h
 rw[aq] at h
 have h2:=h.2
 rw[hk,da (by decide),da (by decide),db rfl,aq,aq] at h2
 exact⟨Vb h2.1.2 h2.2 (by omega),h2.2⟩
theorem Zhm {m:RM}(h:okM m=true)(hk:m.kind=4):Gd m.num 1 m.l=true∧Au m.l m.view=true:=by
 unfold okM at h
 rw[aq] at h
 have h2:=h.2
 rw[hk,da (by decide),da (by decide),da (by decide),db rfl,aq,aq] at h2
 unfold Gq at h2
 rw[aq] at h2
 exact⟨h2.1.2.1,h2.2⟩
theorem NI.fol {k:Nat}{n:PN}(sl:SL k n)(arm:n.st.d.armed=0)(nv:NV n)(dead:n.dead=false)(self:n.self < n.many)(m7:n.many≤7)(com:0≤n.cmt∧n.cmt≤n.log.length)(hl:n.lds=false)(hs:n.std=false)(jl:∀i,(n.jns i).l.length≤150):NI k n :=
 ⟨sl,arm,nv,dead,self,m7,com,fun h=>dc h (by rw[hl];decide),fun h=>dc h (by rw[hs];decide),fun h=>dc h (by rw[hl];decide),jl⟩
theorem Sim.fol {n:PN}{r:RN}(self:r.self=n.self)(many:r.many=n.many)(pmd:r.pmd=n.pmd)(normal:r.normal=n.normal)(log:r.log=n.log)(cmt:r.cmt=n.cmt)(out:r.out=n.out)(phase:r.phase=0)(hl:n.lds=false):Sim n r :=
 ⟨self,many,pmd,normal,log,cmt,out,by rw[phase,hl];rfl,fun h=>dc h (by rw[hl];decide),fun h=>dc h (by rw[hl];decide)⟩
theorem NI.unst {k:Nat}{n:PN}(h:NI k n)(hl:n.lds=false):n.std=false:=by
 cases hs:n.std with
 | false=>rfl
 | true=>have:=(h.st hs).1;rw[hl] at this;cases this
theorem W0:∀(A B:List RJn) (j:RJn),(∀x∈A,x.frm < j.frm)→(∀x∈B,j.frm < x.frm)→L0 (A++B) j=A++j::B
 | [],[],j,_,_=>rfl
 | [],x::B,j,_,h=>by
  show(if x.frm > j.frm then j::x::B else x::L0 B j)=_
  rw[db (h x (by simp))];rfl
 | x::A,B,j,h,h2=>by
  show(if x.frm > j.frm then j::x::(A++B) else x::L0 (A++B) j)=_
  rw[da (by have:=h x (by simp);omega),W0 A B j (fun y hy=>h y (by simp[hy])) h2];rfl
theorem Vq {α β:Type}(p:α→Bool)(f:α→β):∀l:List α,(l.filter p).map f=l.flatMap fun x=>if p x=true then [f x] else []
 | []=>rfl
 | x::l=>by
  rw[List.flatMap_cons,←Vq p f l]
  by_cases h:p x=true
  ·rw[List.filter_cons_of_pos h,db h];rfl
  ·rw[List.filter_cons_of_neg h,da h];rfl
theorem Z1q (j:Nat→RJ)(m:Nat):jrL j m=(List.range m).flatMap fun i:Nat=>if(j i).is=true then [⟨(i:Int),(j i).normal,A4 (j i).l,(j i).l⟩] else []:=Vq (fun i=>(j i).is) _ _
theorem Jp {α β:Type}{f g:α→List β}:∀{l:List α},(∀x∈l,f x=g x)→l.flatMap f=l.flatMap g
 | [],_=>rfl
 | x::l,h=>by rw[List.flatMap_cons,List.flatMap_cons,h x (by simp),Jp fun y hy=>h y (by simp[hy])]
theorem Zeh {j:Nat→RJ}{m i:Nat}(hi:i < m)(hj:(j i).is=false)(q:Int)(l:List REnt):L0 (jrL j m) ⟨i,q,A4 l,l⟩=jrL (fun y=>if y=i then⟨true,q,l⟩ else j y) m:=by
 obtain⟨d,rfl⟩:∃d,m=i+(1+d):=⟨m - i - 1,by omega⟩
 rw[Z1q,Z1q,List.range_add,List.flatMap_append,List.flatMap_append,List.range_add,am,List.flatMap_append,List.flatMap_append]
 have e1:(List.range i).flatMap (fun y:Nat=>if(if y=i then(⟨true,q,l⟩:RJ) else j y).is=true then [(⟨(y:Int),(if y=i then(⟨true,q,l⟩:RJ) else j y).normal,A4 (if y=i then(⟨true,q,l⟩:RJ) else j y).l,(if y=i then(⟨true,q,l⟩:RJ) else j y).l⟩:RJn)] else [])=(List.range i).flatMap fun y:Nat=>if(j y).is=true then [(⟨(y:Int),(j y).normal,A4 (j y).l,(j y).l⟩:RJn)] else []:=Jp fun y hy=>by
  have:=List.mem_range.1 hy
  rw[da (by omega:¬y=i)]
 have e2:(((List.range d).map fun x=>1+x).map fun x=>i+x).flatMap (fun y:Nat=>if(if y=i then(⟨true,q,l⟩:RJ) else j y).is=true then [(⟨(y:Int),(if y=i then(⟨true,q,l⟩:RJ) else j y).normal,A4 (if y=i then(⟨true,q,l⟩:RJ) else j y).l,(if y=i then(⟨true,q,l⟩:RJ) else j y).l⟩:RJn)] else [])=(((List.range d).map fun x=>1+x).map fun x=>i+x).flatMap fun y:Nat=>if(j y).is=true then [(⟨(y:Int),(j y).normal,A4 (j y).l,(j y).l⟩:RJn)] else []:=Jp fun y hy=>by
  obtain⟨x,hx,rfl⟩:=az.1 hy
  obtain⟨z,-,rfl⟩:=az.1 hx
  rw[da (by omega:¬i+(1+z)=i)]
 rw[e1,e2]
 have e3:((List.range 1).map fun x=>i+x)=[i]:=rfl
 rw[e3]
 have e4:[i].flatMap (fun y:Nat=>if(j y).is=true then [(⟨(y:Int),(j y).normal,A4 (j y).l,(j y).l⟩:RJn)] else [])=[]:=by
  show(if(j i).is=true then _ else _)++[]=_
  rw[hj];rfl
 have e5:[i].flatMap (fun y:Nat=>if(if y=i then(⟨true,q,l⟩:RJ) else j y).is=true then [(⟨(y:Int),(if y=i then(⟨true,q,l⟩:RJ) else j y).normal,A4 (if y=i then(⟨true,q,l⟩:RJ) else j y).l,(if y=i then(⟨true,q,l⟩:RJ) else j y).l⟩:RJn)] else [])=[(⟨i,q,A4 l,l⟩:RJn)]:=by
  show(if(if i=i then(⟨true,q,l⟩:RJ) else j i).is=true then _ else _)++[]=_
  rw[db rfl];rfl
 rw[e4,e5,cx]
 refine W0 _ _ _ (fun x hx=>?_) fun x hx=>?_
 ·obtain⟨y,hy,hx⟩:=List.mem_flatMap.1 hx
  have:=List.mem_range.1 hy
  split at hx
  ·obtain rfl:=bm.1 hx
   show(y:Int) < (i:Int);omega
  ·cases hx
 ·obtain⟨y,hy,hx⟩:=List.mem_flatMap.1 hx
  obtain⟨a,ha,rfl⟩:=az.1 hy
  obtain⟨z,-,rfl⟩:=az.1 ha
  split at hx
  ·obtain rfl:=bm.1 hx
   show(i:Int) < ((i+(1+z):Nat):Int);omega
  ·cases hx
def NJr (r:RN):Prop:=r.phase=1→(r.jns.length:Int) < Ag r.many
theorem Sim.st {n:PN}{r:RN}(h:Sim n r):(r.phase=0↔n.lds=false)∧(n.lds=true→n.std=false→r.phase=1)∧(n.lds=true→n.std=true→r.phase=2):=by
 have:=h.phase
 cases hl:n.lds with
 | false=>rw[hl] at this;exact⟨⟨fun _=>rfl,fun _=>this⟩,fun h=>(by cases h),fun h=>(by cases h)⟩
 | true =>
  cases hs:n.std with
  | false=>rw[hl,hs] at this;exact⟨⟨fun h=>(by rw[this] at h;cases h),fun h=>(by cases h)⟩,fun _ _=>this,fun _ h=>(by cases h)⟩
  | true=>rw[hl,hs] at this;exact⟨⟨fun h=>(by rw[this] at h;cases h),fun h=>(by cases h)⟩,fun _ h=>(by cases h),fun _ _=>this⟩
theorem Z4y {k:Nat}{n:PN}{r:RN}(h:Sim n r)(hi:NI k n)(hk:k+1≤900000000)(hq:NJr r)(hl:n.lds=true)(hs:n.std=false){f:Nat}(hf:f < n.many){m:RM}(hm:okM m=true)(hk2:m.kind=2)(hv:n.pmd=m.view) :
  Sim (Cb (if(n.jns f).is=true then n else {n with jns:=fun i=>if i=f then⟨true,m.normal,m.l⟩ else n.jns i})) (Bj r f m)∧NI (k+1) (Cb (if(n.jns f).is=true then n else {n with jns:=fun i=>if i=f then⟨true,m.normal,m.l⟩ else n.jns i})):=by
 have hph:=h.st.2.1 hl hs
 have hj:=h.jns hl hs
 have hfr:=Yq hf r hj
 unfold Bj
 cases hjf:(n.jns f).is with
 | true =>
  rw[db rfl,db (.inr (.inr (by rw[hfr,hjf])))]
  have hb:Cb n=n:=by
   unfold Cb
   rw[db]
   have:=hq hph
   rw[hj,Z86,h.many] at this
   exact this
  rw[hb]
  exact⟨h,hi.up (by omega) hk⟩
 | false =>
  rw[da (by decide),da (by rintro(h1 | h1 | h1);exact h1 hph;rw[h.pmd] at h1;exact h1 hv;rw[hfr,hjf] at h1;cases h1)]
  obtain⟨hb1,-,hb3,-⟩:=Aw hm
  obtain⟨m1,m2⟩:=Zgo hm hk2
  refine Qc (n:={n with jns:=fun i=>if i=f then⟨true,m.normal,m.l⟩ else n.jns i}) (r:=Em r ⟨f,m.normal,A4 m.l,m.l⟩) ?_ ?_ hk hl hs
  ·refine⟨h.self,h.many,h.pmd,h.normal,h.log,h.cmt,h.out,h.phase,fun _ _=>?_,h.aks⟩
   show L0 r.jns ⟨f,m.normal,A4 m.l,m.l⟩=jrL (fun i=>if i=f then⟨true,m.normal,m.l⟩ else n.jns i) n.many
   rw[hj]
   exact Zeh hf hjf _ _
  ·refine⟨⟨hi.sl.ws,hi.sl.rl,hi.sl.kk,hi.sl.ld⟩,hi.arm,⟨hi.nv.p,hi.nv.log,hi.nv.top⟩,hi.dead,hi.self,hi.m7,hi.com,hi.ld,hi.st,fun _ _=>⟨(hi.jn hl hs).1,fun i hii=>?_⟩,fun i=>?_⟩
   ·dsimp only at hii⊢
    split
    ·exact⟨⟨hb1.2.2.1,by show m.normal < n.pmd;omega⟩,m1,m2⟩
    ·next hne=>rw[da hne] at hii;exact(hi.jn hl hs).2 i hii
   ·dsimp only
    split
    ·exact hb3
    ·exact hi.jl i
theorem Yp (r:RN)(f i:Nat):Dx {r with hrd:=r.hrd++[(f:Int)]} i=if i=f then true else Dx r i:=by
 unfold Dx
 show(r.hrd++[(f:Int)]).any _=_
 rw[List.any_append]
 show(_||(decide ((f:Int)=(i:Int))||false))=_
 by_cases h:i=f
 ·subst h;rw[db rfl,decide_eq_true rfl];simp
 ·rw[da h,decide_eq_false (by omega)];simp
theorem Zbl {k:Nat}{n:PN}{r:RN}(h:Sim n r)(hi:NI k n)(hl:n.lds=true)(hs:n.std=true){f:Nat}(hf:f < n.many){m:RM}(hm:okM m=true)(hv:n.pmd=m.view)(hn:m.num≤n.log.length) :
  Sim ((fun n2:PN=>if m.num < n2.log.length then Ay n2 f ⟨4,n2.pmd,0,m.num,n2.log.drop m.num.toNat⟩ else n2)
   (Dy {n with aks:=fun i=>if i=f then max (n.aks f) m.num else n.aks i,hrd:=fun i=>if i=f then true else n.hrd i})) (By r f m)∧NI k ((fun n2:PN=>if m.num < n2.log.length then Ay n2 f ⟨4,n2.pmd,0,m.num,n2.log.drop m.num.toNat⟩ else n2)
   (Dy {n with aks:=fun i=>if i=f then max (n.aks f) m.num else n.aks i,hrd:=fun i=>if i=f then true else n.hrd i})):=by
 have hph:=h.st.2.2 hl hs
 obtain⟨s1,s2,s3,s4,s5⟩:=hi.st hs
 obtain⟨a1,a2,a3⟩:=h.aks hl hs
 obtain⟨hb1,-,-,-⟩:=Aw hm
 have hp:=hi.nv.p
 have hld:=hi.ld hl
 unfold By
 rw[da (by rintro(h1 | h1 | h1);exact h1 hph;rw[h.pmd] at h1;exact h1 hv;rw[h.log] at h1;omega)]
 have hS:Sim {n with aks:=fun i=>if i=f then max (n.aks f) m.num else n.aks i,hrd:=fun i=>if i=f then true else n.hrd i} (Bc {r with hrd:=r.hrd++[(f:Int)]} f m.num):=by
  refine⟨h.self,h.many,h.pmd,h.normal,h.log,h.cmt,h.out,h.phase,h.jns,fun _ _=>⟨?_,a2,fun i hin=>?_⟩⟩
  ·show r.aks.set (f:Int).toNat (max (r.aks[(f:Int).toNat]?.getD 0) m.num)=_
   rw[ay,a1,Ss hf]
   exact(V8 n f (max (n.aks f) m.num) n.log n.st _).symm
  ·refine(Yp r f i).trans ?_
   show _=if i=f then true else n.hrd i
   rw[a3 i hin]
 have hN:NI k {n with aks:=fun i=>if i=f then max (n.aks f) m.num else n.aks i,hrd:=fun i=>if i=f then true else n.hrd i}:=by
  refine⟨⟨hi.sl.ws,hi.sl.rl,hi.sl.kk,hi.sl.ld⟩,hi.arm,⟨hi.nv.p,hi.nv.log,hi.nv.top⟩,hi.dead,hi.self,hi.m7,hi.com,hi.ld,fun _=>⟨s1,s2,fun i=>?_,s4,s5⟩,hi.jn,hi.jl⟩
  show 0≤(if i=f then max (n.aks f) m.num else n.aks i)∧(if i=f then max (n.aks f) m.num else n.aks i)≤(n.log.length:Int)
  have:=s3 i
  have:=s3 f
  split<;>omega
 obtain⟨r1,r2,r3,r4⟩:=Pb hS hN hs
 have r3:(Dy {n with aks:=fun i=>if i=f then max (n.aks f) m.num else n.aks i,hrd:=fun i=>if i=f then true else n.hrd i}).log=n.log:=r3
 have r4:(Dy {n with aks:=fun i=>if i=f then max (n.aks f) m.num else n.aks i,hrd:=fun i=>if i=f then true else n.hrd i}).pmd=n.pmd:=r4
 change Sim _ (if m.num < (Cc (Bc {r with hrd:=r.hrd++[(f:Int)]} f m.num)).log.length then Ar (Cc (Bc {r with hrd:=r.hrd++[(f:Int)]} f m.num)) f ⟨4,(Cc (Bc {r with hrd:=r.hrd++[(f:Int)]} f m.num)).pmd,0,m.num,(Cc (Bc {r with hrd:=r.hrd++[(f:Int)]} f m.num)).log.drop m.num.toNat⟩ else Cc (Bc {r with hrd:=r.hrd++[(f:Int)]} f m.num))∧_
 have e1:=r1.log
 have e2:=r1.pmd
 rw[r3] at e1
 rw[r4] at e2
 generalize Dy {n with aks:=fun i=>if i=f then max (n.aks f) m.num else n.aks i,hrd:=fun i=>if i=f then true else n.hrd i}=n2 at *
 generalize Cc (Bc {r with hrd:=r.hrd++[(f:Int)]} f m.num)=r2' at *
 dsimp only
 rw[e1,e2,r3,r4]
 by_cases hc:m.num < n.log.length
 ·rw[db hc,db hc]
  have hmp:=Z1i (v:=n.pmd) (k:=m.num.toNat) (l:=n.log) (by omega) (by omega) hi.nv.log (by rw[←s2];exact hi.nv.top)
  rw[show((m.num.toNat:Nat):Int)=m.num by omega] at hmp
  exact⟨r1.send hmp,r2.same (A8 _ _ _)⟩
 ·rw[da hc,da hc]
  exact⟨r1,r2⟩
theorem Zd2 {l:List REnt}(h:l.length≠0)(a b:Int):vw a l=vw b l:=by
 unfold vw
 cases hg:l.getLast? with
 | none=>rw[List.getLast?_eq_none_iff] at hg;rw[hg] at h;exact dc rfl h
 | some e=>rfl
theorem Jg:∀(l:List REnt) {n:PN} {r:RN} {k:Nat} {num v:Int},Sim n r→NI k n→n.lds=false→Gd num v l=true→0≤num→1≤v→Au l n.normal=true→k+l.length≤900000000 →
  (Ao l (vw 1 n.log) n).2=true∧Sim (Ao l (vw 1 n.log) n).1 (Du l r)∧NI (k+l.length) (Ao l (vw 1 n.log) n).1∧(Ao l (vw 1 n.log) n).1.lds=false∧(Ao l (vw 1 n.log) n).1.pmd=n.pmd
 | [],n,r,k,num,v,h,hi,hl,_,_,_,_,_=>⟨rfl,h,hi,hl,rfl⟩
 | e::l,n,r,k,num,v,h,hi,hl,hr,h0,hv,hm,hk=>by
  unfold Gd at hr
  rw[aq,decide_eq_true_iff] at hr
  obtain⟨⟨q1,q2,q3,q4⟩,q5⟩:=hr
  have hm0:(decide (e.v≤n.normal)&&Au l n.normal)=true:=hm
  rw[aq,decide_eq_true_iff] at hm0
  have hle:=E1 n.log
  rw[bc] at hk⊢
  unfold Ao Du
  rw[h.log]
  by_cases c1:e.n > n.log.length+1
  ·rw[db c1,db c1]
   exact⟨rfl,h,hi.up (by omega) (by omega),hl,rfl⟩
  ·rw[da c1,da c1]
   by_cases c2:e.n≤n.log.length∨e.v < vw 1 n.log
   ·rw[db c2,da (fun⟨d1,d2⟩=>by
     rcases c2 with c2 | c2
     ·omega
     ·by_cases hz:n.log.length=0
      ·rw[al hz] at c2
       have:e.v < 1:=c2
       omega
      ·rw[Zd2 hz 1 0] at c2
       rcases d2 with d2 | d2
       ·exact hz d2
       ·omega)]
    obtain⟨z1,z2,z3,z4,z5⟩:=Jg l (r:=r) h hi hl q5 (by omega) (by omega) hm0.2 (by omega)
    exact⟨z1,z2,z3.up (by omega) (by omega),z4,z5⟩
   ·rw[da c2]
    obtain⟨p1,pv,st,p2,p3,p4,p5,p6⟩:=No hi (e:=e) (by omega) (by omega) (by omega) hm0.1 q4 (by omega)
    rw[db p1,p2,db ⟨by omega,by
     by_cases hz:n.log.length=0
     ·exact .inl hz
     ·refine .inr ?_
      rw[←Zd2 hz 1 0];omega⟩]
    have hcom:=hi.com
    have hll:(n.log++[e]).length=n.log.length+1:=by rw[aw];rfl
    have hS:Sim {n with log:=n.log++[e],st:=st} (My r e):=Sim.fol h.self h.many h.pmd h.normal (by show r.log++[e]=n.log++[e];rw[h.log]) h.cmt h.out (h.st.1.2 hl) hl
    have hN:NI (k+1) {n with log:=n.log++[e],st:=st}:=NI.fol ⟨p3,p4,by omega,p6⟩ p5 ⟨pv.p,pv.log,pv.top⟩ hi.dead hi.self hi.m7 (by show 0≤n.cmt∧n.cmt≤((n.log++[e]).length:Int);rw[hll];omega) hl (hi.unst hl) hi.jl
    obtain⟨z1,z2,z3,z4,z5⟩:=Jg l hS hN hl q5 (by omega) (by omega) hm0.2 (by omega)
    have ev:vw 1 (PN.log {n with log:=n.log++[e],st:=st})=e.v:=Sd _ _ _
    rw[ev] at z1 z2 z3 z4 z5
    exact⟨z1,z2,z3.up (by omega) (by omega),z4,z5⟩
theorem Z9d {k:Nat}{n:PN}{r:RN}(h:Sim n r)(hi:NI k n)(hk:k+150≤900000000){f:Nat}(hfs:f≠n.self){m:RM}(hm:okM m=true)(hp0:A9 m.view n.many=f)(hkd:m.kind=1∨m.kind=3∨m.kind=4∨m.kind=6) :
  Sim (A6 n f m) (if m.kind=1 then Bu r f m else if m.kind=3 then B2 r f m else if m.kind=4 then Cl r f m
   else if r.pmd=m.view∧r.normal=m.view∧r.phase=0 then {r with cmt:=max r.cmt (min m.num (A4 r.log))} else r)∧NI (k+150) (A6 n f m):=by
 have up:NI (k+150) n:=hi.up (by omega) hk
 obtain⟨hb1,-,hb3,hb4⟩:=Aw hm
 have hp:=hi.nv.p
 have hcom:=hi.com
 have hlen:=hi.nv.ents.1
 have hle:=E1 n.log
 have hph:=h.st.1
 have hdead:=hi.dead
 have nlead:m.view=n.pmd→n.lds=false:=fun e=>by
  cases hl:n.lds with
  | false=>rfl
  | true=>have:=(hi.ld hl).1;rw[←e,hp0] at this;omega
 unfold A6
 rcases hkd with hk1 | hk3 | hk4 | hk6
 ·rw[db hk1,db hk1]
  unfold Bu Fw
  by_cases hv:m.view > n.pmd
  ·have hv':m.view > r.pmd:=by rw[h.pmd];exact hv
   obtain⟨q1,st,q2,q3,q4,q5,q6⟩:=Ra hi hv hb1.2.1
   rw[db hv,db q1,q2,db hv',db ⟨rfl,by show m.view > r.normal;rw[h.normal];omega,rfl⟩]
   have hS:Sim {n with pmd:=m.view,lds:=false,std:=false,st:=st} {r with pmd:=m.view,phase:=0}:=Sim.fol h.self h.many rfl h.normal h.log h.cmt h.out rfl rfl
   have hN:NI (k+150) {n with pmd:=m.view,lds:=false,std:=false,st:=st}:=NI.fol ⟨q3.up (by omega),q4,hk,q6⟩ q5 ⟨⟨hp.1,by show n.normal≤m.view;omega,hb1.2.1⟩,hi.nv.log,hi.nv.top⟩ hi.dead hi.self hi.m7 hcom rfl rfl hi.jl
   have hmj:=V5 (v:=m.view) (q:=n.normal) (l:=n.log) (by omega) (by omega) hi.nv.log hi.nv.top
   have:=hS.send (i:=f) hmj
   refine⟨?_,hN.same (A8 _ _ _)⟩
   have e:(⟨2,m.view,r.normal,0,r.log⟩:RM)=⟨2,m.view,n.normal,0,n.log⟩:=by rw[h.normal,h.log]
   show Sim _ (Ar {r with pmd:=m.view,phase:=0} f ⟨2,m.view,r.normal,0,r.log⟩)
   rw[e]
   exact this
  ·have hv':¬m.view > r.pmd:=by rw[h.pmd];exact hv
   rw[da hv,da hv']
   by_cases hc:m.view=n.pmd∧m.view > n.normal∧n.lds=false
   ·rw[db hc,db ⟨by rw[h.pmd];exact hc.1,by rw[h.normal];exact hc.2.1,hph.2 hc.2.2⟩]
    have hmj:=V5 (v:=m.view) (q:=n.normal) (l:=n.log) (by omega) (by omega) hi.nv.log hi.nv.top
    rw[h.normal,h.log]
    exact⟨h.send hmj,up.same (A8 _ _ _)⟩
   ·rw[da hc,da (by rw[h.pmd,h.normal,hph];exact hc)]
    exact⟨h,up⟩
 ·have n1:¬m.kind=1:=by omega
  rw[da n1,da n1,db hk3,db hk3]
  unfold B2 Ce
  rw[h.pmd,h.normal]
  by_cases hv:m.view ≥ n.pmd∧m.view > n.normal
  ·obtain⟨m1,m2⟩:=Zgw hm hk3
   have hN0:NV (Bt {n with lds:=false,std:=false} m.view m.l):=⟨⟨by show 0≤m.view;omega,bp _,hb1.2.1⟩,m1,Ha m2 (fun e he=>he) (by show m.view - 1≤m.view;omega)⟩
   obtain⟨q1,st,q2,q3,q4,q5,q6⟩:=M3 (n:={n with lds:=false,std:=false}) hi.sl.ws hi.sl.rl hi.arm hN0
   rw[db hv,db q1,q2,db hv,db ⟨rfl,rfl⟩]
   have hlm:=E1 m.l
   have hS:Sim {Bt {n with lds:=false,std:=false} m.view m.l with st:=st} {r with pmd:=m.view,normal:=m.view,log:=m.l,cmt:=min r.cmt (A4 m.l),phase:=0}:=Sim.fol h.self h.many rfl rfl rfl (by show min r.cmt (A4 m.l)=min n.cmt (A4 m.l);rw[h.cmt]) h.out rfl rfl
   have hN:NI (k+150) {Bt {n with lds:=false,std:=false} m.view m.l with st:=st}:=NI.fol ⟨q3.up (by omega),q4,hk,q6⟩ q5 ⟨hN0.p,hN0.log,hN0.top⟩ hi.dead hi.self hi.m7 (by show 0≤min n.cmt (A4 m.l)∧min n.cmt (A4 m.l)≤(m.l.length:Int);omega) rfl rfl hi.jl
   exact⟨hS.send (Te (by omega) (by omega)),hN.same (A8 _ _ _)⟩
  ·rw[da hv,da hv,h.pmd,h.normal,h.log]
   by_cases hc:m.view=n.pmd∧m.view=n.normal
   ·rw[db hc,db hc]
    exact⟨h.send (Te (by omega) (by omega)),up.same (A8 _ _ _)⟩
   ·rw[da hc,da hc]
    exact⟨h,up⟩
 ·have n1:¬m.kind=1:=by omega
  have n3:¬m.kind=3:=by omega
  rw[da n1,da n1,da n3,da n3,db hk4,db hk4]
  unfold Cl
  by_cases hc:n.pmd=m.view∧n.normal=m.view∧n.lds=false
  ·obtain⟨m1,m2⟩:=Zhm hm hk4
   obtain⟨z1,z2,z3,z4,z5⟩:=Jg m.l h hi hc.2.2 m1 (by omega) (by omega) (by rw[hc.2.1];exact m2) (by omega)
   rw[db hc,da (by rw[h.pmd,h.normal];rintro(h1 | h1 | h1);exact h1 hc.1;exact h1 hc.2.1;exact h1 (hph.2 hc.2.2))]
   dsimp only
   rw[db z1,z2.log]
   generalize (Ao m.l (vw 1 n.log) n).1=n2 at *
   have hl2:=z3.nv.ents.1
   have hle2:=E1 n2.log
   exact⟨z2.send (Te (by omega) (by omega)),(z3.up (by omega) hk).same (A8 _ _ _)⟩
  ·rw[da hc,db (by
    rw[h.pmd,h.normal]
    by_cases a:n.pmd=m.view
    ·by_cases b:n.normal=m.view
     ·exact .inr (.inr fun e=>hc ⟨a,b,hph.1 e⟩)
     ·exact .inr (.inl b)
    ·exact .inl a)]
   exact⟨h,up⟩
 ·have n1:¬m.kind=1:=by omega
  have n3:¬m.kind=3:=by omega
  have n4:¬m.kind=4:=by omega
  rw[da n1,da n1,da n3,da n3,da n4,da n4,db hk6]
  by_cases hc:n.pmd=m.view∧n.normal=m.view∧n.lds=false
  ·rw[db hc,db ⟨by rw[h.pmd];exact hc.1,by rw[h.normal];exact hc.2.1,hph.2 hc.2.2⟩]
   refine⟨Sim.fol h.self h.many h.pmd h.normal h.log (by show max r.cmt (min m.num (A4 r.log))=max n.cmt (min m.num (A4 n.log));rw[h.cmt,h.log]) h.out (hph.2 hc.2.2) hc.2.2,?_⟩
   exact NI.fol ⟨hi.sl.ws.up (by omega),hi.sl.rl,hk,hi.sl.ld⟩ hi.arm ⟨hi.nv.p,hi.nv.log,hi.nv.top⟩ hi.dead hi.self hi.m7 (by show 0≤max n.cmt (min m.num (A4 n.log))∧max n.cmt (min m.num (A4 n.log))≤(n.log.length:Int);omega) hc.2.2 (hi.unst hc.2.2) hi.jl
  ·rw[da hc,da (fun e=>hc ⟨by rw[←h.pmd];exact e.1,by rw[←h.normal];exact e.2.1,hph.1 e.2.2⟩)]
   exact⟨h,up⟩
theorem Z5u {k:Nat}{n:PN}{r:RN}(h:Sim n r)(hi:NI k n)(hk:k+150≤900000000)(hq:NJr r)(p:RPk):Sim (El n p) (Dk r p)∧NI (k+150) (El n p):=by
 have up:NI (k+150) n:=hi.up (by omega) hk
 have hph:=h.st.1
 unfold El Dk
 rw[hi.dead]
 have hcr:(¬Jd p.body.data.toList∨p.to≠r.self∨p.frm=r.self∨p.frm < 0∨p.frm ≥ r.many)↔(¬Jd p.body.data.toList∨p.to≠n.self∨p.frm=n.self∨p.frm < 0∨p.frm ≥ n.many):=by rw[h.self,h.many]
 by_cases hc:¬Jd p.body.data.toList∨p.to≠n.self∨p.frm=n.self∨p.frm < 0∨p.frm ≥ n.many
 ·rw[db (.inr hc),db (hcr.2 hc)]
  exact⟨h,up⟩
 ·rw[da (by rintro(h | h);cases h;exact hc h),da (fun e=>hc (hcr.1 e))]
  clear hcr
  have hok:Jd p.body.data.toList:=bx fun e=>hc (.inl e)
  have hm:=(Zcq hok).1
  obtain⟨f,hf⟩:∃f:Nat,p.frm=f:=⟨p.frm.toNat,by omega⟩
  rw[hf,ay]
  have hfm:f < n.many:=by omega
  have hfs:f≠n.self:=by omega
  obtain⟨hb1,hb2,-,-⟩:=Aw hm
  generalize mD p.body.data.toList=m at *
  by_cases h2:m.kind=2
  ·rw[db (.inl h2),db h2]
   unfold B4
   by_cases hl:n.lds=false∨n.pmd≠m.view
   ·rw[db hl]
    unfold Bj
    rw[db (by
     rcases hl with hl | hl
     ·exact .inl (by rw[hph.2 hl];decide)
     ·exact .inr (.inl (by rw[h.pmd];exact hl)))]
    exact⟨h,up⟩
   ·rw[da hl]
    have hld:n.lds=true:=by
     cases hx:n.lds with
     | true=>rfl
     | false=>exact dc (.inl hx) hl
    have hv:n.pmd=m.view:=bx fun e=>hl (.inr e)
    cases hs:n.std with
    | false =>
     rw[db ⟨h2,rfl⟩]
     obtain⟨r1,r2⟩:=Z4y h hi (by omega) hq hld hs hfm hm h2 hv
     rw[hs] at r1 r2
     exact⟨r1,r2.up (by omega) hk⟩
    | true =>
     rw[da (by rintro⟨-,e⟩;cases e),da (by omega)]
     unfold Bj
     rw[db (.inl (by rw[h.st.2.2 hld hs];decide))]
     exact⟨h,up⟩
  ·rw[da h2]
   by_cases h5:m.kind=5
   ·rw[db (.inr h5),db h5]
    unfold B4
    have no:(n.lds=false∨n.pmd≠m.view∨n.std=false∨¬m.num≤n.log.length)→By r f m=r:=fun hh=>by
     unfold By
     rw[db (by
      rcases hh with hh | hh | hh | hh
      ·exact .inl (by rw[hph.2 hh];decide)
      ·exact .inr (.inl (by rw[h.pmd];exact hh))
      ·refine .inl fun e=>?_
       have:=h.phase
       rw[e,hh] at this
       split at this
       ·exact dc this (by decide)
       ·exact dc this (by decide)
      ·exact .inr (.inr (by rw[h.log];omega)))]
    by_cases hl:n.lds=false∨n.pmd≠m.view
    ·rw[db hl,no (by rcases hl with hl | hl;exact .inl hl;exact .inr (.inl hl))]
     exact⟨h,up⟩
    ·rw[da hl,da (fun e=>h2 e.1)]
     have hld:n.lds=true:=by
      cases hx:n.lds with
      | true=>rfl
      | false=>exact dc (.inl hx) hl
     have hv:n.pmd=m.view:=bx fun e=>hl (.inr e)
     by_cases hc2:m.kind=5∧n.std=true∧m.num≤n.log.length
     ·rw[db hc2]
      obtain⟨r1,r2⟩:=Zbl h hi hld hc2.2.1 hfm hm hv hc2.2.2
      exact⟨r1,r2.up (by omega) hk⟩
     ·rw[da hc2,no (by
       by_cases a:n.std=true
       ·exact .inr (.inr (.inr fun b=>hc2 ⟨h5,a,b⟩))
       ·exact .inr (.inr (.inl (by simpa using a))))]
      exact⟨h,up⟩
   ·rw[da (by rintro(e | e);exact h2 e;exact h5 e),da h5]
    by_cases hpr:A9 m.view n.many=f
    ·rw[da (fun e=>e hpr),da (fun e=>e (by rw[h.many];exact hpr))]
     exact Z9d h hi hk hfs hm hpr (by omega)
    ·rw[db hpr,db (by rw[h.many];exact hpr)]
     exact⟨h,up⟩
def SameJ (n n':RN):Prop:=n'.phase=n.phase∧n'.jns=n.jns∧n'.many=n.many
theorem SameJ.nj {n n':RN}(h:SameJ n n')(hq:NJr n):NJr n':=fun e=>by rw[h.2.1,h.2.2];exact hq (by rw[←h.1];exact e)
theorem SameJ.refl (n:RN):SameJ n n:=⟨rfl,rfl,rfl⟩
theorem SameJ.trans {a b c:RN}(h:SameJ a b)(h2:SameJ b c):SameJ a c:=⟨h2.1.trans h.1,h2.2.1.trans h.2.1,h2.2.2.trans h.2.2⟩
theorem Wn {f:RN→Nat→RN}(hf:∀n i,SameJ n (f n i))(n:RN):∀k,SameJ n (Lk f n k)
 | 0=>SameJ.refl n
 | k+1=>by
  rw[Cx]
  split
  ·exact Wn hf n k
  ·exact(Wn hf n k).trans (hf _ _)
theorem G2 (n:RN)(t:Int)(m:RM):SameJ n (Ar n t m):=⟨rfl,rfl,rfl⟩
theorem Fk (n:RN)(m:RM):SameJ n (Aq n m):=Wn (fun n i=>G2 n i m) n _
theorem Rt (n:RN):SameJ n (Cc n):=by
 unfold Cc
 split
 ·exact SameJ.trans (b:={n with cmt:=Bb n.aks}) ⟨rfl,rfl,rfl⟩ (Fk _ _)
 ·exact SameJ.refl n
theorem Z8o {n:RN}(h:n.phase=2):NJr n:=fun e=>by rw[h] at e;cases e
theorem Lp {n:RN}(h:n.phase=0):NJr n:=fun e=>by rw[h] at e;cases e
theorem Tp (n:RN):NJr (Cf n):=by
 unfold Cf
 split
 ·next h=>exact fun _=>h
 ·exact Z8o (by rw[(Rt _).1,(Fk _ _).1];rfl)
theorem Z2e {n:RN}(h:NJr n)(v:Int):NJr (D7 n v).1:=by
 unfold D7
 split
 ·exact h
 ·exact Tp _
theorem Z5k {n:RN}(h:NJr n)(s:ByteArray):NJr (B9 n s).1:=by
 unfold B9
 split
 ·exact h
 ·next hc =>
  have h2:n.phase=2:=bx fun e=>hc (.inl e)
  exact Z8o (by rw[(Rt _).1,(Fk _ _).1];exact h2)
theorem Z6e {n:RN}(h:NJr n):NJr (D8 n):=by
 refine(Wn (fun n i=>?_) n _).nj h
 have a:∀n,SameJ n (Fb n i):=fun n=>by unfold Fb;split;exact G2 _ _ _;exact SameJ.refl n
 have b:∀n,SameJ n (Ev n i):=fun n=>by unfold Ev;split;exact G2 _ _ _;exact SameJ.refl n
 have c:∀n,SameJ n (Ek n i):=fun n=>by unfold Ek;split;exact G2 _ _ _;exact SameJ.refl n
 have d:∀n,SameJ n (En n i):=fun n=>by unfold En;split;exact G2 _ _ _;exact SameJ.refl n
 exact(((a n).trans (b _)).trans (c _)).trans (d _)
theorem Zb:∀(l:List REnt) (n:RN),SameJ n (Du l n)
 | [],n=>SameJ.refl n
 | e::l,n=>by
  unfold Du
  split
  ·exact SameJ.refl n
  ·split
   ·exact SameJ.trans (b:=My n e) ⟨rfl,rfl,rfl⟩ (Zb l _)
   ·exact Zb l n
theorem Zdv (n:RN)(f:Int)(m:RM):SameJ n (By n f m):=by
 unfold By
 have h:SameJ n (Gz n f m):=SameJ.trans (b:=Bc {n with hrd:=n.hrd++[f]} f m.num) ⟨rfl,rfl,rfl⟩ (Rt _)
 split
 ·exact SameJ.refl n
 ·split
  ·exact h.trans (G2 _ _ _)
  ·exact h
theorem Zbn {n:RN}(h:NJr n)(p:RPk):NJr (Dk n p):=by
 unfold Dk
 generalize mD p.body.data.toList=m
 split
 ·exact h
 split
 ·unfold Bj
  split
  ·exact h
  ·exact Tp _
 split
 ·exact(Zdv _ _ _).nj h
 split
 ·exact h
 split
 ·have h0:NJr (Fw n m):=by
   unfold Fw
   split
   ·exact Lp rfl
   ·exact h
  unfold Bu
  split
  ·exact(G2 _ _ _).nj h0
  ·exact h0
 split
 ·have h0:NJr (Ce n m):=by
   unfold Ce
   split
   ·exact Lp rfl
   ·exact h
  unfold B2
  split
  ·exact(G2 _ _ _).nj h0
  ·exact h0
 split
 ·unfold Cl
  split
  ·exact h
  ·exact((Zb _ _).trans (G2 _ _ _)).nj h
 split
 ·exact SameJ.nj (n:=n) ⟨rfl,rfl,rfl⟩ h
 ·exact h
structure GM where
 s:Bool
 n:PN
 b:Nat
 e:Nat
 r:RN
structure MOk (k:Nat)(x:GM):Prop where
 sim:Sim x.n x.r
 ni:NI k x.n
 nj:NJr x.r
 sh:ShN x.s x.n
def stN:LD:=⟨0,0,0,[],[],false,Y5 1100⟩
theorem Z94:Yw (Y5 1100)=some stN:=Wb (m:=0) (h:=0) (all:=[]) rfl Z3c (by decide) (by nofun)
theorem Tv:(Y5 1100).now.length=1100:=by
 show(List.replicate (Z1s 1100) sec0).length=1100
 rw[List.length_replicate];rfl
theorem Zdh:WSt 0 stN:=⟨Z0q 1100,Tv,by show(0:Int)≤_;decide,rfl,by show 0 < 2;decide,rfl,by show 0≤_;decide,af _,rfl,rfl⟩
theorem Zce:RLd stN:=⟨Z3c,rfl,rfl,by nofun⟩
theorem Q5 {m:Nat}(h0:1≤m)(h:m≤7):Ag m≠0:=by have:=Of h0 h;omega
theorem We {i m:Nat}(hi:i < m)(hm:m≤7):N4 (Y5 1100) i m=some (Ih i m (0,0,[]) stN):=by
 unfold N4
 rw[da,Z94]
 ·dsimp only
  have e:Bf stN.all (0,0,[])=some (0,0,[]):=rfl
  rw[e]
  dsimp only
  rw[db ⟨by decide,by decide,by decide⟩,ay,ay]
 ·rw[Tv]
  rintro(h | h | h | h)
  ·exact Q5 (by omega) hm h
  ·omega
  ·omega
  ·exact dc h (by decide)
theorem Za8 {i m:Nat}(hi:i < m)(hm:m≤7)(b e:Nat):MOk 0 ⟨true,Ih i m (0,0,[]) stN,b,e,Hy i m⟩:=by
 refine⟨Sim.fol rfl rfl rfl rfl rfl rfl rfl rfl rfl,NI.fol ⟨Zdh,Zce,by decide,rfl⟩ rfl ⟨⟨bp _,bp _,by show(0:Int)≤big;decide⟩,rfl,rfl⟩ rfl hi hm ⟨bp _,bp _⟩ rfl rfl fun _=>ah _,Lp rfl,⟨fun h=>(by cases h),fun _ _ h=>(by cases h)⟩⟩
def OkP (p:RPk):Prop:=p.body.size≤1000000
def OB (c:Nat)(n:RN):Prop:=n.out.length≤c∧∀p∈n.out,OkP p
theorem Zak (l:List REnt):(Rg l).length=3 * l.length:=by
 induction l with
 | nil=>rfl
 | cons e l ih =>
  show(enF e++Rg l).length=_
  rw[aw,ih,bc]
  show 3+_=_;omega
theorem Zcn (m:RM):(bM m).length≤1000000:=by
 unfold bM
 split
 ·next h =>
  obtain⟨a,b,c,d⟩:=Aw h
  have hl:(mF m).length≤455:=by
   unfold mF
   rw[aw,Zak]
   show 5+_≤_
   omega
  have:=L4 (l:=mF m) (Ej (T0 h))
  omega
 ·exact ah _
theorem OB.up {c d:Nat}{n:RN}(h:OB c n)(hd:c≤d):OB d n:=⟨b9 h.1 hd,h.2⟩
theorem G0 {c:Nat}{n:RN}(h:OB c n)(t:Int)(m:RM):OB (c+1) (Ar n t m):=by
 refine⟨?_,fun p hp=>?_⟩
 ·show(n.out++[_]).length≤_
  rw[aw]
  have:=h.1
  show _+1≤_;omega
 ·rcases br.1 hp with hp | hp
  ·exact h.2 p hp
  ·obtain rfl:=bm.1 hp
   exact Zcn m
theorem Yn {f:RN→Nat→RN}{a:Nat}(hf:∀n i c,OB c n→OB (c+a) (f n i)){n:RN}{c:Nat}(h:OB c n):∀k,OB (c+a * k) (Lk f n k)
 | 0=>h
 | k+1=>by
  rw[Cx]
  have ih:=Yn hf h k
  split
  ·exact ih.up (by rw[Nat.mul_succ];omega)
  ·exact(hf _ k _ ih).up (by rw[Nat.mul_succ];omega)
theorem Ii {c k:Nat}{n:RN}(h:OB c n)(hm:n.many=(k:Int))(m:RM):OB (c+k) (Aq n m):=by
 have:=Yn (f:=fun n i=>Ar n i m) (a:=1) (fun n i c h=>G0 h i m) h n.many.toNat
 unfold Aq
 refine this.up ?_
 rw[hm,ay];omega
theorem S6 {c k:Nat}{n:RN}(h:OB c n)(hm:n.many=(k:Int)):OB (c+k) (Cc n):=by
 unfold Cc
 split
 ·exact Ii (n:={n with cmt:=Bb n.aks}) h hm _
 ·exact h.up (by omega)
theorem Uq {c k:Nat}{n:RN}(h:OB c n)(hm:n.many=(k:Int)):OB (c+k+k) (Cf n):=by
 unfold Cf
 split
 ·exact h.up (by omega)
 ·have h1:=Ii (n:=Ef n (G8 n)) h hm ⟨3,n.pmd,0,0,G8 n⟩
  exact S6 h1 (by rw[(Fk _ _).2.2];exact hm)
theorem Z0u {c k:Nat}{n:RN}(h:OB c n)(hm:n.many=(k:Int))(v:Int):OB (c+k+k+k) (D7 n v).1:=by
 unfold D7
 split
 ·exact h.up (by omega)
 ·have h1:=Ii (n:={n with pmd:=v,phase:=1,jns:=[⟨n.self,n.normal,A4 n.log,n.log⟩]}) h hm ⟨1,v,0,0,[]⟩
  exact Uq h1 (by rw[(Fk _ _).2.2];exact hm)
theorem Tx {c k:Nat}{n:RN}(h:OB c n)(hm:n.many=(k:Int))(s:ByteArray):OB (c+k+k) (B9 n s).1:=by
 unfold B9
 split
 ·exact h.up (by omega)
 ·have h1:=Ii (n:=Bc (My n (Fd n s)) n.self (Fd n s).n) h hm ⟨4,n.pmd,0,(Fd n s).n - 1,[Fd n s]⟩
  exact S6 h1 (by rw[(Fk _ _).2.2];exact hm)
theorem Z66 {c k:Nat}{n:RN}(h:OB c n)(hm:n.many=(k:Int)):OB (c+4 * k) (D8 n):=by
 have:=Yn (f:=fun n i=>En (Ek (Ev (Fb n i) i) i) i) (a:=4) (fun n i c h=>?_) h n.many.toNat
 ·unfold D8
  refine this.up ?_
  rw[hm,ay];omega
 ·have a:∀n c,OB c n→OB (c+1) (Fb n i):=fun n c h=>by unfold Fb;split;exact G0 h _ _;exact h.up (by omega)
  have b:∀n c,OB c n→OB (c+1) (Ev n i):=fun n c h=>by unfold Ev;split;exact G0 h _ _;exact h.up (by omega)
  have d:∀n c,OB c n→OB (c+1) (Ek n i):=fun n c h=>by unfold Ek;split;exact G0 h _ _;exact h.up (by omega)
  have e:∀n c,OB c n→OB (c+1) (En n i):=fun n c h=>by unfold En;split;exact G0 h _ _;exact h.up (by omega)
  exact e _ _ (d _ _ (b _ _ (a _ _ h)))
theorem Ru:∀(l:List REnt) (n:RN),(Du l n).out=n.out
 | [],n=>rfl
 | e::l,n=>by
  unfold Du
  split
  ·rfl
  ·split
   ·exact Ru l _
   ·exact Ru l n
theorem Zr {c k:Nat}{n:RN}(h:OB c n)(hm:n.many=(k:Int))(p:RPk):OB (c+k+k+1) (Dk n p):=by
 have h0:=h.up (d:=c+k+k+1) (by omega)
 unfold Dk
 generalize mD p.body.data.toList=m
 split
 ·exact h0
 split
 ·unfold Bj
  split
  ·exact h0
  ·exact(Uq (n:=Em n _) h hm).up (by omega)
 split
 ·unfold By
  have h1:OB (c+k) (Gz n p.frm m):=S6 (n:=Bc {n with hrd:=n.hrd++[p.frm]} p.frm m.num) h hm
  split
  ·exact h0
  ·split
   ·exact(G0 h1 _ _).up (by omega)
   ·exact h1.up (by omega)
 split
 ·exact h0
 split
 ·have h1:OB c (Fw n m):=by
   unfold Fw
   split
   ·exact h
   ·exact h
  unfold Bu
  split
  ·exact(G0 h1 _ _).up (by omega)
  ·exact h1.up (by omega)
 split
 ·have h1:OB c (Ce n m):=by
   unfold Ce
   split
   ·exact h
   ·exact h
  unfold B2
  split
  ·exact(G0 h1 _ _).up (by omega)
  ·exact h1.up (by omega)
 split
 ·unfold Cl
  split
  ·exact h0
  ·have h1:OB c (Du m.l n):=by
    unfold OB
    rw[Ru];exact h
   exact(G0 h1 _ _).up (by omega)
 split
 ·exact h0
 ·exact h0
end Go.Proofs.YtihfaocdpmmooaaGreat


import Derived.Test.YtihfaocdpmmooaaGreatNM1
import Derived.Test.YtihfaocdpmmooaaGreatPKM
namespace Go.Proofs.YtihfaocdpmmooaaGreat
def Za7 (s:List Sec)(f i:Nat):Option UInt8:=(s[f+i / 64]?.getD [])[i % 64]?
def Z4d (s:List Sec)(h:Nat)(c:Bs):Prop:=∀i,i < c.length→Za7 s (C9 h) i=c[i]?
def mix (t:Nat)(a b:Bs):Bs:=a.take t++b.drop t
theorem Gz {a b:Bs}(h:a.length=b.length)(t j:Nat):(mix t a b)[j]?=if j < t then a[j]? else b[j]?:=by
 unfold mix
 rw[List.getElem?_append,List.length_take,List.getElem?_take,List.getElem?_drop]
 by_cases hj:j < t
 ·rw[if_pos hj]
  split
  ·rfl
  ·next h1 =>
   rw[List.getElem?_eq_none (by omega),List.getElem?_eq_none (by omega)]
 ·rw[if_neg (by omega),if_neg hj]
  by_cases ht:t≤a.length
  ·rw[show t+(j - min t a.length)=j by omega]
  ·rw[List.getElem?_eq_none (by omega),List.getElem?_eq_none (by omega)]
theorem Rm {a b:Bs}(h:a.length=b.length)(t:Nat):(mix t a b).length=a.length:=by unfold mix;simp;omega
theorem Xv {a b:Bs}(h:a.length=b.length)(t u:Nat):mix t a (mix u a b)=mix (max t u) a b:=by
 refine List.ext_getElem? fun j=>?_
 rw[Gz (by rw[Rm h]),Gz h,Gz h]
 by_cases h1:j < t
 ·rw[if_pos h1,if_pos (by omega)]
 ·rw[if_neg h1]
  by_cases h2:j < u
  ·rw[if_pos h2,if_pos (by omega)]
  ·rw[if_neg h2,if_neg (by omega)]
theorem Z3h {a b:Bs}(h:a.length=b.length)(t k:Nat):(mix t a b).take k=mix (min t k) (a.take k) (b.take k):=by
 refine List.ext_getElem? fun j=>?_
 rw[List.getElem?_take,Gz h,Gz (by simp[h]),List.getElem?_take,List.getElem?_take]
 by_cases h1:j < k
 ·rw[if_pos h1,if_pos h1,if_pos h1]
  by_cases h2:j < t
  ·rw[if_pos h2,if_pos (by omega)]
  ·rw[if_neg h2,if_neg (by omega)]
 ·rw[if_neg h1,if_neg h1,if_neg h1];split<;>rfl
theorem Z3c {a b:Bs}(h:a.length=b.length)(t k:Nat):(mix t a b).drop k=mix (t - k) (a.drop k) (b.drop k):=by
 refine List.ext_getElem? fun j=>?_
 rw[List.getElem?_drop,Gz h,Gz (by simp[h]),List.getElem?_drop,List.getElem?_drop]
 by_cases h2:k+j < t
 ·rw[if_pos h2,if_pos (by omega)]
 ·rw[if_neg h2,if_neg (by omega)]
theorem Z84 {a b:Bs}(h:a.length=b.length){t:Nat}(ht:a.length≤t):mix t a b=a:=by
 unfold mix
 rw[List.take_of_length_le ht,List.drop_eq_nil_of_le (by omega),List.append_nil]
def OldM (m:Nat)(x:Sec):Prop:=∃t t',t≤8∧t' < 8∧(t'=0∨t=8)∧x.take 8=mix t (be8 ((m+1:Nat):Int)) (be8 ((m - 1:Nat):Int))∧x.drop 56=mix t' (be8 ((m+1:Nat):Int)) (be8 ((m - 1:Nat):Int))
theorem H3 (n:Int):(be8 n).length=8:=rfl
theorem Zbp (n:Int):(be8 n)[7]?=some (byI n):=rfl
theorem Zcx (m:Nat):byI ((m+1:Nat):Int)≠byI ((m - 1:Nat):Int):=fun h=>by
 have h1:=congrArg (fun x:UInt8=>(x.toNat:Int)) h
 simp only[C3] at h1
 omega
theorem Hc (m h f:Nat):(Aj m h f).take 8=be8 (m:Int)∧(Aj m h f).drop 56=be8 (m:Int)∧(Aj m h f)[8]?=some (UInt8.ofNat h)∧((Aj m h f).drop 9).take 4=[byI ((f:Int) / 16777216),byI ((f:Int) / 65536),byI ((f:Int) / 256),byI f]:=⟨rfl,rfl,rfl,rfl⟩
theorem OldM.torn {m h f:Nat}{x:Sec}(hx:x.length=64)(ho:OldM m x){T:Nat}(hT:T < 64):OldM m (mix T (Aj (m+1) h f) x):=by
 obtain⟨t,t',h1,h2,h3,h4,h5⟩:=ho
 have hl:(Aj (m+1) h f).length=x.length:=by rw[Dh,hx]
 obtain⟨p1,p2,-,-⟩:=Hc (m+1) h f
 refine⟨max (min T 8) t,max (T - 56) t',by omega,by omega,by omega,?_,?_⟩
 ·rw[Z3h hl,p1,h4,Xv (by rw[H3,H3])]
 ·rw[Z3c hl,p2,h5,Xv (by rw[H3,H3])]
theorem OldM.look {m:Nat}{x:Sec}(ho:OldM m x)(he:x.take 8=x.drop 56):x.take 8=be8 ((m - 1:Nat):Int):=by
 obtain⟨t,t',h1,h2,h3,h4,h5⟩:=ho
 have hl:(be8 ((m+1:Nat):Int)).length=(be8 ((m - 1:Nat):Int)).length:=by rw[H3,H3]
 have e:=congrArg (fun l:Bs=>l[7]?) (he.symm.trans h4)
 have e:(x.drop 56)[7]?=(mix t (be8 ((m+1:Nat):Int)) (be8 ((m - 1:Nat):Int)))[7]?:=e
 rw[h5,Gz hl,Gz hl,Zbp,Zbp,if_neg (by omega)] at e
 have ht:t≤7:=by
  refine Nat.le_of_not_lt fun h=>?_
  rw[if_pos h] at e
  injection e with e
  exact Zcx m e.symm
 have:t'=0:=by omega
 subst this
 rw[he,h5]
 rfl
theorem OldM.of_mark (m h f:Nat):OldM (m+1) (Aj m h f):=by
 obtain⟨p1,p2,-,-⟩:=Hc m h f
 exact⟨0,0,by omega,by omega,.inl rfl,p1,p2⟩
theorem O5:OldM 0 sec0∧OldM 1 sec0:=⟨⟨0,0,by omega,by omega,.inl rfl,rfl,rfl⟩,⟨0,0,by omega,by omega,.inl rfl,rfl,rfl⟩⟩
structure Rec (s:List Sec)(m h:Nat)(c:Bs):Prop where
 len:s.length=1100
 sec:∀x∈s,x.length=64
 half:h < 2
 few:c.length≤35136
 zero:m=0→h=0∧c=[]∧s[0]?=some sec0
 mark:0 < m→s[m % 2]?=some (Aj m h c.length)
 old:∃x,s[(m+1) % 2]?=some x∧OldM m x
 cont:Z4d s h c
theorem Tq {d:RD}{n:Nat}{x:Sec}(hd:d.dead=false)(hx:d.now[n]?=some x):Cr d n=if x.take 8≠x.drop 56 then⟨0,0,0,false⟩ else⟨Cs (x.take 8),((x[8]?).getD 0).toNat,Cs ((x.drop 9).take 4),decide (((x[8]?).getD 0).toNat < 2)&&decide (Cs ((x.drop 9).take 4)≤35136)⟩:=by
 have hn:=(List.getElem?_eq_some_iff.1 hx).1
 have hm:Jt d n=0:=by unfold Jt;rw[hd,if_neg (by decide),if_neg (by omega)]
 have hr:Ly d n=x:=by unfold Ly;rw[if_neg (fun h=>h hm),Int.toNat_natCast,hx];rfl
 unfold Cr
 dsimp only
 rw[hr]
 by_cases h:x.take 8=x.drop 56
 ·rw[if_neg (by rintro(h1 | h1);exact h1 hm;exact h1 h),if_neg (fun h1=>h1 h)]
 ·rw[if_pos (.inr h),if_pos h]
theorem Z72 (f:Nat)(h:f≤35136):Cs [byI ((f:Int) / 16777216),byI ((f:Int) / 65536),byI ((f:Int) / 256),byI f]=f:=by
 have q1:=C3 ((f:Int) / 16777216)
 have q2:=C3 ((f:Int) / 65536)
 have q3:=C3 ((f:Int) / 256)
 have q4:=C3 (f:Int)
 show(((0 * 256+(byI ((f:Int) / 16777216)).toNat) * 256+(byI ((f:Int) / 65536)).toNat) * 256+(byI ((f:Int) / 256)).toNat) * 256+(byI (f:Int)).toNat=f
 omega
theorem Z4 {d:RD}{n m h f:Nat}(hd:d.dead=false)(hx:d.now[n]?=some (Aj m h f))(hh:h < 2)(hf:f≤35136)(hm:(m:Int)≤big):Cr d n=⟨m,h,f,true⟩:=by
 obtain⟨p1,p2,p3,p4⟩:=Hc m h f
 rw[Tq hd hx,p1,p2,p3,p4,if_neg (fun h=>h rfl),Z72 f hf]
 have e1:Cs (be8 (m:Int))=m:=by have:=Oh (m:Int) (by omega) hm;omega
 have e2:((some (UInt8.ofNat h)).getD 0).toNat=h:=by
  show(UInt8.ofNat h).toNat=h
  rw[UInt8.toNat_ofNat'];omega
 rw[e1,e2,decide_eq_true hh,decide_eq_true hf]
 rfl
theorem Uu {d:RD}{n m:Nat}{x:Sec}(hd:d.dead=false)(hx:d.now[n]?=some x)(ho:OldM m x)(hm:(m:Int)≤big):(Cr d n).mark=0∨(Cr d n).mark < m:=by
 rw[Tq hd hx]
 by_cases h:x.take 8=x.drop 56
 ·rw[if_neg (fun h1=>h1 h),ho.look h]
  have:=Oh ((m - 1:Nat):Int) (by omega) (by omega)
  show Cs (be8 ((m - 1:Nat):Int))=0∨Cs (be8 ((m - 1:Nat):Int)) < m
  omega
 ·rw[if_pos h];exact .inl rfl
theorem Z3y {d:RD}{m h:Nat}{c:Bs}(hd:d.dead=false)(hr:Rec d.now m h c)(hm:(m:Int)≤big):K0 d=⟨m,h,c.length,true⟩:=by
 obtain⟨x,hx,ho⟩:=hr.old
 have lo:=Uu hd hx ho hm
 unfold K0
 rcases Nat.eq_zero_or_pos m with h0 | h0
 ·subst h0
  obtain⟨z1,z2,z3⟩:=hr.zero rfl
  subst z1 z2
  have l0:=Uu hd z3 O5.1 (by decide)
  have e1:Es ⟨0,0,0,true⟩ (Cr d 0)=⟨0,0,0,true⟩:=by unfold Es;rw[if_neg (fun hh=>by have:=hh.2;dsimp only at this;omega)]
  have e2:Es ⟨0,0,0,true⟩ (Cr d 1)=⟨0,0,0,true⟩:=by
   have lo:(Cr d 1).mark=0∨(Cr d 1).mark < 0:=lo
   unfold Es;rw[if_neg (fun hh=>by have:=hh.2;dsimp only at this;omega)]
  rw[e1,e2];rfl
 ·have hk:=Z4 hd (hr.mark h0) hr.half hr.few hm
  rcases(by omega:m % 2=0∨m % 2=1) with e | e
  ·rw[e] at hk
   rw[show(m+1) % 2=1 by omega] at lo
   rw[hk]
   have e1:Es ⟨0,0,0,true⟩ ⟨m,h,c.length,true⟩=⟨m,h,c.length,true⟩:=by unfold Es;rw[if_pos ⟨rfl,h0⟩]
   rw[e1]
   unfold Es;rw[if_neg (fun hh=>by have:=hh.2;dsimp only at this;omega)]
  ·rw[e] at hk
   rw[show(m+1) % 2=0 by omega] at lo
   rw[hk]
   have e1:(Es ⟨0,0,0,true⟩ (Cr d 0)).mark < m:=by
    unfold Es
    split
    ·omega
    ·exact h0
   generalize Es ⟨0,0,0,true⟩ (Cr d 0)=y at e1⊢
   unfold Es;rw[if_pos ⟨rfl,e1⟩]
theorem Qt:∀(L:List Sec) (i:Nat),(∀x∈L,x.length=64)→L.flatten[i]?=(L[i / 64]?.getD [])[i % 64]?
 | [],i,_=>by simp
 | x::L,i,h=>by
  have hx:=h x (by simp)
  rw[List.flatten_cons,List.getElem?_append]
  by_cases hi:i < 64
  ·rw[if_pos (by omega),show i / 64=0 by omega,show i % 64=i by omega];rfl
  ·rw[if_neg (by omega),hx,Qt L (i - 64) (fun y hy=>h y (by simp[hy])),show i / 64=(i - 64) / 64+1 by omega,show i % 64=(i - 64) % 64 by omega];rfl
theorem Yq {d:RD}{h:Nat}{c:Bs}(hs:∀x∈d.now,x.length=64)(hf:c.length≤35136)(hc:Z4d d.now h c):(Cb d h).take c.length=c:=by
 refine List.ext_getElem? fun i=>?_
 rw[List.getElem?_take]
 by_cases hi:i < c.length
 ·rw[if_pos hi,←hc i hi]
  unfold Cb Za7
  rw[Qt _ _ fun x hx=>hs x (List.mem_of_mem_drop (List.mem_of_mem_take hx)),List.getElem?_take,if_pos (by omega),List.getElem?_drop]
 ·rw[if_neg hi,List.getElem?_eq_none (by omega)]
theorem Ug:∀(l:List ByteArray),(∀s∈l,s.size≤4096)→Lv (Am l)=some l
 | [],_=>Vl
 | s::l,h=>by
  have hs:=h s (by simp)
  have hz:s.data.toList.length=s.size:=by rw[Array.length_toList];rfl
  have e:Am (s::l)=frB s++Am l:=rfl
  have hl:(Am (s::l)).length=s.size+4+(Am l).length:=by rw[e,List.length_append,Dk]
  have e4:(Am (s::l)).take 4=[byI ((s.size:Int) / 16777216),byI ((s.size:Int) / 65536),byI ((s.size:Int) / 256),byI s.size]:=rfl
  have ed:(Am (s::l)).drop 4=s.data.toList++Am l:=rfl
  have e5:(Am (s::l)).drop (4+s.size)=Am l:=by
   rw[←List.drop_drop,ed,←hz,List.drop_left]
  have e6:((Am (s::l)).drop 4).take s.size=s.data.toList:=by rw[ed,←hz,List.take_left]
  have hne:Am (s::l)≠[]:=fun h=>by rw[h] at hl;simp at hl;omega
  rw[Qz hne,if_neg (by omega),e4,Z72 s.size (by omega),if_neg (by omega),e5,e6,Ug l fun x hx=>h x (by simp[hx])]
  rfl
theorem Th {d:RD}{m h:Nat}{all:List ByteArray}(hd:d.dead=false)(hr:Rec d.now m h (Am all))(hm:(m:Int)≤big)(ha:∀s∈all,s.size≤4096):Z1p d=some ⟨m,h,(Am all).length,Am all,all,false,d⟩:=by
 have hk:=Z3y hd hr hm
 unfold Z1p
 rw[hk]
 dsimp only
 rw[Yq hr.sec hr.few hr.cont,Ug all ha]
def Z0d (m h:Nat)(c:Bs)(w:Nat × Sec):Prop:=w.2.length=64∧∀s,Rec s m h c→∀T,Rec (s.set w.1 (mix T w.2 (s[w.1]?.getD []))) m h c
theorem Zk {s:List Sec}{i:Nat}{x:Sec}(hs:∀y∈s,y.length=64)(hx:x.length=64){T:Nat}(hT:64≤T):s.set i (mix T x (s[i]?.getD []))=s.set i x:=by
 by_cases hi:i < s.length
 ·rw[List.getElem?_eq_getElem hi]
  show s.set i (mix T x s[i])=_
  rw[Z84 (by rw[hx,hs _ (List.getElem_mem hi)]) (by omega)]
 ·rw[List.set_eq_of_length_le (by omega),List.set_eq_of_length_le (by omega)]
theorem Lf {m h:Nat}{c:Bs}:∀(ws:List (Nat × Sec)) (s:List Sec),(∀w∈ws,Z0d m h c w)→Rec s m h c→Rec (Fm s ws) m h c
 | [],_,_,hr=>hr
 | w::ws,s,hw,hr=>by
  have h1:=hw w (by simp)
  have h2:=h1.2 s hr 64
  rw[Zk hr.sec h1.1 (Nat.le_refl _)] at h2
  exact Lf ws _ (fun x hx=>hw x (by simp[hx])) h2
structure Safe (m h:Nat)(c:Bs)(d:RD):Prop where
 rc:Rec d.firm m h c
 now:d.now=Fm d.firm d.wait
 wait:∀w∈d.wait,Z0d m h c w
theorem Safe.crash {m h:Nat}{c:Bs}{d:RD}(hs:Safe m h c d)(k t:Int):Rec (B4 d k t) m h c:=by
 have h1:=Lf (d.wait.take (Hk d k)) d.firm (fun w hw=>hs.wait w (List.mem_of_mem_take hw)) hs.rc
 unfold B4
 dsimp only
 split
 ·next w hw=>exact(hs.wait w (List.mem_of_getElem? hw)).2 _ h1 _
 ·exact h1
theorem Dd (d:RD):(B7 d).now=d.now∧(B7 d).firm=d.firm∧(B7 d).wait=d.wait:=by unfold B7;split<;>exact⟨rfl,rfl,rfl⟩
theorem Z0a (f:List Sec)(ws:List (Nat × Sec))(w:Nat × Sec):Fm f (ws++[w])=(Fm f ws).set w.1 w.2:=by unfold Fm;rw[List.foldl_append];rfl
theorem Safe.write {m h:Nat}{c:Bs}{d:RD}(hs:Safe m h c d){n:Int}{b:Sec}(hk:Z0d m h c (n.toNat,Dv b)):Safe m h c (Ae d n b):=by
 unfold Ae
 split
 ·exact hs
 ·split
  ·exact hs
  ·obtain⟨e1,e2,e3⟩:=Dd (Z2w d n.toNat (Dv b))
   refine⟨by rw[e2];exact hs.rc,?_,fun w hw=>?_⟩
   ·rw[e1,e2,e3]
    show d.now.set _ _=Fm d.firm (d.wait++[_])
    rw[Z0a,hs.now]
   ·rw[e3] at hw
    rcases List.mem_append.1 hw with hw | hw
    ·exact hs.wait w hw
    ·rw[List.mem_singleton.1 hw];exact hk
theorem Safe.sync {m h:Nat}{c:Bs}{d:RD}(hs:Safe m h c d):Safe m h c (Aa d):=by
 obtain⟨e1,e2,e3⟩:=Dd d
 unfold Aa
 split
 ·exact hs
 ·split
  ·exact⟨by rw[e2];exact hs.rc,by rw[e1,e2,e3];exact hs.now,fun w hw=>hs.wait w (by rwa [e3] at hw)⟩
  ·refine⟨Lf _ _ hs.wait hs.rc,?_,fun w hw=>by cases hw⟩
   show(B7 d).now=Fm (Fm d.firm d.wait) []
   rw[e1,hs.now];rfl
theorem Safe.runW {m h:Nat}{c:Bs}{f:Nat}{b:Bs}:∀(ns:List Nat) {d:RD},Safe m h c d→(∀n∈ns,Z0d m h c (f+n,Dv (chB b n)))→Safe m h c (runW f b ns d).1
 | [],_,hs,_=>hs
 | n::ns,d,hs,hk=>by
  have h1:Safe m h c (Ae d ((f+n:Nat):Int) (chB b n)):=hs.write (by rw[Int.toNat_natCast];exact hk n (by simp))
  rw[Ey]
  split
  ·exact Safe.runW ns h1 fun x hx=>hk x (by simp[hx])
  ·exact h1
theorem Wc {m h:Nat}{c:Bs}{h' n:Nat}{x:Sec}(hh':h' < 2)(hn:n < 549)(hx:x.length=64)(hag:h'=h→∀i,i < c.length→i / 64=n→x[i % 64]?=c[i]?):Z0d m h c (C9 h'+n,x):=by
 refine⟨hx,fun s hr T=>?_⟩
 have hlt:C9 h'+n < s.length:=by rw[hr.len];unfold C9;omega
 have h2:2≤C9 h'+n:=by unfold C9;omega
 show Rec (s.set (C9 h'+n) (mix T x (s[C9 h'+n]?.getD []))) m h c
 have ho:(s[C9 h'+n]?.getD []).length=64:=by
  rw[List.getElem?_eq_getElem hlt];exact hr.sec _ (List.getElem_mem hlt)
 refine⟨by rw[List.length_set];exact hr.len,fun y hy=>?_,hr.half,hr.few,fun h0=>?_,fun h0=>?_,?_,fun i hi=>?_⟩
 ·rcases List.mem_or_eq_of_mem_set hy with hy | rfl
  ·exact hr.sec y hy
  ·rw[Rm (by rw[hx,ho])];exact hx
 ·obtain⟨a,b,e⟩:=hr.zero h0
  exact⟨a,b,by rw[List.getElem?_set_ne (by omega)];exact e⟩
 ·rw[List.getElem?_set_ne (by omega)];exact hr.mark h0
 ·obtain⟨y,hy,hoy⟩:=hr.old
  exact⟨y,by rw[List.getElem?_set_ne (by omega)];exact hy,hoy⟩
 ·have hc:=hr.cont i hi
  unfold Za7 at hc⊢
  by_cases e:C9 h'+n=C9 h+i / 64
  ·have hhf:=hr.half
   have hfew:=hr.few
   have e2:h'=h∧i / 64=n:=by unfold C9 at e;omega
   rw[←e] at hc⊢
   rw[List.getElem?_set_self hlt]
   show(mix T x _)[i % 64]?=_
   rw[Gz (by rw[hx,ho])]
   split
   ·exact hag e2.1 i hi e2.2
   ·exact hc
  ·rw[List.getElem?_set_ne e];exact hc
theorem Z68 {b:Bs}{n k:Nat}(hk:k < 64)(h:n * 64+k < b.length):(Dv (chB b n))[k]?=b[n * 64+k]?:=by
 unfold Dv chB
 rw[List.getElem?_append_left (by simp;omega),List.getElem?_take,if_pos hk,List.getElem?_take,if_pos hk,List.getElem?_drop]
theorem Px {d:RD}{n:Int}{b:Sec}(h:Bg d n b=0):(Ae d n b).now=d.now.set n.toNat (Dv b):=by
 unfold Bg at h
 unfold Ae
 by_cases h1:Jt d n=0
 ·rw[if_neg (fun h=>h h1)] at h⊢
  by_cases h2:b.length > 64
  ·rw[if_pos h2] at h;cases h
  ·rw[if_neg h2]
   exact(Dd _).1
 ·rw[if_pos h1] at h;exact absurd h h1
theorem Uv (f:Nat)(b:Bs):∀(ns:List Nat) (d:RD),(runW f b ns d).2=true→(∀n∈ns,f+n < d.now.length)→∀i,(runW f b ns d).1.now[i]?=if f≤i∧i - f∈ns then some (Dv (chB b (i - f))) else d.now[i]?
 | [],d,_,_,i=>by rw[if_neg (fun h=>by cases h.2)];rfl
 | n::ns,d,hr,hl,i=>by
  rw[Ey] at hr⊢
  by_cases hw:Bg d ((f+n:Nat):Int) (chB b n)=0
  ·rw[if_pos hw] at hr⊢
   have e:=Px hw
   rw[Int.toNat_natCast] at e
   rw[Uv f b ns _ hr (fun x hx=>by rw[e,List.length_set];exact hl x (by simp[hx])) i,e]
   by_cases h1:f≤i∧i - f∈ns
   ·rw[if_pos h1,if_pos ⟨h1.1,by simp[h1.2]⟩]
   ·rw[if_neg h1]
    by_cases h2:i=f+n
    ·subst h2
     rw[List.getElem?_set_self (hl n (by simp)),if_pos ⟨by omega,by simp⟩,show f+n - f=n by omega]
    ·rw[List.getElem?_set_ne (fun h=>h2 h.symm),if_neg]
     rintro⟨h3,h4⟩
     rcases List.mem_cons.1 h4 with h4 | h4
     ·omega
     ·exact h1 ⟨h3,h4⟩
  ·rw[if_neg hw] at hr;cases hr
theorem Q6 {h:Nat}{b:Bs}{frm:Nat}{d:RD}(hh:h < 2)(hb:b.length≤35136)(hlen:d.now.length=1100)(hr:(runW (C9 h) b (nsW b frm) d).2=true)(hc:Z4d d.now h (b.take frm)):Z4d (runW (C9 h) b (nsW b frm) d).1.now h b:=by
 intro i hi
 unfold Za7
 rw[Uv _ _ _ _ hr (fun n hn=>by have:=Z24 hb hn;rw[hlen];unfold C9;omega)]
 by_cases h1:i / 64∈nsW b frm
 ·rw[if_pos ⟨by omega,by rw[show C9 h+i / 64 - C9 h=i / 64 by omega];exact h1⟩,show C9 h+i / 64 - C9 h=i / 64 by omega]
  show(Dv (chB b (i / 64)))[i % 64]?=_
  rw[Z68 (by omega) (by omega),show i / 64 * 64+i % 64=i by omega]
 ·rw[if_neg (fun hh=>h1 (by have:=hh.2;rwa [show C9 h+i / 64 - C9 h=i / 64 by omega] at this))]
  unfold nsW at h1
  rw[List.mem_range'_1] at h1
  have hif:i < frm:=by omega
  have:=hc i (by rw[List.length_take];omega)
  rw[List.getElem?_take,if_pos hif] at this
  exact this
theorem Z4f {s:List Sec}{m h:Nat}{c:Bs}(hr:Rec s m h c)(h' f:Nat){T:Nat}(hT:T < 64):Rec (s.set ((m+1) % 2) (mix T (Aj (m+1) h' f) (s[(m+1) % 2]?.getD []))) m h c:=by
 obtain⟨x,hx,ho⟩:=hr.old
 have hxl:=hr.sec x (List.mem_of_getElem? hx)
 have hlt:=(List.getElem?_eq_some_iff.1 hx).1
 rw[hx]
 show Rec (s.set ((m+1) % 2) (mix T (Aj (m+1) h' f) x)) m h c
 have hml:(mix T (Aj (m+1) h' f) x).length=64:=by rw[Rm (by rw[Dh,hxl]),Dh]
 refine⟨by rw[List.length_set];exact hr.len,fun y hy=>?_,hr.half,hr.few,fun h0=>?_,fun h0=>?_,⟨_,List.getElem?_set_self hlt,ho.torn hxl hT⟩,fun i hi=>?_⟩
 ·rcases List.mem_or_eq_of_mem_set hy with hy | rfl
  ·exact hr.sec y hy
  ·exact hml
 ·obtain⟨a,b,e⟩:=hr.zero h0
  exact⟨a,b,by rw[List.getElem?_set_ne (by omega)];exact e⟩
 ·rw[List.getElem?_set_ne (by omega)];exact hr.mark h0
 ·have:=hr.cont i hi
  unfold Za7 at this⊢
  rw[List.getElem?_set_ne (by unfold C9;omega)]
  exact this
theorem Nv {s:List Sec}{m h:Nat}{c:Bs}(hr:Rec s m h c){h':Nat}{c':Bs}(hh:h' < 2)(hf:c'.length≤35136)(hc:Z4d s h' c'):Rec (s.set ((m+1) % 2) (Aj (m+1) h' c'.length)) (m+1) h' c':=by
 have hlt:(m+1) % 2 < s.length:=by rw[hr.len];omega
 refine⟨by rw[List.length_set];exact hr.len,fun y hy=>?_,hh,hf,fun h0=>by omega,fun _=>List.getElem?_set_self hlt,?_,fun i hi=>?_⟩
 ·rcases List.mem_or_eq_of_mem_set hy with hy | rfl
  ·exact hr.sec y hy
  ·exact Dh _ _ _
 ·rw[show(m+1+1) % 2=m % 2 by omega]
  rcases Nat.eq_zero_or_pos m with h0 | h0
  ·subst h0
   exact⟨sec0,by rw[List.getElem?_set_ne (by omega)];exact(hr.zero rfl).2.2,O5.2⟩
  ·exact⟨_,by rw[List.getElem?_set_ne (by omega)];exact hr.mark h0,OldM.of_mark _ _ _⟩
 ·have:=hc i hi
  unfold Za7 at this⊢
  rw[List.getElem?_set_ne (by unfold C9;omega)]
  exact this
theorem Vx {x:Sec}(h:x.length=64):Dv x=x:=by
 unfold Dv
 rw[List.take_of_length_le (by omega),h]
 simp
theorem Tk {l:LD}{m h:Nat}{c:Bs}(hs:Safe m h c l.d){h':Nat}{c':Bs}(hh:h' < 2)(hf:c'.length≤35136)(hc:Z4d l.d.now h' c')(hm:l.mark=m) :
  (∀k t,Rec (B4 (Ah l h' c'.length).d k t) m h c∨Rec (B4 (Ah l h' c'.length).d k t) (m+1) h' c')∧((Ah l h' c'.length).dead=false→Rec (Ah l h' c'.length).d.now (m+1) h' c'∧(Ah l h' c'.length).d.firm=(Ah l h' c'.length).d.now):=by
 subst hm
 unfold Ah
 by_cases h1:D2 l.d≠0
 ·rw[if_pos h1]
  exact⟨fun k t=>.inl (hs.sync.crash k t),fun h=>by cases h⟩
 ·rw[if_neg h1]
  have h1:D2 l.d=0:=Decidable.not_not.1 h1
  have hw0:=(K3 h1).2.1
  have hs1:=hs.sync
  have en:(Aa l.d).now=l.d.now:=by
   unfold Aa
   split
   ·rfl
   ·split<;>exact(Dd l.d).1
  have ef:(Aa l.d).firm=(Aa l.d).now:=by have:=hs1.now;rw[hw0] at this;exact this.symm
  have hr:=hs1.rc
  have hc1:Z4d (Aa l.d).firm h' c':=by rw[ef,en];exact hc
  have hk:Dv (Aj (l.mark+1) h' c'.length)=Aj (l.mark+1) h' c'.length:=Vx (Dh _ _ _)
  have old:∀(d:RD),d.firm=(Aa l.d).firm→(d.wait=[]∨d.wait=[((l.mark+1) % 2,Aj (l.mark+1) h' c'.length)])→∀k t,Rec (B4 d k t) l.mark h c∨Rec (B4 d k t) (l.mark+1) h' c':=fun d e1 e2 k t=>by
   unfold B4
   dsimp only
   rw[e1]
   rcases e2 with e2 | e2
   ·rw[e2]
    simp only[List.take_nil,List.getElem?_nil]
    exact .inl hr
   ·have hkd:Hk d k=0∨Hk d k=1:=by unfold Hk;rw[e2];show(min (max k 0) 1).toNat=0∨(min (max k 0) 1).toNat=1;omega
    rw[e2]
    rcases hkd with e3 | e3
    ·rw[e3]
     show Rec ((Aa l.d).firm.set _ (Jv _ _ t)) _ _ _∨Rec ((Aa l.d).firm.set _ (Jv _ _ t)) _ _ _
     unfold Jv
     by_cases hT:(min (max t 0) 64).toNat < 64
     ·exact .inl (Z4f hr h' _ hT)
     ·refine .inr ?_
      have:=Zk (i:=(l.mark+1) % 2) hr.sec (Dh (l.mark+1) h' c'.length) (T:=(min (max t 0) 64).toNat) (by omega)
      have:=this ▸ Nv hr hh hf hc1
      exact this
    ·rw[e3]
     exact .inr (Nv hr hh hf hc1)
  have hwr:(Ae (Aa l.d) (((l.mark+1) % 2:Nat):Int) (Aj (l.mark+1) h' c'.length)).firm=(Aa l.d).firm∧((Ae (Aa l.d) (((l.mark+1) % 2:Nat):Int) (Aj (l.mark+1) h' c'.length)).wait=[]∨(Ae (Aa l.d) (((l.mark+1) % 2:Nat):Int) (Aj (l.mark+1) h' c'.length)).wait=[((l.mark+1) % 2,Aj (l.mark+1) h' c'.length)]):=by
   unfold Ae
   split
   ·exact⟨rfl,.inl hw0⟩
   ·split
    ·exact⟨rfl,.inl hw0⟩
    ·obtain⟨a1,a2,a3⟩:=Dd (Z2w (Aa l.d) ((((l.mark+1) % 2:Nat):Int)).toNat (Dv (Aj (l.mark+1) h' c'.length)))
     refine⟨a2,.inr ?_⟩
     rw[a3]
     show(Aa l.d).wait++[_]=_
     rw[hw0,hk,Int.toNat_natCast];rfl
  by_cases h2:Bg (Aa l.d) (((l.mark+1) % 2:Nat):Int) (Aj (l.mark+1) h' c'.length)≠0
  ·rw[if_pos h2]
   exact⟨old _ hwr.1 hwr.2,fun h=>by cases h⟩
  ·rw[if_neg h2]
   have h2:=Decidable.not_not.1 h2
   have hwn:=Px h2
   rw[hk,Int.toNat_natCast] at hwn
   generalize hd2:Ae (Aa l.d) (((l.mark+1) % 2:Nat):Int) (Aj (l.mark+1) h' c'.length)=d2 at hwr hwn⊢
   have hnx:Rec d2.now (l.mark+1) h' c':=by
    rw[hwn,←ef]
    exact Nv hr hh hf hc1
   have ed2:=Dd d2
   have hly:Fm d2.firm d2.wait=d2.now:=by
    rcases hwr.2 with e | e
    ·exfalso
     have:d2.wait.length=1:=by
      rw[←hd2]
      unfold Ae
      unfold Bg at h2
      by_cases q1:Jt (Aa l.d) (((l.mark+1) % 2:Nat):Int)=0
      ·rw[if_neg (fun h=>h q1)] at h2⊢
       rw[if_neg (by rw[Dh];omega),(Dd _).2.2]
       show((Aa l.d).wait++[_]).length=1
       rw[hw0];rfl
      ·rw[if_pos q1] at h2;exact absurd h2 q1
     rw[e] at this;cases this
    ·rw[e,hwr.1,hwn,ef];rfl
   have hfl:D2 d2=0→(Aa d2).firm=d2.now∧(Aa d2).wait=[]∧(Aa d2).now=d2.now:=fun h3=>by
    have q:=K3 h3
    unfold D2 at h3
    have h4:¬(d2.dead=true∨Ep d2=true):=fun h=>by rw[if_pos h] at h3;cases h3
    unfold Aa
    rw[if_neg (fun h=>h4 (.inl h)),if_neg (fun h=>h4 (.inr h))]
    exact⟨hly,rfl,ed2.1⟩
   by_cases h3:D2 d2≠0
   ·rw[if_pos h3]
    refine⟨?_,fun h=>by cases h⟩
    have e5:(Aa d2).firm=d2.firm∧(Aa d2).wait=d2.wait:=by
     unfold D2 at h3
     have h4:d2.dead=true∨Ep d2=true:=by
      by_cases h4:d2.dead=true∨Ep d2=true
      ·exact h4
      ·rw[if_neg h4] at h3;exact absurd rfl h3
     unfold Aa
     split
     ·exact⟨rfl,rfl⟩
     ·next h5 =>
      rw[if_pos (by rcases h4 with h4 | h4;exact absurd h4 h5;exact h4)]
      exact ed2.2
    exact old _ (e5.1.trans hwr.1) (by show(Aa d2).wait=[]∨(Aa d2).wait=_;rw[e5.2];exact hwr.2)
   ·rw[if_neg h3]
    obtain⟨f1,f2,f3⟩:=hfl (Decidable.not_not.1 h3)
    refine⟨fun k t=>.inr ?_,fun _=>⟨?_,?_⟩⟩
    ·show Rec (B4 (Aa d2) k t) _ _ _
     unfold B4
     dsimp only
     rw[f2,f1]
     simp only[List.take_nil,List.getElem?_nil]
     exact hnx
    ·show Rec (Aa d2).now _ _ _
     rw[f3];exact hnx
    ·show(Aa d2).firm=(Aa d2).now
     rw[f1,f3]
end Go.Proofs.YtihfaocdpmmooaaGreat
namespace Go.Proofs.YtihfaocdpmmooaaGreat
structure RLd (l:LD):Prop where
 rc:Rec l.d.now l.mark l.half l.b
 firm:l.d.firm=l.d.now
 f:l.firm=l.b.length
 sz:∀s∈l.all,s.size≤4096
theorem RLd.safe {k:Nat}{l:LD}(h:RLd l)(hw:WSt k l):Safe l.mark l.half l.b l.d :=
 ⟨by rw[h.firm];exact h.rc,by rw[hw.wait];exact h.firm.symm,by rw[hw.wait];nofun⟩
theorem Z0v {l:LD}{m h:Nat}{c:Bs}(hs:Safe m h c l.d){h':Nat}(hh:h' < 2){b:Bs}{frm:Nat}(hb:b.length≤35136)(hag:h'=h→∀i,i < c.length→b[i]?=c[i]?)(hc:h'=h→c.length≤b.length):Safe m h c (wrL l h' b frm).d:=by
 unfold wrL
 refine Safe.runW _ hs fun n hn=>Wc hh (Z24 hb hn) (C4 _) fun e i hi hin=>?_
 have:=hc e
 rw[Z68 (by omega) (by omega),show n * 64+i % 64=i by omega]
 exact hag e i hi
theorem Zd2 {k:Nat}{l:LD}(hw:WSt k l)(h:RLd l)(s:ByteArray)(h0:Fl l s=0) :
  (∀kp t,Rec (B4 (Ji (Ba l s)).d kp t) l.mark l.half l.b∨Rec (B4 (Ji (Ba l s)).d kp t) (l.mark+1) l.half (l.b++frB s))∧s.size≤4096∧(Om (Ba l s)=0→RLd (Ji (Ba l s))):=by
 unfold Fl at h0
 rw[if_neg (by rw[hw.dead];decide)] at h0
 have hs1:¬s.size > 4096:=fun hh=>by rw[if_pos hh] at h0;cases h0
 rw[if_neg hs1] at h0
 have hs2:¬(s.size:Int) > G9 l:=fun hh=>by rw[if_pos hh] at h0;cases h0
 rw[if_neg hs2] at h0
 have hwe:wrE l l.half (l.b++frB s) l.b.length=true:=by
  cases hwe:wrE l l.half (l.b++frB s) l.b.length with
  | true=>rfl
  | false=>rw[hwe] at h0;cases h0
 have hA:Ba l s={wrL l l.half (l.b++frB s) l.b.length with b:=l.b++frB s,all:=l.all++[s]}:=by
  unfold Ba
  rw[if_neg (by rw[hw.dead];decide),if_neg hs1,if_neg hs2,if_pos hwe]
 have hroom:(l.b++frB s).length≤35136:=by rw[List.length_append,Dk];have:=hw.len;unfold G9 at hs2;omega
 obtain⟨hd1,hd2⟩:=Ln hw.dd hwe
 have hS:=Z0v (frm:=l.b.length) (h.safe hw) hw.half hroom (fun _ i hi=>by rw[List.getElem?_append_left hi]) (fun _=>by rw[List.length_append];omega)
 have hC:Z4d (wrL l l.half (l.b++frB s) l.b.length).d.now l.half (l.b++frB s):=Q6 hw.half hroom hw.many hwe (by rw[List.take_left];exact h.rc.cont)
 generalize hx:({wrL l l.half (l.b++frB s) l.b.length with b:=l.b++frB s,all:=l.all++[s]}:LD)=x at hA
 have x1:x.dead=false:=by rw[←hx];exact hd1
 have x2:x.d=(wrL l l.half (l.b++frB s) l.b.length).d:=by rw[←hx]
 have x3:x.mark=l.mark:=by rw[←hx];rfl
 have x4:x.half=l.half:=by rw[←hx];rfl
 have x5:x.b=l.b++frB s:=by rw[←hx]
 have x6:x.all=l.all++[s]:=by rw[←hx]
 rw[hA]
 have hSy:Ji x=Ah x x.half x.b.length:=by unfold Ji;rw[if_neg (by rw[x1];decide)]
 rw[←x2] at hS hC
 obtain⟨q1,q2⟩:=Tk hS hw.half hroom hC x3
 rw[hSy,x4,x5]
 refine⟨q1,by omega,fun hE=>?_⟩
 have hdd:(Ah x l.half (l.b++frB s).length).dead=false:=by
  unfold Om at hE
  rw[if_neg (by rw[x1];decide)] at hE
  unfold Db at hE
  rw[x4,x5] at hE
  cases hz:(Ah x l.half (l.b++frB s).length).dead with
  | false=>rfl
  | true=>rw[hz] at hE;cases hE
 obtain⟨r1,r2⟩:=q2 hdd
 obtain⟨s1,s2,s3⟩:=Ka hdd
 have e1:(Ah x l.half (l.b++frB s).length).mark=l.mark+1:=by rw[s3];show x.mark+1=_;rw[x3]
 have e2:(Ah x l.half (l.b++frB s).length).half=l.half:=by rw[s3]
 have e3:(Ah x l.half (l.b++frB s).length).b=l.b++frB s:=by rw[s3];exact x5
 have e4:(Ah x l.half (l.b++frB s).length).all=l.all++[s]:=by rw[s3];exact x6
 have e5:(Ah x l.half (l.b++frB s).length).firm=(l.b++frB s).length:=by rw[s3]
 refine⟨by rw[e1,e2,e3];exact r1,r2,by rw[e5,e3],fun y hy=>?_⟩
 rw[e4] at hy
 rcases List.mem_append.1 hy with hy | hy
 ·exact h.sz y hy
 ·rw[List.mem_singleton.1 hy];omega
theorem Na {all:List ByteArray}(h:Mj all=0):(Am all).length≤35136∧∀s∈all,s.size≤4096:=by
 unfold Mj at h
 split at h
 ·cases h
 ·next h1 =>
  split at h
  ·cases h
  ·refine⟨by omega,fun s hs=>?_⟩
   rw[List.any_eq_true] at h1
   refine Nat.le_of_not_lt fun hlt=>h1 ⟨s,hs,?_⟩
   exact decide_eq_true hlt
theorem Z70 {k:Nat}{l:LD}(hw:WSt k l)(h:RLd l)(all:List ByteArray)(hf:Mj all=0) :
  (∀kp t,Rec (B4 (F5 l all).d kp t) l.mark l.half l.b∨Rec (B4 (F5 l all).d kp t) (l.mark+1) (1 - l.half) (Am all))∧(Jl l all=0→RLd (F5 l all)):=by
 obtain⟨hbl,hsz⟩:=Na hf
 have hh:=hw.half
 have hS:=Z0v (frm:=0) (h.safe hw) (h':=1 - l.half) (by omega) hbl (fun e=>by omega) (fun e=>by omega)
 have hL:F5 l all=if wrE l (1 - l.half) (Am all) 0=true then
   (if(Ah (wrL l (1 - l.half) (Am all) 0) (1 - l.half) (Am all).length).dead=true then Ah (wrL l (1 - l.half) (Am all) 0) (1 - l.half) (Am all).length
    else {Ah (wrL l (1 - l.half) (Am all) 0) (1 - l.half) (Am all).length with b:=Am all,all:=all})
  else wrL l (1 - l.half) (Am all) 0:=by
  unfold F5
  rw[if_neg (by rw[hw.dead];decide),if_neg (fun h=>h hf)]
 have hR:Jl l all=if wrE l (1 - l.half) (Am all) 0=true then Db (wrL l (1 - l.half) (Am all) 0) (1 - l.half) (Am all).length else 40:=by
  unfold Jl
  rw[if_neg (by rw[hw.dead];decide),if_neg (fun h=>h hf)]
 rw[hL,hR]
 cases hwe:wrE l (1 - l.half) (Am all) 0 with
 | false =>
  rw[if_neg (by decide),if_neg (by decide)]
  exact⟨fun kp t=>.inl (hS.crash kp t),fun h=>by cases h⟩
 | true =>
  rw[if_pos rfl,if_pos rfl]
  obtain⟨hd1,hd2⟩:=Ln hw.dd hwe
  have hC:Z4d (wrL l (1 - l.half) (Am all) 0).d.now (1 - l.half) (Am all):=Q6 (by omega) hbl hw.many hwe (fun i hi=>by simp at hi)
  obtain⟨q1,q2⟩:=Tk hS (h':=1 - l.half) (by omega) hbl hC (show(wrL l (1 - l.half) (Am all) 0).mark=l.mark from rfl)
  have hdeq:∀x:LD,(if x.dead=true then x else {x with b:=Am all,all:=all}).d=x.d:=fun x=>by split<;>rfl
  refine⟨fun kp t=>by rw[hdeq];exact q1 kp t,fun hE=>?_⟩
  have hdd:(Ah (wrL l (1 - l.half) (Am all) 0) (1 - l.half) (Am all).length).dead=false:=by
   unfold Db at hE
   cases hz:(Ah (wrL l (1 - l.half) (Am all) 0) (1 - l.half) (Am all).length).dead with
   | false=>rfl
   | true=>rw[hz] at hE;cases hE
  obtain⟨r1,r2⟩:=q2 hdd
  obtain⟨s1,s2,s3⟩:=Ka hdd
  rw[if_neg (by rw[hdd];decide)]
  have e1:(Ah (wrL l (1 - l.half) (Am all) 0) (1 - l.half) (Am all).length).mark=l.mark+1:=by rw[s3];rfl
  have e2:(Ah (wrL l (1 - l.half) (Am all) 0) (1 - l.half) (Am all).length).half=1 - l.half:=by rw[s3]
  have e5:(Ah (wrL l (1 - l.half) (Am all) 0) (1 - l.half) (Am all).length).firm=(Am all).length:=by rw[s3]
  exact⟨by show Rec (Ah _ _ _).d.now (Ah _ _ _).mark (Ah _ _ _).half (Am all);rw[e1,e2];exact r1,r2,e5,hsz⟩
theorem Z1x {d:RD}{kp t:Int}{m h:Nat}{all:List ByteArray}(hr:Rec (B4 d kp t) m h (Am all))(hm:(m:Int)≤big)(ha:∀s∈all,s.size≤4096):Z1p (Ed d kp t)=some ⟨m,h,(Am all).length,Am all,all,false,Ed d kp t⟩ :=
 Th rfl hr hm ha
theorem Z4q {d:RD}(hd:WD d){kp t:Int}{m h:Nat}{all:List ByteArray}(hr:Rec (B4 d kp t) m h (Am all))(ha:∀s∈all,s.size≤4096):WSt m ⟨m,h,(Am all).length,Am all,all,false,Ed d kp t⟩∧RLd ⟨m,h,(Am all).length,Am all,all,false,Ed d kp t⟩ :=
 ⟨⟨F6 hd kp t,hr.len,by show(0:Int)≤_;decide,rfl,hr.half,rfl,hr.few,Nat.le_refl _,rfl,rfl⟩,⟨hr,rfl,rfl,ha⟩⟩
theorem Wh {k:Nat}{l:LD}(hw:WSt k l)(h:RLd l)(kp t:Int):Rec (B4 l.d kp t) l.mark l.half l.b:=(h.safe hw).crash kp t
theorem Z6:Rec (W7 1100).now 0 0 (Am []):=by
 have hm:Xj 1100=1100:=by decide
 have hn:(W7 1100).now=List.replicate 1100 sec0:=by unfold W7;rw[hm]
 have at1:∀i,i < 1100→(List.replicate 1100 sec0)[i]?=some sec0:=fun i hi=>by rw[List.getElem?_replicate,if_pos hi]
 rw[hn]
 refine⟨List.length_replicate ..,fun x hx=>?_,by omega,Nat.zero_le _,fun _=>⟨rfl,rfl,at1 0 (by omega)⟩,fun h=>by omega,⟨sec0,at1 _ (by omega),O5.1⟩,fun i hi=>by cases hi⟩
 rw[(List.mem_replicate.1 hx).2]
 exact List.length_replicate ..
end Go.Proofs.YtihfaocdpmmooaaGreat

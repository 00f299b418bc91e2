
import Derived.Test.YtihfaocdpmmooaaGreatNM1
import Derived.Test.YtihfaocdpmmooaaGreatPKM
namespace Go.Proofs.YtihfaocdpmmooaaGreat
def Z9p (s:List Sec)(f i:Nat):Option UInt8:=(s[f+i / 64]?.getD [])[i % 64]?
def Z2u (s:List Sec)(h:Nat)(c:Bs):Prop:=∀i,i < c.length→Z9p s (Cb h) i=c[i]?
def mix (t:Nat)(a b:Bs):Bs:=a.take t++b.drop t
theorem Gr {a b:Bs}(h:a.length=b.length)(t j:Nat):(mix t a b)[j]?=if j < t then a[j]? else b[j]?:=by
 unfold mix
 rw[List.getElem?_append,List.length_take,List.getElem?_take,List.getElem?_drop]
 by_cases hj:j < t
 ·rw[if_pos hj]
  split
  ·rfl
  ·next h1 =>
   rw[List.getElem?_eq_none (by omega),List.getElem?_eq_none (by omega)]
 ·rw[if_neg (by omega),if_neg hj]
  by_cases ht:t≤a.length
  ·rw[show t+(j - min t a.length)=j by omega]
  ·rw[List.getElem?_eq_none (by omega),List.getElem?_eq_none (by omega)]
theorem Rf {a b:Bs}(h:a.length=b.length)(t:Nat):(mix t a b).length=a.length:=by unfold mix;simp;omega
theorem Z1q {a b:Bs}(h:a.length=b.length)(t u:Nat):mix t a (mix u a b)=mix (max t u) a b:=by
 refine List.ext_getElem? fun j=>?_
 rw[Gr (by rw[Rf h]),Gr h,Gr h]
 by_cases h1:j < t
 ·rw[if_pos h1,if_pos (by omega)]
 ·rw[if_neg h1]
  by_cases h2:j < u
  ·rw[if_pos h2,if_pos (by omega)]
  ·rw[if_neg h2,if_neg (by omega)]
theorem Z52 {a b:Bs}(h:a.length=b.length)(t k:Nat):(mix t a b).take k=mix (min t k) (a.take k) (b.take k):=by
 refine List.ext_getElem? fun j=>?_
 rw[List.getElem?_take,Gr h,Gr (by simp[h]),List.getElem?_take,List.getElem?_take]
 by_cases h1:j < k
 ·rw[if_pos h1,if_pos h1,if_pos h1]
  by_cases h2:j < t
  ·rw[if_pos h2,if_pos (by omega)]
  ·rw[if_neg h2,if_neg (by omega)]
 ·rw[if_neg h1,if_neg h1,if_neg h1];split<;>rfl
theorem Z3s {a b:Bs}(h:a.length=b.length)(t k:Nat):(mix t a b).drop k=mix (t - k) (a.drop k) (b.drop k):=by
 refine List.ext_getElem? fun j=>?_
 rw[List.getElem?_drop,Gr h,Gr (by simp[h]),List.getElem?_drop,List.getElem?_drop]
 by_cases h2:k+j < t
 ·rw[if_pos h2,if_pos (by omega)]
 ·rw[if_neg h2,if_neg (by omega)]
theorem Z8q {a b:Bs}(h:a.length=b.length){t:Nat}(ht:a.length≤t):mix t a b=a:=by
 unfold mix
 rw[List.take_of_length_le ht,List.drop_eq_nil_of_le (by omega),List.append_nil]
def OldM (m:Nat)(x:Sec):Prop:=∃t t',t≤8∧t' < 8∧(t'=0∨t=8)∧x.take 8=mix t (be8 ((m+1:Nat):Int)) (be8 ((m - 1:Nat):Int))∧x.drop 56=mix t' (be8 ((m+1:Nat):Int)) (be8 ((m - 1:Nat):Int))
theorem H9 (n:Int):(be8 n).length=8:=rfl
theorem Zca (n:Int):(be8 n)[7]?=some (byI n):=rfl
theorem Zap (m:Nat):byI ((m+1:Nat):Int)≠byI ((m - 1:Nat):Int):=fun h=>by
 have h1:=congrArg (fun x:UInt8=>(x.toNat:Int)) h
 simp only[C5] at h1
 omega
theorem H8 (m h f:Nat):(Aj m h f).take 8=be8 (m:Int)∧(Aj m h f).drop 56=be8 (m:Int)∧(Aj m h f)[8]?=some (UInt8.ofNat h)∧((Aj m h f).drop 9).take 4=[byI ((f:Int) / 16777216),byI ((f:Int) / 65536),byI ((f:Int) / 256),byI f]:=⟨rfl,rfl,rfl,rfl⟩
theorem OldM.torn {m h f:Nat}{x:Sec}(hx:x.length=64)(ho:OldM m x){T:Nat}(hT:T < 64):OldM m (mix T (Aj (m+1) h f) x):=by
 obtain⟨t,t',h1,h2,h3,h4,h5⟩:=ho
 have hl:(Aj (m+1) h f).length=x.length:=by rw[Dg,hx]
 obtain⟨p1,p2,-,-⟩:=H8 (m+1) h f
 refine⟨max (min T 8) t,max (T - 56) t',by omega,by omega,by omega,?_,?_⟩
 ·rw[Z52 hl,p1,h4,Z1q (by rw[H9,H9])]
 ·rw[Z3s hl,p2,h5,Z1q (by rw[H9,H9])]
theorem OldM.look {m:Nat}{x:Sec}(ho:OldM m x)(he:x.take 8=x.drop 56):x.take 8=be8 ((m - 1:Nat):Int):=by
 obtain⟨t,t',h1,h2,h3,h4,h5⟩:=ho
 have hl:(be8 ((m+1:Nat):Int)).length=(be8 ((m - 1:Nat):Int)).length:=by rw[H9,H9]
 have e:=congrArg (fun l:Bs=>l[7]?) (he.symm.trans h4)
 have e:(x.drop 56)[7]?=(mix t (be8 ((m+1:Nat):Int)) (be8 ((m - 1:Nat):Int)))[7]?:=e
 rw[h5,Gr hl,Gr hl,Zca,Zca,if_neg (by omega)] at e
 have ht:t≤7:=by
  refine Nat.le_of_not_lt fun h=>?_
  rw[if_pos h] at e
  injection e with e
  exact Zap m e.symm
 have:t'=0:=by omega
 subst this
 rw[he,h5]
 rfl
theorem OldM.of_mark (m h f:Nat):OldM (m+1) (Aj m h f):=by
 obtain⟨p1,p2,-,-⟩:=H8 m h f
 exact⟨0,0,by omega,by omega,.inl rfl,p1,p2⟩
theorem Nz:OldM 0 sec0∧OldM 1 sec0:=⟨⟨0,0,by omega,by omega,.inl rfl,rfl,rfl⟩,⟨0,0,by omega,by omega,.inl rfl,rfl,rfl⟩⟩
structure Rec (s:List Sec)(m h:Nat)(c:Bs):Prop where
 len:s.length=1100
 sec:∀x∈s,x.length=64
 half:h < 2
 few:c.length≤35136
 zero:m=0→h=0∧c=[]∧s[0]?=some sec0
 mark:0 < m→s[m % 2]?=some (Aj m h c.length)
 old:∃x,s[(m+1) % 2]?=some x∧OldM m x
 cont:Z2u s h c
theorem Tj {d:RD}{n:Nat}{x:Sec}(hd:d.dead=false)(hx:d.now[n]?=some x):Cs d n=if x.take 8≠x.drop 56 then⟨0,0,0,false⟩ else⟨Ct (x.take 8),((x[8]?).getD 0).toNat,Ct ((x.drop 9).take 4),decide (((x[8]?).getD 0).toNat < 2)&&decide (Ct ((x.drop 9).take 4)≤35136)⟩:=by
 have hn:=(List.getElem?_eq_some_iff.1 hx).1
 have hm:Jn d n=0:=by unfold Jn;rw[hd,if_neg (by decide),if_neg (by omega)]
 have hr:Lt d n=x:=by unfold Lt;rw[if_neg (fun h=>h hm),Int.toNat_natCast,hx];rfl
 unfold Cs
 dsimp only
 rw[hr]
 by_cases h:x.take 8=x.drop 56
 ·rw[if_neg (by rintro(h1 | h1);exact h1 hm;exact h1 h),if_neg (fun h1=>h1 h)]
 ·rw[if_pos (.inr h),if_pos h]
theorem Z6k (f:Nat)(h:f≤35136):Ct [byI ((f:Int) / 16777216),byI ((f:Int) / 65536),byI ((f:Int) / 256),byI f]=f:=by
 have q1:=C5 ((f:Int) / 16777216)
 have q2:=C5 ((f:Int) / 65536)
 have q3:=C5 ((f:Int) / 256)
 have q4:=C5 (f:Int)
 show(((0 * 256+(byI ((f:Int) / 16777216)).toNat) * 256+(byI ((f:Int) / 65536)).toNat) * 256+(byI ((f:Int) / 256)).toNat) * 256+(byI (f:Int)).toNat=f
 omega
theorem Xm {d:RD}{n m h f:Nat}(hd:d.dead=false)(hx:d.now[n]?=some (Aj m h f))(hh:h < 2)(hf:f≤35136)(hm:(m:Int)≤big):Cs d n=⟨m,h,f,true⟩:=by
 obtain⟨p1,p2,p3,p4⟩:=H8 m h f
 rw[Tj hd hx,p1,p2,p3,p4,if_neg (fun h=>h rfl),Z6k f hf]
 have e1:Ct (be8 (m:Int))=m:=by have:=O7 (m:Int) (by omega) hm;omega
 have e2:((some (UInt8.ofNat h)).getD 0).toNat=h:=by
  show(UInt8.ofNat h).toNat=h
  rw[UInt8.toNat_ofNat'];omega
 rw[e1,e2,decide_eq_true hh,decide_eq_true hf]
 rfl
theorem U9 {d:RD}{n m:Nat}{x:Sec}(hd:d.dead=false)(hx:d.now[n]?=some x)(ho:OldM m x)(hm:(m:Int)≤big):(Cs d n).mark=0∨(Cs d n).mark < m:=by
 rw[Tj hd hx]
 by_cases h:x.take 8=x.drop 56
 ·rw[if_neg (fun h1=>h1 h),ho.look h]
  have:=O7 ((m - 1:Nat):Int) (by omega) (by omega)
  show Ct (be8 ((m - 1:Nat):Int))=0∨Ct (be8 ((m - 1:Nat):Int)) < m
  omega
 ·rw[if_pos h];exact .inl rfl
theorem Z2p {d:RD}{m h:Nat}{c:Bs}(hd:d.dead=false)(hr:Rec d.now m h c)(hm:(m:Int)≤big):Jy d=⟨m,h,c.length,true⟩:=by
 obtain⟨x,hx,ho⟩:=hr.old
 have lo:=U9 hd hx ho hm
 unfold Jy
 rcases Nat.eq_zero_or_pos m with h0 | h0
 ·subst h0
  obtain⟨z1,z2,z3⟩:=hr.zero rfl
  subst z1 z2
  have l0:=U9 hd z3 Nz.1 (by decide)
  have e1:Er ⟨0,0,0,true⟩ (Cs d 0)=⟨0,0,0,true⟩:=by unfold Er;rw[if_neg (fun hh=>by have:=hh.2;dsimp only at this;omega)]
  have e2:Er ⟨0,0,0,true⟩ (Cs d 1)=⟨0,0,0,true⟩:=by
   have lo:(Cs d 1).mark=0∨(Cs d 1).mark < 0:=lo
   unfold Er;rw[if_neg (fun hh=>by have:=hh.2;dsimp only at this;omega)]
  rw[e1,e2];rfl
 ·have hk:=Xm hd (hr.mark h0) hr.half hr.few hm
  rcases(by omega:m % 2=0∨m % 2=1) with e | e
  ·rw[e] at hk
   rw[show(m+1) % 2=1 by omega] at lo
   rw[hk]
   have e1:Er ⟨0,0,0,true⟩ ⟨m,h,c.length,true⟩=⟨m,h,c.length,true⟩:=by unfold Er;rw[if_pos ⟨rfl,h0⟩]
   rw[e1]
   unfold Er;rw[if_neg (fun hh=>by have:=hh.2;dsimp only at this;omega)]
  ·rw[e] at hk
   rw[show(m+1) % 2=0 by omega] at lo
   rw[hk]
   have e1:(Er ⟨0,0,0,true⟩ (Cs d 0)).mark < m:=by
    unfold Er
    split
    ·omega
    ·exact h0
   generalize Er ⟨0,0,0,true⟩ (Cs d 0)=y at e1⊢
   unfold Er;rw[if_pos ⟨rfl,e1⟩]
theorem Q7:∀(L:List Sec) (i:Nat),(∀x∈L,x.length=64)→L.flatten[i]?=(L[i / 64]?.getD [])[i % 64]?
 | [],i,_=>by simp
 | x::L,i,h=>by
  have hx:=h x (by simp)
  rw[List.flatten_cons,List.getElem?_append]
  by_cases hi:i < 64
  ·rw[if_pos (by omega),show i / 64=0 by omega,show i % 64=i by omega];rfl
  ·rw[if_neg (by omega),hx,Q7 L (i - 64) (fun y hy=>h y (by simp[hy])),show i / 64=(i - 64) / 64+1 by omega,show i % 64=(i - 64) % 64 by omega];rfl
theorem Z1r {d:RD}{h:Nat}{c:Bs}(hs:∀x∈d.now,x.length=64)(hf:c.length≤35136)(hc:Z2u d.now h c):(Cc d h).take c.length=c:=by
 refine List.ext_getElem? fun i=>?_
 rw[List.getElem?_take]
 by_cases hi:i < c.length
 ·rw[if_pos hi,←hc i hi]
  unfold Cc Z9p
  rw[Q7 _ _ fun x hx=>hs x (List.mem_of_mem_drop (List.mem_of_mem_take hx)),List.getElem?_take,if_pos (by omega),List.getElem?_drop]
 ·rw[if_neg hi,List.getElem?_eq_none (by omega)]
theorem Uq:∀(l:List ByteArray),(∀s∈l,s.size≤4096)→Ls (Am l)=some l
 | [],_=>T2
 | s::l,h=>by
  have hs:=h s (by simp)
  have hz:s.data.toList.length=s.size:=by rw[Array.length_toList];rfl
  have e:Am (s::l)=frB s++Am l:=rfl
  have hl:(Am (s::l)).length=s.size+4+(Am l).length:=by rw[e,List.length_append,Dl]
  have e4:(Am (s::l)).take 4=[byI ((s.size:Int) / 16777216),byI ((s.size:Int) / 65536),byI ((s.size:Int) / 256),byI s.size]:=rfl
  have ed:(Am (s::l)).drop 4=s.data.toList++Am l:=rfl
  have e5:(Am (s::l)).drop (4+s.size)=Am l:=by
   rw[←List.drop_drop,ed,←hz,List.drop_left]
  have e6:((Am (s::l)).drop 4).take s.size=s.data.toList:=by rw[ed,←hz,List.take_left]
  have hne:Am (s::l)≠[]:=fun h=>by rw[h] at hl;simp at hl;omega
  rw[P7 hne,if_neg (by omega),e4,Z6k s.size (by omega),if_neg (by omega),e5,e6,Uq l fun x hx=>h x (by simp[hx])]
  rfl
theorem Vf {d:RD}{m h:Nat}{all:List ByteArray}(hd:d.dead=false)(hr:Rec d.now m h (Am all))(hm:(m:Int)≤big)(ha:∀s∈all,s.size≤4096):Zm d=some ⟨m,h,(Am all).length,Am all,all,false,d⟩:=by
 have hk:=Z2p hd hr hm
 unfold Zm
 rw[hk]
 dsimp only
 rw[Z1r hr.sec hr.few hr.cont,Uq all ha]
def Y9 (m h:Nat)(c:Bs)(w:Nat × Sec):Prop:=w.2.length=64∧∀s,Rec s m h c→∀T,Rec (s.set w.1 (mix T w.2 (s[w.1]?.getD []))) m h c
theorem Zj {s:List Sec}{i:Nat}{x:Sec}(hs:∀y∈s,y.length=64)(hx:x.length=64){T:Nat}(hT:64≤T):s.set i (mix T x (s[i]?.getD []))=s.set i x:=by
 by_cases hi:i < s.length
 ·rw[List.getElem?_eq_getElem hi]
  show s.set i (mix T x s[i])=_
  rw[Z8q (by rw[hx,hs _ (List.getElem_mem hi)]) (by omega)]
 ·rw[List.set_eq_of_length_le (by omega),List.set_eq_of_length_le (by omega)]
theorem Kp {m h:Nat}{c:Bs}:∀(ws:List (Nat × Sec)) (s:List Sec),(∀w∈ws,Y9 m h c w)→Rec s m h c→Rec (Fl s ws) m h c
 | [],_,_,hr=>hr
 | w::ws,s,hw,hr=>by
  have h1:=hw w (by simp)
  have h2:=h1.2 s hr 64
  rw[Zj hr.sec h1.1 (Nat.le_refl _)] at h2
  exact Kp ws _ (fun x hx=>hw x (by simp[hx])) h2
structure Safe (m h:Nat)(c:Bs)(d:RD):Prop where
 rc:Rec d.firm m h c
 now:d.now=Fl d.firm d.wait
 wait:∀w∈d.wait,Y9 m h c w
theorem Safe.crash {m h:Nat}{c:Bs}{d:RD}(hs:Safe m h c d)(k t:Int):Rec (B5 d k t) m h c:=by
 have h1:=Kp (d.wait.take (Hd d k)) d.firm (fun w hw=>hs.wait w (List.mem_of_mem_take hw)) hs.rc
 unfold B5
 dsimp only
 split
 ·next w hw=>exact(hs.wait w (List.mem_of_getElem? hw)).2 _ h1 _
 ·exact h1
theorem Db (d:RD):(B6 d).now=d.now∧(B6 d).firm=d.firm∧(B6 d).wait=d.wait:=by unfold B6;split<;>exact⟨rfl,rfl,rfl⟩
theorem Z0s (f:List Sec)(ws:List (Nat × Sec))(w:Nat × Sec):Fl f (ws++[w])=(Fl f ws).set w.1 w.2:=by unfold Fl;rw[List.foldl_append];rfl
theorem Safe.write {m h:Nat}{c:Bs}{d:RD}(hs:Safe m h c d){n:Int}{b:Sec}(hk:Y9 m h c (n.toNat,Ds b)):Safe m h c (Ae d n b):=by
 unfold Ae
 split
 ·exact hs
 ·split
  ·exact hs
  ·obtain⟨e1,e2,e3⟩:=Db (Z3o d n.toNat (Ds b))
   refine⟨by rw[e2];exact hs.rc,?_,fun w hw=>?_⟩
   ·rw[e1,e2,e3]
    show d.now.set _ _=Fl d.firm (d.wait++[_])
    rw[Z0s,hs.now]
   ·rw[e3] at hw
    rcases List.mem_append.1 hw with hw | hw
    ·exact hs.wait w hw
    ·rw[List.mem_singleton.1 hw];exact hk
theorem Safe.sync {m h:Nat}{c:Bs}{d:RD}(hs:Safe m h c d):Safe m h c (Aa d):=by
 obtain⟨e1,e2,e3⟩:=Db d
 unfold Aa
 split
 ·exact hs
 ·split
  ·exact⟨by rw[e2];exact hs.rc,by rw[e1,e2,e3];exact hs.now,fun w hw=>hs.wait w (by rwa [e3] at hw)⟩
  ·refine⟨Kp _ _ hs.wait hs.rc,?_,fun w hw=>by cases hw⟩
   show(B6 d).now=Fl (Fl d.firm d.wait) []
   rw[e1,hs.now];rfl
theorem Safe.runW {m h:Nat}{c:Bs}{f:Nat}{b:Bs}:∀(ns:List Nat) {d:RD},Safe m h c d→(∀n∈ns,Y9 m h c (f+n,Ds (chB b n)))→Safe m h c (runW f b ns d).1
 | [],_,hs,_=>hs
 | n::ns,d,hs,hk=>by
  have h1:Safe m h c (Ae d ((f+n:Nat):Int) (chB b n)):=hs.write (by rw[Int.toNat_natCast];exact hk n (by simp))
  rw[F3]
  split
  ·exact Safe.runW ns h1 fun x hx=>hk x (by simp[hx])
  ·exact h1
theorem Vp {m h:Nat}{c:Bs}{h' n:Nat}{x:Sec}(hh':h' < 2)(hn:n < 549)(hx:x.length=64)(hag:h'=h→∀i,i < c.length→i / 64=n→x[i % 64]?=c[i]?):Y9 m h c (Cb h'+n,x):=by
 refine⟨hx,fun s hr T=>?_⟩
 have hlt:Cb h'+n < s.length:=by rw[hr.len];unfold Cb;omega
 have h2:2≤Cb h'+n:=by unfold Cb;omega
 show Rec (s.set (Cb h'+n) (mix T x (s[Cb h'+n]?.getD []))) m h c
 have ho:(s[Cb h'+n]?.getD []).length=64:=by
  rw[List.getElem?_eq_getElem hlt];exact hr.sec _ (List.getElem_mem hlt)
 refine⟨by rw[List.length_set];exact hr.len,fun y hy=>?_,hr.half,hr.few,fun h0=>?_,fun h0=>?_,?_,fun i hi=>?_⟩
 ·rcases List.mem_or_eq_of_mem_set hy with hy | rfl
  ·exact hr.sec y hy
  ·rw[Rf (by rw[hx,ho])];exact hx
 ·obtain⟨a,b,e⟩:=hr.zero h0
  exact⟨a,b,by rw[List.getElem?_set_ne (by omega)];exact e⟩
 ·rw[List.getElem?_set_ne (by omega)];exact hr.mark h0
 ·obtain⟨y,hy,hoy⟩:=hr.old
  exact⟨y,by rw[List.getElem?_set_ne (by omega)];exact hy,hoy⟩
 ·have hc:=hr.cont i hi
  unfold Z9p at hc⊢
  by_cases e:Cb h'+n=Cb h+i / 64
  ·have hhf:=hr.half
   have hfew:=hr.few
   have e2:h'=h∧i / 64=n:=by unfold Cb at e;omega
   rw[←e] at hc⊢
   rw[List.getElem?_set_self hlt]
   show(mix T x _)[i % 64]?=_
   rw[Gr (by rw[hx,ho])]
   split
   ·exact hag e2.1 i hi e2.2
   ·exact hc
  ·rw[List.getElem?_set_ne e];exact hc
theorem Z5e {b:Bs}{n k:Nat}(hk:k < 64)(h:n * 64+k < b.length):(Ds (chB b n))[k]?=b[n * 64+k]?:=by
 unfold Ds chB
 rw[List.getElem?_append_left (by simp;omega),List.getElem?_take,if_pos hk,List.getElem?_take,if_pos hk,List.getElem?_drop]
theorem P6 {d:RD}{n:Int}{b:Sec}(h:Bh d n b=0):(Ae d n b).now=d.now.set n.toNat (Ds b):=by
 unfold Bh at h
 unfold Ae
 by_cases h1:Jn d n=0
 ·rw[if_neg (fun h=>h h1)] at h⊢
  by_cases h2:b.length > 64
  ·rw[if_pos h2] at h;cases h
  ·rw[if_neg h2]
   exact(Db _).1
 ·rw[if_pos h1] at h;exact absurd h h1
theorem U3 (f:Nat)(b:Bs):∀(ns:List Nat) (d:RD),(runW f b ns d).2=true→(∀n∈ns,f+n < d.now.length)→∀i,(runW f b ns d).1.now[i]?=if f≤i∧i - f∈ns then some (Ds (chB b (i - f))) else d.now[i]?
 | [],d,_,_,i=>by rw[if_neg (fun h=>by cases h.2)];rfl
 | n::ns,d,hr,hl,i=>by
  rw[F3] at hr⊢
  by_cases hw:Bh d ((f+n:Nat):Int) (chB b n)=0
  ·rw[if_pos hw] at hr⊢
   have e:=P6 hw
   rw[Int.toNat_natCast] at e
   rw[U3 f b ns _ hr (fun x hx=>by rw[e,List.length_set];exact hl x (by simp[hx])) i,e]
   by_cases h1:f≤i∧i - f∈ns
   ·rw[if_pos h1,if_pos ⟨h1.1,by simp[h1.2]⟩]
   ·rw[if_neg h1]
    by_cases h2:i=f+n
    ·subst h2
     rw[List.getElem?_set_self (hl n (by simp)),if_pos ⟨by omega,by simp⟩,show f+n - f=n by omega]
    ·rw[List.getElem?_set_ne (fun h=>h2 h.symm),if_neg]
     rintro⟨h3,h4⟩
     rcases List.mem_cons.1 h4 with h4 | h4
     ·omega
     ·exact h1 ⟨h3,h4⟩
  ·rw[if_neg hw] at hr;cases hr
theorem Qn {h:Nat}{b:Bs}{frm:Nat}{d:RD}(hh:h < 2)(hb:b.length≤35136)(hlen:d.now.length=1100)(hr:(runW (Cb h) b (nsW b frm) d).2=true)(hc:Z2u d.now h (b.take frm)):Z2u (runW (Cb h) b (nsW b frm) d).1.now h b:=by
 intro i hi
 unfold Z9p
 rw[U3 _ _ _ _ hr (fun n hn=>by have:=Z10 hb hn;rw[hlen];unfold Cb;omega)]
 by_cases h1:i / 64∈nsW b frm
 ·rw[if_pos ⟨by omega,by rw[show Cb h+i / 64 - Cb h=i / 64 by omega];exact h1⟩,show Cb h+i / 64 - Cb h=i / 64 by omega]
  show(Ds (chB b (i / 64)))[i % 64]?=_
  rw[Z5e (by omega) (by omega),show i / 64 * 64+i % 64=i by omega]
 ·rw[if_neg (fun hh=>h1 (by have:=hh.2;rwa [show Cb h+i / 64 - Cb h=i / 64 by omega] at this))]
  unfold nsW at h1
  rw[List.mem_range'_1] at h1
  have hif:i < frm:=by omega
  have:=hc i (by rw[List.length_take];omega)
  rw[List.getElem?_take,if_pos hif] at this
  exact this
theorem Z2x {s:List Sec}{m h:Nat}{c:Bs}(hr:Rec s m h c)(h' f:Nat){T:Nat}(hT:T < 64):Rec (s.set ((m+1) % 2) (mix T (Aj (m+1) h' f) (s[(m+1) % 2]?.getD []))) m h c:=by
 obtain⟨x,hx,ho⟩:=hr.old
 have hxl:=hr.sec x (List.mem_of_getElem? hx)
 have hlt:=(List.getElem?_eq_some_iff.1 hx).1
 rw[hx]
 show Rec (s.set ((m+1) % 2) (mix T (Aj (m+1) h' f) x)) m h c
 have hml:(mix T (Aj (m+1) h' f) x).length=64:=by rw[Rf (by rw[Dg,hxl]),Dg]
 refine⟨by rw[List.length_set];exact hr.len,fun y hy=>?_,hr.half,hr.few,fun h0=>?_,fun h0=>?_,⟨_,List.getElem?_set_self hlt,ho.torn hxl hT⟩,fun i hi=>?_⟩
 ·rcases List.mem_or_eq_of_mem_set hy with hy | rfl
  ·exact hr.sec y hy
  ·exact hml
 ·obtain⟨a,b,e⟩:=hr.zero h0
  exact⟨a,b,by rw[List.getElem?_set_ne (by omega)];exact e⟩
 ·rw[List.getElem?_set_ne (by omega)];exact hr.mark h0
 ·have:=hr.cont i hi
  unfold Z9p at this⊢
  rw[List.getElem?_set_ne (by unfold Cb;omega)]
  exact this
theorem Nw {s:List Sec}{m h:Nat}{c:Bs}(hr:Rec s m h c){h':Nat}{c':Bs}(hh:h' < 2)(hf:c'.length≤35136)(hc:Z2u s h' c'):Rec (s.set ((m+1) % 2) (Aj (m+1) h' c'.length)) (m+1) h' c':=by
 have hlt:(m+1) % 2 < s.length:=by rw[hr.len];omega
 refine⟨by rw[List.length_set];exact hr.len,fun y hy=>?_,hh,hf,fun h0=>by omega,fun _=>List.getElem?_set_self hlt,?_,fun i hi=>?_⟩
 ·rcases List.mem_or_eq_of_mem_set hy with hy | rfl
  ·exact hr.sec y hy
  ·exact Dg _ _ _
 ·rw[show(m+1+1) % 2=m % 2 by omega]
  rcases Nat.eq_zero_or_pos m with h0 | h0
  ·subst h0
   exact⟨sec0,by rw[List.getElem?_set_ne (by omega)];exact(hr.zero rfl).2.2,Nz.2⟩
  ·exact⟨_,by rw[List.getElem?_set_ne (by omega)];exact hr.mark h0,OldM.of_mark _ _ _⟩
 ·have:=hc i hi
  unfold Z9p at this⊢
  rw[List.getElem?_set_ne (by unfold Cb;omega)]
  exact this
theorem Wd {x:Sec}(h:x.length=64):Ds x=x:=by
 unfold Ds
 rw[List.take_of_length_le (by omega),h]
 simp
theorem Tr {l:LD}{m h:Nat}{c:Bs}(hs:Safe m h c l.d){h':Nat}{c':Bs}(hh:h' < 2)(hf:c'.length≤35136)(hc:Z2u l.d.now h' c')(hm:l.mark=m) :
  (∀k t,Rec (B5 (Ai l h' c'.length).d k t) m h c∨Rec (B5 (Ai l h' c'.length).d k t) (m+1) h' c')∧((Ai l h' c'.length).dead=false→Rec (Ai l h' c'.length).d.now (m+1) h' c'∧(Ai l h' c'.length).d.firm=(Ai l h' c'.length).d.now):=by
 subst hm
 unfold Ai
 by_cases h1:D3 l.d≠0
 ·rw[if_pos h1]
  exact⟨fun k t=>.inl (hs.sync.crash k t),fun h=>by cases h⟩
 ·rw[if_neg h1]
  have h1:D3 l.d=0:=Decidable.not_not.1 h1
  have hw0:=(K0 h1).2.1
  have hs1:=hs.sync
  have en:(Aa l.d).now=l.d.now:=by
   unfold Aa
   split
   ·rfl
   ·split<;>exact(Db l.d).1
  have ef:(Aa l.d).firm=(Aa l.d).now:=by have:=hs1.now;rw[hw0] at this;exact this.symm
  have hr:=hs1.rc
  have hc1:Z2u (Aa l.d).firm h' c':=by rw[ef,en];exact hc
  have hk:Ds (Aj (l.mark+1) h' c'.length)=Aj (l.mark+1) h' c'.length:=Wd (Dg _ _ _)
  have old:∀(d:RD),d.firm=(Aa l.d).firm→(d.wait=[]∨d.wait=[((l.mark+1) % 2,Aj (l.mark+1) h' c'.length)])→∀k t,Rec (B5 d k t) l.mark h c∨Rec (B5 d k t) (l.mark+1) h' c':=fun d e1 e2 k t=>by
   unfold B5
   dsimp only
   rw[e1]
   rcases e2 with e2 | e2
   ·rw[e2]
    simp only[List.take_nil,List.getElem?_nil]
    exact .inl hr
   ·have hkd:Hd d k=0∨Hd d k=1:=by unfold Hd;rw[e2];show(min (max k 0) 1).toNat=0∨(min (max k 0) 1).toNat=1;omega
    rw[e2]
    rcases hkd with e3 | e3
    ·rw[e3]
     show Rec ((Aa l.d).firm.set _ (Jv _ _ t)) _ _ _∨Rec ((Aa l.d).firm.set _ (Jv _ _ t)) _ _ _
     unfold Jv
     by_cases hT:(min (max t 0) 64).toNat < 64
     ·exact .inl (Z2x hr h' _ hT)
     ·refine .inr ?_
      have:=Zj (i:=(l.mark+1) % 2) hr.sec (Dg (l.mark+1) h' c'.length) (T:=(min (max t 0) 64).toNat) (by omega)
      have:=this ▸ Nw hr hh hf hc1
      exact this
    ·rw[e3]
     exact .inr (Nw hr hh hf hc1)
  have hwr:(Ae (Aa l.d) (((l.mark+1) % 2:Nat):Int) (Aj (l.mark+1) h' c'.length)).firm=(Aa l.d).firm∧((Ae (Aa l.d) (((l.mark+1) % 2:Nat):Int) (Aj (l.mark+1) h' c'.length)).wait=[]∨(Ae (Aa l.d) (((l.mark+1) % 2:Nat):Int) (Aj (l.mark+1) h' c'.length)).wait=[((l.mark+1) % 2,Aj (l.mark+1) h' c'.length)]):=by
   unfold Ae
   split
   ·exact⟨rfl,.inl hw0⟩
   ·split
    ·exact⟨rfl,.inl hw0⟩
    ·obtain⟨a1,a2,a3⟩:=Db (Z3o (Aa l.d) ((((l.mark+1) % 2:Nat):Int)).toNat (Ds (Aj (l.mark+1) h' c'.length)))
     refine⟨a2,.inr ?_⟩
     rw[a3]
     show(Aa l.d).wait++[_]=_
     rw[hw0,hk,Int.toNat_natCast];rfl
  by_cases h2:Bh (Aa l.d) (((l.mark+1) % 2:Nat):Int) (Aj (l.mark+1) h' c'.length)≠0
  ·rw[if_pos h2]
   exact⟨old _ hwr.1 hwr.2,fun h=>by cases h⟩
  ·rw[if_neg h2]
   have h2:=Decidable.not_not.1 h2
   have hwn:=P6 h2
   rw[hk,Int.toNat_natCast] at hwn
   generalize hd2:Ae (Aa l.d) (((l.mark+1) % 2:Nat):Int) (Aj (l.mark+1) h' c'.length)=d2 at hwr hwn⊢
   have hnx:Rec d2.now (l.mark+1) h' c':=by
    rw[hwn,←ef]
    exact Nw hr hh hf hc1
   have ed2:=Db d2
   have hly:Fl d2.firm d2.wait=d2.now:=by
    rcases hwr.2 with e | e
    ·exfalso
     have:d2.wait.length=1:=by
      rw[←hd2]
      unfold Ae
      unfold Bh at h2
      by_cases q1:Jn (Aa l.d) (((l.mark+1) % 2:Nat):Int)=0
      ·rw[if_neg (fun h=>h q1)] at h2⊢
       rw[if_neg (by rw[Dg];omega),(Db _).2.2]
       show((Aa l.d).wait++[_]).length=1
       rw[hw0];rfl
      ·rw[if_pos q1] at h2;exact absurd h2 q1
     rw[e] at this;cases this
    ·rw[e,hwr.1,hwn,ef];rfl
   have hfl:D3 d2=0→(Aa d2).firm=d2.now∧(Aa d2).wait=[]∧(Aa d2).now=d2.now:=fun h3=>by
    have q:=K0 h3
    unfold D3 at h3
    have h4:¬(d2.dead=true∨Es d2=true):=fun h=>by rw[if_pos h] at h3;cases h3
    unfold Aa
    rw[if_neg (fun h=>h4 (.inl h)),if_neg (fun h=>h4 (.inr h))]
    exact⟨hly,rfl,ed2.1⟩
   by_cases h3:D3 d2≠0
   ·rw[if_pos h3]
    refine⟨?_,fun h=>by cases h⟩
    have e5:(Aa d2).firm=d2.firm∧(Aa d2).wait=d2.wait:=by
     unfold D3 at h3
     have h4:d2.dead=true∨Es d2=true:=by
      by_cases h4:d2.dead=true∨Es d2=true
      ·exact h4
      ·rw[if_neg h4] at h3;exact absurd rfl h3
     unfold Aa
     split
     ·exact⟨rfl,rfl⟩
     ·next h5 =>
      rw[if_pos (by rcases h4 with h4 | h4;exact absurd h4 h5;exact h4)]
      exact ed2.2
    exact old _ (e5.1.trans hwr.1) (by show(Aa d2).wait=[]∨(Aa d2).wait=_;rw[e5.2];exact hwr.2)
   ·rw[if_neg h3]
    obtain⟨f1,f2,f3⟩:=hfl (Decidable.not_not.1 h3)
    refine⟨fun k t=>.inr ?_,fun _=>⟨?_,?_⟩⟩
    ·show Rec (B5 (Aa d2) k t) _ _ _
     unfold B5
     dsimp only
     rw[f2,f1]
     simp only[List.take_nil,List.getElem?_nil]
     exact hnx
    ·show Rec (Aa d2).now _ _ _
     rw[f3];exact hnx
    ·show(Aa d2).firm=(Aa d2).now
     rw[f1,f3]
end Go.Proofs.YtihfaocdpmmooaaGreat
namespace Go.Proofs.YtihfaocdpmmooaaGreat
structure RLd (l:LD):Prop where
 rc:Rec l.d.now l.mark l.half l.b
 firm:l.d.firm=l.d.now
 f:l.firm=l.b.length
 sz:∀s∈l.all,s.size≤4096
theorem RLd.safe {k:Nat}{l:LD}(h:RLd l)(hw:WSt k l):Safe l.mark l.half l.b l.d :=
 ⟨by rw[h.firm];exact h.rc,by rw[hw.wait];exact h.firm.symm,by rw[hw.wait];nofun⟩
theorem Zb {l:LD}{m h:Nat}{c:Bs}(hs:Safe m h c l.d){h':Nat}(hh:h' < 2){b:Bs}{frm:Nat}(hb:b.length≤35136)(hag:h'=h→∀i,i < c.length→b[i]?=c[i]?)(hc:h'=h→c.length≤b.length):Safe m h c (wrL l h' b frm).d:=by
 unfold wrL
 refine Safe.runW _ hs fun n hn=>Vp hh (Z10 hb hn) (C3 _) fun e i hi hin=>?_
 have:=hc e
 rw[Z5e (by omega) (by omega),show n * 64+i % 64=i by omega]
 exact hag e i hi
theorem Zcj {k:Nat}{l:LD}(hw:WSt k l)(h:RLd l)(s:ByteArray)(h0:Fm l s=0) :
  (∀kp t,Rec (B5 (J1 (B9 l s)).d kp t) l.mark l.half l.b∨Rec (B5 (J1 (B9 l s)).d kp t) (l.mark+1) l.half (l.b++frB s))∧s.size≤4096∧(Nv (B9 l s)=0→RLd (J1 (B9 l s))):=by
 unfold Fm at h0
 rw[if_neg (by rw[hw.dead];decide)] at h0
 have hs1:¬s.size > 4096:=fun hh=>by rw[if_pos hh] at h0;cases h0
 rw[if_neg hs1] at h0
 have hs2:¬(s.size:Int) > Fq l:=fun hh=>by rw[if_pos hh] at h0;cases h0
 rw[if_neg hs2] at h0
 have hwe:wrE l l.half (l.b++frB s) l.b.length=true:=by
  cases hwe:wrE l l.half (l.b++frB s) l.b.length with
  | true=>rfl
  | false=>rw[hwe] at h0;cases h0
 have hA:B9 l s={wrL l l.half (l.b++frB s) l.b.length with b:=l.b++frB s,all:=l.all++[s]}:=by
  unfold B9
  rw[if_neg (by rw[hw.dead];decide),if_neg hs1,if_neg hs2,if_pos hwe]
 have hroom:(l.b++frB s).length≤35136:=by rw[List.length_append,Dl];have:=hw.len;unfold Fq at hs2;omega
 obtain⟨hd1,hd2⟩:=Lb hw.dd hwe
 have hS:=Zb (frm:=l.b.length) (h.safe hw) hw.half hroom (fun _ i hi=>by rw[List.getElem?_append_left hi]) (fun _=>by rw[List.length_append];omega)
 have hC:Z2u (wrL l l.half (l.b++frB s) l.b.length).d.now l.half (l.b++frB s):=Qn hw.half hroom hw.many hwe (by rw[List.take_left];exact h.rc.cont)
 generalize hx:({wrL l l.half (l.b++frB s) l.b.length with b:=l.b++frB s,all:=l.all++[s]}:LD)=x at hA
 have x1:x.dead=false:=by rw[←hx];exact hd1
 have x2:x.d=(wrL l l.half (l.b++frB s) l.b.length).d:=by rw[←hx]
 have x3:x.mark=l.mark:=by rw[←hx];rfl
 have x4:x.half=l.half:=by rw[←hx];rfl
 have x5:x.b=l.b++frB s:=by rw[←hx]
 have x6:x.all=l.all++[s]:=by rw[←hx]
 rw[hA]
 have hSy:J1 x=Ai x x.half x.b.length:=by unfold J1;rw[if_neg (by rw[x1];decide)]
 rw[←x2] at hS hC
 obtain⟨q1,q2⟩:=Tr hS hw.half hroom hC x3
 rw[hSy,x4,x5]
 refine⟨q1,by omega,fun hE=>?_⟩
 have hdd:(Ai x l.half (l.b++frB s).length).dead=false:=by
  unfold Nv at hE
  rw[if_neg (by rw[x1];decide)] at hE
  unfold Da at hE
  rw[x4,x5] at hE
  cases hz:(Ai x l.half (l.b++frB s).length).dead with
  | false=>rfl
  | true=>rw[hz] at hE;cases hE
 obtain⟨r1,r2⟩:=q2 hdd
 obtain⟨s1,s2,s3⟩:=Kc hdd
 have e1:(Ai x l.half (l.b++frB s).length).mark=l.mark+1:=by rw[s3];show x.mark+1=_;rw[x3]
 have e2:(Ai x l.half (l.b++frB s).length).half=l.half:=by rw[s3]
 have e3:(Ai x l.half (l.b++frB s).length).b=l.b++frB s:=by rw[s3];exact x5
 have e4:(Ai x l.half (l.b++frB s).length).all=l.all++[s]:=by rw[s3];exact x6
 have e5:(Ai x l.half (l.b++frB s).length).firm=(l.b++frB s).length:=by rw[s3]
 refine⟨by rw[e1,e2,e3];exact r1,r2,by rw[e5,e3],fun y hy=>?_⟩
 rw[e4] at hy
 rcases List.mem_append.1 hy with hy | hy
 ·exact h.sz y hy
 ·rw[List.mem_singleton.1 hy];omega
theorem Oh {all:List ByteArray}(h:M1 all=0):(Am all).length≤35136∧∀s∈all,s.size≤4096:=by
 unfold M1 at h
 split at h
 ·cases h
 ·next h1 =>
  split at h
  ·cases h
  ·refine⟨by omega,fun s hs=>?_⟩
   rw[List.any_eq_true] at h1
   refine Nat.le_of_not_lt fun hlt=>h1 ⟨s,hs,?_⟩
   exact decide_eq_true hlt
theorem Z67 {k:Nat}{l:LD}(hw:WSt k l)(h:RLd l)(all:List ByteArray)(hf:M1 all=0) :
  (∀kp t,Rec (B5 (Et l all).d kp t) l.mark l.half l.b∨Rec (B5 (Et l all).d kp t) (l.mark+1) (1 - l.half) (Am all))∧(Ja l all=0→RLd (Et l all)):=by
 obtain⟨hbl,hsz⟩:=Oh hf
 have hh:=hw.half
 have hS:=Zb (frm:=0) (h.safe hw) (h':=1 - l.half) (by omega) hbl (fun e=>by omega) (fun e=>by omega)
 have hL:Et l all=if wrE l (1 - l.half) (Am all) 0=true then
   (if(Ai (wrL l (1 - l.half) (Am all) 0) (1 - l.half) (Am all).length).dead=true then Ai (wrL l (1 - l.half) (Am all) 0) (1 - l.half) (Am all).length
    else {Ai (wrL l (1 - l.half) (Am all) 0) (1 - l.half) (Am all).length with b:=Am all,all:=all})
  else wrL l (1 - l.half) (Am all) 0:=by
  unfold Et
  rw[if_neg (by rw[hw.dead];decide),if_neg (fun h=>h hf)]
 have hR:Ja l all=if wrE l (1 - l.half) (Am all) 0=true then Da (wrL l (1 - l.half) (Am all) 0) (1 - l.half) (Am all).length else 40:=by
  unfold Ja
  rw[if_neg (by rw[hw.dead];decide),if_neg (fun h=>h hf)]
 rw[hL,hR]
 cases hwe:wrE l (1 - l.half) (Am all) 0 with
 | false =>
  rw[if_neg (by decide),if_neg (by decide)]
  exact⟨fun kp t=>.inl (hS.crash kp t),fun h=>by cases h⟩
 | true =>
  rw[if_pos rfl,if_pos rfl]
  obtain⟨hd1,hd2⟩:=Lb hw.dd hwe
  have hC:Z2u (wrL l (1 - l.half) (Am all) 0).d.now (1 - l.half) (Am all):=Qn (by omega) hbl hw.many hwe (fun i hi=>by simp at hi)
  obtain⟨q1,q2⟩:=Tr hS (h':=1 - l.half) (by omega) hbl hC (show(wrL l (1 - l.half) (Am all) 0).mark=l.mark from rfl)
  have hdeq:∀x:LD,(if x.dead=true then x else {x with b:=Am all,all:=all}).d=x.d:=fun x=>by split<;>rfl
  refine⟨fun kp t=>by rw[hdeq];exact q1 kp t,fun hE=>?_⟩
  have hdd:(Ai (wrL l (1 - l.half) (Am all) 0) (1 - l.half) (Am all).length).dead=false:=by
   unfold Da at hE
   cases hz:(Ai (wrL l (1 - l.half) (Am all) 0) (1 - l.half) (Am all).length).dead with
   | false=>rfl
   | true=>rw[hz] at hE;cases hE
  obtain⟨r1,r2⟩:=q2 hdd
  obtain⟨s1,s2,s3⟩:=Kc hdd
  rw[if_neg (by rw[hdd];decide)]
  have e1:(Ai (wrL l (1 - l.half) (Am all) 0) (1 - l.half) (Am all).length).mark=l.mark+1:=by rw[s3];rfl
  have e2:(Ai (wrL l (1 - l.half) (Am all) 0) (1 - l.half) (Am all).length).half=1 - l.half:=by rw[s3]
  have e5:(Ai (wrL l (1 - l.half) (Am all) 0) (1 - l.half) (Am all).length).firm=(Am all).length:=by rw[s3]
  exact⟨by show Rec (Ai _ _ _).d.now (Ai _ _ _).mark (Ai _ _ _).half (Am all);rw[e1,e2];exact r1,r2,e5,hsz⟩
theorem Yn {d:RD}{kp t:Int}{m h:Nat}{all:List ByteArray}(hr:Rec (B5 d kp t) m h (Am all))(hm:(m:Int)≤big)(ha:∀s∈all,s.size≤4096):Zm (E7 d kp t)=some ⟨m,h,(Am all).length,Am all,all,false,E7 d kp t⟩ :=
 Vf rfl hr hm ha
theorem Z5c {d:RD}(hd:WD d){kp t:Int}{m h:Nat}{all:List ByteArray}(hr:Rec (B5 d kp t) m h (Am all))(ha:∀s∈all,s.size≤4096):WSt m ⟨m,h,(Am all).length,Am all,all,false,E7 d kp t⟩∧RLd ⟨m,h,(Am all).length,Am all,all,false,E7 d kp t⟩ :=
 ⟨⟨Ey hd kp t,hr.len,by show(0:Int)≤_;decide,rfl,hr.half,rfl,hr.few,Nat.le_refl _,rfl,rfl⟩,⟨hr,rfl,rfl,ha⟩⟩
theorem W4 {k:Nat}{l:LD}(hw:WSt k l)(h:RLd l)(kp t:Int):Rec (B5 l.d kp t) l.mark l.half l.b:=(h.safe hw).crash kp t
theorem Zd:Rec (Vs 1100).now 0 0 (Am []):=by
 have hm:Yq 1100=1100:=by decide
 have hn:(Vs 1100).now=List.replicate 1100 sec0:=by unfold Vs;rw[hm]
 have at1:∀i,i < 1100→(List.replicate 1100 sec0)[i]?=some sec0:=fun i hi=>by rw[List.getElem?_replicate,if_pos hi]
 rw[hn]
 refine⟨List.length_replicate ..,fun x hx=>?_,by omega,Nat.zero_le _,fun _=>⟨rfl,rfl,at1 0 (by omega)⟩,fun h=>by omega,⟨sec0,at1 _ (by omega),Nz.1⟩,fun i hi=>by cases hi⟩
 rw[(List.mem_replicate.1 hx).2]
 exact List.length_replicate ..
end Go.Proofs.YtihfaocdpmmooaaGreat

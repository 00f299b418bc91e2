
import Derived.Test.YtihfaocdpmmooaaGreatNM1
import Derived.Test.YtihfaocdpmmooaaGreatPKM
namespace Go.Proofs.YtihfaocdpmmooaaGreat
def Zc4 (s:List Sec)(f i:Nat):Option UInt8:=(s[f+i / 64]?.getD [])[i % 64]?
def Z6j (s:List Sec)(h:Nat)(c:Bs):Prop:=∀i,i < c.length→Zc4 s (Cq h) i=c[i]?
def mix (t:Nat)(a b:Bs):Bs:=a.take t++b.drop t
theorem Hr {a b:Bs}(h:a.length=b.length)(t j:Nat):(mix t a b)[j]?=if j < t then a[j]? else b[j]?:=by
 unfold mix
 rw[List.getElem?_append,au,bi,bu]
 by_cases hj:j < t
 ·rw[db hj]
  split
  ·rfl
  ·next h1 =>
   rw[b8 (by omega),b8 (by omega)]
 ·rw[da (by omega),da hj]
  by_cases ht:t≤a.length
  ·rw[show t+(j - min t a.length)=j by omega]
  ·rw[b8 (by omega),b8 (by omega)]
theorem Su {a b:Bs}(h:a.length=b.length)(t:Nat):(mix t a b).length=a.length:=by unfold mix;simp;omega
theorem Yx {a b:Bs}(h:a.length=b.length)(t u:Nat):mix t a (mix u a b)=mix (max t u) a b:=by
 refine co fun j=>?_
 rw[Hr (by rw[Su h]),Hr h,Hr h]
 by_cases h1:j < t
 ·rw[db h1,db (by omega)]
 ·rw[da h1]
  by_cases h2:j < u
  ·rw[db h2,db (by omega)]
  ·rw[da h2,da (by omega)]
theorem Z5m {a b:Bs}(h:a.length=b.length)(t k:Nat):(mix t a b).take k=mix (min t k) (a.take k) (b.take k):=by
 refine co fun j=>?_
 rw[bi,Hr h,Hr (by simp[h]),bi,bi]
 by_cases h1:j < k
 ·rw[db h1,db h1,db h1]
  by_cases h2:j < t
  ·rw[db h2,db (by omega)]
  ·rw[da h2,da (by omega)]
 ·rw[da h1,da h1,da h1];split<;>rfl
theorem Z5z {a b:Bs}(h:a.length=b.length)(t k:Nat):(mix t a b).drop k=mix (t - k) (a.drop k) (b.drop k):=by
 refine co fun j=>?_
 rw[bu,Hr h,Hr (by simp[h]),bu,bu]
 by_cases h2:k+j < t
 ·rw[db h2,db (by omega)]
 ·rw[da h2,da (by omega)]
theorem Z9r {a b:Bs}(h:a.length=b.length){t:Nat}(ht:a.length≤t):mix t a b=a:=by
 unfold mix
 rw[ao ht,c7 (by omega),cy]
def OldM (m:Nat)(x:Sec):Prop:=∃t t',t≤8∧t' < 8∧(t'=0∨t=8)∧x.take 8=mix t (be8 ((m+1:Nat):Int)) (be8 ((m - 1:Nat):Int))∧x.drop 56=mix t' (be8 ((m+1:Nat):Int)) (be8 ((m - 1:Nat):Int))
theorem I6 (n:Int):(be8 n).length=8:=rfl
theorem Zek (n:Int):(be8 n)[7]?=some (byI n):=rfl
theorem Zdi (m:Nat):byI ((m+1:Nat):Int)≠byI ((m - 1:Nat):Int):=fun h=>by
 have h1:=congrArg (fun x:UInt8=>(x.toNat:Int)) h
 simp only[Ci] at h1
 omega
theorem I8 (m h f:Nat):(Ak m h f).take 8=be8 (m:Int)∧(Ak m h f).drop 56=be8 (m:Int)∧(Ak m h f)[8]?=some (UInt8.ofNat h)∧((Ak m h f).drop 9).take 4=[byI ((f:Int) / 16777216),byI ((f:Int) / 65536),byI ((f:Int) / 256),byI f]:=⟨rfl,rfl,rfl,rfl⟩
theorem OldM.torn {m h f:Nat}{x:Sec}(hx:x.length=64)(ho:OldM m x){T:Nat}(hT:T < 64):OldM m (mix T (Ak (m+1) h f) x):=by
 obtain⟨t,t',h1,h2,h3,h4,h5⟩:=ho
 have hl:(Ak (m+1) h f).length=x.length:=by rw[Dv,hx]
 obtain⟨p1,p2,-,-⟩:=I8 (m+1) h f
 refine⟨max (min T 8) t,max (T - 56) t',by omega,by omega,by omega,?_,?_⟩
 ·rw[Z5m hl,p1,h4,Yx (by rw[I6,I6])]
 ·rw[Z5z hl,p2,h5,Yx (by rw[I6,I6])]
theorem OldM.look {m:Nat}{x:Sec}(ho:OldM m x)(he:x.take 8=x.drop 56):x.take 8=be8 ((m - 1:Nat):Int):=by
 obtain⟨t,t',h1,h2,h3,h4,h5⟩:=ho
 have hl:(be8 ((m+1:Nat):Int)).length=(be8 ((m - 1:Nat):Int)).length:=by rw[I6,I6]
 have e:=congrArg (fun l:Bs=>l[7]?) (he.symm.trans h4)
 have e:(x.drop 56)[7]?=(mix t (be8 ((m+1:Nat):Int)) (be8 ((m - 1:Nat):Int)))[7]?:=e
 rw[h5,Hr hl,Hr hl,Zek,Zek,da (by omega)] at e
 have ht:t≤7:=by
  refine Nat.le_of_not_lt fun h=>?_
  rw[db h] at e
  injection e with e
  exact Zdi m e.symm
 have:t'=0:=by omega
 subst this
 rw[he,h5]
 rfl
theorem OldM.of_mark (m h f:Nat):OldM (m+1) (Ak m h f):=by
 obtain⟨p1,p2,-,-⟩:=I8 m h f
 exact⟨0,0,by omega,by omega,.inl rfl,p1,p2⟩
theorem Oh:OldM 0 sec0∧OldM 1 sec0:=⟨⟨0,0,by omega,by omega,.inl rfl,rfl,rfl⟩,⟨0,0,by omega,by omega,.inl rfl,rfl,rfl⟩⟩
structure Rec (s:List Sec)(m h:Nat)(c:Bs):Prop where
 len:s.length=1100
 sec:∀x∈s,x.length=64
 half:h < 2
 few:c.length≤35136
 zero:m=0→h=0∧c=[]∧s[0]?=some sec0
 mark:0 < m→s[m % 2]?=some (Ak m h c.length)
 old:∃x,s[(m+1) % 2]?=some x∧OldM m x
 cont:Z6j s h c
theorem Vw {d:RD}{n:Nat}{x:Sec}(hd:d.dead=false)(hx:d.now[n]?=some x):Da d n=if x.take 8≠x.drop 56 then⟨0,0,0,false⟩ else⟨D0 (x.take 8),((x[8]?).getD 0).toNat,D0 ((x.drop 9).take 4),decide (((x[8]?).getD 0).toNat < 2)&&decide (D0 ((x.drop 9).take 4)≤35136)⟩:=by
 have hn:=(ac.1 hx).1
 have hm:Kh d n=0:=by unfold Kh;rw[hd,da (by decide),da (by omega)]
 have hr:Mp d n=x:=by unfold Mp;rw[da (fun h=>h hm),ay,hx];rfl
 unfold Da
 dsimp only
 rw[hr]
 by_cases h:x.take 8=x.drop 56
 ·rw[da (by rintro(h1 | h1);exact h1 hm;exact h1 h),da (fun h1=>h1 h)]
 ·rw[db (.inr h),db h]
theorem Z8p (f:Nat)(h:f≤35136):D0 [byI ((f:Int) / 16777216),byI ((f:Int) / 65536),byI ((f:Int) / 256),byI f]=f:=by
 have q1:=Ci ((f:Int) / 16777216)
 have q2:=Ci ((f:Int) / 65536)
 have q3:=Ci ((f:Int) / 256)
 have q4:=Ci (f:Int)
 show(((0 * 256+(byI ((f:Int) / 16777216)).toNat) * 256+(byI ((f:Int) / 65536)).toNat) * 256+(byI ((f:Int) / 256)).toNat) * 256+(byI (f:Int)).toNat=f
 omega
theorem Z4 {d:RD}{n m h f:Nat}(hd:d.dead=false)(hx:d.now[n]?=some (Ak m h f))(hh:h < 2)(hf:f≤35136)(hm:(m:Int)≤big):Da d n=⟨m,h,f,true⟩:=by
 obtain⟨p1,p2,p3,p4⟩:=I8 m h f
 rw[Vw hd hx,p1,p2,p3,p4,da (fun h=>h rfl),Z8p f hf]
 have e1:D0 (be8 (m:Int))=m:=by have:=Ot (m:Int) (by omega) hm;omega
 have e2:((some (UInt8.ofNat h)).getD 0).toNat=h:=by
  show(UInt8.ofNat h).toNat=h
  rw[UInt8.toNat_ofNat'];omega
 rw[e1,e2,decide_eq_true hh,decide_eq_true hf]
 rfl
theorem Tw {d:RD}{n m:Nat}{x:Sec}(hd:d.dead=false)(hx:d.now[n]?=some x)(ho:OldM m x)(hm:(m:Int)≤big):(Da d n).mark=0∨(Da d n).mark < m:=by
 rw[Vw hd hx]
 by_cases h:x.take 8=x.drop 56
 ·rw[da (fun h1=>h1 h),ho.look h]
  have:=Ot ((m - 1:Nat):Int) (by omega) (by omega)
  show D0 (be8 ((m - 1:Nat):Int))=0∨D0 (be8 ((m - 1:Nat):Int)) < m
  omega
 ·rw[db h];exact .inl rfl
theorem Z42 {d:RD}{m h:Nat}{c:Bs}(hd:d.dead=false)(hr:Rec d.now m h c)(hm:(m:Int)≤big):Ko d=⟨m,h,c.length,true⟩:=by
 obtain⟨x,hx,ho⟩:=hr.old
 have lo:=Tw hd hx ho hm
 unfold Ko
 rcases Nat.eq_zero_or_pos m with h0 | h0
 ·subst h0
  obtain⟨z1,z2,z3⟩:=hr.zero rfl
  subst z1 z2
  have l0:=Tw hd z3 Oh.1 (by decide)
  have e1:Fc ⟨0,0,0,true⟩ (Da d 0)=⟨0,0,0,true⟩:=by unfold Fc;rw[da (fun hh=>by have:=hh.2;dsimp only at this;omega)]
  have e2:Fc ⟨0,0,0,true⟩ (Da d 1)=⟨0,0,0,true⟩:=by
   have lo:(Da d 1).mark=0∨(Da d 1).mark < 0:=lo
   unfold Fc;rw[da (fun hh=>by have:=hh.2;dsimp only at this;omega)]
  rw[e1,e2];rfl
 ·have hk:=Z4 hd (hr.mark h0) hr.half hr.few hm
  rcases(by omega:m % 2=0∨m % 2=1) with e | e
  ·rw[e] at hk
   rw[show(m+1) % 2=1 by omega] at lo
   rw[hk]
   have e1:Fc ⟨0,0,0,true⟩ ⟨m,h,c.length,true⟩=⟨m,h,c.length,true⟩:=by unfold Fc;rw[db ⟨rfl,h0⟩]
   rw[e1]
   unfold Fc;rw[da (fun hh=>by have:=hh.2;dsimp only at this;omega)]
  ·rw[e] at hk
   rw[show(m+1) % 2=0 by omega] at lo
   rw[hk]
   have e1:(Fc ⟨0,0,0,true⟩ (Da d 0)).mark < m:=by
    unfold Fc
    split
    ·omega
    ·exact h0
   generalize Fc ⟨0,0,0,true⟩ (Da d 0)=y at e1⊢
   unfold Fc;rw[db ⟨rfl,e1⟩]
theorem Qe:∀(L:List Sec) (i:Nat),(∀x∈L,x.length=64)→L.flatten[i]?=(L[i / 64]?.getD [])[i % 64]?
 | [],i,_=>by simp
 | x::L,i,h=>by
  have hx:=h x (by simp)
  rw[b7,List.getElem?_append]
  by_cases hi:i < 64
  ·rw[db (by omega),show i / 64=0 by omega,show i % 64=i by omega];rfl
  ·rw[da (by omega),hx,Qe L (i - 64) (fun y hy=>h y (by simp[hy])),show i / 64=(i - 64) / 64+1 by omega,show i % 64=(i - 64) % 64 by omega];rfl
theorem Z0z {d:RD}{h:Nat}{c:Bs}(hs:∀x∈d.now,x.length=64)(hf:c.length≤35136)(hc:Z6j d.now h c):(Cr d h).take c.length=c:=by
 refine co fun i=>?_
 rw[bi]
 by_cases hi:i < c.length
 ·rw[db hi,←hc i hi]
  unfold Cr Zc4
  rw[Qe _ _ fun x hx=>hs x (bz (bd hx)),bi,db (by omega),bu]
 ·rw[da hi,b8 (by omega)]
theorem U3:∀(l:List ByteArray),(∀s∈l,s.size≤4096)→Me (Am l)=some l
 | [],_=>U0
 | s::l,h=>by
  have hs:=h s (by simp)
  have hz:s.data.toList.length=s.size:=by rw[cb];rfl
  have e:Am (s::l)=frB s++Am l:=rfl
  have hl:(Am (s::l)).length=s.size+4+(Am l).length:=by rw[e,aw,E2]
  have e4:(Am (s::l)).take 4=[byI ((s.size:Int) / 16777216),byI ((s.size:Int) / 65536),byI ((s.size:Int) / 256),byI s.size]:=rfl
  have ed:(Am (s::l)).drop 4=s.data.toList++Am l:=rfl
  have e5:(Am (s::l)).drop (4+s.size)=Am l:=by
   rw[←List.drop_drop,ed,←hz,List.drop_left]
  have e6:((Am (s::l)).drop 4).take s.size=s.data.toList:=by rw[ed,←hz,List.take_left]
  have hne:Am (s::l)≠[]:=fun h=>by rw[h] at hl;simp at hl;omega
  rw[Pw hne,da (by omega),e4,Z8p s.size (by omega),da (by omega),e5,e6,U3 l fun x hx=>h x (by simp[hx])]
  rfl
theorem Wb {d:RD}{m h:Nat}{all:List ByteArray}(hd:d.dead=false)(hr:Rec d.now m h (Am all))(hm:(m:Int)≤big)(ha:∀s∈all,s.size≤4096):Yw d=some ⟨m,h,(Am all).length,Am all,all,false,d⟩:=by
 have hk:=Z42 hd hr hm
 unfold Yw
 rw[hk]
 dsimp only
 rw[Z0z hr.sec hr.few hr.cont,U3 all ha]
def Z1z (m h:Nat)(c:Bs)(w:Nat × Sec):Prop:=w.2.length=64∧∀s,Rec s m h c→∀T,Rec (s.set w.1 (mix T w.2 (s[w.1]?.getD []))) m h c
theorem Z0m {s:List Sec}{i:Nat}{x:Sec}(hs:∀y∈s,y.length=64)(hx:x.length=64){T:Nat}(hT:64≤T):s.set i (mix T x (s[i]?.getD []))=s.set i x:=by
 by_cases hi:i < s.length
 ·rw[ab hi]
  show s.set i (mix T x s[i])=_
  rw[Z9r (by rw[hx,hs _ (bl hi)]) (by omega)]
 ·rw[List.set_eq_of_length_le (by omega),List.set_eq_of_length_le (by omega)]
theorem Ld {m h:Nat}{c:Bs}:∀(ws:List (Nat × Sec)) (s:List Sec),(∀w∈ws,Z1z m h c w)→Rec s m h c→Rec (Ge s ws) m h c
 | [],_,_,hr=>hr
 | w::ws,s,hw,hr=>by
  have h1:=hw w (by simp)
  have h2:=h1.2 s hr 64
  rw[Z0m hr.sec h1.1 (af _)] at h2
  exact Ld ws _ (fun x hx=>hw x (by simp[hx])) h2
structure Safe (m h:Nat)(c:Bs)(d:RD):Prop where
 rc:Rec d.firm m h c
 now:d.now=Ge d.firm d.wait
 wait:∀w∈d.wait,Z1z m h c w
theorem Safe.crash {m h:Nat}{c:Bs}{d:RD}(hs:Safe m h c d)(k t:Int):Rec (Be d k t) m h c:=by
 have h1:=Ld (d.wait.take (Hz d k)) d.firm (fun w hw=>hs.wait w (bd hw)) hs.rc
 unfold Be
 dsimp only
 split
 ·next w hw=>exact(hs.wait w (ae hw)).2 _ h1 _
 ·exact h1
theorem Dm (d:RD):(Bh d).now=d.now∧(Bh d).firm=d.firm∧(Bh d).wait=d.wait:=by unfold Bh;split<;>exact⟨rfl,rfl,rfl⟩
theorem Z0p (f:List Sec)(ws:List (Nat × Sec))(w:Nat × Sec):Ge f (ws++[w])=(Ge f ws).set w.1 w.2:=by unfold Ge;rw[List.foldl_append];rfl
theorem Safe.write {m h:Nat}{c:Bs}{d:RD}(hs:Safe m h c d){n:Int}{b:Sec}(hk:Z1z m h c (n.toNat,E8 b)):Safe m h c (Ae d n b):=by
 unfold Ae
 split
 ·exact hs
 ·split
  ·exact hs
  ·obtain⟨e1,e2,e3⟩:=Dm (Z6z d n.toNat (E8 b))
   refine⟨by rw[e2];exact hs.rc,?_,fun w hw=>?_⟩
   ·rw[e1,e2,e3]
    show d.now.set _ _=Ge d.firm (d.wait++[_])
    rw[Z0p,hs.now]
   ·rw[e3] at hw
    rcases br.1 hw with hw | hw
    ·exact hs.wait w hw
    ·rw[bm.1 hw];exact hk
theorem Safe.sync {m h:Nat}{c:Bs}{d:RD}(hs:Safe m h c d):Safe m h c (Ab d):=by
 obtain⟨e1,e2,e3⟩:=Dm d
 unfold Ab
 split
 ·exact hs
 ·split
  ·exact⟨by rw[e2];exact hs.rc,by rw[e1,e2,e3];exact hs.now,fun w hw=>hs.wait w (by rwa [e3] at hw)⟩
  ·refine⟨Ld _ _ hs.wait hs.rc,?_,fun w hw=>by cases hw⟩
   show(Bh d).now=Ge (Ge d.firm d.wait) []
   rw[e1,hs.now];rfl
theorem Safe.runW {m h:Nat}{c:Bs}{f:Nat}{b:Bs}:∀(ns:List Nat) {d:RD},Safe m h c d→(∀n∈ns,Z1z m h c (f+n,E8 (chB b n)))→Safe m h c (runW f b ns d).1
 | [],_,hs,_=>hs
 | n::ns,d,hs,hk=>by
  have h1:Safe m h c (Ae d ((f+n:Nat):Int) (chB b n)):=hs.write (by rw[ay];exact hk n (by simp))
  rw[Ff]
  split
  ·exact Safe.runW ns h1 fun x hx=>hk x (by simp[hx])
  ·exact h1
theorem Xq {m h:Nat}{c:Bs}{h' n:Nat}{x:Sec}(hh':h' < 2)(hn:n < 549)(hx:x.length=64)(hag:h'=h→∀i,i < c.length→i / 64=n→x[i % 64]?=c[i]?):Z1z m h c (Cq h'+n,x):=by
 refine⟨hx,fun s hr T=>?_⟩
 have hlt:Cq h'+n < s.length:=by rw[hr.len];unfold Cq;omega
 have h2:2≤Cq h'+n:=by unfold Cq;omega
 show Rec (s.set (Cq h'+n) (mix T x (s[Cq h'+n]?.getD []))) m h c
 have ho:(s[Cq h'+n]?.getD []).length=64:=by
  rw[ab hlt];exact hr.sec _ (bl hlt)
 refine⟨by rw[bf];exact hr.len,fun y hy=>?_,hr.half,hr.few,fun h0=>?_,fun h0=>?_,?_,fun i hi=>?_⟩
 ·rcases cn hy with hy | rfl
  ·exact hr.sec y hy
  ·rw[Su (by rw[hx,ho])];exact hx
 ·obtain⟨a,b,e⟩:=hr.zero h0
  exact⟨a,b,by rw[cd (by omega)];exact e⟩
 ·rw[cd (by omega)];exact hr.mark h0
 ·obtain⟨y,hy,hoy⟩:=hr.old
  exact⟨y,by rw[cd (by omega)];exact hy,hoy⟩
 ·have hc:=hr.cont i hi
  unfold Zc4 at hc⊢
  by_cases e:Cq h'+n=Cq h+i / 64
  ·have hhf:=hr.half
   have hfew:=hr.few
   have e2:h'=h∧i / 64=n:=by unfold Cq at e;omega
   rw[←e] at hc⊢
   rw[cz hlt]
   show(mix T x _)[i % 64]?=_
   rw[Hr (by rw[hx,ho])]
   split
   ·exact hag e2.1 i hi e2.2
   ·exact hc
  ·rw[cd e];exact hc
theorem Z8c {b:Bs}{n k:Nat}(hk:k < 64)(h:n * 64+k < b.length):(E8 (chB b n))[k]?=b[n * 64+k]?:=by
 unfold E8 chB
 rw[bk (by simp;omega),bi,db hk,bi,db hk,bu]
theorem Qd {d:RD}{n:Int}{b:Sec}(h:Bv d n b=0):(Ae d n b).now=d.now.set n.toNat (E8 b):=by
 unfold Bv at h
 unfold Ae
 by_cases h1:Kh d n=0
 ·rw[da (fun h=>h h1)] at h⊢
  by_cases h2:b.length > 64
  ·rw[db h2] at h;cases h
  ·rw[da h2]
   exact(Dm _).1
 ·rw[db h1] at h;exact dc h h1
theorem W9 (f:Nat)(b:Bs):∀(ns:List Nat) (d:RD),(runW f b ns d).2=true→(∀n∈ns,f+n < d.now.length)→∀i,(runW f b ns d).1.now[i]?=if f≤i∧i - f∈ns then some (E8 (chB b (i - f))) else d.now[i]?
 | [],d,_,_,i=>by rw[da (fun h=>by cases h.2)];rfl
 | n::ns,d,hr,hl,i=>by
  rw[Ff] at hr⊢
  by_cases hw:Bv d ((f+n:Nat):Int) (chB b n)=0
  ·rw[db hw] at hr⊢
   have e:=Qd hw
   rw[ay] at e
   rw[W9 f b ns _ hr (fun x hx=>by rw[e,bf];exact hl x (by simp[hx])) i,e]
   by_cases h1:f≤i∧i - f∈ns
   ·rw[db h1,db ⟨h1.1,by simp[h1.2]⟩]
   ·rw[da h1]
    by_cases h2:i=f+n
    ·subst h2
     rw[cz (hl n (by simp)),db ⟨by omega,by simp⟩,show f+n - f=n by omega]
    ·rw[cd (fun h=>h2 h.symm),da]
     rintro⟨h3,h4⟩
     rcases bh.1 h4 with h4 | h4
     ·omega
     ·exact h1 ⟨h3,h4⟩
  ·rw[da hw] at hr;cases hr
theorem Qq {h:Nat}{b:Bs}{frm:Nat}{d:RD}(hh:h < 2)(hb:b.length≤35136)(hlen:d.now.length=1100)(hr:(runW (Cq h) b (nsW b frm) d).2=true)(hc:Z6j d.now h (b.take frm)):Z6j (runW (Cq h) b (nsW b frm) d).1.now h b:=by
 intro i hi
 unfold Zc4
 rw[W9 _ _ _ _ hr (fun n hn=>by have:=Z2p hb hn;rw[hlen];unfold Cq;omega)]
 by_cases h1:i / 64∈nsW b frm
 ·rw[db ⟨by omega,by rw[show Cq h+i / 64 - Cq h=i / 64 by omega];exact h1⟩,show Cq h+i / 64 - Cq h=i / 64 by omega]
  show(E8 (chB b (i / 64)))[i % 64]?=_
  rw[Z8c (by omega) (by omega),show i / 64 * 64+i % 64=i by omega]
 ·rw[da (fun hh=>h1 (by have:=hh.2;rwa [show Cq h+i / 64 - Cq h=i / 64 by omega] at this))]
  unfold nsW at h1
  rw[List.mem_range'_1] at h1
  have hif:i < frm:=by omega
  have:=hc i (by rw[au];omega)
  rw[bi,db hif] at this
  exact this
theorem Z41 {s:List Sec}{m h:Nat}{c:Bs}(hr:Rec s m h c)(h' f:Nat){T:Nat}(hT:T < 64):Rec (s.set ((m+1) % 2) (mix T (Ak (m+1) h' f) (s[(m+1) % 2]?.getD []))) m h c:=by
 obtain⟨x,hx,ho⟩:=hr.old
 have hxl:=hr.sec x (ae hx)
 have hlt:=(ac.1 hx).1
 rw[hx]
 show Rec (s.set ((m+1) % 2) (mix T (Ak (m+1) h' f) x)) m h c
 have hml:(mix T (Ak (m+1) h' f) x).length=64:=by rw[Su (by rw[Dv,hxl]),Dv]
 refine⟨by rw[bf];exact hr.len,fun y hy=>?_,hr.half,hr.few,fun h0=>?_,fun h0=>?_,⟨_,cz hlt,ho.torn hxl hT⟩,fun i hi=>?_⟩
 ·rcases cn hy with hy | rfl
  ·exact hr.sec y hy
  ·exact hml
 ·obtain⟨a,b,e⟩:=hr.zero h0
  exact⟨a,b,by rw[cd (by omega)];exact e⟩
 ·rw[cd (by omega)];exact hr.mark h0
 ·have:=hr.cont i hi
  unfold Zc4 at this⊢
  rw[cd (by unfold Cq;omega)]
  exact this
theorem Nn {s:List Sec}{m h:Nat}{c:Bs}(hr:Rec s m h c){h':Nat}{c':Bs}(hh:h' < 2)(hf:c'.length≤35136)(hc:Z6j s h' c'):Rec (s.set ((m+1) % 2) (Ak (m+1) h' c'.length)) (m+1) h' c':=by
 have hlt:(m+1) % 2 < s.length:=by rw[hr.len];omega
 refine⟨by rw[bf];exact hr.len,fun y hy=>?_,hh,hf,fun h0=>by omega,fun _=>cz hlt,?_,fun i hi=>?_⟩
 ·rcases cn hy with hy | rfl
  ·exact hr.sec y hy
  ·exact Dv _ _ _
 ·rw[show(m+1+1) % 2=m % 2 by omega]
  rcases Nat.eq_zero_or_pos m with h0 | h0
  ·subst h0
   exact⟨sec0,by rw[cd (by omega)];exact(hr.zero rfl).2.2,Oh.2⟩
  ·exact⟨_,by rw[cd (by omega)];exact hr.mark h0,OldM.of_mark _ _ _⟩
 ·have:=hc i hi
  unfold Zc4 at this⊢
  rw[cd (by unfold Cq;omega)]
  exact this
theorem Wp {x:Sec}(h:x.length=64):E8 x=x:=by
 unfold E8
 rw[ao (by omega),h]
 simp
theorem Tz {l:LD}{m h:Nat}{c:Bs}(hs:Safe m h c l.d){h':Nat}{c':Bs}(hh:h' < 2)(hf:c'.length≤35136)(hc:Z6j l.d.now h' c')(hm:l.mark=m) :
  (∀k t,Rec (Be (Ai l h' c'.length).d k t) m h c∨Rec (Be (Ai l h' c'.length).d k t) (m+1) h' c')∧((Ai l h' c'.length).dead=false→Rec (Ai l h' c'.length).d.now (m+1) h' c'∧(Ai l h' c'.length).d.firm=(Ai l h' c'.length).d.now):=by
 subst hm
 unfold Ai
 by_cases h1:Dj l.d≠0
 ·rw[db h1]
  exact⟨fun k t=>.inl (hs.sync.crash k t),fun h=>by cases h⟩
 ·rw[da h1]
  have h1:Dj l.d=0:=Decidable.not_not.1 h1
  have hw0:=(Ky h1).2.1
  have hs1:=hs.sync
  have en:(Ab l.d).now=l.d.now:=by
   unfold Ab
   split
   ·rfl
   ·split<;>exact(Dm l.d).1
  have ef:(Ab l.d).firm=(Ab l.d).now:=by have:=hs1.now;rw[hw0] at this;exact this.symm
  have hr:=hs1.rc
  have hc1:Z6j (Ab l.d).firm h' c':=by rw[ef,en];exact hc
  have hk:E8 (Ak (l.mark+1) h' c'.length)=Ak (l.mark+1) h' c'.length:=Wp (Dv _ _ _)
  have old:∀(d:RD),d.firm=(Ab l.d).firm→(d.wait=[]∨d.wait=[((l.mark+1) % 2,Ak (l.mark+1) h' c'.length)])→∀k t,Rec (Be d k t) l.mark h c∨Rec (Be d k t) (l.mark+1) h' c':=fun d e1 e2 k t=>by
   unfold Be
   dsimp only
   rw[e1]
   rcases e2 with e2 | e2
   ·rw[e2]
    simp only[List.take_nil,List.getElem?_nil]
    exact .inl hr
   ·have hkd:Hz d k=0∨Hz d k=1:=by unfold Hz;rw[e2];show(min (max k 0) 1).toNat=0∨(min (max k 0) 1).toNat=1;omega
    rw[e2]
    rcases hkd with e3 | e3
    ·rw[e3]
     show Rec ((Ab l.d).firm.set _ (Km _ _ t)) _ _ _∨Rec ((Ab l.d).firm.set _ (Km _ _ t)) _ _ _
     unfold Km
     by_cases hT:(min (max t 0) 64).toNat < 64
     ·exact .inl (Z41 hr h' _ hT)
     ·refine .inr ?_
      have:=Z0m (i:=(l.mark+1) % 2) hr.sec (Dv (l.mark+1) h' c'.length) (T:=(min (max t 0) 64).toNat) (by omega)
      have:=this ▸ Nn hr hh hf hc1
      exact this
    ·rw[e3]
     exact .inr (Nn hr hh hf hc1)
  have hwr:(Ae (Ab l.d) (((l.mark+1) % 2:Nat):Int) (Ak (l.mark+1) h' c'.length)).firm=(Ab l.d).firm∧((Ae (Ab l.d) (((l.mark+1) % 2:Nat):Int) (Ak (l.mark+1) h' c'.length)).wait=[]∨(Ae (Ab l.d) (((l.mark+1) % 2:Nat):Int) (Ak (l.mark+1) h' c'.length)).wait=[((l.mark+1) % 2,Ak (l.mark+1) h' c'.length)]):=by
   unfold Ae
   split
   ·exact⟨rfl,.inl hw0⟩
   ·split
    ·exact⟨rfl,.inl hw0⟩
    ·obtain⟨a1,a2,a3⟩:=Dm (Z6z (Ab l.d) ((((l.mark+1) % 2:Nat):Int)).toNat (E8 (Ak (l.mark+1) h' c'.length)))
     refine⟨a2,.inr ?_⟩
     rw[a3]
     show(Ab l.d).wait++[_]=_
     rw[hw0,hk,ay];rfl
  by_cases h2:Bv (Ab l.d) (((l.mark+1) % 2:Nat):Int) (Ak (l.mark+1) h' c'.length)≠0
  ·rw[db h2]
   exact⟨old _ hwr.1 hwr.2,fun h=>by cases h⟩
  ·rw[da h2]
   have h2:=Decidable.not_not.1 h2
   have hwn:=Qd h2
   rw[hk,ay] at hwn
   generalize hd2:Ae (Ab l.d) (((l.mark+1) % 2:Nat):Int) (Ak (l.mark+1) h' c'.length)=d2 at hwr hwn⊢
   have hnx:Rec d2.now (l.mark+1) h' c':=by
    rw[hwn,←ef]
    exact Nn hr hh hf hc1
   have ed2:=Dm d2
   have hly:Ge d2.firm d2.wait=d2.now:=by
    rcases hwr.2 with e | e
    ·exfalso
     have:d2.wait.length=1:=by
      rw[←hd2]
      unfold Ae
      unfold Bv at h2
      by_cases q1:Kh (Ab l.d) (((l.mark+1) % 2:Nat):Int)=0
      ·rw[da (fun h=>h q1)] at h2⊢
       rw[da (by rw[Dv];omega),(Dm _).2.2]
       show((Ab l.d).wait++[_]).length=1
       rw[hw0];rfl
      ·rw[db q1] at h2;exact dc h2 q1
     rw[e] at this;cases this
    ·rw[e,hwr.1,hwn,ef];rfl
   have hfl:Dj d2=0→(Ab d2).firm=d2.now∧(Ab d2).wait=[]∧(Ab d2).now=d2.now:=fun h3=>by
    have q:=Ky h3
    unfold Dj at h3
    have h4:¬(d2.dead=true∨F9 d2=true):=fun h=>by rw[db h] at h3;cases h3
    unfold Ab
    rw[da (fun h=>h4 (.inl h)),da (fun h=>h4 (.inr h))]
    exact⟨hly,rfl,ed2.1⟩
   by_cases h3:Dj d2≠0
   ·rw[db h3]
    refine⟨?_,fun h=>by cases h⟩
    have e5:(Ab d2).firm=d2.firm∧(Ab d2).wait=d2.wait:=by
     unfold Dj at h3
     have h4:d2.dead=true∨F9 d2=true:=by
      by_cases h4:d2.dead=true∨F9 d2=true
      ·exact h4
      ·rw[da h4] at h3;exact dc rfl h3
     unfold Ab
     split
     ·exact⟨rfl,rfl⟩
     ·next h5 =>
      rw[db (by rcases h4 with h4 | h4;exact dc h4 h5;exact h4)]
      exact ed2.2
    exact old _ (e5.1.trans hwr.1) (by show(Ab d2).wait=[]∨(Ab d2).wait=_;rw[e5.2];exact hwr.2)
   ·rw[da h3]
    obtain⟨f1,f2,f3⟩:=hfl (Decidable.not_not.1 h3)
    refine⟨fun k t=>.inr ?_,fun _=>⟨?_,?_⟩⟩
    ·show Rec (Be (Ab d2) k t) _ _ _
     unfold Be
     dsimp only
     rw[f2,f1]
     simp only[List.take_nil,List.getElem?_nil]
     exact hnx
    ·show Rec (Ab d2).now _ _ _
     rw[f3];exact hnx
    ·show(Ab d2).firm=(Ab d2).now
     rw[f1,f3]
structure RLd (l:LD):Prop where
 rc:Rec l.d.now l.mark l.half l.b
 firm:l.d.firm=l.d.now
 f:l.firm=l.b.length
 sz:∀s∈l.all,s.size≤4096
theorem RLd.safe {k:Nat}{l:LD}(h:RLd l)(hw:WSt k l):Safe l.mark l.half l.b l.d :=
 ⟨by rw[h.firm];exact h.rc,by rw[hw.wait];exact h.firm.symm,by rw[hw.wait];nofun⟩
theorem Z1j {l:LD}{m h:Nat}{c:Bs}(hs:Safe m h c l.d){h':Nat}(hh:h' < 2){b:Bs}{frm:Nat}(hb:b.length≤35136)(hag:h'=h→∀i,i < c.length→b[i]?=c[i]?)(hc:h'=h→c.length≤b.length):Safe m h c (wrL l h' b frm).d:=by
 unfold wrL
 refine Safe.runW _ hs fun n hn=>Xq hh (Z2p hb hn) (Ch _) fun e i hi hin=>?_
 have:=hc e
 rw[Z8c (by omega) (by omega),show n * 64+i % 64=i by omega]
 exact hag e i hi
theorem Zcw {k:Nat}{l:LD}(hw:WSt k l)(h:RLd l)(s:ByteArray)(h0:Gc l s=0) :
  (∀kp t,Rec (Be (K2 (Bk l s)).d kp t) l.mark l.half l.b∨Rec (Be (K2 (Bk l s)).d kp t) (l.mark+1) l.half (l.b++frB s))∧s.size≤4096∧(P0 (Bk l s)=0→RLd (K2 (Bk l s))):=by
 unfold Gc at h0
 rw[da (by rw[hw.dead];decide)] at h0
 have hs1:¬s.size > 4096:=fun hh=>by rw[db hh] at h0;cases h0
 rw[da hs1] at h0
 have hs2:¬(s.size:Int) > Gf l:=fun hh=>by rw[db hh] at h0;cases h0
 rw[da hs2] at h0
 have hwe:wrE l l.half (l.b++frB s) l.b.length=true:=by
  cases hwe:wrE l l.half (l.b++frB s) l.b.length with
  | true=>rfl
  | false=>rw[hwe] at h0;cases h0
 have hA:Bk l s={wrL l l.half (l.b++frB s) l.b.length with b:=l.b++frB s,all:=l.all++[s]}:=by
  unfold Bk
  rw[da (by rw[hw.dead];decide),da hs1,da hs2,db hwe]
 have hroom:(l.b++frB s).length≤35136:=by rw[aw,E2];have:=hw.len;unfold Gf at hs2;omega
 obtain⟨hd1,hd2⟩:=M8 hw.dd hwe
 have hS:=Z1j (frm:=l.b.length) (h.safe hw) hw.half hroom (fun _ i hi=>by rw[bk hi]) (fun _=>by rw[aw];omega)
 have hC:Z6j (wrL l l.half (l.b++frB s) l.b.length).d.now l.half (l.b++frB s):=Qq hw.half hroom hw.many hwe (by rw[List.take_left];exact h.rc.cont)
 generalize hx:({wrL l l.half (l.b++frB s) l.b.length with b:=l.b++frB s,all:=l.all++[s]}:LD)=x at hA
 have x1:x.dead=false:=by rw[←hx];exact hd1
 have x2:x.d=(wrL l l.half (l.b++frB s) l.b.length).d:=by rw[←hx]
 have x3:x.mark=l.mark:=by rw[←hx];rfl
 have x4:x.half=l.half:=by rw[←hx];rfl
 have x5:x.b=l.b++frB s:=by rw[←hx]
 have x6:x.all=l.all++[s]:=by rw[←hx]
 rw[hA]
 have hSy:K2 x=Ai x x.half x.b.length:=by unfold K2;rw[da (by rw[x1];decide)]
 rw[←x2] at hS hC
 obtain⟨q1,q2⟩:=Tz hS hw.half hroom hC x3
 rw[hSy,x4,x5]
 refine⟨q1,by omega,fun hE=>?_⟩
 have hdd:(Ai x l.half (l.b++frB s).length).dead=false:=by
  unfold P0 at hE
  rw[da (by rw[x1];decide)] at hE
  unfold Dp at hE
  rw[x4,x5] at hE
  cases hz:(Ai x l.half (l.b++frB s).length).dead with
  | false=>rfl
  | true=>rw[hz] at hE;cases hE
 obtain⟨r1,r2⟩:=q2 hdd
 obtain⟨s1,s2,s3⟩:=Kx hdd
 have e1:(Ai x l.half (l.b++frB s).length).mark=l.mark+1:=by rw[s3];show x.mark+1=_;rw[x3]
 have e2:(Ai x l.half (l.b++frB s).length).half=l.half:=by rw[s3]
 have e3:(Ai x l.half (l.b++frB s).length).b=l.b++frB s:=by rw[s3];exact x5
 have e4:(Ai x l.half (l.b++frB s).length).all=l.all++[s]:=by rw[s3];exact x6
 have e5:(Ai x l.half (l.b++frB s).length).firm=(l.b++frB s).length:=by rw[s3]
 refine⟨by rw[e1,e2,e3];exact r1,r2,by rw[e5,e3],fun y hy=>?_⟩
 rw[e4] at hy
 rcases br.1 hy with hy | hy
 ·exact h.sz y hy
 ·rw[bm.1 hy];omega
theorem Oy {all:List ByteArray}(h:N0 all=0):(Am all).length≤35136∧∀s∈all,s.size≤4096:=by
 unfold N0 at h
 split at h
 ·cases h
 ·next h1 =>
  split at h
  ·cases h
  ·refine⟨by omega,fun s hs=>?_⟩
   rw[List.any_eq_true] at h1
   refine Nat.le_of_not_lt fun hlt=>h1 ⟨s,hs,?_⟩
   exact decide_eq_true hlt
theorem Z8e {k:Nat}{l:LD}(hw:WSt k l)(h:RLd l)(all:List ByteArray)(hf:N0 all=0) :
  (∀kp t,Rec (Be (Fq l all).d kp t) l.mark l.half l.b∨Rec (Be (Fq l all).d kp t) (l.mark+1) (1 - l.half) (Am all))∧(Jv l all=0→RLd (Fq l all)):=by
 obtain⟨hbl,hsz⟩:=Oy hf
 have hh:=hw.half
 have hS:=Z1j (frm:=0) (h.safe hw) (h':=1 - l.half) (by omega) hbl (fun e=>by omega) (fun e=>by omega)
 have hL:Fq l all=if wrE l (1 - l.half) (Am all) 0=true then
   (if(Ai (wrL l (1 - l.half) (Am all) 0) (1 - l.half) (Am all).length).dead=true then Ai (wrL l (1 - l.half) (Am all) 0) (1 - l.half) (Am all).length
    else {Ai (wrL l (1 - l.half) (Am all) 0) (1 - l.half) (Am all).length with b:=Am all,all:=all})
  else wrL l (1 - l.half) (Am all) 0:=by
  unfold Fq
  rw[da (by rw[hw.dead];decide),da (fun h=>h hf)]
 have hR:Jv l all=if wrE l (1 - l.half) (Am all) 0=true then Dp (wrL l (1 - l.half) (Am all) 0) (1 - l.half) (Am all).length else 40:=by
  unfold Jv
  rw[da (by rw[hw.dead];decide),da (fun h=>h hf)]
 rw[hL,hR]
 cases hwe:wrE l (1 - l.half) (Am all) 0 with
 | false =>
  rw[da (by decide),da (by decide)]
  exact⟨fun kp t=>.inl (hS.crash kp t),fun h=>by cases h⟩
 | true =>
  rw[db rfl,db rfl]
  obtain⟨hd1,hd2⟩:=M8 hw.dd hwe
  have hC:Z6j (wrL l (1 - l.half) (Am all) 0).d.now (1 - l.half) (Am all):=Qq (by omega) hbl hw.many hwe (fun i hi=>by simp at hi)
  obtain⟨q1,q2⟩:=Tz hS (h':=1 - l.half) (by omega) hbl hC (show(wrL l (1 - l.half) (Am all) 0).mark=l.mark from rfl)
  have hdeq:∀x:LD,(if x.dead=true then x else {x with b:=Am all,all:=all}).d=x.d:=fun x=>by split<;>rfl
  refine⟨fun kp t=>by rw[hdeq];exact q1 kp t,fun hE=>?_⟩
  have hdd:(Ai (wrL l (1 - l.half) (Am all) 0) (1 - l.half) (Am all).length).dead=false:=by
   unfold Dp at hE
   cases hz:(Ai (wrL l (1 - l.half) (Am all) 0) (1 - l.half) (Am all).length).dead with
   | false=>rfl
   | true=>rw[hz] at hE;cases hE
  obtain⟨r1,r2⟩:=q2 hdd
  obtain⟨s1,s2,s3⟩:=Kx hdd
  rw[da (by rw[hdd];decide)]
  have e1:(Ai (wrL l (1 - l.half) (Am all) 0) (1 - l.half) (Am all).length).mark=l.mark+1:=by rw[s3];rfl
  have e2:(Ai (wrL l (1 - l.half) (Am all) 0) (1 - l.half) (Am all).length).half=1 - l.half:=by rw[s3]
  have e5:(Ai (wrL l (1 - l.half) (Am all) 0) (1 - l.half) (Am all).length).firm=(Am all).length:=by rw[s3]
  exact⟨by show Rec (Ai _ _ _).d.now (Ai _ _ _).mark (Ai _ _ _).half (Am all);rw[e1,e2];exact r1,r2,e5,hsz⟩
theorem Z34 {d:RD}{kp t:Int}{m h:Nat}{all:List ByteArray}(hr:Rec (Be d kp t) m h (Am all))(hm:(m:Int)≤big)(ha:∀s∈all,s.size≤4096):Yw (Eh d kp t)=some ⟨m,h,(Am all).length,Am all,all,false,Eh d kp t⟩ :=
 Wb rfl hr hm ha
theorem Z43 {d:RD}(hd:WD d){kp t:Int}{m h:Nat}{all:List ByteArray}(hr:Rec (Be d kp t) m h (Am all))(ha:∀s∈all,s.size≤4096):WSt m ⟨m,h,(Am all).length,Am all,all,false,Eh d kp t⟩∧RLd ⟨m,h,(Am all).length,Am all,all,false,Eh d kp t⟩ :=
 ⟨⟨Fo hd kp t,hr.len,by show(0:Int)≤_;decide,rfl,hr.half,rfl,hr.few,af _,rfl,rfl⟩,⟨hr,rfl,rfl,ha⟩⟩
theorem Xd {k:Nat}{l:LD}(hw:WSt k l)(h:RLd l)(kp t:Int):Rec (Be l.d kp t) l.mark l.half l.b:=(h.safe hw).crash kp t
theorem Z3c:Rec (Y5 1100).now 0 0 (Am []):=by
 have hm:Z1s 1100=1100:=by decide
 have hn:(Y5 1100).now=List.replicate 1100 sec0:=by unfold Y5;rw[hm]
 have at1:∀i,i < 1100→(List.replicate 1100 sec0)[i]?=some sec0:=fun i hi=>by rw[List.getElem?_replicate,db hi]
 rw[hn]
 refine⟨List.length_replicate ..,fun x hx=>?_,by omega,ah _,fun _=>⟨rfl,rfl,at1 0 (by omega)⟩,fun h=>by omega,⟨sec0,at1 _ (by omega),Oh.1⟩,fun i hi=>by cases hi⟩
 rw[(List.mem_replicate.1 hx).2]
 exact List.length_replicate ..
end Go.Proofs.YtihfaocdpmmooaaGreat


import Derived.Test.YtihfaocdpmmooaaGreatNM1
import Derived.Test.YtihfaocdpmmooaaGreatPKM
namespace Go.Proofs.YtihfaocdpmmooaaGreat
def Zac (s:List Sec)(f i:Nat):Option UInt8:=(s[f+i / 64]?.getD [])[i % 64]?
def Z4r (s:List Sec)(h:Nat)(c:Bs):Prop:=∀i,i < c.length→Zac s (Ce h) i=c[i]?
def mix (t:Nat)(a b:Bs):Bs:=a.take t++b.drop t
theorem Hf {a b:Bs}(h:a.length=b.length)(t j:Nat):(mix t a b)[j]?=if j < t then a[j]? else b[j]?:=by
 unfold mix
 rw[List.getElem?_append,List.length_take,List.getElem?_take,List.getElem?_drop]
 by_cases hj:j < t
 ·rw[if_pos hj]
  split
  ·rfl
  ·next h1 =>
   rw[List.getElem?_eq_none (by omega),List.getElem?_eq_none (by omega)]
 ·rw[if_neg (by omega),if_neg hj]
  by_cases ht:t≤a.length
  ·rw[show t+(j - min t a.length)=j by omega]
  ·rw[List.getElem?_eq_none (by omega),List.getElem?_eq_none (by omega)]
theorem Sx {a b:Bs}(h:a.length=b.length)(t:Nat):(mix t a b).length=a.length:=by unfold mix;simp;omega
theorem Z0t {a b:Bs}(h:a.length=b.length)(t u:Nat):mix t a (mix u a b)=mix (max t u) a b:=by
 refine List.ext_getElem? fun j=>?_
 rw[Hf (by rw[Sx h]),Hf h,Hf h]
 by_cases h1:j < t
 ·rw[if_pos h1,if_pos (by omega)]
 ·rw[if_neg h1]
  by_cases h2:j < u
  ·rw[if_pos h2,if_pos (by omega)]
  ·rw[if_neg h2,if_neg (by omega)]
theorem Z4l {a b:Bs}(h:a.length=b.length)(t k:Nat):(mix t a b).take k=mix (min t k) (a.take k) (b.take k):=by
 refine List.ext_getElem? fun j=>?_
 rw[List.getElem?_take,Hf h,Hf (by simp[h]),List.getElem?_take,List.getElem?_take]
 by_cases h1:j < k
 ·rw[if_pos h1,if_pos h1,if_pos h1]
  by_cases h2:j < t
  ·rw[if_pos h2,if_pos (by omega)]
  ·rw[if_neg h2,if_neg (by omega)]
 ·rw[if_neg h1,if_neg h1,if_neg h1];split<;>rfl
theorem Z3w {a b:Bs}(h:a.length=b.length)(t k:Nat):(mix t a b).drop k=mix (t - k) (a.drop k) (b.drop k):=by
 refine List.ext_getElem? fun j=>?_
 rw[List.getElem?_drop,Hf h,Hf (by simp[h]),List.getElem?_drop,List.getElem?_drop]
 by_cases h2:k+j < t
 ·rw[if_pos h2,if_pos (by omega)]
 ·rw[if_neg h2,if_neg (by omega)]
theorem Z88 {a b:Bs}(h:a.length=b.length){t:Nat}(ht:a.length≤t):mix t a b=a:=by
 unfold mix
 rw[List.take_of_length_le ht,List.drop_eq_nil_of_le (by omega),List.append_nil]
def OldM (m:Nat)(x:Sec):Prop:=∃t t',t≤8∧t' < 8∧(t'=0∨t=8)∧x.take 8=mix t (be8 ((m+1:Nat):Int)) (be8 ((m - 1:Nat):Int))∧x.drop 56=mix t' (be8 ((m+1:Nat):Int)) (be8 ((m - 1:Nat):Int))
theorem Ht (n:Int):(be8 n).length=8:=rfl
theorem Zao (n:Int):(be8 n)[7]?=some (byI n):=rfl
theorem Zbs (m:Nat):byI ((m+1:Nat):Int)≠byI ((m - 1:Nat):Int):=fun h=>by
 have h1:=congrArg (fun x:UInt8=>(x.toNat:Int)) h
 simp only[C9] at h1
 omega
theorem Hq (m h f:Nat):(Ak m h f).take 8=be8 (m:Int)∧(Ak m h f).drop 56=be8 (m:Int)∧(Ak m h f)[8]?=some (UInt8.ofNat h)∧((Ak m h f).drop 9).take 4=[byI ((f:Int) / 16777216),byI ((f:Int) / 65536),byI ((f:Int) / 256),byI f]:=⟨rfl,rfl,rfl,rfl⟩
theorem OldM.torn {m h f:Nat}{x:Sec}(hx:x.length=64)(ho:OldM m x){T:Nat}(hT:T < 64):OldM m (mix T (Ak (m+1) h f) x):=by
 obtain⟨t,t',h1,h2,h3,h4,h5⟩:=ho
 have hl:(Ak (m+1) h f).length=x.length:=by rw[Dn,hx]
 obtain⟨p1,p2,-,-⟩:=Hq (m+1) h f
 refine⟨max (min T 8) t,max (T - 56) t',by omega,by omega,by omega,?_,?_⟩
 ·rw[Z4l hl,p1,h4,Z0t (by rw[Ht,Ht])]
 ·rw[Z3w hl,p2,h5,Z0t (by rw[Ht,Ht])]
theorem OldM.look {m:Nat}{x:Sec}(ho:OldM m x)(he:x.take 8=x.drop 56):x.take 8=be8 ((m - 1:Nat):Int):=by
 obtain⟨t,t',h1,h2,h3,h4,h5⟩:=ho
 have hl:(be8 ((m+1:Nat):Int)).length=(be8 ((m - 1:Nat):Int)).length:=by rw[Ht,Ht]
 have e:=congrArg (fun l:Bs=>l[7]?) (he.symm.trans h4)
 have e:(x.drop 56)[7]?=(mix t (be8 ((m+1:Nat):Int)) (be8 ((m - 1:Nat):Int)))[7]?:=e
 rw[h5,Hf hl,Hf hl,Zao,Zao,if_neg (by omega)] at e
 have ht:t≤7:=by
  refine Nat.le_of_not_lt fun h=>?_
  rw[if_pos h] at e
  injection e with e
  exact Zbs m e.symm
 have:t'=0:=by omega
 subst this
 rw[he,h5]
 rfl
theorem OldM.of_mark (m h f:Nat):OldM (m+1) (Ak m h f):=by
 obtain⟨p1,p2,-,-⟩:=Hq m h f
 exact⟨0,0,by omega,by omega,.inl rfl,p1,p2⟩
theorem P2:OldM 0 sec0∧OldM 1 sec0:=⟨⟨0,0,by omega,by omega,.inl rfl,rfl,rfl⟩,⟨0,0,by omega,by omega,.inl rfl,rfl,rfl⟩⟩
structure Rec (s:List Sec)(m h:Nat)(c:Bs):Prop where
 len:s.length=1100
 sec:∀x∈s,x.length=64
 half:h < 2
 few:c.length≤35136
 zero:m=0→h=0∧c=[]∧s[0]?=some sec0
 mark:0 < m→s[m % 2]?=some (Ak m h c.length)
 old:∃x,s[(m+1) % 2]?=some x∧OldM m x
 cont:Z4r s h c
theorem Ux {d:RD}{n:Nat}{x:Sec}(hd:d.dead=false)(hx:d.now[n]?=some x):Cv d n=if x.take 8≠x.drop 56 then⟨0,0,0,false⟩ else⟨Ct (x.take 8),((x[8]?).getD 0).toNat,Ct ((x.drop 9).take 4),decide (((x[8]?).getD 0).toNat < 2)&&decide (Ct ((x.drop 9).take 4)≤35136)⟩:=by
 have hn:=(List.getElem?_eq_some_iff.1 hx).1
 have hm:K0 d n=0:=by unfold K0;rw[hd,if_neg (by decide),if_neg (by omega)]
 have hr:Mc d n=x:=by unfold Mc;rw[if_neg (fun h=>h hm),Int.toNat_natCast,hx];rfl
 unfold Cv
 dsimp only
 rw[hr]
 by_cases h:x.take 8=x.drop 56
 ·rw[if_neg (by rintro(h1 | h1);exact h1 hm;exact h1 h),if_neg (fun h1=>h1 h)]
 ·rw[if_pos (.inr h),if_pos h]
theorem Z6l (f:Nat)(h:f≤35136):Ct [byI ((f:Int) / 16777216),byI ((f:Int) / 65536),byI ((f:Int) / 256),byI f]=f:=by
 have q1:=C9 ((f:Int) / 16777216)
 have q2:=C9 ((f:Int) / 65536)
 have q3:=C9 ((f:Int) / 256)
 have q4:=C9 (f:Int)
 show(((0 * 256+(byI ((f:Int) / 16777216)).toNat) * 256+(byI ((f:Int) / 65536)).toNat) * 256+(byI ((f:Int) / 256)).toNat) * 256+(byI (f:Int)).toNat=f
 omega
theorem Z1e {d:RD}{n m h f:Nat}(hd:d.dead=false)(hx:d.now[n]?=some (Ak m h f))(hh:h < 2)(hf:f≤35136)(hm:(m:Int)≤big):Cv d n=⟨m,h,f,true⟩:=by
 obtain⟨p1,p2,p3,p4⟩:=Hq m h f
 rw[Ux hd hx,p1,p2,p3,p4,if_neg (fun h=>h rfl),Z6l f hf]
 have e1:Ct (be8 (m:Int))=m:=by have:=Nk (m:Int) (by omega) hm;omega
 have e2:((some (UInt8.ofNat h)).getD 0).toNat=h:=by
  show(UInt8.ofNat h).toNat=h
  rw[UInt8.toNat_ofNat'];omega
 rw[e1,e2,decide_eq_true hh,decide_eq_true hf]
 rfl
theorem V5 {d:RD}{n m:Nat}{x:Sec}(hd:d.dead=false)(hx:d.now[n]?=some x)(ho:OldM m x)(hm:(m:Int)≤big):(Cv d n).mark=0∨(Cv d n).mark < m:=by
 rw[Ux hd hx]
 by_cases h:x.take 8=x.drop 56
 ·rw[if_neg (fun h1=>h1 h),ho.look h]
  have:=Nk ((m - 1:Nat):Int) (by omega) (by omega)
  show Ct (be8 ((m - 1:Nat):Int))=0∨Ct (be8 ((m - 1:Nat):Int)) < m
  omega
 ·rw[if_pos h];exact .inl rfl
theorem Z4n {d:RD}{m h:Nat}{c:Bs}(hd:d.dead=false)(hr:Rec d.now m h c)(hm:(m:Int)≤big):Kb d=⟨m,h,c.length,true⟩:=by
 obtain⟨x,hx,ho⟩:=hr.old
 have lo:=V5 hd hx ho hm
 unfold Kb
 rcases Nat.eq_zero_or_pos m with h0 | h0
 ·subst h0
  obtain⟨z1,z2,z3⟩:=hr.zero rfl
  subst z1 z2
  have l0:=V5 hd z3 P2.1 (by decide)
  have e1:F3 ⟨0,0,0,true⟩ (Cv d 0)=⟨0,0,0,true⟩:=by unfold F3;rw[if_neg (fun hh=>by have:=hh.2;dsimp only at this;omega)]
  have e2:F3 ⟨0,0,0,true⟩ (Cv d 1)=⟨0,0,0,true⟩:=by
   have lo:(Cv d 1).mark=0∨(Cv d 1).mark < 0:=lo
   unfold F3;rw[if_neg (fun hh=>by have:=hh.2;dsimp only at this;omega)]
  rw[e1,e2];rfl
 ·have hk:=Z1e hd (hr.mark h0) hr.half hr.few hm
  rcases(by omega:m % 2=0∨m % 2=1) with e | e
  ·rw[e] at hk
   rw[show(m+1) % 2=1 by omega] at lo
   rw[hk]
   have e1:F3 ⟨0,0,0,true⟩ ⟨m,h,c.length,true⟩=⟨m,h,c.length,true⟩:=by unfold F3;rw[if_pos ⟨rfl,h0⟩]
   rw[e1]
   unfold F3;rw[if_neg (fun hh=>by have:=hh.2;dsimp only at this;omega)]
  ·rw[e] at hk
   rw[show(m+1) % 2=0 by omega] at lo
   rw[hk]
   have e1:(F3 ⟨0,0,0,true⟩ (Cv d 0)).mark < m:=by
    unfold F3
    split
    ·omega
    ·exact h0
   generalize F3 ⟨0,0,0,true⟩ (Cv d 0)=y at e1⊢
   unfold F3;rw[if_pos ⟨rfl,e1⟩]
theorem Rb:∀(L:List Sec) (i:Nat),(∀x∈L,x.length=64)→L.flatten[i]?=(L[i / 64]?.getD [])[i % 64]?
 | [],i,_=>by simp
 | x::L,i,h=>by
  have hx:=h x (by simp)
  rw[List.flatten_cons,List.getElem?_append]
  by_cases hi:i < 64
  ·rw[if_pos (by omega),show i / 64=0 by omega,show i % 64=i by omega];rfl
  ·rw[if_neg (by omega),hx,Rb L (i - 64) (fun y hy=>h y (by simp[hy])),show i / 64=(i - 64) / 64+1 by omega,show i % 64=(i - 64) % 64 by omega];rfl
theorem Yq {d:RD}{h:Nat}{c:Bs}(hs:∀x∈d.now,x.length=64)(hf:c.length≤35136)(hc:Z4r d.now h c):(Cf d h).take c.length=c:=by
 refine List.ext_getElem? fun i=>?_
 rw[List.getElem?_take]
 by_cases hi:i < c.length
 ·rw[if_pos hi,←hc i hi]
  unfold Cf Zac
  rw[Rb _ _ fun x hx=>hs x (List.mem_of_mem_drop (List.mem_of_mem_take hx)),List.getElem?_take,if_pos (by omega),List.getElem?_drop]
 ·rw[if_neg hi,List.getElem?_eq_none (by omega)]
theorem Vn:∀(l:List ByteArray),(∀s∈l,s.size≤4096)→M5 (An l)=some l
 | [],_=>V7
 | s::l,h=>by
  have hs:=h s (by simp)
  have hz:s.data.toList.length=s.size:=by rw[Array.length_toList];rfl
  have e:An (s::l)=frB s++An l:=rfl
  have hl:(An (s::l)).length=s.size+4+(An l).length:=by rw[e,List.length_append,Ds]
  have e4:(An (s::l)).take 4=[byI ((s.size:Int) / 16777216),byI ((s.size:Int) / 65536),byI ((s.size:Int) / 256),byI s.size]:=rfl
  have ed:(An (s::l)).drop 4=s.data.toList++An l:=rfl
  have e5:(An (s::l)).drop (4+s.size)=An l:=by
   rw[←List.drop_drop,ed,←hz,List.drop_left]
  have e6:((An (s::l)).drop 4).take s.size=s.data.toList:=by rw[ed,←hz,List.take_left]
  have hne:An (s::l)≠[]:=fun h=>by rw[h] at hl;simp at hl;omega
  rw[Qr hne,if_neg (by omega),e4,Z6l s.size (by omega),if_neg (by omega),e5,e6,Vn l fun x hx=>h x (by simp[hx])]
  rfl
theorem Ue {d:RD}{m h:Nat}{all:List ByteArray}(hd:d.dead=false)(hr:Rec d.now m h (An all))(hm:(m:Int)≤big)(ha:∀s∈all,s.size≤4096):Z08 d=some ⟨m,h,(An all).length,An all,all,false,d⟩:=by
 have hk:=Z4n hd hr hm
 unfold Z08
 rw[hk]
 dsimp only
 rw[Yq hr.sec hr.few hr.cont,Vn all ha]
def Y1 (m h:Nat)(c:Bs)(w:Nat × Sec):Prop:=w.2.length=64∧∀s,Rec s m h c→∀T,Rec (s.set w.1 (mix T w.2 (s[w.1]?.getD []))) m h c
theorem Z0o {s:List Sec}{i:Nat}{x:Sec}(hs:∀y∈s,y.length=64)(hx:x.length=64){T:Nat}(hT:64≤T):s.set i (mix T x (s[i]?.getD []))=s.set i x:=by
 by_cases hi:i < s.length
 ·rw[List.getElem?_eq_getElem hi]
  show s.set i (mix T x s[i])=_
  rw[Z88 (by rw[hx,hs _ (List.getElem_mem hi)]) (by omega)]
 ·rw[List.set_eq_of_length_le (by omega),List.set_eq_of_length_le (by omega)]
theorem L2 {m h:Nat}{c:Bs}:∀(ws:List (Nat × Sec)) (s:List Sec),(∀w∈ws,Y1 m h c w)→Rec s m h c→Rec (Fw s ws) m h c
 | [],_,_,hr=>hr
 | w::ws,s,hw,hr=>by
  have h1:=hw w (by simp)
  have h2:=h1.2 s hr 64
  rw[Z0o hr.sec h1.1 (Nat.le_refl _)] at h2
  exact L2 ws _ (fun x hx=>hw x (by simp[hx])) h2
structure Safe (m h:Nat)(c:Bs)(d:RD):Prop where
 rc:Rec d.firm m h c
 now:d.now=Fw d.firm d.wait
 wait:∀w∈d.wait,Y1 m h c w
theorem Safe.crash {m h:Nat}{c:Bs}{d:RD}(hs:Safe m h c d)(k t:Int):Rec (B7 d k t) m h c:=by
 have h1:=L2 (d.wait.take (Hj d k)) d.firm (fun w hw=>hs.wait w (List.mem_of_mem_take hw)) hs.rc
 unfold B7
 dsimp only
 split
 ·next w hw=>exact(hs.wait w (List.mem_of_getElem? hw)).2 _ h1 _
 ·exact h1
theorem Di (d:RD):(Ba d).now=d.now∧(Ba d).firm=d.firm∧(Ba d).wait=d.wait:=by unfold Ba;split<;>exact⟨rfl,rfl,rfl⟩
theorem Zf (f:List Sec)(ws:List (Nat × Sec))(w:Nat × Sec):Fw f (ws++[w])=(Fw f ws).set w.1 w.2:=by unfold Fw;rw[List.foldl_append];rfl
theorem Safe.write {m h:Nat}{c:Bs}{d:RD}(hs:Safe m h c d){n:Int}{b:Sec}(hk:Y1 m h c (n.toNat,E1 b)):Safe m h c (Ae d n b):=by
 unfold Ae
 split
 ·exact hs
 ·split
  ·exact hs
  ·obtain⟨e1,e2,e3⟩:=Di (Z4o d n.toNat (E1 b))
   refine⟨by rw[e2];exact hs.rc,?_,fun w hw=>?_⟩
   ·rw[e1,e2,e3]
    show d.now.set _ _=Fw d.firm (d.wait++[_])
    rw[Zf,hs.now]
   ·rw[e3] at hw
    rcases List.mem_append.1 hw with hw | hw
    ·exact hs.wait w hw
    ·rw[List.mem_singleton.1 hw];exact hk
theorem Safe.sync {m h:Nat}{c:Bs}{d:RD}(hs:Safe m h c d):Safe m h c (Ab d):=by
 obtain⟨e1,e2,e3⟩:=Di d
 unfold Ab
 split
 ·exact hs
 ·split
  ·exact⟨by rw[e2];exact hs.rc,by rw[e1,e2,e3];exact hs.now,fun w hw=>hs.wait w (by rwa [e3] at hw)⟩
  ·refine⟨L2 _ _ hs.wait hs.rc,?_,fun w hw=>by cases hw⟩
   show(Ba d).now=Fw (Fw d.firm d.wait) []
   rw[e1,hs.now];rfl
theorem Safe.runW {m h:Nat}{c:Bs}{f:Nat}{b:Bs}:∀(ns:List Nat) {d:RD},Safe m h c d→(∀n∈ns,Y1 m h c (f+n,E1 (chB b n)))→Safe m h c (runW f b ns d).1
 | [],_,hs,_=>hs
 | n::ns,d,hs,hk=>by
  have h1:Safe m h c (Ae d ((f+n:Nat):Int) (chB b n)):=hs.write (by rw[Int.toNat_natCast];exact hk n (by simp))
  rw[Fa]
  split
  ·exact Safe.runW ns h1 fun x hx=>hk x (by simp[hx])
  ·exact h1
theorem Xn {m h:Nat}{c:Bs}{h' n:Nat}{x:Sec}(hh':h' < 2)(hn:n < 549)(hx:x.length=64)(hag:h'=h→∀i,i < c.length→i / 64=n→x[i % 64]?=c[i]?):Y1 m h c (Ce h'+n,x):=by
 refine⟨hx,fun s hr T=>?_⟩
 have hlt:Ce h'+n < s.length:=by rw[hr.len];unfold Ce;omega
 have h2:2≤Ce h'+n:=by unfold Ce;omega
 show Rec (s.set (Ce h'+n) (mix T x (s[Ce h'+n]?.getD []))) m h c
 have ho:(s[Ce h'+n]?.getD []).length=64:=by
  rw[List.getElem?_eq_getElem hlt];exact hr.sec _ (List.getElem_mem hlt)
 refine⟨by rw[List.length_set];exact hr.len,fun y hy=>?_,hr.half,hr.few,fun h0=>?_,fun h0=>?_,?_,fun i hi=>?_⟩
 ·rcases List.mem_or_eq_of_mem_set hy with hy | rfl
  ·exact hr.sec y hy
  ·rw[Sx (by rw[hx,ho])];exact hx
 ·obtain⟨a,b,e⟩:=hr.zero h0
  exact⟨a,b,by rw[List.getElem?_set_ne (by omega)];exact e⟩
 ·rw[List.getElem?_set_ne (by omega)];exact hr.mark h0
 ·obtain⟨y,hy,hoy⟩:=hr.old
  exact⟨y,by rw[List.getElem?_set_ne (by omega)];exact hy,hoy⟩
 ·have hc:=hr.cont i hi
  unfold Zac at hc⊢
  by_cases e:Ce h'+n=Ce h+i / 64
  ·have hhf:=hr.half
   have hfew:=hr.few
   have e2:h'=h∧i / 64=n:=by unfold Ce at e;omega
   rw[←e] at hc⊢
   rw[List.getElem?_set_self hlt]
   show(mix T x _)[i % 64]?=_
   rw[Hf (by rw[hx,ho])]
   split
   ·exact hag e2.1 i hi e2.2
   ·exact hc
  ·rw[List.getElem?_set_ne e];exact hc
theorem Z78 {b:Bs}{n k:Nat}(hk:k < 64)(h:n * 64+k < b.length):(E1 (chB b n))[k]?=b[n * 64+k]?:=by
 unfold E1 chB
 rw[List.getElem?_append_left (by simp;omega),List.getElem?_take,if_pos hk,List.getElem?_take,if_pos hk,List.getElem?_drop]
theorem R1 {d:RD}{n:Int}{b:Sec}(h:Bn d n b=0):(Ae d n b).now=d.now.set n.toNat (E1 b):=by
 unfold Bn at h
 unfold Ae
 by_cases h1:K0 d n=0
 ·rw[if_neg (fun h=>h h1)] at h⊢
  by_cases h2:b.length > 64
  ·rw[if_pos h2] at h;cases h
  ·rw[if_neg h2]
   exact(Di _).1
 ·rw[if_pos h1] at h;exact absurd h h1
theorem Td (f:Nat)(b:Bs):∀(ns:List Nat) (d:RD),(runW f b ns d).2=true→(∀n∈ns,f+n < d.now.length)→∀i,(runW f b ns d).1.now[i]?=if f≤i∧i - f∈ns then some (E1 (chB b (i - f))) else d.now[i]?
 | [],d,_,_,i=>by rw[if_neg (fun h=>by cases h.2)];rfl
 | n::ns,d,hr,hl,i=>by
  rw[Fa] at hr⊢
  by_cases hw:Bn d ((f+n:Nat):Int) (chB b n)=0
  ·rw[if_pos hw] at hr⊢
   have e:=R1 hw
   rw[Int.toNat_natCast] at e
   rw[Td f b ns _ hr (fun x hx=>by rw[e,List.length_set];exact hl x (by simp[hx])) i,e]
   by_cases h1:f≤i∧i - f∈ns
   ·rw[if_pos h1,if_pos ⟨h1.1,by simp[h1.2]⟩]
   ·rw[if_neg h1]
    by_cases h2:i=f+n
    ·subst h2
     rw[List.getElem?_set_self (hl n (by simp)),if_pos ⟨by omega,by simp⟩,show f+n - f=n by omega]
    ·rw[List.getElem?_set_ne (fun h=>h2 h.symm),if_neg]
     rintro⟨h3,h4⟩
     rcases List.mem_cons.1 h4 with h4 | h4
     ·omega
     ·exact h1 ⟨h3,h4⟩
  ·rw[if_neg hw] at hr;cases hr
theorem R0 {h:Nat}{b:Bs}{frm:Nat}{d:RD}(hh:h < 2)(hb:b.length≤35136)(hlen:d.now.length=1100)(hr:(runW (Ce h) b (nsW b frm) d).2=true)(hc:Z4r d.now h (b.take frm)):Z4r (runW (Ce h) b (nsW b frm) d).1.now h b:=by
 intro i hi
 unfold Zac
 rw[Td _ _ _ _ hr (fun n hn=>by have:=Yy hb hn;rw[hlen];unfold Ce;omega)]
 by_cases h1:i / 64∈nsW b frm
 ·rw[if_pos ⟨by omega,by rw[show Ce h+i / 64 - Ce h=i / 64 by omega];exact h1⟩,show Ce h+i / 64 - Ce h=i / 64 by omega]
  show(E1 (chB b (i / 64)))[i % 64]?=_
  rw[Z78 (by omega) (by omega),show i / 64 * 64+i % 64=i by omega]
 ·rw[if_neg (fun hh=>h1 (by have:=hh.2;rwa [show Ce h+i / 64 - Ce h=i / 64 by omega] at this))]
  unfold nsW at h1
  rw[List.mem_range'_1] at h1
  have hif:i < frm:=by omega
  have:=hc i (by rw[List.length_take];omega)
  rw[List.getElem?_take,if_pos hif] at this
  exact this
theorem Z5f {s:List Sec}{m h:Nat}{c:Bs}(hr:Rec s m h c)(h' f:Nat){T:Nat}(hT:T < 64):Rec (s.set ((m+1) % 2) (mix T (Ak (m+1) h' f) (s[(m+1) % 2]?.getD []))) m h c:=by
 obtain⟨x,hx,ho⟩:=hr.old
 have hxl:=hr.sec x (List.mem_of_getElem? hx)
 have hlt:=(List.getElem?_eq_some_iff.1 hx).1
 rw[hx]
 show Rec (s.set ((m+1) % 2) (mix T (Ak (m+1) h' f) x)) m h c
 have hml:(mix T (Ak (m+1) h' f) x).length=64:=by rw[Sx (by rw[Dn,hxl]),Dn]
 refine⟨by rw[List.length_set];exact hr.len,fun y hy=>?_,hr.half,hr.few,fun h0=>?_,fun h0=>?_,⟨_,List.getElem?_set_self hlt,ho.torn hxl hT⟩,fun i hi=>?_⟩
 ·rcases List.mem_or_eq_of_mem_set hy with hy | rfl
  ·exact hr.sec y hy
  ·exact hml
 ·obtain⟨a,b,e⟩:=hr.zero h0
  exact⟨a,b,by rw[List.getElem?_set_ne (by omega)];exact e⟩
 ·rw[List.getElem?_set_ne (by omega)];exact hr.mark h0
 ·have:=hr.cont i hi
  unfold Zac at this⊢
  rw[List.getElem?_set_ne (by unfold Ce;omega)]
  exact this
theorem Ng {s:List Sec}{m h:Nat}{c:Bs}(hr:Rec s m h c){h':Nat}{c':Bs}(hh:h' < 2)(hf:c'.length≤35136)(hc:Z4r s h' c'):Rec (s.set ((m+1) % 2) (Ak (m+1) h' c'.length)) (m+1) h' c':=by
 have hlt:(m+1) % 2 < s.length:=by rw[hr.len];omega
 refine⟨by rw[List.length_set];exact hr.len,fun y hy=>?_,hh,hf,fun h0=>by omega,fun _=>List.getElem?_set_self hlt,?_,fun i hi=>?_⟩
 ·rcases List.mem_or_eq_of_mem_set hy with hy | rfl
  ·exact hr.sec y hy
  ·exact Dn _ _ _
 ·rw[show(m+1+1) % 2=m % 2 by omega]
  rcases Nat.eq_zero_or_pos m with h0 | h0
  ·subst h0
   exact⟨sec0,by rw[List.getElem?_set_ne (by omega)];exact(hr.zero rfl).2.2,P2.2⟩
  ·exact⟨_,by rw[List.getElem?_set_ne (by omega)];exact hr.mark h0,OldM.of_mark _ _ _⟩
 ·have:=hc i hi
  unfold Zac at this⊢
  rw[List.getElem?_set_ne (by unfold Ce;omega)]
  exact this
theorem Wo {x:Sec}(h:x.length=64):E1 x=x:=by
 unfold E1
 rw[List.take_of_length_le (by omega),h]
 simp
theorem Ua {l:LD}{m h:Nat}{c:Bs}(hs:Safe m h c l.d){h':Nat}{c':Bs}(hh:h' < 2)(hf:c'.length≤35136)(hc:Z4r l.d.now h' c')(hm:l.mark=m) :
  (∀k t,Rec (B7 (Ah l h' c'.length).d k t) m h c∨Rec (B7 (Ah l h' c'.length).d k t) (m+1) h' c')∧((Ah l h' c'.length).dead=false→Rec (Ah l h' c'.length).d.now (m+1) h' c'∧(Ah l h' c'.length).d.firm=(Ah l h' c'.length).d.now):=by
 subst hm
 unfold Ah
 by_cases h1:Da l.d≠0
 ·rw[if_pos h1]
  exact⟨fun k t=>.inl (hs.sync.crash k t),fun h=>by cases h⟩
 ·rw[if_neg h1]
  have h1:Da l.d=0:=Decidable.not_not.1 h1
  have hw0:=(Kk h1).2.1
  have hs1:=hs.sync
  have en:(Ab l.d).now=l.d.now:=by
   unfold Ab
   split
   ·rfl
   ·split<;>exact(Di l.d).1
  have ef:(Ab l.d).firm=(Ab l.d).now:=by have:=hs1.now;rw[hw0] at this;exact this.symm
  have hr:=hs1.rc
  have hc1:Z4r (Ab l.d).firm h' c':=by rw[ef,en];exact hc
  have hk:E1 (Ak (l.mark+1) h' c'.length)=Ak (l.mark+1) h' c'.length:=Wo (Dn _ _ _)
  have old:∀(d:RD),d.firm=(Ab l.d).firm→(d.wait=[]∨d.wait=[((l.mark+1) % 2,Ak (l.mark+1) h' c'.length)])→∀k t,Rec (B7 d k t) l.mark h c∨Rec (B7 d k t) (l.mark+1) h' c':=fun d e1 e2 k t=>by
   unfold B7
   dsimp only
   rw[e1]
   rcases e2 with e2 | e2
   ·rw[e2]
    simp only[List.take_nil,List.getElem?_nil]
    exact .inl hr
   ·have hkd:Hj d k=0∨Hj d k=1:=by unfold Hj;rw[e2];show(min (max k 0) 1).toNat=0∨(min (max k 0) 1).toNat=1;omega
    rw[e2]
    rcases hkd with e3 | e3
    ·rw[e3]
     show Rec ((Ab l.d).firm.set _ (K7 _ _ t)) _ _ _∨Rec ((Ab l.d).firm.set _ (K7 _ _ t)) _ _ _
     unfold K7
     by_cases hT:(min (max t 0) 64).toNat < 64
     ·exact .inl (Z5f hr h' _ hT)
     ·refine .inr ?_
      have:=Z0o (i:=(l.mark+1) % 2) hr.sec (Dn (l.mark+1) h' c'.length) (T:=(min (max t 0) 64).toNat) (by omega)
      have:=this ▸ Ng hr hh hf hc1
      exact this
    ·rw[e3]
     exact .inr (Ng hr hh hf hc1)
  have hwr:(Ae (Ab l.d) (((l.mark+1) % 2:Nat):Int) (Ak (l.mark+1) h' c'.length)).firm=(Ab l.d).firm∧((Ae (Ab l.d) (((l.mark+1) % 2:Nat):Int) (Ak (l.mark+1) h' c'.length)).wait=[]∨(Ae (Ab l.d) (((l.mark+1) % 2:Nat):Int) (Ak (l.mark+1) h' c'.length)).wait=[((l.mark+1) % 2,Ak (l.mark+1) h' c'.length)]):=by
   unfold Ae
   split
   ·exact⟨rfl,.inl hw0⟩
   ·split
    ·exact⟨rfl,.inl hw0⟩
    ·obtain⟨a1,a2,a3⟩:=Di (Z4o (Ab l.d) ((((l.mark+1) % 2:Nat):Int)).toNat (E1 (Ak (l.mark+1) h' c'.length)))
     refine⟨a2,.inr ?_⟩
     rw[a3]
     show(Ab l.d).wait++[_]=_
     rw[hw0,hk,Int.toNat_natCast];rfl
  by_cases h2:Bn (Ab l.d) (((l.mark+1) % 2:Nat):Int) (Ak (l.mark+1) h' c'.length)≠0
  ·rw[if_pos h2]
   exact⟨old _ hwr.1 hwr.2,fun h=>by cases h⟩
  ·rw[if_neg h2]
   have h2:=Decidable.not_not.1 h2
   have hwn:=R1 h2
   rw[hk,Int.toNat_natCast] at hwn
   generalize hd2:Ae (Ab l.d) (((l.mark+1) % 2:Nat):Int) (Ak (l.mark+1) h' c'.length)=d2 at hwr hwn⊢
   have hnx:Rec d2.now (l.mark+1) h' c':=by
    rw[hwn,←ef]
    exact Ng hr hh hf hc1
   have ed2:=Di d2
   have hly:Fw d2.firm d2.wait=d2.now:=by
    rcases hwr.2 with e | e
    ·exfalso
     have:d2.wait.length=1:=by
      rw[←hd2]
      unfold Ae
      unfold Bn at h2
      by_cases q1:K0 (Ab l.d) (((l.mark+1) % 2:Nat):Int)=0
      ·rw[if_neg (fun h=>h q1)] at h2⊢
       rw[if_neg (by rw[Dn];omega),(Di _).2.2]
       show((Ab l.d).wait++[_]).length=1
       rw[hw0];rfl
      ·rw[if_pos q1] at h2;exact absurd h2 q1
     rw[e] at this;cases this
    ·rw[e,hwr.1,hwn,ef];rfl
   have hfl:Da d2=0→(Ab d2).firm=d2.now∧(Ab d2).wait=[]∧(Ab d2).now=d2.now:=fun h3=>by
    have q:=Kk h3
    unfold Da at h3
    have h4:¬(d2.dead=true∨F4 d2=true):=fun h=>by rw[if_pos h] at h3;cases h3
    unfold Ab
    rw[if_neg (fun h=>h4 (.inl h)),if_neg (fun h=>h4 (.inr h))]
    exact⟨hly,rfl,ed2.1⟩
   by_cases h3:Da d2≠0
   ·rw[if_pos h3]
    refine⟨?_,fun h=>by cases h⟩
    have e5:(Ab d2).firm=d2.firm∧(Ab d2).wait=d2.wait:=by
     unfold Da at h3
     have h4:d2.dead=true∨F4 d2=true:=by
      by_cases h4:d2.dead=true∨F4 d2=true
      ·exact h4
      ·rw[if_neg h4] at h3;exact absurd rfl h3
     unfold Ab
     split
     ·exact⟨rfl,rfl⟩
     ·next h5 =>
      rw[if_pos (by rcases h4 with h4 | h4;exact absurd h4 h5;exact h4)]
      exact ed2.2
    exact old _ (e5.1.trans hwr.1) (by show(Ab d2).wait=[]∨(Ab d2).wait=_;rw[e5.2];exact hwr.2)
   ·rw[if_neg h3]
    obtain⟨f1,f2,f3⟩:=hfl (Decidable.not_not.1 h3)
    refine⟨fun k t=>.inr ?_,fun _=>⟨?_,?_⟩⟩
    ·show Rec (B7 (Ab d2) k t) _ _ _
     unfold B7
     dsimp only
     rw[f2,f1]
     simp only[List.take_nil,List.getElem?_nil]
     exact hnx
    ·show Rec (Ab d2).now _ _ _
     rw[f3];exact hnx
    ·show(Ab d2).firm=(Ab d2).now
     rw[f1,f3]
end Go.Proofs.YtihfaocdpmmooaaGreat
namespace Go.Proofs.YtihfaocdpmmooaaGreat
structure RLd (l:LD):Prop where
 rc:Rec l.d.now l.mark l.half l.b
 firm:l.d.firm=l.d.now
 f:l.firm=l.b.length
 sz:∀s∈l.all,s.size≤4096
theorem RLd.safe {k:Nat}{l:LD}(h:RLd l)(hw:WSt k l):Safe l.mark l.half l.b l.d :=
 ⟨by rw[h.firm];exact h.rc,by rw[hw.wait];exact h.firm.symm,by rw[hw.wait];nofun⟩
theorem Z14 {l:LD}{m h:Nat}{c:Bs}(hs:Safe m h c l.d){h':Nat}(hh:h' < 2){b:Bs}{frm:Nat}(hb:b.length≤35136)(hag:h'=h→∀i,i < c.length→b[i]?=c[i]?)(hc:h'=h→c.length≤b.length):Safe m h c (wrL l h' b frm).d:=by
 unfold wrL
 refine Safe.runW _ hs fun n hn=>Xn hh (Yy hb hn) (Ca _) fun e i hi hin=>?_
 have:=hc e
 rw[Z78 (by omega) (by omega),show n * 64+i % 64=i by omega]
 exact hag e i hi
theorem Zd1 {k:Nat}{l:LD}(hw:WSt k l)(h:RLd l)(s:ByteArray)(h0:Fx l s=0) :
  (∀kp t,Rec (B7 (Ja (Bc l s)).d kp t) l.mark l.half l.b∨Rec (B7 (Ja (Bc l s)).d kp t) (l.mark+1) l.half (l.b++frB s))∧s.size≤4096∧(Og (Bc l s)=0→RLd (Ja (Bc l s))):=by
 unfold Fx at h0
 rw[if_neg (by rw[hw.dead];decide)] at h0
 have hs1:¬s.size > 4096:=fun hh=>by rw[if_pos hh] at h0;cases h0
 rw[if_neg hs1] at h0
 have hs2:¬(s.size:Int) > G1 l:=fun hh=>by rw[if_pos hh] at h0;cases h0
 rw[if_neg hs2] at h0
 have hwe:wrE l l.half (l.b++frB s) l.b.length=true:=by
  cases hwe:wrE l l.half (l.b++frB s) l.b.length with
  | true=>rfl
  | false=>rw[hwe] at h0;cases h0
 have hA:Bc l s={wrL l l.half (l.b++frB s) l.b.length with b:=l.b++frB s,all:=l.all++[s]}:=by
  unfold Bc
  rw[if_neg (by rw[hw.dead];decide),if_neg hs1,if_neg hs2,if_pos hwe]
 have hroom:(l.b++frB s).length≤35136:=by rw[List.length_append,Ds];have:=hw.len;unfold G1 at hs2;omega
 obtain⟨hd1,hd2⟩:=Lk hw.dd hwe
 have hS:=Z14 (frm:=l.b.length) (h.safe hw) hw.half hroom (fun _ i hi=>by rw[List.getElem?_append_left hi]) (fun _=>by rw[List.length_append];omega)
 have hC:Z4r (wrL l l.half (l.b++frB s) l.b.length).d.now l.half (l.b++frB s):=R0 hw.half hroom hw.many hwe (by rw[List.take_left];exact h.rc.cont)
 generalize hx:({wrL l l.half (l.b++frB s) l.b.length with b:=l.b++frB s,all:=l.all++[s]}:LD)=x at hA
 have x1:x.dead=false:=by rw[←hx];exact hd1
 have x2:x.d=(wrL l l.half (l.b++frB s) l.b.length).d:=by rw[←hx]
 have x3:x.mark=l.mark:=by rw[←hx];rfl
 have x4:x.half=l.half:=by rw[←hx];rfl
 have x5:x.b=l.b++frB s:=by rw[←hx]
 have x6:x.all=l.all++[s]:=by rw[←hx]
 rw[hA]
 have hSy:Ja x=Ah x x.half x.b.length:=by unfold Ja;rw[if_neg (by rw[x1];decide)]
 rw[←x2] at hS hC
 obtain⟨q1,q2⟩:=Ua hS hw.half hroom hC x3
 rw[hSy,x4,x5]
 refine⟨q1,by omega,fun hE=>?_⟩
 have hdd:(Ah x l.half (l.b++frB s).length).dead=false:=by
  unfold Og at hE
  rw[if_neg (by rw[x1];decide)] at hE
  unfold Dd at hE
  rw[x4,x5] at hE
  cases hz:(Ah x l.half (l.b++frB s).length).dead with
  | false=>rfl
  | true=>rw[hz] at hE;cases hE
 obtain⟨r1,r2⟩:=q2 hdd
 obtain⟨s1,s2,s3⟩:=Kc hdd
 have e1:(Ah x l.half (l.b++frB s).length).mark=l.mark+1:=by rw[s3];show x.mark+1=_;rw[x3]
 have e2:(Ah x l.half (l.b++frB s).length).half=l.half:=by rw[s3]
 have e3:(Ah x l.half (l.b++frB s).length).b=l.b++frB s:=by rw[s3];exact x5
 have e4:(Ah x l.half (l.b++frB s).length).all=l.all++[s]:=by rw[s3];exact x6
 have e5:(Ah x l.half (l.b++frB s).length).firm=(l.b++frB s).length:=by rw[s3]
 refine⟨by rw[e1,e2,e3];exact r1,r2,by rw[e5,e3],fun y hy=>?_⟩
 rw[e4] at hy
 rcases List.mem_append.1 hy with hy | hy
 ·exact h.sz y hy
 ·rw[List.mem_singleton.1 hy];omega
theorem P3 {all:List ByteArray}(h:Me all=0):(An all).length≤35136∧∀s∈all,s.size≤4096:=by
 unfold Me at h
 split at h
 ·cases h
 ·next h1 =>
  split at h
  ·cases h
  ·refine⟨by omega,fun s hs=>?_⟩
   rw[List.any_eq_true] at h1
   refine Nat.le_of_not_lt fun hlt=>h1 ⟨s,hs,?_⟩
   exact decide_eq_true hlt
theorem Z7h {k:Nat}{l:LD}(hw:WSt k l)(h:RLd l)(all:List ByteArray)(hf:Me all=0) :
  (∀kp t,Rec (B7 (Fc l all).d kp t) l.mark l.half l.b∨Rec (B7 (Fc l all).d kp t) (l.mark+1) (1 - l.half) (An all))∧(J8 l all=0→RLd (Fc l all)):=by
 obtain⟨hbl,hsz⟩:=P3 hf
 have hh:=hw.half
 have hS:=Z14 (frm:=0) (h.safe hw) (h':=1 - l.half) (by omega) hbl (fun e=>by omega) (fun e=>by omega)
 have hL:Fc l all=if wrE l (1 - l.half) (An all) 0=true then
   (if(Ah (wrL l (1 - l.half) (An all) 0) (1 - l.half) (An all).length).dead=true then Ah (wrL l (1 - l.half) (An all) 0) (1 - l.half) (An all).length
    else {Ah (wrL l (1 - l.half) (An all) 0) (1 - l.half) (An all).length with b:=An all,all:=all})
  else wrL l (1 - l.half) (An all) 0:=by
  unfold Fc
  rw[if_neg (by rw[hw.dead];decide),if_neg (fun h=>h hf)]
 have hR:J8 l all=if wrE l (1 - l.half) (An all) 0=true then Dd (wrL l (1 - l.half) (An all) 0) (1 - l.half) (An all).length else 40:=by
  unfold J8
  rw[if_neg (by rw[hw.dead];decide),if_neg (fun h=>h hf)]
 rw[hL,hR]
 cases hwe:wrE l (1 - l.half) (An all) 0 with
 | false =>
  rw[if_neg (by decide),if_neg (by decide)]
  exact⟨fun kp t=>.inl (hS.crash kp t),fun h=>by cases h⟩
 | true =>
  rw[if_pos rfl,if_pos rfl]
  obtain⟨hd1,hd2⟩:=Lk hw.dd hwe
  have hC:Z4r (wrL l (1 - l.half) (An all) 0).d.now (1 - l.half) (An all):=R0 (by omega) hbl hw.many hwe (fun i hi=>by simp at hi)
  obtain⟨q1,q2⟩:=Ua hS (h':=1 - l.half) (by omega) hbl hC (show(wrL l (1 - l.half) (An all) 0).mark=l.mark from rfl)
  have hdeq:∀x:LD,(if x.dead=true then x else {x with b:=An all,all:=all}).d=x.d:=fun x=>by split<;>rfl
  refine⟨fun kp t=>by rw[hdeq];exact q1 kp t,fun hE=>?_⟩
  have hdd:(Ah (wrL l (1 - l.half) (An all) 0) (1 - l.half) (An all).length).dead=false:=by
   unfold Dd at hE
   cases hz:(Ah (wrL l (1 - l.half) (An all) 0) (1 - l.half) (An all).length).dead with
   | false=>rfl
   | true=>rw[hz] at hE;cases hE
  obtain⟨r1,r2⟩:=q2 hdd
  obtain⟨s1,s2,s3⟩:=Kc hdd
  rw[if_neg (by rw[hdd];decide)]
  have e1:(Ah (wrL l (1 - l.half) (An all) 0) (1 - l.half) (An all).length).mark=l.mark+1:=by rw[s3];rfl
  have e2:(Ah (wrL l (1 - l.half) (An all) 0) (1 - l.half) (An all).length).half=1 - l.half:=by rw[s3]
  have e5:(Ah (wrL l (1 - l.half) (An all) 0) (1 - l.half) (An all).length).firm=(An all).length:=by rw[s3]
  exact⟨by show Rec (Ah _ _ _).d.now (Ah _ _ _).mark (Ah _ _ _).half (An all);rw[e1,e2];exact r1,r2,e5,hsz⟩
theorem Yw {d:RD}{kp t:Int}{m h:Nat}{all:List ByteArray}(hr:Rec (B7 d kp t) m h (An all))(hm:(m:Int)≤big)(ha:∀s∈all,s.size≤4096):Z08 (Ei d kp t)=some ⟨m,h,(An all).length,An all,all,false,Ei d kp t⟩ :=
 Ue rfl hr hm ha
theorem Z5v {d:RD}(hd:WD d){kp t:Int}{m h:Nat}{all:List ByteArray}(hr:Rec (B7 d kp t) m h (An all))(ha:∀s∈all,s.size≤4096):WSt m ⟨m,h,(An all).length,An all,all,false,Ei d kp t⟩∧RLd ⟨m,h,(An all).length,An all,all,false,Ei d kp t⟩ :=
 ⟨⟨F9 hd kp t,hr.len,by show(0:Int)≤_;decide,rfl,hr.half,rfl,hr.few,Nat.le_refl _,rfl,rfl⟩,⟨hr,rfl,rfl,ha⟩⟩
theorem X1 {k:Nat}{l:LD}(hw:WSt k l)(h:RLd l)(kp t:Int):Rec (B7 l.d kp t) l.mark l.half l.b:=(h.safe hw).crash kp t
theorem Yx:Rec (Xb 1100).now 0 0 (An []):=by
 have hm:Ye 1100=1100:=by decide
 have hn:(Xb 1100).now=List.replicate 1100 sec0:=by unfold Xb;rw[hm]
 have at1:∀i,i < 1100→(List.replicate 1100 sec0)[i]?=some sec0:=fun i hi=>by rw[List.getElem?_replicate,if_pos hi]
 rw[hn]
 refine⟨List.length_replicate ..,fun x hx=>?_,by omega,Nat.zero_le _,fun _=>⟨rfl,rfl,at1 0 (by omega)⟩,fun h=>by omega,⟨sec0,at1 _ (by omega),P2.1⟩,fun i hi=>by cases hi⟩
 rw[(List.mem_replicate.1 hx).2]
 exact List.length_replicate ..
end Go.Proofs.YtihfaocdpmmooaaGreat

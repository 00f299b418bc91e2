
import Derived.Test.YtihfaocdpmmooaaGreatNM1
import Derived.Test.YtihfaocdpmmooaaGreatPKM
namespace Go.Proofs.YtihfaocdpmmooaaGreat
def Zeb (s:List Sec)(f i:Nat):Option UInt8:=(s[f+i / 64]?.getD [])[i % 64]?
def Z6t (s:List Sec)(h:Nat)(c:Bs):Prop:=∀i,i < c.length→Zeb s (Cw h) i=c[i]?
def mix (t:Nat)(a b:Bs):Bs:=a.take t++b.drop t
theorem Ik {a b:Bs}(h:a.length=b.length)(t j:Nat):(mix t a b)[j]?=if j < t then a[j]? else b[j]?:=by
 unfold mix;rw[List.getElem?_append,aw,bj,bw];by_cases c:j < t
 ·rw[dc c];split
  ·rfl
  ·next d =>
   rw[b9 (by omega),b9 (by omega)]
 ·rw[db (by omega),db c];by_cases e:t≤a.length
  ·rw[show t+(j - min t a.length)=j by omega]
  ·rw[b9 (by omega),b9 (by omega)]
theorem Us {a b:Bs}(h:a.length=b.length)(t:Nat):(mix t a b).length=a.length:=by unfold mix;simp;omega
theorem Z5b {a b:Bs}(h:a.length=b.length)(t u:Nat):mix t a (mix u a b)=mix (max t u) a b:=by
 refine cp fun j=>?_;rw[Ik (by rw[Us h]),Ik h,Ik h];by_cases c:j < t
 ·rw[dc c,dc (by omega)]
 ·rw[db c];by_cases d:j < u
  ·rw[dc d,dc (by omega)]
  ·rw[db d,db (by omega)]
theorem Z8a {a b:Bs}(h:a.length=b.length)(t k:Nat):(mix t a b).take k=mix (min t k) (a.take k) (b.take k):=by
 refine cp fun j=>?_;rw[bj,Ik h,Ik (by simp[h]),bj,bj];by_cases c:j < k
 ·rw[dc c,dc c,dc c];by_cases d:j < t
  ·rw[dc d,dc (by omega)]
  ·rw[db d,db (by omega)]
 ·rw[db c,db c,db c];split<;>rfl
theorem Z8g {a b:Bs}(h:a.length=b.length)(t k:Nat):(mix t a b).drop k=mix (t - k) (a.drop k) (b.drop k):=by
 refine cp fun j=>?_;rw[bw,Ik h,Ik (by simp[h]),bw,bw];by_cases c:k+j < t
 ·rw[dc c,dc (by omega)]
 ·rw[db c,db (by omega)]
theorem Ze8 {a b:Bs}(h:a.length=b.length){t:Nat}(c:a.length≤t):mix t a b=a:=by unfold mix;rw[ap c,c8 (by omega),cz]
def OldM (m:Nat)(x:Sec):Prop:=∃t a,t≤8∧a < 8∧(a=0∨t=8)∧x.take 8=mix t (be8 ((m+1:Nat):Int)) (be8 ((m - 1:Nat):Int))∧x.drop 56=mix a (be8 ((m+1:Nat):Int)) (be8 ((m - 1:Nat):Int))
theorem Io (n:Int):(be8 n).length=8:=rfl
theorem Zg2 (n:Int):(be8 n)[7]?=some (byI n):=rfl
theorem Zgo (m:Nat):byI ((m+1:Nat):Int)≠byI ((m - 1:Nat):Int):=fun h=>by have a:=congrArg (fun x:UInt8=>(x.toNat:Int)) h;simp only[Cy] at a;omega
theorem Iv (m h f:Nat):(Am m h f).take 8=be8 (m:Int)∧(Am m h f).drop 56=be8 (m:Int)∧(Am m h f)[8]?=some (UInt8.ofNat h)∧((Am m h f).drop 9).take 4=[byI ((f:Int) / 16777216),byI ((f:Int) / 65536),byI ((f:Int) / 256),byI f]:=⟨rfl,rfl,rfl,rfl⟩
theorem OldM.torn {m h f:Nat}{x:Sec}(e:x.length=64)(c:OldM m x){T:Nat}(hT:T < 64):OldM m (mix T (Am (m+1) h f) x):=by
 obtain⟨t,b,j,i,k,g,d⟩:=c;have a:(Am (m+1) h f).length=x.length:=by rw[Ee,e]
 obtain⟨p1,p2,-,-⟩:=Iv (m+1) h f;refine⟨max (min T 8) t,max (T - 56) b,by omega,by omega,by omega,?_,?_⟩
 ·rw[Z8a a,p1,g,Z5b (by rw[Io,Io])]
 ·rw[Z8g a,p2,d,Z5b (by rw[Io,Io])]
theorem OldM.look {m:Nat}{x:Sec}(f:OldM m x)(c:x.take 8=x.drop 56):x.take 8=be8 ((m - 1:Nat):Int):=by
 obtain⟨t,d,j,i,n,g,a⟩:=f;have b:(be8 ((m+1:Nat):Int)).length=(be8 ((m - 1:Nat):Int)).length:=by rw[Io,Io]
 have e:=congrArg (fun l:Bs=>l[7]?) (c.symm.trans g);have e:(x.drop 56)[7]?=(mix t (be8 ((m+1:Nat):Int)) (be8 ((m - 1:Nat):Int)))[7]?:=e;rw[a,Ik b,Ik b,Zg2,Zg2,db (by omega)] at e;have k:t≤7:=by refine Nat.le_of_not_lt fun h=>?_;rw[dc h] at e;injection e with e;exact Zgo m e.symm
 have:d=0:=by omega
 subst this;rw[c,a];rfl
theorem OldM.of_mark (m h f:Nat):OldM (m+1) (Am m h f):=by obtain⟨p1,p2,-,-⟩:=Iv m h f;exact⟨0,0,by omega,by omega,.inl rfl,p1,p2⟩
theorem P1:OldM 0 sec0∧OldM 1 sec0:=⟨⟨0,0,by omega,by omega,.inl rfl,rfl,rfl⟩,⟨0,0,by omega,by omega,.inl rfl,rfl,rfl⟩⟩
structure Rec (s:List Sec)(m h:Nat)(c:Bs):Prop where
 len:s.length=1100
 sec:∀x∈s,x.length=64
 half:h < 2
 few:c.length≤35136
 zero:m=0→h=0∧c=[]∧s[0]?=some sec0
 mark:0 < m→s[m % 2]?=some (Am m h c.length)
 old:∃x,s[(m+1) % 2]?=some x∧OldM m x
 cont:Z6t s h c
theorem Wk {d:RD}{n:Nat}{x:Sec}(hd:d.dead=false)(c:d.now[n]?=some x):Dp d n=if x.take 8≠x.drop 56 then⟨0,0,0,false⟩ else⟨Dc (x.take 8),((x[8]?).getD 0).toNat,Dc ((x.drop 9).take 4),decide (((x[8]?).getD 0).toNat < 2)&&decide (Dc ((x.drop 9).take 4)≤35136)⟩:=by
 have e:=(ac.1 c).1;have b:K7 d n=0:=by unfold K7;rw[hd,db (by decide),db (by omega)]
 have hr:Ni d n=x:=by unfold Ni;rw[db (fun h=>h b),az,c];rfl
 unfold Dp;dsimp only;rw[hr];by_cases h:x.take 8=x.drop 56
 ·rw[db (by rintro(a | a);exact a b;exact a h),db (fun a=>a h)]
 ·rw[dc (.inr h),dc h]
theorem Zav (f:Nat)(h:f≤35136):Dc [byI ((f:Int) / 16777216),byI ((f:Int) / 65536),byI ((f:Int) / 256),byI f]=f:=by have a:=Cy ((f:Int) / 16777216);have b:=Cy ((f:Int) / 65536);have d:=Cy ((f:Int) / 256);have c:=Cy (f:Int);show(((0 * 256+(byI ((f:Int) / 16777216)).toNat) * 256+(byI ((f:Int) / 65536)).toNat) * 256+(byI ((f:Int) / 256)).toNat) * 256+(byI (f:Int)).toNat=f;omega
theorem Z3b {d:RD}{n m h f:Nat}(hd:d.dead=false)(g:d.now[n]?=some (Am m h f))(e:h < 2)(hf:f≤35136)(c:(m:Int)≤big):Dp d n=⟨m,h,f,true⟩:=by
 obtain⟨p1,p2,p3,p4⟩:=Iv m h f;rw[Wk hd g,p1,p2,p3,p4,db (fun h=>h rfl),Zav f hf];have b:Dc (be8 (m:Int))=m:=by have:=P0 (m:Int) (by omega) c;omega
 have a:((some (UInt8.ofNat h)).getD 0).toNat=h:=by show(UInt8.ofNat h).toNat=h;rw[UInt8.toNat_ofNat'];omega
 rw[b,a,decide_eq_true e,decide_eq_true hf];rfl
theorem W9 {d:RD}{n m:Nat}{x:Sec}(hd:d.dead=false)(c:d.now[n]?=some x)(b:OldM m x)(e:(m:Int)≤big):(Dp d n).mark=0∨(Dp d n).mark < m:=by
 rw[Wk hd c];by_cases h:x.take 8=x.drop 56
 ·rw[db (fun a=>a h),b.look h];have:=P0 ((m - 1:Nat):Int) (by omega) (by omega);show Dc (be8 ((m - 1:Nat):Int))=0∨Dc (be8 ((m - 1:Nat):Int)) < m;omega
 ·rw[dc h];exact .inl rfl
theorem Z6q {d:RD}{m h:Nat}{c:Bs}(hd:d.dead=false)(hr:Rec d.now m h c)(i:(m:Int)≤big):L8 d=⟨m,h,c.length,true⟩:=by
 obtain⟨x,n,p⟩:=hr.old;have lo:=W9 hd n p i;unfold L8;rcases Nat.eq_zero_or_pos m with b | b
 ·subst b;obtain⟨k,o,j⟩:=hr.zero rfl;subst k o;have q:=W9 hd j P1.1 (by decide);have a:Fv ⟨0,0,0,true⟩ (Dp d 0)=⟨0,0,0,true⟩:=by unfold Fv;rw[db (fun f=>by have:=f.2;dsimp only at this;omega)]
  have l:Fv ⟨0,0,0,true⟩ (Dp d 1)=⟨0,0,0,true⟩:=by have lo:(Dp d 1).mark=0∨(Dp d 1).mark < 0:=lo;unfold Fv;rw[db (fun f=>by have:=f.2;dsimp only at this;omega)]
  rw[a,l];rfl
 ·have g:=Z3b hd (hr.mark b) hr.half hr.few i;rcases(by omega:m % 2=0∨m % 2=1) with e | e
  ·rw[e] at g;rw[show(m+1) % 2=1 by omega] at lo;rw[g];have a:Fv ⟨0,0,0,true⟩ ⟨m,h,c.length,true⟩=⟨m,h,c.length,true⟩:=by unfold Fv;rw[dc ⟨rfl,b⟩]
   rw[a];unfold Fv;rw[db (fun f=>by have:=f.2;dsimp only at this;omega)]
  ·rw[e] at g;rw[show(m+1) % 2=0 by omega] at lo;rw[g];have a:(Fv ⟨0,0,0,true⟩ (Dp d 0)).mark < m:=by
    unfold Fv;split
    ·omega
    ·exact b
   generalize Fv ⟨0,0,0,true⟩ (Dp d 0)=y at a⊢;unfold Fv;rw[dc ⟨rfl,a⟩]
theorem Rt:∀(L:List Sec) (i:Nat),(∀x∈L,x.length=64)→L.flatten[i]?=(L[i / 64]?.getD [])[i % 64]?
 | [],i,_=>by simp
 | x::L,i,h=>by
  have a:=h x (by simp);rw[b8,List.getElem?_append];by_cases hi:i < 64
  ·rw[dc (by omega),show i / 64=0 by omega,show i % 64=i by omega];rfl
  ·rw[db (by omega),a,Rt L (i - 64) (fun y hy=>h y (by simp[hy])),show i / 64=(i - 64) / 64+1 by omega,show i % 64=(i - 64) % 64 by omega];rfl
theorem Z06 {d:RD}{h:Nat}{c:Bs}(b:∀x∈d.now,x.length=64)(hf:c.length≤35136)(a:Z6t d.now h c):(D6 d h).take c.length=c:=by
 refine cp fun i=>?_;rw[bj];by_cases hi:i < c.length
 ·rw[dc hi,←a i hi];unfold D6 Zeb;rw[Rt _ _ fun x e=>b x (b7 (be e)),bj,dc (by omega),bw]
 ·rw[db hi,b9 (by omega)]
theorem Ve:∀(l:List ByteArray),(∀s∈l,s.size≤4096)→Ng (Ak l)=some l
 | [],_=>Xy
 | s::l,h=>by
  have k:=h s (by simp);have b:s.data.toList.length=s.size:=by rw[cd];rfl
  have e:Ak (s::l)=frB s++Ak l:=rfl;have d:(Ak (s::l)).length=s.size+4+(Ak l).length:=by rw[e,ax,Dx]
  have f:(Ak (s::l)).take 4=[byI ((s.size:Int) / 16777216),byI ((s.size:Int) / 65536),byI ((s.size:Int) / 256),byI s.size]:=rfl;have c:(Ak (s::l)).drop 4=s.data.toList++Ak l:=rfl;have j:(Ak (s::l)).drop (4+s.size)=Ak l:=by rw[←List.drop_drop,c,←b,List.drop_left]
  have g:((Ak (s::l)).drop 4).take s.size=s.data.toList:=by rw[c,←b,List.take_left]
  have a:Ak (s::l)≠[]:=fun h=>by rw[h] at d;simp at d;omega
  rw[R6 a,db (by omega),f,Zav s.size (by omega),db (by omega),j,g,Ve l fun x i=>h x (by simp[i])];rfl
theorem W7 {d:RD}{m h:Nat}{all:List ByteArray}(hd:d.dead=false)(hr:Rec d.now m h (Ak all))(a:(m:Int)≤big)(ha:∀s∈all,s.size≤4096):Z5g d=some ⟨m,h,(Ak all).length,Ak all,all,false,d⟩:=by have b:=Z6q hd hr a;unfold Z5g;rw[b];dsimp only;rw[Z06 hr.sec hr.few hr.cont,Ve all ha]
def Z43 (m h:Nat)(c:Bs)(w:Nat × Sec):Prop:=w.2.length=64∧∀s,Rec s m h c→∀T,Rec (s.set w.1 (mix T w.2 (s[w.1]?.getD []))) m h c
theorem Z5d {s:List Sec}{i:Nat}{x:Sec}(a:∀y∈s,y.length=64)(b:x.length=64){T:Nat}(hT:64≤T):s.set i (mix T x (s[i]?.getD []))=s.set i x:=by
 by_cases hi:i < s.length
 ·rw[ab hi];show s.set i (mix T x s[i])=_;rw[Ze8 (by rw[b,a _ (bm hi)]) (by omega)]
 ·rw[List.set_eq_of_length_le (by omega),List.set_eq_of_length_le (by omega)]
theorem Lz {m h:Nat}{c:Bs}:∀(ws:List (Nat × Sec)) (s:List Sec),(∀w∈ws,Z43 m h c w)→Rec s m h c→Rec (Gu s ws) m h c
 | [],_,_,hr=>hr
 | w::ws,s,hw,hr=>by have b:=hw w (by simp);have a:=b.2 s hr 64;rw[Z5d hr.sec b.1 (af _)] at a;exact Lz ws _ (fun x d=>hw x (by simp[d])) a
structure Safe (m h:Nat)(c:Bs)(d:RD):Prop where
 rc:Rec d.firm m h c
 now:d.now=Gu d.firm d.wait
 wait:∀w∈d.wait,Z43 m h c w
theorem Safe.crash {m h:Nat}{c:Bs}{d:RD}(b:Safe m h c d)(k t:Int):Rec (Bb d k t) m h c:=by
 have e:=Lz (d.wait.take (Iw d k)) d.firm (fun w a=>b.wait w (be a)) b.rc;unfold Bb;dsimp only;split
 ·next w a=>exact(b.wait w (ae a)).2 _ e _
 ·exact e
theorem Ea (d:RD):(Bt d).now=d.now∧(Bt d).firm=d.firm∧(Bt d).wait=d.wait:=by unfold Bt;split<;>exact⟨rfl,rfl,rfl⟩
theorem Z4t (f:List Sec)(ws:List (Nat × Sec))(w:Nat × Sec):Gu f (ws++[w])=(Gu f ws).set w.1 w.2:=by unfold Gu;rw[List.foldl_append];rfl
theorem Safe.write {m h:Nat}{c:Bs}{d:RD}(e:Safe m h c d){n:Int}{b:Sec}(j:Z43 m h c (n.toNat,Ek b)):Safe m h c (Ad d n b):=by
 unfold Ad;split
 ·exact e
 ·split
  ·exact e
  ·obtain⟨i,g,f⟩:=Ea (Z5s d n.toNat (Ek b));refine⟨by rw[g];exact e.rc,?_,fun w a=>?_⟩
   ·rw[i,g,f];show d.now.set _ _=Gu d.firm (d.wait++[_]);rw[Z4t,e.now]
   ·rw[f] at a;rcases bu.1 a with a | a
    ·exact e.wait w a
    ·rw[bo.1 a];exact j
theorem Safe.sync {m h:Nat}{c:Bs}{d:RD}(a:Safe m h c d):Safe m h c (Aa d):=by
 obtain⟨g,f,e⟩:=Ea d;unfold Aa;split
 ·exact a
 ·split
  ·exact⟨by rw[f];exact a.rc,by rw[g,f,e];exact a.now,fun w b=>a.wait w (by rwa [e] at b)⟩
  ·refine⟨Lz _ _ a.wait a.rc,?_,fun w b=>by cases b⟩;show(Bt d).now=Gu (Gu d.firm d.wait) [];rw[g,a.now];rfl
theorem Safe.runW {m h:Nat}{c:Bs}{f:Nat}{b:Bs}:∀(a:List Nat) {d:RD},Safe m h c d→(∀n∈a,Z43 m h c (f+n,Ek (chB b n)))→Safe m h c (runW f b a d).1
 | [],_,hs,_=>hs
 | n::a,d,hs,hk=>by
  have e:Safe m h c (Ad d ((f+n:Nat):Int) (chB b n)):=hs.write (by rw[az];exact hk n (by simp));rw[Ei];split
  ·exact Safe.runW a e fun x g=>hk x (by simp[g])
  ·exact e
theorem Zh {m h:Nat}{c:Bs}{h' n:Nat}{x:Sec}(t:h' < 2)(v:n < 549)(g:x.length=64)(j:h'=h→∀i,i < c.length→i / 64=n→x[i % 64]?=c[i]?):Z43 m h c (Cw h'+n,x):=by
 refine⟨g,fun s hr T=>?_⟩;have d:Cw h'+n < s.length:=by rw[hr.len];unfold Cw;omega
 have u:2≤Cw h'+n:=by unfold Cw;omega
 show Rec (s.set (Cw h'+n) (mix T x (s[Cw h'+n]?.getD []))) m h c;have q:(s[Cw h'+n]?.getD []).length=64:=by rw[ab d];exact hr.sec _ (bm d)
 refine⟨by rw[bh];exact hr.len,fun y hy=>?_,hr.half,hr.few,fun k=>?_,fun k=>?_,?_,fun i hi=>?_⟩
 ·rcases co hy with hy | rfl
  ·exact hr.sec y hy
  ·rw[Us (by rw[g,q])];exact g
 ·obtain⟨a,b,e⟩:=hr.zero k;exact⟨a,b,by rw[ce (by omega)];exact e⟩
 ·rw[ce (by omega)];exact hr.mark k
 ·obtain⟨y,hy,l⟩:=hr.old;exact⟨y,by rw[ce (by omega)];exact hy,l⟩
 ·have f:=hr.cont i hi;unfold Zeb at f⊢;by_cases e:Cw h'+n=Cw h+i / 64
  ·have r:=hr.half;have p:=hr.few;have o:h'=h∧i / 64=n:=by unfold Cw at e;omega
   rw[←e] at f⊢;rw[c7 d];show(mix T x _)[i % 64]?=_;rw[Ik (by rw[g,q])];split
   ·exact j o.1 i hi o.2
   ·exact f
  ·rw[ce e];exact f
theorem Zak {b:Bs}{n k:Nat}(a:k < 64)(h:n * 64+k < b.length):(Ek (chB b n))[k]?=b[n * 64+k]?:=by unfold Ek chB;rw[bl (by simp;omega),bj,dc a,bj,dc a,bw]
theorem Rh {d:RD}{n:Int}{b:Sec}(h:Bg d n b=0):(Ad d n b).now=d.now.set n.toNat (Ek b):=by
 unfold Bg at h;unfold Ad;by_cases a:K7 d n=0
 ·rw[db (fun h=>h a)] at h⊢;by_cases c:b.length > 64
  ·rw[dc c] at h;cases h
  ·rw[db c];exact(Ea _).1
 ·rw[dc a] at h;exact de h a
theorem Vx (f:Nat)(b:Bs):∀(a:List Nat) (d:RD),(runW f b a d).2=true→(∀n∈a,f+n < d.now.length)→∀i,(runW f b a d).1.now[i]?=if f≤i∧i - f∈a then some (Ek (chB b (i - f))) else d.now[i]?
 | [],d,_,_,i=>by rw[db (fun h=>by cases h.2)];rfl
 | n::a,d,hr,hl,i=>by
  rw[Ei] at hr⊢;by_cases j:Bg d ((f+n:Nat):Int) (chB b n)=0
  ·rw[dc j] at hr⊢;have e:=Rh j;rw[az] at e;rw[Vx f b a _ hr (fun x m=>by rw[e,bh];exact hl x (by simp[m])) i,e];by_cases c:f≤i∧i - f∈a
   ·rw[dc c,dc ⟨c.1,by simp[c.2]⟩]
   ·rw[db c];by_cases k:i=f+n
    ·subst k;rw[c7 (hl n (by simp)),dc ⟨by omega,by simp⟩,show f+n - f=n by omega]
    ·rw[ce (fun h=>k h.symm),db];rintro⟨l,g⟩;rcases bi.1 g with g | g
     ·omega
     ·exact c ⟨l,g⟩
  ·rw[db j] at hr;cases hr
theorem Sb {h:Nat}{b:Bs}{frm:Nat}{d:RD}(f:h < 2)(g:b.length≤35136)(a:d.now.length=1100)(hr:(runW (Cw h) b (nsW b frm) d).2=true)(k:Z6t d.now h (b.take frm)):Z6t (runW (Cw h) b (nsW b frm) d).1.now h b:=by
 intro i hi;unfold Zeb;rw[Vx _ _ _ _ hr (fun n j=>by have:=Z5a g j;rw[a];unfold Cw;omega)];by_cases c:i / 64∈nsW b frm
 ·rw[dc ⟨by omega,by rw[show Cw h+i / 64 - Cw h=i / 64 by omega];exact c⟩,show Cw h+i / 64 - Cw h=i / 64 by omega];show(Ek (chB b (i / 64)))[i % 64]?=_;rw[Zak (by omega) (by omega),show i / 64 * 64+i % 64=i by omega]
 ·rw[db (fun f=>c (by have:=f.2;rwa [show Cw h+i / 64 - Cw h=i / 64 by omega] at this))];unfold nsW at c;rw[List.mem_range'_1] at c;have e:i < frm:=by omega
  have:=k i (by rw[aw];omega);rw[bj,dc e] at this;exact this
theorem Z7t {s:List Sec}{m h:Nat}{c:Bs}(hr:Rec s m h c)(h' f:Nat){T:Nat}(hT:T < 64):Rec (s.set ((m+1) % 2) (mix T (Am (m+1) h' f) (s[(m+1) % 2]?.getD []))) m h c:=by
 obtain⟨x,k,n⟩:=hr.old;have d:=hr.sec x (ae k);have l:=(ac.1 k).1;rw[k];show Rec (s.set ((m+1) % 2) (mix T (Am (m+1) h' f) x)) m h c;have g:(mix T (Am (m+1) h' f) x).length=64:=by rw[Us (by rw[Ee,d]),Ee]
 refine⟨by rw[bh];exact hr.len,fun y hy=>?_,hr.half,hr.few,fun j=>?_,fun j=>?_,⟨_,c7 l,n.torn d hT⟩,fun i hi=>?_⟩
 ·rcases co hy with hy | rfl
  ·exact hr.sec y hy
  ·exact g
 ·obtain⟨a,b,e⟩:=hr.zero j;exact⟨a,b,by rw[ce (by omega)];exact e⟩
 ·rw[ce (by omega)];exact hr.mark j
 ·have:=hr.cont i hi;unfold Zeb at this⊢;rw[ce (by unfold Cw;omega)];exact this
theorem Pd {s:List Sec}{m h:Nat}{c:Bs}(hr:Rec s m h c){h':Nat}{b:Bs}(e:h' < 2)(hf:b.length≤35136)(f:Z6t s h' b):Rec (s.set ((m+1) % 2) (Am (m+1) h' b.length)) (m+1) h' b:=by
 have d:(m+1) % 2 < s.length:=by rw[hr.len];omega
 refine⟨by rw[bh];exact hr.len,fun y hy=>?_,e,hf,fun a=>by omega,fun _=>c7 d,?_,fun i hi=>?_⟩
 ·rcases co hy with hy | rfl
  ·exact hr.sec y hy
  ·exact Ee _ _ _
 ·rw[show(m+1+1) % 2=m % 2 by omega];rcases Nat.eq_zero_or_pos m with a | a
  ·subst a;exact⟨sec0,by rw[ce (by omega)];exact(hr.zero rfl).2.2,P1.2⟩
  ·exact⟨_,by rw[ce (by omega)];exact hr.mark a,OldM.of_mark _ _ _⟩
 ·have:=f i hi;unfold Zeb at this⊢;rw[ce (by unfold Cw;omega)];exact this
theorem Ze {x:Sec}(h:x.length=64):Ek x=x:=by unfold Ek;rw[ap (by omega),h];simp
theorem Vy {l:LD}{m h:Nat}{c:Bs}(G:Safe m h c l.d){h':Nat}{a:Bs}(w:h' < 2)(hf:a.length≤35136)(M:Z6t l.d.now h' a)(O:l.mark=m) :
  (∀k t,Rec (Bb (Ah l h' a.length).d k t) m h c∨Rec (Bb (Ah l h' a.length).d k t) (m+1) h' a)∧((Ah l h' a.length).dead=false→Rec (Ah l h' a.length).d.now (m+1) h' a∧(Ah l h' a.length).d.firm=(Ah l h' a.length).d.now):=by
 subst O;unfold Ah;by_cases r:Ct l.d≠0
 ·rw[dc r];exact⟨fun k t=>.inl (G.sync.crash k t),fun h=>by cases h⟩
 ·rw[db r];have r:Ct l.d=0:=Decidable.not_not.1 r;have g:=(Lk r).2.1;have v:=G.sync;have L:(Aa l.d).now=l.d.now:=by
   unfold Aa;split
   ·rfl
   ·split<;>exact(Ea l.d).1
  have C:(Aa l.d).firm=(Aa l.d).now:=by have:=v.now;rw[g] at this;exact this.symm
  have hr:=v.rc;have hc1:Z6t (Aa l.d).firm h' a:=by rw[C,L];exact M
  have I:Ek (Am (l.mark+1) h' a.length)=Am (l.mark+1) h' a.length:=Ze (Ee _ _ _);have old:∀(d:RD),d.firm=(Aa l.d).firm→(d.wait=[]∨d.wait=[((l.mark+1) % 2,Am (l.mark+1) h' a.length)])→∀k t,Rec (Bb d k t) l.mark h c∨Rec (Bb d k t) (l.mark+1) h' a:=fun d J p k t=>by
   unfold Bb;dsimp only;rw[J];rcases p with p | p
   ·rw[p];simp only[List.take_nil,List.getElem?_nil];exact .inl hr
   ·have y:Iw d k=0∨Iw d k=1:=by unfold Iw;rw[p];show(min (max k 0) 1).toNat=0∨(min (max k 0) 1).toNat=1;omega
    rw[p];rcases y with B | B
    ·rw[B];show Rec ((Aa l.d).firm.set _ (Ld _ _ t)) _ _ _∨Rec ((Aa l.d).firm.set _ (Ld _ _ t)) _ _ _;unfold Ld;by_cases hT:(min (max t 0) 64).toNat < 64
     ·exact .inl (Z7t hr h' _ hT)
     ·refine .inr ?_;have:=Z5d (i:=(l.mark+1) % 2) hr.sec (Ee (l.mark+1) h' a.length) (T:=(min (max t 0) 64).toNat) (by omega);have:=this ▸ Pd hr w hf hc1;exact this
    ·rw[B];exact .inr (Pd hr w hf hc1)
  have b:(Ad (Aa l.d) (((l.mark+1) % 2:Nat):Int) (Am (l.mark+1) h' a.length)).firm=(Aa l.d).firm∧((Ad (Aa l.d) (((l.mark+1) % 2:Nat):Int) (Am (l.mark+1) h' a.length)).wait=[]∨(Ad (Aa l.d) (((l.mark+1) % 2:Nat):Int) (Am (l.mark+1) h' a.length)).wait=[((l.mark+1) % 2,Am (l.mark+1) h' a.length)]):=by
   unfold Ad;split
   ·exact⟨rfl,.inl g⟩
   ·split
    ·exact⟨rfl,.inl g⟩
    ·obtain⟨a1,a2,K⟩:=Ea (Z5s (Aa l.d) ((((l.mark+1) % 2:Nat):Int)).toNat (Ek (Am (l.mark+1) h' a.length)));refine⟨a2,.inr ?_⟩;rw[K];show(Aa l.d).wait++[_]=_;rw[g,I,az];rfl
  by_cases n:Bg (Aa l.d) (((l.mark+1) % 2:Nat):Int) (Am (l.mark+1) h' a.length)≠0
  ·rw[dc n];exact⟨old _ b.1 b.2,fun h=>by cases h⟩
  ·rw[db n];have n:=Decidable.not_not.1 n;have o:=Rh n;rw[I,az] at o;generalize A:Ad (Aa l.d) (((l.mark+1) % 2:Nat):Int) (Am (l.mark+1) h' a.length)=d2 at b o⊢;have s:Rec d2.now (l.mark+1) h' a:=by
    rw[o,←C];exact Pd hr w hf hc1
   have u:=Ea d2;have D:Gu d2.firm d2.wait=d2.now:=by
    rcases b.2 with e | e
    ·exfalso;have:d2.wait.length=1:=by
      rw[←A];unfold Ad;unfold Bg at n;by_cases z:K7 (Aa l.d) (((l.mark+1) % 2:Nat):Int)=0
      ·rw[db (fun h=>h z)] at n⊢;rw[db (by rw[Ee];omega),(Ea _).2.2];show((Aa l.d).wait++[_]).length=1;rw[g];rfl
      ·rw[dc z] at n;exact de n z
     rw[e] at this;cases this
    ·rw[e,b.1,o,C];rfl
   have x:Ct d2=0→(Aa d2).firm=d2.now∧(Aa d2).wait=[]∧(Aa d2).now=d2.now:=fun f=>by
    have q:=Lk f;unfold Ct at f;have j:¬(d2.dead=true∨E3 d2=true):=fun h=>by rw[dc h] at f;cases f
    unfold Aa;rw[db (fun h=>j (.inl h)),db (fun h=>j (.inr h))];exact⟨D,rfl,u.1⟩
   by_cases f:Ct d2≠0
   ·rw[dc f];refine⟨?_,fun h=>by cases h⟩;have F:(Aa d2).firm=d2.firm∧(Aa d2).wait=d2.wait:=by
     unfold Ct at f;have j:d2.dead=true∨E3 d2=true:=by
      by_cases j:d2.dead=true∨E3 d2=true
      ·exact j
      ·rw[db j] at f;exact de rfl f
     unfold Aa;split
     ·exact⟨rfl,rfl⟩
     ·next P =>
      rw[dc (by rcases j with j | j;exact de j P;exact j)];exact u.2
    exact old _ (F.1.trans b.1) (by show(Aa d2).wait=[]∨(Aa d2).wait=_;rw[F.2];exact b.2)
   ·rw[db f];obtain⟨H,N,E⟩:=x (Decidable.not_not.1 f);refine⟨fun k t=>.inr ?_,fun _=>⟨?_,?_⟩⟩
    ·show Rec (Bb (Aa d2) k t) _ _ _;unfold Bb;dsimp only;rw[N,H];simp only[List.take_nil,List.getElem?_nil];exact s
    ·show Rec (Aa d2).now _ _ _;rw[E];exact s
    ·show(Aa d2).firm=(Aa d2).now;rw[H,E]
structure RLd (l:LD):Prop where
 rc:Rec l.d.now l.mark l.half l.b
 firm:l.d.firm=l.d.now
 f:l.firm=l.b.length
 sz:∀s∈l.all,s.size≤4096
theorem RLd.safe {k:Nat}{l:LD}(h:RLd l)(a:WSt k l):Safe l.mark l.half l.b l.d :=
 ⟨by rw[h.firm];exact h.rc,by rw[a.wait];exact h.firm.symm,by rw[a.wait];nofun⟩
theorem V8 {l:LD}{m h:Nat}{c:Bs}(o:Safe m h c l.d){h':Nat}(j:h' < 2){b:Bs}{frm:Nat}(f:b.length≤35136)(a:h'=h→∀i,i < c.length→b[i]?=c[i]?)(k:h'=h→c.length≤b.length):Safe m h c (wrL l h' b frm).d:=by unfold wrL;refine Safe.runW _ o fun n g=>Zh j (Z5a f g) (Cz _) fun e i hi p=>?_;have:=k e;rw[Zak (by omega) (by omega),show n * 64+i % 64=i by omega];exact a e i hi
theorem Zao {k:Nat}{l:LD}(f:WSt k l)(h:RLd l)(s:ByteArray)(e:Eb l s=0) :
  (∀kp t,Rec (Bb (Ic (Bj l s)).d kp t) l.mark l.half l.b∨Rec (Bb (Ic (Bj l s)).d kp t) (l.mark+1) l.half (l.b++frB s))∧s.size≤4096∧(N9 (Bj l s)=0→RLd (Ic (Bj l s))):=by
 unfold Eb at e;rw[db (by rw[f.dead];decide)] at e;have p:¬s.size > 4096:=fun q=>by rw[dc q] at e;cases e
 rw[db p] at e;have g:¬(s.size:Int) > Fa l:=fun q=>by rw[dc q] at e;cases e
 rw[db g] at e;have c:wrE l l.half (l.b++frB s) l.b.length=true:=by
  cases c:wrE l l.half (l.b++frB s) l.b.length with
  | true=>rfl
  | false=>rw[c] at e;cases e
 have C:Bj l s={wrL l l.half (l.b++frB s) l.b.length with b:=l.b++frB s,all:=l.all++[s]}:=by unfold Bj;rw[db (by rw[f.dead];decide),db p,db g,dc c]
 have a:(l.b++frB s).length≤35136:=by rw[ax,Dx];have:=f.len;unfold Fa at g;omega
 obtain⟨r,M⟩:=Mt f.dd c;have w:=V8 (frm:=l.b.length) (h.safe f) f.half a (fun _ i hi=>by rw[bl hi]) (fun _=>by rw[ax];omega);have z:Z6t (wrL l l.half (l.b++frB s) l.b.length).d.now l.half (l.b++frB s):=Sb f.half a f.many c (by rw[List.take_left];exact h.rc.cont);generalize j:({wrL l l.half (l.b++frB s) l.b.length with b:=l.b++frB s,all:=l.all++[s]}:LD)=x at C;have E:x.dead=false:=by rw[←j];exact r
 have K:x.d=(wrL l l.half (l.b++frB s) l.b.length).d:=by rw[←j]
 have B:x.mark=l.mark:=by rw[←j];rfl
 have A:x.half=l.half:=by rw[←j];rfl
 have v:x.b=l.b++frB s:=by rw[←j]
 have J:x.all=l.all++[s]:=by rw[←j]
 rw[C];have u:Ic x=Ah x x.half x.b.length:=by unfold Ic;rw[db (by rw[E];decide)]
 rw[←K] at w z;obtain⟨L,I⟩:=Vy w f.half a z B;rw[u,A,v];refine⟨L,by omega,fun m=>?_⟩;have n:(Ah x l.half (l.b++frB s).length).dead=false:=by
  unfold N9 at m;rw[db (by rw[E];decide)] at m;unfold D7 at m;rw[A,v] at m;cases hz:(Ah x l.half (l.b++frB s).length).dead with
  | false=>rfl
  | true=>rw[hz] at m;cases m
 obtain⟨O,P⟩:=I n;obtain⟨R,Q,o⟩:=Lh n;have G:(Ah x l.half (l.b++frB s).length).mark=l.mark+1:=by rw[o];show x.mark+1=_;rw[B]
 have F:(Ah x l.half (l.b++frB s).length).half=l.half:=by rw[o]
 have D:(Ah x l.half (l.b++frB s).length).b=l.b++frB s:=by rw[o];exact v
 have N:(Ah x l.half (l.b++frB s).length).all=l.all++[s]:=by rw[o];exact J
 have H:(Ah x l.half (l.b++frB s).length).firm=(l.b++frB s).length:=by rw[o]
 refine⟨by rw[G,F,D];exact O,P,by rw[H,D],fun y hy=>?_⟩;rw[N] at hy;rcases bu.1 hy with hy | hy
 ·exact h.sz y hy
 ·rw[bo.1 hy];omega
theorem Zf1 {k:Nat}{l:LD}(c:WSt k l)(h:RLd l)(s:ByteArray)(kp t:Int):Rec (Bb (Bj l s).d kp t) l.mark l.half l.b:=by
 unfold Bj;split
 ·exact(h.safe c).crash kp t
 ·split
  ·exact(h.safe c).crash kp t
  ·split
   ·exact(h.safe c).crash kp t
   ·next j g f =>
    have a:(l.b++frB s).length≤35136:=by rw[ax,Dx];have:=c.len;unfold Fa at f;omega
    have e:=V8 (frm:=l.b.length) (h.safe c) c.half a (fun _ i hi=>by rw[bl hi]) (fun _=>by rw[ax];omega);split
    ·exact e.crash kp t
    ·exact e.crash kp t
theorem Hw {all:List ByteArray}(h:Nh all=0):(Ak all).length≤35136∧∀s∈all,s.size≤4096:=by
 unfold Nh at h;split at h
 ·cases h
 ·next b =>
  split at h
  ·cases h
  ·refine⟨by omega,fun s c=>?_⟩;rw[List.any_eq_true] at b;refine Nat.le_of_not_lt fun a=>b ⟨s,c,?_⟩;exact decide_eq_true a
theorem Xz {k:Nat}{l:LD}(f:WSt k l)(h:RLd l)(all:List ByteArray)(hf:Nh all=0) :
  (∀kp t,Rec (Bb (Eo l all).d kp t) l.mark l.half l.b∨Rec (Bb (Eo l all).d kp t) (l.mark+1) (1 - l.half) (Ak all))∧(Id l all=0→RLd (Eo l all)):=by
 obtain⟨a,n⟩:=Hw hf;have E:=f.half;have o:=V8 (frm:=0) (h.safe f) (h':=1 - l.half) (by omega) a (fun e=>by omega) (fun e=>by omega);have y:Eo l all=if wrE l (1 - l.half) (Ak all) 0=true then
   (if(Ah (wrL l (1 - l.half) (Ak all) 0) (1 - l.half) (Ak all).length).dead=true then Ah (wrL l (1 - l.half) (Ak all) 0) (1 - l.half) (Ak all).length
    else {Ah (wrL l (1 - l.half) (Ak all) 0) (1 - l.half) (Ak all).length with b:=Ak all,all:=all})
  else wrL l (1 - l.half) (Ak all) 0:=by
  unfold Eo;rw[db (by rw[f.dead];decide),db (fun h=>h hf)]
 have u:Id l all=if wrE l (1 - l.half) (Ak all) 0=true then D7 (wrL l (1 - l.half) (Ak all) 0) (1 - l.half) (Ak all).length else 40:=by unfold Id;rw[db (by rw[f.dead];decide),db (fun h=>h hf)]
 rw[y,u];cases hwe:wrE l (1 - l.half) (Ak all) 0 with
 | false =>
  rw[db (by decide),db (by decide)];exact⟨fun kp t=>.inl (o.crash kp t),fun h=>by cases h⟩
 | true =>
  rw[dc rfl,dc rfl];obtain⟨v,C⟩:=Mt f.dd hwe;have q:Z6t (wrL l (1 - l.half) (Ak all) 0).d.now (1 - l.half) (Ak all):=Sb (by omega) a f.many hwe (fun i hi=>by simp at hi);obtain⟨B,p⟩:=Vy o (h':=1 - l.half) (by omega) a q (show(wrL l (1 - l.half) (Ak all) 0).mark=l.mark from rfl);have g:∀x:LD,(if x.dead=true then x else {x with b:=Ak all,all:=all}).d=x.d:=fun x=>by split<;>rfl
  refine⟨fun kp t=>by rw[g];exact B kp t,fun j=>?_⟩;have c:(Ah (wrL l (1 - l.half) (Ak all) 0) (1 - l.half) (Ak all).length).dead=false:=by
   unfold D7 at j;cases hz:(Ah (wrL l (1 - l.half) (Ak all) 0) (1 - l.half) (Ak all).length).dead with
   | false=>rfl
   | true=>rw[hz] at j;cases j
  obtain⟨w,z⟩:=p c;obtain⟨D,F,m⟩:=Lh c;rw[db (by rw[c];decide)];have s:(Ah (wrL l (1 - l.half) (Ak all) 0) (1 - l.half) (Ak all).length).mark=l.mark+1:=by rw[m];rfl
  have r:(Ah (wrL l (1 - l.half) (Ak all) 0) (1 - l.half) (Ak all).length).half=1 - l.half:=by rw[m]
  have A:(Ah (wrL l (1 - l.half) (Ak all) 0) (1 - l.half) (Ak all).length).firm=(Ak all).length:=by rw[m]
  exact⟨by show Rec (Ah _ _ _).d.now (Ah _ _ _).mark (Ah _ _ _).half (Ak all);rw[s,r];exact w,z,A,n⟩
theorem S5 {d:RD}{kp t:Int}{m h:Nat}{all:List ByteArray}(hr:Rec (Bb d kp t) m h (Ak all))(a:(m:Int)≤big)(ha:∀s∈all,s.size≤4096):Z5g (Ef d kp t)=some ⟨m,h,(Ak all).length,Ak all,all,false,Ef d kp t⟩ :=
 W7 rfl hr a ha
theorem Wa {d:RD}(hd:WD d){kp t:Int}{m h:Nat}{all:List ByteArray}(hr:Rec (Bb d kp t) m h (Ak all))(ha:∀s∈all,s.size≤4096):WSt m ⟨m,h,(Ak all).length,Ak all,all,false,Ef d kp t⟩∧RLd ⟨m,h,(Ak all).length,Ak all,all,false,Ef d kp t⟩ :=
 ⟨⟨Fx hd kp t,hr.len,by show(0:Int)≤_;decide,rfl,hr.half,rfl,hr.few,af _,rfl,rfl⟩,⟨hr,rfl,rfl,ha⟩⟩
theorem Zy {k:Nat}{l:LD}(a:WSt k l)(h:RLd l)(kp t:Int):Rec (Bb l.d kp t) l.mark l.half l.b:=(h.safe a).crash kp t
theorem Z15:Rec (Z5 1100).now 0 0 (Ak []):=by
 have d:Z1a 1100=1100:=by decide
 have c:(Z5 1100).now=List.replicate 1100 sec0:=by unfold Z5;rw[d]
 have a:∀i,i < 1100→(List.replicate 1100 sec0)[i]?=some sec0:=fun i hi=>by rw[List.getElem?_replicate,dc hi]
 rw[c];refine⟨List.length_replicate ..,fun x b=>?_,by omega,ah _,fun _=>⟨rfl,rfl,a 0 (by omega)⟩,fun h=>by omega,⟨sec0,a _ (by omega),P1.1⟩,fun i hi=>by cases hi⟩;rw[(List.mem_replicate.1 b).2];exact List.length_replicate ..
end Go.Proofs.YtihfaocdpmmooaaGreat

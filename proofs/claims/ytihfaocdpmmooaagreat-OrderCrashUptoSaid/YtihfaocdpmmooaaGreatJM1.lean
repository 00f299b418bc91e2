
import Derived.Test.YtihfaocdpmmooaaGreatSMN
namespace Go.Proofs.YtihfaocdpmmooaaGreat
def zA (d:RD):RD:={d with armed:=0}
def zL (l:LD):LD:={l with d:=zA l.d}
def zN (n:PN):PN:={n with st:=zL n.st}
theorem nn {α:Type}{a b:α}(h:a=b):¬a≠b:=fun e=>e h
theorem Z9r {d:RD}(h:E3 d=false)(hd:d.dead=false):Bt d={d with armed:=(Bt d).armed}:=by
 obtain⟨a,b,c,r,e⟩:=d;obtain rfl:e=false:=hd;unfold E3 at h;unfold Bt;dsimp only at h⊢;split
 ·rfl
 ·next f =>
  rw[db f] at h;rw[h]
theorem Z5l {d:RD}{n:Int}{b:Sec}(h:Bg d n b=0):Bg (zA d) n b=0∧Ad (zA d) n b=zA (Ad d n b):=by
 unfold Bg at h;by_cases a:K7 d n=0
 ·rw[db (nn a)] at h;by_cases f:b.length > 64
  ·rw[dc f] at h;cases h
  rw[db f] at h;have g:E3 d=false:=by
   cases e:E3 d with
   | false=>rfl
   | true=>rw[e] at h;cases h
  have c:K7 (zA d) n=0:=a;have e:=Z9r (d:=Z5s d n.toNat (Ek b)) g (Mx a).1;unfold Bg Ad;rw[db (nn c),db f,db (nn c),db f,db (nn a),db f,e];exact⟨rfl,rfl⟩
 ·rw[dc a] at h;exact de h a
theorem Zac {d:RD}(h:Ct d=0):Ct (zA d)=0∧Aa (zA d)=zA (Aa d):=by
 unfold Ct at h;by_cases a:d.dead=true∨E3 d=true
 ·rw[dc a] at h;cases h
 ·have c:d.dead=false:=by
   cases e:d.dead with
   | false=>rfl
   | true=>exact de (.inl e) a
  have f:E3 d=false:=by
   cases e:E3 d with
   | false=>rfl
   | true=>exact de (.inr e) a
  have e:=Z9r f c;have b:¬((zA d).dead=true∨E3 (zA d)=true):=by
   rintro(h | h)
   ·rw[show(zA d).dead=d.dead from rfl,c] at h;cases h
   ·cases h
  unfold Ct Aa;rw[db b,db (fun e=>b (.inl e)),db (fun e=>b (.inr e)),db (fun e=>a (.inl e)),db (fun e=>a (.inr e)),e];exact⟨rfl,rfl⟩
theorem Za6 (f:Nat)(b:Bs):∀(c:List Nat) (d:RD),(runW f b c d).2=true→runW f b c (zA d)=(zA (runW f b c d).1,true)
 | [],_,_=>rfl
 | n::c,d,h=>by
  rw[Ei] at h⊢;rw[Ei];by_cases g:Bg d ((f+n:Nat):Int) (chB b n)=0
  ·obtain⟨a,e⟩:=Z5l g;rw[dc g] at h⊢;rw[dc a,e];exact Za6 f b c _ h
  ·rw[db g] at h;cases h
theorem Zkx {l:LD}{h:Nat}{b:Bs}{frm:Nat}(a:wrE l h b frm=true):wrE (zL l) h b frm=true∧wrL (zL l) h b frm=zL (wrL l h b frm):=by have e:=Za6 (Cw h) b (nsW b frm) l.d a;have c:(runW (Cw h) b (nsW b frm) l.d).2=true:=a;unfold wrE wrL zL;dsimp only;rw[e,c];exact⟨rfl,rfl⟩
theorem Zf7 {l:LD}{h f:Nat}(a:(Ah l h f).dead=false):Ah (zL l) h f=zL (Ah l h f):=by
 unfold Ah at a;by_cases b:Ct l.d=0
 ·rw[db (nn b)] at a;obtain⟨a1,a2⟩:=Zac b;by_cases c:Bg (Aa l.d) (((l.mark+1) % 2:Nat):Int) (Am (l.mark+1) h f)=0
  ·rw[db (nn c)] at a;obtain⟨b1,b2⟩:=Z5l c;by_cases e:Ct (Ad (Aa l.d) (((l.mark+1) % 2:Nat):Int) (Am (l.mark+1) h f))=0
   ·obtain⟨g,i⟩:=Zac e;unfold Ah;show(if Ct (zA l.d)≠0 then Gr (zL l) (Aa (zA l.d))
     else if Bg (Aa (zA l.d)) (((l.mark+1) % 2:Nat):Int) (Am (l.mark+1) h f)≠0 then Gr (zL l) (Ad (Aa (zA l.d)) (((l.mark+1) % 2:Nat):Int) (Am (l.mark+1) h f))
     else if Ct (Ad (Aa (zA l.d)) (((l.mark+1) % 2:Nat):Int) (Am (l.mark+1) h f))≠0 then Gr (zL l) (Aa (Ad (Aa (zA l.d)) (((l.mark+1) % 2:Nat):Int) (Am (l.mark+1) h f)))
     else({zL l with mark:=l.mark+1,half:=h,firm:=f,d:=Aa (Ad (Aa (zA l.d)) (((l.mark+1) % 2:Nat):Int) (Am (l.mark+1) h f))}:LD))=_
    rw[db (nn a1),a2,db (nn b1),b2,db (nn g),i,db (nn b),db (nn c),db (nn e)];rfl
   ·rw[dc e] at a;cases a
  ·rw[dc c] at a;cases a
 ·rw[dc b] at a;cases a
theorem W5 {l:LD}{h f:Nat}(a:D7 l h f=0):(Ah l h f).dead=false:=by
 unfold D7 at a;cases e:(Ah l h f).dead with
 | false=>rfl
 | true=>rw[e] at a;cases a
theorem Z40 {l:LD}{h f:Nat}(a:D7 l h f=0):D7 (zL l) h f=0∧Ah (zL l) h f=zL (Ah l h f):=by have hd:=W5 a;have e:=Zf7 hd;refine⟨?_,e⟩;unfold D7;rw[e];exact db (by show ¬(Ah l h f).dead=true;rw[hd];decide)
theorem Zjt {l:LD}{s:ByteArray}(h:Eb l s=0):Eb (zL l) s=0∧Bj (zL l) s=zL (Bj l s):=by
 unfold Eb at h;by_cases d:l.dead=true
 ·rw[dc d] at h;cases h
 rw[db d] at h;by_cases c:s.size > 4096
 ·rw[dc c] at h;cases h
 rw[db c] at h;by_cases f:(s.size:Int) > Fa l
 ·rw[dc f] at h;cases h
 rw[db f] at h;by_cases g:wrE l l.half (l.b++frB s) l.b.length=true
 ·obtain⟨a,e⟩:=Zkx g;have i:¬(zL l).dead=true:=d;have j:¬(s.size:Int) > Fa (zL l):=f;unfold Eb Bj;rw[db i,db c,db j,db i,db c,db j,db d,db c,db f,dc g];show(if wrE (zL l) l.half (l.b++frB s) l.b.length=true then(0:Int) else 40)=0∧(if wrE (zL l) l.half (l.b++frB s) l.b.length=true then({wrL (zL l) l.half (l.b++frB s) l.b.length with b:=l.b++frB s,all:=l.all++[s]}:LD) else wrL (zL l) l.half (l.b++frB s) l.b.length)=_;rw[dc a,dc a,e];exact⟨rfl,rfl⟩
 ·rw[db g] at h;cases h
theorem Zcu {l:LD}{s:ByteArray}(h:Eb l s=51):Eb (zL l) s=51:=by
 unfold Eb at h⊢;by_cases a:l.dead=true
 ·rw[dc a] at h;cases h
 have d:¬(zL l).dead=true:=a;rw[db a] at h;by_cases b:s.size > 4096
 ·rw[dc b] at h;cases h
 rw[db b] at h;by_cases c:(s.size:Int) > Fa l
 ·have e:(s.size:Int) > Fa (zL l):=c;rw[db d,db b,dc e]
 ·rw[db c] at h;split at h<;>cases h
theorem Zkf {l:LD}(h:N9 l=0):N9 (zL l)=0∧Ic (zL l)=zL (Ic l):=by
 unfold N9 at h;by_cases a:l.dead=true
 ·rw[dc a] at h;cases h
 rw[db a] at h;have b:¬(zL l).dead=true:=a;unfold N9 Ic;rw[db b,db b,db a];exact Z40 h
theorem Zi5 {l:LD}{all:List ByteArray}(h:Id l all=0):Id (zL l) all=0∧Eo (zL l) all=zL (Eo l all):=by
 unfold Id at h;by_cases d:l.dead=true
 ·rw[dc d] at h;cases h
 rw[db d] at h;by_cases c:Nh all=0
 ·rw[db (nn c)] at h;by_cases f:wrE l (1 - l.half) (Ak all) 0=true
  ·rw[dc f] at h;have hd:=W5 h;obtain⟨a,e⟩:=Zkx f;obtain⟨b,j⟩:=Z40 h;have g:¬(Ah (wrL l (1 - l.half) (Ak all) 0) (1 - l.half) (Ak all).length).dead=true:=by rw[hd];decide
   have i:¬(zL l).dead=true:=d;unfold Id Eo;rw[db i,db (nn c),db i,db (nn c),db d,db (nn c),dc f,db g];show(if wrE (zL l) (1 - l.half) (Ak all) 0=true then D7 (wrL (zL l) (1 - l.half) (Ak all) 0) (1 - l.half) (Ak all).length else(40:Int))=0∧(if wrE (zL l) (1 - l.half) (Ak all) 0=true then
  (if(Ah (wrL (zL l) (1 - l.half) (Ak all) 0) (1 - l.half) (Ak all).length).dead=true then Ah (wrL (zL l) (1 - l.half) (Ak all) 0) (1 - l.half) (Ak all).length
   else({Ah (wrL (zL l) (1 - l.half) (Ak all) 0) (1 - l.half) (Ak all).length with b:=Ak all,all:=all}:LD))
 else wrL (zL l) (1 - l.half) (Ak all) 0)=_
   rw[dc a,dc a,e,j,db (by show ¬(Ah (wrL l (1 - l.half) (Ak all) 0) (1 - l.half) (Ak all).length).dead=true;rw[hd];decide)];exact⟨b,rfl⟩
  ·rw[db f] at h;cases h
 ·rw[dc c] at h;exact de h c
theorem Rg {n:PN}{r:ByteArray}(h:C9 n r=true):C9 (zN n) r=true∧B3 (zN n) r=zN (B3 n r):=by
 unfold C9 at h;by_cases c:Eb n.st r=51
 ·rw[dc c,Kn c] at h;have h:=of_decide_eq_true h;have d:Eb (zN n).st r=51:=Zcu c;obtain⟨b,e⟩:=Zi5 h;have j:Id (zN n).st (C0 (zN n))=0:=b;have k:Eo (zN n).st (C0 (zN n))=zL (Eo n.st (C0 n)):=e;unfold C9 B3;rw[dc d,dc d,dc c,Kn d,Kn c,j,h,k];exact⟨rfl,rfl⟩
 ·rw[db c] at h;by_cases f:Eb n.st r=0
  ·rw[db (nn f)] at h;have h:=of_decide_eq_true h;obtain⟨l,i⟩:=Zjt f;obtain⟨b,e⟩:=Zkf h;have a:Eb (zN n).st r=0:=l;have g:Bj (zN n).st r=zL (Bj n.st r):=i;have d:¬Eb (zN n).st r=51:=by rw[a];decide
   unfold C9 B3;rw[db d,db d,db c,db (nn a),db (nn a),db (nn f),g,e,b,h];exact⟨rfl,rfl⟩
  ·rw[dc f] at h;cases h
theorem Z0i {n:PN}{v:Int}{l:List REnt}(h:Bu n v l=true):Bu (zN n) v l=true∧Ba (zN n) v l=zN (Ba n v l):=by unfold Bu at h;have h:=of_decide_eq_true h;obtain⟨b,e⟩:=Zi5 h;have a:Id (zN n).st (C0 (B6 (zN n) v l))=0:=b;have c:Eo (zN n).st (C0 (B6 (zN n) v l))=zL (Eo n.st (C0 (B6 n v l))):=e;unfold Bu Ba;rw[a,c,h];exact⟨rfl,rfl⟩
theorem Hj (n:PN)(i:Nat)(m:RM):Ao (zN n) i m=zN (Ao n i m):=by unfold Ao;split<;>rfl
theorem Z8z {f:PN→Nat→PN}(hf:∀n i,f (zN n) i=zN (f n i))(n:PN):∀k,I8 f (zN n) k=zN (I8 f n k)
 | 0=>rfl
 | k+1=>by rw[Di,Di,Z8z hf n k,hf];show(if k=(I8 f n k).self then _ else _)=_;split<;>rfl
theorem Lw (n:PN)(m:RM):An (zN n) m=zN (An n m):=Z8z (f:=fun n i=>Ao n i m) (fun n i=>Hj n i m) n _
theorem Z57 (n:PN):Cj (zN n)=zN (Cj n):=by unfold Cj;show(if Bi (By n) > n.cmt then An (zN {n with cmt:=Bi (By n)}) ⟨6,n.pmd,0,Bi (By n),[]⟩ else zN n)=_;rw[Lw];split<;>rfl
theorem Z09 {n:PN}(h:(B2 n).dead=false):B2 (zN n)=zN (B2 n):=by
 unfold B2 at h⊢;show(if((B7 n).length:Int) < Ag n.many then zN n else if Bu (zN n) n.pmd (C8 n)=true then Cj (An (D5 (Ba (zN n) n.pmd (C8 n))) ⟨3,n.pmd,0,0,C8 n⟩) else Ba (zN n) n.pmd (C8 n))=_;by_cases a:((B7 n).length:Int) < Ag n.many
 ·rw[dc a,dc a]
 ·rw[db a] at h⊢;rw[db a];by_cases ha:Bu n n.pmd (C8 n)=true
  ·obtain⟨b,e⟩:=Z0i ha;rw[dc ha,dc b,e];show Cj (An (zN (D5 (Ba n n.pmd (C8 n)))) _)=_;rw[Lw,Z57]
  ·have ha:Bu n n.pmd (C8 n)=false:=by simpa using ha
   rw[db (by rw[ha];decide),G1 ha] at h;cases h
theorem Jd {n:PN}{r:ByteArray}(h:C9 n r=false):(B3 n r).dead=true:=by
 unfold C9 at h;unfold B3;by_cases b:Eb n.st r=51
 ·rw[dc b] at h⊢;have h:=of_decide_eq_false h;unfold D8;rw[dc h]
 ·rw[db b] at h⊢;by_cases a:Eb n.st r=0
  ·rw[db (nn a)] at h⊢;have h:=of_decide_eq_false h;unfold D8;rw[dc h]
  ·rw[dc a];unfold D8;rw[dc a]
theorem Zgv {n:PN}{v:Int}(h:(C3 n v).1.dead=false):C3 (zN n) v=(zN (C3 n v).1,(C3 n v).2):=by
 unfold C3 at h⊢;show(if n.dead=true∨v≤n.pmd∨A8 v n.many≠n.self then(zN n,false)
 else if El (zN n) v=true then
  (B2 (An {Cq (zN n) v with lds:=true,jns:=fun i=>if i=n.self then⟨true,n.normal,n.log⟩ else j0} ⟨1,v,0,0,[]⟩),true)
 else(Cq (zN n) v,true))=_
 by_cases a:n.dead=true∨v≤n.pmd∨A8 v n.many≠n.self
 ·rw[dc a,dc a]
 ·rw[db a] at h⊢;rw[db a];by_cases hr:El n v=true
  ·obtain⟨b,e⟩:=Rg hr;have b:El (zN n) v=true:=b;have e:Cq (zN n) v=zN (Cq n v):=e;rw[dc hr] at h⊢;rw[dc b,e];show(B2 (An (zN {Cq n v with lds:=true,jns:=fun i=>if i=n.self then⟨true,n.normal,n.log⟩ else j0}) _),true)=_;rw[Lw,Z09 h]
  ·have hr:El n v=false:=by simpa using hr
   rw[db (by rw[hr];decide)] at h;have:=Jd hr;rw[show(Cq n v).dead=true from this] at h;cases h
theorem Zdr {n:PN}{s:ByteArray}(h:(Bc n s).1.dead=false):Bc (zN n) s=(zN (Bc n s).1,(Bc n s).2):=by
 unfold Bc at h⊢;show(if n.dead=true∨n.std=false∨n.log.length ≥ 150∨s.size > 200 then(zN n,false)
 else if Lx (zN n) ⟨n.pmd,A3 n.log+1,s⟩=true then
  (Cj (An {F8 (zN n) ⟨n.pmd,A3 n.log+1,s⟩ with aks:=fun i=>if i=n.self then A3 n.log+1 else n.aks i} ⟨4,n.pmd,0,A3 n.log+1 - 1,[⟨n.pmd,A3 n.log+1,s⟩]⟩),true)
 else(F8 (zN n) ⟨n.pmd,A3 n.log+1,s⟩,true))=_
 by_cases a:n.dead=true∨n.std=false∨n.log.length ≥ 150∨s.size > 200
 ·rw[dc a,dc a]
 ·rw[db a] at h⊢;rw[db a];by_cases hr:Lx n ⟨n.pmd,A3 n.log+1,s⟩=true
  ·obtain⟨b,e⟩:=Rg hr;have b:Lx (zN n) ⟨n.pmd,A3 n.log+1,s⟩=true:=b;have e:F8 (zN n) ⟨n.pmd,A3 n.log+1,s⟩=zN (F8 n ⟨n.pmd,A3 n.log+1,s⟩):=e;rw[dc hr,dc b,e];show(Cj (An (zN {F8 n ⟨n.pmd,A3 n.log+1,s⟩ with aks:=fun i=>if i=n.self then A3 n.log+1 else n.aks i}) _),true)=_;rw[Lw,Z57]
  ·have hr:Lx n ⟨n.pmd,A3 n.log+1,s⟩=false:=by simpa using hr
   rw[db (by rw[hr];decide)] at h;have:=Jd hr;rw[show(F8 n ⟨n.pmd,A3 n.log+1,s⟩).dead=true from this] at h;cases h
theorem Zc2 (n:PN):Bv (zN n)=zN (Bv n):=by
 have a:∀n i,Dv (zN n) i=zN (Dv n i):=fun n i=>by unfold Dv;show Ao (if n.hrd i=true then Ao (zN n) i _ else Ao (zN n) i _) i _=_;rw[Hj,Hj];split<;>exact Hj _ _ _
 have b:∀n i,E0 (zN n) i=zN (E0 n i):=fun n i=>by unfold E0;show(if(n.jns i).is=true then zN n else Ao (zN n) i _)=_;rw[Hj];split<;>rfl
 unfold Bv;show(if n.dead=true∨n.lds=false then zN n else if n.std=true then I8 Dv (zN n) n.many else I8 E0 (zN n) n.many)=_;rw[Z8z a,Z8z b];split
 ·rfl
 ·split<;>rfl
theorem Lt:∀(l:List REnt) (last:Int) (n:PN),(Ac l last n).2=true→Ac l last (zN n)=(zN (Ac l last n).1,true)
 | [],_,_,_=>rfl
 | e::l,last,n,h=>by
  unfold Ac at h⊢;show(if e.n > n.log.length+1 then(zN n,true) else if e.n≤n.log.length∨e.v < last then Ac l last (zN n)
   else if Lx (zN n) e=true then Ac l e.v (F8 (zN n) e) else(F8 (zN n) e,false))=_
  by_cases c:e.n > n.log.length+1
  ·rw[dc c,dc c]
  rw[db c] at h⊢;rw[db c];by_cases a:e.n≤n.log.length∨e.v < last
  ·rw[dc a] at h⊢;rw[dc a];exact Lt l last n h
  rw[db a] at h⊢;rw[db a];by_cases hr:Lx n e=true
  ·obtain⟨b,q⟩:=Rg hr;have b:Lx (zN n) e=true:=b;have q:F8 (zN n) e=zN (F8 n e):=q;rw[dc hr] at h⊢;rw[dc b,q];exact Lt l e.v _ h
  ·rw[db hr] at h;cases h
theorem Ir:∀(l:List REnt) (last:Int) (n:PN),(Ac l last n).2=false→(Ac l last n).1.dead=true
 | [],_,_,h=>by cases h
 | e::l,last,n,h=>by
  unfold Ac at h⊢;split at h
  ·cases h
  ·next c =>
   rw[db c];split at h
   ·next b=>rw[dc b];exact Ir l last n h
   ·next b =>
    rw[db b];split at h
    ·next a=>rw[dc a];exact Ir l e.v _ h
    ·next a =>
     rw[db a];have d:Lx n e=false:=by simpa using a
     exact Jd d
theorem Zk0 {n:PN}{f:Nat}{m:RM}(h:(Aq n f m).dead=false):Aq (zN n) f m=zN (Aq n f m):=by
 unfold Aq at h⊢;show(if n.lds=false∨n.pmd≠m.view then zN n
 else if m.kind=2∧n.std=false then
  B2 (if(n.jns f).is=true then zN n else zN {n with jns:=fun i=>if i=f then⟨true,m.normal,m.l⟩ else n.jns i})
 else if m.kind=5∧n.std=true∧m.num≤n.log.length then
  (fun a:PN=>if m.num < a.log.length then Ao a f ⟨4,a.pmd,0,m.num,a.log.drop m.num.toNat⟩ else a)
   (Cj (zN {n with aks:=fun i=>if i=f then max (n.aks f) m.num else n.aks i,hrd:=fun i=>if i=f then true else n.hrd i}))
 else zN n)=_
 by_cases c:n.lds=false∨n.pmd≠m.view
 ·rw[dc c,dc c]
 rw[db c] at h⊢;rw[db c];by_cases d:m.kind=2∧n.std=false
 ·rw[dc d] at h⊢;rw[dc d];have e:(if(n.jns f).is=true then zN n else zN {n with jns:=fun i=>if i=f then⟨true,m.normal,m.l⟩ else n.jns i})=zN (if(n.jns f).is=true then n else {n with jns:=fun i=>if i=f then⟨true,m.normal,m.l⟩ else n.jns i}):=by split<;>rfl
  rw[e,Z09 h]
 rw[db d,db d];by_cases b:m.kind=5∧n.std=true∧m.num≤n.log.length
 ·rw[dc b,dc b,Z57];generalize Cj {n with aks:=fun i=>if i=f then max (n.aks f) m.num else n.aks i,hrd:=fun i=>if i=f then true else n.hrd i}=a;show(if m.num < a.log.length then Ao (zN a) f ⟨4,a.pmd,0,m.num,a.log.drop m.num.toNat⟩ else zN a)=_;rw[Hj];dsimp only;split<;>rfl
 ·rw[db b,db b]
theorem Hq (n:PN)(i:Nat)(m:RM):(Ao n i m).dead=n.dead:=by unfold Ao;split<;>rfl
theorem Zjq {n:PN}{f:Nat}{m:RM}(h:(A4 n f m).dead=false):A4 (zN n) f m=zN (A4 n f m):=by
 unfold A4 at h⊢;by_cases d:m.kind=1
 ·rw[dc d] at h⊢;rw[dc d];show(if m.view > n.pmd then(if El (zN n) m.view=true then Ao (Cq (zN n) m.view) f ⟨2,m.view,n.normal,0,n.log⟩ else Cq (zN n) m.view)
   else if m.view=n.pmd∧m.view > n.normal∧n.lds=false then Ao (zN n) f ⟨2,m.view,n.normal,0,n.log⟩ else zN n)=_
  by_cases a:m.view > n.pmd
  ·rw[dc a] at h⊢;rw[dc a];by_cases hr:El n m.view=true
   ·obtain⟨b,e⟩:=Rg hr;have b:El (zN n) m.view=true:=b;have e:Cq (zN n) m.view=zN (Cq n m.view):=e;rw[dc hr,dc b,e,Hj]
   ·have hr:El n m.view=false:=by simpa using hr
    rw[db (by rw[hr];decide)] at h;rw[show(Cq n m.view).dead=true from Jd hr] at h;cases h
  ·rw[db a,db a,Hj];split<;>rfl
 rw[db d] at h⊢;rw[db d];by_cases i:m.kind=3
 ·rw[dc i] at h⊢;rw[dc i];show(if m.view ≥ n.pmd∧m.view > n.normal then
   (if Bu (zN {n with lds:=false,std:=false}) m.view m.l=true then Ao (Ba (zN {n with lds:=false,std:=false}) m.view m.l) f ⟨5,m.view,0,A3 m.l,[]⟩
    else Ba (zN {n with lds:=false,std:=false}) m.view m.l)
   else if m.view=n.pmd∧m.view=n.normal then Ao (zN n) f ⟨5,m.view,0,A3 n.log,[]⟩ else zN n)=_
  by_cases a:m.view ≥ n.pmd∧m.view > n.normal
  ·rw[dc a] at h⊢;rw[dc a];by_cases hr:Bu {n with lds:=false,std:=false} m.view m.l=true
   ·obtain⟨b,e⟩:=Z0i hr;rw[dc hr,dc b,e,Hj]
   ·have hr:Bu {n with lds:=false,std:=false} m.view m.l=false:=by simpa using hr
    rw[db (by rw[hr];decide),G1 hr] at h;cases h
  ·rw[db a,db a,Hj];split<;>rfl
 rw[db i] at h⊢;rw[db i];by_cases g:m.kind=4
 ·rw[dc g] at h⊢;rw[dc g];show(if n.pmd=m.view∧n.normal=m.view∧n.lds=false then
   (fun x:PN × Bool=>if x.2=true then Ao x.1 f ⟨5,m.view,0,A3 x.1.log,[]⟩ else x.1) (Ac m.l (vw 1 n.log) (zN n)) else zN n)=_
  by_cases a:n.pmd=m.view∧n.normal=m.view∧n.lds=false
  ·rw[dc a] at h⊢;rw[dc a];by_cases hr:(Ac m.l (vw 1 n.log) n).2=true
   ·have e:=Lt _ _ _ hr;dsimp only;rw[e,dc hr];exact Hj _ _ _
   ·have j:(Ac m.l (vw 1 n.log) n).2=false:=by simpa using hr
    dsimp only at h;rw[db hr,Ir _ _ _ j] at h;cases h
  ·rw[db a,db a]
 rw[db g,db g];by_cases c:m.kind=6
 ·rw[dc c,dc c];show(if n.pmd=m.view∧n.normal=m.view∧n.lds=false then zN {n with cmt:=max n.cmt (min m.num (A3 n.log))} else zN n)=_;split<;>rfl
 ·rw[db c,db c]
theorem Zf6 {n:PN}{p:RPk}(h:(Dd n p).dead=false):Dd (zN n) p=zN (Dd n p):=by
 unfold Dd at h⊢;show(if n.dead=true∨¬Gw p.body.data.toList∨p.to≠n.self∨p.frm=n.self∨p.frm < 0∨p.frm ≥ n.many then zN n
 else if(mD p.body.data.toList).kind=2∨(mD p.body.data.toList).kind=5 then Aq (zN n) p.frm.toNat (mD p.body.data.toList)
 else if A8 (mD p.body.data.toList).view n.many≠p.frm then zN n
 else A4 (zN n) p.frm.toNat (mD p.body.data.toList))=_
 split
 ·rfl
 ·next b =>
  rw[db b] at h;split
  ·next a=>rw[dc a] at h;exact Zk0 h
  ·next a =>
   rw[db a] at h;split
   ·rfl
   ·next c=>rw[db c] at h;exact Zjq h
abbrev Tri:=Int × Int × List REnt
def Nc (n:PN):Tri:=(n.pmd,n.normal,n.log)
def Ju (r:RN):Tri:=(r.pmd,r.normal,r.log)
structure NT (t:Tri):Prop where
 p:0≤t.2.1∧t.2.1≤t.1∧t.1≤big
 log:Bo t.2.2=true
 top:Aw t.2.2 t.2.1=true
theorem NV.nt {n:PN}(h:NV n):NT (Nc n):=⟨h.p,h.log,h.top⟩
def Btw (a b t:Tri):Prop:=t=a∨t=b∨(a.1=b.1∧a.2.1=b.2.1∧t.1=a.1∧t.2.1=a.2.1∧a.2.2 <+: t.2.2∧t.2.2 <+: b.2.2)
structure Left (k:Nat)(n:PN)(a b:Tri):Prop where
 wd:WD n.st.d
 wait:n.st.d.wait.length≤1000000
 out:n.out=[]
 log:n.log.length≤150
 got:∀kp t:Int,∃m h all x,Btw a b x∧NT x∧Rec (Bb n.st.d kp t) m h (Ak all)∧m≤k∧(∀s∈all,s.size≤4096)∧B1 all (0,0,[])=some x
theorem Left.mono {j k:Nat}{n:PN}{a b c d:Tri}(h:Left j n a b)(p:j≤k)(e:∀x,Btw a b x→Btw c d x):Left k n c d :=
 ⟨h.wd,h.wait,h.out,h.log,fun kp t=>by obtain⟨m,hf,all,x,f,i,g,q,l,o⟩:=h.got kp t;exact⟨m,hf,all,x,e x f,i,g,by omega,l,o⟩⟩
theorem zW {k:Nat}{l:LD}(h:WSt k (zL l))(a:0≤l.d.armed)(ha:l.d.armed≤9223372036854775807):WSt k l :=
 ⟨⟨h.d.len,h.d.few,h.d.now,h.d.firm,h.d.wait,a⟩,h.many,ha,h.wait,h.half,h.b,h.len,h.mark,h.dead,h.dd⟩
theorem zR {l:LD}(h:RLd (zL l)):RLd l:=⟨h.rc,h.firm,h.f,h.sz⟩
structure Arm (d:RD):Prop where
 lo:0≤d.armed
 hi:d.armed≤9223372036854775807
theorem Z0p {k:Nat}{l:LD}(h:WSt k l)(hf:Nat){b:Bs}(frm:Nat)(c:b.length≤35136):WD (wrL l hf b frm).d∧(wrL l hf b frm).d.wait.length≤549:=by obtain⟨e,f,a,g⟩:=Ey (Cw hf) b (nsW b frm) l.d h.d;have:=Te b frm c;rw[h.wait] at a;exact⟨e,ca a (by simpa using this)⟩
theorem Su {l:LD}(h:WD l.d∧l.d.wait.length≤549)(hf f:Nat):WD (Ah l hf f).d∧(Ah l hf f).d.wait.length≤550:=by obtain⟨a,-,-,b⟩:=Ou h.1 hf f;exact⟨a,by omega⟩
theorem Z97 {k:Nat}{l:LD}(h:WSt k l)(s:ByteArray):WD (Bj l s).d∧(Bj l s).d.wait.length≤549:=by
 have c:WD l.d∧l.d.wait.length≤549:=⟨h.d,by rw[h.wait];exact ah _⟩;unfold Bj;split
 ·exact c
 ·split
  ·exact c
  ·split
   ·exact c
   ·next g i f =>
    have a:(l.b++frB s).length≤35136:=by rw[ax,Dx];have:=h.len;unfold Fa at f;omega
    have e:=Z0p h l.half l.b.length a;split<;>exact e
theorem Wx {k:Nat}{l:LD}(h:WSt k l){all:List ByteArray}(hf:Nh all=0):WD (Eo l all).d∧(Eo l all).d.wait.length≤550:=by
 have b:WD l.d∧l.d.wait.length≤550:=⟨h.d,by rw[h.wait];exact ah _⟩;have a:=Z0p h (1 - l.half) 0 (Hw hf).1;have c:=Su a (1 - l.half) (Ak all).length;unfold Eo;split
 ·exact b
 ·split
  ·exact b
  ·split
   ·split<;>exact c
   ·exact⟨a.1,by omega⟩
theorem Kb (n:PN)(e:Int):(D8 n e).st=n.st:=by unfold D8;split<;>rfl
theorem Xf (n:PN)(e:Int):(D8 n e).log=n.log:=by unfold D8;split<;>rfl
theorem Z6p {n:PN}{r:ByteArray}(h:C9 n r=false):(B3 n r).out=[]:=by
 unfold C9 at h;unfold B3;by_cases b:Eb n.st r=51
 ·rw[dc b] at h⊢;have h:=of_decide_eq_false h;unfold D8;rw[dc h]
 ·rw[db b] at h⊢;by_cases a:Eb n.st r=0
  ·rw[db (fun e=>e a)] at h⊢;have h:=of_decide_eq_false h;unfold D8;rw[dc h]
  ·rw[dc a];unfold D8;rw[dc a]
theorem Sq {k:Nat}{n:PN}{r:ByteArray}{a:Tri}(f:WSt k n.st)(hr:RLd n.st)(C:B1 n.st.all (0,0,[])=some a)(q:NT a)(o:NV n)(A:B1 (n.st.all++[r]) (0,0,[])=some (Nc n))(u:r.size≤4096)(z:C9 n r=false):Left (k+1) (B3 n r) a (Nc n):=by
 have B:=f.mark;have old:∀{d:RD} {kp t:Int},Rec (Bb d kp t) n.st.mark n.st.half n.st.b→∃m h all x,Btw a (Nc n) x∧NT x∧Rec (Bb d kp t) m h (Ak all)∧m≤k+1∧(∀s∈all,s.size≤4096)∧B1 all (0,0,[])=some x :=
  fun c=>⟨_,_,n.st.all,a,.inl rfl,q,by rw[←f.b];exact c,by omega,hr.sz,C⟩
 have g:=Z6p z;have key:WD (B3 n r).st.d∧(B3 n r).st.d.wait.length≤1000000∧∀kp t:Int,∃m h all x,Btw a (Nc n) x∧NT x∧Rec (Bb (B3 n r).st.d kp t) m h (Ak all)∧m≤k+1∧(∀s∈all,s.size≤4096)∧B1 all (0,0,[])=some x:=?_
 ·refine⟨key.1,key.2.1,g,?_,key.2.2⟩;have e:(B3 n r).log=n.log:=by unfold B3;split;(rw[Xf]);split<;>rw[Xf]
  rw[e];exact o.ents.1
 unfold B3;by_cases y:Eb n.st r=51
 ·rw[dc y,Kn y,Kb];have hf:=P4 o;obtain⟨v,-⟩:=Xz f hr (C0 n) hf;obtain⟨j,p⟩:=Wx f hf;refine⟨j,ca p (by omega),fun kp t=>?_⟩;rcases v kp t with c | c
  ·exact old c
  ·exact⟨_,_,C0 n,Nc n,.inr (.inl rfl),o.nt,c,by omega,(Hw hf).2,K0 o⟩
 ·rw[db y];obtain⟨j,p⟩:=Z97 f r;by_cases w:Eb n.st r=0
  ·rw[db (fun e=>e w),Kb];obtain⟨v,D,-⟩:=Zao f hr r w;have i:WD (Ic (Bj n.st r)).d∧(Ic (Bj n.st r)).d.wait.length≤550:=by
    unfold Ic;split
    ·exact⟨j,by omega⟩
    ·exact Su ⟨j,p⟩ _ _
   refine⟨i.1,ca i.2 (by omega),fun kp t=>?_⟩;rcases v kp t with c | c
   ·exact old c
   ·refine⟨n.st.mark+1,n.st.half,n.st.all++[r],Nc n,.inr (.inl rfl),o.nt,?_,by omega,fun s l=>?_,A⟩
    ·rw[Na,←f.b];exact c
    ·rcases bu.1 l with l | l
     ·exact hr.sz s l
     ·rw[bo.1 l];exact u
  ·rw[dc w,Kb];exact⟨j,ca p (by omega),fun kp t=>old (Zf1 f hr r kp t)⟩
structure NA (k:Nat)(n:PN):Prop where
 ni:NI k (zN n)
 arm:Arm n.st.d
theorem NA.ws {k:Nat}{n:PN}(h:NA k n):WSt k n.st:=zW h.ni.sl.ws h.arm.lo h.arm.hi
theorem NA.rl {k:Nat}{n:PN}(h:NA k n):RLd n.st:=zR h.ni.sl.rl
theorem NA.nv {k:Nat}{n:PN}(h:NA k n):NV n:=⟨h.ni.nv.p,h.ni.nv.log,h.ni.nv.top⟩
theorem Sf {k:Nat}{n:PN}(h:NA k n){v:Int}(i:n.pmd < v)(d:v≤big)(hf:El n v=false):Left (k+1) (Cq n v) (Nc n) (v,n.normal,n.log):=by
 have e:0≤n.normal∧n.normal≤n.pmd∧n.pmd≤big:=h.nv.p;have hN:NV {n with pmd:=v,lds:=false,std:=false}:=⟨⟨e.1,by show n.normal≤v;omega,d⟩,h.nv.log,h.nv.top⟩;have f:=(Fq (k:=1) (a:=v) (b:=0) (s:=eS) (by omega) (by omega) (by decide) (by decide)).1;have g:eS.size=0:=rfl;have c:B1 n.st.all (0,0,[])=some (n.pmd,n.normal,n.log):=h.ni.sl.ld;exact Sq (n:={n with pmd:=v,lds:=false,std:=false}) (r:=Ce 1 v 0 eS) h.ws h.rl c h.nv.nt hN (by show B1 (n.st.all++[Ce 1 v 0 eS]) (0,0,[])=some (v,n.normal,n.log);rw[He,c];show Dj (n.pmd,n.normal,n.log) (Ce 1 v 0 eS)=_;rw[Z3p (by omega)]) (by omega) hf
theorem Xv {k:Nat}{n:PN}(h:NA k n){e:REnt}(g:e.n=A3 n.log+1)(j:vw 1 n.log≤e.v)(d:1≤e.v)(m:e.v≤n.normal)(l:e.b.size≤200)(c:n.log.length < 150)(hf:Lx n e=false):Left (k+1) (F8 n e) (Nc n) (n.pmd,n.normal,n.log++[e]):=by
 have i:0≤n.normal∧n.normal≤n.pmd∧n.pmd≤big:=h.nv.p;have f:=Dy n.log;have hN:NV {n with log:=n.log++[e]}:=⟨i,Ny h.nv.log g j (by omega) l c,Ri h.nv.top m⟩;have q:=Wr;have o:=(Fq (k:=3) (a:=e.v) (b:=e.n) (s:=e.b) (by omega) (by omega) (by omega) (by omega)).1;have c:B1 n.st.all (0,0,[])=some (n.pmd,n.normal,n.log):=h.ni.sl.ld;exact Sq (n:={n with log:=n.log++[e]}) (r:=Ce 3 e.v e.n e.b) h.ws h.rl c h.nv.nt hN (by show B1 (n.st.all++[Ce 3 e.v e.n e.b]) (0,0,[])=some (n.pmd,n.normal,n.log++[e]);rw[He,c];show Dj (n.pmd,n.normal,n.log) (Ce 3 e.v e.n e.b)=_;rw[Z4x (by omega) (by omega) (by omega)]) (by omega) hf
theorem Nw {k:Nat}{n:PN}(h:NA k n){v:Int}{l:List REnt}(d:NV (B6 n v l))(a:Bu n v l=false):Left (k+1) (Ba n v l) (Nc n) (v,v,l):=by
 have c:=h.ws;have g:=c.mark;have hf:=P4 d;obtain⟨j,-⟩:=Xz c h.rl (C0 (B6 n v l)) hf;obtain⟨i,f⟩:=Wx c hf;have a:=of_decide_eq_false a;unfold Ba;refine⟨by rw[Kb];exact i,by rw[Kb];exact ca f (by omega),by unfold D8;rw[dc a],by unfold D8;rw[dc a];exact d.ents.1,fun kp t=>?_⟩;rw[Kb];rcases j kp t with e | e
 ·exact⟨_,_,n.st.all,Nc n,.inl rfl,h.nv.nt,by rw[←c.b];exact e,by omega,h.rl.sz,h.ni.sl.ld⟩
 ·exact⟨_,_,C0 (B6 n v l),(v,v,l),.inr (.inl rfl),d.nt,e,by omega,(Hw hf).2,K0 d⟩
theorem Z3z {k:Nat}{n:PN}{r:RN}(h:Sim (zN n) r)(hi:NA k n)(u:n.many=3){v:Int}(hd:(C3 n v).1.dead=true):Left (k+1) (C3 n v).1 (Nc n) (Ju (Cx r v).1):=by
 have a:n.dead=false:=hi.ni.dead;have c:n.self < n.many:=hi.ni.self;have m:r.pmd=n.pmd:=h.pmd;have d:r.self=n.self:=h.self;have b:r.many=n.many:=h.many;unfold C3 at hd⊢;by_cases g:v≤n.pmd∨A8 v n.many≠n.self
 ·rw[dc (.inr g)] at hd;rw[show(n,false).1.dead=n.dead from rfl,a] at hd;cases hd
 have hc2:¬(n.dead=true∨v≤n.pmd∨A8 v n.many≠n.self):=by rintro(h | h);rw[a] at h;cases h;exact g h
 rw[db hc2] at hd⊢;have q:n.pmd < v:=by omega
 have f:A8 v n.many=n.self:=bz fun l=>g (.inr l);have t:v≤big:=by
  unfold A8 at f;split at f
  ·next l=>exact l.2.2
  ·omega
 by_cases hr:El n v=true
 ·rw[dc hr] at hd;exfalso;have y:Ag 3=2:=by decide
  have x:(Cq n v).dead=n.dead:=(Fr (n:={n with pmd:=v,lds:=false,std:=false}) hi.ws (Ce 1 v 0 eS) hr).2.1;have j:=Ht (n:={n with pmd:=v,lds:=false,std:=false}) (r:=Ce 1 v 0 eS) hr;have j:Cq n v={n with pmd:=v,lds:=false,std:=false,st:=(Cq n v).st}:=j;generalize (Cq n v).st=st at j;rw[j] at hd;have p:=A2 {n with pmd:=v,lds:=true,std:=false,st:=st,jns:=fun i=>if i=n.self then⟨true,n.normal,n.log⟩ else j0} ⟨1,v,0,0,[]⟩;obtain⟨o,e⟩:=p.to;have hd:(B2 (An {n with pmd:=v,lds:=true,std:=false,st:=st,jns:=fun i=>if i=n.self then⟨true,n.normal,n.log⟩ else j0} ⟨1,v,0,0,[]⟩)).dead=true:=hd;rw[e] at hd;obtain⟨self,many,pmd,normal,log,cmt,lds,std,jns,first,aks,hrd,out,dead,z⟩:=n;dsimp only at u c hd a;subst u a;unfold B2 at hd;rw[dc] at hd
  ·cases hd
  ·have:self=0∨self=1∨self=2:=by omega
   rw[show Ag (PN.many _)=2 from y];rcases this with rfl | rfl | rfl<;>exact(by decide:((1:Nat):Int) < 2)
 ·have hr:El n v=false:=by simpa using hr
  rw[db (by rw[hr];decide)];have e:Ju (Cx r v).1=(v,n.normal,n.log):=by
   unfold Cx;rw[db (by rw[m,b,d];exact g)];have w:=G3 (r:={r with pmd:=v,phase:=1,jns:=[⟨r.self,r.normal,A3 r.log,r.log⟩]}) (s:=n.self) (k:=n.many) ⟨1,v,0,0,[]⟩ d b;rw[w];unfold Cf;rw[dc]
   ·show(v,r.normal,r.log)=_;rw[show r.normal=n.normal from h.normal,show r.log=n.log from h.log]
   ·show((1:Nat):Int) < Ag r.many;rw[b,u];decide
  rw[e];exact Sf hi q t hr
theorem Vq {r:RN}{s k:Nat}(b:r.self=s)(a:r.many=k):Ju (Ck r)=Ju r:=by
 unfold Ck;split
 ·rw[G3 (r:={r with cmt:=Bi r.aks}) (s:=s) (k:=k) _ b a];rfl
 ·rfl
theorem Zm {k:Nat}{n:PN}{r:RN}(h:Sim (zN n) r)(hi:NA k n){s:ByteArray}(hd:(Bc n s).1.dead=true):Left (k+1) (Bc n s).1 (Nc n) (Ju (Bd r s).1):=by
 have a:n.dead=false:=hi.ni.dead;have t:r.pmd=n.pmd:=h.pmd;have q:r.normal=n.normal:=h.normal;have f:r.log=n.log:=h.log;have d:r.self=n.self:=h.self;have g:r.many=n.many:=h.many;unfold Bc at hd⊢;by_cases m:n.dead=true∨n.std=false∨n.log.length ≥ 150∨s.size > 200
 ·rw[dc m] at hd;rw[show(n,false).1.dead=n.dead from rfl,a] at hd;cases hd
 rw[db m] at hd⊢;by_cases hr:Lx n ⟨n.pmd,A3 n.log+1,s⟩=true
 ·rw[dc hr] at hd;exfalso;have b:(F8 n ⟨n.pmd,A3 n.log+1,s⟩).dead=n.dead:=(Fr (n:={n with log:=n.log++[⟨n.pmd,A3 n.log+1,s⟩]}) hi.ws (Ce 3 n.pmd (A3 n.log+1) s) hr).2.1;generalize F8 n ⟨n.pmd,A3 n.log+1,s⟩=n1 at hd b;have u:=A2 {n1 with aks:=fun i=>if i=n.self then A3 n.log+1 else n.aks i} ⟨4,n.pmd,0,A3 n.log+1 - 1,[⟨n.pmd,A3 n.log+1,s⟩]⟩;obtain⟨o,e⟩:=u.to;dsimp only at hd;rw[e] at hd;obtain⟨c,B,z⟩:=Cb {n1 with aks:=fun i=>if i=n.self then A3 n.log+1 else n.aks i,out:=o};have hd:(Cj {n1 with aks:=fun i=>if i=n.self then A3 n.log+1 else n.aks i,out:=o}).dead=true:=hd;rw[z] at hd;rw[show n1.dead=true from hd,a] at b;cases b
 ·have hr:Lx n ⟨n.pmd,A3 n.log+1,s⟩=false:=by simpa using hr
  rw[db (by rw[hr];decide)];have y:n.std=true:=by
   cases e:n.std with
   | true=>rfl
   | false=>exact de (.inr (.inl e)) m
  obtain⟨l,v,-⟩:=hi.ni.st y;have l:n.lds=true:=l;have v:n.normal=n.pmd:=v;have A:0≤n.normal∧n.normal≤n.pmd∧n.pmd≤big:=hi.nv.p;have j:1≤n.pmd:=(hi.ni.ld l).2;have w:r.phase=2:=by have:=h.phase;rw[show(zN n).lds=true from l,show(zN n).std=true from y] at this;exact this
  have e:Ju (Bd r s).1=(n.pmd,n.normal,n.log++[⟨n.pmd,A3 n.log+1,s⟩]):=by unfold Bd;rw[db (by rw[w,f];rintro(h | h);exact h rfl;exact m (.inr (.inr h)))];dsimp only;have x:=G3 (r:=Bp (J9 r (Ej r s)) r.self (Ej r s).n) (s:=n.self) (k:=n.many) ⟨4,r.pmd,0,(Ej r s).n - 1,[Ej r s]⟩ d g;generalize spL n.self n.many ⟨4,r.pmd,0,(Ej r s).n - 1,[Ej r s]⟩=o at x;rw[x];refine(Vq (r:={Bp (J9 r (Ej r s)) r.self (Ej r s).n with out:=r.out++o}) (s:=n.self) (k:=n.many) d g).trans ?_;show(r.pmd,r.normal,r.log++[Ej r s])=_;unfold Ej;rw[t,q,f]
  rw[e];exact Xv hi (e:=⟨n.pmd,A3 n.log+1,s⟩) rfl (Uo (by rw[←v];exact hi.nv.top) j) j (by show n.pmd≤_;omega) (by show s.size≤200;omega) (by omega) hr
theorem Ys (n:PN):(Bv n).dead=n.dead:=by
 have key:∀(f:PN→Nat→PN),(∀n i,(f n i).dead=n.dead)→∀k,(I8 f n k).dead=n.dead:=fun f hf k=>by
  induction k with
  | zero=>rfl
  | succ k ih =>
   rw[Di];split
   ·exact ih
   ·rw[hf];exact ih
 unfold Bv;split
 ·rfl
 ·split
  ·refine key _ (fun n i=>?_) _;unfold Dv;rw[Hq];split<;>exact Hq _ _ _
  ·refine key _ (fun n i=>?_) _;unfold E0;split
   ·rfl
   ·exact Hq _ _ _
theorem Ui:∀(l:List REnt) (r:RN),(Cm l r).pmd=r.pmd∧(Cm l r).normal=r.normal∧r.log <+: (Cm l r).log
 | [],r=>⟨rfl,rfl,List.prefix_refl _⟩
 | e::l,r=>by
  unfold Cm;split
  ·exact⟨rfl,rfl,List.prefix_refl _⟩
  ·split
   ·obtain⟨a,b,c⟩:=Ui l (J9 r e);exact⟨a,b,List.IsPrefix.trans (List.prefix_append _ _) c⟩
   ·exact Ui l r
theorem J4:∀(l:List REnt) {n:PN} {r:RN} {k:Nat} {num v:Int},Sim (zN n) r→NA k n→n.lds=false→Gq num v l=true→0≤num→1≤v→Aw l n.normal=true→k+l.length≤900000000 →
  (Ac l (vw 1 n.log) n).2=false→Left (k+l.length) (Ac l (vw 1 n.log) n).1 (Nc n) (Ju (Cm l r))
 | [],_,_,_,_,_,_,_,_,_,_,_,_,_,h=>by cases h
 | e::l,n,r,k,num,v,h,hi,hl,hr,h0,hv,hm,hk,hd=>by
  unfold Gq at hr;rw[au,decide_eq_true_iff] at hr;obtain⟨⟨L,J,M,D⟩,C⟩:=hr;have f:(decide (e.v≤n.normal)&&Aw l n.normal)=true:=hm;rw[au,decide_eq_true_iff] at f;have G:=Dy n.log;have q:r.log=n.log:=h.log;rw[bd] at hk⊢;unfold Ac at hd⊢;unfold Cm;rw[q];by_cases z:e.n > n.log.length+1
  ·rw[dc z] at hd;cases hd
  rw[db z] at hd⊢;rw[db z];by_cases o:e.n≤n.log.length∨e.v < vw 1 n.log
  ·rw[dc o] at hd⊢;rw[db (fun⟨d1,u⟩=>by
     rcases o with o | o
     ·omega
     ·by_cases a:n.log.length=0
      ·rw[am a] at o;have:e.v < 1:=o;omega
      ·rw[Z8o a 1 0] at o;rcases u with u | u
       ·exact a u
       ·omega)]
   exact(J4 l h hi hl C (by omega) (by omega) f.2 (by omega) hd).mono (by omega) fun x i=>i
  rw[db o] at hd⊢;have H:e.n=n.log.length+1∧(n.log.length=0∨e.v ≥ vw 0 n.log):=⟨by omega,by
   by_cases a:n.log.length=0
   ·exact .inl a
   ·refine .inr ?_;rw[←Z8o a 1 0];omega⟩
  rw[dc H];obtain⟨j,g,m⟩:=Ui l (J9 r e);have m:r.log++[e] <+: (Cm l (J9 r e)).log:=m;have j:(Cm l (J9 r e)).pmd=n.pmd:=j.trans h.pmd;have g:(Cm l (J9 r e)).normal=n.normal:=g.trans h.normal;rw[q] at m;have up:∀x,Btw (n.pmd,n.normal,n.log++[e]) (Ju (Cm l (J9 r e))) x→Btw (Nc n) (Ju (Cm l (J9 r e))) x:=fun x i=>by
   rcases i with rfl | i | ⟨I,x2,x3,x4,x5,x6⟩
   ·exact .inr (.inr ⟨j.symm,g.symm,rfl,rfl,List.prefix_append _ _,m⟩)
   ·exact .inr (.inl i)
   ·exact .inr (.inr ⟨j.symm,g.symm,x3,x4,List.IsPrefix.trans (List.prefix_append _ _) x5,x6⟩)
  by_cases t:Lx n e=true
  ·rw[dc t] at hd⊢;obtain⟨p1,A,st,p2,p3,p4,K,F⟩:=Lr hi.ni (e:=e) (by show e.n=A3 n.log+1;omega) (by show vw 1 n.log≤_;omega) (by omega) f.1 D (by show n.log.length < 150;omega);have a:=(Rg (n:={n with log:=n.log++[e]}) (r:=Ce 3 e.v e.n e.b) t).2;have a:F8 (zN n) e=zN (F8 n e):=a;rw[p2] at a;have w:=Ht (n:={n with log:=n.log++[e]}) (r:=Ce 3 e.v e.n e.b) t;have w:F8 n e={n with log:=n.log++[e],st:=(F8 n e).st}:=w;have c:=(Fr (n:={n with log:=n.log++[e]}) hi.ws (Ce 3 e.v e.n e.b) t).1;have c:WSt (k+1) (F8 n e).st:=c;generalize (F8 n e).st=st2 at w c;rw[w] at hd⊢ a;have s:st=zL st2:=congrArg PN.st a;have B:0≤n.cmt∧n.cmt≤n.log.length:=hi.ni.com;have y:(n.log++[e]).length=n.log.length+1:=by rw[ax];rfl
   have E:Sim (zN {n with log:=n.log++[e],st:=st2}) (J9 r e):=Sim.fol h.self h.many h.pmd h.normal (by show r.log++[e]=n.log++[e];rw[q]) h.cmt h.out (h.st.1.2 hl) hl;have hN:NA (k+1) {n with log:=n.log++[e],st:=st2}:=⟨NI.fol (n:=zN {n with log:=n.log++[e],st:=st2}) ⟨by show WSt (k+1) (zL st2);rw[←s];exact p3,by show RLd (zL st2);rw[←s];exact p4,by omega,by show B1 (zL st2).all _=_;rw[←s];exact F⟩ rfl ⟨A.p,A.log,A.top⟩ hi.ni.dead hi.ni.self hi.ni.m7 (by show 0≤n.cmt∧n.cmt≤((n.log++[e]).length:Int);rw[y];omega) hl (hi.ni.unst hl) hi.ni.jl,⟨c.d.armed,c.armed⟩⟩;have ev:vw 1 (PN.log {n with log:=n.log++[e],st:=st2})=e.v:=Qk _ _ _;have:=J4 l E hN hl C (by omega) (by omega) f.2 (by omega) (by rw[ev];exact hd);rw[ev] at this;exact this.mono (by omega) up
  ·rw[db t];have:=Xv hi (e:=e) (by omega) (by omega) (by omega) f.1 D (by omega) (by simpa using t);refine this.mono (by omega) fun x i=>?_;rcases i with i | i | ⟨I,x2,x3,x4,x5,x6⟩
   ·exact .inl i
   ·exact up x (.inl i)
   ·exact .inr (.inr ⟨j.symm,g.symm,x3,x4,x5,List.IsPrefix.trans x6 m⟩)
theorem Z3 {k:Nat}{n:PN}{r:RN}(h:Sim (zN n) r)(hi:NA k n)(B:n.lds=true)(C:n.std=false)(hd:(B2 n).dead=true):Left (k+1) (B2 n) (Nc n) (Ju (Cf r)):=by
 have a:n.dead=false:=hi.ni.dead;have A:r.jns=jrL n.jns n.many:=h.jns B C;obtain⟨L,G⟩:=hi.ni.jn B C;have v:Gl r=C8 n:=Z24 (n:=n) A;have g:r.jns.length=(B7 n).length:=by rw[A,Wm]
 have D:0≤n.normal∧n.normal≤n.pmd∧n.pmd≤big:=hi.nv.p;have w:1≤n.many:=by have:n.self < n.many:=hi.ni.self;omega
 unfold B2 at hd⊢;unfold Cf;rw[g,show r.many=n.many from h.many];by_cases y:((B7 n).length:Int) < Ag n.many
 ·rw[dc y,a] at hd;cases hd
 rw[db y] at hd⊢;rw[db y];have I:=Lj w hi.ni.m7;obtain⟨j,-,x,F⟩:=T6 (n:=n) (by omega);have b:=ae x;unfold B7 jlN at b;obtain⟨b,q⟩:=List.mem_filter.1 b;obtain⟨i,-,rfl⟩:=ba.1 b;obtain⟨⟨b1,b2⟩,u,t⟩:=G i q;have b2:(n.jns i).normal < n.pmd:=b2;have u:Bo (n.jns i).l=true:=u;have t:Aw (n.jns i).l (n.jns i).normal=true:=t;rw[←F] at u t;have H:NV (B6 n n.pmd (C8 n)):=⟨⟨by show 0≤n.pmd;omega,br _,D.2.2⟩,u,Fi t (fun e J=>J) (by show _≤n.pmd;omega)⟩;by_cases ha:Bu n n.pmd (C8 n)=true
 ·exfalso;rw[dc ha] at hd;have d:(Ba n n.pmd (C8 n)).dead=false:=by
   unfold Bu at ha;have ha:=of_decide_eq_true ha;unfold Ba D8;rw[db (fun e=>e ha)];exact a
  generalize Ba n n.pmd (C8 n)=n1 at hd d;obtain⟨o,e⟩:=(A2 (D5 n1) ⟨3,n.pmd,0,0,C8 n⟩).to;rw[e] at hd;obtain⟨c,K,E⟩:=Cb {D5 n1 with out:=o};rw[E] at hd;rw[show n1.dead=true from hd] at d;cases d
 ·have ha:Bu n n.pmd (C8 n)=false:=by simpa using ha
  rw[db (by rw[ha];decide),v];have f:r.self=n.self:=h.self;have m:r.many=n.many:=h.many;have z:=G3 (r:=E5 r (C8 n)) (s:=n.self) (k:=n.many) ⟨3,r.pmd,0,0,C8 n⟩ f m;have e:Ju (Ck (Au (E5 r (C8 n)) ⟨3,r.pmd,0,0,C8 n⟩))=(n.pmd,n.pmd,C8 n):=by generalize spL n.self n.many ⟨3,r.pmd,0,0,C8 n⟩=o at z;rw[z];refine(Vq (r:={E5 r (C8 n) with out:=r.out++o}) (s:=n.self) (k:=n.many) f m).trans ?_;show(r.pmd,r.pmd,C8 n)=_;rw[show r.pmd=n.pmd from h.pmd]
  rw[e];exact Nw hi H ha
theorem Z47 {k:Nat}{n:PN}{r:RN}(h:Sim (zN n) r)(hi:NA k n)(y:NJr r)(e:n.lds=true)(g:n.std=false){f:Nat}(hf:f < n.many){m:RM}(v:okM m=true)(hk2:m.kind=2)(A:n.pmd=m.view)
  (hd:(B2 (if(n.jns f).is=true then n else {n with jns:=fun i=>if i=f then⟨true,m.normal,m.l⟩ else n.jns i})).dead=true) :
  Left (k+1) (B2 (if(n.jns f).is=true then n else {n with jns:=fun i=>if i=f then⟨true,m.normal,m.l⟩ else n.jns i})) (Nc n) (Ju (Bn r f m)):=by
 have d:n.dead=false:=hi.ni.dead;have j:=h.st.2.1 e g;have t:r.jns=jrL n.jns n.many:=h.jns e g;have o:=Tx hf r t;unfold Bn;cases hjf:(n.jns f).is with
 | true =>
  rw[hjf,dc rfl] at hd;exfalso;have w:B2 n=n:=by unfold B2;rw[dc];have:=y j;rw[t,Wm,h.many] at this;exact this
  rw[w,d] at hd;cases hd
 | false =>
  rw[hjf,db (by decide)] at hd;rw[db (by decide),db (by rintro(c | c | c);exact c j;rw[h.pmd] at c;exact c A;rw[o,hjf] at c;cases c)];obtain⟨q,-,s,-⟩:=Az v;obtain⟨z,x⟩:=Zg1 v hk2;have a:=hi.ni;refine Z3 (n:={n with jns:=fun i=>if i=f then⟨true,m.normal,m.l⟩ else n.jns i}) (r:=Em r ⟨f,m.normal,A3 m.l,m.l⟩) ?_ ⟨?_,hi.arm⟩ e g hd
  ·refine⟨h.self,h.many,h.pmd,h.normal,h.log,h.cmt,h.out,h.phase,fun _ _=>?_,h.aks⟩;show Lf r.jns ⟨f,m.normal,A3 m.l,m.l⟩=jrL (fun i=>if i=f then⟨true,m.normal,m.l⟩ else n.jns i) n.many;rw[t];exact Z9v hf hjf _ _
  ·refine⟨⟨a.sl.ws,a.sl.rl,a.sl.kk,a.sl.ld⟩,a.arm,⟨a.nv.p,a.nv.log,a.nv.top⟩,a.dead,a.self,a.m7,a.com,a.ld,a.st,fun _ _=>⟨(a.jn e g).1,fun i b=>?_⟩,fun i=>?_⟩
   ·have b:(if i=f then(⟨true,m.normal,m.l⟩:RJ) else n.jns i).is=true:=b;show((0≤(if i=f then(⟨true,m.normal,m.l⟩:RJ) else n.jns i).normal∧(if i=f then(⟨true,m.normal,m.l⟩:RJ) else n.jns i).normal < n.pmd)∧Bo (if i=f then(⟨true,m.normal,m.l⟩:RJ) else n.jns i).l=true∧Aw (if i=f then(⟨true,m.normal,m.l⟩:RJ) else n.jns i).l (if i=f then(⟨true,m.normal,m.l⟩:RJ) else n.jns i).normal=true);split
    ·exact⟨⟨q.2.2.1,by show m.normal < n.pmd;omega⟩,z,x⟩
    ·next u=>rw[db u] at b;exact(a.jn e g).2 i b
   ·show(if i=f then(⟨true,m.normal,m.l⟩:RJ) else n.jns i).l.length≤150;split
    ·exact s
    ·exact a.jl i
theorem Z8n {k:Nat}{n:PN}{r:RN}(h:Sim (zN n) r)(hi:NA k n)(J:k+150≤900000000){f:Nat}{m:RM}(C:okM m=true)(hd:(A4 n f m).dead=true) :
  Left (k+150) (A4 n f m) (Nc n) (Ju (if m.kind=1 then Bh r f m else if m.kind=3 then Ax r f m else if m.kind=4 then Ca r f m
   else if r.pmd=m.view∧r.normal=m.view∧r.phase=0 then {r with cmt:=max r.cmt (min m.num (A3 r.log))} else r)):=by
 have a:n.dead=false:=hi.ni.dead;obtain⟨o,-,E,F⟩:=Az C;have I:0≤n.normal∧n.normal≤n.pmd∧n.pmd≤big:=hi.nv.p;have j:r.pmd=n.pmd:=h.pmd;have g:r.normal=n.normal:=h.normal;have z:r.log=n.log:=h.log;have send:∀x:RN,∀(i:Int) (m:RM),Ju (Av x i m)=Ju x:=fun x i m=>rfl;have c:∀(x:PN) (m:RM),x.dead=false→(Ao x f m).dead=true→False:=fun x m d D=>by rw[Hq,d] at D;cases D
 unfold A4 at hd⊢;by_cases u:m.kind=1
 ·rw[dc u] at hd⊢;rw[dc u];by_cases b:m.view > n.pmd
  ·rw[dc b] at hd⊢;by_cases hr:El n m.view=true
   ·rw[dc hr] at hd;exfalso;exact c _ _ ((Fr (n:={n with pmd:=m.view,lds:=false,std:=false}) hi.ws (Ce 1 m.view 0 eS) hr).2.1.trans a) hd
   ·rw[db hr];have e:Ju (Bh r f m)=(m.view,n.normal,n.log):=by
     have:Ju (Bh r f m)=Ju (Fw r m):=by unfold Bh;split<;>rfl
     rw[this];unfold Fw;rw[dc (by rw[j];exact b)];show(m.view,r.normal,r.log)=_;rw[g,z]
    rw[e];exact(Sf hi b o.2.1 (by simpa using hr)).mono (by omega) fun x q=>q
  ·rw[db b] at hd;exfalso;split at hd
   ·exact c _ _ a hd
   ·rw[a] at hd;cases hd
 rw[db u] at hd⊢;rw[db u];by_cases s:m.kind=3
 ·rw[dc s] at hd⊢;rw[dc s];by_cases b:m.view ≥ n.pmd∧m.view > n.normal
  ·rw[dc b] at hd⊢;by_cases hr:Bu {n with lds:=false,std:=false} m.view m.l=true
   ·rw[dc hr] at hd;exfalso;refine c _ _ ?_ hd;unfold Bu at hr;have hr:=of_decide_eq_true hr;unfold Ba D8;rw[db (fun e=>e hr)];exact a
   ·rw[db hr];obtain⟨y,v⟩:=Zen C s;have A:NV (B6 {n with lds:=false,std:=false} m.view m.l):=⟨⟨by show 0≤m.view;omega,br _,o.2.1⟩,y,Fi v (fun e G=>G) (by show m.view - 1≤m.view;omega)⟩;have e:Ju (Ax r f m)=(m.view,m.view,m.l):=by
     have:Ju (Ax r f m)=Ju (Cg r m):=by unfold Ax;split<;>rfl
     rw[this];unfold Cg;rw[dc (by rw[j,g];exact b)];rfl
    rw[e];have hN:NA k {n with lds:=false,std:=false}:=⟨NI.fol (n:=zN {n with lds:=false,std:=false}) ⟨hi.ni.sl.ws,hi.ni.sl.rl,hi.ni.sl.kk,hi.ni.sl.ld⟩ hi.ni.arm ⟨hi.ni.nv.p,hi.ni.nv.log,hi.ni.nv.top⟩ hi.ni.dead hi.ni.self hi.ni.m7 hi.ni.com rfl rfl hi.ni.jl,hi.arm⟩;exact(Nw hN A (by simpa using hr)).mono (by omega) fun x q=>q
  ·rw[db b] at hd;exfalso;split at hd
   ·exact c _ _ a hd
   ·rw[a] at hd;cases hd
 rw[db s] at hd⊢;rw[db s];by_cases w:m.kind=4
 ·rw[dc w] at hd⊢;rw[dc w];by_cases b:n.pmd=m.view∧n.normal=m.view∧n.lds=false
  ·rw[dc b] at hd⊢;obtain⟨y,v⟩:=Zhc C w;dsimp only at hd⊢;by_cases hr:(Ac m.l (vw 1 n.log) n).2=true
   ·exfalso;obtain⟨H,K,t,-⟩:=Hx m.l h hi.ni b.2.2 y (by omega) (by omega) (by show Aw m.l n.normal=true;rw[b.2.1];exact v) (by omega);have e:=Lt _ _ _ hr;have t:NI (k+m.l.length) (Ac m.l (vw 1 n.log) (zN n)).1:=t;rw[e] at t;rw[dc hr] at hd;exact c (Ac m.l (vw 1 n.log) n).1 _ t.dead hd
   ·have B:(Ac m.l (vw 1 n.log) n).2=false:=by simpa using hr
    rw[db hr];have e:Ca r f m=Av (Cm m.l r) f ⟨5,m.view,0,A3 (Cm m.l r).log,[]⟩:=by unfold Ca;rw[db (by rw[j,g];rintro(d | d | d);exact d b.1;exact d b.2.1;exact d (h.st.1.2 b.2.2))]
    rw[e,send];exact(J4 m.l h hi b.2.2 y (by omega) (by omega) (by rw[b.2.1];exact v) (by omega) B).mono (by omega) fun x q=>q
  ·rw[db b,a] at hd;cases hd
 exfalso;rw[db w] at hd;split at hd
 ·split at hd
  ·rw[show n.dead=true from hd] at a;cases a
  ·rw[a] at hd;cases hd
 ·rw[a] at hd;cases hd
theorem take_left {k:Nat}{n:PN}{r:RN}(h:Sim (zN n) r)(hi:NA k n)(z:k+150≤900000000)(A:NJr r){p:RPk}(hd:(Dd n p).dead=true):Left (k+150) (Dd n p) (Nc n) (Ju (Dw r p)):=by
 have a:n.dead=false:=hi.ni.dead;have C:=h.st.1;unfold Dd at hd⊢;unfold Dw;have j:(¬Gw p.body.data.toList∨p.to≠r.self∨p.frm=r.self∨p.frm < 0∨p.frm ≥ r.many)↔(¬Gw p.body.data.toList∨p.to≠n.self∨p.frm=n.self∨p.frm < 0∨p.frm ≥ n.many):=by rw[show r.self=n.self from h.self,show r.many=n.many from h.many]
 by_cases l:¬Gw p.body.data.toList∨p.to≠n.self∨p.frm=n.self∨p.frm < 0∨p.frm ≥ n.many
 ·rw[dc (.inr l),a] at hd;cases hd
 ·have hc0:¬(n.dead=true∨¬Gw p.body.data.toList∨p.to≠n.self∨p.frm=n.self∨p.frm < 0∨p.frm ≥ n.many):=by rintro(h | h);rw[a] at h;cases h;exact l h
  rw[db hc0] at hd⊢;rw[db (fun e=>l (j.1 e))];clear j hc0;have s:Gw p.body.data.toList:=bz fun e=>l (.inl e);have y:=(Zbs s).1;obtain⟨f,hf⟩:∃f:Nat,p.frm=f:=⟨p.frm.toNat,by omega⟩;rw[hf,az] at hd⊢;have t:f < n.many:=by omega
  generalize mD p.body.data.toList=m at *;by_cases b:m.kind=2
  ·rw[dc (.inl b)] at hd⊢;rw[dc b];unfold Aq at hd⊢;by_cases g:n.lds=false∨n.pmd≠m.view
   ·rw[dc g,a] at hd;cases hd
   rw[db g] at hd⊢;have v:n.lds=true:=by
    cases u:n.lds with
    | true=>rfl
    | false=>exact de (.inl u) g
   have B:n.pmd=m.view:=bz fun e=>g (.inr e);by_cases q:n.std=false
   ·rw[dc ⟨b,q⟩] at hd⊢;exact(Z47 h hi A v q t y b B hd).mono (Nat.add_le_add_left (by decide:1≤150) k) (fun x u=>u)
   ·exfalso;rw[db (fun e=>q e.2),db (fun e=>de (b.symm.trans e.1) (by decide)),a] at hd;cases hd
  ·by_cases w:m.kind=5
   ·exfalso;rw[dc (.inr w)] at hd;unfold Aq at hd;by_cases g:n.lds=false∨n.pmd≠m.view
    ·rw[dc g,a] at hd;cases hd
    rw[db g,db (fun e=>b e.1)] at hd;by_cases hc2:m.kind=5∧n.std=true∧m.num≤n.log.length
    ·rw[dc hc2] at hd;obtain⟨c,o,e⟩:=Cb {n with aks:=fun i=>if i=f then max (n.aks f) m.num else n.aks i,hrd:=fun i=>if i=f then true else n.hrd i};rw[e] at hd;dsimp only at hd;split at hd
     ·rw[Hq] at hd;rw[show n.dead=true from hd] at a;cases a
     ·rw[show n.dead=true from hd] at a;cases a
    ·rw[db hc2,a] at hd;cases hd
   ·rw[db (by rintro(e | e);exact b e;exact w e)] at hd⊢;rw[db b,db w];by_cases d:A8 m.view n.many=f
    ·rw[db (fun e=>e d)] at hd⊢;rw[db (fun e=>e (by rw[show r.many=n.many from h.many];exact d))];exact Z8n h hi z y hd
    ·rw[dc d,a] at hd;cases hd
end Go.Proofs.YtihfaocdpmmooaaGreat

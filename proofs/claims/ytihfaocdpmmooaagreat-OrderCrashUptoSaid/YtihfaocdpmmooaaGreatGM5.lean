
import Derived.Test.YtihfaocdpmmooaaGreatZGq
import Derived.Test.YtihfaocdpmmooaaGreatSxMe
import Derived.Test.YtihfaocdpmmooaaGreatGM3
namespace Go.Proofs.YtihfaocdpmmooaaGreat
structure GSt where
 k:Int
 who:Int
 n:Int
 body:ByteArray
 p:RPk
def Z8q (s:GSt):List G:=[gI s.k,gI s.who,gI s.n,.v (.string s.body),gI s.p.frm,gI s.p.to,.v (.string s.p.body)]
def Zd4 (n:PN)(kp t:Int):PN:=Da n.self n.many (n.pmd,n.normal,n.log) ⟨n.st.mark,n.st.half,n.st.b.length,n.st.b,n.st.all,false,Ef n.st.d kp t⟩
theorem MOk.rest {k:Nat}{x:GM}(h:MOk k x)(kp t:Int):Nd (Ef x.n.st.d kp t) x.n.self x.n.many=some (Zd4 x.n kp t)∧∀b e,MOk k ⟨true,Zd4 x.n kp t,b,e,Ay x.r⟩:=by
 have hi:=h.ni;have a:=hi.sl.ws;have hr:=hi.sl.rl;have l:=a.b;have i:=Zy a hr kp t;have f:(x.n.st.mark:Int)≤big:=by have:=Z8j a (by have:=hi.sl.kk;omega);omega
 rw[l] at i;have m:=S5 i f hr.sz;obtain⟨g,j⟩:=Wa a.d i hr.sz;rw[←l] at m g j;have c:(Ef x.n.st.d kp t).now.length=1100:=g.many;refine⟨?_,fun b e=>⟨Sim.fol h.sim.self h.sim.many h.sim.pmd h.sim.normal h.sim.log rfl rfl rfl rfl,NI.fol ⟨g.up a.mark,j,hi.sl.kk,hi.sl.ld⟩ rfl ⟨hi.nv.p,hi.nv.log,hi.nv.top⟩ rfl hi.self hi.m7 ⟨br _,by show(0:Int)≤(x.n.log.length:Int);omega⟩ rfl rfl fun _=>ah _,Km rfl,⟨fun h=>(by cases h),fun _ _ h=>(by cases h)⟩⟩⟩;have q:=hi.self;have o:=hi.m7;unfold Nd;rw[db,m]
 ·dsimp only;rw[hi.sl.ld];dsimp only;rw[dc ⟨hi.nv.log,hi.nv.p.2.1,hi.nv.top⟩,az,az];rfl
 ·rw[c];rintro(h | h | h | h)
  ·exact Mz (by omega) o h
  ·omega
  ·omega
  ·exact de h (by decide)
def Z03 (way:List RPk)(s:GSt):Int × RPk × Bool × List RPk :=
 if s.k=7 then(s.who,s.p,true,way)
 else if s.n < 0∨s.n ≥ way.length then(0,⟨0,0,eS⟩,false,way)
 else((way[s.n.toNat]?.getD ⟨0,0,eS⟩).to,way[s.n.toNat]?.getD ⟨0,0,eS⟩,decide (s.k=3),if s.k≠5 then way.take s.n.toNat++way.drop (s.n.toNat+1) else if way.length < 400 then way++[way[s.n.toNat]?.getD ⟨0,0,eS⟩] else way)
open Go.RowKit
set_option maxRecDepth 100000
theorem Z2r (v s m:Int):FnV Tryz.prog 101 [gI v,gI s,gI m] fun g=>g=.tup [gI (Le v s m),.v (.bool (Kt v s m))] :=
 ⟨⟨_,Tryz.func101,by kernel_rfl,by kernel_rfl⟩,fun I w vs i d=>by obtain⟨x,vs,rfl,f,d⟩:=d.uncons;obtain⟨y,z,rfl,hy,k⟩:=Pm d;rw[Cc f,Cc hy,Cc k];exact(Uz v s m w).mono fun e w' ⟨l,hw⟩=>⟨_,_,I,l,rfl,i.keep fun b _ _ f=>(Gf hw).block b (i.lt f),⟨[_,_],rfl,rfl,fun j g u a c=>by match j,a,c with | 0,a,c=>cases a;cases c;exact .v _ | 1,a,c=>cases a;cases c;exact .v _⟩,fun _ _ _ h=>h,fun _ _ _=>rfl,Gf hw⟩⟩
theorem Z39 (l:List GM)(d:List RN)(way:List RPk)(k who n:Int)(body:ByteArray)(c b:Int)(a:ByteArray)(w:way.length≤1000):FnO Tryz.prog 68 [.ptr 0 0,.agg [gI k,gI who,gI n,.v (.string body),gI c,gI b,.v (.string a)]] (cG l d way) fun g rs=>g=.tup [gI (Z03 way ⟨k,who,n,body,⟨c,b,a⟩⟩).1,.oag (pkG (Z03 way ⟨k,who,n,body,⟨c,b,a⟩⟩).2.1),.v (.bool (Z03 way ⟨k,who,n,body,⟨c,b,a⟩⟩).2.2.1)]∧rs=cG l d (Z03 way ⟨k,who,n,body,⟨c,b,a⟩⟩).2.2.2:=by
 refine Bq Tryz.func68 (A6 (O:=oGs l d way) (n0:=6) rfl) ?_;refine df (fun(o:k=7)=>?_) fun(o:k≠7)=>?_
 ·have e:Z03 way ⟨k,who,n,body,⟨c,b,a⟩⟩=(who,⟨c,b,a⟩,true,way):=by unfold Z03;rw[dc o]
  rw[e];exact .inl (A1 (oGs l d way) [] (by exact RL6) rfl ⟨_,rfl⟩ rfl rfl ⟨rfl,rfl⟩)
 have p:(n < 0∨n ≥ way.length)→Z03 way ⟨k,who,n,body,⟨c,b,a⟩⟩=(0,⟨0,0,eS⟩,false,way):=fun h=>by unfold Z03;rw[db o,dc h]
 refine dg (fun(u:n < 0)=>?_) fun(u:¬n < 0)=>?_
 ·rw[p (.inl u)];exact .inl (A1 (oGs l d way) [] (by exact RL6) rfl ⟨_,rfl⟩ rfl rfl ⟨rfl,rfl⟩)
 refine dg (fun j=>?_) fun j=>?_
 ·have j:n ≥ ((way.map pkG).length:Nat):=j;rw[aa] at j;rw[p (.inr j)];exact .inl (A1 (oGs l d way) [] (by exact RL6) rfl ⟨_,rfl⟩ rfl rfl ⟨rfl,rfl⟩)
 have j:¬n ≥ ((way.map pkG).length:Nat):=j;rw[aa] at j;obtain⟨i,rfl⟩:∃i:Nat,n=i:=⟨n.toNat,by omega⟩;obtain⟨q,r⟩:∃q,way[i]?=some q:=⟨_,ab (by omega)⟩;have t:Z03 way ⟨k,who,i,body,⟨c,b,a⟩⟩=(q.to,q,decide (k=3),if k≠5 then way.take i++way.drop (i+1) else if way.length < 400 then way++[q] else way):=by unfold Z03;rw[db o,db (by show ¬((i:Int) < 0∨(i:Int) ≥ way.length);omega)];show((way[i]?.getD ⟨0,0,eS⟩).to,way[i]?.getD ⟨0,0,eS⟩,_,if k≠5 then way.take i++way.drop (i+1) else if way.length < 400 then way++[way[i]?.getD ⟨0,0,eS⟩] else way)=_;rw[r];rfl
 rw[t];clear p t;refine⟨⟨by omega,by rw[aa];omega⟩,?_⟩;refine dl (f:=pkG) r ?_;refine dj (fun(s:k≠5)=>?_) fun(s:k=5)=>?_
 ·rw[dc s];refine⟨rfl,⟨by rw[aa];omega,⟨fun h=>(by rw[List.map_eq_nil_iff] at h;subst h;cases r),?_⟩⟩⟩;refine⟨by omega,⟨by rw[aa];omega,?_⟩⟩
  conv=>whnf
  rw[az,show Nat.beq i i=true from Nat.beq_refl i,show Nat.ble i (way.map pkG).length=true from Nat.ble_eq_true_of_le (by rw[aa];omega)];refine⟨by simp[Es];omega,?_⟩;exact .inl (A1 (oGs l d (way.take i++way.drop (i+1))) [(4,9)] ⟨⟨rfl,rfl,rfl⟩,⟨rfl,rfl,rfl⟩,⟨rfl,rfl,rfl⟩,⟨rfl,rfl,rfl⟩,⟨rfl,rfl,Zif (by show List.take i (way.map pkG)++((way.map pkG).take (way.map pkG).length).drop (i+1)=_;rw[List.take_length,ao,cw,List.map_drop])⟩,RL1,trivial⟩ rfl ⟨_,rfl⟩ rfl rfl ⟨rfl,rfl⟩)
 ·rw[db (fun h=>h s)];refine dg (fun m=>?_) fun m=>?_
  ·have m:((way.map pkG).length:Int) < 400:=m;rw[aa] at m;rw[dc (by omega)];refine⟨by simp;omega,?_⟩;exact .inl (A1 (oGs l d (way++[q])) [(4,10)] ⟨RL1,RL1,RL1,RL1,⟨rfl,rfl,Zif (by rw[ao];rfl)⟩,RL1,trivial⟩ rfl ⟨_,rfl⟩ rfl rfl ⟨rfl,rfl⟩)
  ·have m:¬((way.map pkG).length:Int) < 400:=m;rw[aa] at m;rw[db (by omega)];exact .inl (A1 (oGs l d way) [] (by exact RL6) rfl ⟨_,rfl⟩ rfl rfl ⟨rfl,rfl⟩)
theorem Z4v (s:Bool)(n:PN)(b e:Nat):FnO Tryz.prog 20 [.ptr 0 0] (cS s n b e) fun g rs=>g=.tup [gI n.pmd,gI n.normal]∧rs=cS s n b e:=by
 cases s
 ·exact Zd8 n b e
 ·exact Zcm n b e
theorem Zcw (s:Bool)(n:PN)(b e:Nat):FnO Tryz.prog 23 [.ptr 0 0] (cS s n b e) fun g rs=>g=.v (.bool n.lds)∧rs=cS s n b e:=by
 cases s
 ·exact Zdc n b e
 ·exact Z0s n b e
theorem Z75 (s:Bool)(n:PN)(b e:Nat):FnO Tryz.prog 24 [.ptr 0 0] (cS s n b e) fun g rs=>g=gI n.cmt∧rs=cS s n b e:=by
 cases s
 ·exact Z7c n b e
 ·exact Pg n b e
theorem Zjm (s:Bool)(n:PN)(b e:Nat)(a:n.log.length≤1000000):FnO Tryz.prog 22 [.ptr 0 0] (cS s n b e) fun g rs=>g=.osl 1∧rs=[.abs (cl (oSs s n b e)),.slc (n.log.map enE) tEn 3]:=by
 cases s
 ·exact Zkc n b e a
 ·exact Zfp n b e a
theorem Zgd (s:Bool)(n:PN)(b e k:Nat)(h:n.dead=false→WNk k n)(v:Int):FnO Tryz.prog 41 [.ptr 0 0,gI v] (cS s n b e) fun g rs=>g=.v (.bool (C3 n v).2)∧∃a,rs=cS a (C3 n v).1 b e∧(ShN s n→ShN a (C3 n v).1):=by
 cases s
 ·exact Zi1 n b e k h v
 ·exact Z9j n b e k h v
theorem Zcy (s:Bool)(n:PN)(b e:Nat)(h:n.dead=false→WNb n)(a:ShN s n)(body:ByteArray):FnO Tryz.prog 28 [.ptr 0 0,.v (.string body)] (cS s n b e) fun g rs=>g=.v (.bool (Bc n body).2)∧rs=cS s (Bc n body).1 b e:=by
 cases s
 ·exact Zc6 n b e (fun _=>(a.b rfl).1) body
 ·exact Z4o n b e h body
theorem Zdi (s:Bool)(n:PN)(b e:Nat)(c:ShN s n)(d:n.many≤7)(h:n.log.length≤1000000)(f:n.out.length≤700000)(j:n.std=true→(∀i,0≤n.aks i∧n.aks i≤n.log.length)∧0≤n.first∧n.first≤n.log.length):FnO Tryz.prog 70 [.ptr 0 0] (cS s n b e) fun g rs=>g=.tup []∧rs=cS s (Bv n) b e:=by
 cases s
 ·exact Zba n b e (c.b rfl).1 d f
 ·exact Zcg n b e (c.a rfl) d h f j
theorem Zkv (l:List GM)(a:List RN)(way:List RPk)(i:Nat)(s:Bool)(n:PN)(b e:Nat)(r r':RN):cG (l.set i ⟨s,n,b,e,r⟩) a way=cG (l.set i ⟨s,n,b,e,r'⟩) a way:=by unfold cG oGs oG;rw[List.map_set,List.map_set,List.map_set,List.map_set,List.map_set,List.map_set];rfl
set_option maxHeartbeats 4000000 in
theorem Zdd (l:List GM)(p:List RN)(way:List RPk)(i:Nat)(x:GM)(a:PN)(o:l[i]?=some x)(kp t:Int)(hd:WD x.n.st.d)(A:x.n.st.d.wait.length≤1000000)(z:Nd (Ef x.n.st.d kp t) i l.length=some a):FnO Tryz.prog 39 [.ptr 0 0,gI i,.agg [gI kp,gI t]] (cG l p way) fun g rs=>g=.v (.bool true)∧∃b e,∀r,rs=cG (l.set i ⟨true,a,b,e,r⟩) p way:=by
 have w:=(ac.1 o).1;refine Bq Tryz.func39 (A6 (O:=oGs l p way) (n0:=6) rfl) ?_;refine⟨⟨by omega,by rw[aa];omega⟩,?_⟩;refine dl (f:=pD) o ?_;refine⟨by decide,⟨by decide,?_⟩⟩;obtain⟨s,m,b,e,r⟩:=x;dsimp only at hd A z;cases s
 ·refine dh (.take 5 i _ (cl (oBs m b e)) rfl (by rw[aj,o];rfl) (.opn 7 _ _ _ rfl rfl rfl (.opn 8 _ _ _ rfl rfl rfl (.done (.raw 14 12 rfl (.same ((Z38 m.st.d hd A kp t).cal fun q rs j=>?_)))))));obtain⟨rfl,rfl⟩:=j;refine .done ?_;refine dh (.done (.same ((Z2u (Ef m.st.d kp t) (Fx hd kp t) rfl i ((l.map pN).length:Nat)).cal fun q rs j=>?_)));rw[aa] at j;rcases j with⟨c,-⟩ | ⟨n2,b',e',c,rfl,rfl⟩
  ·rw[z] at c;cases c
  rw[z] at c;obtain rfl:=cj c;refine Gh.opn 16 _ _ _ rfl rfl rfl (.dup 21 16 b' rfl (.close (oAs a b' e') [(0,16),(1,18),(2,19),(3,20),(4,21)] (by exact RL5) ⟨_,rfl⟩ rfl (.done ?_)));refine dj (fun h=>de rfl h) fun _=>?_;refine⟨⟨by omega,by rw[aa];omega⟩,?_⟩;refine dn (f:=pN) (y:=⟨true,a,b',e',r⟩) o (fun k u=>u) rfl ?_;refine⟨⟨by omega,by rw[aa];omega⟩,?_⟩;refine dn (f:=pD) (y:=⟨true,a,b',e',r⟩) o (fun k u=>u) rfl ?_;exact .gh (.put 5 i 16 _ _ rfl (by rw[bh,aa];exact w) rfl (.done (A1 (oGs (l.set i ⟨true,a,b',e',r⟩) p way) [] ⟨RL1,RL1,RL1,RL1,RL1,⟨rfl,rfl,Ff (E2 l i ⟨true,a,b',e',r⟩)⟩,trivial⟩ rfl ⟨_,rfl⟩ rfl rfl ⟨rfl,b',e',fun B=>Zkv l p way i true a b' e' r B⟩)))
 ·refine dh (.take 5 i _ (cl (oAs m b e)) rfl (by rw[aj,o];rfl) (.opn 7 _ _ _ rfl rfl rfl (.opn 8 _ _ _ rfl rfl rfl (.done (.raw 14 12 rfl (.same ((Z38 m.st.d hd A kp t).cal fun q rs j=>?_)))))));obtain⟨rfl,rfl⟩:=j;refine .done ?_;refine dh (.done (.same ((Z2u (Ef m.st.d kp t) (Fx hd kp t) rfl i ((l.map pN).length:Nat)).cal fun q rs j=>?_)));rw[aa] at j;rcases j with⟨c,-⟩ | ⟨n2,b',e',c,rfl,rfl⟩
  ·rw[z] at c;cases c
  rw[z] at c;obtain rfl:=cj c;refine Gh.opn 16 _ _ _ rfl rfl rfl (.dup 21 16 b' rfl (.close (oAs a b' e') [(0,16),(1,18),(2,19),(3,20),(4,21)] (by exact RL5) ⟨_,rfl⟩ rfl (.done ?_)));refine dj (fun h=>de rfl h) fun _=>?_;refine⟨⟨by omega,by rw[aa];omega⟩,?_⟩;refine dn (f:=pN) (y:=⟨true,a,b',e',r⟩) o (fun k u=>u) rfl ?_;refine⟨⟨by omega,by rw[aa];omega⟩,?_⟩;refine dn (f:=pD) (y:=⟨true,a,b',e',r⟩) o (fun k u=>u) rfl ?_;exact .gh (.put 5 i 16 _ _ rfl (by rw[bh,aa];exact w) rfl (.done (A1 (oGs (l.set i ⟨true,a,b',e',r⟩) p way) [] ⟨RL1,RL1,RL1,RL1,RL1,⟨rfl,rfl,Ff (E2 l i ⟨true,a,b',e',r⟩)⟩,trivial⟩ rfl ⟨_,rfl⟩ rfl rfl ⟨rfl,b',e',fun B=>Zkv l p way i true a b' e' r B⟩)))
theorem Si (f:RN→Nat→RN)(hf:∀n i,(f n i).self=n.self∧(f n i).many=n.many)(n:RN)(k:Nat):(Ma f n k).self=n.self∧(Ma f n k).many=n.many:=by
 induction k with
 | zero=>exact⟨rfl,rfl⟩
 | succ k ih =>
  rw[Dh];split
  ·exact ih
  ·exact⟨(hf _ _).1.trans ih.1,(hf _ _).2.trans ih.2⟩
theorem Hd (n:RN)(m:RM):(Au n m).self=n.self∧(Au n m).many=n.many:=Si (fun n i=>Av n i m) (fun _ _=>⟨rfl,rfl⟩) n _
theorem Zv (n:RN):(Ck n).self=n.self∧(Ck n).many=n.many:=by
 unfold Ck;split
 ·exact Hd {n with cmt:=Bi n.aks} _
 ·exact⟨rfl,rfl⟩
theorem Ul (n:RN):(Cf n).self=n.self∧(Cf n).many=n.many:=by
 unfold Cf;split
 ·exact⟨rfl,rfl⟩
 ·have a:=Zv (Au (E5 n (Gl n)) ⟨3,n.pmd,0,0,Gl n⟩);have b:=Hd (E5 n (Gl n)) ⟨3,n.pmd,0,0,Gl n⟩;exact⟨a.1.trans b.1,a.2.trans b.2⟩
theorem Z1p (r:RN)(v:Int):(Cx r v).1.self=r.self∧(Cx r v).1.many=r.many:=by
 unfold Cx;split
 ·exact⟨rfl,rfl⟩
 ·have a:=Ul (Au {r with pmd:=v,phase:=1,jns:=[⟨r.self,r.normal,A3 r.log,r.log⟩]} ⟨1,v,0,0,[]⟩);have b:=Hd {r with pmd:=v,phase:=1,jns:=[⟨r.self,r.normal,A3 r.log,r.log⟩]} ⟨1,v,0,0,[]⟩;exact⟨a.1.trans b.1,a.2.trans b.2⟩
theorem Z2 (r:RN):(Do r).self=r.self∧(Do r).many=r.many:=by
 refine Si _ (fun n i=>?_) r _;have a:∀n,(Fs n i).self=n.self∧(Fs n i).many=n.many:=fun n=>by unfold Fs;split<;>exact⟨rfl,rfl⟩
 have b:∀n,(Fe n i).self=n.self∧(Fe n i).many=n.many:=fun n=>by unfold Fe;split<;>exact⟨rfl,rfl⟩
 have c:∀n,(F7 n i).self=n.self∧(F7 n i).many=n.many:=fun n=>by unfold F7;split<;>exact⟨rfl,rfl⟩
 have d:∀n,(F4 n i).self=n.self∧(F4 n i).many=n.many:=fun n=>by unfold F4;split<;>exact⟨rfl,rfl⟩
 exact⟨(d _).1.trans ((c _).1.trans ((b _).1.trans (a _).1)),(d _).2.trans ((c _).2.trans ((b _).2.trans (a _).2))⟩
theorem Z8d {s:Bool}{n:PN}(h:ShN s n):ShN s (Bv n):=by
 unfold Bv;split
 ·exact h
 ·split
  ·obtain⟨o,e⟩:=(Jf Iq n n.many).to;rw[e];exact⟨h.b,h.a⟩
  ·obtain⟨o,e⟩:=(Jf Ix n n.many).to;rw[e];exact⟨h.b,h.a⟩
theorem Z26 {α:Type}{l:List α}{i:Nat}{x:α}(h:l[i]?=some x):l.set i x=l:=by
 refine cp fun j=>?_;rw[cn];split
 ·next a=>subst a;rw[dc (ac.1 h).1,h]
 ·rfl
theorem MOk.up {k j:Nat}{x:GM}(h:MOk k x)(b:k≤j)(a:j≤900000000):MOk j x:=⟨h.sim,h.ni.up b a,h.nj,h.sh⟩
end Go.Proofs.YtihfaocdpmmooaaGreat

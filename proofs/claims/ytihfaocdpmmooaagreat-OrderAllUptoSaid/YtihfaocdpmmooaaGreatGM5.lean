
import Derived.Test.YtihfaocdpmmooaaGreatZGq
import Derived.Test.YtihfaocdpmmooaaGreatSxMc
import Derived.Test.YtihfaocdpmmooaaGreatSxMe
import Derived.Test.YtihfaocdpmmooaaGreatGM3
namespace Go.Proofs.YtihfaocdpmmooaaGreat
structure GSt where
 k:Int
 who:Int
 n:Int
 body:ByteArray
 p:RPk
def Z3s (s:GSt):List G:=[gI s.k,gI s.who,gI s.n,.v (.string s.body),gI s.p.frm,gI s.p.to,.v (.string s.p.body)]
def Y9 (n:PN)(kp t:Int):PN:=Ih n.self n.many (n.pmd,n.normal,n.log) ⟨n.st.mark,n.st.half,n.st.b.length,n.st.b,n.st.all,false,Eh n.st.d kp t⟩
theorem MOk.rest {k:Nat}{x:GM}(h:MOk k x)(kp t:Int):N4 (Eh x.n.st.d kp t) x.n.self x.n.many=some (Y9 x.n kp t)∧∀b e,MOk k ⟨true,Y9 x.n kp t,b,e,F3 x.r⟩:=by
 have hi:=h.ni
 have hw:=hi.sl.ws
 have hr:=hi.sl.rl
 have hb:=hw.b
 have hc:=Xd hw hr kp t
 have hmb:(x.n.st.mark:Int)≤big:=by have:=Z6b hw (by have:=hi.sl.kk;omega);omega
 rw[hb] at hc
 have ho:=Z34 hc hmb hr.sz
 obtain⟨w1,w2⟩:=Z43 hw.d hc hr.sz
 rw[←hb] at ho w1 w2
 have hlen:(Eh x.n.st.d kp t).now.length=1100:=w1.many
 refine⟨?_,fun b e=>⟨Sim.fol h.sim.self h.sim.many h.sim.pmd h.sim.normal h.sim.log rfl rfl rfl rfl,NI.fol ⟨w1.up hw.mark,w2,hi.sl.kk,hi.sl.ld⟩ rfl ⟨hi.nv.p,hi.nv.log,hi.nv.top⟩ rfl hi.self hi.m7 ⟨bp _,by show(0:Int)≤(x.n.log.length:Int);omega⟩ rfl rfl fun _=>ah _,Lp rfl,⟨fun h=>(by cases h),fun _ _ h=>(by cases h)⟩⟩⟩
 have hs:=hi.self
 have h7:=hi.m7
 unfold N4
 rw[da,ho]
 ·dsimp only
  rw[hi.sl.ld]
  dsimp only
  rw[db ⟨hi.nv.log,hi.nv.p.2.1,hi.nv.top⟩,ay,ay]
  rfl
 ·rw[hlen]
  rintro(h | h | h | h)
  ·exact Q5 (by omega) h7 h
  ·omega
  ·omega
  ·exact dc h (by decide)
def Rh (way:List RPk)(s:GSt):Int × RPk × Bool × List RPk :=
 if s.k=7 then(s.who,s.p,true,way)
 else if s.n < 0∨s.n ≥ way.length then(0,⟨0,0,eS⟩,false,way)
 else((way[s.n.toNat]?.getD ⟨0,0,eS⟩).to,way[s.n.toNat]?.getD ⟨0,0,eS⟩,decide (s.k=3),if s.k≠5 then way.take s.n.toNat++way.drop (s.n.toNat+1) else if way.length < 400 then way++[way[s.n.toNat]?.getD ⟨0,0,eS⟩] else way)
open Go.RowKit
set_option maxRecDepth 100000
theorem Z2x (v s m:Int):FnV Tryz.prog 101 [gI v,gI s,gI m] fun g=>g=.tup [gI (Kr v s m),.v (.bool (K5 v s m))] :=
 ⟨⟨_,Tryz.func101,by kernel_rfl,by kernel_rfl⟩,fun I w vs hm hp=>by
  obtain⟨x,vs,rfl,hx,hp⟩:=hp.uncons
  obtain⟨y,z,rfl,hy,hz⟩:=Sb hp
  rw[C2 hx,C2 hy,C2 hz]
  exact(Sg v s m w).mono fun e w' ⟨he,hw⟩=>⟨_,_,I,he,rfl,hm.keep fun b _ _ hx=>(Fv hw).block b (hm.lt hx),⟨[_,_],rfl,rfl,fun j g u hg hu=>by match j,hg,hu with | 0,hg,hu=>cases hg;cases hu;exact .v _ | 1,hg,hu=>cases hg;cases hu;exact .v _⟩,fun _ _ _ h=>h,fun _ _ _=>rfl,Fv hw⟩⟩
theorem Z35 (l:List GM)(pl:List RN)(way:List RPk)(k who n:Int)(body:ByteArray)(pf pt:Int)(pb:ByteArray)(hw:way.length≤1000):FnO Tryz.prog 68 [.ptr 0 0,.agg [gI k,gI who,gI n,.v (.string body),gI pf,gI pt,.v (.string pb)]] (cG l pl way) fun g rs=>g=.tup [gI (Rh way ⟨k,who,n,body,⟨pf,pt,pb⟩⟩).1,.oag (pkG (Rh way ⟨k,who,n,body,⟨pf,pt,pb⟩⟩).2.1),.v (.bool (Rh way ⟨k,who,n,body,⟨pf,pt,pb⟩⟩).2.2.1)]∧rs=cG l pl (Rh way ⟨k,who,n,body,⟨pf,pt,pb⟩⟩).2.2.2:=by
 refine Ba Tryz.func68 (A5 (O:=oGs l pl way) (n0:=6) rfl) ?_
 refine de (fun(h7:k=7)=>?_) fun(h7:k≠7)=>?_
 ·have e:Rh way ⟨k,who,n,body,⟨pf,pt,pb⟩⟩=(who,⟨pf,pt,pb⟩,true,way):=by unfold Rh;rw[db h7]
  rw[e]
  exact .inl (A1 (oGs l pl way) [] (by exact RL6) rfl ⟨_,rfl⟩ rfl rfl ⟨rfl,rfl⟩)
 have e1:(n < 0∨n ≥ way.length)→Rh way ⟨k,who,n,body,⟨pf,pt,pb⟩⟩=(0,⟨0,0,eS⟩,false,way):=fun h=>by unfold Rh;rw[da h7,db h]
 refine df (fun(h1:n < 0)=>?_) fun(h1:¬n < 0)=>?_
 ·rw[e1 (.inl h1)]
  exact .inl (A1 (oGs l pl way) [] (by exact RL6) rfl ⟨_,rfl⟩ rfl rfl ⟨rfl,rfl⟩)
 refine df (fun h2=>?_) fun h2=>?_
 ·have h2:n ≥ ((way.map pkG).length:Nat):=h2
  rw[aa] at h2
  rw[e1 (.inr h2)]
  exact .inl (A1 (oGs l pl way) [] (by exact RL6) rfl ⟨_,rfl⟩ rfl rfl ⟨rfl,rfl⟩)
 have h2:¬n ≥ ((way.map pkG).length:Nat):=h2
 rw[aa] at h2
 obtain⟨i,rfl⟩:∃i:Nat,n=i:=⟨n.toNat,by omega⟩
 obtain⟨q,hq⟩:∃q,way[i]?=some q:=⟨_,ab (by omega)⟩
 have e2:Rh way ⟨k,who,i,body,⟨pf,pt,pb⟩⟩=(q.to,q,decide (k=3),if k≠5 then way.take i++way.drop (i+1) else if way.length < 400 then way++[q] else way):=by
  unfold Rh
  rw[da h7,da (by show ¬((i:Int) < 0∨(i:Int) ≥ way.length);omega)]
  show((way[i]?.getD ⟨0,0,eS⟩).to,way[i]?.getD ⟨0,0,eS⟩,_,if k≠5 then way.take i++way.drop (i+1) else if way.length < 400 then way++[way[i]?.getD ⟨0,0,eS⟩] else way)=_
  rw[hq];rfl
 rw[e2]
 clear e1 e2
 refine⟨⟨by omega,by rw[aa];omega⟩,?_⟩
 refine dk (f:=pkG) hq ?_
 refine di (fun(h5:k≠5)=>?_) fun(h5:k=5)=>?_
 ·rw[db h5]
  refine⟨rfl,⟨by rw[aa];omega,⟨fun h=>(by rw[List.map_eq_nil_iff] at h;subst h;cases hq),?_⟩⟩⟩
  refine⟨by omega,⟨by rw[aa];omega,?_⟩⟩
  conv=>whnf
  rw[ay,show Nat.beq i i=true from Nat.beq_refl i,show Nat.ble i (way.map pkG).length=true from Nat.ble_eq_true_of_le (by rw[aa];omega)]
  refine⟨by simp[E6];omega,?_⟩
  exact .inl (A1 (oGs l pl (way.take i++way.drop (i+1))) [(4,9)] ⟨⟨rfl,rfl,rfl⟩,⟨rfl,rfl,rfl⟩,⟨rfl,rfl,rfl⟩,⟨rfl,rfl,rfl⟩,⟨rfl,rfl,Zft (by
   show List.take i (way.map pkG)++((way.map pkG).take (way.map pkG).length).drop (i+1)=_
   rw[List.take_length,am,cv,List.map_drop])⟩,RL1,trivial⟩ rfl ⟨_,rfl⟩ rfl rfl ⟨rfl,rfl⟩)
 ·rw[da (fun h=>h h5)]
  refine df (fun h4=>?_) fun h4=>?_
  ·have h4:((way.map pkG).length:Int) < 400:=h4
   rw[aa] at h4
   rw[db (by omega)]
   refine⟨by simp;omega,?_⟩
   exact .inl (A1 (oGs l pl (way++[q])) [(4,10)] ⟨RL1,RL1,RL1,RL1,⟨rfl,rfl,Zft (by rw[am];rfl)⟩,RL1,trivial⟩ rfl ⟨_,rfl⟩ rfl rfl ⟨rfl,rfl⟩)
  ·have h4:¬((way.map pkG).length:Int) < 400:=h4
   rw[aa] at h4
   rw[da (by omega)]
   exact .inl (A1 (oGs l pl way) [] (by exact RL6) rfl ⟨_,rfl⟩ rfl rfl ⟨rfl,rfl⟩)
theorem Z3b (s:Bool)(n:PN)(b e:Nat):FnO Tryz.prog 20 [.ptr 0 0] (cS s n b e) fun g rs=>g=.tup [gI n.pmd,gI n.normal]∧rs=cS s n b e:=by
 cases s
 ·exact Za6 n b e
 ·exact Zac n b e
theorem Z9u (s:Bool)(n:PN)(b e:Nat):FnO Tryz.prog 23 [.ptr 0 0] (cS s n b e) fun g rs=>g=.v (.bool n.lds)∧rs=cS s n b e:=by
 cases s
 ·exact Zaa n b e
 ·exact Z0s n b e
theorem Z57 (s:Bool)(n:PN)(b e:Nat):FnO Tryz.prog 24 [.ptr 0 0] (cS s n b e) fun g rs=>g=gI n.cmt∧rs=cS s n b e:=by
 cases s
 ·exact Z3w n b e
 ·exact Pc n b e
theorem Zga (s:Bool)(n:PN)(b e:Nat)(hl:n.log.length≤1000000):FnO Tryz.prog 22 [.ptr 0 0] (cS s n b e) fun g rs=>g=.osl 1∧rs=[.abs (cl (oSs s n b e)),.slc (n.log.map enE) tEn 3]:=by
 cases s
 ·exact Zh5 n b e hl
 ·exact Zez n b e hl
theorem Zcl (s:Bool)(n:PN)(b e k:Nat)(h:n.dead=false→WNk k n)(v:Int):FnO Tryz.prog 41 [.ptr 0 0,gI v] (cS s n b e) fun g rs=>g=.v (.bool (Cn n v).2)∧∃s',rs=cS s' (Cn n v).1 b e∧(ShN s n→ShN s' (Cn n v).1):=by
 cases s
 ·exact Zfe n b e k h v
 ·exact Z7h n b e k h v
theorem Z9v (s:Bool)(n:PN)(b e:Nat)(h:n.dead=false→WNb n)(hs:ShN s n)(body:ByteArray):FnO Tryz.prog 28 [.ptr 0 0,.v (.string body)] (cS s n b e) fun g rs=>g=.v (.bool (C8 n body).2)∧rs=cS s (C8 n body).1 b e:=by
 cases s
 ·exact Zba n b e (fun _=>(hs.b rfl).1) body
 ·exact Z2h n b e h body
theorem Z9q (s:Bool)(n:PN)(b e:Nat)(hsh:ShN s n)(hm:n.many≤7)(hl:n.log.length≤1000000)(ho:n.out.length≤700000)(hs:n.std=true→(∀i,0≤n.aks i∧n.aks i≤n.log.length)∧0≤n.first∧n.first≤n.log.length):FnO Tryz.prog 70 [.ptr 0 0] (cS s n b e) fun g rs=>g=.tup []∧rs=cS s (C1 n) b e:=by
 cases s
 ·exact Zbt n b e (hsh.b rfl).1 hm ho
 ·exact Zax n b e (hsh.a rfl) hm hl ho hs
theorem Zhu (l:List GM)(pl:List RN)(way:List RPk)(i:Nat)(s:Bool)(n:PN)(b e:Nat)(r r':RN):cG (l.set i ⟨s,n,b,e,r⟩) pl way=cG (l.set i ⟨s,n,b,e,r'⟩) pl way:=by
 unfold cG oGs oG
 rw[List.map_set,List.map_set,List.map_set,List.map_set,List.map_set,List.map_set]
 rfl
set_option maxHeartbeats 4000000 in
theorem Zar (l:List GM)(pl:List RN)(way:List RPk)(i:Nat)(x:GM)(n':PN)(hx:l[i]?=some x)(kp t:Int)(hd:WD x.n.st.d)(hw:x.n.st.d.wait.length≤1000000)(ho:N4 (Eh x.n.st.d kp t) i l.length=some n'):FnO Tryz.prog 39 [.ptr 0 0,gI i,.agg [gI kp,gI t]] (cG l pl way) fun g rs=>g=.v (.bool true)∧∃b e,∀r,rs=cG (l.set i ⟨true,n',b,e,r⟩) pl way:=by
 have hil:=(ac.1 hx).1
 refine Ba Tryz.func39 (A5 (O:=oGs l pl way) (n0:=6) rfl) ?_
 refine⟨⟨by omega,by rw[aa];omega⟩,?_⟩
 refine dk (f:=pD) hx ?_
 refine⟨by decide,⟨by decide,?_⟩⟩
 obtain⟨s,m,b,e,r⟩:=x
 dsimp only at hd hw ho
 cases s
 ·refine dg (.take 5 i _ (cl (oBs m b e)) rfl (by rw[aj,hx];rfl) (.opn 7 _ _ _ rfl rfl rfl (.opn 8 _ _ _ rfl rfl rfl (.done (.raw 14 12 rfl (.same ((Z2t m.st.d hd hw kp t).cal fun q rs hq=>?_)))))))
  obtain⟨rfl,rfl⟩:=hq
  refine .done ?_
  refine dg (.done (.same ((Z2y (Eh m.st.d kp t) (Fo hd kp t) rfl i ((l.map pN).length:Nat)).cal fun q rs hq=>?_)))
  rw[aa] at hq
  rcases hq with⟨hn,-⟩ | ⟨n2,b',e',hn,rfl,rfl⟩
  ·rw[ho] at hn;cases hn
  rw[ho] at hn
  obtain rfl:=cg hn
  refine Gh.opn 16 _ _ _ rfl rfl rfl (.dup 21 16 b' rfl (.close (oAs n' b' e') [(0,16),(1,18),(2,19),(3,20),(4,21)] (by exact RL5) ⟨_,rfl⟩ rfl (.done ?_)))
  refine di (fun h=>dc rfl h) fun _=>?_
  refine⟨⟨by omega,by rw[aa];omega⟩,?_⟩
  refine dm (f:=pN) (y:=⟨true,n',b',e',r⟩) hx (fun k hk=>hk) rfl ?_
  refine⟨⟨by omega,by rw[aa];omega⟩,?_⟩
  refine dm (f:=pD) (y:=⟨true,n',b',e',r⟩) hx (fun k hk=>hk) rfl ?_
  exact .gh (.put 5 i 16 _ _ rfl (by rw[bf,aa];exact hil) rfl (.done (A1 (oGs (l.set i ⟨true,n',b',e',r⟩) pl way) [] ⟨RL1,RL1,RL1,RL1,RL1,⟨rfl,rfl,Hi (E0 l i ⟨true,n',b',e',r⟩)⟩,trivial⟩ rfl ⟨_,rfl⟩ rfl rfl ⟨rfl,b',e',fun r2=>Zhu l pl way i true n' b' e' r r2⟩)))
 ·refine dg (.take 5 i _ (cl (oAs m b e)) rfl (by rw[aj,hx];rfl) (.opn 7 _ _ _ rfl rfl rfl (.opn 8 _ _ _ rfl rfl rfl (.done (.raw 14 12 rfl (.same ((Z2t m.st.d hd hw kp t).cal fun q rs hq=>?_)))))))
  obtain⟨rfl,rfl⟩:=hq
  refine .done ?_
  refine dg (.done (.same ((Z2y (Eh m.st.d kp t) (Fo hd kp t) rfl i ((l.map pN).length:Nat)).cal fun q rs hq=>?_)))
  rw[aa] at hq
  rcases hq with⟨hn,-⟩ | ⟨n2,b',e',hn,rfl,rfl⟩
  ·rw[ho] at hn;cases hn
  rw[ho] at hn
  obtain rfl:=cg hn
  refine Gh.opn 16 _ _ _ rfl rfl rfl (.dup 21 16 b' rfl (.close (oAs n' b' e') [(0,16),(1,18),(2,19),(3,20),(4,21)] (by exact RL5) ⟨_,rfl⟩ rfl (.done ?_)))
  refine di (fun h=>dc rfl h) fun _=>?_
  refine⟨⟨by omega,by rw[aa];omega⟩,?_⟩
  refine dm (f:=pN) (y:=⟨true,n',b',e',r⟩) hx (fun k hk=>hk) rfl ?_
  refine⟨⟨by omega,by rw[aa];omega⟩,?_⟩
  refine dm (f:=pD) (y:=⟨true,n',b',e',r⟩) hx (fun k hk=>hk) rfl ?_
  exact .gh (.put 5 i 16 _ _ rfl (by rw[bf,aa];exact hil) rfl (.done (A1 (oGs (l.set i ⟨true,n',b',e',r⟩) pl way) [] ⟨RL1,RL1,RL1,RL1,RL1,⟨rfl,rfl,Hi (E0 l i ⟨true,n',b',e',r⟩)⟩,trivial⟩ rfl ⟨_,rfl⟩ rfl rfl ⟨rfl,b',e',fun r2=>Zhu l pl way i true n' b' e' r r2⟩)))
theorem Z4a {way w:List RPk}{s:GSt}{to:Int}{q:RPk}{is:Bool}(hM:Rh way s=(to,q,is,w))(h:∀p∈way,OkP p)(hs:s.p.body.size≤2000000):q.body.size≤2000000:=by
 unfold Rh at hM
 split at hM
 ·cases hM;exact hs
 ·split at hM
  ·cases hM;exact ah _
  ·next h2 =>
   obtain⟨p,hp⟩:∃p,way[s.n.toNat]?=some p:=⟨_,ab (by omega)⟩
   rw[hp] at hM
   cases hM
   exact b9 (h _ (ae hp)) (by omega)
theorem Px (f:RN→Nat→RN)(hf:∀n i,(f n i).self=n.self∧(f n i).many=n.many)(n:RN)(k:Nat):(Lk f n k).self=n.self∧(Lk f n k).many=n.many:=by
 induction k with
 | zero=>exact⟨rfl,rfl⟩
 | succ k ih =>
  rw[Cx]
  split
  ·exact ih
  ·exact⟨(hf _ _).1.trans ih.1,(hf _ _).2.trans ih.2⟩
theorem H3 (n:RN)(m:RM):(Aq n m).self=n.self∧(Aq n m).many=n.many:=Px (fun n i=>Ar n i m) (fun _ _=>⟨rfl,rfl⟩) n _
theorem Xe (n:RN):(Cc n).self=n.self∧(Cc n).many=n.many:=by
 unfold Cc
 split
 ·exact H3 {n with cmt:=Bb n.aks} _
 ·exact⟨rfl,rfl⟩
theorem Sr (n:RN):(Cf n).self=n.self∧(Cf n).many=n.many:=by
 unfold Cf
 split
 ·exact⟨rfl,rfl⟩
 ·have h1:=Xe (Aq (Ef n (G8 n)) ⟨3,n.pmd,0,0,G8 n⟩)
  have h2:=H3 (Ef n (G8 n)) ⟨3,n.pmd,0,0,G8 n⟩
  exact⟨h1.1.trans h2.1,h1.2.trans h2.2⟩
theorem Z2o (r:RN)(v:Int):(D7 r v).1.self=r.self∧(D7 r v).1.many=r.many:=by
 unfold D7
 split
 ·exact⟨rfl,rfl⟩
 ·have h1:=Sr (Aq {r with pmd:=v,phase:=1,jns:=[⟨r.self,r.normal,A4 r.log,r.log⟩]} ⟨1,v,0,0,[]⟩)
  have h2:=H3 {r with pmd:=v,phase:=1,jns:=[⟨r.self,r.normal,A4 r.log,r.log⟩]} ⟨1,v,0,0,[]⟩
  exact⟨h1.1.trans h2.1,h1.2.trans h2.2⟩
theorem Xi (r:RN):(D8 r).self=r.self∧(D8 r).many=r.many:=by
 refine Px _ (fun n i=>?_) r _
 have a:∀n,(Fb n i).self=n.self∧(Fb n i).many=n.many:=fun n=>by unfold Fb;split<;>exact⟨rfl,rfl⟩
 have b:∀n,(Ev n i).self=n.self∧(Ev n i).many=n.many:=fun n=>by unfold Ev;split<;>exact⟨rfl,rfl⟩
 have c:∀n,(Ek n i).self=n.self∧(Ek n i).many=n.many:=fun n=>by unfold Ek;split<;>exact⟨rfl,rfl⟩
 have d:∀n,(En n i).self=n.self∧(En n i).many=n.many:=fun n=>by unfold En;split<;>exact⟨rfl,rfl⟩
 exact⟨(d _).1.trans ((c _).1.trans ((b _).1.trans (a _).1)),(d _).2.trans ((c _).2.trans ((b _).2.trans (a _).2))⟩
theorem Z5q {s:Bool}{n:PN}(h:ShN s n):ShN s (C1 n):=by
 unfold C1
 split
 ·exact h
 ·split
  ·obtain⟨o,e⟩:=(Iz I9 n n.many).to
   rw[e];exact⟨h.b,h.a⟩
  ·obtain⟨o,e⟩:=(Iz If n n.many).to
   rw[e];exact⟨h.b,h.a⟩
theorem Z7j {α:Type}{l:List α}{i:Nat}{x:α}(h:l[i]?=some x):l.set i x=l:=by
 refine co fun j=>?_
 rw[ck]
 split
 ·next hj=>subst hj;rw[db (ac.1 h).1,h]
 ·rfl
theorem MOk.up {k j:Nat}{x:GM}(h:MOk k x)(hj:k≤j)(hb:j≤900000000):MOk j x:=⟨h.sim,h.ni.up hj hb,h.nj,h.sh⟩
theorem Zg8 (many:Int)(l:List GSt):FnV Tryz.prog 26 [gI many,.sl (l.map Z3s)] fun g=>g=.v (.bool (decide (1≤many∧many≤5∧l.length≤200))):=by
 refine fnG Tryz.func26 ?_
 refine df (fun(h1:many ≥ 1)=>?_) fun(h1:¬many ≥ 1)=>?_
 ·refine df (fun(h2:many≤5)=>?_) fun(h2:¬many≤5)=>?_
  ·show G.v (.bool (decide (((l.map Z3s).length:Int)≤200)))=_
   rw[aa]
   exact congrArg (fun b=>G.v (.bool b)) (decide_eq_decide.2 (by omega))
  ·rw[decide_eq_false (by omega)];exact rfl
 ·rw[decide_eq_false (by omega)];exact rfl
theorem Z8w {way:List RPk}{s:GSt}(hw:way.length≤1000)(ho:∀p∈way,OkP p):(Rh way s).2.2.2.length≤1000∧∀p∈(Rh way s).2.2.2,OkP p:=by
 unfold Rh
 split
 ·exact⟨hw,ho⟩
 split
 ·exact⟨hw,ho⟩
 ·next h2 =>
  obtain⟨q,hq⟩:∃q,way[s.n.toNat]?=some q:=⟨_,ab (by omega)⟩
  rw[hq]
  dsimp only[Option.getD_some]
  split
  ·refine⟨by simp;omega,fun p hp=>?_⟩
   rcases br.1 hp with hp | hp
   ·exact ho p (bd hp)
   ·exact ho p (bz hp)
  ·split
   ·refine⟨by simp;omega,fun p hp=>?_⟩
    rcases br.1 hp with hp | hp
    ·exact ho p hp
    ·rw[bm.1 hp];exact ho q (ae hq)
   ·exact⟨hw,ho⟩
end Go.Proofs.YtihfaocdpmmooaaGreat


import Derived.Test.YtihfaocdpmmooaaGreatZGq
import Derived.Test.YtihfaocdpmmooaaGreatSxMe
import Derived.Test.YtihfaocdpmmooaaGreatGM3
namespace Go.Proofs.YtihfaocdpmmooaaGreat
structure GSt where
 k:Int
 who:Int
 n:Int
 body:ByteArray
 p:RPk
def Z2v (s:GSt):List G:=[gI s.k,gI s.who,gI s.n,.v (.string s.body),gI s.p.frm,gI s.p.to,.v (.string s.p.body)]
def X0 (n:PN)(kp t:Int):PN:=I4 n.self n.many (n.pmd,n.normal,n.log) ⟨n.st.mark,n.st.half,n.st.b.length,n.st.b,n.st.all,false,Ei n.st.d kp t⟩
theorem MOk.rest {k:Nat}{x:GM}(h:MOk k x)(kp t:Int):Ml (Ei x.n.st.d kp t) x.n.self x.n.many=some (X0 x.n kp t)∧∀b e,MOk k ⟨true,X0 x.n kp t,b,e,Kn x.r⟩:=by
 have hi:=h.ni
 have hw:=hi.sl.ws
 have hr:=hi.sl.rl
 have hb:=hw.b
 have hc:=X1 hw hr kp t
 have hmb:(x.n.st.mark:Int)≤big:=by have:=Z5t hw (by have:=hi.sl.kk;omega);omega
 rw[hb] at hc
 have ho:=Yw hc hmb hr.sz
 obtain⟨w1,w2⟩:=Z5v hw.d hc hr.sz
 rw[←hb] at ho w1 w2
 have hlen:(Ei x.n.st.d kp t).now.length=1100:=w1.many
 refine⟨?_,fun b e=>⟨Sim.fol h.sim.self h.sim.many h.sim.pmd h.sim.normal h.sim.log rfl rfl rfl rfl,NI.fol ⟨w1.up hw.mark,w2,hi.sl.kk,hi.sl.ld⟩ rfl ⟨hi.nv.p,hi.nv.log,hi.nv.top⟩ rfl hi.self hi.m7 ⟨Int.le_refl _,by show(0:Int)≤(x.n.log.length:Int);omega⟩ rfl rfl fun _=>Nat.zero_le _,L5 rfl,⟨fun h=>(by cases h),fun _ _ h=>(by cases h)⟩⟩⟩
 have hs:=hi.self
 have h7:=hi.m7
 unfold Ml
 rw[if_neg,ho]
 ·dsimp only
  rw[hi.sl.ld]
  dsimp only
  rw[if_pos ⟨hi.nv.log,hi.nv.p.2.1,hi.nv.top⟩,Int.toNat_natCast,Int.toNat_natCast]
  rfl
 ·rw[hlen]
  rintro(h | h | h | h)
  ·exact Pq (by omega) h7 h
  ·omega
  ·omega
  ·exact absurd h (by decide)
def Gn (way:List RPk)(s:GSt):Int × RPk × Bool × List RPk :=
 if s.k=7 then(s.who,s.p,true,way)
 else if s.n < 0∨s.n ≥ way.length then(0,⟨0,0,eS⟩,false,way)
 else((way[s.n.toNat]?.getD ⟨0,0,eS⟩).to,way[s.n.toNat]?.getD ⟨0,0,eS⟩,decide (s.k=3),if s.k≠5 then way.take s.n.toNat++way.drop (s.n.toNat+1) else if way.length < 400 then way++[way[s.n.toNat]?.getD ⟨0,0,eS⟩] else way)
def atR (l:List RN)(i:Int):RN:=l[i.toNat]?.getD (H1 0 0)
def Ka (l:List RN)(s:GSt):Int:=if s.n≠0 then s.n else Ih (atR l s.who).pmd s.who l.length
def Z61 (r:RN)(s:GSt)(v:Int):RN:=if s.k=0 then(Fk r v).1 else if s.k=1 then(Cs r s.body).1 else if s.k=2 then Fb r else if s.k=6 then Kn r else r
def D8 (l:List RN)(way:List RPk)(s:GSt):List RN × List RPk × Int :=
 if s.k ≥ 3∧s.k≠6 then
  if(Gn way s).2.2.1=false∨(Gn way s).1 < 0∨(Gn way s).1 ≥ l.length then(l,(Gn way s).2.2.2,-1)
  else(l.set (Gn way s).1.toNat (Er (atR l (Gn way s).1) (Gn way s).2.1),(Gn way s).2.2.2,(Gn way s).1)
 else if s.who < 0∨s.who ≥ l.length then(l,way,-1)
 else(l.set s.who.toNat (Z61 (atR l s.who) s (Ka l s)),way,s.who)
end Go.Proofs.YtihfaocdpmmooaaGreat
namespace Go.Proofs.YtihfaocdpmmooaaGreat
open Go.RowKit
set_option maxRecDepth 100000
theorem Yv (v s m:Int):FnV Tryz.prog 101 [gI v,gI s,gI m] fun g=>g=.tup [gI (Ih v s m),.v (.bool (Jq v s m))] :=
 ⟨⟨_,Tryz.func101,by kernel_rfl,by kernel_rfl⟩,fun I w vs hm hp=>by
  obtain⟨x,vs,rfl,hx,hp⟩:=hp.uncons
  obtain⟨y,z,rfl,hy,hz⟩:=Z24 hp
  rw[C5 hx,C5 hy,C5 hz]
  exact(Sc v s m w).mono fun e w' ⟨he,hw⟩=>⟨_,_,I,he,rfl,hm.keep fun b _ _ hx=>(Kj hw).block b (hm.lt hx),⟨[_,_],rfl,rfl,fun j g u hg hu=>by match j,hg,hu with | 0,hg,hu=>cases hg;cases hu;exact .v _ | 1,hg,hu=>cases hg;cases hu;exact .v _⟩,fun _ _ _ h=>h,fun _ _ _=>rfl,Kj hw⟩⟩
theorem Yj (l:List GM)(pl:List RN)(way:List RPk)(k who n:Int)(body:ByteArray)(pf pt:Int)(pb:ByteArray)(hw:way.length≤1000):FnO Tryz.prog 68 [.ptr 0 0,.agg [gI k,gI who,gI n,.v (.string body),gI pf,gI pt,.v (.string pb)]] (cG l pl way) fun g rs=>g=.tup [gI (Gn way ⟨k,who,n,body,⟨pf,pt,pb⟩⟩).1,.oag (pkG (Gn way ⟨k,who,n,body,⟨pf,pt,pb⟩⟩).2.1),.v (.bool (Gn way ⟨k,who,n,body,⟨pf,pt,pb⟩⟩).2.2.1)]∧rs=cG l pl (Gn way ⟨k,who,n,body,⟨pf,pt,pb⟩⟩).2.2.2:=by
 refine Bd Tryz.func68 (by kernel_rfl) rfl (Nat.le_of_ble_eq_true (by kernel_rfl)) (by kernel_rfl) (A6 (O:=oGs l pl way) (n0:=6) rfl) ?_
 refine EvIf.beq (fun(h7:k=7)=>?_) fun(h7:k≠7)=>?_
 ·have e:Gn way ⟨k,who,n,body,⟨pf,pt,pb⟩⟩=(who,⟨pf,pt,pb⟩,true,way):=by unfold Gn;rw[if_pos h7]
  rw[e]
  exact .inl (A1 (oGs l pl way) [] (by exact RL6) rfl ⟨_,rfl⟩ rfl rfl ⟨rfl,rfl⟩)
 have e1:(n < 0∨n ≥ way.length)→Gn way ⟨k,who,n,body,⟨pf,pt,pb⟩⟩=(0,⟨0,0,eS⟩,false,way):=fun h=>by unfold Gn;rw[if_neg h7,if_pos h]
 refine EvIf.dec (fun(h1:n < 0)=>?_) fun(h1:¬n < 0)=>?_
 ·rw[e1 (.inl h1)]
  exact .inl (A1 (oGs l pl way) [] (by exact RL6) rfl ⟨_,rfl⟩ rfl rfl ⟨rfl,rfl⟩)
 refine EvIf.dec (fun h2=>?_) fun h2=>?_
 ·have h2:n ≥ ((way.map pkG).length:Nat):=h2
  rw[List.length_map] at h2
  rw[e1 (.inr h2)]
  exact .inl (A1 (oGs l pl way) [] (by exact RL6) rfl ⟨_,rfl⟩ rfl rfl ⟨rfl,rfl⟩)
 have h2:¬n ≥ ((way.map pkG).length:Nat):=h2
 rw[List.length_map] at h2
 obtain⟨i,rfl⟩:∃i:Nat,n=i:=⟨n.toNat,by omega⟩
 obtain⟨q,hq⟩:∃q,way[i]?=some q:=⟨_,List.getElem?_eq_getElem (by omega)⟩
 have e2:Gn way ⟨k,who,i,body,⟨pf,pt,pb⟩⟩=(q.to,q,decide (k=3),if k≠5 then way.take i++way.drop (i+1) else if way.length < 400 then way++[q] else way):=by
  unfold Gn
  rw[if_neg h7,if_neg (by show ¬((i:Int) < 0∨(i:Int) ≥ way.length);omega)]
  show((way[i]?.getD ⟨0,0,eS⟩).to,way[i]?.getD ⟨0,0,eS⟩,_,if k≠5 then way.take i++way.drop (i+1) else if way.length < 400 then way++[way[i]?.getD ⟨0,0,eS⟩] else way)=_
  rw[hq];rfl
 rw[e2]
 clear e1 e2
 refine⟨⟨by omega,by rw[List.length_map];omega⟩,?_⟩
 refine EvIdx.at (f:=pkG) hq ?_
 refine EvIf.bne (fun(h5:k≠5)=>?_) fun(h5:k=5)=>?_
 ·rw[if_pos h5]
  refine⟨rfl,⟨by rw[List.length_map];omega,⟨fun h=>(by rw[List.map_eq_nil_iff] at h;subst h;cases hq),?_⟩⟩⟩
  refine⟨by omega,⟨by rw[List.length_map];omega,?_⟩⟩
  conv=>whnf
  rw[Int.toNat_natCast,show Nat.beq i i=true from Nat.beq_refl i,show Nat.ble i (way.map pkG).length=true from Nat.ble_eq_true_of_le (by rw[List.length_map];omega)]
  refine⟨by simp[Ea];omega,?_⟩
  exact .inl (A1 (oGs l pl (way.take i++way.drop (i+1))) [(4,9)] ⟨⟨rfl,rfl,rfl⟩,⟨rfl,rfl,rfl⟩,⟨rfl,rfl,rfl⟩,⟨rfl,rfl,rfl⟩,⟨rfl,rfl,Zef (by
   show List.take i (way.map pkG)++((way.map pkG).take (way.map pkG).length).drop (i+1)=_
   rw[List.take_length,List.map_append,List.map_take,List.map_drop])⟩,RL1,trivial⟩ rfl ⟨_,rfl⟩ rfl rfl ⟨rfl,rfl⟩)
 ·rw[if_neg (fun h=>h h5)]
  refine EvIf.dec (fun h4=>?_) fun h4=>?_
  ·have h4:((way.map pkG).length:Int) < 400:=h4
   rw[List.length_map] at h4
   rw[if_pos (by omega)]
   refine⟨by simp;omega,?_⟩
   exact .inl (A1 (oGs l pl (way++[q])) [(4,10)] ⟨RL1,RL1,RL1,RL1,⟨rfl,rfl,Zef (by rw[List.map_append];rfl)⟩,RL1,trivial⟩ rfl ⟨_,rfl⟩ rfl rfl ⟨rfl,rfl⟩)
  ·have h4:¬((way.map pkG).length:Int) < 400:=h4
   rw[List.length_map] at h4
   rw[if_neg (by omega)]
   exact .inl (A1 (oGs l pl way) [] (by exact RL6) rfl ⟨_,rfl⟩ rfl rfl ⟨rfl,rfl⟩)
theorem Z0m (s:Bool)(n:PN)(b e:Nat):FnO Tryz.prog 20 [.ptr 0 0] (cS s n b e) fun g rs=>g=.tup [gI n.pmd,gI n.normal]∧rs=cS s n b e:=by
 cases s
 ·exact Z9a n b e
 ·exact Z8p n b e
theorem Z8g (s:Bool)(n:PN)(b e:Nat):FnO Tryz.prog 23 [.ptr 0 0] (cS s n b e) fun g rs=>g=.v (.bool n.lds)∧rs=cS s n b e:=by
 cases s
 ·exact Z9u n b e
 ·exact Yf n b e
theorem Zet (s:Bool)(n:PN)(b e:Nat)(hl:n.log.length≤1000000):FnO Tryz.prog 22 [.ptr 0 0] (cS s n b e) fun g rs=>g=.osl 1∧rs=[.abs (cl (oSs s n b e)),.slc (n.log.map enE) tEn 3]:=by
 cases s
 ·exact Zfh n b e hl
 ·exact Zb4 n b e hl
theorem Zd6 (s:Bool)(n:PN)(b e k:Nat)(h:n.dead=false→WNk k n)(v:Int):FnO Tryz.prog 41 [.ptr 0 0,gI v] (cS s n b e) fun g rs=>g=.v (.bool (C3 n v).2)∧∃s',rs=cS s' (C3 n v).1 b e∧(ShN s n→ShN s' (C3 n v).1):=by
 cases s
 ·exact Zax n b e k h v
 ·exact Z65 n b e k h v
theorem Y8 (s:Bool)(n:PN)(b e:Nat)(h:n.dead=false→WNb n)(hs:ShN s n)(body:ByteArray):FnO Tryz.prog 28 [.ptr 0 0,.v (.string body)] (cS s n b e) fun g rs=>g=.v (.bool (B3 n body).2)∧rs=cS s (B3 n body).1 b e:=by
 cases s
 ·exact Za0 n b e (fun _=>(hs.b rfl).1) body
 ·exact Yh n b e h body
theorem Z7m (s:Bool)(n:PN)(b e:Nat)(hsh:ShN s n)(hm:n.many≤7)(hl:n.log.length≤1000000)(ho:n.out.length≤700000)(hs:n.std=true→(∀i,0≤n.aks i∧n.aks i≤n.log.length)∧0≤n.first∧n.first≤n.log.length):FnO Tryz.prog 70 [.ptr 0 0] (cS s n b e) fun g rs=>g=.tup []∧rs=cS s (Bl n) b e:=by
 cases s
 ·exact Z7z n b e (hsh.b rfl).1 hm ho
 ·exact Z87 n b e (hsh.a rfl) hm hl ho hs
abbrev oGv (l:List GM)(pl:List RN)(way:List RPk):List R:=[.blk [.osl 2,.osl 3,.osl 4,.osl 5] tGr,.fam (l.map mOb),.slc (l.map pN) tNp 1,.slc (l.map pD) tDp 1,.slc (pl.map Zak) tRN 12,.vw (way.map pkG) tPk 3]
theorem Zdc (l:List GM)(pl:List RN)(way:List RPk)(k who n:Int)(body:ByteArray)(pf pt:Int)(pb:ByteArray)(i:Nat)(x:GM)(hx:l[i]?=some x)(hw:who=i):FnO Tryz.prog 69 [.ptr 0 0,.agg [gI k,gI who,gI n,.v (.string body),gI pf,gI pt,.v (.string pb)]] (oGv l pl way) fun g rs=>g=gI (if n≠0 then n else Ih x.n.pmd who l.length)∧rs=oGv l pl way:=by
 subst hw
 refine Zgg Tryz.func69 (by kernel_rfl) rfl (Nat.le_of_ble_eq_true (by kernel_rfl)) (by kernel_rfl) ?_
 refine EvIf.bne (fun h=>?_) fun h=>?_
 ·rw[if_pos h]
  exact⟨rfl,(by exact RL6),rfl⟩
 rw[if_neg (fun h2=>h2 h)]
 have hil:=(List.getElem?_eq_some_iff.1 hx).1
 refine⟨⟨by omega,by rw[List.length_map];omega⟩,?_⟩
 refine EvIdx.at (f:=pN) hx ?_
 obtain⟨s,m,b,e,r⟩:=x
 refine EvCall.gh (.take 1 i _ _ rfl (Ek hx) (.lies 7 b _ rfl (G2 ⟨s,m,b,e,r⟩) (.done (.raw 8 7 rfl (.same ((Z0m s m b e).cal fun q rs hq=>?_))))))
 obtain⟨rfl,rfl⟩:=hq
 refine .put 1 i 7 _ _ rfl (by rw[List.length_set,List.length_map];exact hil) rfl (.drop 8 _ rfl (.done ?_))
 refine(Yv _ _ _).cal fun q hq=>?_
 subst hq
 rw[List.length_map]
 exact⟨rfl,⟨RL1,⟨rfl,rfl,Gg (Fo hx)⟩,RL1,RL1,RL1,RL1,trivial⟩,rfl⟩
end Go.Proofs.YtihfaocdpmmooaaGreat
namespace Go.Proofs.YtihfaocdpmmooaaGreat
open Go.RowKit
set_option maxRecDepth 100000
theorem Zge (l:List GM)(pl:List RN)(way:List RPk)(i:Nat)(s:Bool)(n:PN)(b e:Nat)(r r':RN):cG (l.set i ⟨s,n,b,e,r⟩) pl way=cG (l.set i ⟨s,n,b,e,r'⟩) pl way:=by
 unfold cG oGs oG
 rw[List.map_set,List.map_set,List.map_set,List.map_set,List.map_set,List.map_set]
 rfl
set_option maxHeartbeats 4000000 in
theorem Z9f (l:List GM)(pl:List RN)(way:List RPk)(i:Nat)(x:GM)(n':PN)(hx:l[i]?=some x)(kp t:Int)(hd:WD x.n.st.d)(hw:x.n.st.d.wait.length≤1000000)(ho:Ml (Ei x.n.st.d kp t) i l.length=some n'):FnO Tryz.prog 39 [.ptr 0 0,gI i,.agg [gI kp,gI t]] (cG l pl way) fun g rs=>g=.v (.bool true)∧∃b e,∀r,rs=cG (l.set i ⟨true,n',b,e,r⟩) pl way:=by
 have hil:=(List.getElem?_eq_some_iff.1 hx).1
 refine Bd Tryz.func39 (by kernel_rfl) rfl (Nat.le_of_ble_eq_true (by kernel_rfl)) (by kernel_rfl) (A6 (O:=oGs l pl way) (n0:=6) rfl) ?_
 refine⟨⟨by omega,by rw[List.length_map];omega⟩,?_⟩
 refine EvIdx.at (f:=pD) hx ?_
 refine⟨by decide,⟨by decide,?_⟩⟩
 obtain⟨s,m,b,e,r⟩:=x
 dsimp only at hd hw ho
 cases s
 ·refine EvCall.gh (.take 5 i _ (cl (oBs m b e)) rfl (by rw[List.getElem?_map,hx];rfl) (.opn 7 _ _ _ rfl rfl rfl (.opn 8 _ _ _ rfl rfl rfl (.done (.raw 14 12 rfl (.same ((Z1o m.st.d hd hw kp t).cal fun q rs hq=>?_)))))))
  obtain⟨rfl,rfl⟩:=hq
  refine .done ?_
  refine EvCall.gh (.done (.same ((Xx (Ei m.st.d kp t) (F9 hd kp t) rfl i ((l.map pN).length:Nat)).cal fun q rs hq=>?_)))
  rw[List.length_map] at hq
  rcases hq with⟨hn,-⟩ | ⟨n2,b',e',hn,rfl,rfl⟩
  ·rw[ho] at hn;cases hn
  rw[ho] at hn
  obtain rfl:=Option.some.inj hn
  refine Gh.opn 16 _ _ _ rfl rfl rfl (.dup 21 16 b' rfl (.close (oAs n' b' e') [(0,16),(1,18),(2,19),(3,20),(4,21)] (by exact RL5) ⟨_,rfl⟩ rfl (.done ?_)))
  refine EvIf.bne (fun h=>absurd rfl h) fun _=>?_
  refine⟨⟨by omega,by rw[List.length_map];omega⟩,?_⟩
  refine EvSet.at (f:=pN) (y:=⟨true,n',b',e',r⟩) hx (fun k hk=>hk) rfl ?_
  refine⟨⟨by omega,by rw[List.length_map];omega⟩,?_⟩
  refine EvSet.at (f:=pD) (y:=⟨true,n',b',e',r⟩) hx (fun k hk=>hk) rfl ?_
  exact .gh (.put 5 i 16 _ _ rfl (by rw[List.length_set,List.length_map];exact hil) rfl (.done (A1 (oGs (l.set i ⟨true,n',b',e',r⟩) pl way) [] ⟨RL1,RL1,RL1,RL1,RL1,⟨rfl,rfl,Gg (Dr l i ⟨true,n',b',e',r⟩)⟩,trivial⟩ rfl ⟨_,rfl⟩ rfl rfl ⟨rfl,b',e',fun r2=>Zge l pl way i true n' b' e' r r2⟩)))
 ·refine EvCall.gh (.take 5 i _ (cl (oAs m b e)) rfl (by rw[List.getElem?_map,hx];rfl) (.opn 7 _ _ _ rfl rfl rfl (.opn 8 _ _ _ rfl rfl rfl (.done (.raw 14 12 rfl (.same ((Z1o m.st.d hd hw kp t).cal fun q rs hq=>?_)))))))
  obtain⟨rfl,rfl⟩:=hq
  refine .done ?_
  refine EvCall.gh (.done (.same ((Xx (Ei m.st.d kp t) (F9 hd kp t) rfl i ((l.map pN).length:Nat)).cal fun q rs hq=>?_)))
  rw[List.length_map] at hq
  rcases hq with⟨hn,-⟩ | ⟨n2,b',e',hn,rfl,rfl⟩
  ·rw[ho] at hn;cases hn
  rw[ho] at hn
  obtain rfl:=Option.some.inj hn
  refine Gh.opn 16 _ _ _ rfl rfl rfl (.dup 21 16 b' rfl (.close (oAs n' b' e') [(0,16),(1,18),(2,19),(3,20),(4,21)] (by exact RL5) ⟨_,rfl⟩ rfl (.done ?_)))
  refine EvIf.bne (fun h=>absurd rfl h) fun _=>?_
  refine⟨⟨by omega,by rw[List.length_map];omega⟩,?_⟩
  refine EvSet.at (f:=pN) (y:=⟨true,n',b',e',r⟩) hx (fun k hk=>hk) rfl ?_
  refine⟨⟨by omega,by rw[List.length_map];omega⟩,?_⟩
  refine EvSet.at (f:=pD) (y:=⟨true,n',b',e',r⟩) hx (fun k hk=>hk) rfl ?_
  exact .gh (.put 5 i 16 _ _ rfl (by rw[List.length_set,List.length_map];exact hil) rfl (.done (A1 (oGs (l.set i ⟨true,n',b',e',r⟩) pl way) [] ⟨RL1,RL1,RL1,RL1,RL1,⟨rfl,rfl,Gg (Dr l i ⟨true,n',b',e',r⟩)⟩,trivial⟩ rfl ⟨_,rfl⟩ rfl rfl ⟨rfl,b',e',fun r2=>Zge l pl way i true n' b' e' r r2⟩)))
end Go.Proofs.YtihfaocdpmmooaaGreat
namespace Go.Proofs.YtihfaocdpmmooaaGreat
inductive Oc (way:List RPk)(kd:Int)(pk:RPk)(c:Prop)(n:PN):PN→Prop
 | take (p:RPk) (h:p∈way∨kd=7∧p=pk):Oc way kd pk c n (Dm n p)
 | lead (v:Int):Oc way kd pk c n (C3 n v).1
 | offer (b:ByteArray) (h:c):Oc way kd pk c n (B3 n b).1
 | nudge:Oc way kd pk c n (Bl n)
 | rest:Oc way kd pk c n (X0 n 0 0)
 | same:Oc way kd pk c n n
theorem Z7w {way w:List RPk}{s:GSt}{to:Int}{q:RPk}(hM:Gn way s=(to,q,true,w)):q∈way∨s.k=7∧q=s.p:=by
 unfold Gn at hM
 split at hM
 ·next h=>cases hM;exact .inr ⟨h,rfl⟩
 ·split at hM
  ·cases hM
  ·next h2 =>
   obtain⟨p,hp⟩:∃p,way[s.n.toNat]?=some p:=⟨_,List.getElem?_eq_getElem (by omega)⟩
   rw[hp] at hM
   have e:p=q:=congrArg (fun z:Int × RPk × Bool × List RPk=>z.2.1) hM
   subst e
   exact .inl (List.mem_of_getElem? hp)
end Go.Proofs.YtihfaocdpmmooaaGreat
namespace Go.Proofs.YtihfaocdpmmooaaGreat
open Go.RowKit
set_option maxRecDepth 100000
theorem Ss {L:List RN}{way w:List RPk}{s:GSt}{to:Int}{q:RPk}{is:Bool}(h:s.k ≥ 3∧s.k≠6)(hM:Gn way s=(to,q,is,w))(h2:is=false∨to < 0∨to ≥ L.length):D8 L way s=(L,w,-1):=by
 unfold D8;rw[if_pos h,hM];exact if_pos h2
theorem Z8 {L:List RN}{way w:List RPk}{s:GSt}{to:Int}{q:RPk}{is:Bool}(h:s.k ≥ 3∧s.k≠6)(hM:Gn way s=(to,q,is,w))(h2:¬(is=false∨to < 0∨to ≥ L.length)):D8 L way s=(L.set to.toNat (Er (atR L to) q),w,to):=by
 unfold D8;rw[if_pos h,hM];exact if_neg h2
theorem Ic {L:List RN}{way:List RPk}{s:GSt}(h:¬(s.k ≥ 3∧s.k≠6))(h2:s.who < 0∨s.who ≥ L.length):D8 L way s=(L,way,-1):=by
 unfold D8;rw[if_neg h,if_pos h2]
theorem Vh {L:List RN}{way:List RPk}{s:GSt}(h:¬(s.k ≥ 3∧s.k≠6))(h2:¬(s.who < 0∨s.who ≥ L.length)):D8 L way s=(L.set s.who.toNat (Z61 (atR L s.who) s (Ka L s)),way,s.who):=by
 unfold D8;rw[if_neg h,if_neg h2]
theorem Z3c {way w:List RPk}{s:GSt}{to:Int}{q:RPk}{is:Bool}(hM:Gn way s=(to,q,is,w))(h:∀p∈way,OkP p)(hs:s.p.body.size≤2000000):q.body.size≤2000000:=by
 unfold Gn at hM
 split at hM
 ·cases hM;exact hs
 ·split at hM
  ·cases hM;exact Nat.zero_le _
  ·next h2 =>
   obtain⟨p,hp⟩:∃p,way[s.n.toNat]?=some p:=⟨_,List.getElem?_eq_getElem (by omega)⟩
   rw[hp] at hM
   cases hM
   exact Nat.le_trans (h _ (List.mem_of_getElem? hp)) (by omega)
theorem Qp (f:RN→Nat→RN)(hf:∀n i,(f n i).self=n.self∧(f n i).many=n.many)(n:RN)(k:Nat):(P9 f n k).self=n.self∧(P9 f n k).many=n.many:=by
 induction k with
 | zero=>exact⟨rfl,rfl⟩
 | succ k ih =>
  rw[Ff]
  split
  ·exact ih
  ·exact⟨(hf _ _).1.trans ih.1,(hf _ _).2.trans ih.2⟩
theorem G5 (n:RN)(m:RM):(Bq n m).self=n.self∧(Bq n m).many=n.many:=Qp (fun n i=>E0 n i m) (fun _ _=>⟨rfl,rfl⟩) n _
theorem Xl (n:RN):(E6 n).self=n.self∧(E6 n).many=n.many:=by
 unfold E6
 split
 ·exact G5 {n with cmt:=Bu n.aks} _
 ·exact⟨rfl,rfl⟩
theorem Rv (n:RN):(Ev n).self=n.self∧(Ev n).many=n.many:=by
 unfold Ev
 split
 ·exact⟨rfl,rfl⟩
 ·have h1:=Xl (Bq (L0 n (Ir n)) ⟨3,n.pmd,0,0,Ir n⟩)
  have h2:=G5 (L0 n (Ir n)) ⟨3,n.pmd,0,0,Ir n⟩
  exact⟨h1.1.trans h2.1,h1.2.trans h2.2⟩
theorem Z1d (r:RN)(v:Int):(Fk r v).1.self=r.self∧(Fk r v).1.many=r.many:=by
 unfold Fk
 split
 ·exact⟨rfl,rfl⟩
 ·have h1:=Rv (Bq {r with pmd:=v,phase:=1,jns:=[⟨r.self,r.normal,A5 r.log,r.log⟩]} ⟨1,v,0,0,[]⟩)
  have h2:=G5 {r with pmd:=v,phase:=1,jns:=[⟨r.self,r.normal,A5 r.log,r.log⟩]} ⟨1,v,0,0,[]⟩
  exact⟨h1.1.trans h2.1,h1.2.trans h2.2⟩
theorem Xk (r:RN):(Fb r).self=r.self∧(Fb r).many=r.many:=by
 refine Qp _ (fun n i=>?_) r _
 have a:∀n,(K5 n i).self=n.self∧(K5 n i).many=n.many:=fun n=>by unfold K5;split<;>exact⟨rfl,rfl⟩
 have b:∀n,(K6 n i).self=n.self∧(K6 n i).many=n.many:=fun n=>by unfold K6;split<;>exact⟨rfl,rfl⟩
 have c:∀n,(J7 n i).self=n.self∧(J7 n i).many=n.many:=fun n=>by unfold J7;split<;>exact⟨rfl,rfl⟩
 have d:∀n,(Js n i).self=n.self∧(Js n i).many=n.many:=fun n=>by unfold Js;split<;>exact⟨rfl,rfl⟩
 exact⟨(d _).1.trans ((c _).1.trans ((b _).1.trans (a _).1)),(d _).2.trans ((c _).2.trans ((b _).2.trans (a _).2))⟩
theorem Z3g {s:Bool}{n:PN}(h:ShN s n):ShN s (Bl n):=by
 unfold Bl
 split
 ·exact h
 ·split
  ·obtain⟨o,e⟩:=(Ip Hy n n.many).to
   rw[e];exact⟨h.b,h.a⟩
  ·obtain⟨o,e⟩:=(Ip Hr n n.many).to
   rw[e];exact⟨h.b,h.a⟩
theorem Zcv {α:Type}{l:List α}{i:Nat}{x:α}(h:l[i]?=some x):l.set i x=l:=by
 refine List.ext_getElem? fun j=>?_
 rw[List.getElem?_set]
 split
 ·next hj=>subst hj;rw[if_pos (List.getElem?_eq_some_iff.1 h).1,h]
 ·rfl
theorem MOk.up {k j:Nat}{x:GM}(h:MOk k x)(hj:k≤j)(hb:j≤900000000):MOk j x:=⟨h.sim,h.ni.up hj hb,h.nj,h.sh⟩
set_option maxHeartbeats 8000000 in
theorem Zcg (k m:Nat)(l:List GM)(pl:List RN)(way:List RPk)(kd who n:Int)(body:ByteArray)(pf pt:Int)(pb:ByteArray)(hG:GI k m l)(hS:Still l)(hw:way.length≤1000)(hwo:∀p∈way,OkP p)(hpb:pb.size≤2000000)(hk:k+150≤900000000) :
  FnO Tryz.prog 30 [.ptr 0 0,.agg [gI kd,gI who,gI n,.v (.string body),gI pf,gI pt,.v (.string pb)]] (cG l pl way) fun g rs=>g=gI (D8 (l.map GM.r) way ⟨kd,who,n,body,⟨pf,pt,pb⟩⟩).2.2∧∃l',rs=cG l' pl (D8 (l.map GM.r) way ⟨kd,who,n,body,⟨pf,pt,pb⟩⟩).2.1∧GI (k+150) m l'∧l'.map GM.r=(D8 (l.map GM.r) way ⟨kd,who,n,body,⟨pf,pt,pb⟩⟩).1 ∧(l'=l∨∃(i:Nat) (x y:GM),l[i]?=some x∧l'=l.set i y∧Oc way kd ⟨pf,pt,pb⟩ (kd=1∧0≤who∧who < l.length) x.n y.n):=by
 have hlm:=hG.len
 have hm7:=hG.m7
 have hG1:GI (k+150) m l:=hG.up (by omega) hk
 have lenL:(l.map GM.r).length=l.length:=List.length_map ..
 refine Bd Tryz.func30 (by kernel_rfl) rfl (Nat.le_of_ble_eq_true (by kernel_rfl)) (by kernel_rfl) (A6 (O:=oGs l pl way) (n0:=6) rfl) ?_
 generalize hD:D8 (l.map GM.r) way ⟨kd,who,n,body,⟨pf,pt,pb⟩⟩=D
 refine EvIf.dec (fun(h3:kd ≥ 3)=>?_) fun(h3:¬kd ≥ 3)=>?_
 ·refine EvIf.bne (fun(h6:kd≠6)=>?_) fun(h6:kd=6)=>?_
  ·have hM:=Yj l pl way kd who n body pf pt pb hw
   cases hMM:Gn way ⟨kd,who,n,body,⟨pf,pt,pb⟩⟩ with | mk to M =>
   obtain⟨q,is,w⟩:=M
   rw[hMM] at hM
   dsimp only at hM
   have hqb:=Z3c hMM hwo hpb
   refine EvCall.gh (.close (oGs l pl way) [] (by exact RL6) ⟨_,rfl⟩ rfl (.done (.same (hM.cal fun q rs hq=>?_))))
   obtain⟨rfl,rfl⟩:=hq
   refine .opn 0 _ _ _ rfl rfl rfl (.done ?_)
   refine EvIf.mk (fun h=>?_) fun h=>?_
   ·have eD:=hD.symm.trans (Ss ⟨h3,h6⟩ hMM (.inl (by simpa using h)))
    subst eD
    exact .inl (A1 (oGs l pl w) [(1,7),(2,8),(3,9),(4,10),(5,11)] (by exact RL6) rfl ⟨_,rfl⟩ rfl rfl ⟨rfl,l,rfl,hG1,rfl,.inl rfl⟩)
   have his:is=true:=by simpa using h
   have hmem:=Z7w (his ▸ hMM)
   refine EvIf.dec (fun(h1:to < 0)=>?_) fun(h1:¬to < 0)=>?_
   ·have eD:=hD.symm.trans (Ss ⟨h3,h6⟩ hMM (.inr (.inl h1)))
    subst eD
    exact .inl (A1 (oGs l pl w) [(1,7),(2,8),(3,9),(4,10),(5,11)] (by exact RL6) rfl ⟨_,rfl⟩ rfl rfl ⟨rfl,l,rfl,hG1,rfl,.inl rfl⟩)
   refine EvIf.dec (fun h2=>?_) fun h2=>?_
   ·have h2:to ≥ ((l.map pN).length:Nat):=h2
    rw[List.length_map] at h2
    have eD:=hD.symm.trans (Ss ⟨h3,h6⟩ hMM (.inr (.inr (by rw[lenL];exact h2))))
    subst eD
    exact .inl (A1 (oGs l pl w) [(1,7),(2,8),(3,9),(4,10),(5,11)] (by exact RL6) rfl ⟨_,rfl⟩ rfl rfl ⟨rfl,l,rfl,hG1,rfl,.inl rfl⟩)
   have h2:¬to ≥ ((l.map pN).length:Nat):=h2
   rw[List.length_map] at h2
   have eD:=hD.symm.trans (Z8 ⟨h3,h6⟩ hMM (by rw[lenL,his];rintro(h | h | h);cases h;exact h1 h;exact h2 h))
   subst eD
   obtain⟨j,rfl⟩:∃j:Nat,to=j:=⟨to.toNat,by omega⟩
   obtain⟨y,hy⟩:∃y,l[j]?=some y:=⟨_,List.getElem?_eq_getElem (by omega)⟩
   have hjl:j < l.length:=by omega
   refine⟨⟨by omega,by rw[List.length_map];omega⟩,?_⟩
   refine EvIdx.at (f:=pN) (i:=j) hy ?_
   obtain⟨hok,hys,hym⟩:=hG.ok j y hy
   have hst:=hS j y hy
   obtain⟨s,m',b,e,r⟩:=y
   dsimp only at hys hym hst
   have hno:m'.out.length≤700000:=by have h:=hok.sim.out;have h:r.out=m'.out:=h;rw[←h,hst];exact Nat.zero_le _
   have hfam:(l.map mOb)[j]?=some (cl (oSs s m' b e)):=by rw[List.getElem?_map,hy];rfl
   obtain⟨qf,qt,qb⟩:=q
   have fin:∀s',ShN s' (Dm m' ⟨qf,qt,qb⟩)→GI (k+150) m (l.set j (H0 ⟨s,m',b,e,r⟩ s' ⟨qf,qt,qb⟩))∧(l.set j (H0 ⟨s,m',b,e,r⟩ s' ⟨qf,qt,qb⟩)).map GM.r=(l.map GM.r).set (j:Int).toNat (Er (atR (l.map GM.r) j) ⟨qf,qt,qb⟩):=fun s' hs'=>by
    have hT:=hok.take hk ⟨qf,qt,qb⟩ hs'
    have hself:=Sim.selfN hT.sim (i:=j) (m:=m) (by have:=(Ij r ⟨qf,qt,qb⟩).1;have h2:=hok.sim.self;have h2:r.self=m'.self:=h2;rw[hys] at h2;exact this.trans h2) (by have:=(Ij r ⟨qf,qt,qb⟩).2;have h2:=hok.sim.many;have h2:r.many=m'.many:=h2;rw[hym] at h2;exact this.trans h2)
    refine⟨hG1.set hy hT (hself.1.trans hys.symm) (hself.2.trans hym.symm),?_⟩
    rw[F7]
    show _=(l.map GM.r).set j (Er ((l.map GM.r)[j]?.getD (H1 0 0)) ⟨qf,qt,qb⟩)
    rw[Fn hy]
    rfl
   refine EvCall.gh (.take 11 j _ _ rfl (Ek hy) (.lies 13 b _ rfl (G2 ⟨s,m',b,e,r⟩) (.done (.raw 14 13 rfl (.same ((Z6f _ s m' b e ⟨qf,qt,qb⟩ (fun _=>hok.ni.wn hno) (fun _=>hok.sh) hqb).cal fun q rs hq=>?_))))))
   obtain⟨rfl,s',rfl,hs'⟩:=hq
   refine .put 11 j 13 _ _ rfl (by rw[List.length_set,List.length_map];exact hjl) rfl (.drop 14 _ rfl (.done ?_))
   obtain⟨f1,f2⟩:=fin s' (hs' hok.ni.dead)
   exact .inl (A1 (oGs (l.set j (H0 ⟨s,m',b,e,r⟩ s' ⟨qf,qt,qb⟩)) pl w) [(1,7),(2,8),(3,9),(4,10),(5,11)] ⟨RL1,⟨rfl,rfl,eqR (Hg (y:=(H0 ⟨s,m',b,e,r⟩ s' ⟨qf,qt,qb⟩)) hy rfl).symm⟩,⟨rfl,rfl,eqR (Hi (y:=(H0 ⟨s,m',b,e,r⟩ s' ⟨qf,qt,qb⟩)) hy rfl).symm⟩,RL1,RL1,⟨rfl,rfl,Gg (Dr l j (H0 ⟨s,m',b,e,r⟩ s' ⟨qf,qt,qb⟩))⟩,trivial⟩ rfl ⟨_,rfl⟩ rfl rfl ⟨rfl,_,rfl,f1,f2,.inr ⟨j,_,_,hy,rfl,.take _ hmem⟩⟩)
  ·subst h6
   refine EvIf.dec (fun(w1:who < 0)=>?_) fun(w1:¬who < 0)=>?_
   ·have eD:=hD.symm.trans (Ic (fun h=>h.2 rfl) (.inl w1))
    subst eD
    exact .inl (A1 (oGs l pl way) [] (by exact RL6) rfl ⟨_,rfl⟩ rfl rfl ⟨rfl,l,rfl,hG1,rfl,.inl rfl⟩)
   refine EvIf.dec (fun w2=>?_) fun w2=>?_
   ·have w2:who ≥ ((l.map pN).length:Nat):=w2
    rw[List.length_map] at w2
    have eD:=hD.symm.trans (Ic (fun h=>h.2 rfl) (.inr (by rw[lenL];exact w2)))
    subst eD
    exact .inl (A1 (oGs l pl way) [] (by exact RL6) rfl ⟨_,rfl⟩ rfl rfl ⟨rfl,l,rfl,hG1,rfl,.inl rfl⟩)
   have w2:¬who ≥ ((l.map pN).length:Nat):=w2
   rw[List.length_map] at w2
   have eD:=hD.symm.trans (Vh (fun h=>h.2 rfl) (by rw[lenL];rintro(h | h);exact w1 h;exact w2 h))
   subst eD
   obtain⟨i,rfl⟩:∃i:Nat,who=i:=⟨who.toNat,by omega⟩
   obtain⟨y,hy⟩:∃y,l[i]?=some y:=⟨_,List.getElem?_eq_getElem (by omega)⟩
   have hil:i < l.length:=by omega
   obtain⟨hok,hys,hym⟩:=hG.ok i y hy
   have hst:=hS i y hy
   have hno:y.n.out.length≤700000:=by rw[←hok.sim.out,hst];exact Nat.zero_le _
   have hfam:(l.map mOb)[i]?=some (mOb y):=by rw[List.getElem?_map,hy];rfl
   have hv:(if n≠0 then n else Ih y.n.pmd i l.length)=Ka (l.map GM.r) ⟨6,i,n,body,⟨pf,pt,pb⟩⟩:=by
    unfold Ka atR
    dsimp only
    rw[Int.toNat_natCast,Fn hy,hok.sim.pmd,lenL]
   have fin:∀y':GM,MOk (k+150) y'→y'.r.self=y.r.self∧y'.r.many=y.r.many→y'.r=Z61 y.r ⟨6,i,n,body,⟨pf,pt,pb⟩⟩ (Ka (l.map GM.r) ⟨6,i,n,body,⟨pf,pt,pb⟩⟩)→GI (k+150) m (l.set i y')∧(l.set i y').map GM.r=(l.map GM.r).set (i:Int).toNat (Z61 (atR (l.map GM.r) i) ⟨6,i,n,body,⟨pf,pt,pb⟩⟩ (Ka (l.map GM.r) ⟨6,i,n,body,⟨pf,pt,pb⟩⟩)):=fun y' hT hself e=>by
    have hs2:=Sim.selfN hT.sim (i:=i) (m:=m) (by rw[hself.1,hok.sim.self,hys]) (by rw[hself.2,hok.sim.many,hym])
    refine⟨hG1.set hy hT (hs2.1.trans hys.symm) (hs2.2.trans hym.symm),?_⟩
    rw[F7,e]
    unfold atR
    rw[Int.toNat_natCast,Fn hy]
   generalize Ka (l.map GM.r) ⟨6,i,n,body,⟨pf,pt,pb⟩⟩=v at hv fin⊢
   refine EvIf.beq (fun h=>absurd h (by decide)) fun _=>?_
   refine EvIf.beq (fun h=>absurd h (by decide)) fun _=>?_
   refine EvIf.beq (fun h=>absurd h (by decide)) fun _=>?_
   refine EvIf.beq (fun _=>?_) fun h=>absurd rfl h
   obtain⟨ho,hr⟩:=hok.rest 0 0
   rw[hys,hym,←hlm] at ho
   refine EvCall.gh (.close (oGs l pl way) [] (by exact RL6) ⟨_,rfl⟩ rfl (.done (.same ((Z9f l pl way i y (X0 y.n 0 0) hy 0 0 hok.ni.sl.ws.d (by rw[hok.ni.sl.ws.wait];exact Nat.zero_le _) ho).cal fun q rs hq=>?_))))
   obtain⟨rfl,b,e,hq⟩:=hq
   obtain rfl:=hq (Kn y.r)
   obtain⟨f1,f2⟩:=fin ⟨true,X0 y.n 0 0,b,e,Kn y.r⟩ ((hr b e).up (by omega) hk) ⟨rfl,rfl⟩ rfl
   exact .done (.inl (A7 rfl rfl ⟨rfl,_,rfl,f1,f2,.inr ⟨i,_,_,hy,rfl,.rest⟩⟩))
 ·skip
  refine EvIf.dec (fun(w1:who < 0)=>?_) fun(w1:¬who < 0)=>?_
  ·have eD:=hD.symm.trans (Ic (fun h=>h3 h.1) (.inl w1))
   subst eD
   exact .inl (A1 (oGs l pl way) [] (by exact RL6) rfl ⟨_,rfl⟩ rfl rfl ⟨rfl,l,rfl,hG1,rfl,.inl rfl⟩)
  refine EvIf.dec (fun w2=>?_) fun w2=>?_
  ·have w2:who ≥ ((l.map pN).length:Nat):=w2
   rw[List.length_map] at w2
   have eD:=hD.symm.trans (Ic (fun h=>h3 h.1) (.inr (by rw[lenL];exact w2)))
   subst eD
   exact .inl (A1 (oGs l pl way) [] (by exact RL6) rfl ⟨_,rfl⟩ rfl rfl ⟨rfl,l,rfl,hG1,rfl,.inl rfl⟩)
  have w2:¬who ≥ ((l.map pN).length:Nat):=w2
  rw[List.length_map] at w2
  have eD:=hD.symm.trans (Vh (fun h=>h3 h.1) (by rw[lenL];rintro(h | h);exact w1 h;exact w2 h))
  subst eD
  obtain⟨i,rfl⟩:∃i:Nat,who=i:=⟨who.toNat,by omega⟩
  obtain⟨y,hy⟩:∃y,l[i]?=some y:=⟨_,List.getElem?_eq_getElem (by omega)⟩
  have hil:i < l.length:=by omega
  obtain⟨hok,hys,hym⟩:=hG.ok i y hy
  have hst:=hS i y hy
  have hno:y.n.out.length≤700000:=by rw[←hok.sim.out,hst];exact Nat.zero_le _
  have hfam:(l.map mOb)[i]?=some (mOb y):=by rw[List.getElem?_map,hy];rfl
  have hv:(if n≠0 then n else Ih y.n.pmd i l.length)=Ka (l.map GM.r) ⟨kd,i,n,body,⟨pf,pt,pb⟩⟩:=by
   unfold Ka atR
   dsimp only
   rw[Int.toNat_natCast,Fn hy,hok.sim.pmd,lenL]
  have fin:∀y':GM,MOk (k+150) y'→y'.r.self=y.r.self∧y'.r.many=y.r.many→y'.r=Z61 y.r ⟨kd,i,n,body,⟨pf,pt,pb⟩⟩ (Ka (l.map GM.r) ⟨kd,i,n,body,⟨pf,pt,pb⟩⟩)→GI (k+150) m (l.set i y')∧(l.set i y').map GM.r=(l.map GM.r).set (i:Int).toNat (Z61 (atR (l.map GM.r) i) ⟨kd,i,n,body,⟨pf,pt,pb⟩⟩ (Ka (l.map GM.r) ⟨kd,i,n,body,⟨pf,pt,pb⟩⟩)):=fun y' hT hself e=>by
   have hs2:=Sim.selfN hT.sim (i:=i) (m:=m) (by rw[hself.1,hok.sim.self,hys]) (by rw[hself.2,hok.sim.many,hym])
   refine⟨hG1.set hy hT (hs2.1.trans hys.symm) (hs2.2.trans hym.symm),?_⟩
   rw[F7,e]
   unfold atR
   rw[Int.toNat_natCast,Fn hy]
  generalize Ka (l.map GM.r) ⟨kd,i,n,body,⟨pf,pt,pb⟩⟩=v at hv fin⊢
  refine EvIf.beq (fun(k0:kd=0)=>?_) fun(k0:kd≠0)=>?_
  ·subst k0
   have hN:=Zdc l pl way 0 i n body pf pt pb i y hy rfl
   rw[hv] at hN
   obtain⟨s,m',b,e,r⟩:=y
   obtain⟨l1,l2,l3⟩:=Tp hok.sim hok.ni (by omega) v
   have fin2:∀s',ShN s' (C3 m' v).1→_:=fun s' hs'=>fin ⟨s',(C3 m' v).1,b,e,(Fk r v).1⟩ (MOk.up ⟨l2,l3,Xz hok.nj v,hs'⟩ (by omega) hk) (Z1d r v) rfl
   refine⟨⟨⟨by omega,by rw[List.length_map];omega⟩,⟨EvIdx.at (f:=pN) (i:=i) hy (EvCall.lend (hN.cal fun q rs hq=>?_)),EvCall.lend (hN.cal fun q rs hq=>?_)⟩⟩,EvCall.lend (hN.cal fun q rs hq=>?_)⟩
   all_goals obtain⟨rfl,rfl⟩:=hq
   rotate_left
   refine EvIdx.at (f:=pN) (i:=i) hy ?_
   rotate_left
   refine⟨⟨by omega,by rw[List.length_map];omega⟩,EvIdx.at (f:=pN) (i:=i) hy ?_⟩
   all_goals
    refine EvCall.gh (.take 5 i _ _ rfl (Ek hy) (.lies 7 b _ rfl (G2 ⟨s,m',b,e,r⟩) (.done (.raw 8 7 rfl (.same ((Zd6 s m' b e k (fun _=>hok.ni.wn hno) v).cal fun q rs hq=>?_))))))
    obtain⟨rfl,s',rfl,hs'⟩:=hq
    refine .put 5 i 7 _ _ rfl (by rw[List.length_set,List.length_map];exact hil) rfl (.drop 8 _ rfl (.done ?_))
    obtain⟨f1,f2⟩:=fin2 s' (hs' hok.sh)
    exact .inl (A1 (oGs (l.set i ⟨s',(C3 m' v).1,b,e,(Fk r v).1⟩) pl way) [] ⟨RL1,⟨rfl,rfl,eqR (Hg (y:=⟨s',(C3 m' v).1,b,e,(Fk r v).1⟩) hy rfl).symm⟩,⟨rfl,rfl,eqR (Hi (y:=⟨s',(C3 m' v).1,b,e,(Fk r v).1⟩) hy rfl).symm⟩,RL1,RL1,⟨rfl,rfl,Gg (Dr l i ⟨s',(C3 m' v).1,b,e,(Fk r v).1⟩)⟩,trivial⟩ rfl ⟨_,rfl⟩ rfl rfl ⟨rfl,_,rfl,f1,f2,.inr ⟨i,_,_,hy,rfl,.lead v⟩⟩)
  refine EvIf.beq (fun(k1:kd=1)=>?_) fun(k1:kd≠1)=>?_
  ·subst k1
   refine⟨⟨by omega,by rw[List.length_map];omega⟩,?_⟩
   refine EvIdx.at (f:=pN) (i:=i) hy ?_
   obtain⟨f1,f2⟩:=fin (Db y body) ((hok.offer (by omega) body).1.up (by omega) hk) (Fd y.r body) rfl
   obtain⟨s,m',b,e,r⟩:=y
   refine EvCall.gh (.take 5 i _ _ rfl (Ek hy) (.lies 7 b _ rfl (G2 ⟨s,m',b,e,r⟩) (.done (.raw 8 7 rfl (.same ((Y8 s m' b e (fun _=>(hok.ni.wn hno).nb) hok.sh body).cal fun q rs hq=>?_))))))
   obtain⟨rfl,rfl⟩:=hq
   refine .put 5 i 7 _ _ rfl (by rw[List.length_set,List.length_map];exact hil) rfl (.drop 8 _ rfl (.done ?_))
   exact .inl (A1 (oGs (l.set i (Db ⟨s,m',b,e,r⟩ body)) pl way) [] ⟨RL1,⟨rfl,rfl,eqR (Hg (y:=(Db ⟨s,m',b,e,r⟩ body)) hy rfl).symm⟩,⟨rfl,rfl,eqR (Hi (y:=(Db ⟨s,m',b,e,r⟩ body)) hy rfl).symm⟩,RL1,RL1,⟨rfl,rfl,Gg (Dr l i (Db ⟨s,m',b,e,r⟩ body))⟩,trivial⟩ rfl ⟨_,rfl⟩ rfl rfl ⟨rfl,_,rfl,f1,f2,.inr ⟨i,_,_,hy,rfl,.offer body ⟨rfl,by omega,by omega⟩⟩⟩)
  refine EvIf.beq (fun(k2:kd=2)=>?_) fun(k2:kd≠2)=>?_
  ·subst k2
   refine⟨⟨by omega,by rw[List.length_map];omega⟩,?_⟩
   refine EvIdx.at (f:=pN) (i:=i) hy ?_
   obtain⟨n1,n2⟩:=Z0n hok.sim hok.ni
   obtain⟨f1,f2⟩:=fin ⟨y.s,Bl y.n,y.b,y.e,Fb y.r⟩ (MOk.up ⟨n1,n2,Z4j hok.nj,Z3g hok.sh⟩ (by omega) hk) (Xk y.r) rfl
   obtain⟨s,m',b,e,r⟩:=y
   refine EvCall.gh (.take 5 i _ _ rfl (Ek hy) (.lies 7 b _ rfl (G2 ⟨s,m',b,e,r⟩) (.done (.raw 8 7 rfl (.same ((Z7m s m' b e hok.sh hok.ni.m7 (by have:=hok.ni.nv.ents.1;show m'.log.length≤_;dsimp only at this;omega) hno (fun h=>⟨(hok.ni.st h).2.2.1,(hok.ni.st h).2.2.2.1⟩)).cal fun q rs hq=>?_))))))
   obtain⟨rfl,rfl⟩:=hq
   refine .put 5 i 7 _ _ rfl (by rw[List.length_set,List.length_map];exact hil) rfl (.drop 8 _ rfl (.done ?_))
   exact .inl (A1 (oGs (l.set i ⟨s,Bl m',b,e,Fb r⟩) pl way) [] ⟨RL1,⟨rfl,rfl,eqR (Hg (y:=⟨s,Bl m',b,e,Fb r⟩) hy rfl).symm⟩,⟨rfl,rfl,eqR (Hi (y:=⟨s,Bl m',b,e,Fb r⟩) hy rfl).symm⟩,RL1,RL1,⟨rfl,rfl,Gg (Dr l i ⟨s,Bl m',b,e,Fb r⟩)⟩,trivial⟩ rfl ⟨_,rfl⟩ rfl rfl ⟨rfl,_,rfl,f1,f2,.inr ⟨i,_,_,hy,rfl,.nudge⟩⟩)
  refine EvIf.beq (fun(k6:kd=6)=>absurd k6 (by omega)) fun(k6:kd≠6)=>?_
  obtain⟨f1,f2⟩:=fin y (hok.up (by omega) hk) ⟨rfl,rfl⟩ (by unfold Z61;rw[if_neg k0,if_neg k1,if_neg k2,if_neg k6])
  exact .inl (A1 (oGs (l.set i y) pl way) [] ⟨RL1,⟨rfl,rfl,eqR (Hg (y:=y) hy rfl).symm⟩,⟨rfl,rfl,eqR (Hi (y:=y) hy rfl).symm⟩,RL1,RL1,⟨rfl,rfl,Gg (by rw[List.map_set];exact(Zcv (by rw[List.getElem?_map,hy];rfl)).symm)⟩,trivial⟩ rfl ⟨_,rfl⟩ rfl rfl ⟨rfl,_,rfl,f1,f2,.inr ⟨i,_,_,hy,rfl,.same⟩⟩)
end Go.Proofs.YtihfaocdpmmooaaGreat
namespace Go.Proofs.YtihfaocdpmmooaaGreat
open Go.RowKit
set_option maxRecDepth 100000
theorem Zej (many:Int)(l:List GSt):FnV Tryz.prog 26 [gI many,.sl (l.map Z2v)] fun g=>g=.v (.bool (decide (1≤many∧many≤5∧l.length≤200))):=by
 refine fnG Tryz.func26 (by kernel_rfl) rfl (Nat.le_of_ble_eq_true (by kernel_rfl)) (by kernel_rfl) ?_
 refine EvIf.dec (fun(h1:many ≥ 1)=>?_) fun(h1:¬many ≥ 1)=>?_
 ·refine EvIf.dec (fun(h2:many≤5)=>?_) fun(h2:¬many≤5)=>?_
  ·show G.v (.bool (decide (((l.map Z2v).length:Int)≤200)))=_
   rw[List.length_map]
   exact congrArg (fun b=>G.v (.bool b)) (decide_eq_decide.2 (by omega))
  ·rw[decide_eq_false (by omega)];exact rfl
 ·rw[decide_eq_false (by omega)];exact rfl
theorem Z9h {way:List RPk}{s:GSt}(hw:way.length≤1000)(ho:∀p∈way,OkP p):(Gn way s).2.2.2.length≤1000∧∀p∈(Gn way s).2.2.2,OkP p:=by
 unfold Gn
 split
 ·exact⟨hw,ho⟩
 split
 ·exact⟨hw,ho⟩
 ·next h2 =>
  obtain⟨q,hq⟩:∃q,way[s.n.toNat]?=some q:=⟨_,List.getElem?_eq_getElem (by omega)⟩
  rw[hq]
  dsimp only[Option.getD_some]
  split
  ·refine⟨by simp;omega,fun p hp=>?_⟩
   rcases List.mem_append.1 hp with hp | hp
   ·exact ho p (List.mem_of_mem_take hp)
   ·exact ho p (List.mem_of_mem_drop hp)
  ·split
   ·refine⟨by simp;omega,fun p hp=>?_⟩
    rcases List.mem_append.1 hp with hp | hp
    ·exact ho p hp
    ·rw[List.mem_singleton.1 hp];exact ho q (List.mem_of_getElem? hq)
   ·exact⟨hw,ho⟩
theorem Z52 {L:List RN}{way:List RPk}{s:GSt}(hw:way.length≤1000)(ho:∀p∈way,OkP p):(D8 L way s).2.1.length≤1000∧∀p∈(D8 L way s).2.1,OkP p:=by
 unfold D8
 split
 ·split<;>exact Z9h hw ho
 ·split<;>exact⟨hw,ho⟩
theorem Z5o {m:Nat}{L:List RN}{way:List RPk}{s:GSt}(hm:m≤7)(hL:∀(i:Nat) (r:RN),L[i]?=some r→r.out=[]∧r.many=(m:Int)):((D8 L way s).2.2=-1∧(D8 L way s).1=L)∨∃(j:Nat) (r:RN),(D8 L way s).2.2=j∧j < L.length∧(D8 L way s).1=L.set j r∧OB 100 r:=by
 unfold D8
 split
 ·split
  ·exact .inl ⟨rfl,rfl⟩
  ·next h =>
   obtain⟨j,hj⟩:∃j:Nat,(Gn way s).1=j:=⟨(Gn way s).1.toNat,by omega⟩
   obtain⟨r,hr⟩:∃r,L[j]?=some r:=⟨_,List.getElem?_eq_getElem (by omega)⟩
   obtain⟨h1,h2⟩:=hL j r hr
   refine .inr ⟨j,_,hj,by omega,by rw[hj];rfl,?_⟩
   have e:atR L (Gn way s).1=r:=by unfold atR;rw[hj,Int.toNat_natCast,hr];rfl
   rw[←hj,e]
   exact(Z0e (c:=0) (k:=m) ⟨by rw[h1];exact Nat.zero_le _,by rw[h1];nofun⟩ h2 _).up (by omega)
 ·split
  ·exact .inl ⟨rfl,rfl⟩
  ·next h =>
   obtain⟨j,hj⟩:∃j:Nat,s.who=j:=⟨s.who.toNat,by omega⟩
   obtain⟨r,hr⟩:∃r,L[j]?=some r:=⟨_,List.getElem?_eq_getElem (by omega)⟩
   obtain⟨h1,h2⟩:=hL j r hr
   have h0:OB 0 r:=⟨by rw[h1];exact Nat.zero_le _,by rw[h1];nofun⟩
   refine .inr ⟨j,_,hj,by omega,by rw[hj];rfl,?_⟩
   have e:atR L s.who=r:=by unfold atR;rw[hj,Int.toNat_natCast,hr];rfl
   rw[←hj,e]
   unfold Z61
   split
   ·exact(Yg (c:=0) (k:=m) h0 h2 _).up (by omega)
   split
   ·exact(Np (c:=0) (k:=m) h0 h2 _).up (by omega)
   split
   ·exact(Z3i (c:=0) (k:=m) h0 h2).up (by omega)
   split
   ·exact⟨Nat.zero_le _,by nofun⟩
   ·exact h0.up (by omega)
theorem Xr {k m:Nat}{l l':List GM}{way:List RPk}{s:GSt}(hG:GI k m l)(hS:Still l)(he:l'.map GM.r=(D8 (l.map GM.r) way s).1):((D8 (l.map GM.r) way s).2.2=-1∧Still l')∨∃(j:Nat) (x:GM),(D8 (l.map GM.r) way s).2.2=j∧l'[j]?=some x∧OB 100 x.r∧∀(i:Nat) (y:GM),l'[i]?=some y→i≠j→y.r.out=[]:=by
 have hL:∀(i:Nat) (r:RN),(l.map GM.r)[i]?=some r→r.out=[]∧r.many=(m:Int):=fun i r hr=>by
  rw[List.getElem?_map] at hr
  obtain⟨x,hx,rfl⟩:=Option.map_eq_some_iff.1 hr
  obtain⟨h1,-,h3⟩:=hG.ok i x hx
  exact⟨hS i x hx,by rw[h1.sim.many,h3]⟩
 have at':∀(i:Nat) (y:GM),l'[i]?=some y→(D8 (l.map GM.r) way s).1[i]?=some y.r:=fun i y hy=>by rw[←he,List.getElem?_map,hy];rfl
 rcases Z5o (way:=way) (s:=s) hG.m7 hL with⟨h1,h2⟩ | ⟨j,r,h1,h2,h3,h4⟩
 ·exact .inl ⟨h1,fun i y hy=>by have:=at' i y hy;rw[h2] at this;exact(hL i _ this).1⟩
 ·obtain⟨x,hx⟩:∃x,l'[j]?=some x:=⟨_,List.getElem?_eq_getElem (by
   have:=congrArg List.length he
   rw[List.length_map,h3,List.length_set] at this
   omega)⟩
  refine .inr ⟨j,x,h1,hx,?_,fun i y hy hi=>?_⟩
  ·have:=at' j x hx
   rw[h3,List.getElem?_set_self h2] at this
   rw[←Option.some.inj this];exact h4
  ·have:=at' i y hy
   rw[h3,List.getElem?_set_ne (fun e=>hi e.symm)] at this
   exact(hL i _ this).1
end Go.Proofs.YtihfaocdpmmooaaGreat

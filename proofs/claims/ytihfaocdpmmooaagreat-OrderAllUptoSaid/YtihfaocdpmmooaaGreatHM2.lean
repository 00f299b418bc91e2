
import Derived.Test.YtihfaocdpmmooaaGreatGM2
import Derived.Test.YtihfaocdpmmooaaGreatGM6
import Derived.Test.YtihfaocdpmmooaaGreatHM1
import Derived.Test.YtihfaocdpmmooaaGreatGM5
namespace Go.Proofs.YtihfaocdpmmooaaGreat
open Go.RowKit
set_option maxRecDepth 100000
set_option maxHeartbeats 4000000 in
theorem Zd5 (l:List GM)(pl:List RN)(way:List RPk)(i:Nat)(x:GM)(hx:l[i]?=some x)(hp:pl[i]?=some x.r)(hr:x.r.out=x.n.out)(hw:way.length≤1000)(ho:x.n.out.length≤1000000):FnO Tryz.prog 75 [.ptr 0 0,gI i] (cG l pl way) fun g rs=>g=.v (.bool true)∧rs=cG (l.set i (Jq x)) (pl.set i (Tt x.r)) (Cw way x.n.out):=by
 obtain⟨s,n,b,e,r⟩:=x
 dsimp only at ho hr hp
 have hilt:=(ac.1 hx).1
 have hplt:=(ac.1 hp).1
 have hfam:(l.map mOb)[i]?=some (cl (oSs s n b e)):=by rw[aj,hx];rfl
 have eP:(l.set i (Jq ⟨s,n,b,e,r⟩)).map pN=l.map pN:=Ik hx rfl
 have eD:(l.set i (Jq ⟨s,n,b,e,r⟩)).map pD=l.map pD:=Ix hx rfl
 have eFm:=E0 l i (Jq ⟨s,n,b,e,r⟩)
 refine Ba Tryz.func75 (A5 (O:=oGs l pl way) (n0:=6) rfl) ?_
 refine⟨⟨by omega,by rw[aa];omega⟩,?_⟩
 refine dk (f:=D6) hp ?_
 refine(Zff r).cal fun q hq=>?_
 subst hq
 refine⟨⟨by omega,by rw[aa];omega⟩,?_⟩
 refine dm (f:=D6) (i:=i) (y:=Tt r) hp (fun q hq=>hq) rfl ?_
 refine⟨⟨by omega,by rw[aa];omega⟩,?_⟩
 refine dk (f:=pN) hx ?_
 refine dg (.take 5 i _ (mOb ⟨s,n,b,e,r⟩) rfl hfam (.lies 7 b _ rfl (Hn ⟨s,n,b,e,r⟩) (.done (.raw 8 7 rfl (.same ((Zcj s n b e).cal fun q rs hq=>?_))))))
 obtain⟨rfl,rfl⟩:=hq
 refine .put 5 i 7 _ _ rfl (by rw[bf,aa];exact hilt) rfl (.drop 8 _ rfl (.done ?_))
 refine di (fun h=>dc (by show(((n.out.map pkG).length:Nat):Int)=((r.out.map pkG).length:Nat);rw[hr]) h) fun _=>?_
 generalize hl':l.set i (Jq ⟨s,n,b,e,r⟩)=l' at *
 generalize hpl':pl.set i (Tt r)=pl'
 refine D2 [0,6,7,41] [1,2,3,9] (fun z:Nat × List RPk=>[(42,gI z.1)]) (fun z=>[(0,.blk [.osl 1,.osl 2,.osl 3,.osl 4] tGr),(4,.vw (z.2.map pkG) tPk 3),(5,.fam (l'.map mOb))]) (fun z=>z.1≤n.out.length∧z.2=Cw way (n.out.take z.1)) (fun z=>n.out.length - z.1) (0,way) ⟨ah _,rfl⟩ ⟨⟨rfl,rfl⟩,trivial⟩ ⟨RL1,RL1,⟨rfl,rfl,Hi eFm⟩,trivial⟩ rfl fun⟨k,w⟩ hI=>?_
 obtain⟨hk,hwk⟩:=hI
 dsimp only at hk hwk
 have hwl:w.length≤1000:=by rw[hwk];exact Fh (by omega) _ hw
 refine df (fun hlt=>?_) fun hge=>?_
 ·rw[aa] at hlt
  obtain⟨p,hp⟩:∃p,n.out[k]?=some p:=⟨_,ab (by omega)⟩
  refine⟨⟨by omega,by rw[aa];omega⟩,?_⟩
  refine dk (f:=pkG) hp ?_
  refine dk (f:=pkG) (by rw[hr];exact hp) ?_
  refine EvEq.flat [.i .i64,.i .i64,.s] [_,_,_] [_,_,_] (by kernel_rfl) (by kernel_rfl) (by kernel_rfl) rfl rfl rfl rfl (fun _=>?_) (fun h=>dc rfl h)
  refine dj (fun h=>(by cases h)) fun _=>?_
  have hm:=N2 (way:=way) hp
  rw[←hwk] at hm
  refine df (fun h4=>?_) fun h4=>?_
  ·rw[aa] at h4
   dsimp only at h4
   refine⟨⟨by omega,by rw[aa];omega⟩,?_⟩
   refine dk (f:=pkG) hp ?_
   refine⟨by simp;omega,⟨by dsimp only;omega,.done ⟨(k+1,w++[p]),[(4,11)],⟨by dsimp only;omega,by rw[hm,db (by omega)]⟩,(by dsimp only;omega),?_⟩⟩⟩
   refine⟨?_,?_,rfl⟩<;>repeat' (first|exact trivial|with_reducible rfl|exact rfl|refine And.intro ?_ ?_)
   exact Zft (by rw[am];rfl)
  ·rw[aa] at h4
   dsimp only at h4
   refine⟨by dsimp only;omega,.done ⟨(k+1,w),[],⟨by dsimp only;omega,by rw[hm,da (by omega)]⟩,(by dsimp only;omega),?_⟩⟩
   refine⟨?_,?_,rfl⟩<;>repeat' (first|exact trivial|with_reducible rfl|exact rfl|refine And.intro ?_ ?_)
 ·rw[aa] at hge
  dsimp only at hge
  have hk2:k=n.out.length:=by omega
  have hw2:w=Cw way n.out:=by rw[hwk,hk2,List.take_length]
  refine Gh.done (.inl (A1 (oGs l' pl' w) [] ⟨RL1,⟨rfl,rfl,eqR eP.symm⟩,⟨rfl,rfl,eqR eD.symm⟩,RL1,RL1,RL1,trivial⟩ rfl ⟨_,rfl⟩ rfl rfl ⟨rfl,?_⟩))
  rw[hw2]
theorem Zee (s:Bool)(n:PN)(b e:Nat):FnO Tryz.prog 37 [.ptr 0 0] (cS s n b e) fun g rs=>g=.v (.bool n.dead)∧rs=cS s n b e:=by
 cases s
 ·exact Z9j n b e
 ·exact Zbs n b e
theorem Z5l (n:PN)(r:RN)(h:Sim n r)(hl:n.log.length≤1000000):FnV Tryz.prog 33 [.agg (Zj1 n),.agg (D6 r)] fun g=>g=.v (.bool true):=by
 have h1:=h.pmd
 have h2:=h.normal
 have h3:=h.cmt
 have h4:=h.log
 have h5:=h.phase
 refine fnG Tryz.func33 ?_
 refine de (fun _=>?_) fun hh=>dc h1.symm hh
 refine de (fun _=>?_) fun hh=>dc h2.symm hh
 refine de (fun _=>?_) fun hh=>dc h3.symm hh
 have c1:FnV Tryz.prog 52 [.sl (n.log.map enE),.sl (r.log.map enE)] fun g=>g=.v (.bool true):=by rw[h4];exact Z6 n.log hl
 refine dj (fun _=>?_) fun hh=>dc hh ?_
 ·refine c1.cal fun q hq=>?_
  subst hq
  exact rfl
 ·show ¬((decide ((if n.lds=true then(1:Int) else 0) > 0)==decide (r.phase > 0))=false)
  rw[h5]
  cases n.lds<;>cases n.std<;>decide
set_option maxHeartbeats 4000000 in
theorem Zdo (l:List GM)(pl:List RN)(way:List RPk)(i:Nat)(x:GM)(hx:l[i]?=some x)(hp:pl[i]?=some x.r)(hs:Sim x.n x.r)(hd:x.n.dead=false)(hl:x.n.log.length≤1000000):FnO Tryz.prog 76 [.ptr 0 0,gI i] (cG l pl way) fun g rs=>g=.v (.bool true)∧rs=cG l pl way:=by
 have hilt:=(ac.1 hx).1
 have hplt:=(ac.1 hp).1
 refine Ba Tryz.func76 (A5 (O:=oGs l pl way) (n0:=6) rfl) ?_
 refine⟨⟨by omega,by rw[aa];omega⟩,?_⟩
 refine dk (f:=pN) hx ?_
 refine⟨⟨by omega,by rw[aa];omega⟩,?_⟩
 refine dk (f:=D6) hp ?_
 refine(Zdl l i x hx hl).cal fun q rs hq=>?_
 obtain⟨rfl,rfl⟩:=hq
 refine(Z5l x.n x.r hs hl).cal fun q hq=>?_
 subst hq
 refine dj (fun _=>?_) fun h=>(by cases h)
 refine⟨⟨by omega,by rw[aa];omega⟩,?_⟩
 refine dk (f:=pN) hx ?_
 obtain⟨sh,n,b,e,r⟩:=x
 dsimp only at hd
 refine dg (.take 5 i _ _ rfl (Fi hx) (.lies 6 b _ rfl (Hn ⟨sh,n,b,e,r⟩) (.done (.raw 7 6 rfl (.same ((Zee sh n b e).cal fun q rs hq=>?_))))))
 obtain⟨rfl,rfl⟩:=hq
 refine .put 5 i 6 _ _ rfl (by rw[bf,aa];exact hilt) rfl (.drop 7 _ rfl (.done ?_))
 refine .inl (A1 (oGs l pl way) [] ⟨RL1,RL1,RL1,RL1,RL1,⟨rfl,rfl,Hi (Hf (x:=⟨sh,n,b,e,r⟩) hx)⟩,trivial⟩ rfl ⟨_,rfl⟩ rfl rfl ⟨?_,rfl⟩)
 rw[hd]
 rfl
def HB (r r':RN):Prop:=r'.hrd.length≤r.hrd.length+1
theorem HB.same {r r':RN}(h:r'.hrd=r.hrd):HB r r':=by unfold HB;rw[h];omega
theorem Ma (n:RN)(m:RM):(Aq n m).hrd=n.hrd:=by obtain⟨o,e⟩:=(Fr n m).1.to;rw[e]
theorem Rs (n:RN):(Cc n).hrd=n.hrd:=by obtain⟨c,o,e,-⟩:=W2 n;rw[e]
theorem Vi (n:RN):HB n (Cf n):=by
 unfold Cf
 split
 ·exact .same rfl
 ·unfold HB;rw[Rs,Ma];exact ah _
theorem Zas (n:RN)(v:Int):HB n (D7 n v).1:=by
 unfold D7
 split
 ·exact .same rfl
 ·have h:=Vi (Aq {n with pmd:=v,phase:=1,jns:=[⟨n.self,n.normal,A4 n.log,n.log⟩]} ⟨1,v,0,0,[]⟩)
  unfold HB at h⊢
  rw[Ma] at h
  exact h
theorem Z54 (n:RN)(s:ByteArray):HB n (B9 n s).1:=by
 unfold B9
 split
 ·exact .same rfl
 ·refine .same ?_
  show(Cc _).hrd=_
  rw[Rs,Ma]
  rfl
theorem Z4z (n:RN):HB n (D8 n):=by
 refine .same ?_
 have key:∀(n:RN) (i:Nat),(En (Ek (Ev (Fb n i) i) i) i).hrd=n.hrd:=fun n i=>by
  have a:∀n:RN,(Fb n i).hrd=n.hrd:=fun n=>by unfold Fb;split<;>rfl
  have b:∀n:RN,(Ev n i).hrd=n.hrd:=fun n=>by unfold Ev;split<;>rfl
  have c:∀n:RN,(Ek n i).hrd=n.hrd:=fun n=>by unfold Ek;split<;>rfl
  have d:∀n:RN,(En n i).hrd=n.hrd:=fun n=>by unfold En;split<;>rfl
  rw[d,c,b,a]
 unfold D8
 generalize n.many.toNat=k
 induction k with
 | zero=>rfl
 | succ k ih =>
  rw[Cx]
  split
  ·exact ih
  ·rw[key];exact ih
theorem Yl:∀(l:List REnt) (n:RN),(Du l n).hrd=n.hrd
 | [],_=>rfl
 | e::l,n=>by
  unfold Du
  split
  ·rfl
  ·split
   ·rw[Yl l];rfl
   ·exact Yl l n
theorem Zaj (n:RN)(p:RPk):HB n (Dk n p):=by
 unfold Dk
 generalize mD p.body.data.toList=m
 split
 ·exact .same rfl
 split
 ·unfold Bj
  split
  ·exact .same rfl
  ·exact Vi (Em n ⟨p.frm,m.normal,A4 m.l,m.l⟩)
 split
 ·unfold By
  have h0:(Gz n p.frm m).hrd.length≤n.hrd.length+1:=by
   unfold Gz
   rw[Rs]
   show(n.hrd++[p.frm]).length≤_
   rw[aw];exact af _
  split
  ·exact .same rfl
  ·split
   ·exact h0
   ·exact h0
 split
 ·exact .same rfl
 have hask:(Fw n m).hrd=n.hrd:=by unfold Fw;split<;>rfl
 have hst:(Ce n m).hrd=n.hrd:=by unfold Ce;split<;>rfl
 split
 ·unfold Bu
  split
  ·exact .same hask
  ·exact .same hask
 split
 ·unfold B2
  split
  ·exact .same hst
  ·exact .same hst
 split
 ·unfold Cl
  split
  ·exact .same rfl
  ·exact .same (Yl m.l n)
 split
 ·exact .same rfl
 ·exact .same rfl
theorem MOk.rb {k:Nat}{x:GM}(h:MOk k x)(ho:x.r.out=[])(hh:x.r.hrd.length≤900000):RB x.r:=by
 have hs:=h.sim
 have hi:=h.ni
 have h7:=hi.m7
 have h8:=hi.self
 refine⟨by rw[hs.many];omega,by rw[hs.self,hs.many];omega,by rw[hs.log];exact hi.nv.ents.1,by rw[ho];exact ah _,hh,fun h1=>?_,fun h2=>?_⟩
 ·have hl:x.n.lds=true∧x.n.std=false:=by
   have:=hs.phase
   rw[h1] at this
   cases a:x.n.lds<;>cases b:x.n.std<;>rw[a,b] at this<;>first | exact⟨rfl,rfl⟩ | cases this
  rw[hs.jns hl.1 hl.2]
  unfold jrL
  refine⟨?_,fun j hj=>?_⟩
  ·rw[aa]
   have:=List.length_filter_le (fun i=>(x.n.jns i).is) (List.range x.n.many)
   rw[List.length_range] at this
   omega
  ·obtain⟨i,-,rfl⟩:=az.1 hj
   exact hi.jl i
 ·have hl:x.n.lds=true∧x.n.std=true:=by
   have:=hs.phase
   rw[h2] at this
   cases a:x.n.lds<;>cases b:x.n.std<;>rw[a,b] at this<;>first | exact⟨rfl,rfl⟩ | cases this
  obtain⟨a1,a2,-⟩:=hs.aks hl.1 hl.2
  obtain⟨-,-,b1,b2,-⟩:=hi.st hl.2
  rw[a1,a2,hs.log,hs.many]
  refine⟨?_,fun y hy=>?_,b2⟩
  ·unfold Bx
   rw[aa,List.length_range,ay]
  ·obtain⟨i,rfl⟩:=Wg hy
   exact b1 i
structure GT (k m c:Nat)(l:List GM)(w:List RPk):Prop where
 gi:GI k m l
 still:Still l
 hd:∀(i:Nat) (x:GM),l[i]?=some x→x.r.hrd.length≤c
 way:w.length≤1000
 ok:∀p∈w,OkP p
def Z1b (k m c:Nat)(g:G)(rs:List R):Prop:=g=.v (.bool true)∧∃l w,rs=cG l (l.map GM.r) w∧GT k m c l w
theorem GT.up {k m c:Nat}{l:List GM}{w w':List RPk}(h:GT k m c l w)(hk:k+150≤900000000)(h1:w'.length≤1000)(h2:∀p∈w',OkP p):GT (k+150) m (c+1) l w':=⟨h.gi.up (by omega) hk,h.still,fun i x hx=>Nat.le_succ_of_le (h.hd i x hx),h1,h2⟩
theorem Hd {k m c i:Nat}{l:List GM}{w w':List RPk}{y y':GM}(h:GT k m c l w)(hy:l[i]?=some y)(hG:GI (k+150) m (l.set i y'))(hb:HB y.r y'.r)(ho:OB 100 y'.r)(h1:w'.length≤1000)(h2:∀p∈w',OkP p) :
  ∃l2 w2,FnO Tryz.prog 75 [.ptr 0 0,gI i] (cG (l.set i y') ((l.map GM.r).set i y'.r) w') (fun g rs=>g=.v (.bool true)∧rs=cG l2 (l2.map GM.r) w2)∧FnO Tryz.prog 76 [.ptr 0 0,gI i] (cG l2 (l2.map GM.r) w2) (fun g rs=>Z1b (k+150) m (c+1) g rs):=by
 have hil:=(ac.1 hy).1
 have hx:(l.set i y')[i]?=some y':=cz hil
 have hp:((l.map GM.r).set i y'.r)[i]?=some y'.r:=cz (by rw[aa];exact hil)
 obtain⟨hok,hys,hym⟩:=hG.ok i y' hx
 have hlog:=hok.ni.nv.ents.1
 have e2:((l.map GM.r).set i y'.r).set i (Tt y'.r)=((l.set i y').set i (Jq y')).map GM.r:=by rw[List.map_set,List.map_set];rfl
 have c1:=Zd5 (l.set i y') ((l.map GM.r).set i y'.r) w' i y' hx hp hok.sim.out h1 (by rw[←hok.sim.out];have:=ho.1;omega)
 rw[e2] at c1
 have hx2:((l.set i y').set i (Jq y'))[i]?=some (Jq y'):=cz (by rw[bf];exact hil)
 have hG2:GI (k+150) m ((l.set i y').set i (Jq y')):=hG.set hx hok.out rfl rfl
 refine⟨_,_,c1,(Zdo _ _ _ i (Jq y') hx2 (by rw[aj,hx2];rfl) hok.out.sim hok.ni.dead (by show y'.n.log.length≤_;omega)).mono fun g rs hq=>⟨hq.1,_,_,hq.2,hG2,?_,fun j x hj=>?_,Fh (by omega) _ h1,Iq _ h2 (by rw[←hok.sim.out];exact ho.2)⟩⟩
 ·refine Still.set (fun j z hz hj=>?_) rfl
  rw[cd (fun e=>hj e.symm)] at hz
  exact h.still j z hz
 ·rw[ck] at hj
  split at hj
  ·split at hj
   ·cases hj
    have:=h.hd i y hy
    unfold HB at hb
    show y'.r.hrd.length≤_
    omega
   ·cases hj
  ·next e =>
   rw[cd e] at hj
   exact Nat.le_succ_of_le (h.hd j x hj)
theorem Zdf (l:List GM)(pl:List RN)(way:List RPk)(k who n:Int)(body:ByteArray)(pf pt:Int)(pb:ByteArray)(i:Nat)(x:GM)(hx:l[i]?=some x)(hw:who=i):FnO Tryz.prog 69 [.ptr 0 0,.agg [gI k,gI who,gI n,.v (.string body),gI pf,gI pt,.v (.string pb)]] (cG l pl way) fun g rs=>g=gI (if n≠0 then n else Kr x.n.pmd who l.length)∧rs=cG l pl way:=by
 subst hw
 refine Ba Tryz.func69 (A5 (O:=oGs l pl way) (n0:=6) rfl) ?_
 refine di (fun h=>?_) fun h=>?_
 ·exact .inl (A1 (oGs l pl way) [] (by exact RL6) rfl ⟨_,rfl⟩ rfl rfl ⟨by rw[db h],rfl⟩)
 rw[da (fun h2=>h2 h)]
 have hil:=(ac.1 hx).1
 refine⟨⟨by omega,by rw[aa];omega⟩,?_⟩
 refine dk (f:=pN) hx ?_
 obtain⟨s,m,b,e,r⟩:=x
 refine dg (.take 5 i _ _ rfl (Fi hx) (.lies 7 b _ rfl (Hn ⟨s,m,b,e,r⟩) (.done (.raw 8 7 rfl (.same ((Z3b s m b e).cal fun q rs hq=>?_))))))
 obtain⟨rfl,rfl⟩:=hq
 refine .put 5 i 7 _ _ rfl (by rw[bf,aa];exact hil) rfl (.drop 8 _ rfl (.done ?_))
 refine(Z2x _ _ _).cal fun q hq=>?_
 subst hq
 rw[aa]
 exact .inl (A1 (oGs l pl way) [] ⟨RL1,RL1,RL1,RL1,RL1,⟨rfl,rfl,Hi (Hf (x:=⟨s,m,b,e,r⟩) hx)⟩,trivial⟩ rfl ⟨_,rfl⟩ rfl rfl ⟨rfl,rfl⟩)
set_option maxHeartbeats 8000000 in
theorem Zcy (k m c:Nat)(l:List GM)(way:List RPk)(kd who n:Int)(body:ByteArray)(pf pt:Int)(pb:ByteArray)(h:GT k m c l way)(hpb:pb.size≤2000000)(hk:k+150≤900000000)(hc:c≤900000) :
  FnO Tryz.prog 34 [.ptr 0 0,.agg [gI kd,gI who,gI n,.v (.string body),gI pf,gI pt,.v (.string pb)]] (cG l (l.map GM.r) way) (Z1b (k+150) m (c+1)):=by
 have hlm:=h.gi.len
 have hm7:=h.gi.m7
 have lenL:(l.map GM.r).length=l.length:=aa ..
 have hw:=h.way
 have hwo:=h.ok
 refine Ba Tryz.func34 (A5 (O:=oGs l (l.map GM.r) way) (n0:=6) rfl) ?_
 refine df (fun(h3:kd ≥ 3)=>?_) fun(h3:¬kd ≥ 3)=>?_
 ·refine di (fun(h6:kd≠6)=>?_) fun(h6:kd=6)=>?_
  ·have hM:=Z35 l (l.map GM.r) way kd who n body pf pt pb hw
   have hMw:=Z8w (s:=⟨kd,who,n,body,⟨pf,pt,pb⟩⟩) hw hwo
   cases hMM:Rh way ⟨kd,who,n,body,⟨pf,pt,pb⟩⟩ with | mk to M =>
   obtain⟨q,is,w⟩:=M
   rw[hMM] at hM hMw
   dsimp only at hM hMw
   have hqb:=Z4a hMM hwo hpb
   have hno:Z1b (k+150) m (c+1) (.v (.bool true)) (cG l (l.map GM.r) w):=⟨rfl,l,w,rfl,h.up hk hMw.1 hMw.2⟩
   refine dg (.close (oGs l (l.map GM.r) way) [] (by exact RL6) ⟨_,rfl⟩ rfl (.done (.same (hM.cal fun q rs hq=>?_))))
   obtain⟨rfl,rfl⟩:=hq
   refine .opn 0 _ _ _ rfl rfl rfl (.done ?_)
   refine dj (fun _=>?_) fun _=>?_
   ·exact .inl (A1 (oGs l (l.map GM.r) w) [(1,7),(2,8),(3,9),(4,10),(5,11)] (by exact RL6) rfl ⟨_,rfl⟩ rfl rfl hno)
   refine df (fun(h1:to < 0)=>?_) fun(h1:¬to < 0)=>?_
   ·exact .inl (A1 (oGs l (l.map GM.r) w) [(1,7),(2,8),(3,9),(4,10),(5,11)] (by exact RL6) rfl ⟨_,rfl⟩ rfl rfl hno)
   refine df (fun h2=>?_) fun h2=>?_
   ·exact .inl (A1 (oGs l (l.map GM.r) w) [(1,7),(2,8),(3,9),(4,10),(5,11)] (by exact RL6) rfl ⟨_,rfl⟩ rfl rfl hno)
   have h2:¬to ≥ ((l.map pN).length:Nat):=h2
   rw[aa] at h2
   obtain⟨j,rfl⟩:∃j:Nat,to=j:=⟨to.toNat,by omega⟩
   obtain⟨y,hy⟩:∃y,l[j]?=some y:=⟨_,ab (by omega)⟩
   have hjl:j < l.length:=by omega
   refine⟨⟨by omega,by rw[aa];omega⟩,?_⟩
   refine dk (f:=pN) (i:=j) hy ?_
   obtain⟨hok,hys,hym⟩:=h.gi.ok j y hy
   have hst:=h.still j y hy
   have hRB:=hok.rb hst (b9 (h.hd j y hy) hc)
   have hyr:(l.map GM.r)[j]?=some y.r:=by rw[aj,hy];rfl
   have hob:=Zr (c:=0) (n:=y.r) ⟨by rw[hst];exact af _,by rw[hst];nofun⟩ (k:=m) (by rw[hok.sim.many,hym]) q
   have hhb:=Zaj y.r q
   have hno2:y.n.out.length≤700000:=by rw[←hok.sim.out,hst];exact ah _
   have fin:∀s',ShN s' (El y.n q)→GI (k+150) m (l.set j (Hj y s' q)):=fun s' hs'=>by
    have hT:=hok.take hk q hs'
    have h1:=Lx y.r q
    have hself:=Sim.selfN hT.sim (i:=j) (m:=m) (h1.1.trans (hok.sim.self.trans (by rw[hys]))) (h1.2.trans (hok.sim.many.trans (by rw[hym])))
    exact(h.gi.up (by omega) hk).set hy hT (hself.1.trans hys.symm) (hself.2.trans hym.symm)
   obtain⟨s,m',b,e,r⟩:=y
   dsimp only at hno2 hyr hRB
   obtain⟨qf,qt,qb⟩:=q
   refine dg (.take 11 j _ _ rfl (Fi hy) (.lies 13 b _ rfl (Hn ⟨s,m',b,e,r⟩) (.done (.raw 14 13 rfl (.same ((Z8h _ s m' b e ⟨qf,qt,qb⟩ (fun _=>hok.ni.wn hno2) (fun _=>hok.sh) hqb).cal fun q rs hq=>?_))))))
   obtain⟨rfl,s',rfl,hs'⟩:=hq
   refine .put 11 j 13 _ _ rfl (by rw[bf,aa];exact hjl) rfl (.drop 14 _ rfl (.done ?_))
   have f1:=fin s' (hs' hok.ni.dead)
   refine⟨⟨by omega,by rw[aa,aa];omega⟩,?_⟩
   refine dk (f:=D6) (i:=j) hyr ?_
   refine(Zdk r ⟨qf,qt,qb⟩ hRB hqb).cal fun q hq=>?_
   subst hq
   refine⟨⟨by omega,by rw[aa,aa];omega⟩,?_⟩
   refine dm (f:=D6) (i:=j) (y:=Dk r ⟨qf,qt,qb⟩) hyr (fun q hq=>hq) rfl ?_
   obtain⟨l2,w2,t1,t2⟩:=Hd (y':=Hj ⟨s,m',b,e,r⟩ s' ⟨qf,qt,qb⟩) h hy f1 hhb (hob.up (by omega)) hMw.1 hMw.2
   refine dg (.close (oGs (l.set j (Hj ⟨s,m',b,e,r⟩ s' ⟨qf,qt,qb⟩)) ((l.map GM.r).set j (Dk r ⟨qf,qt,qb⟩)) w) [(1,7),(2,8),(3,9),(4,10),(5,11)] ⟨RL1,⟨rfl,rfl,eqR (Ik (y:=Hj ⟨s,m',b,e,r⟩ s' ⟨qf,qt,qb⟩) hy rfl).symm⟩,⟨rfl,rfl,eqR (Ix (y:=Hj ⟨s,m',b,e,r⟩ s' ⟨qf,qt,qb⟩) hy rfl).symm⟩,RL1,RL1,⟨rfl,rfl,Hi (E0 l j (Hj ⟨s,m',b,e,r⟩ s' ⟨qf,qt,qb⟩))⟩,trivial⟩ ⟨_,rfl⟩ rfl (.done (.same (t1.cal fun q rs hq=>?_))))
   obtain⟨rfl,rfl⟩:=hq
   refine .done ?_
   refine dj (fun _=>?_) fun hh=>(by cases hh)
   refine dg (.done (.same (t2.cal fun q rs hq=>?_)))
   obtain⟨rfl,l3,w3,rfl,hT⟩:=hq
   exact .done (.inl (A7 rfl rfl ⟨rfl,l3,w3,rfl,hT⟩))
  ·subst h6
   have hno:Z1b (k+150) m (c+1) (.v (.bool true)) (cG l (l.map GM.r) way):=⟨rfl,l,way,rfl,h.up hk hw hwo⟩
   refine df (fun(_:who < 0)=>?_) fun(w1:¬who < 0)=>?_
   ·exact .inl (A1 (oGs l (l.map GM.r) way) [] (by exact RL6) rfl ⟨_,rfl⟩ rfl rfl hno)
   refine df (fun _=>?_) fun w2=>?_
   ·exact .inl (A1 (oGs l (l.map GM.r) way) [] (by exact RL6) rfl ⟨_,rfl⟩ rfl rfl hno)
   have w2:¬who ≥ ((l.map pN).length:Nat):=w2
   rw[aa] at w2
   obtain⟨i,rfl⟩:∃i:Nat,who=i:=⟨who.toNat,by omega⟩
   obtain⟨y,hy⟩:∃y,l[i]?=some y:=⟨_,ab (by omega)⟩
   have hil:i < l.length:=by omega
   obtain⟨hok,hys,hym⟩:=h.gi.ok i y hy
   have hst:=h.still i y hy
   have hRB:=hok.rb hst (b9 (h.hd i y hy) hc)
   have hyr:(l.map GM.r)[i]?=some y.r:=by rw[aj,hy];rfl
   have hno2:y.n.out.length≤700000:=by rw[←hok.sim.out,hst];exact ah _
   have hob:OB 0 y.r:=⟨by rw[hst];exact af _,by rw[hst];nofun⟩
   have hrm:y.r.many=(m:Int):=by rw[hok.sim.many,hym]
   have fin:∀y':GM,MOk (k+150) y'→y'.r.self=y.r.self∧y'.r.many=y.r.many→GI (k+150) m (l.set i y'):=fun y' hT hself=>by
    have hs2:=Sim.selfN hT.sim (i:=i) (m:=m) (by rw[hself.1,hok.sim.self,hys]) (by rw[hself.2,hrm])
    exact(h.gi.up (by omega) hk).set hy hT (hs2.1.trans hys.symm) (hs2.2.trans hym.symm)
   refine de (fun h=>dc h (by decide)) fun _=>?_
   refine de (fun h=>dc h (by decide)) fun _=>?_
   refine de (fun h=>dc h (by decide)) fun _=>?_
   refine de (fun _=>?_) fun h=>dc rfl h
   obtain⟨ho,hr⟩:=hok.rest 0 0
   rw[hys,hym,←hlm] at ho
   refine dg (.close (oGs l (l.map GM.r) way) [] (by exact RL6) ⟨_,rfl⟩ rfl (.done (.same ((Zar l (l.map GM.r) way i y (Y9 y.n 0 0) hy 0 0 hok.ni.sl.ws.d (by rw[hok.ni.sl.ws.wait];exact ah _) ho).cal fun q rs hq=>?_))))
   obtain⟨rfl,b,e,hq⟩:=hq
   obtain rfl:=hq (F3 y.r)
   have f1:=fin ⟨true,Y9 y.n 0 0,b,e,F3 y.r⟩ (MOk.up (hr b e) (by omega) hk) ⟨rfl,rfl⟩
   obtain⟨l2,w2',t1,t2⟩:=Hd (y':=⟨true,Y9 y.n 0 0,b,e,F3 y.r⟩) h hy f1 (show HB _ _ from ah _) ⟨ah _,nofun⟩ hw hwo
   refine .opn 0 _ _ _ rfl rfl rfl (.done ?_)
   refine⟨⟨by omega,by rw[aa,aa];omega⟩,?_⟩
   refine dk (f:=D6) (i:=i) hyr ?_
   refine(Z3g y.r).cal fun q hq=>?_
   subst hq
   refine⟨⟨by omega,by rw[aa,aa];omega⟩,?_⟩
   refine dm (f:=D6) (i:=i) (y:=F3 y.r) hyr (fun q hq=>hq) rfl ?_
   refine dj (fun _=>?_) fun hh=>(by cases hh)
   refine dg (.close (oGs (l.set i ⟨true,Y9 y.n 0 0,b,e,F3 y.r⟩) ((l.map GM.r).set i (F3 y.r)) way) [(1,7),(2,8),(3,9),(4,10),(5,11)] (by exact RL6) ⟨_,rfl⟩ rfl (.done (.same (t1.cal fun q rs hq=>?_))))
   obtain⟨rfl,rfl⟩:=hq
   refine .done ?_
   refine dj (fun _=>?_) fun hh=>(by cases hh)
   refine dg (.done (.same (t2.cal fun q rs hq=>?_)))
   obtain⟨rfl,l3,w3,rfl,hT⟩:=hq
   exact .done (.inl (A7 rfl rfl ⟨rfl,l3,w3,rfl,hT⟩))
 ·have hno:Z1b (k+150) m (c+1) (.v (.bool true)) (cG l (l.map GM.r) way):=⟨rfl,l,way,rfl,h.up hk hw hwo⟩
  refine df (fun(_:who < 0)=>?_) fun(w1:¬who < 0)=>?_
  ·exact .inl (A1 (oGs l (l.map GM.r) way) [] (by exact RL6) rfl ⟨_,rfl⟩ rfl rfl hno)
  refine df (fun _=>?_) fun w2=>?_
  ·exact .inl (A1 (oGs l (l.map GM.r) way) [] (by exact RL6) rfl ⟨_,rfl⟩ rfl rfl hno)
  have w2:¬who ≥ ((l.map pN).length:Nat):=w2
  rw[aa] at w2
  obtain⟨i,rfl⟩:∃i:Nat,who=i:=⟨who.toNat,by omega⟩
  obtain⟨y,hy⟩:∃y,l[i]?=some y:=⟨_,ab (by omega)⟩
  have hil:i < l.length:=by omega
  obtain⟨hok,hys,hym⟩:=h.gi.ok i y hy
  have hst:=h.still i y hy
  have hRB:=hok.rb hst (b9 (h.hd i y hy) hc)
  have hyr:(l.map GM.r)[i]?=some y.r:=by rw[aj,hy];rfl
  have hno2:y.n.out.length≤700000:=by rw[←hok.sim.out,hst];exact ah _
  have hob:OB 0 y.r:=⟨by rw[hst];exact af _,by rw[hst];nofun⟩
  have hrm:y.r.many=(m:Int):=by rw[hok.sim.many,hym]
  have fin:∀y':GM,MOk (k+150) y'→y'.r.self=y.r.self∧y'.r.many=y.r.many→GI (k+150) m (l.set i y'):=fun y' hT hself=>by
   have hs2:=Sim.selfN hT.sim (i:=i) (m:=m) (by rw[hself.1,hok.sim.self,hys]) (by rw[hself.2,hrm])
   exact(h.gi.up (by omega) hk).set hy hT (hs2.1.trans hys.symm) (hs2.2.trans hym.symm)
  refine de (fun(k0:kd=0)=>?_) fun(k0:kd≠0)=>?_
  ·subst k0
   have hN:=Zdf l (l.map GM.r) way 0 i n body pf pt pb i y hy rfl
   generalize (if n≠0 then n else Kr y.n.pmd i l.length)=v at hN
   refine dg (.close (oGs l (l.map GM.r) way) [] (by exact RL6) ⟨_,rfl⟩ rfl (.done (.same (hN.cal fun q rs hq=>?_))))
   obtain⟨rfl,rfl⟩:=hq
   refine .opn 0 _ _ _ rfl rfl rfl (.done ?_)
   refine⟨⟨by omega,by rw[aa];omega⟩,?_⟩
   refine dk (f:=pN) (i:=i) hy ?_
   obtain⟨s,m',b,e,r⟩:=y
   obtain⟨l1,l2,l3⟩:=U8 hok.sim hok.ni (by omega) v
   refine dg (.take 11 i _ _ rfl (Fi hy) (.lies 12 b _ rfl (Hn ⟨s,m',b,e,r⟩) (.done (.raw 13 12 rfl (.same ((Zcl s m' b e k (fun _=>hok.ni.wn hno2) v).cal fun q rs hq=>?_))))))
   obtain⟨rfl,s',rfl,hs'⟩:=hq
   refine .put 11 i 12 _ _ rfl (by rw[bf,aa];exact hil) rfl (.drop 13 _ rfl (.done ?_))
   refine⟨⟨by omega,by rw[aa,aa];omega⟩,?_⟩
   refine dk (f:=D6) (i:=i) hyr ?_
   refine(Zda r v hRB).cal fun q hq=>?_
   subst hq
   refine⟨⟨by omega,by rw[aa,aa];omega⟩,?_⟩
   refine dm (f:=D6) (i:=i) (y:=(D7 r v).1) hyr (fun q hq=>hq) rfl ?_
   refine Z5y (c:=true) (by rw[l1];exact beq_self_eq_true _) ?_
   have f1:=fin ⟨s',(Cn m' v).1,b,e,(D7 r v).1⟩ (MOk.up ⟨l2,l3,Z2e hok.nj v,hs' hok.sh⟩ (by omega) hk) (Z2o r v)
   obtain⟨l2,w2',t1,t2⟩:=Hd (y':=⟨s',(Cn m' v).1,b,e,(D7 r v).1⟩) h hy f1 (Zas r v) ((Z0u hob hrm v).up (by omega)) hw hwo
   refine dg (.close (oGs (l.set i ⟨s',(Cn m' v).1,b,e,(D7 r v).1⟩) ((l.map GM.r).set i (D7 r v).1) way) [(1,7),(2,8),(3,9),(4,10),(5,11)] ⟨RL1,⟨rfl,rfl,eqR (Ik (y:=⟨s',(Cn m' v).1,b,e,(D7 r v).1⟩) hy rfl).symm⟩,⟨rfl,rfl,eqR (Ix (y:=⟨s',(Cn m' v).1,b,e,(D7 r v).1⟩) hy rfl).symm⟩,RL1,RL1,⟨rfl,rfl,Hi (E0 l i ⟨s',(Cn m' v).1,b,e,(D7 r v).1⟩)⟩,trivial⟩ ⟨_,rfl⟩ rfl (.done (.same (t1.cal fun q rs hq=>?_))))
   obtain⟨rfl,rfl⟩:=hq
   refine .done ?_
   refine dj (fun _=>?_) fun hh=>(by cases hh)
   refine dg (.done (.same (t2.cal fun q rs hq=>?_)))
   obtain⟨rfl,l3,w3,rfl,hT⟩:=hq
   exact .done (.inl (A7 rfl rfl ⟨rfl,l3,w3,rfl,hT⟩))
  refine de (fun(k1:kd=1)=>?_) fun(k1:kd≠1)=>?_
  ·subst k1
   refine⟨⟨by omega,by rw[aa];omega⟩,?_⟩
   refine dk (f:=pN) (i:=i) hy ?_
   have f1:=fin (Nq y body) ((hok.offer (by omega) body).1.up (by omega) hk) (K9 y.r body)
   obtain⟨s,m',b,e,r⟩:=y
   have l1:=(Qo hok.sim hok.ni (by omega) body).1
   refine dg (.take 5 i _ _ rfl (Fi hy) (.lies 7 b _ rfl (Hn ⟨s,m',b,e,r⟩) (.done (.raw 8 7 rfl (.same ((Z9v s m' b e (fun _=>(hok.ni.wn hno2).nb) hok.sh body).cal fun q rs hq=>?_))))))
   obtain⟨rfl,rfl⟩:=hq
   refine .put 5 i 7 _ _ rfl (by rw[bf,aa];exact hil) rfl (.drop 8 _ rfl (.done ?_))
   refine⟨⟨by omega,by rw[aa,aa];omega⟩,?_⟩
   refine dk (f:=D6) (i:=i) hyr ?_
   refine(Zam r body hRB).cal fun q hq=>?_
   subst hq
   refine⟨⟨by omega,by rw[aa,aa];omega⟩,?_⟩
   refine dm (f:=D6) (i:=i) (y:=(B9 r body).1) hyr (fun q hq=>hq) rfl ?_
   refine Z5y (c:=true) (by rw[l1];exact beq_self_eq_true _) ?_
   obtain⟨l2,w2',t1,t2⟩:=Hd (y':=Nq ⟨s,m',b,e,r⟩ body) h hy f1 (Z54 r body) ((Tx hob hrm body).up (by omega)) hw hwo
   refine dg (.close (oGs (l.set i (Nq ⟨s,m',b,e,r⟩ body)) ((l.map GM.r).set i (B9 r body).1) way) [] ⟨RL1,⟨rfl,rfl,eqR (Ik (y:=(Nq ⟨s,m',b,e,r⟩ body)) hy rfl).symm⟩,⟨rfl,rfl,eqR (Ix (y:=(Nq ⟨s,m',b,e,r⟩ body)) hy rfl).symm⟩,RL1,RL1,⟨rfl,rfl,Hi (E0 l i (Nq ⟨s,m',b,e,r⟩ body))⟩,trivial⟩ ⟨_,rfl⟩ rfl (.done (.same (t1.cal fun q rs hq=>?_))))
   obtain⟨rfl,rfl⟩:=hq
   refine .done ?_
   refine dj (fun _=>?_) fun hh=>(by cases hh)
   refine dg (.done (.same (t2.cal fun q rs hq=>?_)))
   obtain⟨rfl,l3,w3,rfl,hT⟩:=hq
   exact .done (.inl (A7 rfl rfl ⟨rfl,l3,w3,rfl,hT⟩))
  refine de (fun(k2:kd=2)=>?_) fun(k2:kd≠2)=>?_
  ·subst k2
   refine⟨⟨by omega,by rw[aa];omega⟩,?_⟩
   refine dk (f:=pN) (i:=i) hy ?_
   obtain⟨n1,n2⟩:=Z2r hok.sim hok.ni
   have f1:=fin ⟨y.s,C1 y.n,y.b,y.e,D8 y.r⟩ (MOk.up ⟨n1,n2,Z6e hok.nj,Z5q hok.sh⟩ (by omega) hk) (Xi y.r)
   obtain⟨s,m',b,e,r⟩:=y
   refine dg (.take 5 i _ _ rfl (Fi hy) (.lies 7 b _ rfl (Hn ⟨s,m',b,e,r⟩) (.done (.raw 8 7 rfl (.same ((Z9q s m' b e hok.sh hok.ni.m7 (by have:=hok.ni.nv.ents.1;show m'.log.length≤_;dsimp only at this;omega) hno2 (fun h=>⟨(hok.ni.st h).2.2.1,(hok.ni.st h).2.2.2.1⟩)).cal fun q rs hq=>?_))))))
   obtain⟨rfl,rfl⟩:=hq
   refine .put 5 i 7 _ _ rfl (by rw[bf,aa];exact hil) rfl (.drop 8 _ rfl (.done ?_))
   refine⟨⟨by omega,by rw[aa,aa];omega⟩,?_⟩
   refine dk (f:=D6) (i:=i) hyr ?_
   refine(Zb4 r hRB).cal fun q hq=>?_
   subst hq
   refine⟨⟨by omega,by rw[aa,aa];omega⟩,?_⟩
   refine dm (f:=D6) (i:=i) (y:=D8 r) hyr (fun q hq=>hq) rfl ?_
   refine dj (fun _=>?_) fun hh=>(by cases hh)
   obtain⟨l2,w2',t1,t2⟩:=Hd (y':=⟨s,C1 m',b,e,D8 r⟩) h hy f1 (Z4z r) ((Z66 hob hrm).up (by omega)) hw hwo
   refine dg (.close (oGs (l.set i ⟨s,C1 m',b,e,D8 r⟩) ((l.map GM.r).set i (D8 r)) way) [] ⟨RL1,⟨rfl,rfl,eqR (Ik (y:=⟨s,C1 m',b,e,D8 r⟩) hy rfl).symm⟩,⟨rfl,rfl,eqR (Ix (y:=⟨s,C1 m',b,e,D8 r⟩) hy rfl).symm⟩,RL1,RL1,⟨rfl,rfl,Hi (E0 l i ⟨s,C1 m',b,e,D8 r⟩)⟩,trivial⟩ ⟨_,rfl⟩ rfl (.done (.same (t1.cal fun q rs hq=>?_))))
   obtain⟨rfl,rfl⟩:=hq
   refine .done ?_
   refine dj (fun _=>?_) fun hh=>(by cases hh)
   refine dg (.done (.same (t2.cal fun q rs hq=>?_)))
   obtain⟨rfl,l3,w3,rfl,hT⟩:=hq
   exact .done (.inl (A7 rfl rfl ⟨rfl,l3,w3,rfl,hT⟩))
  refine de (fun(k6:kd=6)=>dc k6 (by omega)) fun(k6:kd≠6)=>?_
  have f1:=fin y (hok.up (by omega) hk) ⟨rfl,rfl⟩
  obtain⟨l2,w2',t1,t2⟩:=Hd (y':=y) h hy f1 (.same rfl) (hob.up (by omega)) hw hwo
  rw[Z7j hy,Z7j hyr] at t1
  refine dj (fun _=>?_) fun hh=>(by cases hh)
  refine dg (.close (oGs l (l.map GM.r) way) [] (by exact RL6) ⟨_,rfl⟩ rfl (.done (.same (t1.cal fun q rs hq=>?_))))
  obtain⟨rfl,rfl⟩:=hq
  refine .done ?_
  refine dj (fun _=>?_) fun hh=>(by cases hh)
  refine dg (.done (.same (t2.cal fun q rs hq=>?_)))
  obtain⟨rfl,l3,w3,rfl,hT⟩:=hq
  exact .done (.inl (A7 rfl rfl ⟨rfl,l3,w3,rfl,hT⟩))
theorem Z91 {m:Nat}{l:List GM}(hl:l.length=m)(h:Fresh m l):(List.range m).map (fun i:Nat=>Hy i m)=l.map GM.r:=by
 refine co fun i=>?_
 rw[aj,aj]
 by_cases hi:i < m
 ·rw[cp hi]
  obtain⟨x,hx⟩:∃x,l[i]?=some x:=⟨_,ab (by omega)⟩
  obtain⟨b,e,rfl⟩:=h i x hx
  rw[hx]
  rfl
 ·rw[b8 (by rw[List.length_range];omega),b8 (by omega)]
  rfl
theorem Z5g {m:Nat}{l:List GM}(hl:l.length=m)(h5:m≤7)(h:Fresh m l):GT 0 m 0 l []:=by
 obtain⟨a,b⟩:=Uw hl h5 h
 refine⟨a,b,fun i x hx=>?_,ah _,nofun⟩
 obtain⟨b,e,rfl⟩:=h i x hx
 exact af _
set_option maxHeartbeats 8000000 in
theorem Xo (many:Int)(sc:List GSt)(hsc:∀s∈sc,s.p.body.size≤2000000):FnV Tryz.prog 8 [gI many,.sl (sc.map Z3s)] fun q=>q=.v (.bool true):=by
 refine fnG Tryz.func8 ?_
 refine(Zg8 many sc).cal fun q hq=>?_
 subst hq
 refine dj (fun h=>?_) fun h=>?_
 ·refine(Q8).cal fun q hq=>?_
  subst hq
  exact rfl
 obtain⟨f1,f2,f3⟩:1≤many∧many≤5∧sc.length≤200:=by simpa using h
 obtain⟨m,rfl⟩:∃m:Nat,many=m:=⟨many.toNat,by omega⟩
 refine dh ((Z26 m (by omega) (by omega)).cal fun q rs hq=>?_)
 obtain⟨rfl,l0,hl0,hF,rfl⟩:=hq
 have hG0:=Z5g hl0 (by omega) hF
 rw[Z91 hl0 hF]
 refine D2 [0,1,5,17,18] [] (fun z:Nat × List GM × List RPk=>[(19,gI z.1)]) (fun z=>[(0,.abs (cl (oGs z.2.1 (z.2.1.map GM.r) z.2.2)))]) (fun z=>z.1≤sc.length∧GT (150 * z.1) m z.1 z.2.1 z.2.2) (fun z=>sc.length - z.1) (0,l0,[]) ⟨ah _,hG0⟩ ⟨⟨rfl,rfl⟩,trivial⟩ ⟨RL1,trivial⟩ rfl fun⟨i,l,w⟩ hI=>?_
 obtain⟨hi,hG⟩:=hI
 dsimp only at hi hG
 refine df (fun hlt=>?_) fun hge=>?_
 rotate_left
 ·refine Gh.done ?_
  refine(Q8).cal fun q hq=>?_
  subst hq
  exact rfl
 rw[aa] at hlt
 obtain⟨s,hs⟩:∃s,sc[i]?=some s:=⟨_,ab (by omega)⟩
 have hsb:=hsc s (ae hs)
 refine dk (f:=Z3s) hs ?_
 obtain⟨kd,who,n,body,pf,pt,pb⟩:=s
 refine dh ((Zcy (150 * i) m i l w kd who n body pf pt pb hG hsb (by omega) (by omega)).cal fun q rs hq=>?_)
 obtain⟨rfl,l1,w1,rfl,hG1⟩:=hq
 refine dj (fun h=>(by cases h)) fun _=>?_
 refine⟨by dsimp only;omega,.done ⟨(i+1,l1,w1),[],⟨by dsimp only;omega,hG1⟩,(by dsimp only;omega),?_⟩⟩
 refine⟨?_,?_,rfl⟩<;>repeat' (first|exact trivial|with_reducible rfl|exact rfl|refine And.intro ?_ ?_)
end Go.Proofs.YtihfaocdpmmooaaGreat

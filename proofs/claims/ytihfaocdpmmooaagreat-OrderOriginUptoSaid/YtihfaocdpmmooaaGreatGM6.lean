
import Derived.Test.YtihfaocdpmmooaaGreatGM5
import Derived.Test.YtihfaocdpmmooaaGreatSxMc
namespace Go.Proofs.YtihfaocdpmmooaaGreat
def InS (S l:List REnt):Prop:=∀e∈l,e∈S
def CP (S:List REnt)(p:RPk):Prop:=∃m:RM,okM m=true∧p.body=⟨(bM m).toArray⟩∧InS S m.l
structure CN (S:List REnt)(n:PN):Prop where
 log:InS S n.log
 jn:∀i,InS S (n.jns i).l
 out:∀p∈n.out,CP S p
theorem CP.mono {S T:List REnt}{p:RPk}(h:CP S p)(hs:∀e∈S,e∈T):CP T p:=by
 obtain⟨m,h1,h2,h3⟩:=h
 exact⟨m,h1,h2,fun e he=>hs e (h3 e he)⟩
theorem CN.mono {S T:List REnt}{n:PN}(h:CN S n)(hs:∀e∈S,e∈T):CN T n:=⟨fun e he=>hs e (h.log e he),fun i e he=>hs e (h.jn i e he),fun p hp=>(h.out p hp).mono hs⟩
theorem InS.nil (S:List REnt):InS S []:=fun _ h=>by cases h
section
variable {S:List REnt} {n:PN}
theorem CN.send (h:CN S n){m:RM}(hm:InS S m.l)(to:Nat):CN S (Aq n to m):=by
 unfold Aq
 split
 ·next hk =>
  refine⟨h.log,h.jn,fun p hp=>?_⟩
  rcases List.mem_append.1 hp with hp | hp
  ·exact h.out p hp
  ·rw[List.mem_singleton.1 hp];exact⟨m,hk,rfl,hm⟩
 ·exact h
theorem CN.oth {f:PN→Nat→PN}(hf:∀n i,CN S n→CN S (f n i))(h:CN S n)(k:Nat):CN S (Jt f n k):=by
 induction k with
 | zero=>exact h
 | succ k ih =>
  rw[Ee]
  split
  ·exact ih
  ·exact hf _ _ ih
theorem CN.spread (h:CN S n){m:RM}(hm:InS S m.l):CN S (Ao n m):=h.oth (fun _ i h=>h.send hm i) _
theorem CN.did (h:CN S n)(e:Int):CN S (Dp n e):=by
 unfold Dp
 split
 ·exact⟨h.log,h.jn,fun p hp=>by cases hp⟩
 ·exact h
theorem CN.st (h:CN S n)(st:LD):CN S {n with st:=st}:=⟨h.log,h.jn,h.out⟩
theorem CN.keep (h:CN S n)(r:ByteArray):CN S (Bf n r):=by
 unfold Bf
 split
 ·exact(h.st _).did _
 split
 ·exact(h.st _).did _
 ·exact(h.st _).did _
theorem CN.look (h:CN S n):CN S (Cp n):=by
 unfold Cp
 split
 ·exact CN.spread (n:={n with cmt:=Bu (Bm n)}) ⟨h.log,h.jn,h.out⟩ (InS.nil S)
 ·exact h
theorem CN.adopt (h:CN S n){l:List REnt}(hl:InS S l)(v:Int):CN S (C8 n v l):=CN.did (n:={Bj n v l with st:=_}) ⟨hl,h.jn,h.out⟩ _
theorem CN.best (h:CN S n):InS S (F1 n):=by
 unfold F1
 generalize (M0 ((B5 n).map mkJ)).toNat=k
 cases hj:(B5 n)[k]? with
 | none=>exact InS.nil S
 | some j =>
  have hm:=List.mem_of_getElem? hj
  unfold B5 jlN at hm
  obtain⟨hm,-⟩:=List.mem_filter.1 hm
  obtain⟨i,-,rfl⟩:=List.mem_map.1 hm
  exact h.jn i
theorem CN.begin (h:CN S n):CN S (Br n):=by
 unfold Br
 split
 ·exact h
 split
 ·have h1:=h.adopt h.best n.pmd
  have h2:CN S (Dc (C8 n n.pmd (F1 n))):=⟨h1.log,h1.jn,h1.out⟩
  exact(h2.spread (m:=⟨3,n.pmd,0,0,F1 n⟩) h.best).look
 ·exact h.adopt h.best n.pmd
theorem CN.rise (h:CN S n)(v:Int):CN S (Ep n v):=CN.keep (n:={n with pmd:=v,lds:=false,std:=false}) ⟨h.log,h.jn,h.out⟩ _
theorem CN.lead (h:CN S n)(v:Int):CN S (C3 n v).1:=by
 unfold C3
 split
 ·exact h
 split
 ·have h1:=h.rise v
  have h2:CN S {Ep n v with lds:=true,jns:=fun i=>if i=n.self then⟨true,n.normal,n.log⟩ else j0}:=⟨h1.log,fun i=>by
   show InS S (if i=n.self then(⟨true,n.normal,n.log⟩:RJ) else j0).l
   split
   ·exact h.log
   ·exact InS.nil S,h1.out⟩
  exact(h2.spread (m:=⟨1,v,0,0,[]⟩) (InS.nil S)).begin
 ·exact h.rise v
theorem CN.add (h:CN S n){e:REnt}(he:e∈S):CN S (He n e):=CN.keep (n:={n with log:=n.log++[e]}) ⟨fun x hx=>by
 rcases List.mem_append.1 hx with hx | hx
 ·exact h.log x hx
 ·rw[List.mem_singleton.1 hx];exact he,h.jn,h.out⟩ _
def Pa (n:PN)(b:ByteArray):REnt:=⟨n.pmd,A5 n.log+1,b⟩
theorem CN.offer (h:CN S n){b:ByteArray}(he:Pa n b∈S):CN S (B3 n b).1:=by
 unfold B3
 split
 ·exact h
 have h1:=h.add he
 split
 ·have h2:CN S {He n (Pa n b) with aks:=fun i=>if i=n.self then A5 n.log+1 else n.aks i}:=⟨h1.log,h1.jn,h1.out⟩
  exact(h2.spread (m:=⟨4,n.pmd,0,A5 n.log+1 - 1,[Pa n b]⟩) fun x hx=>by rw[List.mem_singleton.1 hx];exact he).look
 ·exact h1
theorem CN.nudge (h:CN S n):CN S (Bl n):=by
 unfold Bl
 split
 ·exact h
 split
 ·refine h.oth (fun n i h=>?_) _
  unfold Eh
  refine CN.send ?_ (InS.nil S) i
  split
  ·exact h.send (fun e he=>h.log e (List.mem_of_mem_drop he)) i
  ·exact h.send (fun e he=>h.log e (List.mem_of_mem_take he)) i
 ·refine h.oth (fun n i h=>?_) _
  unfold Em
  split
  ·exact h
  ·exact h.send (InS.nil S) i
theorem CN.any (h:CN S n){m:RM}(hm:InS S m.l)(f:Nat):CN S (As n f m):=by
 unfold As
 split
 ·exact h
 split
 ·refine CN.begin ?_
  split
  ·exact h
  ·refine⟨h.log,fun i=>?_,h.out⟩
   show InS S (if i=f then(⟨true,m.normal,m.l⟩:RJ) else n.jns i).l
   split
   ·exact hm
   ·exact h.jn i
 split
 ·have h1:CN S (Cp {n with aks:=fun i=>if i=f then max (n.aks f) m.num else n.aks i,hrd:=fun i=>if i=f then true else n.hrd i}):=CN.look ⟨h.log,h.jn,h.out⟩
  dsimp only
  split
  ·exact h1.send (fun e he=>h1.log e (List.mem_of_mem_drop he)) f
  ·exact h1
 ·exact h
theorem CN.append:∀{l:List REnt} {v:Int} {n:PN},CN S n→InS S l→CN S (Aj l v n).1
 | [],_,_,h,_=>h
 | e::l,v,n,h,hl=>by
  have hl':InS S l:=fun x hx=>hl x (List.mem_cons_of_mem _ hx)
  unfold Aj
  split
  ·exact h
  split
  ·exact CN.append h hl'
  have h1:=h.add (hl e (by simp))
  split
  ·exact CN.append h1 hl'
  ·exact h1
theorem CN.pri (h:CN S n){m:RM}(hm:InS S m.l)(f:Nat):CN S (A4 n f m):=by
 unfold A4
 split
 ·split
  ·split
   ·exact(h.rise _).send h.log f
   ·exact h.rise _
  ·split
   ·exact h.send h.log f
   ·exact h
 split
 ·have h0:CN S {n with lds:=false,std:=false}:=⟨h.log,h.jn,h.out⟩
  split
  ·split
   ·exact(h0.adopt hm _).send (InS.nil S) f
   ·exact h0.adopt hm _
  ·split
   ·exact h.send (InS.nil S) f
   ·exact h
 split
 ·split
  ·dsimp only
   split
   ·exact(CN.append h hm).send (InS.nil S) f
   ·exact CN.append h hm
  ·exact h
 split
 ·split
  ·exact⟨h.log,h.jn,h.out⟩
  ·exact h
 ·exact h
theorem CN.take (h:CN S n){p:RPk}(hp:CP S p):CN S (Dm n p):=by
 obtain⟨m,h1,h2,h3⟩:=hp
 have e:mD p.body.data.toList=m:=by rw[h2];exact(Zev h1).2
 unfold Dm
 rw[e]
 split
 ·exact h
 split
 ·exact h.any h3 _
 split
 ·exact h
 ·exact h.pri h3 _
theorem CN.rest (h:CN S n)(kp t:Int):CN S (X0 n kp t):=⟨h.log,fun _=>InS.nil S,fun _ hp=>by cases hp⟩
theorem CN.step (h:CN S n){way:List RPk}{kd:Int}{pk:RPk}{c:Prop}{n':PN}(hs:Oc way kd pk c n n')(hw:∀p∈way,CP S p)(h7:kd≠7)(h1:¬c):CN S n':=by
 cases hs with
 | take p hp=>exact h.take (hp.elim (hw p) fun h=>absurd h.1 h7)
 | lead v=>exact h.lead v
 | offer b hk=>exact absurd hk h1
 | nudge=>exact h.nudge
 | rest=>exact h.rest 0 0
 | same=>exact h
theorem Z80 (X:PN)(m:RM):(Cp (Ao X m)).log=X.log∧(Cp (Ao X m)).pmd=X.pmd:=by
 obtain⟨c,o,e⟩:=C7 (Ao X m)
 obtain⟨o2,e2⟩:=(A2 X m).to
 rw[e,e2]
 exact⟨rfl,rfl⟩
theorem Q5 {b:ByteArray}(h:(B3 n b).2=true):(B3 n b).1.log=n.log++[Pa n b]∧(B3 n b).1.pmd=n.pmd:=by
 have ha:(He n (Pa n b)).log=n.log++[Pa n b]∧(He n (Pa n b)).pmd=n.pmd:=by
  obtain⟨st,o,d,e,-⟩:=By {n with log:=n.log++[Pa n b]} (Cb 3 (Pa n b).v (Pa n b).n (Pa n b).b)
  have e:He n (Pa n b)=_:=e
  rw[e];exact⟨rfl,rfl⟩
 unfold B3 at h⊢
 split at h
 ·cases h
 ·next hc =>
  rw[if_neg hc]
  split
  ·obtain⟨q1,q2⟩:=Z80 {He n (Pa n b) with aks:=fun i=>if i=n.self then A5 n.log+1 else n.aks i} ⟨4,n.pmd,0,A5 n.log+1 - 1,[Pa n b]⟩
   exact⟨q1.trans ha.1,q2.trans ha.2⟩
  ·exact ha
theorem Z5s {b:ByteArray}(h:(B3 n b).2=false):(B3 n b).1=n:=by
 unfold B3 at h⊢
 split at h
 ·next hc=>rw[if_pos hc]
 ·split at h<;>cases h
def CG (S:List REnt)(l:List GM)(w:List RPk):Prop:=(∀(i:Nat) (x:GM),l[i]?=some x→CN S x.n)∧∀p∈w,CP S p
theorem CG.set {l:List GM}{w:List RPk}(h:CG S l w){i:Nat}{y:GM}(hy:CN S y.n):CG S (l.set i y) w:=⟨fun j x hx=>by
 rw[List.getElem?_set] at hx
 split at hx
 ·split at hx
  ·cases hx;exact hy
  ·cases hx
 ·exact h.1 j x hx,h.2⟩
theorem CG.mono {T:List REnt}{l:List GM}{w:List RPk}(h:CG S l w)(hs:∀e∈S,e∈T):CG T l w:=⟨fun i x hx=>(h.1 i x hx).mono hs,fun p hp=>(h.2 p hp).mono hs⟩
theorem Z8m {way:List RPk}{s:GSt}:∀p∈(Gn way s).2.2.2,p∈way:=by
 unfold Gn
 split
 ·exact fun p h=>h
 split
 ·exact fun p h=>h
 ·next h2 =>
  obtain⟨q,hq⟩:∃q,way[s.n.toNat]?=some q:=⟨_,List.getElem?_eq_getElem (by omega)⟩
  rw[hq]
  dsimp only[Option.getD_some]
  split
  ·intro p hp
   rcases List.mem_append.1 hp with hp | hp
   ·exact List.mem_of_mem_take hp
   ·exact List.mem_of_mem_drop hp
  ·split
   ·intro p hp
    rcases List.mem_append.1 hp with hp | hp
    ·exact hp
    ·rw[List.mem_singleton.1 hp];exact List.mem_of_getElem? hq
   ·exact fun p h=>h
theorem Z58 {L:List RN}{way:List RPk}{s:GSt}:∀p∈(D8 L way s).2.1,p∈way:=by
 unfold D8
 split
 ·split<;>exact Z8m
 ·split<;>exact fun p h=>h
theorem CG.step {l l':List GM}{w:List RPk}(h:CG S l w){kd:Int}{pk:RPk}{c:Prop}(hst:l'=l∨∃(i:Nat) (x y:GM),l[i]?=some x∧l'=l.set i y∧Oc w kd pk c x.n y.n)(h7:kd≠7)(h1:¬c){L:List RN}{s:GSt}:CG S l' (D8 L w s).2.1:=by
 refine⟨?_,fun p hp=>h.2 p (Z58 p hp)⟩
 rcases hst with rfl | ⟨i,x,y,hx,rfl,hs⟩
 ·exact h.1
 ·exact(h.set ((h.1 i x hx).step hs h.2 h7 h1)).1
end
end Go.Proofs.YtihfaocdpmmooaaGreat
namespace Go.Proofs.YtihfaocdpmmooaaGreat
open Go.RowKit
set_option maxRecDepth 100000
theorem Zb6 (l:List GM)(i:Nat)(x:GM)(hx:l[i]?=some x)(hl:x.n.log.length≤1000000):FnO Tryz.prog 22 [.v (.pointer (some ⟨x.b,0,none⟩))] [.fam (l.map mOb)] fun g rs=>g=.osl 1∧rs=[.fam (l.map mOb),.slc (x.n.log.map enE) tEn 3]:=by
 have hil:=(List.getElem?_eq_some_iff.1 hx).1
 obtain⟨s,n,b,e,r⟩:=x
 refine Z6w ⟨_,Tryz.func22,by kernel_rfl,by kernel_rfl⟩ (.take 0 i _ _ rfl (Ek hx) (.lies 1 b _ rfl (G2 ⟨s,n,b,e,r⟩) (.done (.raw 2 1 rfl (.same ((Zet s n b e hl).cal fun q rs hq=>?_))))))
 obtain⟨rfl,rfl⟩:=hq
 refine .put 0 i 1 _ _ rfl (by rw[List.length_set,List.length_map];exact hil) rfl (.drop 2 _ rfl (.done ⟨rfl,[⟨[(0,.fam (((l.map mOb).set i Sz).set i (cl (oSs s n b e))))],[(0,0)],false⟩,⟨[(0,.slc (n.log.map enE) tEn 3)],[(0,3)],false⟩],.osl 1,⟨⟨⟨_,rfl,rfl,rfl⟩,⟨_,rfl,rfl,rfl⟩,trivial⟩,rfl,⟨_,rfl⟩,rfl,rfl,⟨rfl,?_⟩⟩⟩))
 exact congrArg (fun q=>[R.fam q,R.slc (n.log.map enE) tEn 3]) (Fo hx)
theorem Z8y (l:List GM)(i:Nat)(x:GM)(hx:l[i]?=some x):FnO Tryz.prog 23 [.v (.pointer (some ⟨x.b,0,none⟩))] [.fam (l.map mOb)] fun g rs=>g=.v (.bool x.n.lds)∧rs=[.fam (l.map mOb)]:=by
 have hil:=(List.getElem?_eq_some_iff.1 hx).1
 obtain⟨s,n,b,e,r⟩:=x
 refine Z6w ⟨_,Tryz.func23,by kernel_rfl,by kernel_rfl⟩ (.take 0 i _ _ rfl (Ek hx) (.lies 1 b _ rfl (G2 ⟨s,n,b,e,r⟩) (.done (.raw 2 1 rfl (.same ((Z8g s n b e).cal fun q rs hq=>?_))))))
 obtain⟨rfl,rfl⟩:=hq
 refine .put 0 i 1 _ _ rfl (by rw[List.length_set,List.length_map];exact hil) rfl (.drop 2 _ rfl (.done ⟨rfl,[⟨[(0,.fam (((l.map mOb).set i Sz).set i (cl (oSs s n b e))))],[(0,0)],false⟩],.v (.bool n.lds),⟨⟨⟨_,rfl,rfl,rfl⟩,trivial⟩,rfl,⟨[],rfl⟩,rfl,rfl,⟨rfl,?_⟩⟩⟩))
 exact congrArg (fun q=>[R.fam q]) (Fo hx)
theorem EvIdx.last {α:Type}{L:List α}{r:α}{n:Int}{K:α→Prop}(hn:n=((L++[r]).length:Int) - 1)(h:K r):EvIdx (L++[r]) n K:=by
 rw[List.length_append] at hn
 have hn:n=(L.length:Nat):=by have:(([r]:List α).length:Int)=1:=rfl;omega
 subst hn
 refine⟨by rw[List.length_append];show 0≤(L.length:Int)∧(L.length:Int) < ((L.length+1:Nat):Int);omega,fun y hy=>?_⟩
 rw[Int.toNat_natCast,List.getElem?_append_right (Nat.le_refl _),Nat.sub_self] at hy
 obtain rfl:r=y:=Option.some.inj hy
 exact h
set_option maxHeartbeats 8000000 in
theorem P7 (many:Int)(sc:List GSt)(hsc:∀s∈sc,s.p.body.size≤2000000):FnV Tryz.prog 5 [gI many,.sl (sc.map Z2v)] fun q=>q=.v (.bool true):=by
 refine fnG Tryz.func5 (by kernel_rfl) rfl (Nat.le_of_ble_eq_true (by kernel_rfl)) (by kernel_rfl) ?_
 refine(Zej many sc).cal fun q hq=>?_
 subst hq
 refine EvIf.mk (fun h=>?_) fun h=>?_
 ·refine(Py).cal fun q hq=>?_
  subst hq
  exact rfl
 obtain⟨f1,f2,f3⟩:1≤many∧many≤5∧sc.length≤200:=by simpa using h
 obtain⟨m,rfl⟩:∃m:Nat,many=m:=⟨many.toNat,by omega⟩
 refine EvCall.lend ((Z1z m (by omega) (by omega)).cal fun q rs hq=>?_)
 obtain⟨rfl,l0,hl0,hF,rfl⟩:=hq
 obtain⟨hG0,hS0⟩:=U4 hl0 (by omega) hF
 have hC0:CG [] l0 []:=⟨fun i x hx=>(by obtain⟨b,e,rfl⟩:=hF i x hx;exact⟨InS.nil _,fun _=>InS.nil _,fun _ h=>by cases h⟩),fun _ h=>by cases h⟩
 generalize ((List.range m).map fun i:Nat=>H1 i m)=pl
 refine Z20 (.opn 0 _ _ _ rfl rfl rfl (.done ?_))
 refine D2 [0,1,5,28,29] [] (fun z:Nat × List REnt × List GM × List RPk=>[(30,gI z.1),(6,.osl 1)]) (fun z=>[(0,.blk [.osl 2,.osl 3,.osl 4,.osl 5] tGr),(1,.slc (z.2.1.map enE) tEn 3),(2,.slc (z.2.2.1.map pN) tNp 1),(3,.slc (z.2.2.1.map pD) tDp 1),(4,.slc (pl.map Zak) tRN 12),(5,.vw (z.2.2.2.map pkG) tPk 3),(6,.fam (z.2.2.1.map mOb))]) (fun z=>z.1≤sc.length∧GI (150 * z.1) m z.2.2.1∧Still z.2.2.1∧(z.2.2.2.length≤1000∧∀p∈z.2.2.2,OkP p)∧CG z.2.1 z.2.2.1 z.2.2.2∧z.2.1.length≤z.1) (fun z=>sc.length - z.1) (0,[],l0,[]) ⟨Nat.zero_le _,hG0,hS0,⟨Nat.zero_le _,by nofun⟩,hC0,Nat.zero_le _⟩ ⟨⟨rfl,rfl⟩,⟨rfl,rfl⟩,trivial⟩ (by exact RL7) rfl fun⟨i,S,l,w⟩ hI=>?_
 obtain⟨hi,hG,hS,⟨hw,hwo⟩,hC,hSl⟩:=hI
 dsimp only at hi hG hS hw hwo hC hSl
 refine EvIf.dec (fun hlt=>?_) fun hge=>?_
 rotate_left
 ·refine Gh.done ?_
  have hlm:=hG.len
  refine Bo [6,146,147] [1,2,6] (fun a:Nat=>[(148,gI a)]) (fun _=>[]) (fun a=>a≤m) (fun a=>m - a) 0 (Nat.zero_le _) ⟨⟨rfl,rfl⟩,trivial⟩ trivial rfl fun a ha=>?_
  refine EvIf.dec (fun h1=>?_) fun h1=>?_
  rotate_left
  ·refine(Py).cal fun q hq=>?_
   subst hq
   exact rfl
  rw[List.length_map] at h1
  dsimp only at h1
  obtain⟨x,hx⟩:∃x,l[a]?=some x:=⟨_,List.getElem?_eq_getElem (by omega)⟩
  have hcx:=(hC.1 a x hx).log
  have hll:x.n.log.length≤1000000:=Nat.le_trans (hG.ok a x hx).1.ni.nv.ents.1 (by omega)
  refine⟨⟨by omega,by dsimp only;rw[List.length_map];omega⟩,?_⟩
  refine EvIdx.at (f:=pN) hx ?_
  refine(Zb6 l a x hx hll).cal fun q rs hq=>?_
  obtain⟨rfl,rfl⟩:=hq
  refine Bo [6,146,147,148,153,154] [1,2,6,7] (fun c:Nat=>[(155,gI c)]) (fun _=>[]) (fun c=>c≤x.n.log.length) (fun c=>x.n.log.length - c) 0 (Nat.zero_le _) ⟨⟨rfl,rfl⟩,trivial⟩ trivial rfl fun c hc=>?_
  refine EvIf.dec (fun h2=>?_) fun h2=>?_
  rotate_left
  ·refine⟨by omega,a+1,by omega,(by dsimp only;omega),?_⟩
   refine⟨?_,?_,rfl⟩<;>repeat' (first | exact True.intro | with_reducible rfl | exact rfl | refine And.intro ?_ ?_)
  rw[List.length_map] at h2
  obtain⟨e,he⟩:∃e,x.n.log[c]?=some e:=⟨_,List.getElem?_eq_getElem (by omega)⟩
  refine⟨⟨by omega,by rw[List.length_map];omega⟩,?_⟩
  refine EvIdx.at (f:=enE) he ?_
  have heS:=hcx e (List.mem_of_getElem? he)
  refine Bo [6,15,146,147,148,153,154,155,159,160] [1,2,6,7,8] (fun z:Nat × G=>[(161,gI z.1),(16,z.2)]) (fun _=>[]) (fun z=>z.1≤S.length∧(z.2=.ff∨z.2=.v (.bool false)∨z.2=.v (.bool true)∨z.2=.tt)∧(e∈S.take z.1→z.2=.v (.bool true)∨z.2=.tt)) (fun z=>S.length - z.1) (0,.ff) ⟨Nat.zero_le _,.inl rfl,by simp⟩ ⟨⟨rfl,rfl⟩,⟨rfl,rfl⟩,trivial⟩ trivial rfl fun⟨d,kg⟩ hK=>?_
  obtain⟨hd,hkg,hK⟩:=hK
  dsimp only at hd hkg hK
  refine EvIf.dec (fun h3=>?_) fun h3=>?_
  rotate_left
  ·rw[List.length_map] at h3
   dsimp only at h3
   have hK:=hK (by rw[List.take_of_length_le (by omega)];exact heS)
   rcases hK with rfl | rfl
   ·refine EvIf.mk (fun h=>absurd h (by decide)) fun _=>?_
    refine⟨by omega,c+1,by omega,(by dsimp only;omega),?_⟩
    refine⟨?_,?_,rfl⟩<;>repeat' (first | exact True.intro | with_reducible rfl | exact rfl | refine And.intro ?_ ?_)
   ·refine⟨by omega,c+1,by omega,(by dsimp only;omega),?_⟩
    refine⟨?_,?_,rfl⟩<;>repeat' (first | exact True.intro | with_reducible rfl | exact rfl | refine And.intro ?_ ?_)
  rw[List.length_map] at h3
  dsimp only at h3
  obtain⟨o,ho⟩:∃o,S[d]?=some o:=⟨_,List.getElem?_eq_getElem (by omega)⟩
  refine⟨⟨by omega,by dsimp only;rw[List.length_map];omega⟩,?_⟩
  refine EvIdx.at (f:=enE) ho ?_
  rcases hkg with rfl | rfl | rfl | rfl
  ·refine EvEq.flat [.i .i64,.i .i64,.s] [_,_,_] [_,_,_] (by kernel_rfl) (by kernel_rfl) (by kernel_rfl) rfl rfl rfl rfl (fun h5=>?_) (fun h5=>?_)
   ·refine⟨by dsimp only;omega,(d+1,.v (.bool true)),⟨by dsimp only;omega,.inr (.inr (.inl rfl)),fun _=>.inl rfl⟩,(by dsimp only;omega),?_⟩
    refine⟨?_,?_,rfl⟩<;>repeat' (first | exact True.intro | with_reducible rfl | exact rfl | refine And.intro ?_ ?_)
   ·refine⟨by dsimp only;omega,(d+1,.v (.bool false)),⟨by dsimp only;omega,.inr (.inl rfl),fun h=>?_⟩,(by dsimp only;omega),?_⟩
    ·rw[List.take_add_one,ho] at h
     rcases List.mem_append.1 h with h | h
     ·rcases hK h with h | h<;>cases h
     ·have h:e∈[o]:=h
      rw[List.mem_singleton] at h
      exact absurd (by rw[h]) h5
    ·refine⟨?_,?_,rfl⟩<;>repeat' (first | exact True.intro | with_reducible rfl | exact rfl | refine And.intro ?_ ?_)
  ·refine EvIf.mk (fun h=>(by cases h)) fun _=>?_
   refine EvEq.flat [.i .i64,.i .i64,.s] [_,_,_] [_,_,_] (by kernel_rfl) (by kernel_rfl) (by kernel_rfl) rfl rfl rfl rfl (fun h5=>?_) (fun h5=>?_)
   ·refine⟨by dsimp only;omega,(d+1,.v (.bool true)),⟨by dsimp only;omega,.inr (.inr (.inl rfl)),fun _=>.inl rfl⟩,(by dsimp only;omega),?_⟩
    refine⟨?_,?_,rfl⟩<;>repeat' (first | exact True.intro | with_reducible rfl | exact rfl | refine And.intro ?_ ?_)
   ·refine⟨by dsimp only;omega,(d+1,.v (.bool false)),⟨by dsimp only;omega,.inr (.inl rfl),fun h=>?_⟩,(by dsimp only;omega),?_⟩
    ·rw[List.take_add_one,ho] at h
     rcases List.mem_append.1 h with h | h
     ·rcases hK h with h | h<;>cases h
     ·have h:e∈[o]:=h
      rw[List.mem_singleton] at h
      exact absurd (by rw[h]) h5
    ·refine⟨?_,?_,rfl⟩<;>repeat' (first | exact True.intro | with_reducible rfl | exact rfl | refine And.intro ?_ ?_)
  ·refine EvIf.mk (fun _=>?_) fun h=>(by cases h)
   refine⟨by dsimp only;omega,(d+1,.tt),⟨by dsimp only;omega,.inr (.inr (.inr rfl)),fun _=>.inr rfl⟩,(by dsimp only;omega),?_⟩
   refine⟨?_,?_,rfl⟩<;>repeat' (first | exact True.intro | with_reducible rfl | exact rfl | refine And.intro ?_ ?_)
  ·refine⟨by dsimp only;omega,(d+1,.tt),⟨by dsimp only;omega,.inr (.inr (.inr rfl)),fun _=>.inr rfl⟩,(by dsimp only;omega),?_⟩
   refine⟨?_,?_,rfl⟩<;>repeat' (first | exact True.intro | with_reducible rfl | exact rfl | refine And.intro ?_ ?_)
 rw[List.length_map] at hlt
 obtain⟨s,hs⟩:∃s,sc[i]?=some s:=⟨_,List.getElem?_eq_getElem (by omega)⟩
 have hsb:=hsc s (List.mem_of_getElem? hs)
 refine EvIdx.at (f:=Z2v) hs ?_
 obtain⟨kd,who,n,body,pf,pt,pb⟩:=s
 refine EvIf.beq (fun(h7:kd=7)=>?_) fun(h7:kd≠7)=>?_
 ·refine⟨by dsimp only;omega,.done ⟨(i+1,S,l,w),[],⟨by dsimp only;omega,hG.up (by dsimp only;omega) (by dsimp only;omega),hS,⟨hw,hwo⟩,hC,by dsimp only;omega⟩,(by dsimp only;omega),?_⟩⟩
  refine⟨?_,?_,rfl⟩<;>repeat' (first | exact True.intro | with_reducible rfl | exact rfl | refine And.intro ?_ ?_)
 refine EvIf.beq (fun(k1:kd=1)=>EvIf.dec (fun(w1:who ≥ 0)=>EvIf.dec (fun(w2:who < m)=>?_) fun(w2:¬who < m)=>?_) fun(w1:¬who ≥ 0)=>?_) fun(k1:kd≠1)=>?_
 ·subst k1
  obtain⟨j,rfl⟩:∃j:Nat,who=j:=⟨who.toNat,by omega⟩
  have hjl:j < l.length:=by have:=hG.len;omega
  obtain⟨x,hx⟩:∃x,l[j]?=some x:=⟨_,List.getElem?_eq_getElem hjl⟩
  obtain⟨hok,hys,hym⟩:=hG.ok j x hx
  have hst:=hS j x hx
  obtain⟨hok2,hO⟩:=hok.offer (by omega) body
  have hos:=Sim.selfN hok2.sim (i:=j) (m:=m) (by have:=(Fd x.r body).1;exact this.trans (by rw[hok.sim.self,hys])) (by have:=(Fd x.r body).2;exact this.trans (by rw[hok.sim.many,hym]))
  have hG1:GI (150 * (i+1)) m (l.set j (Db x body)):=(hG.up (j:=150 * (i+1)) (by omega) (by omega)).set hx (hok2.up (by omega) (by omega)) (hos.1.trans hys.symm) (hos.2.trans hym.symm)
  have hob:OB 100 (Db x body).r:=(Np (c:=0) (k:=m) ⟨by rw[hst];exact Nat.zero_le _,by rw[hst];nofun⟩ (by rw[hok.sim.many,hym]) body).up (by omega)
  have hot:∀(a:Nat) (y:GM),(l.set j (Db x body))[a]?=some y→a≠j→y.r.out=[]:=fun a y hy ha=>by
   rw[List.getElem?_set_ne (fun e=>ha e.symm)] at hy
   exact hS a y hy
  have hy:(l.set j (Db x body))[j]?=some (Db x body):=List.getElem?_set_self hjl
  have hF:((((l.map mOb).set j Sz).set j (mOb x)).set j Sz).set j (mOb (Db x body))=(l.set j (Db x body)).map mOb:=by rw[Fo hx,Dr]
  have hPN:(l.set j (Db x body)).map pN=l.map pN:=Hg hx rfl
  have hPD:(l.set j (Db x body)).map pD=l.map pD:=Hi hx rfl
  have hxo:(Db x body).n.out=(Db x body).r.out:=hok2.sim.out.symm
  have hwn:x.n.dead=false→WNb x.n:=fun _=>(hok.ni.wn (by rw[hok.sim.out.symm,hst];exact Nat.zero_le _)).nb
  have hll:(Db x body).n.log.length≤1000000:=Nat.le_trans hok2.ni.nv.ents.1 (by omega)
  refine⟨⟨by omega,by dsimp only;rw[List.length_map];omega⟩,?_⟩
  refine EvIdx.at (f:=pN) hx ?_
  refine EvCall.gh (.take 6 j _ _ rfl (Ek hx) (.lies 8 x.b _ rfl (G2 x) (.done (.raw 9 8 rfl (.same ((Z0m x.s x.n x.b x.e).cal fun q rs hq=>?_))))))
  obtain⟨rfl,rfl⟩:=hq
  refine .put 6 j 8 _ _ rfl (by rw[List.length_set,List.length_map];exact hjl) rfl (.drop 9 _ rfl (.done ?_))
  refine⟨⟨by omega,by dsimp only;rw[List.length_map];omega⟩,?_⟩
  refine EvIdx.at (f:=pN) hx ?_
  refine EvCall.gh (.take 6 j _ (mOb x) rfl (by show(((l.map mOb).set j Sz).set j (mOb x))[j]?=_;rw[Fo hx];exact Ek hx) (.lies 10 x.b _ rfl (G2 x) (.done (.raw 11 10 rfl (.same ((Y8 x.s x.n x.b x.e hwn hok.sh body).cal fun q rs hq=>?_))))))
  obtain⟨rfl,rfl⟩:=hq
  refine .put 6 j 10 _ _ rfl (by simp only[List.length_set,List.length_map];exact hjl) rfl (.drop 11 _ rfl (.done ?_))
  have hlg:=Zb6 _ j _ hy hll
  have hld:=Z8y _ j _ hy
  rw[←hF] at hlg hld
  refine EvIf.mk (fun ho=>?_) fun ho=>?_
  ·skip
   have hL:∀r:List G,((S.map enE++[r]).length:Int)=(S.length:Int)+1:=fun r=>by rw[List.length_append,List.length_map];exact Int.natCast_add _ _
   have hcy:CN (S++[Pa x.n body]) (Db x body).n:=CN.offer ((hC.1 j x hx).mono fun e he=>List.mem_append_left _ he) (List.mem_append_right _ (by simp))
   have hCT:CG (S++[Pa x.n body]) l w:=hC.mono fun e he=>List.mem_append_left _ he
   have hpr:(Db x body).n.lds=true→x.n.pmd.tmod m=j:=fun h=>by
    obtain⟨q1,q2⟩:=hok2.ni.ld h
    have e1:(Db x body).n.pmd=x.n.pmd:=(Q5 ho).2
    have e2:(Db x body).n.many=m:=hos.2
    have e3:(Db x body).n.self=j:=hos.1
    rw[e1,e2,e3] at q1
    rw[e1] at q2
    unfold Aa at q1
    split at q1
    ·rw[Int.tmod_eq_emod_of_nonneg (by omega)];exact q1
    ·omega
   have hlo:((Db x body).n.log.map enE).length=x.n.log.length+1:=by
    have e:(Db x body).n.log=x.n.log++[Pa x.n body]:=(Q5 ho).1
    rw[e,List.length_map,List.length_append];rfl
   refine⟨⟨by omega,by dsimp only;rw[List.length_map];omega⟩,?_⟩
   refine EvIdx.at (f:=pN) hx ?_
   refine hlg.cal fun q rs hq=>?_
   obtain⟨rfl,rfl⟩:=hq
   refine⟨by simp;omega,?_⟩
   refine EvIf.dec (fun _=>?_) fun h=>absurd (by dsimp only;rw[hL];omega) h
   refine⟨by dsimp only;rw[hL];omega,?_⟩
   refine⟨by dsimp only;rw[hL];omega,?_⟩
   refine EvIdx.last (by dsimp only;rw[hL];omega) ?_
   refine⟨by omega,?_⟩
   refine EvIf.bne (fun c2=>?A) fun c2=>?B
   case' A =>
    refine⟨⟨by omega,by dsimp only;rw[List.length_map];omega⟩,?_⟩
    refine EvIdx.at (f:=pN) hx ?_
    refine hld.cal fun q rs hq=>?_
    obtain⟨rfl,rfl⟩:=hq
    refine EvIf.mk (fun c3=>?C) fun c3=>?D
    case C =>
     refine⟨by dsimp only;rw[hL];omega,?_⟩
     refine⟨by dsimp only;rw[hL];omega,?_⟩
     refine EvIdx.last (by dsimp only;rw[hL];omega) ?_
     exact EvIf.beq (fun _=>absurd (hpr c3) c2) fun c4=>absurd rfl c4
   all_goals
    refine EvCall.gh (.close (oGs (l.set j (Db x body)) pl w) [(0,0),(1,2),(2,3),(3,4),(4,5),(5,6)] ⟨RL1,⟨rfl,rfl,eqR hPN.symm⟩,⟨rfl,rfl,eqR hPD.symm⟩,RL1,RL1,⟨rfl,rfl,Gg hF⟩,trivial⟩ ⟨_,rfl⟩ rfl (.done (.same ((Ib (l.set j (Db x body)) pl w j _ hy hw (by rw[hxo];have:=hob.1;omega)).cal fun q rs hq=>?_))))
    obtain⟨rfl,rfl⟩:=hq
    refine .done ?_
    refine⟨by dsimp only;omega,.opn 0 _ _ _ rfl rfl rfl (.done ⟨(i+1,S++[Pa x.n body],(l.set j (Db x body)).set j (Lc (Db x body)),Ck w (Db x body).n.out),[(1,14),(2,15),(3,16),(4,17),(5,18),(6,19)],⟨by dsimp only;omega,hG1.set hy (hG1.ok j _ hy).1.out rfl rfl,Still.set hot rfl,⟨Eo (by omega) _ hw,Cy _ hwo (by rw[hxo];exact hob.2)⟩,⟨((hCT.set hcy).set (y:=Lc (Db x body)) ⟨hcy.log,hcy.jn,fun p hp=>absurd hp List.not_mem_nil⟩).1,Cy _ hCT.2 hcy.out⟩,by dsimp only;rw[List.length_append];show S.length+1≤_;omega⟩,(by dsimp only;omega),?_⟩)⟩
    refine⟨?_,?_,rfl⟩<;>repeat' (first | exact True.intro | with_reducible rfl | exact rfl | refine And.intro ?_ ?_)
    exact eqR (by
     dsimp only
     rw[List.map_append]
     show _++[[gI x.n.pmd,gI (((Db x body).n.log.map enE).length:Nat),.v (.string body)]]=_++[[gI x.n.pmd,gI (A5 x.n.log+1),.v (.string body)]]
     rw[hlo,Dg]
     rfl)
  ·skip
   have hn0:(Db x body).n=x.n:=Z5s ho
   have hcy:CN S (Db x body).n:=by rw[hn0];exact hC.1 j x hx
   have hCT:=hC
   have hpr:(Db x body).n.lds=true→x.n.pmd.tmod m=j:=fun h=>by
    obtain⟨q1,q2⟩:=hok2.ni.ld h
    have e1:(Db x body).n.pmd=x.n.pmd:=by rw[hn0]
    have e2:(Db x body).n.many=m:=hos.2
    have e3:(Db x body).n.self=j:=hos.1
    rw[e1,e2,e3] at q1
    rw[e1] at q2
    unfold Aa at q1
    split at q1
    ·rw[Int.tmod_eq_emod_of_nonneg (by omega)];exact q1
    ·omega
   refine EvIf.dec (fun(c1:((S.map enE).length:Int) > 0)=>?G) fun c1=>?H
   case' G =>
    rw[List.length_map] at c1
    obtain⟨e0,he0⟩:∃e0,S[((S.length:Int) - 1).toNat]?=some e0:=⟨_,List.getElem?_eq_getElem (by omega)⟩
    refine⟨by dsimp only;rw[List.length_map];omega,?_⟩
    refine⟨by dsimp only;rw[List.length_map];omega,?_⟩
    refine EvIdx.atI (f:=enE) (x:=e0) (by dsimp only;rw[List.length_map];omega) (by dsimp only;rw[List.length_map];exact he0) ?_
    refine⟨by omega,?_⟩
    refine EvIf.bne (fun c2=>?Az) fun c2=>?Bz
    case' Az =>
     refine⟨⟨by omega,by dsimp only;rw[List.length_map];omega⟩,?_⟩
     refine EvIdx.at (f:=pN) hx ?_
     refine hld.cal fun q rs hq=>?_
     obtain⟨rfl,rfl⟩:=hq
     refine EvIf.mk (fun c3=>?Cz) fun c3=>?Dz
     case' Cz =>
      refine⟨by dsimp only;rw[List.length_map];omega,?_⟩
      refine⟨by dsimp only;rw[List.length_map];omega,?_⟩
      refine EvIdx.atI (f:=enE) (x:=e0) (by dsimp only;rw[List.length_map];omega) (by dsimp only;rw[List.length_map];exact he0) ?_
      refine EvIf.beq (fun(c4:e0.v=x.n.pmd)=>absurd ((congrArg (fun v:Int=>v.tmod m) c4).trans (hpr c3)) c2) fun c4=>?Ez
   all_goals
    refine EvCall.gh (.close (oGs (l.set j (Db x body)) pl w) [(0,0),(1,2),(2,3),(3,4),(4,5),(5,6)] ⟨RL1,⟨rfl,rfl,eqR hPN.symm⟩,⟨rfl,rfl,eqR hPD.symm⟩,RL1,RL1,⟨rfl,rfl,Gg hF⟩,trivial⟩ ⟨_,rfl⟩ rfl (.done (.same ((Ib (l.set j (Db x body)) pl w j _ hy hw (by rw[hxo];have:=hob.1;omega)).cal fun q rs hq=>?_))))
    obtain⟨rfl,rfl⟩:=hq
    refine .done ?_
    refine⟨by dsimp only;omega,.opn 0 _ _ _ rfl rfl rfl (.done ⟨(i+1,S,(l.set j (Db x body)).set j (Lc (Db x body)),Ck w (Db x body).n.out),[(2,12),(3,13),(4,14),(5,15),(6,16)],⟨by dsimp only;omega,hG1.set hy (hG1.ok j _ hy).1.out rfl rfl,Still.set hot rfl,⟨Eo (by omega) _ hw,Cy _ hwo (by rw[hxo];exact hob.2)⟩,⟨((hCT.set hcy).set (y:=Lc (Db x body)) ⟨hcy.log,hcy.jn,fun p hp=>absurd hp List.not_mem_nil⟩).1,Cy _ hCT.2 hcy.out⟩,by dsimp only;omega⟩,(by dsimp only;omega),?_⟩)⟩
    refine⟨?_,?_,rfl⟩<;>repeat' (first | exact True.intro | with_reducible rfl | exact rfl | refine And.intro ?_ ?_)
 all_goals
  refine EvCall.gh (.close (oGs l pl w) [(0,0),(1,2),(2,3),(3,4),(4,5),(5,6)] (by exact RL6) ⟨_,rfl⟩ rfl (.done (.same ((Zcg (150 * i) m l pl w kd who n body pf pt pb hG hS hw hwo hsb (by omega)).cal fun q rs hq=>?_))))
  obtain⟨hq,l1,rfl,hG1,hm1,hst2⟩:=hq
  have hC1:=hC.step (L:=l.map GM.r) (s:=⟨kd,who,n,body,pf,pt,pb⟩) hst2 h7 (fun h=>by first | exact k1 h.1 | exact w1 h.2.1 | exact w2 (by have:=h.2.2;rw[hG.len] at this;exact this))
  obtain⟨hw1,hwo1⟩:=Z52 (L:=l.map GM.r) (s:=⟨kd,who,n,body,pf,pt,pb⟩) hw hwo
  have hst:=Xr hG hS hm1
  clear hm1 hst2
  generalize D8 (l.map GM.r) w ⟨kd,who,n,body,pf,pt,pb⟩=D at *
  rcases hst with⟨e,hS1⟩ | ⟨j,x,e,hx,hob,hot⟩
  ·rw[e] at hq
   subst hq
   refine .done ?_
   refine EvIf.dec (fun h=>absurd h (by decide)) fun _=>?_
   refine⟨by dsimp only;omega,.opn 0 _ _ _ rfl rfl rfl (.done ⟨(i+1,S,l1,D.2.1),[(2,8),(3,9),(4,10),(5,11),(6,12)],⟨by dsimp only;omega,hG1,hS1,⟨hw1,hwo1⟩,hC1,by dsimp only;omega⟩,(by dsimp only;omega),?_⟩)⟩
   refine⟨?_,?_,rfl⟩<;>repeat' (first | exact True.intro | with_reducible rfl | exact rfl | refine And.intro ?_ ?_)
  rw[e] at hq
  subst hq
  refine .done ?_
  refine EvIf.dec (fun _=>?_) fun h=>absurd (show(j:Int) ≥ 0 by omega) h
  obtain⟨hok,hys,hym⟩:=hG1.ok j x hx
  have hxo:x.n.out=x.r.out:=hok.sim.out.symm
  have hcx:=hC1.1 j x hx
  refine EvCall.lend ((Ib l1 pl D.2.1 j x hx hw1 (by rw[hxo];have:=hob.1;omega)).cal fun q rs hq=>?_)
  obtain⟨rfl,rfl⟩:=hq
  refine⟨by dsimp only;omega,.opn 0 _ _ _ rfl rfl rfl (.done ⟨(i+1,S,l1.set j (Lc x),Ck D.2.1 x.n.out),[(2,8),(3,9),(4,10),(5,11),(6,12)],⟨by dsimp only;omega,hG1.set hx hok.out rfl rfl,Still.set hot rfl,⟨Eo (by omega) _ hw1,Cy _ hwo1 (by rw[hxo];exact hob.2)⟩,⟨(hC1.set (y:=Lc x) ⟨hcx.log,hcx.jn,fun p hp=>absurd hp List.not_mem_nil⟩).1,Cy _ hC1.2 hcx.out⟩,by dsimp only;omega⟩,(by dsimp only;omega),?_⟩)⟩
  refine⟨?_,?_,rfl⟩<;>repeat' (first | exact True.intro | with_reducible rfl | exact rfl | refine And.intro ?_ ?_)
end Go.Proofs.YtihfaocdpmmooaaGreat
namespace Go.Proofs.YtihfaocdpmmooaaGreat
open Go.RowKit
def Zfg:List Sp:=[.i .i64,.i .i64,.i .i64,.s,.i .i64,.i .i64,.s]
theorem Zfp {r:List G}(h:TyL Zfg r):∃s:GSt,r=Z2v s∧s.p.body.size≤E4 r:=by
 obtain⟨a0,r,rfl,-,h⟩:=h.i_inv
 obtain⟨a1,r,rfl,-,h⟩:=h.i_inv
 obtain⟨a2,r,rfl,-,h⟩:=h.i_inv
 obtain⟨a3,r,rfl,-,h⟩:=h.s_inv
 obtain⟨a4,r,rfl,-,h⟩:=h.i_inv
 obtain⟨a5,r,rfl,-,h⟩:=h.i_inv
 obtain⟨a6,r,rfl,-,h⟩:=h.s_inv
 obtain rfl:=h.nil_inv
 exact⟨⟨a0,a1,a2,a3,⟨a4,a5,a6⟩⟩,rfl,by simp only[E4,M6];omega⟩
theorem W3 {r:List G}:∀{rows:List (List G)},r∈rows→E4 r≤Jx rows
 | [],h=>by cases h
 | q::rows,h=>by
  simp only[Jx]
  rcases List.mem_cons.1 h with rfl | h
  ·omega
  ·have:=W3 h;omega
theorem Z3a {g:G}(h:TyL [.sl Zfg] [g])(hb:M6 g≤1048576):∃l:List GSt,g=.sl (l.map Z2v)∧∀s∈l,s.p.body.size≤2000000:=by
 obtain⟨rows,r,e,-,hr,h⟩:=h.sl_inv
 obtain rfl:=h.nil_inv
 have e:g=.sl rows:=by simpa using e
 subst e
 obtain⟨l,rfl,hq⟩:=Z8a (f:=Z2v) (Q:=fun s=>s.p.body.size≤E4 (Z2v s)) fun r hr'=>by
  obtain⟨s,rfl,h1⟩:=Zfp (hr r hr')
  exact⟨s,rfl,h1⟩
 refine⟨l,rfl,fun s hs=>?_⟩
 have h1:=hq s hs
 have h2:=W3 (List.mem_map.2 ⟨s,hs,rfl⟩:Z2v s∈l.map Z2v)
 simp only[M6] at hb
 omega
theorem Z8v {g:G}(h:TyL [.i .i64] [g]):∃n:Int,g=gI n:=by
 obtain⟨n,r,e,-,h⟩:=h.i_inv
 obtain rfl:=h.nil_inv
 have e:g=gI n:=by simpa using e
 exact⟨n,e⟩
end Go.Proofs.YtihfaocdpmmooaaGreat


import Derived.Test.YtihfaocdpmmooaaGreatSMM
import Derived.Test.YtihfaocdpmmooaaGreatOM3
import Derived.Test.YtihfaocdpmmooaaGreatNM1
import Derived.Test.YtihfaocdpmmooaaGreatSMN
import Derived.Test.YtihfaocdpmmooaaGreatGM1
namespace Go.Proofs.YtihfaocdpmmooaaGreat
open Go.RowKit
set_option maxRecDepth 100000
def enJ (j:RJn):List G:=[gI j.frm,gI j.v,gI j.n,.sl (j.l.map enE)]
def Zak (n:RN):List G:=[gI n.self,gI n.many,gI n.pmd,gI n.normal,.sl (n.log.map enE),gI n.cmt,gI n.phase,.sl (n.jns.map enJ),.sl (n.aks.map gI1),gI n.first,.sl (n.hrd.map gI1),.sl (n.out.map pkG)]
abbrev tRN:Nat:=77
def SameR (n n':RN):Prop:={n' with out:=n.out}=n
theorem SameR.to {n n':RN}(h:SameR n n'):∃o,n'={n with out:=o}:=⟨n'.out,by cases n;cases n';unfold SameR at h;cases h;rfl⟩
theorem SameR.trans {n n' n2:RN}(h:SameR n n')(h2:SameR n' n2):SameR n n2:=by
 obtain⟨o,rfl⟩:=h.to
 obtain⟨o2,rfl⟩:=h2.to
 rfl
end Go.Proofs.YtihfaocdpmmooaaGreat
namespace Go.Proofs.YtihfaocdpmmooaaGreat
open Go.RowKit
set_option maxRecDepth 100000
theorem T6 (s m:Int):FnV Tryz.prog 64 [gI s,gI m] fun g=>g=.agg (Zak (H1 s m)):=by
 refine fnG Tryz.func64 (by kernel_rfl) rfl (Nat.le_of_ble_eq_true (by kernel_rfl)) (by kernel_rfl) ?_
 exact rfl
abbrev tGr:Nat:=68
abbrev tDp:Nat:=38
def mOb (x:GM):Ob:=cl (oSs x.s x.n x.b x.e)
def pN (x:GM):List G:=[.v (.pointer (some ⟨x.b,0,none⟩))]
def pD (x:GM):List G:=[.v (.pointer (some ⟨x.e,0,none⟩))]
abbrev oG (l:List GM)(pl:List RN)(way:List RPk):List R:=[.blk [.osl 1,.osl 2,.osl 3,.osl 4] tGr,.slc (l.map pN) tNp 1,.slc (l.map pD) tDp 1,.slc (pl.map Zak) tRN 12,.vw (way.map pkG) tPk 3,.fam (l.map mOb)]
abbrev oGs (l:List GM)(pl:List RN)(way:List RPk):Os:=Aw (oG l pl way) 0
abbrev cG (l:List GM)(pl:List RN)(way:List RPk):List R:=[.abs (cl (oGs l pl way))]
def Fresh (m:Nat)(l:List GM):Prop:=∀(i:Nat) (x:GM),l[i]?=some x→∃b e:Nat,x=(⟨true,I4 i m (0,0,[]) stN,b,e,H1 i m⟩:GM)
theorem Fresh.snoc {m:Nat}{l:List GM}(h:Fresh m l){i:Nat}(hl:l.length=i)(b e:Nat):Fresh m (l++[⟨true,I4 i m (0,0,[]) stN,b,e,H1 i m⟩]):=fun j x hx=>by
 by_cases hj:j < l.length
 ·rw[List.getElem?_append_left hj] at hx;exact h j x hx
 ·rw[List.getElem?_append_right (by omega)] at hx
  obtain⟨hlt,-⟩:=List.getElem?_eq_some_iff.1 hx
  have hlt:j - l.length < 1:=hlt
  have e0:j - l.length=0:=by omega
  rw[e0] at hx
  have:x=⟨true,I4 i m (0,0,[]) stN,b,e,H1 i m⟩:=(Option.some.inj hx).symm
  refine⟨b,e,?_⟩
  rw[this,show j=i by omega]
theorem Gg {ps qs:List Ob}(h:ps=qs):(some (R.fam ps):Option R)=some (R.fam qs):=by rw[h]
set_option maxHeartbeats 4000000 in
theorem Z1z (m:Nat)(h1:1≤m)(h5:m≤5):FnO Tryz.prog 27 [gI m] [] fun g rs=>g=.ptr 0 0∧∃l:List GM,l.length=m∧Fresh m l∧rs=cG l ((List.range m).map fun i:Nat=>H1 i m) []:=by
 refine Bd Tryz.func27 (by kernel_rfl) rfl (Nat.le_of_ble_eq_true (by kernel_rfl)) (by kernel_rfl) (Qy _) ?_
 refine Z20 (.nil 0 [] [.nl,.nl,.nl] tGr tNp 1 rfl (by decide) (.nil 0 [.osl 1] [.nl,.nl] tGr tDp 1 rfl (by decide) (.nil 0 [.osl 1,.osl 2] [.nl] tGr tRN 12 rfl (by decide) (.nil 0 [.osl 1,.osl 2,.osl 3] [] tGr tPk 3 rfl (by decide) (.view 4 _ _ _ rfl (.fam (.done ?_)))))))
 refine D2 [0,3,9,10] [] (fun x:Nat × List GM=>[(11,gI x.1)]) (fun x=>[(0,.blk [.osl 1,.osl 2,.osl 3,.osl 4] tGr),(1,.slc (x.2.map pN) tNp 1),(2,.slc (x.2.map pD) tDp 1),(3,.slc (((List.range x.1).map fun i:Nat=>H1 i m).map Zak) tRN 12),(4,.vw [] tPk 3),(5,.fam (x.2.map mOb))]) (fun x=>x.1≤m∧x.2.length=x.1∧Fresh m x.2) (fun x=>m - x.1) (0,[]) ⟨Nat.zero_le _,rfl,fun i x h=>(by simp at h)⟩ ⟨⟨rfl,rfl⟩,trivial⟩ (by exact RL6) rfl fun⟨i,l⟩ hI=>?_
 obtain⟨hi,hl,hF⟩:=hI
 dsimp only at hi hl hF
 refine EvIf.dec (fun hlt=>?_) fun hge=>?_
 ·refine EvCall.lend ((Zc0 1100).cal fun q rs hq=>?_)
  obtain⟨rfl,rfl⟩:=hq
  rcases Nat.lt_or_ge i m with him | him
  rotate_left
  ·exact absurd hlt (by show ¬(i:Int) < m;omega)
  refine EvCall.gh (.done (.same ((Xx (Xb 1100) (Za 1100) rfl i m).cal fun q rs hq=>?_)))
  rcases hq with⟨hn,-⟩ | ⟨n,b,e,hn,rfl,rfl⟩
  ·rw[Ta him (by omega)] at hn;cases hn
  rw[Ta him (by omega)] at hn
  obtain rfl:=Option.some.inj hn
  refine Gh.opn 7 _ _ _ rfl rfl rfl (.dup 12 7 b rfl (.close (oAs (I4 i m (0,0,[]) stN) b e) [(0,7),(1,9),(2,10),(3,11),(4,12)] (by exact RL5) ⟨_,rfl⟩ rfl (.done ?_)))
  refine EvIf.bne (fun h=>absurd rfl h) fun _=>?_
  have r1:(l.map pN).length+1≤1000000000:=by rw[List.length_map];omega
  have r2:(l.map pD).length+1≤1000000000:=by rw[List.length_map];omega
  have q1:(l.map pN).length+1≤1073741824:=by rw[List.length_map];omega
  have q2:(l.map pD).length+1≤1073741824:=by rw[List.length_map];omega
  refine⟨⟨⟨q1,⟨q2,?_⟩⟩,⟨q1,⟨q2,?_⟩⟩⟩,⟨q1,⟨q2,?_⟩⟩⟩
  ·refine(T6 _ _).cal fun q hq=>?_
   subst hq
   refine⟨by simp;omega,⟨by dsimp only;omega,Gh.adopt 5 7 _ _ rfl rfl (.done ⟨(i+1,l++[⟨true,I4 i m (0,0,[]) stN,b,e,H1 i m⟩]),[(1,15),(2,17),(3,19)],⟨him,by rw[List.length_append,hl];rfl,hF.snoc hl b e⟩,(by dsimp only;omega),?_⟩)⟩⟩
   refine⟨?_,?_,rfl⟩<;>repeat' (first | exact True.intro | with_reducible rfl | exact rfl | refine And.intro ?_ ?_)
   all_goals first | exact eqR (by rw[List.map_append];rfl) | exact eqR (by dsimp only;rw[List.range_succ,List.map_append,List.map_append];rfl) | exact Gg (by rw[List.map_append];rfl)
  ·refine(T6 _ _).cal fun q hq=>?_
   subst hq
   refine⟨by simp;omega,⟨by dsimp only;omega,Gh.adopt 5 7 _ _ rfl rfl (.done ⟨(i+1,l++[⟨true,I4 i m (0,0,[]) stN,b,e,H1 i m⟩]),[(1,16),(2,17),(3,19)],⟨him,by rw[List.length_append,hl];rfl,hF.snoc hl b e⟩,(by dsimp only;omega),?_⟩)⟩⟩
   refine⟨?_,?_,rfl⟩<;>repeat' (first | exact True.intro | with_reducible rfl | exact rfl | refine And.intro ?_ ?_)
   all_goals first | exact eqR (by rw[List.map_append];rfl) | exact eqR (by dsimp only;rw[List.range_succ,List.map_append,List.map_append];rfl) | exact Gg (by rw[List.map_append];rfl)
  ·refine(T6 _ _).cal fun q hq=>?_
   subst hq
   refine⟨by simp;omega,⟨by dsimp only;omega,Gh.adopt 5 7 _ _ rfl rfl (.done ⟨(i+1,l++[⟨true,I4 i m (0,0,[]) stN,b,e,H1 i m⟩]),[(1,16),(2,17),(3,19)],⟨him,by rw[List.length_append,hl];rfl,hF.snoc hl b e⟩,(by dsimp only;omega),?_⟩)⟩⟩
   refine⟨?_,?_,rfl⟩<;>repeat' (first | exact True.intro | with_reducible rfl | exact rfl | refine And.intro ?_ ?_)
   all_goals first | exact eqR (by rw[List.map_append];rfl) | exact eqR (by dsimp only;rw[List.range_succ,List.map_append,List.map_append];rfl) | exact Gg (by rw[List.map_append];rfl)
 ·obtain rfl:i=m:=by have:¬(i:Int) < m:=hge;omega
  exact Gh.done (.inl ⟨[⟨oGs l ((List.range i).map fun j:Nat=>H1 j i) [],[(0,0)],true⟩],.ptr 0 0,⟨⟨⟨(by exact RL6),_,rfl⟩,trivial⟩,rfl,⟨_,rfl⟩,rfl,rfl,⟨rfl,l,hl,hF,rfl⟩⟩⟩)
end Go.Proofs.YtihfaocdpmmooaaGreat
namespace Go.Proofs.YtihfaocdpmmooaaGreat
open Go.RowKit
set_option maxRecDepth 100000
def Ck (way out:List RPk):List RPk:=out.foldl (fun w p=>if w.length < 400 then w++[p] else w) way
theorem Wf {way out:List RPk}{k:Nat}{p:RPk}(h:out[k]?=some p):Ck way (out.take (k+1))=if(Ck way (out.take k)).length < 400 then Ck way (out.take k)++[p] else Ck way (out.take k):=by
 unfold Ck
 rw[List.take_add_one,h]
 show List.foldl _ _ (out.take k++[p])=_
 rw[List.foldl_append];rfl
theorem Eo {c:Nat}(hc:400≤c):∀(out:List RPk) {way:List RPk},way.length≤c→(Ck way out).length≤c
 | [],way,h=>h
 | p::out,way,h=>by
  show(Ck (if way.length < 400 then way++[p] else way) out).length≤c
  refine Eo hc out ?_
  split
  ·rw[List.length_append];show way.length+1≤c;omega
  ·exact h
theorem Cy {P:RPk→Prop}:∀(out:List RPk) {way:List RPk},(∀p∈way,P p)→(∀p∈out,P p)→∀p∈Ck way out,P p
 | [],way,h,_=>h
 | p::out,way,h,h2=>by
  show ∀q∈Ck (if way.length < 400 then way++[p] else way) out,P q
  refine Cy out ?_ fun q hq=>h2 q (List.mem_cons_of_mem _ hq)
  split
  ·intro q hq
   rcases List.mem_append.1 hq with hq | hq
   ·exact h q hq
   ·rw[List.mem_singleton.1 hq];exact h2 p (by simp)
  ·exact h
def Zgx (n:PN):PN:={n with out:=[]}
def Z2s (r:RN):RN:={r with out:=[]}
def Lc (x:GM):GM:={x with n:=Zgx x.n,r:=Z2s x.r}
theorem Dr (l:List GM)(i:Nat)(x:GM):((l.map mOb).set i Sz).set i (mOb x)=(l.set i x).map mOb:=by rw[List.set_set,List.map_set]
theorem Hg {l:List GM}{i:Nat}{x y:GM}(h:l[i]?=some x)(hb:y.b=x.b):(l.set i y).map pN=l.map pN:=by
 rw[List.map_set]
 have e:pN y=pN x:=by unfold pN;rw[hb]
 rw[e]
 obtain⟨hlt,hx⟩:=List.getElem?_eq_some_iff.1 h
 refine List.ext_getElem? fun j=>?_
 rw[List.getElem?_set]
 split
 ·next hj=>subst hj;rw[if_pos (by rw[List.length_map];exact hlt),List.getElem?_map,h];rfl
 ·rfl
theorem Hi {l:List GM}{i:Nat}{x y:GM}(h:l[i]?=some x)(hb:y.e=x.e):(l.set i y).map pD=l.map pD:=by
 rw[List.map_set]
 have e:pD y=pD x:=by unfold pD;rw[hb]
 rw[e]
 obtain⟨hlt,hx⟩:=List.getElem?_eq_some_iff.1 h
 refine List.ext_getElem? fun j=>?_
 rw[List.getElem?_set]
 split
 ·next hj=>subst hj;rw[if_pos (by rw[List.length_map];exact hlt),List.getElem?_map,h];rfl
 ·rfl
theorem Zef {a b:List (List G)}{e sz:Nat}(h:a=b):(some (R.vw a e sz):Option R)=some (R.vw b e sz):=by rw[h]
theorem G2 (x:GM):∀(I:Nat→Nat→Option Value) b S w,mOb x I b S w→b=x.b:=fun I b S w h=>by
 obtain⟨s,n,b',e,r⟩:=x
 cases s
 ·obtain⟨V,hb,hO,-⟩:=(show cl (oBs n b' e) I b S w from h)
  exact hb.symm.trans (hO.each 4 (.adr 0 b') rfl).2.2
 ·obtain⟨V,hb,hO,-⟩:=(show cl (oAs n b' e) I b S w from h)
  exact hb.symm.trans (hO.each 4 (.adr 0 b') rfl).2.2
theorem Fo {l:List GM}{i:Nat}{x:GM}(h:l[i]?=some x):((l.map mOb).set i Sz).set i (mOb x)=l.map mOb:=by
 rw[Dr]
 congr 1
 refine List.ext_getElem? fun j=>?_
 rw[List.getElem?_set]
 split
 ·next hj=>subst hj;rw[if_pos (List.getElem?_eq_some_iff.1 h).1,h]
 ·rfl
theorem Ek {l:List GM}{i:Nat}{x:GM}(h:l[i]?=some x):(l.map mOb)[i]?=some (mOb x):=by rw[List.getElem?_map,h];rfl
theorem Zea (s:Bool)(n:PN)(b e:Nat):FnO Tryz.prog 25 [.ptr 0 0] (cS s n b e) fun g rs=>g=.osl 1∧rs=[.abs (cl (oSs s {n with out:=[]} b e)),.slc (n.out.map pkG) tPk 3]:=by
 cases s
 ·exact Zep n b e
 ·exact Zee n b e
set_option maxHeartbeats 4000000 in
theorem Ib (l:List GM)(pl:List RN)(way:List RPk)(i:Nat)(x:GM)(hx:l[i]?=some x)(hw:way.length≤1000)(ho:x.n.out.length≤1000000):FnO Tryz.prog 29 [.ptr 0 0,gI i] (cG l pl way) fun g rs=>g=.tup []∧rs=cG (l.set i (Lc x)) pl (Ck way x.n.out):=by
 obtain⟨s,n,b,e,r⟩:=x
 dsimp only at ho
 have hilt:=(List.getElem?_eq_some_iff.1 hx).1
 have hfam:(l.map mOb)[i]?=some (cl (oSs s n b e)):=by rw[List.getElem?_map,hx];rfl
 have eP:(l.set i (Lc ⟨s,n,b,e,r⟩)).map pN=l.map pN:=Hg hx rfl
 have eD:(l.set i (Lc ⟨s,n,b,e,r⟩)).map pD=l.map pD:=Hi hx rfl
 have eFm:=Dr l i (Lc ⟨s,n,b,e,r⟩)
 refine Bd Tryz.func29 (by kernel_rfl) rfl (Nat.le_of_ble_eq_true (by kernel_rfl)) (by kernel_rfl) (A6 (O:=oGs l pl way) (n0:=6) rfl) ?_
 refine⟨⟨by omega,by rw[List.length_map];omega⟩,?_⟩
 refine EvIdx.at (f:=pN) hx ?_
 refine EvCall.gh (.take 5 i _ (mOb ⟨s,n,b,e,r⟩) rfl hfam (.lies 6 b _ rfl (G2 ⟨s,n,b,e,r⟩) (.done (.raw 7 6 rfl (.same ((Zea s n b e).cal fun q rs hq=>?_))))))
 obtain⟨rfl,rfl⟩:=hq
 refine .put 5 i 6 _ _ rfl (by rw[List.length_set,List.length_map];exact hilt) rfl (.drop 7 _ rfl (.done ?_))
 generalize hl':l.set i (Lc ⟨s,n,b,e,r⟩)=l' at *
 refine D2 [0,13,14] [1,2,3,8] (fun z:Nat × List RPk=>[(15,gI z.1)]) (fun z=>[(0,.blk [.osl 1,.osl 2,.osl 3,.osl 4] tGr),(4,.vw (z.2.map pkG) tPk 3),(5,.fam (l'.map mOb))]) (fun z=>z.1≤n.out.length∧z.2=Ck way (n.out.take z.1)) (fun z=>n.out.length - z.1) (0,way) ⟨Nat.zero_le _,rfl⟩ ⟨⟨rfl,rfl⟩,trivial⟩ ⟨RL1,RL1,⟨rfl,rfl,Gg eFm⟩,trivial⟩ rfl fun⟨k,w⟩ hI=>?_
 obtain⟨hk,hwk⟩:=hI
 dsimp only at hk hwk
 have hwl:w.length≤1000:=by rw[hwk];exact Eo (by omega) _ hw
 refine EvIf.dec (fun hlt=>?_) fun hge=>?_
 ·rw[List.length_map] at hlt
  obtain⟨p,hp⟩:∃p,n.out[k]?=some p:=⟨_,List.getElem?_eq_getElem (by omega)⟩
  refine⟨⟨by omega,by rw[List.length_map];omega⟩,?_⟩
  refine EvIdx.at (f:=pkG) hp ?_
  have hm:=Wf (way:=way) hp
  rw[←hwk] at hm
  refine EvIf.dec (fun h4=>?_) fun h4=>?_
  ·rw[List.length_map] at h4
   dsimp only at h4
   refine⟨by simp;omega,⟨by dsimp only;omega,.done ⟨(k+1,w++[p]),[(4,11)],⟨by dsimp only;omega,by rw[hm,if_pos (by omega)]⟩,(by dsimp only;omega),?_⟩⟩⟩
   refine⟨?_,?_,rfl⟩<;>repeat' (first | exact True.intro | with_reducible rfl | exact rfl | refine And.intro ?_ ?_)
   exact Zef (by rw[List.map_append];rfl)
  ·rw[List.length_map] at h4
   dsimp only at h4
   refine⟨by dsimp only;omega,.done ⟨(k+1,w),[],⟨by dsimp only;omega,by rw[hm,if_neg (by omega)]⟩,(by dsimp only;omega),?_⟩⟩
   refine⟨?_,?_,rfl⟩<;>repeat' (first | exact True.intro | with_reducible rfl | exact rfl | refine And.intro ?_ ?_)
 ·rw[List.length_map] at hge
  dsimp only at hge
  have hk2:k=n.out.length:=by omega
  have hw2:w=Ck way n.out:=by rw[hwk,hk2,List.take_length]
  refine Gh.done (.inl (A1 (oGs l' pl w) [] ⟨RL1,⟨rfl,rfl,eqR eP.symm⟩,⟨rfl,rfl,eqR eD.symm⟩,RL1,RL1,RL1,trivial⟩ rfl ⟨_,rfl⟩ rfl rfl ⟨rfl,?_⟩))
  rw[hw2]
end Go.Proofs.YtihfaocdpmmooaaGreat


import Derived.Test.YtihfaocdpmmooaaGreatSMM
import Derived.Test.YtihfaocdpmmooaaGreatOM3
import Derived.Test.YtihfaocdpmmooaaGreatNM1
import Derived.Test.YtihfaocdpmmooaaGreatSMN
import Derived.Test.YtihfaocdpmmooaaGreatGM1
namespace Go.Proofs.YtihfaocdpmmooaaGreat
open Go.RowKit
set_option maxRecDepth 100000
def enJ (j:RJn):List G:=[gI j.frm,gI j.v,gI j.n,.sl (j.l.map enE)]
def D6 (n:RN):List G:=[gI n.self,gI n.many,gI n.pmd,gI n.normal,.sl (n.log.map enE),gI n.cmt,gI n.phase,.sl (n.jns.map enJ),.sl (n.aks.map gI1),gI n.first,.sl (n.hrd.map gI1),.sl (n.out.map pkG)]
abbrev tRN:Nat:=77
theorem Zae (l:List RPk):∀r∈l.map pkG,r.length=3∧r.all G.one=true:=fun r hr=>by
 obtain⟨p,-,rfl⟩:=az.1 hr
 exact⟨rfl,rfl⟩
theorem Ou (l:List REnt):∀r∈l.map enE,r.length=3∧r.all G.one=true:=fun r hr=>by
 obtain⟨p,-,rfl⟩:=az.1 hr
 exact⟨rfl,rfl⟩
theorem Vc (l:List Int):∀r∈l.map gI1,r.length=1∧r.all G.one=true:=fun r hr=>by
 obtain⟨p,-,rfl⟩:=az.1 hr
 exact⟨rfl,rfl⟩
theorem G6 (n:RN)(to:Int)(m:RM)(hm:m.l.length≤1000000)(ho:n.out.length≤1000000):FnV Tryz.prog 118 [.agg (D6 n),gI to,.agg (enM m)] fun g=>g=.agg (D6 (Ar n to m)):=by
 refine fnG Tryz.func118 ?_
 refine(Z0l m hm).cal fun q hq=>?_
 subst hq
 unfold wrM
 refine⟨Zae _,?_⟩
 refine⟨by simp;omega,?_⟩
 refine⟨by simp;omega,?_⟩
 have e1:(Ar n to m).out.map pkG=[]++n.out.map pkG++[[gI n.self,gI to,.v (.string ⟨(bM m).toArray⟩)]]:=by unfold Ar;rw[am,cx];rfl
 show _=G.agg [gI n.self,gI n.many,gI n.pmd,gI n.normal,.sl (n.log.map enE),gI n.cmt,gI n.phase,.sl (n.jns.map enJ),.sl (n.aks.map gI1),gI n.first,.sl (n.hrd.map gI1),.sl ((Ar n to m).out.map pkG)]
 rw[e1]
def SameR (n n':RN):Prop:={n' with out:=n.out}=n
theorem SameR.to {n n':RN}(h:SameR n n'):∃o,n'={n with out:=o}:=⟨n'.out,by cases n;cases n';unfold SameR at h;cases h;rfl⟩
theorem SameR.trans {n n' n2:RN}(h:SameR n n')(h2:SameR n' n2):SameR n n2:=by
 obtain⟨o,rfl⟩:=h.to
 obtain⟨o2,rfl⟩:=h2.to
 rfl
theorem N7 (n:RN)(to:Int)(m:RM):SameR n (Ar n to m):=rfl
theorem Ei (n:RN)(to:Int)(m:RM):(Ar n to m).out.length=n.out.length+1:=by unfold Ar;simp
theorem Ks (n:RN)(m:RM)(hm:m.l.length≤1000000)(hk:n.many≤100)(ho:n.out.length≤900000):FnV Tryz.prog 113 [.agg (D6 n),.agg (enM m)] fun g=>g=.agg (D6 (Aq n m)):=by
 refine fnG Tryz.func113 ?_
 refine Ap [2,3,4] [1,2] (fun x:Nat × RN=>[(5,gI x.1)]) (fun x=>[(0,.blk (D6 x.2) tRN)]) (fun x=>x.1≤n.many.toNat∧x.2=Lk (fun n i=>Ar n i m) n x.1∧SameR n x.2∧x.2.out.length≤n.out.length+x.1) (fun x=>n.many.toNat - x.1) (0,n) ⟨ah _,rfl,rfl,af _⟩ ⟨⟨rfl,rfl⟩,trivial⟩ ⟨RL1,trivial⟩ rfl fun⟨i,n'⟩ hI=>?_
 obtain⟨hi,hn,hs,hl⟩:=hI
 dsimp only at hi hn hs hl
 obtain⟨o,ho2⟩:=hs.to
 have hmm:n'.many=n.many:=by rw[ho2]
 refine df (fun hlt=>?_) fun hge=>?_
 ·have hlt:((i:Nat):Int) < n'.many:=hlt
  have hst:=Cx (fun n i=>Ar n i m) n i
  rw[←hn] at hst
  refine di (fun hne=>?_) fun heq=>?_
  ·have hne:(i:Int)≠n'.self:=hne
   rw[da hne] at hst
   refine(G6 n' i m hm (by omega)).cal fun q hq=>?_
   subst hq
   refine⟨by omega,(i+1,Ar n' i m),⟨by dsimp only;omega,hst.symm,hs.trans (N7 _ _ _),by have:=Ei n' i m;dsimp only;omega⟩,(by dsimp only;omega),?_⟩
   refine⟨?_,?_,rfl⟩<;>repeat' (first|exact trivial|with_reducible rfl|exact rfl|refine And.intro ?_ ?_)
  ·have heq:(i:Int)=n'.self:=heq
   rw[db heq] at hst
   refine⟨by omega,(i+1,n'),⟨by dsimp only;omega,hst.symm,hs,by dsimp only;omega⟩,(by dsimp only;omega),?_⟩
   refine⟨?_,?_,rfl⟩<;>repeat' (first|exact trivial|with_reducible rfl|exact rfl|refine And.intro ?_ ?_)
 ·have hge:¬((i:Nat):Int) < n'.many:=hge
  have:i=n.many.toNat:=by omega
  subst this
  have e1:Aq n m=n':=by unfold Aq;rw[hn]
  rw[e1]
  exact rfl
theorem Z7u (n:RN)(x:Int)(hl:n.jns.length≤1000000):FnV Tryz.prog 117 [.agg (D6 n),gI x] fun g=>g=.v (.bool (Jx n x)):=by
 refine fnG Tryz.func117 ?_
 refine Ap [1,2] [0] (fun i:Nat=>[(5,gI i)]) (fun _=>[]) (fun i=>i≤n.jns.length∧∀j∈n.jns.take i,j.frm≠x) (fun i=>n.jns.length - i) 0 ⟨ah _,by simp⟩ ⟨⟨rfl,rfl⟩,trivial⟩ trivial rfl fun i hI=>?_
 obtain⟨hi,hI⟩:=hI
 refine df (fun h=>?_) fun h=>?_
 ·refine dn (by simpa using h) fun j hj=>?_
  have hlt:=Bl hj
  refine de (fun heq=>?_) fun hne=>?_
  ·have heq:j.frm=x:=heq
   have:Jx n x=true:=by unfold Jx;exact List.any_eq_true.2 ⟨j,ae hj,by simpa using heq⟩
   rw[this]
   exact rfl
  ·have hne:j.frm≠x:=hne
   refine⟨by omega,i+1,⟨hlt,fun y hy=>?_⟩,(by dsimp only;omega),?_⟩
   ·rw[An hj] at hy
    rcases br.1 hy with hy | hy
    ·exact hI y hy
    ·rw[bm.1 hy];exact hne
   refine⟨?_,?_,rfl⟩<;>repeat' (first|exact trivial|with_reducible rfl|exact rfl|refine And.intro ?_ ?_)
 ·rw[aa] at h
  rw[ao (by omega)] at hI
  have:Jx n x=false:=by
   unfold Jx
   rw[←Bool.not_eq_true,List.any_eq_true]
   rintro⟨j,hj,hx⟩
   exact hI j hj (by simpa using hx)
  rw[this]
  exact rfl
theorem Tf (n:RN)(x:Int)(hl:n.hrd.length≤1000000):FnV Tryz.prog 119 [.agg (D6 n),gI x] fun g=>g=.v (.bool (Dx n x)):=by
 refine fnG Tryz.func119 ?_
 refine Ap [1,2] [0] (fun i:Nat=>[(5,gI i)]) (fun _=>[]) (fun i=>i≤n.hrd.length∧∀j∈n.hrd.take i,j≠x) (fun i=>n.hrd.length - i) 0 ⟨ah _,by simp⟩ ⟨⟨rfl,rfl⟩,trivial⟩ trivial rfl fun i hI=>?_
 obtain⟨hi,hI⟩:=hI
 refine df (fun h=>?_) fun h=>?_
 ·refine dn (by simpa using h) fun j hj=>?_
  have hlt:=Bl hj
  refine de (fun heq=>?_) fun hne=>?_
  ·have heq:j=x:=heq
   have:Dx n x=true:=by unfold Dx;exact List.any_eq_true.2 ⟨j,ae hj,by simpa using heq⟩
   rw[this]
   exact rfl
  ·have hne:j≠x:=hne
   refine⟨by omega,i+1,⟨hlt,fun y hy=>?_⟩,(by dsimp only;omega),?_⟩
   ·rw[An hj] at hy
    rcases br.1 hy with hy | hy
    ·exact hI y hy
    ·rw[bm.1 hy];exact hne
   refine⟨?_,?_,rfl⟩<;>repeat' (first|exact trivial|with_reducible rfl|exact rfl|refine And.intro ?_ ?_)
 ·rw[aa] at h
  rw[ao (by omega)] at hI
  have:Dx n x=false:=by
   unfold Dx
   rw[←Bool.not_eq_true,List.any_eq_true]
   rintro⟨j,hj,hx⟩
   exact hI j hj (by simpa using hx)
  rw[this]
  exact rfl
theorem Z95 (n:RN)(e:REnt)(hl:n.log.length≤1000000):FnV Tryz.prog 115 [.agg (D6 n),.agg (enE e)] fun g=>g=.agg (D6 (My n e)):=by
 refine fnG Tryz.func115 ?_
 refine⟨Ou _,?_⟩
 refine⟨by simp;omega,?_⟩
 refine⟨by simp;omega,?_⟩
 have e1:(My n e).log.map enE=[]++n.log.map enE++[enE e]:=by unfold My;rw[am,cx];rfl
 show _=G.agg [gI n.self,gI n.many,gI n.pmd,gI n.normal,.sl ((My n e).log.map enE),gI n.cmt,gI n.phase,.sl (n.jns.map enJ),.sl (n.aks.map gI1),gI n.first,.sl (n.hrd.map gI1),.sl (n.out.map pkG)]
 rw[e1]
 exact rfl
theorem Sn (s m:Int):FnV Tryz.prog 64 [gI s,gI m] fun g=>g=.agg (D6 (Hy s m)):=by
 refine fnG Tryz.func64 ?_
 exact rfl
abbrev tGr:Nat:=68
abbrev tDp:Nat:=38
def mOb (x:GM):Ob:=cl (oSs x.s x.n x.b x.e)
def pN (x:GM):List G:=[.v (.pointer (some ⟨x.b,0,none⟩))]
def pD (x:GM):List G:=[.v (.pointer (some ⟨x.e,0,none⟩))]
abbrev oG (l:List GM)(pl:List RN)(way:List RPk):List R:=[.blk [.osl 1,.osl 2,.osl 3,.osl 4] tGr,.slc (l.map pN) tNp 1,.slc (l.map pD) tDp 1,.slc (pl.map D6) tRN 12,.vw (way.map pkG) tPk 3,.fam (l.map mOb)]
abbrev oGs (l:List GM)(pl:List RN)(way:List RPk):Os:=B7 (oG l pl way) 0
abbrev cG (l:List GM)(pl:List RN)(way:List RPk):List R:=[.abs (cl (oGs l pl way))]
def Fresh (m:Nat)(l:List GM):Prop:=∀(i:Nat) (x:GM),l[i]?=some x→∃b e:Nat,x=(⟨true,Ih i m (0,0,[]) stN,b,e,Hy i m⟩:GM)
theorem Fresh.snoc {m:Nat}{l:List GM}(h:Fresh m l){i:Nat}(hl:l.length=i)(b e:Nat):Fresh m (l++[⟨true,Ih i m (0,0,[]) stN,b,e,Hy i m⟩]):=fun j x hx=>by
 by_cases hj:j < l.length
 ·rw[bk hj] at hx;exact h j x hx
 ·rw[be (by omega)] at hx
  obtain⟨hlt,-⟩:=ac.1 hx
  have hlt:j - l.length < 1:=hlt
  have e0:j - l.length=0:=by omega
  rw[e0] at hx
  have:x=⟨true,Ih i m (0,0,[]) stN,b,e,Hy i m⟩:=(cg hx).symm
  refine⟨b,e,?_⟩
  rw[this,show j=i by omega]
theorem Hi {ps qs:List Ob}(h:ps=qs):(some (R.fam ps):Option R)=some (R.fam qs):=by rw[h]
set_option maxHeartbeats 4000000 in
theorem Z26 (m:Nat)(h1:1≤m)(h5:m≤5):FnO Tryz.prog 27 [gI m] [] fun g rs=>g=.ptr 0 0∧∃l:List GM,l.length=m∧Fresh m l∧rs=cG l ((List.range m).map fun i:Nat=>Hy i m) []:=by
 refine Ba Tryz.func27 (Q3 _) ?_
 refine Z3z (.nil 0 [] [.nl,.nl,.nl] tGr tNp 1 rfl (by decide) (.nil 0 [.osl 1] [.nl,.nl] tGr tDp 1 rfl (by decide) (.nil 0 [.osl 1,.osl 2] [.nl] tGr tRN 12 rfl (by decide) (.nil 0 [.osl 1,.osl 2,.osl 3] [] tGr tPk 3 rfl (by decide) (.view 4 _ _ _ rfl (.fam (.done ?_)))))))
 refine D2 [0,3,9,10] [] (fun x:Nat × List GM=>[(11,gI x.1)]) (fun x=>[(0,.blk [.osl 1,.osl 2,.osl 3,.osl 4] tGr),(1,.slc (x.2.map pN) tNp 1),(2,.slc (x.2.map pD) tDp 1),(3,.slc (((List.range x.1).map fun i:Nat=>Hy i m).map D6) tRN 12),(4,.vw [] tPk 3),(5,.fam (x.2.map mOb))]) (fun x=>x.1≤m∧x.2.length=x.1∧Fresh m x.2) (fun x=>m - x.1) (0,[]) ⟨ah _,rfl,fun i x h=>(by simp at h)⟩ ⟨⟨rfl,rfl⟩,trivial⟩ (by exact RL6) rfl fun⟨i,l⟩ hI=>?_
 obtain⟨hi,hl,hF⟩:=hI
 dsimp only at hi hl hF
 refine df (fun hlt=>?_) fun hge=>?_
 ·refine dh ((Zf0 1100).cal fun q rs hq=>?_)
  obtain⟨rfl,rfl⟩:=hq
  rcases Nat.lt_or_ge i m with him | him
  rotate_left
  ·exact dc hlt (by show ¬(i:Int) < m;omega)
  refine dg (.done (.same ((Z2y (Y5 1100) (Z0q 1100) rfl i m).cal fun q rs hq=>?_)))
  rcases hq with⟨hn,-⟩ | ⟨n,b,e,hn,rfl,rfl⟩
  ·rw[We him (by omega)] at hn;cases hn
  rw[We him (by omega)] at hn
  obtain rfl:=cg hn
  refine Gh.opn 7 _ _ _ rfl rfl rfl (.dup 12 7 b rfl (.close (oAs (Ih i m (0,0,[]) stN) b e) [(0,7),(1,9),(2,10),(3,11),(4,12)] (by exact RL5) ⟨_,rfl⟩ rfl (.done ?_)))
  refine di (fun h=>dc rfl h) fun _=>?_
  have r1:(l.map pN).length+1≤1000000000:=by rw[aa];omega
  have r2:(l.map pD).length+1≤1000000000:=by rw[aa];omega
  have q1:(l.map pN).length+1≤1073741824:=by rw[aa];omega
  have q2:(l.map pD).length+1≤1073741824:=by rw[aa];omega
  refine⟨⟨⟨q1,⟨q2,?_⟩⟩,⟨q1,⟨q2,?_⟩⟩⟩,⟨q1,⟨q2,?_⟩⟩⟩
  ·refine(Sn _ _).cal fun q hq=>?_
   subst hq
   refine⟨by simp;omega,⟨by dsimp only;omega,Gh.adopt 5 7 _ _ rfl rfl (.done ⟨(i+1,l++[⟨true,Ih i m (0,0,[]) stN,b,e,Hy i m⟩]),[(1,15),(2,17),(3,19)],⟨him,by rw[aw,hl];rfl,hF.snoc hl b e⟩,(by dsimp only;omega),?_⟩)⟩⟩
   refine⟨?_,?_,rfl⟩<;>repeat' (first|exact trivial|with_reducible rfl|exact rfl|refine And.intro ?_ ?_)
   all_goals first | exact eqR (by rw[am];rfl) | exact eqR (by dsimp only;rw[List.range_succ,am,am];rfl) | exact Hi (by rw[am];rfl)
  ·refine(Sn _ _).cal fun q hq=>?_
   subst hq
   refine⟨by simp;omega,⟨by dsimp only;omega,Gh.adopt 5 7 _ _ rfl rfl (.done ⟨(i+1,l++[⟨true,Ih i m (0,0,[]) stN,b,e,Hy i m⟩]),[(1,16),(2,17),(3,19)],⟨him,by rw[aw,hl];rfl,hF.snoc hl b e⟩,(by dsimp only;omega),?_⟩)⟩⟩
   refine⟨?_,?_,rfl⟩<;>repeat' (first|exact trivial|with_reducible rfl|exact rfl|refine And.intro ?_ ?_)
   all_goals first | exact eqR (by rw[am];rfl) | exact eqR (by dsimp only;rw[List.range_succ,am,am];rfl) | exact Hi (by rw[am];rfl)
  ·refine(Sn _ _).cal fun q hq=>?_
   subst hq
   refine⟨by simp;omega,⟨by dsimp only;omega,Gh.adopt 5 7 _ _ rfl rfl (.done ⟨(i+1,l++[⟨true,Ih i m (0,0,[]) stN,b,e,Hy i m⟩]),[(1,16),(2,17),(3,19)],⟨him,by rw[aw,hl];rfl,hF.snoc hl b e⟩,(by dsimp only;omega),?_⟩)⟩⟩
   refine⟨?_,?_,rfl⟩<;>repeat' (first|exact trivial|with_reducible rfl|exact rfl|refine And.intro ?_ ?_)
   all_goals first | exact eqR (by rw[am];rfl) | exact eqR (by dsimp only;rw[List.range_succ,am,am];rfl) | exact Hi (by rw[am];rfl)
 ·obtain rfl:i=m:=by have:¬(i:Int) < m:=hge;omega
  exact Gh.done (.inl ⟨[⟨oGs l ((List.range i).map fun j:Nat=>Hy j i) [],[(0,0)],true⟩],.ptr 0 0,⟨⟨⟨(by exact RL6),_,rfl⟩,trivial⟩,rfl,⟨_,rfl⟩,rfl,rfl,⟨rfl,l,hl,hF,rfl⟩⟩⟩)
def Cw (way out:List RPk):List RPk:=out.foldl (fun w p=>if w.length < 400 then w++[p] else w) way
theorem N2 {way out:List RPk}{k:Nat}{p:RPk}(h:out[k]?=some p):Cw way (out.take (k+1))=if(Cw way (out.take k)).length < 400 then Cw way (out.take k)++[p] else Cw way (out.take k):=by
 unfold Cw
 rw[List.take_add_one,h]
 show List.foldl _ _ (out.take k++[p])=_
 rw[List.foldl_append];rfl
theorem Fh {c:Nat}(hc:400≤c):∀(out:List RPk) {way:List RPk},way.length≤c→(Cw way out).length≤c
 | [],way,h=>h
 | p::out,way,h=>by
  show(Cw (if way.length < 400 then way++[p] else way) out).length≤c
  refine Fh hc out ?_
  split
  ·rw[aw];show way.length+1≤c;omega
  ·exact h
theorem Iq {P:RPk→Prop}:∀(out:List RPk) {way:List RPk},(∀p∈way,P p)→(∀p∈out,P p)→∀p∈Cw way out,P p
 | [],way,h,_=>h
 | p::out,way,h,h2=>by
  show ∀q∈Cw (if way.length < 400 then way++[p] else way) out,P q
  refine Iq out ?_ fun q hq=>h2 q (List.mem_cons_of_mem _ hq)
  split
  ·intro q hq
   rcases br.1 hq with hq | hq
   ·exact h q hq
   ·rw[bm.1 hq];exact h2 p (by simp)
  ·exact h
def Zia (n:PN):PN:={n with out:=[]}
def Tt (r:RN):RN:={r with out:=[]}
def Jq (x:GM):GM:={x with n:=Zia x.n,r:=Tt x.r}
theorem E0 (l:List GM)(i:Nat)(x:GM):((l.map mOb).set i Yf).set i (mOb x)=(l.set i x).map mOb:=by rw[List.set_set,List.map_set]
theorem Ik {l:List GM}{i:Nat}{x y:GM}(h:l[i]?=some x)(hb:y.b=x.b):(l.set i y).map pN=l.map pN:=by
 rw[List.map_set]
 have e:pN y=pN x:=by unfold pN;rw[hb]
 rw[e]
 obtain⟨hlt,hx⟩:=ac.1 h
 refine co fun j=>?_
 rw[ck]
 split
 ·next hj=>subst hj;rw[db (by rw[aa];exact hlt),aj,h];rfl
 ·rfl
theorem Ix {l:List GM}{i:Nat}{x y:GM}(h:l[i]?=some x)(hb:y.e=x.e):(l.set i y).map pD=l.map pD:=by
 rw[List.map_set]
 have e:pD y=pD x:=by unfold pD;rw[hb]
 rw[e]
 obtain⟨hlt,hx⟩:=ac.1 h
 refine co fun j=>?_
 rw[ck]
 split
 ·next hj=>subst hj;rw[db (by rw[aa];exact hlt),aj,h];rfl
 ·rfl
theorem Zft {a b:List (List G)}{e sz:Nat}(h:a=b):(some (R.vw a e sz):Option R)=some (R.vw b e sz):=by rw[h]
theorem Hn (x:GM):∀(I:Nat→Nat→Option Value) b S w,mOb x I b S w→b=x.b:=fun I b S w h=>by
 obtain⟨s,n,b',e,r⟩:=x
 cases s
 ·obtain⟨V,hb,hO,-⟩:=(show cl (oBs n b' e) I b S w from h)
  exact hb.symm.trans (hO.each 4 (.adr 0 b') rfl).2.2
 ·obtain⟨V,hb,hO,-⟩:=(show cl (oAs n b' e) I b S w from h)
  exact hb.symm.trans (hO.each 4 (.adr 0 b') rfl).2.2
theorem Hf {l:List GM}{i:Nat}{x:GM}(h:l[i]?=some x):((l.map mOb).set i Yf).set i (mOb x)=l.map mOb:=by
 rw[E0]
 congr 1
 refine co fun j=>?_
 rw[ck]
 split
 ·next hj=>subst hj;rw[db (ac.1 h).1,h]
 ·rfl
theorem Fi {l:List GM}{i:Nat}{x:GM}(h:l[i]?=some x):(l.map mOb)[i]?=some (mOb x):=by rw[aj,h];rfl
theorem Zcj (s:Bool)(n:PN)(b e:Nat):FnO Tryz.prog 25 [.ptr 0 0] (cS s n b e) fun g rs=>g=.osl 1∧rs=[.abs (cl (oSs s {n with out:=[]} b e)),.slc (n.out.map pkG) tPk 3]:=by
 cases s
 ·exact Zhg n b e
 ·exact Zhd n b e
set_option maxHeartbeats 4000000 in
theorem W7 (l:List GM)(pl:List RN)(way:List RPk)(i:Nat)(x:GM)(hx:l[i]?=some x)(hw:way.length≤1000)(ho:x.n.out.length≤1000000):FnO Tryz.prog 29 [.ptr 0 0,gI i] (cG l pl way) fun g rs=>g=.tup []∧rs=cG (l.set i (Jq x)) pl (Cw way x.n.out):=by
 obtain⟨s,n,b,e,r⟩:=x
 dsimp only at ho
 have hilt:=(ac.1 hx).1
 have hfam:(l.map mOb)[i]?=some (cl (oSs s n b e)):=by rw[aj,hx];rfl
 have eP:(l.set i (Jq ⟨s,n,b,e,r⟩)).map pN=l.map pN:=Ik hx rfl
 have eD:(l.set i (Jq ⟨s,n,b,e,r⟩)).map pD=l.map pD:=Ix hx rfl
 have eFm:=E0 l i (Jq ⟨s,n,b,e,r⟩)
 refine Ba Tryz.func29 (A5 (O:=oGs l pl way) (n0:=6) rfl) ?_
 refine⟨⟨by omega,by rw[aa];omega⟩,?_⟩
 refine dk (f:=pN) hx ?_
 refine dg (.take 5 i _ (mOb ⟨s,n,b,e,r⟩) rfl hfam (.lies 6 b _ rfl (Hn ⟨s,n,b,e,r⟩) (.done (.raw 7 6 rfl (.same ((Zcj s n b e).cal fun q rs hq=>?_))))))
 obtain⟨rfl,rfl⟩:=hq
 refine .put 5 i 6 _ _ rfl (by rw[bf,aa];exact hilt) rfl (.drop 7 _ rfl (.done ?_))
 generalize hl':l.set i (Jq ⟨s,n,b,e,r⟩)=l' at *
 refine D2 [0,13,14] [1,2,3,8] (fun z:Nat × List RPk=>[(15,gI z.1)]) (fun z=>[(0,.blk [.osl 1,.osl 2,.osl 3,.osl 4] tGr),(4,.vw (z.2.map pkG) tPk 3),(5,.fam (l'.map mOb))]) (fun z=>z.1≤n.out.length∧z.2=Cw way (n.out.take z.1)) (fun z=>n.out.length - z.1) (0,way) ⟨ah _,rfl⟩ ⟨⟨rfl,rfl⟩,trivial⟩ ⟨RL1,RL1,⟨rfl,rfl,Hi eFm⟩,trivial⟩ rfl fun⟨k,w⟩ hI=>?_
 obtain⟨hk,hwk⟩:=hI
 dsimp only at hk hwk
 have hwl:w.length≤1000:=by rw[hwk];exact Fh (by omega) _ hw
 refine df (fun hlt=>?_) fun hge=>?_
 ·rw[aa] at hlt
  obtain⟨p,hp⟩:∃p,n.out[k]?=some p:=⟨_,ab (by omega)⟩
  refine⟨⟨by omega,by rw[aa];omega⟩,?_⟩
  refine dk (f:=pkG) hp ?_
  have hm:=N2 (way:=way) hp
  rw[←hwk] at hm
  refine df (fun h4=>?_) fun h4=>?_
  ·rw[aa] at h4
   dsimp only at h4
   refine⟨by simp;omega,⟨by dsimp only;omega,.done ⟨(k+1,w++[p]),[(4,11)],⟨by dsimp only;omega,by rw[hm,db (by omega)]⟩,(by dsimp only;omega),?_⟩⟩⟩
   refine⟨?_,?_,rfl⟩<;>repeat' (first|exact trivial|with_reducible rfl|exact rfl|refine And.intro ?_ ?_)
   exact Zft (by rw[am];rfl)
  ·rw[aa] at h4
   dsimp only at h4
   refine⟨by dsimp only;omega,.done ⟨(k+1,w),[],⟨by dsimp only;omega,by rw[hm,da (by omega)]⟩,(by dsimp only;omega),?_⟩⟩
   refine⟨?_,?_,rfl⟩<;>repeat' (first|exact trivial|with_reducible rfl|exact rfl|refine And.intro ?_ ?_)
 ·rw[aa] at hge
  dsimp only at hge
  have hk2:k=n.out.length:=by omega
  have hw2:w=Cw way n.out:=by rw[hwk,hk2,List.take_length]
  refine Gh.done (.inl (A1 (oGs l' pl w) [] ⟨RL1,⟨rfl,rfl,eqR eP.symm⟩,⟨rfl,rfl,eqR eD.symm⟩,RL1,RL1,RL1,trivial⟩ rfl ⟨_,rfl⟩ rfl rfl ⟨rfl,?_⟩))
  rw[hw2]
end Go.Proofs.YtihfaocdpmmooaaGreat

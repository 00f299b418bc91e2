
import Derived.Test.YtihfaocdpmmooaaGreatGM2
import Derived.Test.YtihfaocdpmmooaaGreatSMN
import Derived.Test.YtihfaocdpmmooaaGreatZNu
namespace Go.Proofs.YtihfaocdpmmooaaGreat
open Go.RowKit
set_option maxRecDepth 100000
theorem Ys (n:RN)(i k:Int)(h0:0≤i)(h1:i < n.aks.length)(hl:n.aks.length≤1000000):FnV Tryz.prog 114 [.agg (D6 n),gI i,gI k] fun g=>g=.agg (D6 (Bc n i k)):=by
 refine fnG Tryz.func114 ?_
 obtain⟨j,rfl⟩:∃j:Nat,i=j:=⟨i.toNat,by omega⟩
 obtain⟨x,hx⟩:∃x,n.aks[j]?=some x:=⟨_,ab (by omega)⟩
 refine⟨Vc _,?_⟩
 refine⟨by simp;omega,?_⟩
 refine⟨⟨h0,by show(j:Int) < ((n.aks.map gI1).length:Nat);rw[aa];omega⟩,?_⟩
 refine dk (f:=gI1) (i:=j) hx ?_
 refine⟨⟨h0,by show(j:Int) < ((n.aks.map gI1).length:Nat);rw[aa];omega⟩,?_⟩
 refine dm (f:=gI1) (i:=j) (y:=max x k) hx (fun q hq=>hq) rfl ?_
 have e:Bc n j k={n with aks:=n.aks.set j (max x k)}:=by
  unfold Bc
  rw[ay,hx];rfl
 rw[e]
 exact rfl
theorem Yu (n:RN)(ha:n.aks.length≤1000)(hk:n.many≤100)(ho:n.out.length≤900000):FnV Tryz.prog 116 [.agg (D6 n)] fun g=>g=.agg (D6 (Cc n)):=by
 refine fnG Tryz.func116 ?_
 refine(Z1n n.aks ha).cal fun q hq=>?_
 subst hq
 refine df (fun h=>?_) fun h=>?_
 ·have e:Cc n=Aq {n with cmt:=Bb n.aks} ⟨6,n.pmd,0,Bb n.aks,[]⟩:=by unfold Cc;exact db h
  rw[e]
  refine(Ks {n with cmt:=Bb n.aks} ⟨6,n.pmd,0,Bb n.aks,[]⟩ (ah _) hk ho).cal fun q hq=>?_
  subst hq
  exact rfl
 ·have e:Cc n=n:=by unfold Cc;exact da h
  rw[e]
  exact rfl
theorem Z20 {f:RN→Nat→RN}{c:Nat}(h:∀n i,SameR n (f n i)∧(f n i).out.length≤n.out.length+c)(n:RN):∀k,SameR n (Lk f n k)∧(Lk f n k).out.length≤n.out.length+c * k
 | 0=>⟨rfl,af _⟩
 | k+1=>by
  obtain⟨h1,h2⟩:=Z20 h n k
  obtain⟨h3,h4⟩:=h (Lk f n k) k
  rw[Cx,Nat.mul_succ]
  split
  ·exact⟨h1,by omega⟩
  ·exact⟨h1.trans h3,by omega⟩
theorem Fr (n:RN)(m:RM):SameR n (Aq n m)∧(Aq n m).out.length≤n.out.length+n.many.toNat:=by
 have:=Z20 (f:=fun n i=>Ar n i m) (c:=1) (fun n i=>⟨N7 _ _ _,Nat.le_of_eq (Ei _ _ _)⟩) n n.many.toNat
 rw[Nat.one_mul] at this
 exact this
def mkR (j:RJn):Mk:=⟨j.v,j.n⟩
theorem Z6s {l:List RJn}{i:Nat}{j:RJn}(h:l[i]?=some j):((l.take i).map mkR).map Zbm++[Zbm (mkR j)]=((l.take (i+1)).map mkR).map Zbm:=by rw[An h,am,am];rfl
theorem EvSet.zeros {m k:Nat}{y:Int}{F:List G→(List G→Prop)→Prop}{K:List (List G)→Prop}(hk:k < m)(hF:∀q:List G→Prop,q (gI1 y)→F (gI1 0) q)(h:K (((List.replicate m (0:Int)).set k y).map gI1)):EvSet (List.replicate m (gI1 0)) k F K:=by
 rw[show List.replicate m (gI1 0)=(List.replicate m (0:Int)).map gI1 from List.map_replicate.symm]
 exact dm (x:=0) (List.getElem?_replicate_of_lt hk) hF rfl h
theorem Z48 {n:RN}(h:1≤n.jns.length):∃j,0≤Ga (n.jns.map mkR)∧n.jns[(Ga (n.jns.map mkR)).toNat]?=some j∧G8 n=j.l:=by
 obtain⟨p,hp⟩:=U6 (n.jns.map mkR) (n.jns.map mkR).length (by rw[aa];exact h) (af _)
 have hb:=hp.best
 obtain⟨hk,-⟩:=hp
 rw[aa] at hk
 have e:n.jns[p]?=some n.jns[p]:=ab hk
 refine⟨n.jns[p],by rw[hb];omega,by rw[hb,ay];exact e,?_⟩
 have hb:Ga (n.jns.map fun j=>⟨j.v,j.n⟩)=p:=hb
 unfold G8
 rw[hb,ay,e]
 rfl
theorem Z02 (n:RN)(hj:n.jns.length≤100)(hjl:∀j∈n.jns,j.l.length≤1000000)(hk:n.many≤7)(hs:0≤n.self∧n.self < n.many)(ho:n.out.length≤800000):FnV Tryz.prog 112 [.agg (D6 n)] fun g=>g=.agg (D6 (Cf n)):=by
 refine fnG Tryz.func112 ?_
 refine(Sq _).cal fun q hq=>?_
 subst hq
 refine df (fun h1=>?_) fun h1=>?_
 ·have h1:((n.jns.map enJ).length:Int) < Ag n.many:=h1
  rw[aa] at h1
  have e:Cf n=n:=by unfold Cf;exact db h1
  rw[e]
  exact rfl
 have h1:¬((n.jns.map enJ).length:Int) < Ag n.many:=h1
 rw[aa] at h1
 have e:Cf n=Cc (Aq (Ef n (G8 n)) ⟨3,n.pmd,0,0,G8 n⟩):=by unfold Cf;exact da h1
 rw[e]
 have hq1:1≤Ag n.many:=by
  have:=Of (m:=n.many.toNat) (by omega) (by omega)
  rw[show((n.many.toNat:Nat):Int)=n.many by omega] at this
  exact this
 obtain⟨j,b0,hjb,eb⟩:=Z48 (n:=n) (by omega)
 have hlt:(Ga (n.jns.map mkR)).toNat < n.jns.length:=(ac.1 hjb).1
 refine Ap [1,2] [0,1] (fun i:Nat=>[(4,gI i),(3,.osl 2)]) (fun i=>[(2,.slc (((n.jns.take i).map mkR).map Zbm) tMk 2)]) (fun i=>i≤n.jns.length) (fun i=>n.jns.length - i) 0 (ah _) ⟨⟨rfl,rfl⟩,⟨rfl,rfl⟩,trivial⟩ ⟨RL1,trivial⟩ rfl fun i hi=>?_
 refine df (fun h2=>?_) fun h2=>?_
 ·refine dn (by simpa using h2) fun j hj=>?_
  have hlt:=Bl hj
  refine⟨by simp;omega,?_⟩
  refine⟨by omega,i+1,by omega,(by dsimp only;omega),?_⟩
  refine⟨?_,?_,rfl⟩<;>repeat' (first|exact trivial|with_reducible rfl|exact rfl|refine And.intro ?_ ?_)
  exact eqR (Z6s hj)
 rw[aa] at h2
 rw[ao (by omega)]
 refine(Zf (n.jns.map mkR) (by rw[aa];omega)).cal fun q hq=>?_
 subst hq
 refine dl (f:=enJ) b0 hjb ?_
 rw[eb]
 have hl:j.l.length≤1000000:=hjl j (ae hjb)
 obtain⟨jf,jv,jn,L⟩:=j
 dsimp only at hl
 have hm0:0≤n.many∧n.many≤1073741824∧n.many=n.many:=by omega
 refine⟨hm0,?_⟩
 refine⟨⟨hs.1,by rw[List.length_replicate];omega⟩,?_⟩
 refine EvSet.zeros (y:=((L.map enE).length:Nat)) (by omega) (fun q hq=>hq) ?_
 have eK:Ef n L=⟨n.self,n.many,n.pmd,n.pmd,L,min n.cmt ((L.map enE).length:Nat),2,n.jns,(List.replicate n.many.toNat (0:Int)).set n.self.toNat ((L.map enE).length:Nat),((L.map enE).length:Nat),[],n.out⟩:=by unfold Ef A4;rw[aa]
 have c1:=Ks (Ef n L) ⟨3,n.pmd,0,0,L⟩ hl (by show n.many≤100;omega) (by show n.out.length≤900000;omega)
 rw[eK] at c1
 refine c1.cal fun q hq=>?_
 rw[←eK] at hq
 subst hq
 obtain⟨sp1,sp2⟩:=Fr (Ef n L) ⟨3,n.pmd,0,0,L⟩
 generalize Aq (Ef n L) ⟨3,n.pmd,0,0,L⟩=n2 at sp1 sp2
 obtain⟨o,rfl⟩:=sp1.to
 refine(Yu _ (by show((List.replicate n.many.toNat (0:Int)).set n.self.toNat (A4 L)).length≤1000;rw[bf,List.length_replicate];omega) (by show n.many≤100;omega) (by have:(Ef n L).out.length+(Ef n L).many.toNat=n.out.length+n.many.toNat:=rfl;omega)).cal fun q hq=>?_
 subst hq
 exact rfl
theorem Vo:∀{l:List RJn} (r:List RJn) {j:RJn},(∃x∈l,x.frm > j.frm)→L0 (l++r) j=L0 l j++r
 | [],_,_,h=>by obtain⟨x,hx,-⟩:=h;cases hx
 | y::l,r,j,h=>by
  by_cases hy:y.frm > j.frm
  ·rw[c8]
   unfold L0
   rw[db hy,db hy]
   rfl
  ·obtain⟨x,hx,hxx⟩:=h
   rcases bh.1 hx with rfl | hx
   ·exact dc hxx hy
   rw[c8]
   unfold L0
   rw[da hy,da hy,Vo r ⟨x,hx,hxx⟩]
   rfl
theorem Rz:∀{l:List RJn} (r:List RJn) {j:RJn},(¬∃x∈l,x.frm > j.frm)→L0 (l++r) j=l++L0 r j
 | [],_,_,_=>rfl
 | y::l,r,j,h=>by
  have hy:¬y.frm > j.frm:=fun hh=>h ⟨y,by simp,hh⟩
  rw[c8]
  show L0 (y::(l++r)) j=y::(l++L0 r j)
  rw[←Rz r fun⟨x,hx,hh⟩=>h ⟨x,by simp[hx],hh⟩]
  show(if y.frm > j.frm then _ else y::L0 (l++r) j)=_
  rw[da hy]
def bGf:Bool→G
 | false=>.ff
 | true=>.tt
def Z3k (l:List RJn)(j:RJn)(d:Bool):List RJn:=if d=true then L0 l j else l
abbrev tJn:Nat:=164
theorem Z4c (n:RN)(j:RJn)(hj:n.jns.length≤1000):FnV Tryz.prog 136 [.agg (D6 n),.agg (enJ j)] fun g=>g=.agg (D6 (Em n j)):=by
 refine fnG Tryz.func136 ?_
 refine Ap [2,3,4] [0,1,2] (fun x:Nat × Bool=>[(7,gI x.1),(5,.osl 3),(6,bGf x.2)]) (fun x=>[(3,.slc ((Z3k (n.jns.take x.1) j x.2).map enJ) tJn 4)]) (fun x=>x.1≤n.jns.length∧(x.2=true↔∃y∈n.jns.take x.1,y.frm > j.frm)∧(Z3k (n.jns.take x.1) j x.2).length≤x.1+1) (fun x=>n.jns.length - x.1) (0,false) ⟨ah _,by simp,by simp[Z3k]⟩ ⟨⟨rfl,rfl⟩,⟨rfl,rfl⟩,⟨rfl,rfl⟩,trivial⟩ ⟨RL1,trivial⟩ rfl fun⟨i,d⟩ hI=>?_
 obtain⟨hi,hd,hl⟩:=hI
 dsimp only at hi hd hl
 refine df (fun h=>?_) fun h=>?_
 ·cases d
  ·refine dn (by simpa using h) fun x hx=>?_
   have hlt:=Bl hx
   have hno:¬∃y∈n.jns.take i,y.frm > j.frm:=fun hh=>by cases hd.2 hh
   have hl0:(Z3k (n.jns.take i) j false).length=(n.jns.take i).length:=rfl
   rw[au] at hl0
   refine df (fun hg=>?_) fun hg=>?_
   ·have hg:x.frm > j.frm:=hg
    have e1:Z3k (n.jns.take (i+1)) j true=n.jns.take i++[j]++[x]:=by
     show L0 _ _=_
     rw[An hx,Rz _ hno]
     show _++(if x.frm > j.frm then j::[x] else _)=_
     rw[db hg,bw]
     rfl
    refine⟨by simp;omega,?_⟩
    refine dk (f:=enJ) hx ?_
    refine⟨by simp;omega,?_⟩
    refine⟨by omega,(i+1,true),⟨hlt,⟨fun _=>⟨x,by rw[An hx];simp,hg⟩,fun _=>rfl⟩,by rw[e1];simp;omega⟩,(by dsimp only;omega),?_⟩
    refine⟨?_,?_,rfl⟩<;>repeat' (first|exact trivial|with_reducible rfl|exact rfl|refine And.intro ?_ ?_)
    exact eqR (by rw[e1];show(n.jns.take i).map enJ++[enJ j]++[enJ x]=_;rw[am,am];rfl)
   ·have hg:¬x.frm > j.frm:=hg
    refine dk (f:=enJ) hx ?_
    refine⟨by simp;omega,?_⟩
    refine⟨by omega,(i+1,false),⟨hlt,⟨nofun,fun hh=>?_⟩,by show(n.jns.take (i+1)).length≤_;rw[au];omega⟩,(by dsimp only;omega),?_⟩
    ·rw[An hx] at hh
     obtain⟨y,hy,hyy⟩:=hh
     rcases br.1 hy with hy | hy
     ·exact dc ⟨y,hy,hyy⟩ hno
     ·rw[bm.1 hy] at hyy;exact dc hyy hg
    refine⟨?_,?_,rfl⟩<;>repeat' (first|exact trivial|with_reducible rfl|exact rfl|refine And.intro ?_ ?_)
    exact eqR (by show(n.jns.take i).map enJ++[enJ x]=(n.jns.take (i+1)).map enJ;rw[An hx,am];rfl)
  ·refine dn (by simpa using h) fun x hx=>?_
   have hlt:=Bl hx
   have e1:Z3k (n.jns.take (i+1)) j true=Z3k (n.jns.take i) j true++[x]:=by
    show L0 _ _=L0 _ _++[x]
    rw[An hx,Vo _ (hd.1 rfl)]
   refine⟨by rw[aa];simp;omega,?_⟩
   refine⟨by omega,(i+1,true),⟨hlt,⟨fun _=>?_,fun _=>rfl⟩,by rw[e1,aw];simp;omega⟩,(by dsimp only;omega),?_⟩
   ·obtain⟨y,hy,hyy⟩:=hd.1 rfl
    exact⟨y,by rw[An hx];simp[hy],hyy⟩
   refine⟨?_,?_,rfl⟩<;>repeat' (first|exact trivial|with_reducible rfl|exact rfl|refine And.intro ?_ ?_)
   exact eqR (by rw[e1];show(Z3k (n.jns.take i) j true).map enJ++[enJ x]=_;rw[am];rfl)
 ·rw[aa] at h
  rw[ao (by omega)] at hd hl
  cases d
  ·have hno:¬∃y∈n.jns,y.frm > j.frm:=fun hh=>by cases hd.2 hh
   have e1:Em n j={n with jns:=n.jns++[j]}:=by
    have:=Rz (l:=n.jns) [] hno
    rw[cy] at this
    unfold Em
    rw[this]
    rfl
   have hl0:(Z3k n.jns j false).length=n.jns.length:=rfl
   refine⟨by simp only[List.length_map,List.take_of_length_le (show n.jns.length≤i by omega)];simp;omega,?_⟩
   have e2:({n with jns:=n.jns++[j]}:RN).jns.map enJ=(n.jns.take i).map enJ++[enJ j]:=by rw[ao (by omega)];show(n.jns++[j]).map enJ=_;rw[am];rfl
   rw[e1]
   show _=G.agg [gI n.self,gI n.many,gI n.pmd,gI n.normal,.sl (n.log.map enE),gI n.cmt,gI n.phase,.sl (({n with jns:=n.jns++[j]}:RN).jns.map enJ),.sl (n.aks.map gI1),gI n.first,.sl (n.hrd.map gI1),.sl (n.out.map pkG)]
   rw[e2]
   exact rfl
  ·have e1:Em n j={n with jns:=Z3k (n.jns.take i) j true}:=by rw[ao (by omega)];rfl
   rw[e1]
   exact rfl
structure RB (n:RN):Prop where
 many:n.many≤7
 self:0≤n.self∧n.self < n.many
 log:n.log.length≤150
 out:n.out.length≤700000
 hd:n.hrd.length≤900000
 jn:n.phase=1→n.jns.length≤99∧∀j∈n.jns,j.l.length≤150
 ak:n.phase=2→n.aks.length=n.many.toNat∧(∀x∈n.aks,0≤x∧x≤n.log.length)∧0≤n.first∧n.first≤n.log.length
theorem Zda (n:RN)(v:Int)(h:RB n):FnV Tryz.prog 77 [.agg (D6 n),gI v] fun g=>g=.tup [.agg (D6 (D7 n v).1),.v (.bool (D7 n v).2)]:=by
 have hm:=h.many
 have hs:=h.self
 have hl:=h.log
 have ho:=h.out
 refine fnG Tryz.func77 ?_
 refine df (fun h1=>?_) fun h1=>?_
 ·have e:D7 n v=(n,false):=by unfold D7;exact db (.inl h1)
  rw[e]
  exact rfl
 refine(Kc v n.many).cal fun q hq=>?_
 subst hq
 refine di (fun h2=>?_) fun h2=>?_
 ·have h2:A9 v n.many≠n.self:=h2
  have e:D7 n v=(n,false):=by unfold D7;exact db (.inr h2)
  rw[e]
  exact rfl
 have h1:¬v≤n.pmd:=h1
 have h2:A9 v n.many=n.self:=h2
 have e:D7 n v=(Cf (Aq {n with pmd:=v,phase:=1,jns:=[⟨n.self,n.normal,A4 n.log,n.log⟩]} ⟨1,v,0,0,[]⟩),true):=by
  unfold D7
  exact da (fun hh=>hh.elim h1 fun hh=>hh h2)
 rw[e]
 have eK:(⟨n.self,n.many,v,n.normal,n.log,n.cmt,1,[⟨n.self,n.normal,((n.log.map enE).length:Nat),n.log⟩],n.aks,n.first,n.hrd,n.out⟩:RN)={n with pmd:=v,phase:=1,jns:=[⟨n.self,n.normal,A4 n.log,n.log⟩]}:=by unfold A4;rw[aa]
 have c1:=Ks {n with pmd:=v,phase:=1,jns:=[⟨n.self,n.normal,A4 n.log,n.log⟩]} ⟨1,v,0,0,[]⟩ (ah _) (by show n.many≤100;omega) (by show n.out.length≤900000;omega)
 rw[←eK] at c1
 refine c1.cal fun q hq=>?_
 rw[eK] at hq
 subst hq
 obtain⟨sp1,sp2⟩:=Fr {n with pmd:=v,phase:=1,jns:=[⟨n.self,n.normal,A4 n.log,n.log⟩]} ⟨1,v,0,0,[]⟩
 generalize Aq {n with pmd:=v,phase:=1,jns:=[⟨n.self,n.normal,A4 n.log,n.log⟩]} ⟨1,v,0,0,[]⟩=n2 at sp1 sp2
 obtain⟨o,rfl⟩:=sp1.to
 have sp2:o.length≤n.out.length+n.many.toNat:=sp2
 refine(Z02 {n with pmd:=v,phase:=1,jns:=[⟨n.self,n.normal,A4 n.log,n.log⟩],out:=o} (by show 1≤100;decide) (fun j hj=>by rw[bm.1 hj];show n.log.length≤_;omega) hm hs (by show o.length≤_;omega)).cal fun q hq=>?_
 subst hq
 exact rfl
theorem Zam (n:RN)(s:ByteArray)(h:RB n):FnV Tryz.prog 78 [.agg (D6 n),.v (.string s)] fun g=>g=.tup [.agg (D6 (B9 n s).1),.v (.bool (B9 n s).2)]:=by
 have hm:=h.many
 have hs:=h.self
 have hl:=h.log
 have ho:=h.out
 refine fnG Tryz.func78 ?_
 refine di (fun h1=>?_) fun h1=>?_
 ·have h1:n.phase≠2:=h1
  have e:B9 n s=(n,false):=by unfold B9;exact db (.inl h1)
  rw[e]
  exact rfl
 have h1:n.phase=2:=h1
 refine df (fun h2=>?_) fun h2=>?_
 ·have h2:((n.log.map enE).length:Int) ≥ 150:=h2
  rw[aa] at h2
  have e:B9 n s=(n,false):=by unfold B9;exact db (.inr (.inl (by omega)))
  rw[e]
  exact rfl
 have h2:¬((n.log.map enE).length:Int) ≥ 150:=h2
 rw[aa] at h2
 refine df (fun h3=>?_) fun h3=>?_
 ·have h3:(s.size:Int) > 200:=h3
  have e:B9 n s=(n,false):=by unfold B9;exact db (.inr (.inr (by omega)))
  rw[e]
  exact rfl
 have h3:¬(s.size:Int) > 200:=h3
 have e:B9 n s=(Cc (Aq (Bc (My n (Fd n s)) n.self (Fd n s).n) ⟨4,n.pmd,0,(Fd n s).n - 1,[Fd n s]⟩),true):=by
  unfold B9
  exact da (fun hh=>hh.elim (fun hh=>hh h1) fun hh=>hh.elim (fun hh=>by omega) fun hh=>by omega)
 rw[e]
 refine⟨by rw[aa];omega,?_⟩
 have eE:(⟨n.pmd,((n.log.map enE).length:Nat)+1,s⟩:REnt)=Fd n s:=by unfold Fd A4;rw[aa]
 have c1:=Z95 n (Fd n s) (by omega)
 rw[←eE] at c1
 refine c1.cal fun q hq=>?_
 rw[eE] at hq
 subst hq
 obtain⟨ak,-,-,-⟩:=h.ak h1
 have eN:(((n.log.map enE).length:Nat):Int)+1=(Fd n s).n:=by rw[←eE]
 have c2:=Ys (My n (Fd n s)) n.self (Fd n s).n hs.1 (by show n.self < (n.aks.length:Int);omega) (by show n.aks.length≤_;omega)
 rw[←eN] at c2
 refine c2.cal fun q hq=>?_
 rw[eN] at hq
 subst hq
 refine⟨by rw[aa];omega,?_⟩
 have c3:=Ks (Bc (My n (Fd n s)) n.self (Fd n s).n) ⟨4,n.pmd,0,(Fd n s).n - 1,[Fd n s]⟩ (by show 1≤1000000;decide) (by show n.many≤100;omega) (by show n.out.length≤900000;omega)
 have eM:(⟨4,n.pmd,0,(Fd n s).n - 1,[Fd n s]⟩:RM)=⟨4,n.pmd,0,(((n.log.map enE).length:Nat):Int)+1 - 1,[⟨n.pmd,((n.log.map enE).length:Nat)+1,s⟩]⟩:=by rw[eE,eN]
 rw[eM] at c3
 refine c3.cal fun q hq=>?_
 rw[←eM] at hq
 subst hq
 obtain⟨sp1,sp2⟩:=Fr (Bc (My n (Fd n s)) n.self (Fd n s).n) ⟨4,n.pmd,0,(Fd n s).n - 1,[Fd n s]⟩
 generalize Aq (Bc (My n (Fd n s)) n.self (Fd n s).n) ⟨4,n.pmd,0,(Fd n s).n - 1,[Fd n s]⟩=n2 at sp1 sp2
 obtain⟨o,rfl⟩:=sp1.to
 have sp2:o.length≤n.out.length+n.many.toNat:=sp2
 refine(Yu {Bc (My n (Fd n s)) n.self (Fd n s).n with out:=o} (by show(n.aks.set _ _).length≤_;rw[bf];omega) (by show n.many≤100;omega) (by show o.length≤_;omega)).cal fun q hq=>?_
 subst hq
 exact rfl
theorem Z5y {b c:Bool}{A B:Prop}(e:b=c)(h:bif c then A else B):EvIf b A B:=by
 subst e
 cases b
 ·exact⟨nofun,fun _=>h⟩
 ·exact⟨fun _=>h,nofun⟩
theorem Wd (k v x:Int)(l:List REnt)(i:Nat):enM ⟨k,v,0,x,l.drop i⟩=[gI k,gI v,gI 0,gI x,.sl (((l.map enE).take (((l.map enE).length:Nat):Int).toNat).drop i)]:=by
 unfold enM
 rw[ay,List.take_length,List.map_drop]
theorem Z53 (k v x:Int)(l:List REnt)(i:Nat):enM ⟨k,v,0,x,l.take i⟩=[gI k,gI v,gI 0,gI x,.sl (((l.map enE).take i).drop 0)]:=by
 unfold enM
 rw[List.drop_zero,cv]
theorem Zb4 (n:RN)(h:RB n):FnV Tryz.prog 79 [.agg (D6 n)] fun g=>g=.agg (D6 (D8 n)):=by
 have hm:=h.many
 have hs:=h.self
 have hl:=h.log
 have ho:=h.out
 have hjn:=h.jn
 have hak:=h.ak
 have hhd:=h.hd
 refine fnG Tryz.func79 ?_
 refine Ap [1,2] [1] (fun x:Nat × RN=>[(3,gI x.1)]) (fun x=>[(0,.blk (D6 x.2) tRN)]) (fun x=>x.1≤n.many.toNat∧x.2=Lk (fun n i=>En (Ek (Ev (Fb n i) i) i) i) n x.1∧SameR n x.2∧x.2.out.length≤n.out.length+4 * x.1) (fun x=>n.many.toNat - x.1) (0,n) ⟨ah _,rfl,rfl,af _⟩ ⟨⟨rfl,rfl⟩,trivial⟩ ⟨RL1,trivial⟩ rfl fun⟨i,n'⟩ hI=>?_
 obtain⟨hi,hn,hsm,hol⟩:=hI
 dsimp only at hi hn hsm hol
 have hst:=Cx (fun n i=>En (Ek (Ev (Fb n i) i) i) i) n i
 rw[←hn] at hst
 obtain⟨o,ho2⟩:=hsm.to
 refine df (fun hlt=>?_) fun hge=>?_
 ·have hlt:((i:Nat):Int) < n'.many:=hlt
  have hlt2:(i:Int) < n.many:=by rw[ho2] at hlt;exact hlt
  refine de (fun heq=>?_) fun hne=>?_
  ·have heq:(i:Int)=n'.self:=heq
   rw[db heq] at hst
   refine⟨by omega,(i+1,n'),⟨by dsimp only;omega,hst.symm,hsm,by dsimp only;omega⟩,(by dsimp only;omega),?_⟩
   refine⟨?_,?_,rfl⟩<;>repeat' (first|exact trivial|with_reducible rfl|exact rfl|refine And.intro ?_ ?_)
  have hne:(i:Int)≠n'.self:=hne
  rw[da hne] at hst
  clear hn
  subst ho2
  have hol:o.length≤n.out.length+4 * i:=hol
  refine de (fun p1=>?_) fun p1=>?_
  ·have p1:n.phase=1:=p1
   have no2:∀m:RN,m.phase=1→En (Ek (Ev m i) i) i=m:=fun m hm=>by rw[Jb (by omega),Jc (by omega),J9 (by omega)]
   obtain⟨jn,-⟩:=hjn p1
   refine(Z7u {n with out:=o} i (by show n.jns.length≤_;omega)).cal fun q hq=>?_
   subst hq
   refine dj (fun hf=>?_) fun hf=>?_
   ·have hf:(!Jx {n with out:=o} i)=true:=hf
    rw[Bool.not_eq_true'] at hf
    have e1:Fb {n with out:=o} i=Ar {n with out:=o} i ⟨1,n.pmd,0,0,[]⟩:=by unfold Fb;exact db ⟨p1,hf⟩
    rw[e1,no2 (Ar {n with out:=o} i ⟨1,n.pmd,0,0,[]⟩) p1] at hst
    refine(G6 {n with out:=o} i ⟨1,n.pmd,0,0,[]⟩ (ah _) (by show o.length≤_;omega)).cal fun q hq=>?_
    subst hq
    refine de (fun p2=>(by have p2:n.phase=2:=p2;omega)) fun _=>?_
    refine de (fun p2=>(by have p2:n.phase=2:=p2;omega)) fun _=>?_
    refine de (fun p2=>(by have p2:n.phase=2:=p2;omega)) fun _=>?_
    refine⟨by omega,(i+1,Ar {n with out:=o} i ⟨1,n.pmd,0,0,[]⟩),⟨by dsimp only;omega,hst.symm,rfl,by dsimp only;rw[Ei];dsimp only;omega⟩,(by dsimp only;omega),?_⟩
    refine⟨?_,?_,rfl⟩<;>repeat' (first|exact trivial|with_reducible rfl|exact rfl|refine And.intro ?_ ?_)
   ·have hf:(!Jx {n with out:=o} i)=false:=hf
    rw[Bool.not_eq_false'] at hf
    have e1:Fb {n with out:=o} i={n with out:=o}:=by unfold Fb;exact da (fun hh=>by rw[hf] at hh;cases hh.2)
    rw[e1,no2 {n with out:=o} p1] at hst
    refine de (fun p2=>(by have p2:n.phase=2:=p2;omega)) fun _=>?_
    refine de (fun p2=>(by have p2:n.phase=2:=p2;omega)) fun _=>?_
    refine de (fun p2=>(by have p2:n.phase=2:=p2;omega)) fun _=>?_
    refine⟨by omega,(i+1,{n with out:=o}),⟨by dsimp only;omega,hst.symm,rfl,by dsimp only;omega⟩,(by dsimp only;omega),?_⟩
    refine⟨?_,?_,rfl⟩<;>repeat' (first|exact trivial|with_reducible rfl|exact rfl|refine And.intro ?_ ?_)
  have p1:¬n.phase=1:=p1
  rw[O0 (n:={n with out:=o}) p1] at hst
  refine de (fun p2=>?_) fun p2=>?_
  ·have p2:n.phase=2:=p2
   obtain⟨ak,ar,f0,f1⟩:=hak p2
   obtain⟨x,hx⟩:∃x,n.aks[i]?=some x:=⟨_,ab (by omega)⟩
   have hx2:=ar x (ae hx)
   refine(Tf {n with out:=o} i (by show n.hrd.length≤_;omega)).cal fun q hq=>?_
   subst hq
   refine dj (fun hf=>?_) fun hf=>?_
   ·have hf:Dx {n with out:=o} i=true:=hf
    have e2:Ev {n with out:=o} i=Ar {n with out:=o} i ⟨4,n.pmd,0,x,n.log.drop x.toNat⟩:=by unfold Ev;rw[db ⟨p2,hf⟩];show Ar _ _ ⟨4,n.pmd,0,n.aks[i]?.getD 0,n.log.drop (n.aks[i]?.getD 0).toNat⟩=_;rw[hx];rfl
    have e3:Ek (Ar {n with out:=o} i ⟨4,n.pmd,0,x,n.log.drop x.toNat⟩) i=Ar {n with out:=o} i ⟨4,n.pmd,0,x,n.log.drop x.toNat⟩:=by unfold Ek;exact da (fun hh=>by have h3:Dx {n with out:=o} i=false:=hh.2;rw[hf] at h3;cases h3)
    have e4:En (Ar {n with out:=o} i ⟨4,n.pmd,0,x,n.log.drop x.toNat⟩) i=Ar (Ar {n with out:=o} i ⟨4,n.pmd,0,x,n.log.drop x.toNat⟩) i ⟨6,n.pmd,0,n.cmt,[]⟩:=by unfold En;exact db p2
    rw[e2,e3,e4] at hst
    refine dk (f:=gI1) hx ?_
    refine dk (f:=gI1) hx ?_
    refine⟨⟨hx2.1,by show x≤((n.log.map enE).length:Nat);rw[aa];exact hx2.2,bp _⟩,⟨fun r hr=>(Ou _ r hr).1,?_⟩⟩
    have c1:=G6 {n with out:=o} i ⟨4,n.pmd,0,x,n.log.drop x.toNat⟩ (by show(n.log.drop _).length≤_;rw[ba];omega) (by show o.length≤_;omega)
    rw[Wd] at c1
    refine c1.cal fun q hq=>?_
    subst hq
    refine de (fun _=>?_) fun p2'=>dc p2 p2'
    refine(Tf (Ar {n with out:=o} i ⟨4,n.pmd,0,x,n.log.drop x.toNat⟩) i (by show n.hrd.length≤_;omega)).cal fun q hq=>?_
    subst hq
    refine Z5y (c:=false) (by show(!Dx {n with out:=o} i)=false;rw[hf];rfl) ?_
    have ol:(Ar {n with out:=o} i ⟨4,n.pmd,0,x,n.log.drop x.toNat⟩).out.length=o.length+1:=Ei _ _ _
    refine de (fun _=>?_) fun p2'=>dc p2 p2'
    refine(G6 (Ar {n with out:=o} i ⟨4,n.pmd,0,x,n.log.drop x.toNat⟩) i ⟨6,n.pmd,0,n.cmt,[]⟩ (ah _) (by omega)).cal fun q hq=>?_
    subst hq
    have ol2:=Ei (Ar {n with out:=o} i ⟨4,n.pmd,0,x,n.log.drop x.toNat⟩) i ⟨6,n.pmd,0,n.cmt,[]⟩
    refine⟨by omega,(i+1,Ar (Ar {n with out:=o} i ⟨4,n.pmd,0,x,n.log.drop x.toNat⟩) i ⟨6,n.pmd,0,n.cmt,[]⟩),⟨by dsimp only;omega,hst.symm,rfl,by dsimp only;omega⟩,(by dsimp only;omega),?_⟩
    refine⟨?_,?_,rfl⟩<;>repeat' (first|exact trivial|with_reducible rfl|exact rfl|refine And.intro ?_ ?_)
   ·have hf:Dx {n with out:=o} i=false:=hf
    have e2:Ev {n with out:=o} i={n with out:=o}:=by unfold Ev;exact da (fun hh=>by have h3:=hh.2;rw[hf] at h3;cases h3)
    have e3:Ek {n with out:=o} i=Ar {n with out:=o} i ⟨3,n.pmd,0,0,n.log.take n.first.toNat⟩:=by unfold Ek;exact db ⟨p2,hf⟩
    have e4:En (Ar {n with out:=o} i ⟨3,n.pmd,0,0,n.log.take n.first.toNat⟩) i=Ar (Ar {n with out:=o} i ⟨3,n.pmd,0,0,n.log.take n.first.toNat⟩) i ⟨6,n.pmd,0,n.cmt,[]⟩:=by unfold En;exact db p2
    rw[e2,e3,e4] at hst
    refine de (fun _=>?_) fun p2'=>dc p2 p2'
    refine(Tf {n with out:=o} i (by show n.hrd.length≤_;omega)).cal fun q hq=>?_
    subst hq
    refine Z5y (c:=true) (by show(!Dx {n with out:=o} i)=true;rw[hf];rfl) ?_
    refine⟨⟨bp _,f0,by show n.first≤((n.log.map enE).length:Nat);rw[aa];exact f1⟩,⟨fun r hr=>(Ou _ r hr).1,?_⟩⟩
    have c1:=G6 {n with out:=o} i ⟨3,n.pmd,0,0,n.log.take n.first.toNat⟩ (by show(n.log.take _).length≤_;rw[au];omega) (by show o.length≤_;omega)
    rw[Z53] at c1
    refine c1.cal fun q hq=>?_
    subst hq
    have ol:(Ar {n with out:=o} i ⟨3,n.pmd,0,0,n.log.take n.first.toNat⟩).out.length=o.length+1:=Ei _ _ _
    refine de (fun _=>?_) fun p2'=>dc p2 p2'
    refine(G6 (Ar {n with out:=o} i ⟨3,n.pmd,0,0,n.log.take n.first.toNat⟩) i ⟨6,n.pmd,0,n.cmt,[]⟩ (ah _) (by omega)).cal fun q hq=>?_
    subst hq
    have ol2:=Ei (Ar {n with out:=o} i ⟨3,n.pmd,0,0,n.log.take n.first.toNat⟩) i ⟨6,n.pmd,0,n.cmt,[]⟩
    refine⟨by omega,(i+1,Ar (Ar {n with out:=o} i ⟨3,n.pmd,0,0,n.log.take n.first.toNat⟩) i ⟨6,n.pmd,0,n.cmt,[]⟩),⟨by dsimp only;omega,hst.symm,rfl,by dsimp only;omega⟩,(by dsimp only;omega),?_⟩
    refine⟨?_,?_,rfl⟩<;>repeat' (first|exact trivial|with_reducible rfl|exact rfl|refine And.intro ?_ ?_)
  ·have p2:¬n.phase=2:=p2
   rw[Jb (n:={n with out:=o}) p2,Jc (n:={n with out:=o}) p2,J9 (n:={n with out:=o}) p2] at hst
   refine de (fun p2'=>dc p2' p2) fun _=>?_
   refine de (fun p2'=>dc p2' p2) fun _=>?_
   refine⟨by omega,(i+1,{n with out:=o}),⟨by dsimp only;omega,hst.symm,rfl,by dsimp only;omega⟩,(by dsimp only;omega),?_⟩
   refine⟨?_,?_,rfl⟩<;>repeat' (first|exact trivial|with_reducible rfl|exact rfl|refine And.intro ?_ ?_)
 ·have hge:¬((i:Nat):Int) < n'.many:=hge
  have:i=n.many.toNat:=by rw[ho2] at hge;have hge:¬((i:Nat):Int) < n.many:=hge;omega
  subst this
  have e1:D8 n=n':=by unfold D8;rw[hn]
  rw[e1]
  exact rfl
theorem T4 (k v:Int)(l:List REnt):enM ⟨k,v,0,A4 l,[]⟩=[gI k,gI v,gI 0,gI ((l.map enE).length:Nat),.sl []]:=by
 unfold enM A4
 rw[aa]
 rfl
theorem Zg9 (n:RN)(who:Int)(m:RM)(h:RB n):FnV Tryz.prog 109 [.agg (D6 n),gI who,.agg (enM m)] fun g=>g=.agg (D6 (Bu n who m)):=by
 have hl:=h.log
 have ho:=h.out
 refine fnG Tryz.func109 ?_
 refine df (fun h1=>?_) fun h1=>?_
 ·have h1:m.view > n.pmd:=h1
  have e0:Fw n m={n with pmd:=m.view,phase:=0}:=by unfold Fw;exact db h1
  refine de (fun _=>?_) fun hh=>dc rfl hh
  refine df (fun h2=>?_) fun h2=>?_
  ·have h2:m.view > n.normal:=h2
   have e:Bu n who m=Ar {n with pmd:=m.view,phase:=0} who ⟨2,m.view,n.normal,0,n.log⟩:=by
    unfold Bu
    rw[e0]
    exact db ⟨rfl,h2,rfl⟩
   rw[e]
   refine de (fun _=>?_) fun hh=>dc rfl hh
   refine(G6 {n with pmd:=m.view,phase:=0} who ⟨2,m.view,n.normal,0,n.log⟩ (by show n.log.length≤_;omega) (by show n.out.length≤_;omega)).cal fun q hq=>?_
   subst hq
   exact rfl
  ·have h2:¬m.view > n.normal:=h2
   have e:Bu n who m={n with pmd:=m.view,phase:=0}:=by
    unfold Bu
    rw[e0]
    exact da (fun hh=>h2 hh.2.1)
   rw[e]
   exact rfl
 ·have h1:¬m.view > n.pmd:=h1
  have e0:Fw n m=n:=by unfold Fw;exact da h1
  have no:¬(m.view=n.pmd∧m.view > n.normal∧n.phase=0)→Bu n who m=n:=fun hh=>by
   unfold Bu
   rw[e0]
   exact da hh
  refine de (fun h2=>?_) fun h2=>?_
  ·have h2:m.view=n.pmd:=h2
   refine df (fun h3=>?_) fun h3=>?_
   ·have h3:m.view > n.normal:=h3
    refine de (fun h4=>?_) fun h4=>?_
    ·have h4:n.phase=0:=h4
     have e:Bu n who m=Ar n who ⟨2,m.view,n.normal,0,n.log⟩:=by
      unfold Bu
      rw[e0]
      exact db ⟨h2,h3,h4⟩
     rw[e]
     refine(G6 n who ⟨2,m.view,n.normal,0,n.log⟩ (by show n.log.length≤_;omega) (by omega)).cal fun q hq=>?_
     subst hq
     exact rfl
    ·rw[no (fun hh=>h4 hh.2.2)]
     exact rfl
   ·rw[no (fun hh=>h3 hh.2.1)]
    exact rfl
  ·rw[no (fun hh=>h2 hh.1)]
   exact rfl
theorem Zd8 (n:RN)(who:Int)(m:RM)(h:RB n)(hm:m.l.length≤150):FnV Tryz.prog 106 [.agg (D6 n),gI who,.agg (enM m)] fun g=>g=.agg (D6 (Bj n who m)):=by
 have hl:=h.log
 have ho:=h.out
 refine fnG Tryz.func106 ?_
 have no:(n.phase≠1∨n.pmd≠m.view∨Jx n who=true)→Bj n who m=n:=fun hh=>by
  unfold Bj
  exact db hh
 refine di (fun h1=>?_) fun h1=>?_
 ·rw[no (.inl h1)]
  exact rfl
 have h1:n.phase=1:=h1
 obtain⟨j1,j2⟩:=h.jn h1
 refine di (fun h2=>?_) fun h2=>?_
 ·rw[no (.inr (.inl h2))]
  exact rfl
 have h2:n.pmd=m.view:=h2
 refine(Z7u n who (by omega)).cal fun q hq=>?_
 subst hq
 refine dj (fun h3=>?_) fun h3=>?_
 ·rw[no (.inr (.inr h3))]
  exact rfl
 have e:Bj n who m=Cf (Em n ⟨who,m.normal,A4 m.l,m.l⟩):=by
  unfold Bj
  exact da (fun hh=>hh.elim (fun hh=>hh h1) fun hh=>hh.elim (fun hh=>hh h2) fun hh=>by rw[h3] at hh;cases hh)
 rw[e]
 have c1:=Z4c n ⟨who,m.normal,A4 m.l,m.l⟩ (by omega)
 have eE:enJ ⟨who,m.normal,A4 m.l,m.l⟩=[gI who,gI m.normal,gI ((m.l.map enE).length:Nat),.sl (m.l.map enE)]:=by unfold enJ A4;rw[aa]
 rw[eE] at c1
 refine c1.cal fun q hq=>?_
 subst hq
 have k1:∀(l:List RJn) (j:RJn),(L0 l j).length=l.length+1∧∀x∈L0 l j,x=j∨x∈l:=by
  intro l j
  induction l with
  | nil=>exact⟨rfl,fun x hx=>.inl (bm.1 hx)⟩
  | cons y l ih =>
   unfold L0
   split
   ·exact⟨rfl,fun x hx=>by rcases bh.1 hx with rfl | hx;exact .inl rfl;exact .inr hx⟩
   ·refine⟨by rw[bc,ih.1];rfl,fun x hx=>?_⟩
    rcases bh.1 hx with rfl | hx
    ·exact .inr (by simp)
    ·exact(ih.2 x hx).elim .inl fun hh=>.inr (by simp[hh])
 obtain⟨k2,k3⟩:=k1 n.jns ⟨who,m.normal,A4 m.l,m.l⟩
 refine(Z02 (Em n ⟨who,m.normal,A4 m.l,m.l⟩) (by show(L0 n.jns _).length≤_;rw[k2];omega) (fun x hx=>by
  rcases k3 x hx with rfl | hx
  ·show m.l.length≤_;omega
  ·have:=j2 x hx;omega) h.many h.self (by show n.out.length≤_;omega)).cal fun q hq=>?_
 subst hq
 exact rfl
theorem Zb2 (n:RN)(who:Int)(m:RM)(h:RB n):FnV Tryz.prog 110 [.agg (D6 n),gI who,.agg (enM m)] fun g=>g=.agg (D6 (B2 n who m)):=by
 have hl:=h.log
 have ho:=h.out
 refine fnG Tryz.func110 ?_
 have yes:m.view ≥ n.pmd∧m.view > n.normal→B2 n who m=Ar {n with pmd:=m.view,normal:=m.view,log:=m.l,cmt:=min n.cmt (A4 m.l),phase:=0} who ⟨5,m.view,0,A4 m.l,[]⟩:=fun hh=>by
  have e0:Ce n m={n with pmd:=m.view,normal:=m.view,log:=m.l,cmt:=min n.cmt (A4 m.l),phase:=0}:=by unfold Ce;exact db hh
  unfold B2
  rw[e0]
  exact db ⟨rfl,rfl⟩
 have no0:¬(m.view ≥ n.pmd∧m.view > n.normal)→Ce n m=n:=fun hh=>by unfold Ce;exact da hh
 have no1:¬(m.view ≥ n.pmd∧m.view > n.normal)→¬(m.view=n.pmd∧m.view=n.normal)→B2 n who m=n:=fun h1 h2=>by
  unfold B2
  rw[no0 h1]
  exact da h2
 have no2:¬(m.view ≥ n.pmd∧m.view > n.normal)→(m.view=n.pmd∧m.view=n.normal)→B2 n who m=Ar n who ⟨5,m.view,0,A4 n.log,[]⟩:=fun h1 h2=>by
  unfold B2
  rw[no0 h1]
  exact db h2
 refine df (fun h1=>?_) fun h1=>?_
 ·have h1:m.view ≥ n.pmd:=h1
  refine df (fun h2=>?_) fun h2=>?_
  ·have h2:m.view > n.normal:=h2
   rw[yes ⟨h1,h2⟩]
   refine de (fun _=>?_) fun hh=>dc rfl hh
   refine de (fun _=>?_) fun hh=>dc rfl hh
   have eL:A4 m.l=((m.l.map enE).length:Nat):=by unfold A4;rw[aa]
   have c1:=G6 {n with pmd:=m.view,normal:=m.view,log:=m.l,cmt:=min n.cmt (A4 m.l),phase:=0} who ⟨5,m.view,0,A4 m.l,[]⟩ (ah _) (by show n.out.length≤_;omega)
   have eK:({n with pmd:=m.view,normal:=m.view,log:=m.l,cmt:=min n.cmt ((m.l.map enE).length:Nat),phase:=0}:RN)={n with pmd:=m.view,normal:=m.view,log:=m.l,cmt:=min n.cmt (A4 m.l),phase:=0}:=by rw[eL]
   rw[T4,←eK] at c1
   refine c1.cal fun q hq=>?_
   rw[eK] at hq
   subst hq
   exact rfl
  ·have h2:¬m.view > n.normal:=h2
   refine de (fun h3=>?_) fun h3=>?_
   ·refine de (fun h4=>?_) fun h4=>?_
    ·rw[no2 (fun hh=>h2 hh.2) ⟨h3,h4⟩]
     have c1:=G6 n who ⟨5,m.view,0,A4 n.log,[]⟩ (ah _) (by omega)
     rw[T4] at c1
     refine c1.cal fun q hq=>?_
     subst hq
     exact rfl
    ·rw[no1 (fun hh=>h2 hh.2) fun hh=>h4 hh.2]
     exact rfl
   ·rw[no1 (fun hh=>h2 hh.2) fun hh=>h3 hh.1]
    exact rfl
 ·have h1:¬m.view ≥ n.pmd:=h1
  refine de (fun h3=>?_) fun h3=>?_
  ·have h3:m.view=n.pmd:=h3
   omega
  ·rw[no1 (fun hh=>h1 hh.1) fun hh=>h3 hh.1]
   exact rfl
theorem Z0w {l:List REnt}{x:REnt}(h:l[l.length - 1]?=some x):vw 0 l=x.v:=by
 unfold vw
 rw[List.getLast?_eq_getElem?,h]
 rfl
theorem Zgz (n:RN)(who:Int)(m:RM)(h:RB n)(hm:m.l.length≤150):FnV Tryz.prog 111 [.agg (D6 n),gI who,.agg (enM m)] fun g=>g=.agg (D6 (Cl n who m)):=by
 have hl:=h.log
 have ho:=h.out
 refine fnG Tryz.func111 ?_
 have no:(n.pmd≠m.view∨n.normal≠m.view∨n.phase≠0)→Cl n who m=n:=fun hh=>by unfold Cl;exact db hh
 refine di (fun h1=>?_) fun h1=>?_
 ·rw[no (.inl h1)]
  exact rfl
 refine di (fun h2=>?_) fun h2=>?_
 ·rw[no (.inr (.inl h2))]
  exact rfl
 refine di (fun h3=>?_) fun h3=>?_
 ·rw[no (.inr (.inr h3))]
  exact rfl
 have h1:n.pmd=m.view:=h1
 have h2:n.normal=m.view:=h2
 have h3:n.phase=0:=h3
 have e:Cl n who m=Ar (Du m.l n) who ⟨5,m.view,0,A4 (Du m.l n).log,[]⟩:=by
  unfold Cl
  exact da (fun hh=>hh.elim (fun hh=>hh h1) fun hh=>hh.elim (fun hh=>hh h2) fun hh=>hh h3)
 rw[e]
 clear no e
 refine Ap [1,3,5,6] [1,2] (fun x:Nat × List REnt=>[(7,gI x.1)]) (fun x=>[(0,.blk (D6 {n with log:=x.2}) tRN)]) (fun x=>x.1≤m.l.length∧Du (m.l.drop x.1) {n with log:=x.2}=Du m.l n∧x.2.length≤150+x.1) (fun x=>m.l.length - x.1) (0,n.log) ⟨ah _,rfl,hl⟩ ⟨⟨rfl,rfl⟩,trivial⟩ ⟨RL1,trivial⟩ rfl fun⟨i,L⟩ hI=>?_
 obtain⟨hi,hp,hL⟩:=hI
 dsimp only at hi hp hL
 have fin:Du m.l n={n with log:=L}→FnV Tryz.prog 118 [.agg (D6 {n with log:=L}),gI who,.agg [gI 5,gI m.view,gI 0,gI ((L.map enE).length:Nat),.sl []]] fun g=>g=.agg (D6 (Ar (Du m.l n) who ⟨5,m.view,0,A4 (Du m.l n).log,[]⟩)):=fun hh=>by
  have c1:=G6 {n with log:=L} who ⟨5,m.view,0,A4 L,[]⟩ (ah _) (by show n.out.length≤_;omega)
  rw[T4] at c1
  rw[hh]
  exact c1
 refine df (fun h4=>?_) fun h4=>?_
 ·refine dn (by simpa using h4) fun x hx=>?_
  have hlt:=Bl hx
  have ed:m.l.drop i=x::m.l.drop (i+1):=by
   rw[List.drop_eq_getElem_cons hlt]
   rw[ab hlt] at hx
   rw[cg hx]
  rw[ed] at hp
  have hp:(if x.n > ((L.length:Nat):Int)+1 then({n with log:=L}:RN) else if x.n=((L.length:Nat):Int)+1∧(L.length=0∨x.v ≥ vw 0 L) then Du (m.l.drop (i+1)) (My {n with log:=L} x) else Du (m.l.drop (i+1)) {n with log:=L})=Du m.l n:=hp
  refine⟨by rw[aa];show(-9223372036854775808:Int)≤((L.length:Nat):Int)+1∧((L.length:Nat):Int)+1≤9223372036854775807;omega,?_⟩
  refine df (fun h5=>?_) fun h5=>?_
  ·have h5:x.n≤((L.map enE).length:Nat)+1:=h5
   rw[aa] at h5
   rw[da (show ¬x.n > ((L.length:Nat):Int)+1 by omega)] at hp
   refine dk (f:=enE) hx ?_
   refine⟨by rw[aa];show(-9223372036854775808:Int)≤((L.length:Nat):Int)+1∧((L.length:Nat):Int)+1≤9223372036854775807;omega,?_⟩
   refine de (fun h6=>?_) fun h6=>?_
   ·have h6:x.n=((L.map enE).length:Nat)+1:=h6
    rw[aa] at h6
    refine de (fun h7=>?_) fun h7=>?_
    ·have h7:(((L.map enE).length:Nat):Int)=0:=h7
     rw[aa] at h7
     rw[db ⟨h6,.inl (by omega)⟩] at hp
     refine dk (f:=enE) hx ?_
     refine(Z95 {n with log:=L} x (by show L.length≤_;omega)).cal fun q hq=>?_
     subst hq
     refine⟨by omega,(i+1,L++[x]),⟨hlt,hp,by dsimp only;rw[aw,List.length_singleton];omega⟩,(by dsimp only;omega),?_⟩
     refine⟨?_,?_,rfl⟩<;>repeat' (first|exact trivial|with_reducible rfl|exact rfl|refine And.intro ?_ ?_)
    ·have h7:¬(((L.map enE).length:Nat):Int)=0:=h7
     rw[aa] at h7
     refine dk (f:=enE) hx ?_
     obtain⟨y,hy⟩:∃y,L[L.length - 1]?=some y:=⟨_,ab (by omega)⟩
     have hy2:L[((((L.map enE).length:Nat):Int) - 1).toNat]?=some y:=by rw[aa,show(((L.length:Nat):Int) - 1).toNat=L.length - 1 by omega];exact hy
     refine⟨by rw[aa];show(-9223372036854775808:Int)≤((L.length:Nat):Int) - 1∧((L.length:Nat):Int) - 1≤9223372036854775807;omega,?_⟩
     refine dl (f:=enE) (by rw[aa];show 0≤((L.length:Nat):Int) - 1;omega) hy2 ?_
     refine df (fun h8=>?_) fun h8=>?_
     ·have h8:x.v ≥ y.v:=h8
      rw[db ⟨h6,.inr (by rw[Z0w hy];exact h8)⟩] at hp
      refine dk (f:=enE) hx ?_
      refine(Z95 {n with log:=L} x (by show L.length≤_;omega)).cal fun q hq=>?_
      subst hq
      refine⟨by omega,(i+1,L++[x]),⟨hlt,hp,by dsimp only;rw[aw,List.length_singleton];omega⟩,(by dsimp only;omega),?_⟩
      refine⟨?_,?_,rfl⟩<;>repeat' (first|exact trivial|with_reducible rfl|exact rfl|refine And.intro ?_ ?_)
     ·have h8:¬x.v ≥ y.v:=h8
      rw[da (fun hh=>hh.2.elim (fun hh=>h7 (by omega)) fun hh=>h8 (by rw[Z0w hy] at hh;exact hh))] at hp
      refine⟨by omega,(i+1,L),⟨hlt,hp,by dsimp only;omega⟩,(by dsimp only;omega),?_⟩
      refine⟨?_,?_,rfl⟩<;>repeat' (first|exact trivial|with_reducible rfl|exact rfl|refine And.intro ?_ ?_)
   ·have h6:¬x.n=((L.map enE).length:Nat)+1:=h6
    rw[aa] at h6
    rw[da (fun hh=>h6 hh.1)] at hp
    refine⟨by omega,(i+1,L),⟨hlt,hp,by dsimp only;omega⟩,(by dsimp only;omega),?_⟩
    refine⟨?_,?_,rfl⟩<;>repeat' (first|exact trivial|with_reducible rfl|exact rfl|refine And.intro ?_ ?_)
  ·have h5:¬x.n≤((L.map enE).length:Nat)+1:=h5
   rw[aa] at h5
   rw[db (show x.n > ((L.length:Nat):Int)+1 by omega)] at hp
   refine(fin hp.symm).cal fun q hq=>?_
   subst hq
   exact rfl
 ·rw[aa] at h4
  rw[c7 (by omega)] at hp
  refine(fin hp.symm).cal fun q hq=>?_
  subst hq
  exact rfl
theorem W2 (n:RN):∃c o,Cc n={n with cmt:=c,out:=o}∧o.length≤n.out.length+n.many.toNat:=by
 unfold Cc
 split
 ·obtain⟨h1,h2⟩:=Fr {n with cmt:=Bb n.aks} ⟨6,n.pmd,0,Bb n.aks,[]⟩
  obtain⟨o,ho⟩:=h1.to
  rw[ho] at h2
  exact⟨Bb n.aks,o,ho,h2⟩
 ·exact⟨n.cmt,n.out,rfl,by omega⟩
theorem Zhl (n:RN)(who:Nat)(m:RM)(h:RB n)(hw:(who:Int) < n.many)(hm:0≤m.num):FnV Tryz.prog 107 [.agg (D6 n),gI who,.agg (enM m)] fun g=>g=.agg (D6 (By n who m)):=by
 have hl:=h.log
 have ho:=h.out
 have hh:=h.hd
 have hk:=h.many
 refine fnG Tryz.func107 ?_
 have no:(n.phase≠2∨n.pmd≠m.view∨m.num > n.log.length)→By n who m=n:=fun hh=>by unfold By;exact db hh
 refine di (fun h1=>?_) fun h1=>?_
 ·rw[no (.inl h1)]
  exact rfl
 refine di (fun h2=>?_) fun h2=>?_
 ·rw[no (.inr (.inl h2))]
  exact rfl
 refine df (fun h3=>?_) fun h3=>?_
 ·have h3:m.num > ((n.log.map enE).length:Nat):=h3
  rw[aa] at h3
  rw[no (.inr (.inr h3))]
  exact rfl
 have h1:n.phase=2:=h1
 have h2:n.pmd=m.view:=h2
 have h3:¬m.num > ((n.log.map enE).length:Nat):=h3
 rw[aa] at h3
 obtain⟨ak,-,-,-⟩:=h.ak h1
 have e:By n who m=if m.num < (Gz n who m).log.length then Ar (Gz n who m) who ⟨4,(Gz n who m).pmd,0,m.num,(Gz n who m).log.drop m.num.toNat⟩ else Gz n who m:=by
  unfold By
  exact da (fun hh=>hh.elim (fun hh=>hh h1) fun hh=>hh.elim (fun hh=>hh h2) fun hh=>h3 hh)
 clear no
 refine⟨Vc _,?_⟩
 refine⟨by simp;omega,?_⟩
 refine⟨by simp;omega,?_⟩
 have eH:D6 {n with hrd:=n.hrd++[(who:Int)]}=[gI n.self,gI n.many,gI n.pmd,gI n.normal,.sl (n.log.map enE),gI n.cmt,gI n.phase,.sl (n.jns.map enJ),.sl (n.aks.map gI1),gI n.first,.sl ([]++n.hrd.map gI1++[gI1 who]),.sl (n.out.map pkG)]:=by unfold D6;rw[am,cx];rfl
 have c1:=Ys {n with hrd:=n.hrd++[(who:Int)]} who m.num (by omega) (by show(who:Int) < (n.aks.length:Nat);omega) (by show n.aks.length≤_;omega)
 rw[eH] at c1
 refine c1.cal fun q hq=>?_
 subst hq
 refine(Yu (Bc {n with hrd:=n.hrd++[(who:Int)]} who m.num) (by show(n.aks.set _ _).length≤_;rw[bf];omega) (by show n.many≤100;omega) (by show n.out.length≤_;omega)).cal fun q hq=>?_
 subst hq
 obtain⟨c,o,e0,eo⟩:=W2 (Bc {n with hrd:=n.hrd++[(who:Int)]} who m.num)
 have e0:Gz n who m={Bc {n with hrd:=n.hrd++[(who:Int)]} who m.num with cmt:=c,out:=o}:=e0
 have eo:o.length≤n.out.length+n.many.toNat:=eo
 rw[e0] at e
 have e:By n who m=if m.num < ((n.log.length:Nat):Int) then Ar {Bc {n with hrd:=n.hrd++[(who:Int)]} who m.num with cmt:=c,out:=o} who ⟨4,n.pmd,0,m.num,n.log.drop m.num.toNat⟩ else {Bc {n with hrd:=n.hrd++[(who:Int)]} who m.num with cmt:=c,out:=o}:=e
 have e0':Cc (Bc {n with hrd:=n.hrd++[(who:Int)]} who m.num)={Bc {n with hrd:=n.hrd++[(who:Int)]} who m.num with cmt:=c,out:=o}:=e0
 rw[e0']
 refine df (fun h4=>?_) fun h4=>?_
 ·have h4:m.num < ((n.log.map enE).length:Nat):=h4
  rw[aa] at h4
  rw[db h4] at e
  rw[e]
  refine⟨⟨hm,by show m.num≤((n.log.map enE).length:Nat);rw[aa];omega,bp _⟩,⟨fun r hr=>(Ou _ r hr).1,?_⟩⟩
  have c1:=G6 {Bc {n with hrd:=n.hrd++[(who:Int)]} who m.num with cmt:=c,out:=o} who ⟨4,n.pmd,0,m.num,n.log.drop m.num.toNat⟩ (by show(n.log.drop _).length≤_;rw[ba];omega) (by show o.length≤_;omega)
  rw[Wd] at c1
  refine c1.cal fun q hq=>?_
  subst hq
  exact rfl
 ·have h4:¬m.num < ((n.log.map enE).length:Nat):=h4
  rw[aa] at h4
  rw[da h4] at e
  rw[e]
  exact rfl
theorem Zff (n:RN):FnV Tryz.prog 38 [.agg (D6 n)] fun g=>g=.tup [.agg (D6 {n with out:=[]}),.sl (n.out.map pkG)]:=by
 refine fnG Tryz.func38 ?_
 exact rfl
theorem Z3g (n:RN):FnV Tryz.prog 36 [.agg (D6 n)] fun g=>g=.agg (D6 (F3 n)):=by
 refine fnG Tryz.func36 ?_
 exact rfl
theorem Zdk (n:RN)(p:RPk)(h:RB n)(hp:p.body.size≤2000000):FnV Tryz.prog 74 [.agg (D6 n),.agg (pkG p)] fun g=>g=.agg (D6 (Dk n p)):=by
 obtain⟨frm,to,body⟩:=p
 have hp:body.size≤2000000:=hp
 have hk:=h.many
 refine fnG Tryz.func74 ?_
 refine(Z32 body hp).cal fun q hq=>?_
 subst hq
 unfold rdM
 have no:(¬Jd body.data.toList∨to≠n.self∨frm=n.self∨frm < 0∨frm ≥ n.many)→Dk n ⟨frm,to,body⟩=n:=fun hh=>by unfold Dk;exact db hh
 refine di (fun he=>?_) fun he=>?_
 ·rw[no (.inl (fun ho=>he (db ho)))]
  exact rfl
 have hok:Jd body.data.toList:=bx fun ho=>by
  have he:eMd body.data.toList=0:=he
  unfold eMd at he
  rw[da ho] at he
  cases he
 refine di (fun h1=>?_) fun h1=>?_
 ·rw[no (.inr (.inl h1))]
  exact rfl
 have h1:to=n.self:=h1
 refine de (fun h2=>?_) fun h2=>?_
 ·rw[no (.inr (.inr (.inl h2)))]
  exact rfl
 have h2:frm≠n.self:=h2
 refine df (fun h3=>?_) fun h3=>?_
 ·rw[no (.inr (.inr (.inr (.inl h3))))]
  exact rfl
 have h3:¬frm < 0:=h3
 refine df (fun h4=>?_) fun h4=>?_
 ·rw[no (.inr (.inr (.inr (.inr h4))))]
  exact rfl
 have h4:¬frm ≥ n.many:=h4
 have hno:¬(¬Jd body.data.toList∨to≠n.self∨frm=n.self∨frm < 0∨frm ≥ n.many):=fun hh=>hh.elim (fun hh=>hh hok) fun hh=>hh.elim (fun hh=>hh h1) fun hh=>hh.elim h2 fun hh=>hh.elim h3 h4
 clear no
 obtain⟨w1,w2,hml,-⟩:=Aw (Rp hok)
 obtain⟨f,rfl⟩:∃f:Nat,frm=f:=⟨frm.toNat,by omega⟩
 have e0:Dk n ⟨f,to,body⟩=if(mD body.data.toList).kind=2 then Bj n f (mD body.data.toList) else if(mD body.data.toList).kind=5 then By n f (mD body.data.toList) else if A9 (mD body.data.toList).view n.many≠f then n else if(mD body.data.toList).kind=1 then Bu n f (mD body.data.toList) else if(mD body.data.toList).kind=3 then B2 n f (mD body.data.toList) else if(mD body.data.toList).kind=4 then Cl n f (mD body.data.toList) else if n.pmd=(mD body.data.toList).view∧n.normal=(mD body.data.toList).view∧n.phase=0 then {n with cmt:=max n.cmt (min (mD body.data.toList).num (A4 n.log))} else n:=by unfold Dk;exact da hno
 clear hno he
 generalize mD body.data.toList=m at *
 refine de (fun h5=>?_) fun h5=>?_
 ·have h5:m.kind=2:=h5
  rw[e0,db h5]
  refine(Zd8 n f m h hml).cal fun q hq=>?_
  subst hq
  exact rfl
 have h5:¬m.kind=2:=h5
 rw[da h5] at e0
 refine de (fun h6=>?_) fun h6=>?_
 ·have h6:m.kind=5:=h6
  rw[e0,db h6]
  refine(Zhl n f m h (by omega) (by omega)).cal fun q hq=>?_
  subst hq
  exact rfl
 have h6:¬m.kind=5:=h6
 rw[da h6] at e0
 refine(Kc m.view n.many).cal fun q hq=>?_
 subst hq
 refine di (fun h7=>?_) fun h7=>?_
 ·have h7:A9 m.view n.many≠f:=h7
  rw[e0,db h7]
  exact rfl
 have h7:A9 m.view n.many=f:=h7
 rw[da (fun hh=>hh h7)] at e0
 refine de (fun h8=>?_) fun h8=>?_
 ·have h8:m.kind=1:=h8
  rw[e0,db h8]
  refine(Zg9 n f m h).cal fun q hq=>?_
  subst hq
  exact rfl
 have h8:¬m.kind=1:=h8
 rw[da h8] at e0
 refine de (fun h9=>?_) fun h9=>?_
 ·have h9:m.kind=3:=h9
  rw[e0,db h9]
  refine(Zb2 n f m h).cal fun q hq=>?_
  subst hq
  exact rfl
 have h9:¬m.kind=3:=h9
 rw[da h9] at e0
 refine de (fun h10=>?_) fun h10=>?_
 ·have h10:m.kind=4:=h10
  rw[e0,db h10]
  refine(Zgz n f m h hml).cal fun q hq=>?_
  subst hq
  exact rfl
 have h10:¬m.kind=4:=h10
 rw[da h10] at e0
 refine de (fun h11=>?_) fun h11=>?_
 ·have h11:n.pmd=m.view:=h11
  refine de (fun h12=>?_) fun h12=>?_
  ·have h12:n.normal=m.view:=h12
   refine de (fun h13=>?_) fun h13=>?_
   ·have h13:n.phase=0:=h13
    have eL:A4 n.log=((n.log.map enE).length:Nat):=by unfold A4;rw[aa]
    rw[db ⟨h11,h12,h13⟩,eL] at e0
    rw[e0]
    exact rfl
   ·rw[e0,da (fun hh=>h13 hh.2.2)]
    exact rfl
  ·rw[e0,da (fun hh=>h12 hh.2.1)]
   exact rfl
 ·rw[e0,da (fun hh=>h11 hh.1)]
  exact rfl
end Go.Proofs.YtihfaocdpmmooaaGreat


import Derived.Test.YtihfaocdpmmooaaGreatSxMc
import Derived.Test.YtihfaocdpmmooaaGreatGM5
import Derived.Test.YtihfaocdpmmooaaGreatGM4
import Derived.Test.YtihfaocdpmmooaaGreatGM3
namespace Go.Proofs.YtihfaocdpmmooaaGreat
open Go.RowKit
def Zk8:List Sp:=[.i .i64,.i .i64,.i .i64,.s,.i .i64,.i .i64,.s]
theorem Zk5 {r:List G}(h:TyL Zk8 r):∃s:GSt,r=Z8q s∧s.p.body.size≤Eu r:=by obtain⟨d,r,rfl,-,h⟩:=h.i_inv;obtain⟨a1,r,rfl,-,h⟩:=h.i_inv;obtain⟨a2,r,rfl,-,h⟩:=h.i_inv;obtain⟨e,r,rfl,-,h⟩:=h.s_inv;obtain⟨c,r,rfl,-,h⟩:=h.i_inv;obtain⟨b,r,rfl,-,h⟩:=h.i_inv;obtain⟨a,r,rfl,-,h⟩:=h.s_inv;obtain rfl:=h.nil_inv;exact⟨⟨d,a1,a2,e,⟨c,b,a⟩⟩,rfl,by simp only[Eu,Nq];omega⟩
theorem Wy {r:List G}:∀{rows:List (List G)},r∈rows→Eu r≤L3 rows
 | [],h=>by cases h
 | q::rows,h=>by
  simp only[L3];rcases bi.1 h with rfl | h
  ·omega
  ·have:=Wy h;omega
theorem Z8v {g:G}(h:TyL [.sl Zk8] [g])(d:Nq g≤1048576):∃l:List GSt,g=.sl (l.map Z8q)∧∀s∈l,s.p.body.size≤2000000:=by
 obtain⟨rows,r,e,-,hr,h⟩:=h.sl_inv;obtain rfl:=h.nil_inv;have e:g=.sl rows:=by simpa using e
 subst e;obtain⟨l,rfl,i⟩:=Z1l (f:=Z8q) (Q:=fun s=>s.p.body.size≤Eu (Z8q s)) fun r a=>by obtain⟨s,rfl,b⟩:=Zk5 (hr r a);exact⟨s,rfl,b⟩
 refine⟨l,rfl,fun s c=>?_⟩;have b:=i s c;have j:=Wy (ba.2 ⟨s,c,rfl⟩:Z8q s∈l.map Z8q);simp only[Nq] at d;omega
set_option maxRecDepth 100000
abbrev Zj1 (n:PN):List G:=[gI 0,gI 0,gI n.pmd,gI n.normal,.sl (n.log.map enE),gI n.cmt,gI (if n.lds=true then 1 else 0),.nl,.nl,gI 0,.nl,.nl]
theorem Z1v (l:List GM)(i:Nat)(x:GM)(c:l[i]?=some x)(f:x.n.log.length≤1000000):FnO Tryz.prog 31 [.v (.pointer (some ⟨x.b,0,none⟩))] [.fam (l.map mOb)] fun g rs=>g=.oag (Zj1 x.n)∧rs=[.fam (l.map mOb)]:=by
 have d:=(ac.1 c).1;obtain⟨s,n,b,e,r⟩:=x;dsimp only at f⊢;refine Bq Tryz.func31 (Ci _ _) ?_;refine dh (.take 0 i _ _ rfl (Eg c) (.lies 2 b _ rfl (G0 ⟨s,n,b,e,r⟩) (.done (.raw 3 2 rfl (.same ((Z4v s n b e).cal fun q rs a=>?_))))));obtain⟨rfl,rfl⟩:=a;refine .done ?_;refine dh (.done (.raw 3 2 rfl (.same ((Z75 s n b e).cal fun q rs a=>?_))));obtain⟨rfl,rfl⟩:=a;refine .done ?_;refine dh (.done (.raw 3 2 rfl (.same ((Zjm s n b e f).cal fun q rs a=>?_))));obtain⟨rfl,rfl⟩:=a;refine .frz 4 _ _ _ rfl (.done ?_);refine dh (.done (.raw 3 2 rfl (.same ((Zcw s n b e).cal fun q rs a=>?_))));obtain⟨rfl,rfl⟩:=a;refine .put 0 i 2 _ _ rfl (by rw[bh,aa];exact d) rfl (.drop 3 _ rfl (.done ?_));refine dk (fun h=>?_) fun h=>?_
 ·refine .inl ⟨[⟨[(0,.fam (((l.map mOb).set i T5).set i (cl (oSs s n b e))))],[(0,0)],false⟩],.oag [gI 0,gI 0,gI n.pmd,gI n.normal,.sl (n.log.map enE),gI n.cmt,gI 1,.nl,.nl,gI 0,.nl,.nl],⟨⟨⟨_,rfl,rfl,rfl⟩,trivial⟩,rfl,⟨[],rfl⟩,rfl,rfl,⟨by unfold Zj1;rw[dc h],?_⟩⟩⟩;exact congrArg (fun q=>[R.fam q]) (Fl c)
 ·refine .inl ⟨[⟨[(0,.fam (((l.map mOb).set i T5).set i (cl (oSs s n b e))))],[(0,0)],false⟩],.oag [gI 0,gI 0,gI n.pmd,gI n.normal,.sl (n.log.map enE),gI n.cmt,gI 0,.nl,.nl,gI 0,.nl,.nl],⟨⟨⟨_,rfl,rfl,rfl⟩,trivial⟩,rfl,⟨[],rfl⟩,rfl,rfl,⟨by unfold Zj1;rw[db (by rw[h];decide)],?_⟩⟩⟩;exact congrArg (fun q=>[R.fam q]) (Fl c)
abbrev Zko (n:PN):List G:=[gI 0,gI 0,gI n.pmd,gI n.normal,.sl (n.log.map enE),gI n.cmt,gI (if n.lds=true then 1 else 0),.sl [],.sl [],gI 0,.sl [],.sl []]
def InS (S l:List REnt):Prop:=∀e∈l,e∈S
def CP (S:List REnt)(p:RPk):Prop:=∃m:RM,okM m=true∧p.body=⟨(bM m).toArray⟩∧InS S m.l
structure CN (S:List REnt)(n:PN):Prop where
 log:InS S n.log
 jn:∀i,InS S (n.jns i).l
 out:∀p∈n.out,CP S p
theorem CP.mono {S T:List REnt}{p:RPk}(h:CP S p)(c:∀e∈S,e∈T):CP T p:=by obtain⟨m,a,d,b⟩:=h;exact⟨m,a,d,fun e f=>c e (b e f)⟩
theorem CN.mono {S T:List REnt}{n:PN}(h:CN S n)(a:∀e∈S,e∈T):CN T n:=⟨fun e b=>a e (h.log e b),fun i e b=>a e (h.jn i e b),fun p c=>(h.out p c).mono a⟩
theorem InS.nil (S:List REnt):InS S []:=fun _ h=>by cases h
section
variable {S:List REnt} {n:PN}
theorem CN.send (h:CN S n){m:RM}(b:InS S m.l)(to:Nat):CN S (Ao n to m):=by
 unfold Ao;split
 ·next c =>
  refine⟨h.log,h.jn,fun p a=>?_⟩;rcases bu.1 a with a | a
  ·exact h.out p a
  ·rw[bo.1 a];exact⟨m,c,rfl,b⟩
 ·exact h
theorem CN.oth {f:PN→Nat→PN}(hf:∀n i,CN S n→CN S (f n i))(h:CN S n)(k:Nat):CN S (I8 f n k):=by
 induction k with
 | zero=>exact h
 | succ k ih =>
  rw[Di];split
  ·exact ih
  ·exact hf _ _ ih
theorem CN.spread (h:CN S n){m:RM}(a:InS S m.l):CN S (An n m):=h.oth (fun _ i h=>h.send a i) _
theorem CN.did (h:CN S n)(e:Int):CN S (D8 n e):=by
 unfold D8;split
 ·exact⟨h.log,h.jn,fun p a=>by cases a⟩
 ·exact h
theorem CN.st (h:CN S n)(st:LD):CN S {n with st:=st}:=⟨h.log,h.jn,h.out⟩
theorem CN.keep (h:CN S n)(r:ByteArray):CN S (B3 n r):=by
 unfold B3;split
 ·exact(h.st _).did _
 split
 ·exact(h.st _).did _
 ·exact(h.st _).did _
theorem CN.look (h:CN S n):CN S (Cj n):=by
 unfold Cj;split
 ·exact CN.spread (n:={n with cmt:=Bi (By n)}) ⟨h.log,h.jn,h.out⟩ (InS.nil S)
 ·exact h
theorem CN.adopt (h:CN S n){l:List REnt}(a:InS S l)(v:Int):CN S (Ba n v l):=CN.did (n:={B6 n v l with st:=_}) ⟨a,h.jn,h.out⟩ _
theorem CN.best (h:CN S n):InS S (C8 n):=by
 unfold C8;generalize (Gb ((B7 n).map mkJ)).toNat=k;cases hj:(B7 n)[k]? with
 | none=>exact InS.nil S
 | some j =>
  have a:=ae hj;unfold B7 jlN at a;obtain⟨a,-⟩:=List.mem_filter.1 a;obtain⟨i,-,rfl⟩:=ba.1 a;exact h.jn i
theorem CN.begin (h:CN S n):CN S (B2 n):=by
 unfold B2;split
 ·exact h
 split
 ·have a:=h.adopt h.best n.pmd;have b:CN S (D5 (Ba n n.pmd (C8 n))):=⟨a.log,a.jn,a.out⟩;exact(b.spread (m:=⟨3,n.pmd,0,0,C8 n⟩) h.best).look
 ·exact h.adopt h.best n.pmd
theorem CN.rise (h:CN S n)(v:Int):CN S (Cq n v):=CN.keep (n:={n with pmd:=v,lds:=false,std:=false}) ⟨h.log,h.jn,h.out⟩ _
theorem CN.add (h:CN S n){e:REnt}(b:e∈S):CN S (F8 n e):=CN.keep (n:={n with log:=n.log++[e]}) ⟨fun x a=>by
 rcases bu.1 a with a | a
 ·exact h.log x a
 ·rw[bo.1 a];exact b,h.jn,h.out⟩ _
def Zjx (n:PN)(b:ByteArray):REnt:=⟨n.pmd,A3 n.log+1,b⟩
theorem CN.offer (h:CN S n){b:ByteArray}(c:Zjx n b∈S):CN S (Bc n b).1:=by
 unfold Bc;split
 ·exact h
 have a:=h.add c;split
 ·have e:CN S {F8 n (Zjx n b) with aks:=fun i=>if i=n.self then A3 n.log+1 else n.aks i}:=⟨a.log,a.jn,a.out⟩;exact(e.spread (m:=⟨4,n.pmd,0,A3 n.log+1 - 1,[Zjx n b]⟩) fun x d=>by rw[bo.1 d];exact c).look
 ·exact a
theorem CN.any (h:CN S n){m:RM}(b:InS S m.l)(f:Nat):CN S (Aq n f m):=by
 unfold Aq;split
 ·exact h
 split
 ·refine CN.begin ?_;split
  ·exact h
  ·refine⟨h.log,fun i=>?_,h.out⟩;show InS S (if i=f then(⟨true,m.normal,m.l⟩:RJ) else n.jns i).l;split
   ·exact b
   ·exact h.jn i
 split
 ·have a:CN S (Cj {n with aks:=fun i=>if i=f then max (n.aks f) m.num else n.aks i,hrd:=fun i=>if i=f then true else n.hrd i}):=CN.look ⟨h.log,h.jn,h.out⟩;dsimp only;split
  ·exact a.send (fun e c=>a.log e (b7 c)) f
  ·exact a
 ·exact h
theorem CN.append:∀{l:List REnt} {v:Int} {n:PN},CN S n→InS S l→CN S (Ac l v n).1
 | [],_,_,h,_=>h
 | e::l,v,n,h,hl=>by
  have a:InS S l:=fun x c=>hl x (List.mem_cons_of_mem _ c);unfold Ac;split
  ·exact h
  split
  ·exact CN.append h a
  have b:=h.add (hl e (by simp));split
  ·exact CN.append b a
  ·exact b
theorem CN.pri (h:CN S n){m:RM}(a:InS S m.l)(f:Nat):CN S (A4 n f m):=by
 unfold A4;split
 ·split
  ·split
   ·exact(h.rise _).send h.log f
   ·exact h.rise _
  ·split
   ·exact h.send h.log f
   ·exact h
 split
 ·have b:CN S {n with lds:=false,std:=false}:=⟨h.log,h.jn,h.out⟩;split
  ·split
   ·exact(b.adopt a _).send (InS.nil S) f
   ·exact b.adopt a _
  ·split
   ·exact h.send (InS.nil S) f
   ·exact h
 split
 ·split
  ·dsimp only;split
   ·exact(CN.append h a).send (InS.nil S) f
   ·exact CN.append h a
  ·exact h
 split
 ·split
  ·exact⟨h.log,h.jn,h.out⟩
  ·exact h
 ·exact h
theorem CN.take (h:CN S n){p:RPk}(c:CP S p):CN S (Dd n p):=by
 obtain⟨m,b,d,a⟩:=c;have e:mD p.body.data.toList=m:=by rw[d];exact(Zj8 b).2
 unfold Dd;rw[e];split
 ·exact h
 split
 ·exact h.any a _
 split
 ·exact h
 ·exact h.pri a _
theorem CN.rest (h:CN S n)(kp t:Int):CN S (Zd4 n kp t):=⟨h.log,fun _=>InS.nil S,fun _ a=>by cases a⟩
def CG (S:List REnt)(l:List GM)(w:List RPk):Prop:=(∀(i:Nat) (x:GM),l[i]?=some x→CN S x.n)∧∀p∈w,CP S p
theorem CG.set {l:List GM}{w:List RPk}(h:CG S l w){i:Nat}{y:GM}(hy:CN S y.n):CG S (l.set i y) w:=⟨fun j x a=>by
 rw[cn] at a;split at a
 ·split at a
  ·cases a;exact hy
  ·cases a
 ·exact h.1 j x a,h.2⟩
theorem CG.mono {T:List REnt}{l:List GM}{w:List RPk}(h:CG S l w)(a:∀e∈S,e∈T):CG T l w:=⟨fun i x c=>(h.1 i x c).mono a,fun p b=>(h.2 p b).mono a⟩
end
theorem EvIdx.last {α:Type}{L:List α}{r:α}{n:Int}{K:α→Prop}(a:n=((L++[r]).length:Int) - 1)(h:K r):EvIdx (L++[r]) n K:=by
 rw[ax] at a;have a:n=(L.length:Nat):=by have:(([r]:List α).length:Int)=1:=rfl;omega
 subst a;refine⟨by rw[ax];show 0≤(L.length:Int)∧(L.length:Int) < ((L.length+1:Nat):Int);omega,fun y hy=>?_⟩;rw[az,bf (af _),Nat.sub_self] at hy;obtain rfl:r=y:=cj hy;exact h
end Go.Proofs.YtihfaocdpmmooaaGreat

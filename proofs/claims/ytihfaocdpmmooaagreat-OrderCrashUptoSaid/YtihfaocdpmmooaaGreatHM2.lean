
import Derived.Test.YtihfaocdpmmooaaGreatGM2
import Derived.Test.YtihfaocdpmmooaaGreatGM6
import Derived.Test.YtihfaocdpmmooaaGreatHM1
import Derived.Test.YtihfaocdpmmooaaGreatGM5
import Derived.Test.YtihfaocdpmmooaaGreatGM3
namespace Go.Proofs.YtihfaocdpmmooaaGreat
open Go.RowKit
set_option maxRecDepth 100000
set_option maxHeartbeats 4000000 in
theorem Zhp (l:List GM)(m:List RN)(way:List RPk)(i:Nat)(x:GM)(o:l[i]?=some x)(a:m[i]?=some x.r)(hr:x.r.out=x.n.out)(J:way.length≤1000)(M:x.n.out.length≤1000000):FnO Tryz.prog 75 [.ptr 0 0,gI i] (cG l m way) fun g rs=>g=.v (.bool true)∧rs=cG (l.set i (Hh x)) (m.set i (K9 x.r)) (De way x.n.out):=by
 obtain⟨s,n,b,e,r⟩:=x;dsimp only at M hr a;have d:=(ac.1 o).1;have F:=(ac.1 a).1;have j:(l.map mOb)[i]?=some (cl (oSs s n b e)):=by rw[aj,o];rfl
 have I:(l.set i (Hh ⟨s,n,b,e,r⟩)).map pN=l.map pN:=H1 o rfl;have eD:(l.set i (Hh ⟨s,n,b,e,r⟩)).map pD=l.map pD:=Gy o rfl;have B:=E2 l i (Hh ⟨s,n,b,e,r⟩);refine Bq Tryz.func75 (A6 (O:=oGs l m way) (n0:=6) rfl) ?_;refine⟨⟨by omega,by rw[aa];omega⟩,?_⟩;refine dl (f:=Cl) a ?_;refine(Z2m r).cal fun q u=>?_;subst u;refine⟨⟨by omega,by rw[aa];omega⟩,?_⟩;refine dn (f:=Cl) (i:=i) (y:=K9 r) a (fun q u=>u) rfl ?_;refine⟨⟨by omega,by rw[aa];omega⟩,?_⟩;refine dl (f:=pN) o ?_;refine dh (.take 5 i _ (mOb ⟨s,n,b,e,r⟩) rfl j (.lies 7 b _ rfl (G0 ⟨s,n,b,e,r⟩) (.done (.raw 8 7 rfl (.same ((Zbf s n b e).cal fun q rs u=>?_))))));obtain⟨rfl,rfl⟩:=u;refine .put 5 i 7 _ _ rfl (by rw[bh,aa];exact d) rfl (.drop 8 _ rfl (.done ?_));refine dj (fun h=>de (by show(((n.out.map pkG).length:Nat):Int)=((r.out.map pkG).length:Nat);rw[hr]) h) fun _=>?_;generalize K:l.set i (Hh ⟨s,n,b,e,r⟩)=l' at *;generalize G:m.set i (K9 r)=pl';refine D2 [0,6,7,41] [1,2,3,9] (fun z:Nat × List RPk=>[(42,gI z.1)]) (fun z=>[(0,.blk [.osl 1,.osl 2,.osl 3,.osl 4] tGr),(4,.vw (z.2.map pkG) tPk 3),(5,.fam (l'.map mOb))]) (fun z=>z.1≤n.out.length∧z.2=De way (n.out.take z.1)) (fun z=>n.out.length - z.1) (0,way) ⟨ah _,rfl⟩ ⟨⟨rfl,rfl⟩,trivial⟩ ⟨RL1,RL1,⟨rfl,rfl,Ff B⟩,trivial⟩ rfl fun⟨k,w⟩ hI=>?_;obtain⟨H,c⟩:=hI;dsimp only at H c;have L:w.length≤1000:=by rw[c];exact G8 (by omega) _ J
 refine dg (fun C=>?_) fun A=>?_
 ·rw[aa] at C;obtain⟨p,a⟩:∃p,n.out[k]?=some p:=⟨_,ab (by omega)⟩;refine⟨⟨by omega,by rw[aa];omega⟩,?_⟩;refine dl (f:=pkG) a ?_;refine dl (f:=pkG) (by rw[hr];exact a) ?_;refine EvEq.flat [.i .i64,.i .i64,.s] [_,_,_] [_,_,_] (by kernel_rfl) (by kernel_rfl) (by kernel_rfl) rfl rfl rfl rfl (fun _=>?_) (fun h=>de rfl h);refine dk (fun h=>(by cases h)) fun _=>?_;have E:=Oc (way:=way) a;rw[←c] at E;refine dg (fun t=>?_) fun t=>?_
  ·rw[aa] at t;dsimp only at t;refine⟨⟨by omega,by rw[aa];omega⟩,?_⟩;refine dl (f:=pkG) a ?_;refine⟨by simp;omega,⟨by dsimp only;omega,.done ⟨(k+1,w++[p]),[(4,11)],⟨by dsimp only;omega,by rw[E,dc (by omega)]⟩,(by dsimp only;omega),?_⟩⟩⟩;refine⟨?_,?_,rfl⟩<;>repeat' (first|exact trivial|with_reducible rfl|exact rfl|refine And.intro ?_ ?_)
   exact Zif (by rw[ao];rfl)
  ·rw[aa] at t;dsimp only at t;refine⟨by dsimp only;omega,.done ⟨(k+1,w),[],⟨by dsimp only;omega,by rw[E,db (by omega)]⟩,(by dsimp only;omega),?_⟩⟩;refine⟨?_,?_,rfl⟩<;>repeat' (first|exact trivial|with_reducible rfl|exact rfl|refine And.intro ?_ ?_)
 ·rw[aa] at A;dsimp only at A;have hk2:k=n.out.length:=by omega
  have D:w=De way n.out:=by rw[c,hk2,List.take_length]
  refine Gh.done (.inl (A1 (oGs l' pl' w) [] ⟨RL1,⟨rfl,rfl,eqR I.symm⟩,⟨rfl,rfl,eqR eD.symm⟩,RL1,RL1,RL1,trivial⟩ rfl ⟨_,rfl⟩ rfl rfl ⟨rfl,?_⟩));rw[D]
theorem Z17 (s:Bool)(n:PN)(b e:Nat):FnO Tryz.prog 37 [.ptr 0 0] (cS s n b e) fun g rs=>g=.v (.bool n.dead)∧rs=cS s n b e:=by
 cases s
 ·exact Zbw n b e
 ·exact Zdt n b e
theorem Z9e (n:PN)(r:RN)(h:Sim n r)(k:n.log.length≤1000000):FnV Tryz.prog 33 [.agg (Zko n),.agg (Cl r)] fun g=>g=.v (.bool true):=by
 have c:=h.pmd;have e:=h.normal;have d:=h.cmt;have f:=h.log;have j:=h.phase;refine fnG Tryz.func33 ?_;refine df (fun _=>?_) fun a=>de c.symm a;refine df (fun _=>?_) fun a=>de e.symm a;refine df (fun _=>?_) fun a=>de d.symm a;have b:FnV Tryz.prog 52 [.sl (n.log.map enE),.sl (r.log.map enE)] fun g=>g=.v (.bool true):=by rw[f];exact Z11 n.log k
 refine dk (fun _=>?_) fun a=>de a ?_
 ·refine b.cal fun q i=>?_;subst i;exact rfl
 ·show ¬((decide ((if n.lds=true then(1:Int) else 0) > 0)==decide (r.phase > 0))=false);rw[j];cases n.lds<;>cases n.std<;>decide
set_option maxHeartbeats 4000000 in
theorem Zev (l:List GM)(j:List RN)(way:List RPk)(i:Nat)(x:GM)(a:l[i]?=some x)(k:j[i]?=some x.r)(p:Sim x.n x.r)(hd:x.n.dead=false)(o:x.n.log.length≤1000000):FnO Tryz.prog 76 [.ptr 0 0,gI i] (cG l j way) fun g rs=>g=.v (.bool true)∧rs=cG l j way:=by have c:=(ac.1 a).1;have m:=(ac.1 k).1;refine Bq Tryz.func76 (A6 (O:=oGs l j way) (n0:=6) rfl) ?_;refine⟨⟨by omega,by rw[aa];omega⟩,?_⟩;refine dl (f:=pN) a ?_;refine⟨⟨by omega,by rw[aa];omega⟩,?_⟩;refine dl (f:=Cl) k ?_;refine(Z1v l i x a o).cal fun q rs d=>?_;obtain⟨rfl,rfl⟩:=d;refine(Z9e x.n x.r p o).cal fun q d=>?_;subst d;refine dk (fun _=>?_) fun h=>(by cases h);refine⟨⟨by omega,by rw[aa];omega⟩,?_⟩;refine dl (f:=pN) a ?_;obtain⟨sh,n,b,e,r⟩:=x;dsimp only at hd;refine dh (.take 5 i _ _ rfl (Eg a) (.lies 6 b _ rfl (G0 ⟨sh,n,b,e,r⟩) (.done (.raw 7 6 rfl (.same ((Z17 sh n b e).cal fun q rs d=>?_))))));obtain⟨rfl,rfl⟩:=d;refine .put 5 i 6 _ _ rfl (by rw[bh,aa];exact c) rfl (.drop 7 _ rfl (.done ?_));refine .inl (A1 (oGs l j way) [] ⟨RL1,RL1,RL1,RL1,RL1,⟨rfl,rfl,Ff (Fl (x:=⟨sh,n,b,e,r⟩) a)⟩,trivial⟩ rfl ⟨_,rfl⟩ rfl rfl ⟨?_,rfl⟩);rw[hd];rfl
def HB (r r':RN):Prop:=r'.hrd.length≤r.hrd.length+1
theorem HB.same {r r':RN}(h:r'.hrd=r.hrd):HB r r':=by unfold HB;rw[h];omega
theorem N3 (n:RN)(m:RM):(Au n m).hrd=n.hrd:=by obtain⟨o,e⟩:=(G7 n m).1.to;rw[e]
theorem Ut (n:RN):(Ck n).hrd=n.hrd:=by obtain⟨c,o,e,-⟩:=Y4 n;rw[e]
theorem W3 (n:RN):HB n (Cf n):=by
 unfold Cf;split
 ·exact .same rfl
 ·unfold HB;rw[Ut,N3];exact ah _
theorem Zby (n:RN)(v:Int):HB n (Cx n v).1:=by
 unfold Cx;split
 ·exact .same rfl
 ·have h:=W3 (Au {n with pmd:=v,phase:=1,jns:=[⟨n.self,n.normal,A3 n.log,n.log⟩]} ⟨1,v,0,0,[]⟩);unfold HB at h⊢;rw[N3] at h;exact h
theorem Z6v (n:RN)(s:ByteArray):HB n (Bd n s).1:=by
 unfold Bd;split
 ·exact .same rfl
 ·refine .same ?_;show(Ck _).hrd=_;rw[Ut,N3];rfl
theorem Z7w (n:RN):HB n (Do n):=by
 refine .same ?_;have key:∀(n:RN) (i:Nat),(F4 (F7 (Fe (Fs n i) i) i) i).hrd=n.hrd:=fun n i=>by
  have a:∀n:RN,(Fs n i).hrd=n.hrd:=fun n=>by unfold Fs;split<;>rfl
  have b:∀n:RN,(Fe n i).hrd=n.hrd:=fun n=>by unfold Fe;split<;>rfl
  have c:∀n:RN,(F7 n i).hrd=n.hrd:=fun n=>by unfold F7;split<;>rfl
  have d:∀n:RN,(F4 n i).hrd=n.hrd:=fun n=>by unfold F4;split<;>rfl
  rw[d,c,b,a]
 unfold Do;generalize n.many.toNat=k
 induction k with
 | zero=>rfl
 | succ k ih =>
  rw[Dh];split
  ·exact ih
  ·rw[key];exact ih
theorem Z5i:∀(l:List REnt) (n:RN),(Cm l n).hrd=n.hrd
 | [],_=>rfl
 | e::l,n=>by
  unfold Cm;split
  ·rfl
  ·split
   ·rw[Z5i l];rfl
   ·exact Z5i l n
theorem Zcb (n:RN)(p:RPk):HB n (Dw n p):=by
 unfold Dw;generalize mD p.body.data.toList=m;split
 ·exact .same rfl
 split
 ·unfold Bn;split
  ·exact .same rfl
  ·exact W3 (Em n ⟨p.frm,m.normal,A3 m.l,m.l⟩)
 split
 ·unfold C5;have c:(H7 n p.frm m).hrd.length≤n.hrd.length+1:=by
   unfold H7;rw[Ut];show(n.hrd++[p.frm]).length≤_;rw[ax];exact af _
  split
  ·exact .same rfl
  ·split
   ·exact c
   ·exact c
 split
 ·exact .same rfl
 have a:(Fw n m).hrd=n.hrd:=by unfold Fw;split<;>rfl
 have b:(Cg n m).hrd=n.hrd:=by unfold Cg;split<;>rfl
 split
 ·unfold Bh;split
  ·exact .same a
  ·exact .same a
 split
 ·unfold Ax;split
  ·exact .same b
  ·exact .same b
 split
 ·unfold Ca;split
  ·exact .same rfl
  ·exact .same (Z5i m.l n)
 split
 ·exact .same rfl
 ·exact .same rfl
theorem MOk.rb {k:Nat}{x:GM}(h:MOk k x)(m:x.r.out=[])(g:x.r.hrd.length≤900000):RB x.r:=by
 have c:=h.sim;have hi:=h.ni;have o:=hi.m7;have p:=hi.self;refine⟨by rw[c.many];omega,by rw[c.self,c.many];omega,by rw[c.log];exact hi.nv.ents.1,by rw[m];exact ah _,g,fun e=>?_,fun l=>?_⟩
 ·have d:x.n.lds=true∧x.n.std=false:=by
   have:=c.phase;rw[e] at this;cases a:x.n.lds<;>cases b:x.n.std<;>rw[a,b] at this<;>first | exact⟨rfl,rfl⟩ | cases this
  rw[c.jns d.1 d.2];unfold jrL;refine⟨?_,fun j f=>?_⟩
  ·rw[aa];have:=List.length_filter_le (fun i=>(x.n.jns i).is) (List.range x.n.many);rw[List.length_range] at this;omega
  ·obtain⟨i,-,rfl⟩:=ba.1 f;exact hi.jl i
 ·have d:x.n.lds=true∧x.n.std=true:=by
   have:=c.phase;rw[l] at this;cases a:x.n.lds<;>cases b:x.n.std<;>rw[a,b] at this<;>first | exact⟨rfl,rfl⟩ | cases this
  obtain⟨a1,a2,-⟩:=c.aks d.1 d.2;obtain⟨-,-,b1,b2,-⟩:=hi.st d.2;rw[a1,a2,c.log,c.many];refine⟨?_,fun y hy=>?_,b2⟩
  ·unfold By;rw[aa,List.length_range,az]
  ·obtain⟨i,rfl⟩:=Y2 hy;exact b1 i
structure GT (k m c:Nat)(l:List GM)(w:List RPk):Prop where
 gi:GI k m l
 still:Still l
 hd:∀(i:Nat) (x:GM),l[i]?=some x→x.r.hrd.length≤c
 way:w.length≤1000
 ok:∀p∈w,OkP p
theorem GT.up {k m c:Nat}{l:List GM}{w w':List RPk}(h:GT k m c l w)(d:k+150≤900000000)(b:w'.length≤1000)(a:∀p∈w',OkP p):GT (k+150) m (c+1) l w':=⟨h.gi.up (by omega) d,h.still,fun i x e=>Nat.le_succ_of_le (h.hd i x e),b,a⟩
theorem Zfy (l:List GM)(a:List RN)(way:List RPk)(k who n:Int)(body:ByteArray)(w t:Int)(o:ByteArray)(i:Nat)(x:GM)(c:l[i]?=some x)(p:who=i):FnO Tryz.prog 69 [.ptr 0 0,.agg [gI k,gI who,gI n,.v (.string body),gI w,gI t,.v (.string o)]] (cG l a way) fun g rs=>g=gI (if n≠0 then n else Le x.n.pmd who l.length)∧rs=cG l a way:=by
 subst p;refine Bq Tryz.func69 (A6 (O:=oGs l a way) (n0:=6) rfl) ?_;refine dj (fun h=>?_) fun h=>?_
 ·exact .inl (A1 (oGs l a way) [] (by exact RL6) rfl ⟨_,rfl⟩ rfl rfl ⟨by rw[dc h],rfl⟩)
 rw[db (fun u=>u h)];have j:=(ac.1 c).1;refine⟨⟨by omega,by rw[aa];omega⟩,?_⟩;refine dl (f:=pN) c ?_;obtain⟨s,m,b,e,r⟩:=x;refine dh (.take 5 i _ _ rfl (Eg c) (.lies 7 b _ rfl (G0 ⟨s,m,b,e,r⟩) (.done (.raw 8 7 rfl (.same ((Z4v s m b e).cal fun q rs d=>?_))))));obtain⟨rfl,rfl⟩:=d;refine .put 5 i 7 _ _ rfl (by rw[bh,aa];exact j) rfl (.drop 8 _ rfl (.done ?_));refine(Z2r _ _ _).cal fun q d=>?_;subst d;rw[aa];exact .inl (A1 (oGs l a way) [] ⟨RL1,RL1,RL1,RL1,RL1,⟨rfl,rfl,Ff (Fl (x:=⟨s,m,b,e,r⟩) c)⟩,trivial⟩ rfl ⟨_,rfl⟩ rfl rfl ⟨rfl,rfl⟩)
theorem Zdp {m:Nat}{l:List GM}(c:l.length=m)(h:Fresh m l):(List.range m).map (fun i:Nat=>J1 i m)=l.map GM.r:=by
 refine cp fun i=>?_;rw[aj,aj];by_cases hi:i < m
 ·rw[cq hi];obtain⟨x,a⟩:∃x,l[i]?=some x:=⟨_,ab (by omega)⟩;obtain⟨b,e,rfl⟩:=h i x a;rw[a];rfl
 ·rw[b9 (by rw[List.length_range];omega),b9 (by omega)];rfl
theorem Z66 {m:Nat}{l:List GM}(d:l.length=m)(c:m≤7)(h:Fresh m l):GT 0 m 0 l []:=by obtain⟨a,b⟩:=Wg d c h;refine⟨a,b,fun i x f=>?_,ah _,nofun⟩;obtain⟨b,e,rfl⟩:=h i x f;exact af _
end Go.Proofs.YtihfaocdpmmooaaGreat

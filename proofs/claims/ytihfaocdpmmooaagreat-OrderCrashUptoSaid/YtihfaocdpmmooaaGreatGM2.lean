
import Derived.Test.YtihfaocdpmmooaaGreatSMM
import Derived.Test.YtihfaocdpmmooaaGreatOM3
import Derived.Test.YtihfaocdpmmooaaGreatNM1
import Derived.Test.YtihfaocdpmmooaaGreatSMN
import Derived.Test.YtihfaocdpmmooaaGreatGM1
namespace Go.Proofs.YtihfaocdpmmooaaGreat
open Go.RowKit
set_option maxRecDepth 100000
def enJ (j:RJn):List G:=[gI j.frm,gI j.v,gI j.n,.sl (j.l.map enE)]
def Cl (n:RN):List G:=[gI n.self,gI n.many,gI n.pmd,gI n.normal,.sl (n.log.map enE),gI n.cmt,gI n.phase,.sl (n.jns.map enJ),.sl (n.aks.map gI1),gI n.first,.sl (n.hrd.map gI1),.sl (n.out.map pkG)]
abbrev tRN:Nat:=77
theorem Zb8 (l:List RPk):∀r∈l.map pkG,r.length=3∧r.all G.one=true:=fun r hr=>by obtain⟨p,-,rfl⟩:=ba.1 hr;exact⟨rfl,rfl⟩
theorem Ow (l:List REnt):∀r∈l.map enE,r.length=3∧r.all G.one=true:=fun r hr=>by obtain⟨p,-,rfl⟩:=ba.1 hr;exact⟨rfl,rfl⟩
theorem X3 (l:List Int):∀r∈l.map gI1,r.length=1∧r.all G.one=true:=fun r hr=>by obtain⟨p,-,rfl⟩:=ba.1 hr;exact⟨rfl,rfl⟩
theorem Gn (n:RN)(to:Int)(m:RM)(c:m.l.length≤1000000)(d:n.out.length≤1000000):FnV Tryz.prog 118 [.agg (Cl n),gI to,.agg (enM m)] fun g=>g=.agg (Cl (Av n to m)):=by
 refine fnG Tryz.func118 ?_;refine(Z0g m c).cal fun q a=>?_;subst a;unfold wrM;refine⟨Zb8 _,?_⟩;refine⟨by simp;omega,?_⟩;refine⟨by simp;omega,?_⟩;have b:(Av n to m).out.map pkG=[]++n.out.map pkG++[[gI n.self,gI to,.v (.string ⟨(bM m).toArray⟩)]]:=by unfold Av;rw[ao,cy];rfl
 show _=G.agg [gI n.self,gI n.many,gI n.pmd,gI n.normal,.sl (n.log.map enE),gI n.cmt,gI n.phase,.sl (n.jns.map enJ),.sl (n.aks.map gI1),gI n.first,.sl (n.hrd.map gI1),.sl ((Av n to m).out.map pkG)];rw[b]
def SameR (n a:RN):Prop:={a with out:=n.out}=n
theorem SameR.to {n a:RN}(h:SameR n a):∃o,a={n with out:=o}:=⟨a.out,by cases n;cases a;unfold SameR at h;cases h;rfl⟩
theorem SameR.trans {n a b:RN}(h:SameR n a)(c:SameR a b):SameR n b:=by obtain⟨o,rfl⟩:=h.to;obtain⟨d,rfl⟩:=c.to;rfl
theorem O9 (n:RN)(to:Int)(m:RM):SameR n (Av n to m):=rfl
theorem F3 (n:RN)(to:Int)(m:RM):(Av n to m).out.length=n.out.length+1:=by unfold Av;simp
theorem Lm (n:RN)(m:RM)(s:m.l.length≤1000000)(u:n.many≤100)(v:n.out.length≤900000):FnV Tryz.prog 113 [.agg (Cl n),.agg (enM m)] fun g=>g=.agg (Cl (Au n m)):=by
 refine fnG Tryz.func113 ?_;refine As [2,3,4] [1,2] (fun x:Nat × RN=>[(5,gI x.1)]) (fun x=>[(0,.blk (Cl x.2) tRN)]) (fun x=>x.1≤n.many.toNat∧x.2=Ma (fun n i=>Av n i m) n x.1∧SameR n x.2∧x.2.out.length≤n.out.length+x.1) (fun x=>n.many.toNat - x.1) (0,n) ⟨ah _,rfl,rfl,af _⟩ ⟨⟨rfl,rfl⟩,trivial⟩ ⟨RL1,trivial⟩ rfl fun⟨i,n'⟩ hI=>?_;obtain⟨hi,j,f,t⟩:=hI;dsimp only at hi j f t;obtain⟨o,h⟩:=f.to;have k:n'.many=n.many:=by rw[h]
 refine dg (fun e=>?_) fun d=>?_
 ·have e:((i:Nat):Int) < n'.many:=e;have a:=Dh (fun n i=>Av n i m) n i;rw[←j] at a;refine dj (fun b=>?_) fun c=>?_
  ·have b:(i:Int)≠n'.self:=b;rw[db b] at a;refine(Gn n' i m s (by omega)).cal fun q r=>?_;subst r;refine⟨by omega,(i+1,Av n' i m),⟨by dsimp only;omega,a.symm,f.trans (O9 _ _ _),by have:=F3 n' i m;dsimp only;omega⟩,(by dsimp only;omega),?_⟩;refine⟨?_,?_,rfl⟩<;>repeat' (first|exact trivial|with_reducible rfl|exact rfl|refine And.intro ?_ ?_)
  ·have c:(i:Int)=n'.self:=c;rw[dc c] at a;refine⟨by omega,(i+1,n'),⟨by dsimp only;omega,a.symm,f,by dsimp only;omega⟩,(by dsimp only;omega),?_⟩;refine⟨?_,?_,rfl⟩<;>repeat' (first|exact trivial|with_reducible rfl|exact rfl|refine And.intro ?_ ?_)
 ·have d:¬((i:Nat):Int) < n'.many:=d;have:i=n.many.toNat:=by omega
  subst this;have p:Au n m=n':=by unfold Au;rw[j]
  rw[p];exact rfl
theorem Z9w (n:RN)(x:Int)(f:n.jns.length≤1000000):FnV Tryz.prog 117 [.agg (Cl n),gI x] fun g=>g=.v (.bool (Kl n x)):=by
 refine fnG Tryz.func117 ?_;refine As [1,2] [0] (fun i:Nat=>[(5,gI i)]) (fun _=>[]) (fun i=>i≤n.jns.length∧∀j∈n.jns.take i,j.frm≠x) (fun i=>n.jns.length - i) 0 ⟨ah _,by simp⟩ ⟨⟨rfl,rfl⟩,trivial⟩ trivial rfl fun i d=>?_;obtain⟨hi,d⟩:=d;refine dg (fun h=>?_) fun h=>?_
 ·refine dp (by simpa using h) fun j c=>?_;have e:=C1 c;refine df (fun b=>?_) fun a=>?_
  ·have b:j.frm=x:=b;have:Kl n x=true:=by unfold Kl;exact List.any_eq_true.2 ⟨j,ae c,by simpa using b⟩
   rw[this];exact rfl
  ·have a:j.frm≠x:=a;refine⟨by omega,i+1,⟨e,fun y hy=>?_⟩,(by dsimp only;omega),?_⟩
   ·rw[Ar c] at hy;rcases bu.1 hy with hy | hy
    ·exact d y hy
    ·rw[bo.1 hy];exact a
   refine⟨?_,?_,rfl⟩<;>repeat' (first|exact trivial|with_reducible rfl|exact rfl|refine And.intro ?_ ?_)
 ·rw[aa] at h;rw[ap (by omega)] at d;have:Kl n x=false:=by
   unfold Kl;rw[←Bool.not_eq_true,List.any_eq_true];rintro⟨j,c,hx⟩;exact d j c (by simpa using hx)
  rw[this];exact rfl
theorem Ue (n:RN)(x:Int)(f:n.hrd.length≤1000000):FnV Tryz.prog 119 [.agg (Cl n),gI x] fun g=>g=.v (.bool (Eh n x)):=by
 refine fnG Tryz.func119 ?_;refine As [1,2] [0] (fun i:Nat=>[(5,gI i)]) (fun _=>[]) (fun i=>i≤n.hrd.length∧∀j∈n.hrd.take i,j≠x) (fun i=>n.hrd.length - i) 0 ⟨ah _,by simp⟩ ⟨⟨rfl,rfl⟩,trivial⟩ trivial rfl fun i d=>?_;obtain⟨hi,d⟩:=d;refine dg (fun h=>?_) fun h=>?_
 ·refine dp (by simpa using h) fun j c=>?_;have e:=C1 c;refine df (fun b=>?_) fun a=>?_
  ·have b:j=x:=b;have:Eh n x=true:=by unfold Eh;exact List.any_eq_true.2 ⟨j,ae c,by simpa using b⟩
   rw[this];exact rfl
  ·have a:j≠x:=a;refine⟨by omega,i+1,⟨e,fun y hy=>?_⟩,(by dsimp only;omega),?_⟩
   ·rw[Ar c] at hy;rcases bu.1 hy with hy | hy
    ·exact d y hy
    ·rw[bo.1 hy];exact a
   refine⟨?_,?_,rfl⟩<;>repeat' (first|exact trivial|with_reducible rfl|exact rfl|refine And.intro ?_ ?_)
 ·rw[aa] at h;rw[ap (by omega)] at d;have:Eh n x=false:=by
   unfold Eh;rw[←Bool.not_eq_true,List.any_eq_true];rintro⟨j,c,hx⟩;exact d j c (by simpa using hx)
  rw[this];exact rfl
theorem Zd9 (n:RN)(e:REnt)(b:n.log.length≤1000000):FnV Tryz.prog 115 [.agg (Cl n),.agg (enE e)] fun g=>g=.agg (Cl (J9 n e)):=by
 refine fnG Tryz.func115 ?_;refine⟨Ow _,?_⟩;refine⟨by simp;omega,?_⟩;refine⟨by simp;omega,?_⟩;have a:(J9 n e).log.map enE=[]++n.log.map enE++[enE e]:=by unfold J9;rw[ao,cy];rfl
 show _=G.agg [gI n.self,gI n.many,gI n.pmd,gI n.normal,.sl ((J9 n e).log.map enE),gI n.cmt,gI n.phase,.sl (n.jns.map enJ),.sl (n.aks.map gI1),gI n.first,.sl (n.hrd.map gI1),.sl (n.out.map pkG)];rw[a];exact rfl
theorem Uu (s m:Int):FnV Tryz.prog 64 [gI s,gI m] fun g=>g=.agg (Cl (J1 s m)):=by refine fnG Tryz.func64 ?_;exact rfl
abbrev tGr:Nat:=68
abbrev tDp:Nat:=38
def mOb (x:GM):Ob:=cl (oSs x.s x.n x.b x.e)
def pN (x:GM):List G:=[.v (.pointer (some ⟨x.b,0,none⟩))]
def pD (x:GM):List G:=[.v (.pointer (some ⟨x.e,0,none⟩))]
abbrev oG (l:List GM)(a:List RN)(way:List RPk):List R:=[.blk [.osl 1,.osl 2,.osl 3,.osl 4] tGr,.slc (l.map pN) tNp 1,.slc (l.map pD) tDp 1,.slc (a.map Cl) tRN 12,.vw (way.map pkG) tPk 3,.fam (l.map mOb)]
abbrev oGs (l:List GM)(a:List RN)(way:List RPk):Os:=Bk (oG l a way) 0
abbrev cG (l:List GM)(a:List RN)(way:List RPk):List R:=[.abs (cl (oGs l a way))]
def Fresh (m:Nat)(l:List GM):Prop:=∀(i:Nat) (x:GM),l[i]?=some x→∃b e:Nat,x=(⟨true,Da i m (0,0,[]) stN,b,e,J1 i m⟩:GM)
theorem Fresh.snoc {m:Nat}{l:List GM}(h:Fresh m l){i:Nat}(g:l.length=i)(b e:Nat):Fresh m (l++[⟨true,Da i m (0,0,[]) stN,b,e,J1 i m⟩]):=fun j x a=>by
 by_cases f:j < l.length
 ·rw[bl f] at a;exact h j x a
 ·rw[bf (by omega)] at a;obtain⟨c,-⟩:=ac.1 a;have c:j - l.length < 1:=c;have d:j - l.length=0:=by omega
  rw[d] at a;have:x=⟨true,Da i m (0,0,[]) stN,b,e,J1 i m⟩:=(cj a).symm;refine⟨b,e,?_⟩;rw[this,show j=i by omega]
theorem Ff {a b:List Ob}(h:a=b):(some (R.fam a):Option R)=some (R.fam b):=by rw[h]
set_option maxHeartbeats 4000000 in
theorem Z3r (m:Nat)(t:1≤m)(w:m≤5):FnO Tryz.prog 27 [gI m] [] fun g rs=>g=.ptr 0 0∧∃l:List GM,l.length=m∧Fresh m l∧rs=cG l ((List.range m).map fun i:Nat=>J1 i m) []:=by
 refine Bq Tryz.func27 (S4 _) ?_;refine Z7i (.nil 0 [] [.nl,.nl,.nl] tGr tNp 1 rfl (by decide) (.nil 0 [.osl 1] [.nl,.nl] tGr tDp 1 rfl (by decide) (.nil 0 [.osl 1,.osl 2] [.nl] tGr tRN 12 rfl (by decide) (.nil 0 [.osl 1,.osl 2,.osl 3] [] tGr tPk 3 rfl (by decide) (.view 4 _ _ _ rfl (.fam (.done ?_)))))));refine D2 [0,3,9,10] [] (fun x:Nat × List GM=>[(11,gI x.1)]) (fun x=>[(0,.blk [.osl 1,.osl 2,.osl 3,.osl 4] tGr),(1,.slc (x.2.map pN) tNp 1),(2,.slc (x.2.map pD) tDp 1),(3,.slc (((List.range x.1).map fun i:Nat=>J1 i m).map Cl) tRN 12),(4,.vw [] tPk 3),(5,.fam (x.2.map mOb))]) (fun x=>x.1≤m∧x.2.length=x.1∧Fresh m x.2) (fun x=>m - x.1) (0,[]) ⟨ah _,rfl,fun i x h=>(by simp at h)⟩ ⟨⟨rfl,rfl⟩,trivial⟩ (by exact RL6) rfl fun⟨i,l⟩ hI=>?_;obtain⟨hi,d,f⟩:=hI;dsimp only at hi d f;refine dg (fun p=>?_) fun s=>?_
 ·refine di ((Zg6 1100).cal fun q rs c=>?_);obtain⟨rfl,rfl⟩:=c;rcases Nat.lt_or_ge i m with a | a
  rotate_left
  ·exact de p (by show ¬(i:Int) < m;omega)
  refine dh (.done (.same ((Z2u (Z5 1100) (Z2w 1100) rfl i m).cal fun q rs c=>?_)));rcases c with⟨k,-⟩ | ⟨n,b,e,k,rfl,rfl⟩
  ·rw[Vn a (by omega)] at k;cases k
  rw[Vn a (by omega)] at k;obtain rfl:=cj k;refine Gh.opn 7 _ _ _ rfl rfl rfl (.dup 12 7 b rfl (.close (oAs (Da i m (0,0,[]) stN) b e) [(0,7),(1,9),(2,10),(3,11),(4,12)] (by exact RL5) ⟨_,rfl⟩ rfl (.done ?_)));refine dj (fun h=>de rfl h) fun _=>?_;have u:(l.map pN).length+1≤1000000000:=by rw[aa];omega
  have v:(l.map pD).length+1≤1000000000:=by rw[aa];omega
  have r:(l.map pN).length+1≤1073741824:=by rw[aa];omega
  have o:(l.map pD).length+1≤1073741824:=by rw[aa];omega
  refine⟨⟨⟨r,⟨o,?_⟩⟩,⟨r,⟨o,?_⟩⟩⟩,⟨r,⟨o,?_⟩⟩⟩
  ·refine(Uu _ _).cal fun q c=>?_;subst c;refine⟨by simp;omega,⟨by dsimp only;omega,Gh.adopt 5 7 _ _ rfl rfl (.done ⟨(i+1,l++[⟨true,Da i m (0,0,[]) stN,b,e,J1 i m⟩]),[(1,15),(2,17),(3,19)],⟨a,by rw[ax,d];rfl,f.snoc d b e⟩,(by dsimp only;omega),?_⟩)⟩⟩;refine⟨?_,?_,rfl⟩<;>repeat' (first|exact trivial|with_reducible rfl|exact rfl|refine And.intro ?_ ?_)
   all_goals first | exact eqR (by rw[ao];rfl) | exact eqR (by dsimp only;rw[List.range_succ,ao,ao];rfl) | exact Ff (by rw[ao];rfl)
  ·refine(Uu _ _).cal fun q c=>?_;subst c;refine⟨by simp;omega,⟨by dsimp only;omega,Gh.adopt 5 7 _ _ rfl rfl (.done ⟨(i+1,l++[⟨true,Da i m (0,0,[]) stN,b,e,J1 i m⟩]),[(1,16),(2,17),(3,19)],⟨a,by rw[ax,d];rfl,f.snoc d b e⟩,(by dsimp only;omega),?_⟩)⟩⟩;refine⟨?_,?_,rfl⟩<;>repeat' (first|exact trivial|with_reducible rfl|exact rfl|refine And.intro ?_ ?_)
   all_goals first | exact eqR (by rw[ao];rfl) | exact eqR (by dsimp only;rw[List.range_succ,ao,ao];rfl) | exact Ff (by rw[ao];rfl)
  ·refine(Uu _ _).cal fun q c=>?_;subst c;refine⟨by simp;omega,⟨by dsimp only;omega,Gh.adopt 5 7 _ _ rfl rfl (.done ⟨(i+1,l++[⟨true,Da i m (0,0,[]) stN,b,e,J1 i m⟩]),[(1,16),(2,17),(3,19)],⟨a,by rw[ax,d];rfl,f.snoc d b e⟩,(by dsimp only;omega),?_⟩)⟩⟩;refine⟨?_,?_,rfl⟩<;>repeat' (first|exact trivial|with_reducible rfl|exact rfl|refine And.intro ?_ ?_)
   all_goals first | exact eqR (by rw[ao];rfl) | exact eqR (by dsimp only;rw[List.range_succ,ao,ao];rfl) | exact Ff (by rw[ao];rfl)
 ·obtain rfl:i=m:=by have:¬(i:Int) < m:=s;omega
  exact Gh.done (.inl ⟨[⟨oGs l ((List.range i).map fun j:Nat=>J1 j i) [],[(0,0)],true⟩],.ptr 0 0,⟨⟨⟨(by exact RL6),_,rfl⟩,trivial⟩,rfl,⟨_,rfl⟩,rfl,rfl,⟨rfl,l,d,f,rfl⟩⟩⟩)
def De (way out:List RPk):List RPk:=out.foldl (fun w p=>if w.length < 400 then w++[p] else w) way
theorem Oc {way out:List RPk}{k:Nat}{p:RPk}(h:out[k]?=some p):De way (out.take (k+1))=if(De way (out.take k)).length < 400 then De way (out.take k)++[p] else De way (out.take k):=by unfold De;rw[List.take_add_one,h];show List.foldl _ _ (out.take k++[p])=_;rw[List.foldl_append];rfl
theorem G8 {c:Nat}(a:400≤c):∀(out:List RPk) {way:List RPk},way.length≤c→(De way out).length≤c
 | [],way,h=>h
 | p::out,way,h=>by
  show(De (if way.length < 400 then way++[p] else way) out).length≤c;refine G8 a out ?_;split
  ·rw[ax];show way.length+1≤c;omega
  ·exact h
theorem Jb {P:RPk→Prop}:∀(out:List RPk) {way:List RPk},(∀p∈way,P p)→(∀p∈out,P p)→∀p∈De way out,P p
 | [],way,h,_=>h
 | p::out,way,h,h2=>by
  show ∀q∈De (if way.length < 400 then way++[p] else way) out,P q;refine Jb out ?_ fun q a=>h2 q (List.mem_cons_of_mem _ a);split
  ·intro q a;rcases bu.1 a with a | a
   ·exact h q a
   ·rw[bo.1 a];exact h2 p (by simp)
  ·exact h
def Zlh (n:PN):PN:={n with out:=[]}
def K9 (r:RN):RN:={r with out:=[]}
def Hh (x:GM):GM:={x with n:=Zlh x.n,r:=K9 x.r}
theorem E2 (l:List GM)(i:Nat)(x:GM):((l.map mOb).set i T5).set i (mOb x)=(l.set i x).map mOb:=by rw[List.set_set,List.map_set]
theorem H1 {l:List GM}{i:Nat}{x y:GM}(h:l[i]?=some x)(c:y.b=x.b):(l.set i y).map pN=l.map pN:=by
 rw[List.map_set];have e:pN y=pN x:=by unfold pN;rw[c]
 rw[e];obtain⟨a,f⟩:=ac.1 h;refine cp fun j=>?_;rw[cn];split
 ·next d=>subst d;rw[dc (by rw[aa];exact a),aj,h];rfl
 ·rfl
theorem Gy {l:List GM}{i:Nat}{x y:GM}(h:l[i]?=some x)(b:y.e=x.e):(l.set i y).map pD=l.map pD:=by
 rw[List.map_set];have e:pD y=pD x:=by unfold pD;rw[b]
 rw[e];obtain⟨a,d⟩:=ac.1 h;refine cp fun j=>?_;rw[cn];split
 ·next c=>subst c;rw[dc (by rw[aa];exact a),aj,h];rfl
 ·rfl
theorem Zif {a b:List (List G)}{e sz:Nat}(h:a=b):(some (R.vw a e sz):Option R)=some (R.vw b e sz):=by rw[h]
theorem G0 (x:GM):∀(I:Nat→Nat→Option Value) b S w,mOb x I b S w→b=x.b:=fun I b S w h=>by
 obtain⟨s,n,a,e,r⟩:=x;cases s
 ·obtain⟨V,c,d,-⟩:=(show cl (oBs n a e) I b S w from h);exact c.symm.trans (d.each 4 (.adr 0 a) rfl).2.2
 ·obtain⟨V,c,d,-⟩:=(show cl (oAs n a e) I b S w from h);exact c.symm.trans (d.each 4 (.adr 0 a) rfl).2.2
theorem Fl {l:List GM}{i:Nat}{x:GM}(h:l[i]?=some x):((l.map mOb).set i T5).set i (mOb x)=l.map mOb:=by
 rw[E2]
 congr 1
 refine cp fun j=>?_;rw[cn];split
 ·next a=>subst a;rw[dc (ac.1 h).1,h]
 ·rfl
theorem Eg {l:List GM}{i:Nat}{x:GM}(h:l[i]?=some x):(l.map mOb)[i]?=some (mOb x):=by rw[aj,h];rfl
theorem Zbf (s:Bool)(n:PN)(b e:Nat):FnO Tryz.prog 25 [.ptr 0 0] (cS s n b e) fun g rs=>g=.osl 1∧rs=[.abs (cl (oSs s {n with out:=[]} b e)),.slc (n.out.map pkG) tPk 3]:=by
 cases s
 ·exact Zj2 n b e
 ·exact Zj5 n b e
set_option maxHeartbeats 4000000 in
theorem Vt (l:List GM)(o:List RN)(way:List RPk)(i:Nat)(x:GM)(h:l[i]?=some x)(D:way.length≤1000)(H:x.n.out.length≤1000000):FnO Tryz.prog 29 [.ptr 0 0,gI i] (cG l o way) fun g rs=>g=.tup []∧rs=cG (l.set i (Hh x)) o (De way x.n.out):=by
 obtain⟨s,n,b,e,r⟩:=x;dsimp only at H;have c:=(ac.1 h).1;have d:(l.map mOb)[i]?=some (cl (oSs s n b e)):=by rw[aj,h];rfl
 have C:(l.set i (Hh ⟨s,n,b,e,r⟩)).map pN=l.map pN:=H1 h rfl;have eD:(l.set i (Hh ⟨s,n,b,e,r⟩)).map pD=l.map pD:=Gy h rfl;have t:=E2 l i (Hh ⟨s,n,b,e,r⟩);refine Bq Tryz.func29 (A6 (O:=oGs l o way) (n0:=6) rfl) ?_;refine⟨⟨by omega,by rw[aa];omega⟩,?_⟩;refine dl (f:=pN) h ?_;refine dh (.take 5 i _ (mOb ⟨s,n,b,e,r⟩) rfl d (.lies 6 b _ rfl (G0 ⟨s,n,b,e,r⟩) (.done (.raw 7 6 rfl (.same ((Zbf s n b e).cal fun q rs F=>?_))))));obtain⟨rfl,rfl⟩:=F;refine .put 5 i 6 _ _ rfl (by rw[bh,aa];exact c) rfl (.drop 7 _ rfl (.done ?_));generalize E:l.set i (Hh ⟨s,n,b,e,r⟩)=l' at *;refine D2 [0,13,14] [1,2,3,8] (fun z:Nat × List RPk=>[(15,gI z.1)]) (fun z=>[(0,.blk [.osl 1,.osl 2,.osl 3,.osl 4] tGr),(4,.vw (z.2.map pkG) tPk 3),(5,.fam (l'.map mOb))]) (fun z=>z.1≤n.out.length∧z.2=De way (n.out.take z.1)) (fun z=>n.out.length - z.1) (0,way) ⟨ah _,rfl⟩ ⟨⟨rfl,rfl⟩,trivial⟩ ⟨RL1,RL1,⟨rfl,rfl,Ff t⟩,trivial⟩ rfl fun⟨k,w⟩ hI=>?_;obtain⟨B,a⟩:=hI;dsimp only at B a;have G:w.length≤1000:=by rw[a];exact G8 (by omega) _ D
 refine dg (fun u=>?_) fun m=>?_
 ·rw[aa] at u;obtain⟨p,A⟩:∃p,n.out[k]?=some p:=⟨_,ab (by omega)⟩;refine⟨⟨by omega,by rw[aa];omega⟩,?_⟩;refine dl (f:=pkG) A ?_;have y:=Oc (way:=way) A;rw[←a] at y;refine dg (fun j=>?_) fun j=>?_
  ·rw[aa] at j;dsimp only at j;refine⟨by simp;omega,⟨by dsimp only;omega,.done ⟨(k+1,w++[p]),[(4,11)],⟨by dsimp only;omega,by rw[y,dc (by omega)]⟩,(by dsimp only;omega),?_⟩⟩⟩;refine⟨?_,?_,rfl⟩<;>repeat' (first|exact trivial|with_reducible rfl|exact rfl|refine And.intro ?_ ?_)
   exact Zif (by rw[ao];rfl)
  ·rw[aa] at j;dsimp only at j;refine⟨by dsimp only;omega,.done ⟨(k+1,w),[],⟨by dsimp only;omega,by rw[y,db (by omega)]⟩,(by dsimp only;omega),?_⟩⟩;refine⟨?_,?_,rfl⟩<;>repeat' (first|exact trivial|with_reducible rfl|exact rfl|refine And.intro ?_ ?_)
 ·rw[aa] at m;dsimp only at m;have hk2:k=n.out.length:=by omega
  have v:w=De way n.out:=by rw[a,hk2,List.take_length]
  refine Gh.done (.inl (A1 (oGs l' o w) [] ⟨RL1,⟨rfl,rfl,eqR C.symm⟩,⟨rfl,rfl,eqR eD.symm⟩,RL1,RL1,RL1,trivial⟩ rfl ⟨_,rfl⟩ rfl rfl ⟨rfl,?_⟩));rw[v]
end Go.Proofs.YtihfaocdpmmooaaGreat


import Derived.Test.YtihfaocdpmmooaaGreatGM2
import Derived.Test.YtihfaocdpmmooaaGreatSMN
import Derived.Test.YtihfaocdpmmooaaGreatZNu
namespace Go.Proofs.YtihfaocdpmmooaaGreat
open Go.RowKit
set_option maxRecDepth 100000
theorem Z4g (n:RN)(i k:Int)(b:0≤i)(d:i < n.aks.length)(h:n.aks.length≤1000000):FnV Tryz.prog 114 [.agg (Cl n),gI i,gI k] fun g=>g=.agg (Cl (Bp n i k)):=by
 refine fnG Tryz.func114 ?_;obtain⟨j,rfl⟩:∃j:Nat,i=j:=⟨i.toNat,by omega⟩;obtain⟨x,a⟩:∃x,n.aks[j]?=some x:=⟨_,ab (by omega)⟩;refine⟨X3 _,?_⟩;refine⟨by simp;omega,?_⟩;refine⟨⟨b,by show(j:Int) < ((n.aks.map gI1).length:Nat);rw[aa];omega⟩,?_⟩;refine dl (f:=gI1) (i:=j) a ?_;refine⟨⟨b,by show(j:Int) < ((n.aks.map gI1).length:Nat);rw[aa];omega⟩,?_⟩;refine dn (f:=gI1) (i:=j) (y:=max x k) a (fun q c=>c) rfl ?_;have e:Bp n j k={n with aks:=n.aks.set j (max x k)}:=by unfold Bp;rw[az,a];rfl
 rw[e];exact rfl
theorem Z3v (n:RN)(ha:n.aks.length≤1000)(b:n.many≤100)(c:n.out.length≤900000):FnV Tryz.prog 116 [.agg (Cl n)] fun g=>g=.agg (Cl (Ck n)):=by
 refine fnG Tryz.func116 ?_;refine(Z49 n.aks ha).cal fun q a=>?_;subst a;refine dg (fun h=>?_) fun h=>?_
 ·have e:Ck n=Au {n with cmt:=Bi n.aks} ⟨6,n.pmd,0,Bi n.aks,[]⟩:=by unfold Ck;exact dc h
  rw[e];refine(Lm {n with cmt:=Bi n.aks} ⟨6,n.pmd,0,Bi n.aks,[]⟩ (ah _) b c).cal fun q a=>?_;subst a;exact rfl
 ·have e:Ck n=n:=by unfold Ck;exact db h
  rw[e];exact rfl
theorem Z36 {f:RN→Nat→RN}{c:Nat}(h:∀n i,SameR n (f n i)∧(f n i).out.length≤n.out.length+c)(n:RN):∀k,SameR n (Ma f n k)∧(Ma f n k).out.length≤n.out.length+c * k
 | 0=>⟨rfl,af _⟩
 | k+1=>by
  obtain⟨a,d⟩:=Z36 h n k;obtain⟨b,e⟩:=h (Ma f n k) k;rw[Dh,Nat.mul_succ];split
  ·exact⟨a,by omega⟩
  ·exact⟨a.trans b,by omega⟩
theorem G7 (n:RN)(m:RM):SameR n (Au n m)∧(Au n m).out.length≤n.out.length+n.many.toNat:=by have:=Z36 (f:=fun n i=>Av n i m) (c:=1) (fun n i=>⟨O9 _ _ _,Nat.le_of_eq (F3 _ _ _)⟩) n n.many.toNat;rw[Nat.one_mul] at this;exact this
def mkR (j:RJn):Mk:=⟨j.v,j.n⟩
theorem Z80 {l:List RJn}{i:Nat}{j:RJn}(h:l[i]?=some j):((l.take i).map mkR).map Zct++[Zct (mkR j)]=((l.take (i+1)).map mkR).map Zct:=by rw[Ar h,ao,ao];rfl
theorem EvSet.zeros {m k:Nat}{y:Int}{F:List G→(List G→Prop)→Prop}{K:List (List G)→Prop}(b:k < m)(a:∀q:List G→Prop,q (gI1 y)→F (gI1 0) q)(h:K (((List.replicate m (0:Int)).set k y).map gI1)):EvSet (List.replicate m (gI1 0)) k F K:=by rw[show List.replicate m (gI1 0)=(List.replicate m (0:Int)).map gI1 from List.map_replicate.symm];exact dn (x:=0) (List.getElem?_replicate_of_lt b) a rfl h
theorem Z6m {n:RN}(h:1≤n.jns.length):∃j,0≤Gb (n.jns.map mkR)∧n.jns[(Gb (n.jns.map mkR)).toNat]?=some j∧Gl n=j.l:=by obtain⟨p,c⟩:=Xl (n.jns.map mkR) (n.jns.map mkR).length (by rw[aa];exact h) (af _);have a:=c.best;obtain⟨b,-⟩:=c;rw[aa] at b;have e:n.jns[p]?=some n.jns[p]:=ab b;refine⟨n.jns[p],by rw[a];omega,by rw[a,az];exact e,?_⟩;have a:Gb (n.jns.map fun j=>⟨j.v,j.n⟩)=p:=a;unfold Gl;rw[a,az,e];rfl
theorem Z10 (n:RN)(k:n.jns.length≤100)(t:∀j∈n.jns,j.l.length≤1000000)(D:n.many≤7)(z:0≤n.self∧n.self < n.many)(E:n.out.length≤800000):FnV Tryz.prog 112 [.agg (Cl n)] fun g=>g=.agg (Cl (Cf n)):=by
 refine fnG Tryz.func112 ?_;refine(Uc _).cal fun q a=>?_;subst a;refine dg (fun b=>?_) fun b=>?_
 ·have b:((n.jns.map enJ).length:Int) < Ag n.many:=b;rw[aa] at b;have e:Cf n=n:=by unfold Cf;exact dc b
  rw[e];exact rfl
 have b:¬((n.jns.map enJ).length:Int) < Ag n.many:=b;rw[aa] at b;have e:Cf n=Ck (Au (E5 n (Gl n)) ⟨3,n.pmd,0,0,Gl n⟩):=by unfold Cf;exact db b
 rw[e];have B:1≤Ag n.many:=by have:=Lj (m:=n.many.toNat) (by omega) (by omega);rw[show((n.many.toNat:Nat):Int)=n.many by omega] at this;exact this
 obtain⟨j,A,c,x⟩:=Z6m (n:=n) (by omega);have s:(Gb (n.jns.map mkR)).toNat < n.jns.length:=(ac.1 c).1;refine As [1,2] [0,1] (fun i:Nat=>[(4,gI i),(3,.osl 2)]) (fun i=>[(2,.slc (((n.jns.take i).map mkR).map Zct) tMk 2)]) (fun i=>i≤n.jns.length) (fun i=>n.jns.length - i) 0 (ah _) ⟨⟨rfl,rfl⟩,⟨rfl,rfl⟩,trivial⟩ ⟨RL1,trivial⟩ rfl fun i hi=>?_;refine dg (fun r=>?_) fun r=>?_
 ·refine dp (by simpa using r) fun j k=>?_;have s:=C1 k;refine⟨by simp;omega,?_⟩;refine⟨by omega,i+1,by omega,(by dsimp only;omega),?_⟩;refine⟨?_,?_,rfl⟩<;>repeat' (first|exact trivial|with_reducible rfl|exact rfl|refine And.intro ?_ ?_)
  exact eqR (Z80 k)
 rw[aa] at r;rw[ap (by omega)];refine(Z19 (n.jns.map mkR) (by rw[aa];omega)).cal fun q a=>?_;subst a;refine dm (f:=enJ) A c ?_;rw[x];have w:j.l.length≤1000000:=t j (ae c);obtain⟨C,F,jn,L⟩:=j;dsimp only at w;have p:0≤n.many∧n.many≤1073741824∧n.many=n.many:=by omega
 refine⟨p,?_⟩;refine⟨⟨z.1,by rw[List.length_replicate];omega⟩,?_⟩;refine EvSet.zeros (y:=((L.map enE).length:Nat)) (by omega) (fun q a=>a) ?_;have u:E5 n L=⟨n.self,n.many,n.pmd,n.pmd,L,min n.cmt ((L.map enE).length:Nat),2,n.jns,(List.replicate n.many.toNat (0:Int)).set n.self.toNat ((L.map enE).length:Nat),((L.map enE).length:Nat),[],n.out⟩:=by unfold E5 A3;rw[aa]
 have v:=Lm (E5 n L) ⟨3,n.pmd,0,0,L⟩ w (by show n.many≤100;omega) (by show n.out.length≤900000;omega);rw[u] at v;refine v.cal fun q a=>?_;rw[←u] at a;subst a;obtain⟨d,h⟩:=G7 (E5 n L) ⟨3,n.pmd,0,0,L⟩;generalize Au (E5 n L) ⟨3,n.pmd,0,0,L⟩=n2 at d h;obtain⟨o,rfl⟩:=d.to;refine(Z3v _ (by show((List.replicate n.many.toNat (0:Int)).set n.self.toNat (A3 L)).length≤1000;rw[bh,List.length_replicate];omega) (by show n.many≤100;omega) (by have:(E5 n L).out.length+(E5 n L).many.toNat=n.out.length+n.many.toNat:=rfl;omega)).cal fun q a=>?_;subst a;exact rfl
theorem Xm:∀{l:List RJn} (r:List RJn) {j:RJn},(∃x∈l,x.frm > j.frm)→Lf (l++r) j=Lf l j++r
 | [],_,_,h=>by obtain⟨x,b,-⟩:=h;cases b
 | y::l,r,j,h=>by
  by_cases hy:y.frm > j.frm
  ·rw[c9];unfold Lf;rw[dc hy,dc hy];rfl
  ·obtain⟨x,b,a⟩:=h;rcases bi.1 b with rfl | b
   ·exact de a hy
   rw[c9];unfold Lf;rw[db hy,db hy,Xm r ⟨x,b,a⟩];rfl
theorem U2:∀{l:List RJn} (r:List RJn) {j:RJn},(¬∃x∈l,x.frm > j.frm)→Lf (l++r) j=l++Lf r j
 | [],_,_,_=>rfl
 | y::l,r,j,h=>by have hy:¬y.frm > j.frm:=fun a=>h ⟨y,by simp,a⟩;rw[c9];show Lf (y::(l++r)) j=y::(l++Lf r j);rw[←U2 r fun⟨x,hx,a⟩=>h ⟨x,by simp[hx],a⟩];show(if y.frm > j.frm then _ else y::Lf (l++r) j)=_;rw[db hy]
def bGf:Bool→G
 | false=>.ff
 | true=>.tt
def Z5w (l:List RJn)(j:RJn)(d:Bool):List RJn:=if d=true then Lf l j else l
abbrev tJn:Nat:=164
theorem Z67 (n:RN)(j:RJn)(s:n.jns.length≤1000):FnV Tryz.prog 136 [.agg (Cl n),.agg (enJ j)] fun g=>g=.agg (Cl (Em n j)):=by
 refine fnG Tryz.func136 ?_;refine As [2,3,4] [0,1,2] (fun x:Nat × Bool=>[(7,gI x.1),(5,.osl 3),(6,bGf x.2)]) (fun x=>[(3,.slc ((Z5w (n.jns.take x.1) j x.2).map enJ) tJn 4)]) (fun x=>x.1≤n.jns.length∧(x.2=true↔∃y∈n.jns.take x.1,y.frm > j.frm)∧(Z5w (n.jns.take x.1) j x.2).length≤x.1+1) (fun x=>n.jns.length - x.1) (0,false) ⟨ah _,by simp,by simp[Z5w]⟩ ⟨⟨rfl,rfl⟩,⟨rfl,rfl⟩,⟨rfl,rfl⟩,trivial⟩ ⟨RL1,trivial⟩ rfl fun⟨i,d⟩ hI=>?_;obtain⟨hi,hd,q⟩:=hI;dsimp only at hi hd q;refine dg (fun h=>?_) fun h=>?_
 ·cases d
  ·refine dp (by simpa using h) fun x b=>?_;have e:=C1 b;have k:¬∃y∈n.jns.take i,y.frm > j.frm:=fun o=>by cases hd.2 o
   have p:(Z5w (n.jns.take i) j false).length=(n.jns.take i).length:=rfl;rw[aw] at p;refine dg (fun m=>?_) fun m=>?_
   ·have m:x.frm > j.frm:=m;have c:Z5w (n.jns.take (i+1)) j true=n.jns.take i++[j]++[x]:=by
     show Lf _ _=_;rw[Ar b,U2 _ k];show _++(if x.frm > j.frm then j::[x] else _)=_;rw[dc m,bx];rfl
    refine⟨by simp;omega,?_⟩;refine dl (f:=enJ) b ?_;refine⟨by simp;omega,?_⟩;refine⟨by omega,(i+1,true),⟨e,⟨fun _=>⟨x,by rw[Ar b];simp,m⟩,fun _=>rfl⟩,by rw[c];simp;omega⟩,(by dsimp only;omega),?_⟩;refine⟨?_,?_,rfl⟩<;>repeat' (first|exact trivial|with_reducible rfl|exact rfl|refine And.intro ?_ ?_)
    exact eqR (by rw[c];show(n.jns.take i).map enJ++[enJ j]++[enJ x]=_;rw[ao,ao];rfl)
   ·have m:¬x.frm > j.frm:=m;refine dl (f:=enJ) b ?_;refine⟨by simp;omega,?_⟩;refine⟨by omega,(i+1,false),⟨e,⟨nofun,fun o=>?_⟩,by show(n.jns.take (i+1)).length≤_;rw[aw];omega⟩,(by dsimp only;omega),?_⟩
    ·rw[Ar b] at o;obtain⟨y,hy,a⟩:=o;rcases bu.1 hy with hy | hy
     ·exact de ⟨y,hy,a⟩ k
     ·rw[bo.1 hy] at a;exact de a m
    refine⟨?_,?_,rfl⟩<;>repeat' (first|exact trivial|with_reducible rfl|exact rfl|refine And.intro ?_ ?_)
    exact eqR (by show(n.jns.take i).map enJ++[enJ x]=(n.jns.take (i+1)).map enJ;rw[Ar b,ao];rfl)
  ·refine dp (by simpa using h) fun x b=>?_;have e:=C1 b;have c:Z5w (n.jns.take (i+1)) j true=Z5w (n.jns.take i) j true++[x]:=by
    show Lf _ _=Lf _ _++[x];rw[Ar b,Xm _ (hd.1 rfl)]
   refine⟨by rw[aa];simp;omega,?_⟩;refine⟨by omega,(i+1,true),⟨e,⟨fun _=>?_,fun _=>rfl⟩,by rw[c,ax];simp;omega⟩,(by dsimp only;omega),?_⟩
   ·obtain⟨y,hy,a⟩:=hd.1 rfl;exact⟨y,by rw[Ar b];simp[hy],a⟩
   refine⟨?_,?_,rfl⟩<;>repeat' (first|exact trivial|with_reducible rfl|exact rfl|refine And.intro ?_ ?_)
   exact eqR (by rw[c];show(Z5w (n.jns.take i) j true).map enJ++[enJ x]=_;rw[ao];rfl)
 ·rw[aa] at h;rw[ap (by omega)] at hd q;cases d
  ·have k:¬∃y∈n.jns,y.frm > j.frm:=fun o=>by cases hd.2 o
   have c:Em n j={n with jns:=n.jns++[j]}:=by have:=U2 (l:=n.jns) [] k;rw[cz] at this;unfold Em;rw[this];rfl
   have p:(Z5w n.jns j false).length=n.jns.length:=rfl;refine⟨by simp only[List.length_map,List.take_of_length_le (show n.jns.length≤i by omega)];simp;omega,?_⟩;have r:({n with jns:=n.jns++[j]}:RN).jns.map enJ=(n.jns.take i).map enJ++[enJ j]:=by rw[ap (by omega)];show(n.jns++[j]).map enJ=_;rw[ao];rfl
   rw[c];show _=G.agg [gI n.self,gI n.many,gI n.pmd,gI n.normal,.sl (n.log.map enE),gI n.cmt,gI n.phase,.sl (({n with jns:=n.jns++[j]}:RN).jns.map enJ),.sl (n.aks.map gI1),gI n.first,.sl (n.hrd.map gI1),.sl (n.out.map pkG)];rw[r];exact rfl
  ·have c:Em n j={n with jns:=Z5w (n.jns.take i) j true}:=by rw[ap (by omega)];rfl
   rw[c];exact rfl
structure RB (n:RN):Prop where
 many:n.many≤7
 self:0≤n.self∧n.self < n.many
 log:n.log.length≤150
 out:n.out.length≤700000
 hd:n.hrd.length≤900000
 jn:n.phase=1→n.jns.length≤99∧∀j∈n.jns,j.l.length≤150
 ak:n.phase=2→n.aks.length=n.many.toNat∧(∀x∈n.aks,0≤x∧x≤n.log.length)∧0≤n.first∧n.first≤n.log.length
theorem Zh3 (n:RN)(v:Int)(h:RB n):FnV Tryz.prog 77 [.agg (Cl n),gI v] fun g=>g=.tup [.agg (Cl (Cx n v).1),.v (.bool (Cx n v).2)]:=by
 have r:=h.many;have p:=h.self;have s:=h.log;have t:=h.out;refine fnG Tryz.func77 ?_;refine dg (fun d=>?_) fun d=>?_
 ·have e:Cx n v=(n,false):=by unfold Cx;exact dc (.inl d)
  rw[e];exact rfl
 refine(Kz v n.many).cal fun q c=>?_;subst c;refine dj (fun b=>?_) fun b=>?_
 ·have b:A8 v n.many≠n.self:=b;have e:Cx n v=(n,false):=by unfold Cx;exact dc (.inr b)
  rw[e];exact rfl
 have d:¬v≤n.pmd:=d;have b:A8 v n.many=n.self:=b;have e:Cx n v=(Cf (Au {n with pmd:=v,phase:=1,jns:=[⟨n.self,n.normal,A3 n.log,n.log⟩]} ⟨1,v,0,0,[]⟩),true):=by unfold Cx;exact db (fun i=>i.elim d fun i=>i b)
 rw[e];have k:(⟨n.self,n.many,v,n.normal,n.log,n.cmt,1,[⟨n.self,n.normal,((n.log.map enE).length:Nat),n.log⟩],n.aks,n.first,n.hrd,n.out⟩:RN)={n with pmd:=v,phase:=1,jns:=[⟨n.self,n.normal,A3 n.log,n.log⟩]}:=by unfold A3;rw[aa]
 have l:=Lm {n with pmd:=v,phase:=1,jns:=[⟨n.self,n.normal,A3 n.log,n.log⟩]} ⟨1,v,0,0,[]⟩ (ah _) (by show n.many≤100;omega) (by show n.out.length≤900000;omega);rw[←k] at l;refine l.cal fun q c=>?_;rw[k] at c;subst c;obtain⟨f,a⟩:=G7 {n with pmd:=v,phase:=1,jns:=[⟨n.self,n.normal,A3 n.log,n.log⟩]} ⟨1,v,0,0,[]⟩;generalize Au {n with pmd:=v,phase:=1,jns:=[⟨n.self,n.normal,A3 n.log,n.log⟩]} ⟨1,v,0,0,[]⟩=n2 at f a;obtain⟨o,rfl⟩:=f.to;have a:o.length≤n.out.length+n.many.toNat:=a;refine(Z10 {n with pmd:=v,phase:=1,jns:=[⟨n.self,n.normal,A3 n.log,n.log⟩],out:=o} (by show 1≤100;decide) (fun j m=>by rw[bo.1 m];show n.log.length≤_;omega) r p (by show o.length≤_;omega)).cal fun q c=>?_;subst c;exact rfl
theorem Zbu (n:RN)(s:ByteArray)(h:RB n):FnV Tryz.prog 78 [.agg (Cl n),.v (.string s)] fun g=>g=.tup [.agg (Cl (Bd n s).1),.v (.bool (Bd n s).2)]:=by
 have w:=h.many;have t:=h.self;have u:=h.log;have x:=h.out;refine fnG Tryz.func78 ?_;refine dj (fun b=>?_) fun b=>?_
 ·have b:n.phase≠2:=b;have e:Bd n s=(n,false):=by unfold Bd;exact dc (.inl b)
  rw[e];exact rfl
 have b:n.phase=2:=b;refine dg (fun f=>?_) fun f=>?_
 ·have f:((n.log.map enE).length:Int) ≥ 150:=f;rw[aa] at f;have e:Bd n s=(n,false):=by unfold Bd;exact dc (.inr (.inl (by omega)))
  rw[e];exact rfl
 have f:¬((n.log.map enE).length:Int) ≥ 150:=f;rw[aa] at f;refine dg (fun i=>?_) fun i=>?_
 ·have i:(s.size:Int) > 200:=i;have e:Bd n s=(n,false):=by unfold Bd;exact dc (.inr (.inr (by omega)))
  rw[e];exact rfl
 have i:¬(s.size:Int) > 200:=i;have e:Bd n s=(Ck (Au (Bp (J9 n (Ej n s)) n.self (Ej n s).n) ⟨4,n.pmd,0,(Ej n s).n - 1,[Ej n s]⟩),true):=by unfold Bd;exact db (fun c=>c.elim (fun c=>c b) fun c=>c.elim (fun c=>by omega) fun c=>by omega)
 rw[e];refine⟨by rw[aa];omega,?_⟩;have k:(⟨n.pmd,((n.log.map enE).length:Nat)+1,s⟩:REnt)=Ej n s:=by unfold Ej A3;rw[aa]
 have p:=Zd9 n (Ej n s) (by omega);rw[←k] at p;refine p.cal fun q a=>?_;rw[k] at a;subst a;obtain⟨ak,-,-,-⟩:=h.ak b;have l:(((n.log.map enE).length:Nat):Int)+1=(Ej n s).n:=by rw[←k]
 have m:=Z4g (J9 n (Ej n s)) n.self (Ej n s).n t.1 (by show n.self < (n.aks.length:Int);omega) (by show n.aks.length≤_;omega);rw[←l] at m;refine m.cal fun q a=>?_;rw[l] at a;subst a;refine⟨by rw[aa];omega,?_⟩;have r:=Lm (Bp (J9 n (Ej n s)) n.self (Ej n s).n) ⟨4,n.pmd,0,(Ej n s).n - 1,[Ej n s]⟩ (by show 1≤1000000;decide) (by show n.many≤100;omega) (by show n.out.length≤900000;omega);have eM:(⟨4,n.pmd,0,(Ej n s).n - 1,[Ej n s]⟩:RM)=⟨4,n.pmd,0,(((n.log.map enE).length:Nat):Int)+1 - 1,[⟨n.pmd,((n.log.map enE).length:Nat)+1,s⟩]⟩:=by rw[k,l]
 rw[eM] at r;refine r.cal fun q a=>?_;rw[←eM] at a;subst a;obtain⟨j,d⟩:=G7 (Bp (J9 n (Ej n s)) n.self (Ej n s).n) ⟨4,n.pmd,0,(Ej n s).n - 1,[Ej n s]⟩;generalize Au (Bp (J9 n (Ej n s)) n.self (Ej n s).n) ⟨4,n.pmd,0,(Ej n s).n - 1,[Ej n s]⟩=n2 at j d;obtain⟨o,rfl⟩:=j.to;have d:o.length≤n.out.length+n.many.toNat:=d;refine(Z3v {Bp (J9 n (Ej n s)) n.self (Ej n s).n with out:=o} (by show(n.aks.set _ _).length≤_;rw[bh];omega) (by show n.many≤100;omega) (by show o.length≤_;omega)).cal fun q a=>?_;subst a;exact rfl
theorem Z68 {b c:Bool}{A B:Prop}(e:b=c)(h:bif c then A else B):EvIf b A B:=by
 subst e;cases b
 ·exact⟨nofun,fun _=>h⟩
 ·exact⟨fun _=>h,nofun⟩
theorem Vw (k v x:Int)(l:List REnt)(i:Nat):enM ⟨k,v,0,x,l.drop i⟩=[gI k,gI v,gI 0,gI x,.sl (((l.map enE).take (((l.map enE).length:Nat):Int).toNat).drop i)]:=by unfold enM;rw[az,List.take_length,List.map_drop]
theorem Z8e (k v x:Int)(l:List REnt)(i:Nat):enM ⟨k,v,0,x,l.take i⟩=[gI k,gI v,gI 0,gI x,.sl (((l.map enE).take i).drop 0)]:=by unfold enM;rw[List.drop_zero,cw]
theorem Zdf (n:RN)(h:RB n):FnV Tryz.prog 79 [.agg (Cl n)] fun g=>g=.agg (Cl (Do n)):=by
 have P:=h.many;have R:=h.self;have Q:=h.log;have S:=h.out;have I:=h.jn;have E:=h.ak;have L:=h.hd;refine fnG Tryz.func79 ?_;refine As [1,2] [1] (fun x:Nat × RN=>[(3,gI x.1)]) (fun x=>[(0,.blk (Cl x.2) tRN)]) (fun x=>x.1≤n.many.toNat∧x.2=Ma (fun n i=>F4 (F7 (Fe (Fs n i) i) i) i) n x.1∧SameR n x.2∧x.2.out.length≤n.out.length+4 * x.1) (fun x=>n.many.toNat - x.1) (0,n) ⟨ah _,rfl,rfl,af _⟩ ⟨⟨rfl,rfl⟩,trivial⟩ ⟨RL1,trivial⟩ rfl fun⟨i,n'⟩ hI=>?_;obtain⟨hi,C,k,s⟩:=hI;dsimp only at hi C k s;have a:=Dh (fun n i=>F4 (F7 (Fe (Fs n i) i) i) i) n i;rw[←C] at a;obtain⟨o,t⟩:=k.to;refine dg (fun j=>?_) fun e=>?_
 ·have j:((i:Nat):Int) < n'.many:=j;have J:(i:Int) < n.many:=by rw[t] at j;exact j
  refine df (fun l=>?_) fun p=>?_
  ·have l:(i:Int)=n'.self:=l;rw[dc l] at a;refine⟨by omega,(i+1,n'),⟨by dsimp only;omega,a.symm,k,by dsimp only;omega⟩,(by dsimp only;omega),?_⟩;refine⟨?_,?_,rfl⟩<;>repeat' (first|exact trivial|with_reducible rfl|exact rfl|refine And.intro ?_ ?_)
  have p:(i:Int)≠n'.self:=p;rw[db p] at a;clear C;subst t;have s:o.length≤n.out.length+4 * i:=s;refine df (fun p1=>?_) fun p1=>?_
  ·have p1:n.phase=1:=p1;have y:∀m:RN,m.phase=1→F4 (F7 (Fe m i) i) i=m:=fun m P=>by rw[Jv (by omega),Ji (by omega),K4 (by omega)]
   obtain⟨jn,-⟩:=I p1;refine(Z9w {n with out:=o} i (by show n.jns.length≤_;omega)).cal fun q d=>?_;subst d;refine dk (fun hf=>?_) fun hf=>?_
   ·have hf:(!Kl {n with out:=o} i)=true:=hf;rw[Bool.not_eq_true'] at hf;have v:Fs {n with out:=o} i=Av {n with out:=o} i ⟨1,n.pmd,0,0,[]⟩:=by unfold Fs;exact dc ⟨p1,hf⟩
    rw[v,y (Av {n with out:=o} i ⟨1,n.pmd,0,0,[]⟩) p1] at a;refine(Gn {n with out:=o} i ⟨1,n.pmd,0,0,[]⟩ (ah _) (by show o.length≤_;omega)).cal fun q d=>?_;subst d;refine df (fun p2=>(by have p2:n.phase=2:=p2;omega)) fun _=>?_;refine df (fun p2=>(by have p2:n.phase=2:=p2;omega)) fun _=>?_;refine df (fun p2=>(by have p2:n.phase=2:=p2;omega)) fun _=>?_;refine⟨by omega,(i+1,Av {n with out:=o} i ⟨1,n.pmd,0,0,[]⟩),⟨by dsimp only;omega,a.symm,rfl,by dsimp only;rw[F3];dsimp only;omega⟩,(by dsimp only;omega),?_⟩;refine⟨?_,?_,rfl⟩<;>repeat' (first|exact trivial|with_reducible rfl|exact rfl|refine And.intro ?_ ?_)
   ·have hf:(!Kl {n with out:=o} i)=false:=hf;rw[Bool.not_eq_false'] at hf;have v:Fs {n with out:=o} i={n with out:=o}:=by unfold Fs;exact db (fun u=>by rw[hf] at u;cases u.2)
    rw[v,y {n with out:=o} p1] at a;refine df (fun p2=>(by have p2:n.phase=2:=p2;omega)) fun _=>?_;refine df (fun p2=>(by have p2:n.phase=2:=p2;omega)) fun _=>?_;refine df (fun p2=>(by have p2:n.phase=2:=p2;omega)) fun _=>?_;refine⟨by omega,(i+1,{n with out:=o}),⟨by dsimp only;omega,a.symm,rfl,by dsimp only;omega⟩,(by dsimp only;omega),?_⟩;refine⟨?_,?_,rfl⟩<;>repeat' (first|exact trivial|with_reducible rfl|exact rfl|refine And.intro ?_ ?_)
  have p1:¬n.phase=1:=p1;rw[Qn (n:={n with out:=o}) p1] at a;refine df (fun p2=>?_) fun p2=>?_
  ·have p2:n.phase=2:=p2;obtain⟨ak,K,N,M⟩:=E p2;obtain⟨x,B⟩:∃x,n.aks[i]?=some x:=⟨_,ab (by omega)⟩;have z:=K x (ae B);refine(Ue {n with out:=o} i (by show n.hrd.length≤_;omega)).cal fun q d=>?_;subst d;refine dk (fun hf=>?_) fun hf=>?_
   ·have hf:Eh {n with out:=o} i=true:=hf;have D:Fe {n with out:=o} i=Av {n with out:=o} i ⟨4,n.pmd,0,x,n.log.drop x.toNat⟩:=by unfold Fe;rw[dc ⟨p2,hf⟩];show Av _ _ ⟨4,n.pmd,0,n.aks[i]?.getD 0,n.log.drop (n.aks[i]?.getD 0).toNat⟩=_;rw[B];rfl
    have H:F7 (Av {n with out:=o} i ⟨4,n.pmd,0,x,n.log.drop x.toNat⟩) i=Av {n with out:=o} i ⟨4,n.pmd,0,x,n.log.drop x.toNat⟩:=by unfold F7;exact db (fun u=>by have w:Eh {n with out:=o} i=false:=u.2;rw[hf] at w;cases w)
    have G:F4 (Av {n with out:=o} i ⟨4,n.pmd,0,x,n.log.drop x.toNat⟩) i=Av (Av {n with out:=o} i ⟨4,n.pmd,0,x,n.log.drop x.toNat⟩) i ⟨6,n.pmd,0,n.cmt,[]⟩:=by unfold F4;exact dc p2
    rw[D,H,G] at a;refine dl (f:=gI1) B ?_;refine dl (f:=gI1) B ?_;refine⟨⟨z.1,by show x≤((n.log.map enE).length:Nat);rw[aa];exact z.2,br _⟩,⟨fun r hr=>(Ow _ r hr).1,?_⟩⟩;have A:=Gn {n with out:=o} i ⟨4,n.pmd,0,x,n.log.drop x.toNat⟩ (by show(n.log.drop _).length≤_;rw[bc];omega) (by show o.length≤_;omega);rw[Vw] at A;refine A.cal fun q d=>?_;subst d;refine df (fun _=>?_) fun b=>de p2 b;refine(Ue (Av {n with out:=o} i ⟨4,n.pmd,0,x,n.log.drop x.toNat⟩) i (by show n.hrd.length≤_;omega)).cal fun q d=>?_;subst d;refine Z68 (c:=false) (by show(!Eh {n with out:=o} i)=false;rw[hf];rfl) ?_;have O:(Av {n with out:=o} i ⟨4,n.pmd,0,x,n.log.drop x.toNat⟩).out.length=o.length+1:=F3 _ _ _;refine df (fun _=>?_) fun b=>de p2 b;refine(Gn (Av {n with out:=o} i ⟨4,n.pmd,0,x,n.log.drop x.toNat⟩) i ⟨6,n.pmd,0,n.cmt,[]⟩ (ah _) (by omega)).cal fun q d=>?_;subst d;have F:=F3 (Av {n with out:=o} i ⟨4,n.pmd,0,x,n.log.drop x.toNat⟩) i ⟨6,n.pmd,0,n.cmt,[]⟩;refine⟨by omega,(i+1,Av (Av {n with out:=o} i ⟨4,n.pmd,0,x,n.log.drop x.toNat⟩) i ⟨6,n.pmd,0,n.cmt,[]⟩),⟨by dsimp only;omega,a.symm,rfl,by dsimp only;omega⟩,(by dsimp only;omega),?_⟩;refine⟨?_,?_,rfl⟩<;>repeat' (first|exact trivial|with_reducible rfl|exact rfl|refine And.intro ?_ ?_)
   ·have hf:Eh {n with out:=o} i=false:=hf;have D:Fe {n with out:=o} i={n with out:=o}:=by unfold Fe;exact db (fun u=>by have w:=u.2;rw[hf] at w;cases w)
    have H:F7 {n with out:=o} i=Av {n with out:=o} i ⟨3,n.pmd,0,0,n.log.take n.first.toNat⟩:=by unfold F7;exact dc ⟨p2,hf⟩
    have G:F4 (Av {n with out:=o} i ⟨3,n.pmd,0,0,n.log.take n.first.toNat⟩) i=Av (Av {n with out:=o} i ⟨3,n.pmd,0,0,n.log.take n.first.toNat⟩) i ⟨6,n.pmd,0,n.cmt,[]⟩:=by unfold F4;exact dc p2
    rw[D,H,G] at a;refine df (fun _=>?_) fun b=>de p2 b;refine(Ue {n with out:=o} i (by show n.hrd.length≤_;omega)).cal fun q d=>?_;subst d;refine Z68 (c:=true) (by show(!Eh {n with out:=o} i)=true;rw[hf];rfl) ?_;refine⟨⟨br _,N,by show n.first≤((n.log.map enE).length:Nat);rw[aa];exact M⟩,⟨fun r hr=>(Ow _ r hr).1,?_⟩⟩;have A:=Gn {n with out:=o} i ⟨3,n.pmd,0,0,n.log.take n.first.toNat⟩ (by show(n.log.take _).length≤_;rw[aw];omega) (by show o.length≤_;omega);rw[Z8e] at A;refine A.cal fun q d=>?_;subst d;have O:(Av {n with out:=o} i ⟨3,n.pmd,0,0,n.log.take n.first.toNat⟩).out.length=o.length+1:=F3 _ _ _;refine df (fun _=>?_) fun b=>de p2 b;refine(Gn (Av {n with out:=o} i ⟨3,n.pmd,0,0,n.log.take n.first.toNat⟩) i ⟨6,n.pmd,0,n.cmt,[]⟩ (ah _) (by omega)).cal fun q d=>?_;subst d;have F:=F3 (Av {n with out:=o} i ⟨3,n.pmd,0,0,n.log.take n.first.toNat⟩) i ⟨6,n.pmd,0,n.cmt,[]⟩;refine⟨by omega,(i+1,Av (Av {n with out:=o} i ⟨3,n.pmd,0,0,n.log.take n.first.toNat⟩) i ⟨6,n.pmd,0,n.cmt,[]⟩),⟨by dsimp only;omega,a.symm,rfl,by dsimp only;omega⟩,(by dsimp only;omega),?_⟩;refine⟨?_,?_,rfl⟩<;>repeat' (first|exact trivial|with_reducible rfl|exact rfl|refine And.intro ?_ ?_)
  ·have p2:¬n.phase=2:=p2;rw[Jv (n:={n with out:=o}) p2,Ji (n:={n with out:=o}) p2,K4 (n:={n with out:=o}) p2] at a;refine df (fun b=>de b p2) fun _=>?_;refine df (fun b=>de b p2) fun _=>?_;refine⟨by omega,(i+1,{n with out:=o}),⟨by dsimp only;omega,a.symm,rfl,by dsimp only;omega⟩,(by dsimp only;omega),?_⟩;refine⟨?_,?_,rfl⟩<;>repeat' (first|exact trivial|with_reducible rfl|exact rfl|refine And.intro ?_ ?_)
 ·have e:¬((i:Nat):Int) < n'.many:=e;have:i=n.many.toNat:=by rw[t] at e;have e:¬((i:Nat):Int) < n.many:=e;omega
  subst this;have v:Do n=n':=by unfold Do;rw[C]
  rw[v];exact rfl
theorem V5 (k v:Int)(l:List REnt):enM ⟨k,v,0,A3 l,[]⟩=[gI k,gI v,gI 0,gI ((l.map enE).length:Nat),.sl []]:=by unfold enM A3;rw[aa];rfl
theorem Ziz (n:RN)(who:Int)(m:RM)(h:RB n):FnV Tryz.prog 109 [.agg (Cl n),gI who,.agg (enM m)] fun g=>g=.agg (Cl (Bh n who m)):=by
 have l:=h.log;have k:=h.out;refine fnG Tryz.func109 ?_;refine dg (fun c=>?_) fun c=>?_
 ·have c:m.view > n.pmd:=c;have d:Fw n m={n with pmd:=m.view,phase:=0}:=by unfold Fw;exact dc c
  refine df (fun _=>?_) fun a=>de rfl a;refine dg (fun b=>?_) fun b=>?_
  ·have b:m.view > n.normal:=b;have e:Bh n who m=Av {n with pmd:=m.view,phase:=0} who ⟨2,m.view,n.normal,0,n.log⟩:=by
    unfold Bh;rw[d];exact dc ⟨rfl,b,rfl⟩
   rw[e];refine df (fun _=>?_) fun a=>de rfl a;refine(Gn {n with pmd:=m.view,phase:=0} who ⟨2,m.view,n.normal,0,n.log⟩ (by show n.log.length≤_;omega) (by show n.out.length≤_;omega)).cal fun q j=>?_;subst j;exact rfl
  ·have b:¬m.view > n.normal:=b;have e:Bh n who m={n with pmd:=m.view,phase:=0}:=by
    unfold Bh;rw[d];exact db (fun a=>b a.2.1)
   rw[e];exact rfl
 ·have c:¬m.view > n.pmd:=c;have d:Fw n m=n:=by unfold Fw;exact db c
  have no:¬(m.view=n.pmd∧m.view > n.normal∧n.phase=0)→Bh n who m=n:=fun a=>by unfold Bh;rw[d];exact db a
  refine df (fun b=>?_) fun b=>?_
  ·have b:m.view=n.pmd:=b;refine dg (fun f=>?_) fun f=>?_
   ·have f:m.view > n.normal:=f;refine df (fun i=>?_) fun i=>?_
    ·have i:n.phase=0:=i;have e:Bh n who m=Av n who ⟨2,m.view,n.normal,0,n.log⟩:=by
      unfold Bh;rw[d];exact dc ⟨b,f,i⟩
     rw[e];refine(Gn n who ⟨2,m.view,n.normal,0,n.log⟩ (by show n.log.length≤_;omega) (by omega)).cal fun q j=>?_;subst j;exact rfl
    ·rw[no (fun a=>i a.2.2)];exact rfl
   ·rw[no (fun a=>f a.2.1)];exact rfl
  ·rw[no (fun a=>b a.1)];exact rfl
theorem Zh2 (n:RN)(who:Int)(m:RM)(h:RB n)(v:m.l.length≤150):FnV Tryz.prog 106 [.agg (Cl n),gI who,.agg (enM m)] fun g=>g=.agg (Cl (Bn n who m)):=by
 have z:=h.log;have w:=h.out;refine fnG Tryz.func106 ?_;have no:(n.phase≠1∨n.pmd≠m.view∨Kl n who=true)→Bn n who m=n:=fun a=>by unfold Bn;exact dc a
 refine dj (fun c=>?_) fun c=>?_
 ·rw[no (.inl c)];exact rfl
 have c:n.phase=1:=c;obtain⟨u,o⟩:=h.jn c;refine dj (fun d=>?_) fun d=>?_
 ·rw[no (.inr (.inl d))];exact rfl
 have d:n.pmd=m.view:=d;refine(Z9w n who (by omega)).cal fun q f=>?_;subst f;refine dk (fun i=>?_) fun i=>?_
 ·rw[no (.inr (.inr i))];exact rfl
 have e:Bn n who m=Cf (Em n ⟨who,m.normal,A3 m.l,m.l⟩):=by unfold Bn;exact db (fun a=>a.elim (fun a=>a c) fun a=>a.elim (fun a=>a d) fun a=>by rw[i] at a;cases a)
 rw[e];have k:=Z67 n ⟨who,m.normal,A3 m.l,m.l⟩ (by omega);have s:enJ ⟨who,m.normal,A3 m.l,m.l⟩=[gI who,gI m.normal,gI ((m.l.map enE).length:Nat),.sl (m.l.map enE)]:=by unfold enJ A3;rw[aa]
 rw[s] at k;refine k.cal fun q f=>?_;subst f;have p:∀(l:List RJn) (j:RJn),(Lf l j).length=l.length+1∧∀x∈Lf l j,x=j∨x∈l:=by
  intro l j
  induction l with
  | nil=>exact⟨rfl,fun x b=>.inl (bo.1 b)⟩
  | cons y l ih =>
   unfold Lf;split
   ·exact⟨rfl,fun x b=>by rcases bi.1 b with rfl | b;exact .inl rfl;exact .inr b⟩
   ·refine⟨by rw[bd,ih.1];rfl,fun x b=>?_⟩;rcases bi.1 b with rfl | b
    ·exact .inr (by simp)
    ·exact(ih.2 x b).elim .inl fun a=>.inr (by simp[a])
 obtain⟨r,t⟩:=p n.jns ⟨who,m.normal,A3 m.l,m.l⟩;refine(Z10 (Em n ⟨who,m.normal,A3 m.l,m.l⟩) (by show(Lf n.jns _).length≤_;rw[r];omega) (fun x b=>by
  rcases t x b with rfl | b
  ·show m.l.length≤_;omega
  ·have:=o x b;omega) h.many h.self (by show n.out.length≤_;omega)).cal fun q f=>?_
 subst f;exact rfl
theorem Zdw (n:RN)(who:Int)(m:RM)(h:RB n):FnV Tryz.prog 110 [.agg (Cl n),gI who,.agg (enM m)] fun g=>g=.agg (Cl (Ax n who m)):=by
 have u:=h.log;have v:=h.out;refine fnG Tryz.func110 ?_;have o:m.view ≥ n.pmd∧m.view > n.normal→Ax n who m=Av {n with pmd:=m.view,normal:=m.view,log:=m.l,cmt:=min n.cmt (A3 m.l),phase:=0} who ⟨5,m.view,0,A3 m.l,[]⟩:=fun a=>by
  have s:Cg n m={n with pmd:=m.view,normal:=m.view,log:=m.l,cmt:=min n.cmt (A3 m.l),phase:=0}:=by unfold Cg;exact dc a
  unfold Ax;rw[s];exact dc ⟨rfl,rfl⟩
 have f:¬(m.view ≥ n.pmd∧m.view > n.normal)→Cg n m=n:=fun a=>by unfold Cg;exact db a
 have e:¬(m.view ≥ n.pmd∧m.view > n.normal)→¬(m.view=n.pmd∧m.view=n.normal)→Ax n who m=n:=fun c b=>by unfold Ax;rw[f c];exact db b
 have k:¬(m.view ≥ n.pmd∧m.view > n.normal)→(m.view=n.pmd∧m.view=n.normal)→Ax n who m=Av n who ⟨5,m.view,0,A3 n.log,[]⟩:=fun c b=>by unfold Ax;rw[f c];exact dc b
 refine dg (fun c=>?_) fun c=>?_
 ·have c:m.view ≥ n.pmd:=c;refine dg (fun b=>?_) fun b=>?_
  ·have b:m.view > n.normal:=b;rw[o ⟨c,b⟩];refine df (fun _=>?_) fun a=>de rfl a;refine df (fun _=>?_) fun a=>de rfl a;have t:A3 m.l=((m.l.map enE).length:Nat):=by unfold A3;rw[aa]
   have i:=Gn {n with pmd:=m.view,normal:=m.view,log:=m.l,cmt:=min n.cmt (A3 m.l),phase:=0} who ⟨5,m.view,0,A3 m.l,[]⟩ (ah _) (by show n.out.length≤_;omega);have r:({n with pmd:=m.view,normal:=m.view,log:=m.l,cmt:=min n.cmt ((m.l.map enE).length:Nat),phase:=0}:RN)={n with pmd:=m.view,normal:=m.view,log:=m.l,cmt:=min n.cmt (A3 m.l),phase:=0}:=by rw[t]
   rw[V5,←r] at i;refine i.cal fun q j=>?_;rw[r] at j;subst j;exact rfl
  ·have b:¬m.view > n.normal:=b;refine df (fun d=>?_) fun d=>?_
   ·refine df (fun p=>?_) fun p=>?_
    ·rw[k (fun a=>b a.2) ⟨d,p⟩];have i:=Gn n who ⟨5,m.view,0,A3 n.log,[]⟩ (ah _) (by omega);rw[V5] at i;refine i.cal fun q j=>?_;subst j;exact rfl
    ·rw[e (fun a=>b a.2) fun a=>p a.2];exact rfl
   ·rw[e (fun a=>b a.2) fun a=>d a.1];exact rfl
 ·have c:¬m.view ≥ n.pmd:=c;refine df (fun d=>?_) fun d=>?_
  ·have d:m.view=n.pmd:=d;omega
  ·rw[e (fun a=>c a.1) fun a=>d a.1];exact rfl
theorem Z1q {l:List REnt}{x:REnt}(h:l[l.length - 1]?=some x):vw 0 l=x.v:=by unfold vw;rw[List.getLast?_eq_getElem?,h];rfl
theorem Ziy (n:RN)(who:Int)(m:RM)(h:RB n)(E:m.l.length≤150):FnV Tryz.prog 111 [.agg (Cl n),gI who,.agg (enM m)] fun g=>g=.agg (Cl (Ca n who m)):=by
 have B:=h.log;have F:=h.out;refine fnG Tryz.func111 ?_;have no:(n.pmd≠m.view∨n.normal≠m.view∨n.phase≠0)→Ca n who m=n:=fun a=>by unfold Ca;exact dc a
 refine dj (fun s=>?_) fun s=>?_
 ·rw[no (.inl s)];exact rfl
 refine dj (fun u=>?_) fun u=>?_
 ·rw[no (.inr (.inl u))];exact rfl
 refine dj (fun t=>?_) fun t=>?_
 ·rw[no (.inr (.inr t))];exact rfl
 have s:n.pmd=m.view:=s;have u:n.normal=m.view:=u;have t:n.phase=0:=t;have e:Ca n who m=Av (Cm m.l n) who ⟨5,m.view,0,A3 (Cm m.l n).log,[]⟩:=by unfold Ca;exact db (fun a=>a.elim (fun a=>a s) fun a=>a.elim (fun a=>a u) fun a=>a t)
 rw[e];clear no e;refine As [1,3,5,6] [1,2] (fun x:Nat × List REnt=>[(7,gI x.1)]) (fun x=>[(0,.blk (Cl {n with log:=x.2}) tRN)]) (fun x=>x.1≤m.l.length∧Cm (m.l.drop x.1) {n with log:=x.2}=Cm m.l n∧x.2.length≤150+x.1) (fun x=>m.l.length - x.1) (0,n.log) ⟨ah _,rfl,B⟩ ⟨⟨rfl,rfl⟩,trivial⟩ ⟨RL1,trivial⟩ rfl fun⟨i,L⟩ hI=>?_;obtain⟨hi,b,C⟩:=hI;dsimp only at hi b C;have fin:Cm m.l n={n with log:=L}→FnV Tryz.prog 118 [.agg (Cl {n with log:=L}),gI who,.agg [gI 5,gI m.view,gI 0,gI ((L.map enE).length:Nat),.sl []]] fun g=>g=.agg (Cl (Av (Cm m.l n) who ⟨5,m.view,0,A3 (Cm m.l n).log,[]⟩)):=fun a=>by have A:=Gn {n with log:=L} who ⟨5,m.view,0,A3 L,[]⟩ (ah _) (by show n.out.length≤_;omega);rw[V5] at A;rw[a];exact A
 refine dg (fun w=>?_) fun w=>?_
 ·refine dp (by simpa using w) fun x k=>?_;have c:=C1 k;have D:m.l.drop i=x::m.l.drop (i+1):=by
   rw[List.drop_eq_getElem_cons c];rw[ab c] at k;rw[cj k]
  rw[D] at b;have b:(if x.n > ((L.length:Nat):Int)+1 then({n with log:=L}:RN) else if x.n=((L.length:Nat):Int)+1∧(L.length=0∨x.v ≥ vw 0 L) then Cm (m.l.drop (i+1)) (J9 {n with log:=L} x) else Cm (m.l.drop (i+1)) {n with log:=L})=Cm m.l n:=b;refine⟨by rw[aa];show(-9223372036854775808:Int)≤((L.length:Nat):Int)+1∧((L.length:Nat):Int)+1≤9223372036854775807;omega,?_⟩;refine dg (fun r=>?_) fun r=>?_
  ·have r:x.n≤((L.map enE).length:Nat)+1:=r;rw[aa] at r;rw[db (show ¬x.n > ((L.length:Nat):Int)+1 by omega)] at b;refine dl (f:=enE) k ?_;refine⟨by rw[aa];show(-9223372036854775808:Int)≤((L.length:Nat):Int)+1∧((L.length:Nat):Int)+1≤9223372036854775807;omega,?_⟩;refine df (fun d=>?_) fun d=>?_
   ·have d:x.n=((L.map enE).length:Nat)+1:=d;rw[aa] at d;refine df (fun j=>?_) fun j=>?_
    ·have j:(((L.map enE).length:Nat):Int)=0:=j;rw[aa] at j;rw[dc ⟨d,.inl (by omega)⟩] at b;refine dl (f:=enE) k ?_;refine(Zd9 {n with log:=L} x (by show L.length≤_;omega)).cal fun q p=>?_;subst p;refine⟨by omega,(i+1,L++[x]),⟨c,b,by dsimp only;rw[ax,List.length_singleton];omega⟩,(by dsimp only;omega),?_⟩;refine⟨?_,?_,rfl⟩<;>repeat' (first|exact trivial|with_reducible rfl|exact rfl|refine And.intro ?_ ?_)
    ·have j:¬(((L.map enE).length:Nat):Int)=0:=j;rw[aa] at j;refine dl (f:=enE) k ?_;obtain⟨y,hy⟩:∃y,L[L.length - 1]?=some y:=⟨_,ab (by omega)⟩;have z:L[((((L.map enE).length:Nat):Int) - 1).toNat]?=some y:=by rw[aa,show(((L.length:Nat):Int) - 1).toNat=L.length - 1 by omega];exact hy
     refine⟨by rw[aa];show(-9223372036854775808:Int)≤((L.length:Nat):Int) - 1∧((L.length:Nat):Int) - 1≤9223372036854775807;omega,?_⟩;refine dm (f:=enE) (by rw[aa];show 0≤((L.length:Nat):Int) - 1;omega) z ?_;refine dg (fun o=>?_) fun o=>?_
     ·have o:x.v ≥ y.v:=o;rw[dc ⟨d,.inr (by rw[Z1q hy];exact o)⟩] at b;refine dl (f:=enE) k ?_;refine(Zd9 {n with log:=L} x (by show L.length≤_;omega)).cal fun q p=>?_;subst p;refine⟨by omega,(i+1,L++[x]),⟨c,b,by dsimp only;rw[ax,List.length_singleton];omega⟩,(by dsimp only;omega),?_⟩;refine⟨?_,?_,rfl⟩<;>repeat' (first|exact trivial|with_reducible rfl|exact rfl|refine And.intro ?_ ?_)
     ·have o:¬x.v ≥ y.v:=o;rw[db (fun a=>a.2.elim (fun a=>j (by omega)) fun a=>o (by rw[Z1q hy] at a;exact a))] at b;refine⟨by omega,(i+1,L),⟨c,b,by dsimp only;omega⟩,(by dsimp only;omega),?_⟩;refine⟨?_,?_,rfl⟩<;>repeat' (first|exact trivial|with_reducible rfl|exact rfl|refine And.intro ?_ ?_)
   ·have d:¬x.n=((L.map enE).length:Nat)+1:=d;rw[aa] at d;rw[db (fun a=>d a.1)] at b;refine⟨by omega,(i+1,L),⟨c,b,by dsimp only;omega⟩,(by dsimp only;omega),?_⟩;refine⟨?_,?_,rfl⟩<;>repeat' (first|exact trivial|with_reducible rfl|exact rfl|refine And.intro ?_ ?_)
  ·have r:¬x.n≤((L.map enE).length:Nat)+1:=r;rw[aa] at r;rw[dc (show x.n > ((L.length:Nat):Int)+1 by omega)] at b;refine(fin b.symm).cal fun q p=>?_;subst p;exact rfl
 ·rw[aa] at w;rw[c8 (by omega)] at b;refine(fin b.symm).cal fun q p=>?_;subst p;exact rfl
theorem Y4 (n:RN):∃c o,Ck n={n with cmt:=c,out:=o}∧o.length≤n.out.length+n.many.toNat:=by
 unfold Ck;split
 ·obtain⟨d,b⟩:=G7 {n with cmt:=Bi n.aks} ⟨6,n.pmd,0,Bi n.aks,[]⟩;obtain⟨o,a⟩:=d.to;rw[a] at b;exact⟨Bi n.aks,o,a,b⟩
 ·exact⟨n.cmt,n.out,rfl,by omega⟩
theorem Zki (n:RN)(who:Nat)(m:RM)(h:RB n)(v:(who:Int) < n.many)(u:0≤m.num):FnV Tryz.prog 107 [.agg (Cl n),gI who,.agg (enM m)] fun g=>g=.agg (Cl (C5 n who m)):=by
 have y:=h.log;have w:=h.out;have a:=h.hd;have x:=h.many;refine fnG Tryz.func107 ?_;have no:(n.phase≠2∨n.pmd≠m.view∨m.num > n.log.length)→C5 n who m=n:=fun a=>by unfold C5;exact dc a
 refine dj (fun f=>?_) fun f=>?_
 ·rw[no (.inl f)];exact rfl
 refine dj (fun j=>?_) fun j=>?_
 ·rw[no (.inr (.inl j))];exact rfl
 refine dg (fun b=>?_) fun b=>?_
 ·have b:m.num > ((n.log.map enE).length:Nat):=b;rw[aa] at b;rw[no (.inr (.inr b))];exact rfl
 have f:n.phase=2:=f;have j:n.pmd=m.view:=j;have b:¬m.num > ((n.log.map enE).length:Nat):=b;rw[aa] at b;obtain⟨ak,-,-,-⟩:=h.ak f;have e:C5 n who m=if m.num < (H7 n who m).log.length then Av (H7 n who m) who ⟨4,(H7 n who m).pmd,0,m.num,(H7 n who m).log.drop m.num.toNat⟩ else H7 n who m:=by unfold C5;exact db (fun a=>a.elim (fun a=>a f) fun a=>a.elim (fun a=>a j) fun a=>b a)
 clear no;refine⟨X3 _,?_⟩;refine⟨by simp;omega,?_⟩;refine⟨by simp;omega,?_⟩;have t:Cl {n with hrd:=n.hrd++[(who:Int)]}=[gI n.self,gI n.many,gI n.pmd,gI n.normal,.sl (n.log.map enE),gI n.cmt,gI n.phase,.sl (n.jns.map enJ),.sl (n.aks.map gI1),gI n.first,.sl ([]++n.hrd.map gI1++[gI1 who]),.sl (n.out.map pkG)]:=by unfold Cl;rw[ao,cy];rfl
 have i:=Z4g {n with hrd:=n.hrd++[(who:Int)]} who m.num (by omega) (by show(who:Int) < (n.aks.length:Nat);omega) (by show n.aks.length≤_;omega);rw[t] at i;refine i.cal fun q k=>?_;subst k;refine(Z3v (Bp {n with hrd:=n.hrd++[(who:Int)]} who m.num) (by show(n.aks.set _ _).length≤_;rw[bh];omega) (by show n.many≤100;omega) (by show n.out.length≤_;omega)).cal fun q k=>?_;subst k;obtain⟨c,o,l,s⟩:=Y4 (Bp {n with hrd:=n.hrd++[(who:Int)]} who m.num);have l:H7 n who m={Bp {n with hrd:=n.hrd++[(who:Int)]} who m.num with cmt:=c,out:=o}:=l;have s:o.length≤n.out.length+n.many.toNat:=s;rw[l] at e;have e:C5 n who m=if m.num < ((n.log.length:Nat):Int) then Av {Bp {n with hrd:=n.hrd++[(who:Int)]} who m.num with cmt:=c,out:=o} who ⟨4,n.pmd,0,m.num,n.log.drop m.num.toNat⟩ else {Bp {n with hrd:=n.hrd++[(who:Int)]} who m.num with cmt:=c,out:=o}:=e;have p:Ck (Bp {n with hrd:=n.hrd++[(who:Int)]} who m.num)={Bp {n with hrd:=n.hrd++[(who:Int)]} who m.num with cmt:=c,out:=o}:=l;rw[p];refine dg (fun d=>?_) fun d=>?_
 ·have d:m.num < ((n.log.map enE).length:Nat):=d;rw[aa] at d;rw[dc d] at e;rw[e];refine⟨⟨u,by show m.num≤((n.log.map enE).length:Nat);rw[aa];omega,br _⟩,⟨fun r hr=>(Ow _ r hr).1,?_⟩⟩;have i:=Gn {Bp {n with hrd:=n.hrd++[(who:Int)]} who m.num with cmt:=c,out:=o} who ⟨4,n.pmd,0,m.num,n.log.drop m.num.toNat⟩ (by show(n.log.drop _).length≤_;rw[bc];omega) (by show o.length≤_;omega);rw[Vw] at i;refine i.cal fun q k=>?_;subst k;exact rfl
 ·have d:¬m.num < ((n.log.map enE).length:Nat):=d;rw[aa] at d;rw[db d] at e;rw[e];exact rfl
theorem Z2m (n:RN):FnV Tryz.prog 38 [.agg (Cl n)] fun g=>g=.tup [.agg (Cl {n with out:=[]}),.sl (n.out.map pkG)]:=by refine fnG Tryz.func38 ?_;exact rfl
theorem S0 (n:RN):FnV Tryz.prog 36 [.agg (Cl n)] fun g=>g=.agg (Cl (Ay n)):=by refine fnG Tryz.func36 ?_;exact rfl
theorem Zg5 (n:RN)(p:RPk)(h:RB n)(B:p.body.size≤2000000):FnV Tryz.prog 74 [.agg (Cl n),.agg (pkG p)] fun g=>g=.agg (Cl (Dw n p)):=by
 obtain⟨frm,to,body⟩:=p;have B:body.size≤2000000:=B;have F:=h.many;refine fnG Tryz.func74 ?_;refine(Z2i body B).cal fun q d=>?_;subst d;unfold rdM;have no:(¬Gw body.data.toList∨to≠n.self∨frm=n.self∨frm < 0∨frm ≥ n.many)→Dw n ⟨frm,to,body⟩=n:=fun a=>by unfold Dw;exact dc a
 refine dj (fun k=>?_) fun k=>?_
 ·rw[no (.inl (fun C=>k (dc C)))];exact rfl
 have y:Gw body.data.toList:=bz fun C=>by have k:eMd body.data.toList=0:=k;unfold eMd at k;rw[db C] at k;cases k
 refine dj (fun v=>?_) fun v=>?_
 ·rw[no (.inr (.inl v))];exact rfl
 have v:to=n.self:=v;refine df (fun z=>?_) fun z=>?_
 ·rw[no (.inr (.inr (.inl z)))];exact rfl
 have z:frm≠n.self:=z;refine dg (fun w=>?_) fun w=>?_
 ·rw[no (.inr (.inr (.inr (.inl w))))];exact rfl
 have w:¬frm < 0:=w;refine dg (fun A=>?_) fun A=>?_
 ·rw[no (.inr (.inr (.inr (.inr A))))];exact rfl
 have A:¬frm ≥ n.many:=A;have x:¬(¬Gw body.data.toList∨to≠n.self∨frm=n.self∨frm < 0∨frm ≥ n.many):=fun a=>a.elim (fun a=>a y) fun a=>a.elim (fun a=>a v) fun a=>a.elim z fun a=>a.elim w A;clear no;obtain⟨E,G,u,-⟩:=Az (U9 y);obtain⟨f,rfl⟩:∃f:Nat,frm=f:=⟨frm.toNat,by omega⟩;have b:Dw n ⟨f,to,body⟩=if(mD body.data.toList).kind=2 then Bn n f (mD body.data.toList) else if(mD body.data.toList).kind=5 then C5 n f (mD body.data.toList) else if A8 (mD body.data.toList).view n.many≠f then n else if(mD body.data.toList).kind=1 then Bh n f (mD body.data.toList) else if(mD body.data.toList).kind=3 then Ax n f (mD body.data.toList) else if(mD body.data.toList).kind=4 then Ca n f (mD body.data.toList) else if n.pmd=(mD body.data.toList).view∧n.normal=(mD body.data.toList).view∧n.phase=0 then {n with cmt:=max n.cmt (min (mD body.data.toList).num (A3 n.log))} else n:=by unfold Dw;exact db x
 clear x k;generalize mD body.data.toList=m at *;refine df (fun s=>?_) fun s=>?_
 ·have s:m.kind=2:=s;rw[b,dc s];refine(Zh2 n f m h u).cal fun q d=>?_;subst d;exact rfl
 have s:¬m.kind=2:=s;rw[db s] at b;refine df (fun t=>?_) fun t=>?_
 ·have t:m.kind=5:=t;rw[b,dc t];refine(Zki n f m h (by omega) (by omega)).cal fun q d=>?_;subst d;exact rfl
 have t:¬m.kind=5:=t;rw[db t] at b;refine(Kz m.view n.many).cal fun q d=>?_;subst d;refine dj (fun l=>?_) fun l=>?_
 ·have l:A8 m.view n.many≠f:=l;rw[b,dc l];exact rfl
 have l:A8 m.view n.many=f:=l;rw[db (fun a=>a l)] at b;refine df (fun o=>?_) fun o=>?_
 ·have o:m.kind=1:=o;rw[b,dc o];refine(Ziz n f m h).cal fun q d=>?_;subst d;exact rfl
 have o:¬m.kind=1:=o;rw[db o] at b;refine df (fun r=>?_) fun r=>?_
 ·have r:m.kind=3:=r;rw[b,dc r];refine(Zdw n f m h).cal fun q d=>?_;subst d;exact rfl
 have r:¬m.kind=3:=r;rw[db r] at b;refine df (fun c=>?_) fun c=>?_
 ·have c:m.kind=4:=c;rw[b,dc c];refine(Ziy n f m h u).cal fun q d=>?_;subst d;exact rfl
 have c:¬m.kind=4:=c;rw[db c] at b;refine df (fun j=>?_) fun j=>?_
 ·have j:n.pmd=m.view:=j;refine df (fun e=>?_) fun e=>?_
  ·have e:n.normal=m.view:=e;refine df (fun i=>?_) fun i=>?_
   ·have i:n.phase=0:=i;have D:A3 n.log=((n.log.map enE).length:Nat):=by unfold A3;rw[aa]
    rw[dc ⟨j,e,i⟩,D] at b;rw[b];exact rfl
   ·rw[b,db (fun a=>i a.2.2)];exact rfl
  ·rw[b,db (fun a=>e a.2.1)];exact rfl
 ·rw[b,db (fun a=>j a.1)];exact rfl
end Go.Proofs.YtihfaocdpmmooaaGreat

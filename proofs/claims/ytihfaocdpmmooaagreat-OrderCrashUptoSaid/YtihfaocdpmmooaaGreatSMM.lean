
import Derived.Test.YtihfaocdpmmooaaGreatRM1
import Derived.Test.YtihfaocdpmmooaaGreatZNl
import Derived.Test.YtihfaocdpmmooaaGreatNM1
namespace Go.Proofs.YtihfaocdpmmooaaGreat
theorem M7:∀(l m:List REnt) (v:Int) (k:Nat),Ap v k (l++m)=(Ap v k l&&Ap (vw v l) (k+l.length) m)
 | [],m,v,k=>by simp[Ap,vw]
 | e::l,m,v,k=>by
  have ev:vw v (e::l)=vw e.v l:=by unfold vw;rw[List.getLast?_cons];cases l.getLast?<;>rfl
  rw[c9];show(okB v k e&&Ap e.v (k+1) (l++m))=(okB v k e&&Ap e.v (k+1) l&&_);rw[M7 l m e.v (k+1),ev,Bool.and_assoc,bd,show k+1+l.length=k+(l.length+1) by omega]
theorem R8:∀{l:List REnt} {v:Int} {k:Nat},Ap v k l=true→∀e∈l,v≤e.v∧e.v≤4611686018427387904∧e.b.size≤200∧1≤e.n∧e.n≤k+l.length
 | [],_,_,_,e,c=>by cases c
 | x::l,v,k,h,e,c=>by
  have h:(okB v k x&&Ap x.v (k+1) l)=true:=h;rw[au] at h;have a:=h.1;unfold okB at a;rw[decide_eq_true_iff] at a;rcases bi.1 c with rfl | c
  ·rw[bd];exact⟨a.2.1,a.2.2.1,a.2.2.2,by omega,by omega⟩
  ·have:=R8 h.2 e c;rw[bd];exact⟨by omega,this.2.1,this.2.2.1,this.2.2.2.1,by omega⟩
structure NV (n:PN):Prop where
 p:0≤n.normal∧n.normal≤n.pmd∧n.pmd≤big
 log:Bo n.log=true
 top:Aw n.log n.normal=true
theorem NV.ents {n:PN}(h:NV n):n.log.length≤150∧∀e∈n.log,(1≤e.v∧e.v≤big)∧(1≤e.n∧e.n≤150)∧e.b.size≤200:=by have a:=h.log;unfold Bo at a;rw[au,decide_eq_true_iff] at a;refine⟨a.2,fun e c=>?_⟩;have:=R8 a.1 e c;unfold big;omega
theorem Zgj {k a b:Int}{s:ByteArray}(e:0≤k∧k≤255)(ha:0≤a∧a≤big)(c:0≤b∧b≤big)(i:s.size≤1024):Ie [⟨1,k,eS⟩,⟨2,a,eS⟩,⟨2,b,eS⟩,⟨3,0,s⟩]=0:=by
 refine Hu fun f hf=>?_;simp only[List.mem_cons,List.not_mem_nil,or_false] at hf;have whole:∀n:Int,0≤n→n≤big→fdE ⟨2,n,eS⟩=0:=fun n g d=>by unfold fdE;dsimp only;rw[db (by decide),db (by rintro(h | h);exact h rfl;omega),db (by rintro⟨h,-⟩;cases h),db (by rintro⟨h,-⟩;cases h),dc ⟨rfl,d⟩]
 rcases hf with rfl | rfl | rfl | rfl
 ·unfold fdE;dsimp only;rw[db (by decide),db (by rintro(h | h);exact h rfl;omega),dc ⟨rfl,e.2⟩]
 ·exact whole _ ha.1 ha.2
 ·exact whole _ c.1 c.2
 ·unfold fdE;rw[dc rfl,db (fun h=>h rfl),db (by dsimp only;omega)]
theorem Fq {k a b:Int}{s:ByteArray}(i:0≤k∧k≤255)(ha:0≤a∧a≤big)(g:0≤b∧b≤big)(j:s.size≤1024):(Ce k a b s).size=19+s.size∧K2 [1,2,2,3] (Ce k a b s).data.toList=⟨0,[⟨1,k,eS⟩,⟨2,a,eS⟩,⟨2,b,eS⟩,⟨3,0,s⟩],(Gv [⟨1,k,eS⟩,⟨2,a,eS⟩,⟨2,b,eS⟩,⟨3,0,s⟩]).length⟩:=by
 have c:=Zgj i ha g j;have h:Sv [⟨1,k,eS⟩,⟨2,a,eS⟩,⟨2,b,eS⟩,⟨3,0,s⟩]=Gv [⟨1,k,eS⟩,⟨2,a,eS⟩,⟨2,b,eS⟩,⟨3,0,s⟩]:=by unfold Sv;rw[dc c]
 have d:(Ce k a b s).data.toList=Gv [⟨1,k,eS⟩,⟨2,a,eS⟩,⟨2,b,eS⟩,⟨3,0,s⟩]:=by unfold Ce;show(Sv _).toArray.toList=_;rw[h]
 refine⟨?_,by rw[d];exact X0 c⟩;have f:(Ce k a b s).size=(Gv [⟨1,k,eS⟩,⟨2,a,eS⟩,⟨2,b,eS⟩,⟨3,0,s⟩]).length:=by rw[←d,cd];rfl
 have e:s.data.toList.length=s.size:=by rw[cd];rfl
 rw[f];show([byI k]++(be8 a++(be8 b++((byI ((s.size:Int) / 256)::byI s.size::s.data.toList)++[])))).length=_;simp only[List.length_append,List.length_cons,List.length_nil,Io,e];omega
theorem Z3p {p:Int × Int × List REnt}{v:Int}(c:0≤v∧v≤big):Dj p (Ce 1 v 0 eS)=some (v,p.2.1,p.2.2):=by obtain⟨-,h⟩:=Fq (k:=1) (a:=v) (b:=0) (s:=eS) (by omega) c (by decide) (by decide);unfold Dj;rw[h];rfl
theorem Zgl {p:Int × Int × List REnt}{v:Int}(c:0≤v∧v≤big):Dj p (Ce 2 v 0 eS)=some (p.1,v,p.2.2):=by obtain⟨-,h⟩:=Fq (k:=2) (a:=v) (b:=0) (s:=eS) (by omega) c (by decide) (by decide);unfold Dj;rw[h];rfl
theorem Z4x {p:Int × Int × List REnt}{e:REnt}(a:0≤e.v∧e.v≤big)(c:0≤e.n∧e.n≤big)(d:e.b.size≤1024):Dj p (Ce 3 e.v e.n e.b)=some (p.1,p.2.1,p.2.2++[e]):=by obtain⟨-,h⟩:=Fq (k:=3) (by omega) a c d;unfold Dj;rw[h];rfl
theorem He:∀(l:List ByteArray) (r:ByteArray) (p:Int × Int × List REnt),B1 (l++[r]) p=(B1 l p).bind fun q=>Dj q r
 | [],r,p=>by show(match Dj p r with | none=>none | some p=>B1 [] p)=Dj p r;cases Dj p r<;>rfl
 | x::l,r,p=>by
  show(match Dj p x with | none=>none | some p=>B1 (l++[r]) p)=(match Dj p x with | none=>none | some p=>B1 l p).bind _;cases Dj p x with
  | none=>rfl
  | some q=>exact He l r q
theorem Ra:∀(l:List REnt) (p:Int × Int × List REnt),(∀e∈l,(0≤e.v∧e.v≤big)∧(0≤e.n∧e.n≤big)∧e.b.size≤1024)→B1 (l.map fun e:REnt=>Ce 3 e.v e.n e.b) p=some (p.1,p.2.1,p.2.2++l)
 | [],p,_=>by obtain⟨a,b,c⟩:=p;show some _=some _;rw[cz]
 | e::l,p,h=>by obtain⟨f,d,g⟩:=h e (by simp);show(match Dj p (Ce 3 e.v e.n e.b) with | none=>none | some p=>B1 (l.map fun e:REnt=>Ce 3 e.v e.n e.b) p)=_;rw[Z4x f d g];show B1 (l.map fun e:REnt=>Ce 3 e.v e.n e.b) _=_;rw[Ra l _ fun x i=>h x (by simp[i])];show some (p.1,p.2.1,(p.2.2++[e])++l)=_;rw[bx];rfl
theorem Wr:(150:Int)≤big:=by decide
theorem K0 {n:PN}(h:NV n):B1 (C0 n) (0,0,[])=some (n.pmd,n.normal,n.log):=by
 have f:=h.p;obtain⟨d,c⟩:=h.ents;unfold C0;show(match Dj (0,0,[]) (Ce 1 n.pmd 0 eS) with | none=>none | some p=>B1 (Ce 2 n.normal 0 eS::_) p)=_;rw[Z3p (by omega)];show(match Dj (n.pmd,0,[]) (Ce 2 n.normal 0 eS) with | none=>none | some p=>B1 _ p)=_;rw[Zgl (by omega)];show B1 (n.log.map fun e:REnt=>Ce 3 e.v e.n e.b) (n.pmd,n.normal,[])=_;rw[Ra n.log _ fun e a=>?_]
 ·rfl
 ·have:=c e a;have:=Wr;omega
theorem Zcf (l:List REnt)(h:∀e∈l,(Ce 3 e.v e.n e.b).size≤219):(Ak (l.map fun e:REnt=>Ce 3 e.v e.n e.b)).length≤223 * l.length:=by
 induction l with
 | nil=>exact ah _
 | cons e l ih =>
  have d:=h e (by simp);have f:=ih fun x c=>h x (by simp[c]);have a:(frB (Ce 3 e.v e.n e.b)).length=(Ce 3 e.v e.n e.b).size+4:=Dx _;show(frB (Ce 3 e.v e.n e.b)++Ak (l.map fun e:REnt=>Ce 3 e.v e.n e.b)).length≤_;rw[ax,a,bd];omega
theorem P4 {n:PN}(h:NV n):Nh (C0 n)=0:=by
 have o:=h.p;obtain⟨r,l⟩:=h.ents;have m:=(Fq (k:=1) (a:=n.pmd) (b:=0) (s:=eS) (by omega) (by omega) (by decide) (by decide)).1;have j:=(Fq (k:=2) (a:=n.normal) (b:=0) (s:=eS) (by omega) (by omega) (by decide) (by decide)).1;have i:eS.size=0:=rfl;have g:∀e∈n.log,(Ce 3 e.v e.n e.b).size≤219:=fun e d=>by have:=l e d;have:=Wr;rw[(Fq (k:=3) (by omega) (by omega) (by omega) (by omega)).1];omega
 have f:(Ak (C0 n)).length≤35136:=by have q:=Zcf n.log g;unfold C0;show(frB _++(frB _++Ak (n.log.map fun e:REnt=>Ce 3 e.v e.n e.b))).length≤_;rw[ax,ax,Dx,Dx,m,j,i];omega
 unfold Nh;rw[db,db (by omega)];rw[List.any_eq_true];rintro⟨s,c,hd⟩;have hd:=of_decide_eq_true hd;unfold C0 at c;rcases bi.1 c with rfl | c
 ·omega
 ·rcases bi.1 c with rfl | c
  ·omega
  ·obtain⟨e,d,rfl⟩:=ba.1 c;have:=g e d;omega
structure SL (k:Nat)(n:PN):Prop where
 ws:WSt k n.st
 rl:RLd n.st
 kk:k≤900000000
 ld:B1 n.st.all (0,0,[])=some (n.pmd,n.normal,n.log)
theorem Z8j {k:Nat}{l:LD}(h:WSt k l)(a:k≤900000001):(l.mark:Int)+2≤big:=by have:=h.mark;have e:big=4611686018427387904:=rfl;omega
theorem Rj {k:Nat}{n:PN}{r:ByteArray}(a:WSt k n.st)(hr:RLd n.st)(_hk:k≤900000000)(ha:n.st.d.armed=0)(D:NV n)(E:r.size≤4096)(I:B1 (n.st.all++[r]) (0,0,[])=some (n.pmd,n.normal,n.log)) :
  C9 n r=true∧RLd (B3 n r).st∧(B3 n r).st.d.armed=0∧B1 (B3 n r).st.all (0,0,[])=some (n.pmd,n.normal,n.log):=by
 by_cases g:Eb n.st r=51
 ·have C:=Kn g;have hf:=P4 D;obtain⟨t,H⟩:=Hw hf;obtain⟨G,B⟩:=Xz a hr (C0 n) hf;have A:=a.half;obtain⟨i,x⟩:=Lq a.dd ha a.many (h:=1 - n.st.half) (by omega) t 0;obtain⟨q,y⟩:=Mt a.dd i;obtain⟨-,v,-,-⟩:=Ey (Cw (1 - n.st.half)) (Ak (C0 n)) (nsW (Ak (C0 n)) 0) n.st.d a.d;obtain⟨p,z⟩:=Kr (l:=wrL n.st (1 - n.st.half) (Ak (C0 n)) 0) q y x (by show(runW _ _ _ _).1.now.length=_;rw[v];exact a.many) (1 - n.st.half) (Ak (C0 n)).length;have s:Id n.st (C0 n)=0:=by
   unfold Id;rw[db (by rw[a.dead];decide),db (fun h=>h hf),dc i];unfold D7;rw[p];rfl
  have F:Eo n.st (C0 n)={Ah (wrL n.st (1 - n.st.half) (Ak (C0 n)) 0) (1 - n.st.half) (Ak (C0 n)).length with b:=Ak (C0 n),all:=C0 n}:=by unfold Eo;rw[db (by rw[a.dead];decide),db (fun h=>h hf),dc i,db (by rw[p];decide)]
  have u:B3 n r={n with st:=Eo n.st (C0 n)}:=by unfold B3;rw[dc g,C,s];unfold D8;rw[db (by decide)]
  have w:C9 n r=true:=by unfold C9;rw[dc g,C,s];rfl
  rw[u,w];refine⟨rfl,B s,?_,?_⟩
  ·show(Eo n.st (C0 n)).d.armed=0;rw[F];exact z
  ·show B1 (Eo n.st (C0 n)).all (0,0,[])=_;rw[(Z53 a (C0 n) s).2];exact K0 D
 ·have o:Eb n.st r=0:=by
   unfold Eb at g⊢;rw[db (by rw[a.dead];decide),db (by omega)] at g⊢;by_cases e:(r.size:Int) > Fa n.st
   ·rw[dc e] at g;exact de rfl g
   ·rw[db e];have c:(n.st.b++frB r).length≤35136:=by rw[ax,Dx];have:=a.len;unfold Fa at e;omega
    rw[dc (Lq a.dd ha a.many a.half c _).1]
  obtain⟨G,B,J⟩:=Zao a hr r o;have j:N9 (Bj n.st r)=0∧(Ic (Bj n.st r)).d.armed=0:=by
   have f:=o;unfold Eb at f;rw[db (by rw[a.dead];decide),db (by omega)] at f;have e:¬(r.size:Int) > Fa n.st:=fun A=>by rw[dc A] at f;cases f
   have c:(n.st.b++frB r).length≤35136:=by rw[ax,Dx];have:=a.len;unfold Fa at e;omega
   obtain⟨i,x⟩:=Lq a.dd ha a.many a.half c n.st.b.length;obtain⟨q,y⟩:=Mt a.dd i;obtain⟨-,v,-,-⟩:=Ey (Cw n.st.half) (n.st.b++frB r) (nsW (n.st.b++frB r) n.st.b.length) n.st.d a.d;have m:Bj n.st r={wrL n.st n.st.half (n.st.b++frB r) n.st.b.length with b:=n.st.b++frB r,all:=n.st.all++[r]}:=by unfold Bj;rw[db (by rw[a.dead];decide),db (by omega),db e,dc i]
   obtain⟨p,z⟩:=Kr (l:=Bj n.st r) (by rw[m];exact q) (by rw[m];exact y) (by rw[m];exact x) (by rw[m];show(runW _ _ _ _).1.now.length=_;rw[v];exact a.many) (Bj n.st r).half (Bj n.st r).b.length;have hd:(Bj n.st r).dead=false:=by rw[m];exact q
   unfold N9 Ic D7;rw[db (by rw[hd];decide),p,db (by decide),db (by rw[hd];decide)];exact⟨rfl,z⟩
  have u:B3 n r={n with st:=Ic (Bj n.st r)}:=by unfold B3;rw[db g,db (fun h=>h o),j.1];unfold D8;rw[db (by decide)]
  have w:C9 n r=true:=by unfold C9;rw[db g,db (fun h=>h o),j.1];rfl
  rw[u,w];refine⟨rfl,J j.1,j.2,?_⟩;show B1 (Ic (Bj n.st r)).all (0,0,[])=_;rw[(Zaj a r o j.1).2];exact I
theorem Z79 {k:Nat}{st:LD}{n:PN}(a:WSt k st)(hr:RLd st)(ha:st.d.armed=0)(s:NV n):Id st (C0 n)=0∧RLd (Eo st (C0 n))∧(Eo st (C0 n)).d.armed=0∧WSt (k+1) (Eo st (C0 n))∧(Eo st (C0 n)).all=C0 n:=by
 have hf:=P4 s;obtain⟨c,t⟩:=Hw hf;obtain⟨v,i⟩:=Xz a hr (C0 n) hf;have u:=a.half;obtain⟨e,j⟩:=Lq a.dd ha a.many (h:=1 - st.half) (by omega) c 0;obtain⟨p,o⟩:=Mt a.dd e;obtain⟨-,m,-,-⟩:=Ey (Cw (1 - st.half)) (Ak (C0 n)) (nsW (Ak (C0 n)) 0) st.d a.d;obtain⟨g,r⟩:=Kr (l:=wrL st (1 - st.half) (Ak (C0 n)) 0) p o j (by show(runW _ _ _ _).1.now.length=_;rw[m];exact a.many) (1 - st.half) (Ak (C0 n)).length;have f:Id st (C0 n)=0:=by unfold Id;rw[db (by rw[a.dead];decide),db (fun h=>h hf),dc e];unfold D7;rw[g];rfl
 have q:Eo st (C0 n)={Ah (wrL st (1 - st.half) (Ak (C0 n)) 0) (1 - st.half) (Ak (C0 n)).length with b:=Ak (C0 n),all:=C0 n}:=by unfold Eo;rw[db (by rw[a.dead];decide),db (fun h=>h hf),dc e,db (by rw[g];decide)]
 exact⟨f,i f,by rw[q];exact r,Z53 a (C0 n) f⟩
structure RJn where
 frm:Int
 v:Int
 n:Int
 l:List REnt
structure RN where
 self:Int
 many:Int
 pmd:Int
 normal:Int
 log:List REnt
 cmt:Int
 phase:Int
 jns:List RJn
 aks:List Int
 first:Int
 hrd:List Int
 out:List RPk
def J1 (self many:Int):RN:=⟨self,many,0,0,[],0,0,[],[],0,[],[]⟩
def Ay (n:RN):RN:=⟨n.self,n.many,n.pmd,n.normal,n.log,0,0,[],[],0,[],[]⟩
def Av (n:RN)(to:Int)(m:RM):RN:={n with out:=n.out++[⟨n.self,to,⟨(bM m).toArray⟩⟩]}
def Ma (f:RN→Nat→RN)(n:RN)(i:Nat):RN:=(List.range i).foldl (fun(n:RN) (i:Nat)=>if(i:Int)=n.self then n else f n i) n
theorem Dh (f:RN→Nat→RN)(n:RN)(i:Nat):Ma f n (i+1)=if(i:Int)=(Ma f n i).self then Ma f n i else f (Ma f n i) i:=by unfold Ma;rw[List.range_succ,List.foldl_append];rfl
def Au (n:RN)(m:RM):RN:=Ma (fun n i=>Av n i m) n n.many.toNat
def Kl (n:RN)(x:Int):Bool:=n.jns.any fun j=>decide (j.frm=x)
def Lf:List RJn→RJn→List RJn
 | [],j=>[j]
 | x::l,j=>if x.frm > j.frm then j::x::l else x::Lf l j
def Em (n:RN)(j:RJn):RN:={n with jns:=Lf n.jns j}
def Ck (n:RN):RN:=if Bi n.aks > n.cmt then Au {n with cmt:=Bi n.aks} ⟨6,n.pmd,0,Bi n.aks,[]⟩ else n
def E5 (n:RN)(l:List REnt):RN:={n with log:=l,cmt:=min n.cmt (A3 l),normal:=n.pmd,phase:=2,first:=A3 l,hrd:=[],aks:=(List.replicate n.many.toNat (0:Int)).set n.self.toNat (A3 l)}
def Gl (n:RN):List REnt:=(n.jns[(Gb (n.jns.map fun j=>⟨j.v,j.n⟩)).toNat]?.map RJn.l).getD []
def Cf (n:RN):RN :=
 if(n.jns.length:Int) < Ag n.many then n
 else Ck (Au (E5 n (Gl n)) ⟨3,n.pmd,0,0,Gl n⟩)
def Cx (n:RN)(v:Int):RN × Bool :=
 if v≤n.pmd∨A8 v n.many≠n.self then(n,false)
 else(Cf (Au {n with pmd:=v,phase:=1,jns:=[⟨n.self,n.normal,A3 n.log,n.log⟩]} ⟨1,v,0,0,[]⟩),true)
def J9 (n:RN)(e:REnt):RN:={n with log:=n.log++[e]}
def Bp (n:RN)(i k:Int):RN:={n with aks:=n.aks.set i.toNat (max (n.aks[i.toNat]?.getD 0) k)}
def Ej (n:RN)(s:ByteArray):REnt:=⟨n.pmd,A3 n.log+1,s⟩
def Bd (n:RN)(s:ByteArray):RN × Bool :=
 if n.phase≠2∨n.log.length ≥ 150∨s.size > 200 then(n,false)
 else(Ck (Au (Bp (J9 n (Ej n s)) n.self (Ej n s).n) ⟨4,n.pmd,0,(Ej n s).n - 1,[Ej n s]⟩),true)
def Eh (n:RN)(x:Int):Bool:=n.hrd.any fun j=>decide (j=x)
def Fs (n:RN)(i:Nat):RN:=if n.phase=1∧Kl n i=false then Av n i ⟨1,n.pmd,0,0,[]⟩ else n
def Fe (n:RN)(i:Nat):RN:=if n.phase=2∧Eh n i=true then Av n i ⟨4,n.pmd,0,n.aks[i]?.getD 0,n.log.drop (n.aks[i]?.getD 0).toNat⟩ else n
def F7 (n:RN)(i:Nat):RN:=if n.phase=2∧Eh n i=false then Av n i ⟨3,n.pmd,0,0,n.log.take n.first.toNat⟩ else n
def F4 (n:RN)(i:Nat):RN:=if n.phase=2 then Av n i ⟨6,n.pmd,0,n.cmt,[]⟩ else n
def Do (n:RN):RN:=Ma (fun n i=>F4 (F7 (Fe (Fs n i) i) i) i) n n.many.toNat
def Fw (n:RN)(m:RM):RN:=if m.view > n.pmd then {n with pmd:=m.view,phase:=0} else n
def Bh (n:RN)(who:Int)(m:RM):RN :=
 if m.view=(Fw n m).pmd∧m.view > (Fw n m).normal∧(Fw n m).phase=0 then Av (Fw n m) who ⟨2,m.view,(Fw n m).normal,0,(Fw n m).log⟩ else Fw n m
def Bn (n:RN)(who:Int)(m:RM):RN :=
 if n.phase≠1∨n.pmd≠m.view∨Kl n who=true then n else Cf (Em n ⟨who,m.normal,A3 m.l,m.l⟩)
def Cg (n:RN)(m:RM):RN:=if m.view ≥ n.pmd∧m.view > n.normal then {n with pmd:=m.view,normal:=m.view,log:=m.l,cmt:=min n.cmt (A3 m.l),phase:=0} else n
def Ax (n:RN)(who:Int)(m:RM):RN :=
 if m.view=(Cg n m).pmd∧m.view=(Cg n m).normal then Av (Cg n m) who ⟨5,m.view,0,A3 (Cg n m).log,[]⟩ else Cg n m
def Cm:List REnt→RN→RN
 | [],n=>n
 | e::l,n=>if e.n > n.log.length+1 then n else if e.n=n.log.length+1∧(n.log.length=0∨e.v ≥ vw 0 n.log) then Cm l (J9 n e) else Cm l n
def Ca (n:RN)(who:Int)(m:RM):RN :=
 if n.pmd≠m.view∨n.normal≠m.view∨n.phase≠0 then n else Av (Cm m.l n) who ⟨5,m.view,0,A3 (Cm m.l n).log,[]⟩
def H7 (n:RN)(who:Int)(m:RM):RN:=Ck (Bp {n with hrd:=n.hrd++[who]} who m.num)
def C5 (n:RN)(who:Int)(m:RM):RN :=
 if n.phase≠2∨n.pmd≠m.view∨m.num > n.log.length then n
 else if m.num < (H7 n who m).log.length then Av (H7 n who m) who ⟨4,(H7 n who m).pmd,0,m.num,(H7 n who m).log.drop m.num.toNat⟩ else H7 n who m
def Dw (n:RN)(p:RPk):RN :=
 if ¬Gw p.body.data.toList∨p.to≠n.self∨p.frm=n.self∨p.frm < 0∨p.frm ≥ n.many then n
 else if(mD p.body.data.toList).kind=2 then Bn n p.frm (mD p.body.data.toList)
 else if(mD p.body.data.toList).kind=5 then C5 n p.frm (mD p.body.data.toList)
 else if A8 (mD p.body.data.toList).view n.many≠p.frm then n
 else if(mD p.body.data.toList).kind=1 then Bh n p.frm (mD p.body.data.toList)
 else if(mD p.body.data.toList).kind=3 then Ax n p.frm (mD p.body.data.toList)
 else if(mD p.body.data.toList).kind=4 then Ca n p.frm (mD p.body.data.toList)
 else if n.pmd=(mD p.body.data.toList).view∧n.normal=(mD p.body.data.toList).view∧n.phase=0 then {n with cmt:=max n.cmt (min (mD p.body.data.toList).num (A3 n.log))}
 else n
theorem Gi {n:PN}{i:Nat}{m:RM}(h:okM m=true):Ao n i m={n with out:=n.out++[⟨n.self,i,⟨(bM m).toArray⟩⟩]}:=by unfold Ao;rw[dc h]
def Yy (self k:Nat):List Nat:=(List.range k).filter fun i=>decide (i≠self)
theorem Sd (self k:Nat):Yy self (k+1)=if k=self then Yy self k else Yy self k++[k]:=by
 unfold Yy;rw[List.range_succ,List.filter_append];split
 ·next h=>rw[List.filter_cons_of_neg (by simpa using h)];simp
 ·next h=>rw[List.filter_cons_of_pos (by simpa using h)];rfl
theorem Lv {f:PN→Nat→PN}{g:Nat→List RPk}{n:PN}:∀k,(∀o i,i < k→f {n with out:=o} i={n with out:=o++g i})→I8 f n k={n with out:=n.out++(Yy n.self k).flatMap g}
 | 0,_=>by simp[I8,Yy]
 | k+1,h=>by
  rw[Di,Lv k fun o i hi=>h o i (by omega),Sd];by_cases a:k=n.self
  ·rw[dc a,dc a]
  ·rw[db a,db a,h _ _ (by omega),List.flatMap_append,bx];simp
theorem Pa {f:RN→Nat→RN}{g:Nat→List RPk}{r:RN}{s:Nat}(b:r.self=s):∀k,(∀o i,i < k→f {r with out:=o} i={r with out:=o++g i})→Ma f r k={r with out:=r.out++(Yy s k).flatMap g}
 | 0,_=>by simp[Ma,Yy]
 | k+1,h=>by
  rw[Dh,Pa b k fun o i hi=>h o i (by omega),Sd];by_cases a:k=s
  ·rw[dc a,dc (by show((k:Nat):Int)=r.self;rw[b,a])]
  ·rw[db a,db (by show ¬((k:Nat):Int)=r.self;rw[b];omega),h _ _ (by omega),List.flatMap_append,bx];simp
def spL (self many:Nat)(m:RM):List RPk:=(Yy self many).flatMap fun i:Nat=>[⟨(self:Int),(i:Int),⟨(bM m).toArray⟩⟩]
theorem Zj {n:PN}{m:RM}(h:okM m=true):An n m={n with out:=n.out++spL n.self n.many m}:=by unfold An spL;exact Lv (f:=fun n i=>Ao n i m) (n:=n) (g:=fun i:Nat=>[⟨(n.self:Int),(i:Int),⟨(bM m).toArray⟩⟩]) _ fun o i _=>Gi (n:={n with out:=o}) h
theorem G3 {r:RN}{s k:Nat}(m:RM)(a:r.self=s)(b:r.many=k):Au r m={r with out:=r.out++spL s k m}:=by
 unfold Au spL;rw[show r.many.toNat=k by rw[b,az]];exact Pa (f:=fun n i=>Av n i m) (r:=r) (g:=fun i:Nat=>[⟨(s:Int),(i:Int),⟨(bM m).toArray⟩⟩]) a _ fun o i _=>by show({r with out:=o++[(⟨r.self,i,⟨(bM m).toArray⟩⟩:RPk)]}:RN)={r with out:=o++[(⟨(s:Int),i,⟨(bM m).toArray⟩⟩:RPk)]};rw[show r.self=(s:Int) from a]
def jrL (j:Nat→RJ)(m:Nat):List RJn:=((List.range m).filter fun i=>(j i).is).map fun i:Nat=>⟨(i:Int),(j i).normal,A3 (j i).l,(j i).l⟩
structure Sim (n:PN)(r:RN):Prop where
 self:r.self=n.self
 many:r.many=n.many
 pmd:r.pmd=n.pmd
 normal:r.normal=n.normal
 log:r.log=n.log
 cmt:r.cmt=n.cmt
 out:r.out=n.out
 phase:r.phase=if n.lds=true then(if n.std=true then 2 else 1) else 0
 jns:n.lds=true→n.std=false→r.jns=jrL n.jns n.many
 aks:n.lds=true→n.std=true→r.aks=By n∧r.first=n.first∧∀i:Nat,i < n.many→Eh r i=n.hrd i
theorem Sim.snd {n:PN}{r:RN}(h:Sim n r)(l:List RPk):Sim {n with out:=n.out++l} {r with out:=r.out++l} :=
 ⟨h.self,h.many,h.pmd,h.normal,h.log,h.cmt,by show r.out++l=n.out++l;rw[h.out],h.phase,h.jns,h.aks⟩
theorem Sim.spread {n:PN}{r:RN}(h:Sim n r){m:RM}(a:okM m=true):Sim (An n m) (Au r m):=by rw[Zj a,G3 m h.self h.many];exact h.snd _
theorem Sim.send {n:PN}{r:RN}(h:Sim n r){i:Nat}{m:RM}(a:okM m=true):Sim (Ao n i m) (Av r i m):=by
 rw[Gi a];have:=h.snd [⟨n.self,i,⟨(bM m).toArray⟩⟩];have e:Av r i m={r with out:=r.out++[⟨n.self,i,⟨(bM m).toArray⟩⟩]}:=by unfold Av;rw[show [(⟨r.self,i,⟨(bM m).toArray⟩⟩:RPk)]=[⟨n.self,i,⟨(bM m).toArray⟩⟩] by rw[h.self]]
 rw[e];exact this
theorem Xk {v c:Int}(a:1≤v∧v≤big)(b:0≤c∧c≤150):okM ⟨6,v,0,c,[]⟩=true:=by unfold okM;rw[decide_eq_true (by dsimp only;omega)];rfl
theorem Tw {v c:Int}(a:1≤v∧v≤big)(b:0≤c∧c≤150):okM ⟨5,v,0,c,[]⟩=true:=by unfold okM;rw[decide_eq_true (by dsimp only;omega)];rfl
theorem Z35 {v:Int}(a:1≤v∧v≤big):okM ⟨1,v,0,0,[]⟩=true:=by unfold okM;rw[decide_eq_true (by dsimp only;omega)];rfl
theorem N8:∀{l:List REnt} {v:Int} {k:Nat},Ap v k l=true→k+l.length≤150→Gq k v l=true
 | [],_,_,_,_=>rfl
 | e::l,v,k,h,hl=>by have h:(okB v k e&&Ap e.v (k+1) l)=true:=h;rw[au] at h;have a:=h.1;unfold okB at a;rw[decide_eq_true_iff] at a;rw[bd] at hl;unfold Gq;rw[decide_eq_true (by omega)];have:=N8 h.2 (by omega);rw[show((k+1:Nat):Int)=(k:Int)+1 by omega] at this;exact this
theorem Z1k {l:List REnt}(h:Bo l=true):Hp 0 l=true∧l.length≤150:=by unfold Bo at h;rw[au,decide_eq_true_iff] at h;unfold Hp;have:=N8 h.1 (by omega);rw[show Gq 0 1 l=true from this,decide_eq_true h.2];exact⟨rfl,h.2⟩
theorem Ok:∀{l:List REnt} {v:Int} {k:Nat} (i:Nat),Ap v k l=true→∃c,v≤c∧Ap c (k+i) (l.drop i)=true
 | l,v,k,0,h=>⟨v,br _,h⟩
 | [],v,k,i+1,_=>⟨v,br _,rfl⟩
 | e::l,v,k,i+1,h=>by have h:(okB v k e&&Ap e.v (k+1) l)=true:=h;rw[au] at h;have d:=h.1;unfold okB at d;rw[decide_eq_true_iff] at d;obtain⟨c,a,b⟩:=Ok i h.2;exact⟨c,by omega,by rw[show k+(i+1)=k+1+i by omega];exact b⟩
theorem Zbl:∀{l:List REnt} {v a k:Int},v≤a→Gq k a l=true→Gq k v l=true
 | [],_,_,_,_,_=>rfl
 | e::l,v,a,k,hv,h=>by unfold Gq at h⊢;rw[au,decide_eq_true_iff] at h;rw[decide_eq_true (by omega)];exact h.2
theorem Fi {l m:List REnt}{v a:Int}(h:Aw l v=true)(b:∀e∈m,e∈l)(d:v≤a):Aw m a=true:=by unfold Aw at *;rw[List.all_eq_true] at *;intro e c;have:=of_decide_eq_true (h e (b e c));exact decide_eq_true (by omega)
theorem Xr {v q:Int}{l:List REnt}(e:1≤v∧v≤big)(d:0≤q∧q < v)(c:Bo l=true)(b:Aw l q=true):okM ⟨2,v,q,0,l⟩=true:=by obtain⟨a,f⟩:=Z1k c;unfold okM;rw[decide_eq_true (by dsimp only;omega)];dsimp only;rw[db (by decide),dc rfl,a,b];rfl
theorem Rf {v:Int}{l:List REnt}(d:1≤v∧v≤big)(c:Bo l=true)(b:Aw l (v - 1)=true):okM ⟨3,v,0,0,l⟩=true:=by obtain⟨a,e⟩:=Z1k c;unfold okM;rw[decide_eq_true (by dsimp only;omega)];dsimp only;rw[db (by decide),db (by decide),dc rfl,a,b];rfl
theorem Z42 {v:Int}{k:Nat}{l:List REnt}(j:1≤v∧v≤big)(m:k≤l.length)(h:Bo l=true)(g:Aw l v=true):okM ⟨4,v,0,k,l.drop k⟩=true:=by
 have c:=h;unfold Bo at c;rw[au,decide_eq_true_iff] at c;obtain⟨n,a,b⟩:=Ok k c.1;have f:=Zbl a (N8 b (by rw[bc];omega));unfold okM;rw[decide_eq_true (by dsimp only;omega)];dsimp only;rw[db (by decide),db (by decide),db (by decide),dc rfl,Fi g (fun e i=>b7 i) (br _)];unfold Hp;rw[cb] at f;have d:(l.drop k).length≤150:=by rw[bc];omega
 rw[f,decide_eq_true d];simp
theorem Zdn {v:Int}{k:Nat}{s:ByteArray}(b:1≤v∧v≤big)(c:k+1≤150)(d:s.size≤200):okM ⟨4,v,0,k,[⟨v,(k:Int)+1,s⟩]⟩=true:=by
 unfold okM;rw[decide_eq_true (by dsimp only;omega)];dsimp only;rw[db (by decide),db (by decide),db (by decide),dc rfl];have a:Gq (k:Int) 1 [⟨v,(k:Int)+1,s⟩]=true:=by unfold Gq;rw[decide_eq_true (by dsimp only;omega)];rfl
 unfold Hp Aw;rw[a];simp
theorem WSt.up {k j:Nat}{l:LD}(h:WSt k l)(a:k≤j):WSt j l:=⟨h.d,h.many,h.armed,h.wait,h.half,h.b,h.len,ca h.mark a,h.dead,h.dd⟩
structure NI (k:Nat)(n:PN):Prop where
 sl:SL k n
 arm:n.st.d.armed=0
 nv:NV n
 dead:n.dead=false
 self:n.self < n.many
 m7:n.many≤7
 com:0≤n.cmt∧n.cmt≤n.log.length
 ld:n.lds=true→A8 n.pmd n.many=n.self∧1≤n.pmd
 st:n.std=true→n.lds=true∧n.normal=n.pmd∧(∀i,0≤n.aks i∧n.aks i≤n.log.length)∧(0≤n.first∧n.first≤n.log.length)∧Aw (n.log.take n.first.toNat) (n.pmd - 1)=true
 jn:n.lds=true→n.std=false→n.normal < n.pmd∧∀i,(n.jns i).is=true→(0≤(n.jns i).normal∧(n.jns i).normal < n.pmd)∧Bo (n.jns i).l=true∧Aw (n.jns i).l (n.jns i).normal=true
 jl:∀i,(n.jns i).l.length≤150
theorem NI.wn {k:Nat}{n:PN}(h:NI k n)(b:n.out.length≤700000):WNk k n :=
 ⟨h.sl.ws,h.sl.kk,by have:=h.self;omega,h.m7,h.self,h.nv.ents.1,b,fun i _=>h.jl i,h.nv.p.2.1,fun a=>⟨fun i _=>(h.st a).2.2.1 i,(h.st a).2.2.2.1⟩⟩
theorem NI.snd {k:Nat}{n:PN}(h:NI k n)(o:List RPk):NI k {n with out:=o} :=
 ⟨⟨h.sl.ws,h.sl.rl,h.sl.kk,h.sl.ld⟩,h.arm,⟨h.nv.p,h.nv.log,h.nv.top⟩,h.dead,h.self,h.m7,h.com,h.ld,h.st,h.jn,h.jl⟩
theorem NI.same {k:Nat}{n a:PN}(h:NI k n)(b:SameN n a):NI k a:=by obtain⟨o,rfl⟩:=b.to;exact h.snd o
theorem Zcp {l:List Int}{c:Int}(a:0≤c)(h:∀x∈l,x≤c):0≤Bi l∧Bi l≤c:=by
 have key:∀k,0≤D0 l k∧D0 l k≤c:=fun k=>by
  induction k with
  | zero=>simp[D0];exact a
  | succ k ih =>
   by_cases b:k < l.length
   ·rw[J6 b];split
    ·next d=>exact⟨by omega,h _ (bm b)⟩
    ·exact ih
   ·have:D0 l (k+1)=D0 l k:=by
     unfold D0;rw[ap (by omega),ap (by omega)]
    rw[this];exact ih
 unfold Bi;split
 ·exact key _
 ·exact⟨br _,a⟩
theorem Y2 {n:PN}{x:Int}(h:x∈By n):∃i,x=n.aks i:=by unfold By at h;obtain⟨i,-,rfl⟩:=ba.1 h;exact⟨i,rfl⟩
theorem Py {k:Nat}{n:PN}{r:RN}(h:Sim n r)(hi:NI k n)(j:n.std=true):Sim (Cj n) (Ck r)∧NI k (Cj n)∧(Cj n).log=n.log∧(Cj n).pmd=n.pmd:=by
 obtain⟨rs,m,rp,u,rl,rc,d,y,t,q,D,w⟩:=r;obtain rfl:rs=n.self:=h.self;obtain rfl:m=n.many:=h.many;obtain rfl:rp=n.pmd:=h.pmd;obtain rfl:u=n.normal:=h.normal;obtain rfl:rl=n.log:=h.log;obtain rfl:rc=n.cmt:=h.cmt;obtain rfl:w=n.out:=h.out;obtain⟨g,J,B,I,F⟩:=hi.st j;obtain⟨a1,a2,G⟩:=h.aks g j;obtain rfl:t=By n:=a1;have f:=Zcp (l:=By n) (c:=n.log.length) (by omega) fun x z=>by obtain⟨i,rfl⟩:=Y2 z;exact(B i).2
 have H:=hi.nv.ents.1;have E:=hi.nv.p;have K:=(hi.ld g).2;unfold Cj Ck;dsimp only;by_cases b:Bi (By n) > n.cmt
 ·rw[dc b,dc b];have C:=Xk (v:=n.pmd) (c:=Bi (By n)) (by omega) (by omega);have A:Sim {n with cmt:=Bi (By n)} ⟨n.self,n.many,n.pmd,n.normal,n.log,Bi (By n),d,y,By n,q,D,n.out⟩:=⟨h.self,h.many,h.pmd,h.normal,h.log,rfl,h.out,h.phase,h.jns,h.aks⟩;have s:NI k {n with cmt:=Bi (By n)}:=⟨⟨hi.sl.ws,hi.sl.rl,hi.sl.kk,hi.sl.ld⟩,hi.arm,⟨hi.nv.p,hi.nv.log,hi.nv.top⟩,hi.dead,hi.self,hi.m7,⟨f.1,f.2⟩,hi.ld,hi.st,hi.jn,hi.jl⟩;have a:=A2 {n with cmt:=Bi (By n)} ⟨6,n.pmd,0,Bi (By n),[]⟩;refine⟨?_,s.same a,?_,?_⟩
  ·exact A.spread C
  ·obtain⟨o,e⟩:=a.to;rw[e]
  ·obtain⟨o,e⟩:=a.to;rw[e]
 ·rw[db b,db b];exact⟨h,hi,rfl,rfl⟩
theorem Wm (n:PN):(jrL n.jns n.many).length=(B7 n).length:=by unfold jrL B7 jlN;rw[aa,List.filter_map,aa];rfl
theorem Z7k (n:PN):(jrL n.jns n.many).map (fun j=>(⟨j.v,j.n⟩:Mk))=(B7 n).map mkJ:=by unfold jrL B7 jlN;rw[List.map_map,List.filter_map,List.map_map];rfl
theorem Z24 {n:PN}{r:RN}(h:r.jns=jrL n.jns n.many):Gl r=C8 n:=by unfold Gl C8;rw[h,Z7k];generalize (Gb ((B7 n).map mkJ)).toNat=p;unfold jrL B7 jlN;rw[List.filter_map,aj,aj];show(Option.map RJn.l (Option.map _ (List.filter (fun i=>(n.jns i).is) (List.range n.many))[p]?)).getD []=((Option.map n.jns (List.filter (RJ.is ∘ n.jns) (List.range n.many))[p]?).getD j0).l;have e:(List.filter (fun i=>(n.jns i).is) (List.range n.many))=List.filter (RJ.is ∘ n.jns) (List.range n.many):=rfl;rw[e];cases(List.filter (RJ.is ∘ n.jns) (List.range n.many))[p]?<;>rfl
theorem Yh (n:PN)(a:n.self < n.many):By (D5 n)=(List.replicate n.many (0:Int)).set n.self (A3 n.log):=by
 refine cp fun i=>?_;unfold By;show((List.range n.many).map fun i=>if i=n.self then A3 n.log else 0)[i]?=_;rw[aj,cn,List.length_replicate];by_cases hi:i < n.many
 ·rw[cq hi];by_cases h:n.self=i
  ·rw[dc h,dc a];show some (if i=n.self then _ else _)=_;rw[dc h.symm]
  ·rw[db h,List.getElem?_replicate,dc hi];show some (if i=n.self then _ else _)=_;rw[db (fun e=>h e.symm)]
 ·rw[b9 (by rw[List.length_range];omega),db (by omega),List.getElem?_replicate,db hi];rfl
theorem Mu {k:Nat}{n:PN}(e:WSt k n.st)(hr:RLd n.st)(ha:n.st.d.armed=0){v:Int}{l:List REnt}(b:NV (B6 n v l)):Bu n v l=true∧∃st,Ba n v l={B6 n v l with st:=st}∧WSt (k+1) st∧RLd st∧st.d.armed=0∧B1 st.all (0,0,[])=some (v,v,l):=by obtain⟨a,c,i,f,g⟩:=Z79 e hr ha b;refine⟨decide_eq_true a,Eo n.st (C0 (B6 n v l)),?_,f,c,i,by rw[g];exact K0 b⟩;unfold Ba D8;rw[db (fun h=>h a)]
theorem R0 {k:Nat}{n:PN}{r:RN}(h:Sim n r)(hi:NI k n)(G:k+1≤900000000)(d:n.lds=true)(H:n.std=false):Sim (B2 n) (Cf r)∧NI (k+1) (B2 n):=by
 obtain⟨rs,I,rp,S,rl,rc,y,C,R,J,rh,U⟩:=r;obtain rfl:rs=n.self:=h.self;obtain rfl:I=n.many:=h.many;obtain rfl:rp=n.pmd:=h.pmd;obtain rfl:S=n.normal:=h.normal;obtain rfl:rl=n.log:=h.log;obtain rfl:rc=n.cmt:=h.cmt;obtain rfl:U=n.out:=h.out;have m:=h.jns d H;obtain⟨j1,W⟩:=hi.jn d H;obtain⟨l1,l2⟩:=hi.ld d;have K:=hi.nv.p;have u:=Z24 (n:=n) m;have m:C=jrL n.jns n.many:=m;have c:C.length=(B7 n).length:=by rw[m,Wm]
 have z:1≤n.many:=by have:=hi.self;omega
 unfold B2 Cf;rw[u];dsimp only;rw[c];by_cases s:((B7 n).length:Int) < Ag n.many
 ·rw[dc s,dc s];exact⟨h,⟨⟨hi.sl.ws.up (by omega),hi.sl.rl,G,hi.sl.ld⟩,hi.arm,hi.nv,hi.dead,hi.self,hi.m7,hi.com,hi.ld,hi.st,hi.jn,hi.jl⟩⟩
 ·rw[db s,db s];have hq1:=Lj z hi.m7;obtain⟨j,-,D,V⟩:=T6 (n:=n) (by omega);have a:=ae D;unfold B7 jlN at a;obtain⟨a,g⟩:=List.mem_filter.1 a;obtain⟨i,-,rfl⟩:=ba.1 a;obtain⟨⟨b1,b2⟩,E,q⟩:=W i g;have b:=hi.jl i;rw[←V] at E q b;have t:NV (B6 n n.pmd (C8 n)):=⟨⟨by show 0≤n.pmd;omega,br _,K.2.2⟩,E,Fi q (fun e f=>f) (by show _≤n.pmd;omega)⟩;obtain⟨O,st,T,X,q4,P,N⟩:=Mu hi.sl.ws hi.sl.rl hi.arm t;rw[dc O,T];have A:=Rf (v:=n.pmd) (l:=C8 n) (by omega) E (Fi q (fun e f=>f) (by omega));have Z:=Dy (C8 n);generalize C8 n=B at *;have Q:Sim (D5 {B6 n n.pmd B with st:=st}) (E5 ⟨n.self,n.many,n.pmd,n.normal,n.log,n.cmt,y,C,R,J,rh,n.out⟩ B):=by
   refine⟨rfl,rfl,rfl,rfl,rfl,?_,rfl,?_,fun _ w=>(by cases w),fun _ _=>⟨?_,rfl,fun x hx=>rfl⟩⟩
   ·rfl
   ·show(2:Int)=if n.lds=true then(if true=true then 2 else 1) else 0;rw[dc d,dc rfl]
   ·have e:=Yh {B6 n n.pmd B with st:=st} hi.self;rw[e];rfl
  have hN:NI (k+1) (D5 {B6 n n.pmd B with st:=st}):=by
   have F:=hi.com;refine⟨⟨X,q4,G,N⟩,P,⟨t.p,t.log,t.top⟩,hi.dead,hi.self,hi.m7,?_,hi.ld,fun _=>⟨d,rfl,fun x=>?_,?_,?_⟩,fun _ w=>(by cases w),hi.jl⟩
   ·show 0≤min n.cmt (A3 B)∧min n.cmt (A3 B)≤(B.length:Int);omega
   ·show 0≤(if x=n.self then A3 B else 0)∧(if x=n.self then A3 B else 0)≤(B.length:Int);split<;>omega
   ·show 0≤A3 B∧A3 B≤(B.length:Int);omega
   ·show Aw (B.take (A3 B).toNat) (n.pmd - 1)=true;exact Fi q (fun e f=>be f) (by omega)
  have L:=Q.spread A;have Y:=hN.same (A2 (D5 {B6 n n.pmd B with st:=st}) ⟨3,n.pmd,0,0,B⟩);have M:(An (D5 {B6 n n.pmd B with st:=st}) ⟨3,n.pmd,0,0,B⟩).std=true:=by obtain⟨o,e⟩:=(A2 (D5 {B6 n n.pmd B with st:=st}) ⟨3,n.pmd,0,0,B⟩).to;rw[e];rfl
  obtain⟨r1,r2,-⟩:=Py L Y M;exact⟨r1,r2⟩
theorem Ht {n:PN}{r:ByteArray}(h:C9 n r=true):B3 n r={n with st:=(B3 n r).st}:=by
 unfold C9 at h;unfold B3;split
 ·next a =>
  rw[dc a] at h;have h:=of_decide_eq_true h;unfold D8;rw[db (fun b=>b h)]
 ·next a =>
  rw[db a] at h;split
  ·next c=>rw[dc c] at h;cases h
  ·next c =>
   rw[db c] at h;have h:=of_decide_eq_true h;unfold D8;rw[db (fun b=>b h)]
theorem Ss {k:Nat}{n:PN}(hi:NI k n){v:Int}(o:n.pmd < v)(f:v≤big):El n v=true∧∃st,Cq n v={n with pmd:=v,lds:=false,std:=false,st:=st}∧WSt (k+1) st∧RLd st∧st.d.armed=0∧B1 st.all (0,0,[])=some (v,n.normal,n.log):=by
 have g:=hi.nv.p;have hN:NV {n with pmd:=v,lds:=false,std:=false}:=⟨⟨g.1,by show n.normal≤v;omega,f⟩,hi.nv.log,hi.nv.top⟩;have l:=(Fq (k:=1) (a:=v) (b:=0) (s:=eS) (by omega) (by omega) (by decide) (by decide)).1;have m:eS.size=0:=rfl;obtain⟨c,e,j,h⟩:=Rj (n:={n with pmd:=v,lds:=false,std:=false}) (r:=Ce 1 v 0 eS) hi.sl.ws hi.sl.rl hi.sl.kk hi.arm hN (by omega) (by show B1 (n.st.all++[Ce 1 v 0 eS]) (0,0,[])=some (v,n.normal,n.log);rw[He,hi.sl.ld];show Dj (n.pmd,n.normal,n.log) (Ce 1 v 0 eS)=_;rw[Z3p (by omega)])
 have i:=(Fr (n:={n with pmd:=v,lds:=false,std:=false}) hi.sl.ws (Ce 1 v 0 eS) c).1;exact⟨c,_,Ht c,i,e,j,h⟩
theorem P3 {k:Nat}{n:PN}{r:RN}(h:Sim n r)(hi:NI k n)(E:k+2≤900000000)(v:Int):(C3 n v).2=(Cx r v).2∧Sim (C3 n v).1 (Cx r v).1∧NI (k+2) (C3 n v).1:=by
 have up:NI (k+2) n:=⟨⟨hi.sl.ws.up (by omega),hi.sl.rl,E,hi.sl.ld⟩,hi.arm,hi.nv,hi.dead,hi.self,hi.m7,hi.com,hi.ld,hi.st,hi.jn,hi.jl⟩;obtain⟨rs,w,rp,G,rl,rc,A,P,F,x,O,I⟩:=r;obtain rfl:rs=n.self:=h.self;obtain rfl:w=n.many:=h.many;obtain rfl:rp=n.pmd:=h.pmd;obtain rfl:G=n.normal:=h.normal;obtain rfl:rl=n.log:=h.log;obtain rfl:rc=n.cmt:=h.cmt;obtain rfl:I=n.out:=h.out;unfold C3 Cx;dsimp only;by_cases g:v≤n.pmd∨A8 v n.many≠n.self
 ·rw[dc (.inr g),dc g];exact⟨rfl,h,up⟩
 ·rw[db (by rw[hi.dead];rintro(h | h);cases h;exact g h),db g];have s:n.pmd < v:=by omega
  have b:A8 v n.many=n.self:=bz fun a=>g (.inr a);have l:v≤big:=by
   unfold A8 at b;split at b
   ·next a=>exact a.2.2
   ·omega
  have u:=hi.nv.p;obtain⟨B,st,H,J,N,C,z⟩:=Ss hi s l;rw[dc B,H];have D:Sim {n with pmd:=v,lds:=true,std:=false,st:=st,jns:=fun i=>if i=n.self then⟨true,n.normal,n.log⟩ else j0} ⟨n.self,n.many,v,n.normal,n.log,n.cmt,1,[⟨n.self,n.normal,A3 n.log,n.log⟩],F,x,O,n.out⟩:=by
   refine⟨rfl,rfl,rfl,rfl,rfl,rfl,rfl,?_,fun _ _=>?_,fun _ a=>(by cases a)⟩
   ·show(1:Int)=if true=true then(if false=true then 2 else 1) else 0;rw[dc rfl,db (by decide)]
   ·show [(⟨n.self,n.normal,A3 n.log,n.log⟩:RJn)]=jrL (fun i=>if i=n.self then⟨true,n.normal,n.log⟩ else j0) n.many;unfold jrL;have e:(List.range n.many).filter (fun i=>(if i=n.self then(⟨true,n.normal,n.log⟩:RJ) else j0).is)=[n.self]:=by
     have c:=hi.self;have key:∀m,(List.range m).filter (fun i=>(if i=n.self then(⟨true,n.normal,n.log⟩:RJ) else j0).is)=if n.self < m then [n.self] else []:=fun m=>by
      induction m with
      | zero=>rfl
      | succ m ih =>
       rw[List.range_succ,List.filter_append,ih];by_cases q:m=n.self
       ·rw[List.filter_cons_of_pos (by rw[dc q]),db (by omega),dc (by omega),q];rfl
       ·rw[List.filter_cons_of_neg (by rw[db q];decide)];by_cases f:n.self < m
        ·rw[dc f,dc (by omega)];rfl
        ·rw[db f,db (by omega)];rfl
     rw[key,dc c]
    rw[e];dsimp only[List.map];rw[dc rfl]
  have hN:NI (k+1) {n with pmd:=v,lds:=true,std:=false,st:=st,jns:=fun i=>if i=n.self then⟨true,n.normal,n.log⟩ else j0}:=by
   refine⟨⟨J,N,by omega,z⟩,C,⟨⟨u.1,by show n.normal≤v;omega,l⟩,hi.nv.log,hi.nv.top⟩,hi.dead,hi.self,hi.m7,hi.com,fun _=>⟨b,by show 1≤v;omega⟩,fun a=>(by cases a),fun _ _=>⟨by show n.normal < v;omega,fun i d=>?_⟩,fun i=>?_⟩
   ·dsimp only at d⊢;split
    ·exact⟨⟨u.1,by show n.normal < v;omega⟩,hi.nv.log,hi.nv.top⟩
    ·next t=>rw[db t] at d;cases d
   ·dsimp only;split
    ·exact hi.nv.ents.1
    ·exact ah _
  have q:=Z35 (v:=v) (by omega);have y:=D.spread q;have j:=A2 {n with pmd:=v,lds:=true,std:=false,st:=st,jns:=fun i=>if i=n.self then⟨true,n.normal,n.log⟩ else j0} ⟨1,v,0,0,[]⟩;have K:=hN.same j;obtain⟨o,e⟩:=j.to;obtain⟨L,M⟩:=R0 y K (by omega) (by rw[e]) (by rw[e]);exact⟨rfl,L,M⟩
end Go.Proofs.YtihfaocdpmmooaaGreat

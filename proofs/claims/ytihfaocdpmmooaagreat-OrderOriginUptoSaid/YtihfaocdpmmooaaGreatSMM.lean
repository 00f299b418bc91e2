
import Derived.Test.YtihfaocdpmmooaaGreatRM1
import Derived.Test.YtihfaocdpmmooaaGreatZNl
import Derived.Test.YtihfaocdpmmooaaGreatNM1
namespace Go.Proofs.YtihfaocdpmmooaaGreat
theorem Lv:∀(l m:List REnt) (v:Int) (k:Nat),Ai v k (l++m)=(Ai v k l&&Ai (vw v l) (k+l.length) m)
 | [],m,v,k=>by simp[Ai,vw]
 | e::l,m,v,k=>by
  have ev:vw v (e::l)=vw e.v l:=by
   unfold vw
   rw[List.getLast?_cons]
   cases l.getLast?<;>rfl
  rw[List.cons_append]
  show(okB v k e&&Ai e.v (k+1) (l++m))=(okB v k e&&Ai e.v (k+1) l&&_)
  rw[Lv l m e.v (k+1),ev,Bool.and_assoc,List.length_cons,show k+1+l.length=k+(l.length+1) by omega]
theorem Qw:∀{l:List REnt} {v:Int} {k:Nat},Ai v k l=true→∀e∈l,v≤e.v∧e.v≤4611686018427387904∧e.b.size≤200∧1≤e.n∧e.n≤k+l.length
 | [],_,_,_,e,he=>by cases he
 | x::l,v,k,h,e,he=>by
  have h:(okB v k x&&Ai x.v (k+1) l)=true:=h
  rw[Bool.and_eq_true] at h
  have h1:=h.1
  unfold okB at h1
  rw[decide_eq_true_iff] at h1
  rcases List.mem_cons.1 he with rfl | he
  ·rw[List.length_cons];exact⟨h1.2.1,h1.2.2.1,h1.2.2.2,by omega,by omega⟩
  ·have:=Qw h.2 e he
   rw[List.length_cons]
   exact⟨by omega,this.2.1,this.2.2.1,this.2.2.2.1,by omega⟩
structure NV (n:PN):Prop where
 p:0≤n.normal∧n.normal≤n.pmd∧n.pmd≤big
 log:Bg n.log=true
 top:B9 n.log n.normal=true
theorem NV.ents {n:PN}(h:NV n):n.log.length≤150∧∀e∈n.log,(1≤e.v∧e.v≤big)∧(1≤e.n∧e.n≤150)∧e.b.size≤200:=by
 have h1:=h.log
 unfold Bg at h1
 rw[Bool.and_eq_true,decide_eq_true_iff] at h1
 refine⟨h1.2,fun e he=>?_⟩
 have:=Qw h1.1 e he
 unfold big
 omega
theorem Zc9 {k a b:Int}{s:ByteArray}(hk:0≤k∧k≤255)(ha:0≤a∧a≤big)(hb:0≤b∧b≤big)(hs:s.size≤1024):Hh [⟨1,k,eS⟩,⟨2,a,eS⟩,⟨2,b,eS⟩,⟨3,0,s⟩]=0:=by
 refine Iv fun f hf=>?_
 simp only[List.mem_cons,List.not_mem_nil,or_false] at hf
 have whole:∀n:Int,0≤n→n≤big→fdE ⟨2,n,eS⟩=0:=fun n h0 h1=>by
  unfold fdE
  dsimp only
  rw[if_neg (by decide),if_neg (by rintro(h | h);exact h rfl;omega),if_neg (by rintro⟨h,-⟩;cases h),if_neg (by rintro⟨h,-⟩;cases h),if_pos ⟨rfl,h1⟩]
 rcases hf with rfl | rfl | rfl | rfl
 ·unfold fdE
  dsimp only
  rw[if_neg (by decide),if_neg (by rintro(h | h);exact h rfl;omega),if_pos ⟨rfl,hk.2⟩]
 ·exact whole _ ha.1 ha.2
 ·exact whole _ hb.1 hb.2
 ·unfold fdE
  rw[if_pos rfl,if_neg (fun h=>h rfl),if_neg (by dsimp only;omega)]
theorem G7 {k a b:Int}{s:ByteArray}(hk:0≤k∧k≤255)(ha:0≤a∧a≤big)(hb:0≤b∧b≤big)(hs:s.size≤1024):(Cb k a b s).size=19+s.size∧L8 [1,2,2,3] (Cb k a b s).data.toList=⟨0,[⟨1,k,eS⟩,⟨2,a,eS⟩,⟨2,b,eS⟩,⟨3,0,s⟩],(G4 [⟨1,k,eS⟩,⟨2,a,eS⟩,⟨2,b,eS⟩,⟨3,0,s⟩]).length⟩:=by
 have h0:=Zc9 hk ha hb hs
 have e1:Xv [⟨1,k,eS⟩,⟨2,a,eS⟩,⟨2,b,eS⟩,⟨3,0,s⟩]=G4 [⟨1,k,eS⟩,⟨2,a,eS⟩,⟨2,b,eS⟩,⟨3,0,s⟩]:=by unfold Xv;rw[if_pos h0]
 have e2:(Cb k a b s).data.toList=G4 [⟨1,k,eS⟩,⟨2,a,eS⟩,⟨2,b,eS⟩,⟨3,0,s⟩]:=by
  unfold Cb
  show(Xv _).toArray.toList=_
  rw[e1]
 refine⟨?_,by rw[e2];exact Tf h0⟩
 have e3:(Cb k a b s).size=(G4 [⟨1,k,eS⟩,⟨2,a,eS⟩,⟨2,b,eS⟩,⟨3,0,s⟩]).length:=by rw[←e2,Array.length_toList];rfl
 have hz:s.data.toList.length=s.size:=by rw[Array.length_toList];rfl
 rw[e3]
 show([byI k]++(be8 a++(be8 b++((byI ((s.size:Int) / 256)::byI s.size::s.data.toList)++[])))).length=_
 simp only[List.length_append,List.length_cons,List.length_nil,Ht,hz]
 omega
theorem Z6p {p:Int × Int × List REnt}{v:Int}(hv:0≤v∧v≤big):Cu p (Cb 1 v 0 eS)=some (v,p.2.1,p.2.2):=by
 obtain⟨-,h⟩:=G7 (k:=1) (a:=v) (b:=0) (s:=eS) (by omega) hv (by decide) (by decide)
 unfold Cu
 rw[h]
 rfl
theorem Zb2 {p:Int × Int × List REnt}{v:Int}(hv:0≤v∧v≤big):Cu p (Cb 2 v 0 eS)=some (p.1,v,p.2.2):=by
 obtain⟨-,h⟩:=G7 (k:=2) (a:=v) (b:=0) (s:=eS) (by omega) hv (by decide) (by decide)
 unfold Cu
 rw[h]
 rfl
theorem Z73 {p:Int × Int × List REnt}{e:REnt}(hv:0≤e.v∧e.v≤big)(hn:0≤e.n∧e.n≤big)(hs:e.b.size≤1024):Cu p (Cb 3 e.v e.n e.b)=some (p.1,p.2.1,p.2.2++[e]):=by
 obtain⟨-,h⟩:=G7 (k:=3) (by omega) hv hn hs
 unfold Cu
 rw[h]
 rfl
theorem Lg:∀(l:List ByteArray) (r:ByteArray) (p:Int × Int × List REnt),B6 (l++[r]) p=(B6 l p).bind fun q=>Cu q r
 | [],r,p=>by
  show(match Cu p r with | none=>none | some p=>B6 [] p)=Cu p r
  cases Cu p r<;>rfl
 | x::l,r,p=>by
  show(match Cu p x with | none=>none | some p=>B6 (l++[r]) p)=(match Cu p x with | none=>none | some p=>B6 l p).bind _
  cases Cu p x with
  | none=>rfl
  | some q=>exact Lg l r q
theorem Px:∀(l:List REnt) (p:Int × Int × List REnt),(∀e∈l,(0≤e.v∧e.v≤big)∧(0≤e.n∧e.n≤big)∧e.b.size≤1024)→B6 (l.map fun e:REnt=>Cb 3 e.v e.n e.b) p=some (p.1,p.2.1,p.2.2++l)
 | [],p,_=>by
  obtain⟨a,b,c⟩:=p
  show some _=some _
  rw[List.append_nil]
 | e::l,p,h=>by
  obtain⟨h1,h2,h3⟩:=h e (by simp)
  show(match Cu p (Cb 3 e.v e.n e.b) with | none=>none | some p=>B6 (l.map fun e:REnt=>Cb 3 e.v e.n e.b) p)=_
  rw[Z73 h1 h2 h3]
  show B6 (l.map fun e:REnt=>Cb 3 e.v e.n e.b) _=_
  rw[Px l _ fun x hx=>h x (by simp[hx])]
  show some (p.1,p.2.1,(p.2.2++[e])++l)=_
  rw[List.append_assoc];rfl
theorem Z28:(150:Int)≤big:=by decide
theorem Q7 {n:PN}(h:NV n):B6 (Bp n) (0,0,[])=some (n.pmd,n.normal,n.log):=by
 have hp:=h.p
 obtain⟨hl,he⟩:=h.ents
 unfold Bp
 show(match Cu (0,0,[]) (Cb 1 n.pmd 0 eS) with | none=>none | some p=>B6 (Cb 2 n.normal 0 eS::_) p)=_
 rw[Z6p (by omega)]
 show(match Cu (n.pmd,0,[]) (Cb 2 n.normal 0 eS) with | none=>none | some p=>B6 _ p)=_
 rw[Zb2 (by omega)]
 show B6 (n.log.map fun e:REnt=>Cb 3 e.v e.n e.b) (n.pmd,n.normal,[])=_
 rw[Px n.log _ fun e hx=>?_]
 ·rfl
 ·have:=he e hx
  have:=Z28
  omega
theorem Z9l (l:List REnt)(h:∀e∈l,(Cb 3 e.v e.n e.b).size≤219):(An (l.map fun e:REnt=>Cb 3 e.v e.n e.b)).length≤223 * l.length:=by
 induction l with
 | nil=>exact Nat.zero_le _
 | cons e l ih =>
  have h1:=h e (by simp)
  have h2:=ih fun x hx=>h x (by simp[hx])
  have h3:(frB (Cb 3 e.v e.n e.b)).length=(Cb 3 e.v e.n e.b).size+4:=Ds _
  show(frB (Cb 3 e.v e.n e.b)++An (l.map fun e:REnt=>Cb 3 e.v e.n e.b)).length≤_
  rw[List.length_append,h3,List.length_cons]
  omega
theorem Zd {n:PN}(h:NV n):Me (Bp n)=0:=by
 have hp:=h.p
 obtain⟨hl,he⟩:=h.ents
 have s1:=(G7 (k:=1) (a:=n.pmd) (b:=0) (s:=eS) (by omega) (by omega) (by decide) (by decide)).1
 have s2:=(G7 (k:=2) (a:=n.normal) (b:=0) (s:=eS) (by omega) (by omega) (by decide) (by decide)).1
 have hz:eS.size=0:=rfl
 have s3:∀e∈n.log,(Cb 3 e.v e.n e.b).size≤219:=fun e hx=>by
  have:=he e hx
  have:=Z28
  rw[(G7 (k:=3) (by omega) (by omega) (by omega) (by omega)).1];omega
 have hlen:(An (Bp n)).length≤35136:=by
  have h3:=Z9l n.log s3
  unfold Bp
  show(frB _++(frB _++An (n.log.map fun e:REnt=>Cb 3 e.v e.n e.b))).length≤_
  rw[List.length_append,List.length_append,Ds,Ds,s1,s2,hz]
  omega
 unfold Me
 rw[if_neg,if_neg (by omega)]
 rw[List.any_eq_true]
 rintro⟨s,hs,hd⟩
 have hd:=of_decide_eq_true hd
 unfold Bp at hs
 rcases List.mem_cons.1 hs with rfl | hs
 ·omega
 ·rcases List.mem_cons.1 hs with rfl | hs
  ·omega
  ·obtain⟨e,hx,rfl⟩:=List.mem_map.1 hs
   have:=s3 e hx
   omega
structure SL (k:Nat)(n:PN):Prop where
 ws:WSt k n.st
 rl:RLd n.st
 kk:k≤900000000
 ld:B6 n.st.all (0,0,[])=some (n.pmd,n.normal,n.log)
theorem Z5t {k:Nat}{l:LD}(h:WSt k l)(hk:k≤900000001):(l.mark:Int)+2≤big:=by
 have:=h.mark
 have e:big=4611686018427387904:=rfl
 omega
theorem Qx {k:Nat}{n:PN}{r:ByteArray}(hw:WSt k n.st)(hr:RLd n.st)(_hk:k≤900000000)(ha:n.st.d.armed=0)(hv:NV n)(hrs:r.size≤4096)(hl:B6 (n.st.all++[r]) (0,0,[])=some (n.pmd,n.normal,n.log)) :
  Ch n r=true∧RLd (Bf n r).st∧(Bf n r).st.d.armed=0∧B6 (Bf n r).st.all (0,0,[])=some (n.pmd,n.normal,n.log):=by
 by_cases h5:Fx n.st r=51
 ·have eA:=Z2 h5
  have hf:=Zd hv
  obtain⟨hbl,hsz⟩:=P3 hf
  obtain⟨q1,q2⟩:=Z7h hw hr (Bp n) hf
  have hh:=hw.half
  obtain⟨w1,w2⟩:=Km hw.dd ha hw.many (h:=1 - n.st.half) (by omega) hbl 0
  obtain⟨w3,w4⟩:=Lk hw.dd w1
  obtain⟨-,w5,-,-⟩:=Ey (Ce (1 - n.st.half)) (An (Bp n)) (nsW (An (Bp n)) 0) n.st.d hw.d
  obtain⟨z1,z2⟩:=Jk (l:=wrL n.st (1 - n.st.half) (An (Bp n)) 0) w3 w4 w2 (by show(runW _ _ _ _).1.now.length=_;rw[w5];exact hw.many) (1 - n.st.half) (An (Bp n)).length
  have hE:J8 n.st (Bp n)=0:=by
   unfold J8
   rw[if_neg (by rw[hw.dead];decide),if_neg (fun h=>h hf),if_pos w1]
   unfold Dd
   rw[z1];rfl
  have hL:Fc n.st (Bp n)={Ah (wrL n.st (1 - n.st.half) (An (Bp n)) 0) (1 - n.st.half) (An (Bp n)).length with b:=An (Bp n),all:=Bp n}:=by
   unfold Fc
   rw[if_neg (by rw[hw.dead];decide),if_neg (fun h=>h hf),if_pos w1,if_neg (by rw[z1];decide)]
  have eK:Bf n r={n with st:=Fc n.st (Bp n)}:=by
   unfold Bf
   rw[if_pos h5,eA,hE]
   unfold Dp
   rw[if_neg (by decide)]
  have eB:Ch n r=true:=by
   unfold Ch
   rw[if_pos h5,eA,hE];rfl
  rw[eK,eB]
  refine⟨rfl,q2 hE,?_,?_⟩
  ·show(Fc n.st (Bp n)).d.armed=0
   rw[hL];exact z2
  ·show B6 (Fc n.st (Bp n)).all (0,0,[])=_
   rw[(Z1y hw (Bp n) hE).2];exact Q7 hv
 ·have h0:Fx n.st r=0:=by
   unfold Fx at h5⊢
   rw[if_neg (by rw[hw.dead];decide),if_neg (by omega)] at h5⊢
   by_cases hs2:(r.size:Int) > G1 n.st
   ·rw[if_pos hs2] at h5;exact absurd rfl h5
   ·rw[if_neg hs2]
    have hroom:(n.st.b++frB r).length≤35136:=by rw[List.length_append,Ds];have:=hw.len;unfold G1 at hs2;omega
    rw[if_pos (Km hw.dd ha hw.many hw.half hroom _).1]
  obtain⟨q1,q2,q3⟩:=Zd1 hw hr r h0
  have hS:Og (Bc n.st r)=0∧(Ja (Bc n.st r)).d.armed=0:=by
   have h0':=h0
   unfold Fx at h0'
   rw[if_neg (by rw[hw.dead];decide),if_neg (by omega)] at h0'
   have hs2:¬(r.size:Int) > G1 n.st:=fun hh=>by rw[if_pos hh] at h0';cases h0'
   have hroom:(n.st.b++frB r).length≤35136:=by rw[List.length_append,Ds];have:=hw.len;unfold G1 at hs2;omega
   obtain⟨w1,w2⟩:=Km hw.dd ha hw.many hw.half hroom n.st.b.length
   obtain⟨w3,w4⟩:=Lk hw.dd w1
   obtain⟨-,w5,-,-⟩:=Ey (Ce n.st.half) (n.st.b++frB r) (nsW (n.st.b++frB r) n.st.b.length) n.st.d hw.d
   have hA:Bc n.st r={wrL n.st n.st.half (n.st.b++frB r) n.st.b.length with b:=n.st.b++frB r,all:=n.st.all++[r]}:=by
    unfold Bc
    rw[if_neg (by rw[hw.dead];decide),if_neg (by omega),if_neg hs2,if_pos w1]
   obtain⟨z1,z2⟩:=Jk (l:=Bc n.st r) (by rw[hA];exact w3) (by rw[hA];exact w4) (by rw[hA];exact w2) (by rw[hA];show(runW _ _ _ _).1.now.length=_;rw[w5];exact hw.many) (Bc n.st r).half (Bc n.st r).b.length
   have hd:(Bc n.st r).dead=false:=by rw[hA];exact w3
   unfold Og Ja Dd
   rw[if_neg (by rw[hd];decide),z1,if_neg (by decide),if_neg (by rw[hd];decide)]
   exact⟨rfl,z2⟩
  have eK:Bf n r={n with st:=Ja (Bc n.st r)}:=by
   unfold Bf
   rw[if_neg h5,if_neg (fun h=>h h0),hS.1]
   unfold Dp
   rw[if_neg (by decide)]
  have eB:Ch n r=true:=by
   unfold Ch
   rw[if_neg h5,if_neg (fun h=>h h0),hS.1];rfl
  rw[eK,eB]
  refine⟨rfl,q3 hS.1,hS.2,?_⟩
  show B6 (Ja (Bc n.st r)).all (0,0,[])=_
  rw[(Z6t hw r h0 hS.1).2];exact hl
theorem Z3h {k:Nat}{st:LD}{n:PN}(hw:WSt k st)(hr:RLd st)(ha:st.d.armed=0)(hv:NV n):J8 st (Bp n)=0∧RLd (Fc st (Bp n))∧(Fc st (Bp n)).d.armed=0∧WSt (k+1) (Fc st (Bp n))∧(Fc st (Bp n)).all=Bp n:=by
 have hf:=Zd hv
 obtain⟨hbl,hsz⟩:=P3 hf
 obtain⟨q1,q2⟩:=Z7h hw hr (Bp n) hf
 have hh:=hw.half
 obtain⟨w1,w2⟩:=Km hw.dd ha hw.many (h:=1 - st.half) (by omega) hbl 0
 obtain⟨w3,w4⟩:=Lk hw.dd w1
 obtain⟨-,w5,-,-⟩:=Ey (Ce (1 - st.half)) (An (Bp n)) (nsW (An (Bp n)) 0) st.d hw.d
 obtain⟨z1,z2⟩:=Jk (l:=wrL st (1 - st.half) (An (Bp n)) 0) w3 w4 w2 (by show(runW _ _ _ _).1.now.length=_;rw[w5];exact hw.many) (1 - st.half) (An (Bp n)).length
 have hE:J8 st (Bp n)=0:=by
  unfold J8
  rw[if_neg (by rw[hw.dead];decide),if_neg (fun h=>h hf),if_pos w1]
  unfold Dd
  rw[z1];rfl
 have hL:Fc st (Bp n)={Ah (wrL st (1 - st.half) (An (Bp n)) 0) (1 - st.half) (An (Bp n)).length with b:=An (Bp n),all:=Bp n}:=by
  unfold Fc
  rw[if_neg (by rw[hw.dead];decide),if_neg (fun h=>h hf),if_pos w1,if_neg (by rw[z1];decide)]
 exact⟨hE,q2 hE,by rw[hL];exact z2,Z1y hw (Bp n) hE⟩
end Go.Proofs.YtihfaocdpmmooaaGreat
namespace Go.Proofs.YtihfaocdpmmooaaGreat
structure RJn where
 frm:Int
 v:Int
 n:Int
 l:List REnt
structure RN where
 self:Int
 many:Int
 pmd:Int
 normal:Int
 log:List REnt
 cmt:Int
 phase:Int
 jns:List RJn
 aks:List Int
 first:Int
 hrd:List Int
 out:List RPk
def H1 (self many:Int):RN:=⟨self,many,0,0,[],0,0,[],[],0,[],[]⟩
def Kn (n:RN):RN:=⟨n.self,n.many,n.pmd,n.normal,n.log,0,0,[],[],0,[],[]⟩
def E0 (n:RN)(to:Int)(m:RM):RN:={n with out:=n.out++[⟨n.self,to,⟨(bM m).toArray⟩⟩]}
def P9 (f:RN→Nat→RN)(n:RN)(i:Nat):RN:=(List.range i).foldl (fun(n:RN) (i:Nat)=>if(i:Int)=n.self then n else f n i) n
theorem Ff (f:RN→Nat→RN)(n:RN)(i:Nat):P9 f n (i+1)=if(i:Int)=(P9 f n i).self then P9 f n i else f (P9 f n i) i:=by unfold P9;rw[List.range_succ,List.foldl_append];rfl
def Bq (n:RN)(m:RM):RN:=P9 (fun n i=>E0 n i m) n n.many.toNat
def Ze (n:RN)(x:Int):Bool:=n.jns.any fun j=>decide (j.frm=x)
def Z98:List RJn→RJn→List RJn
 | [],j=>[j]
 | x::l,j=>if x.frm > j.frm then j::x::l else x::Z98 l j
def Nz (n:RN)(j:RJn):RN:={n with jns:=Z98 n.jns j}
def E6 (n:RN):RN:=if Bu n.aks > n.cmt then Bq {n with cmt:=Bu n.aks} ⟨6,n.pmd,0,Bu n.aks,[]⟩ else n
def L0 (n:RN)(l:List REnt):RN:={n with log:=l,cmt:=min n.cmt (A5 l),normal:=n.pmd,phase:=2,first:=A5 l,hrd:=[],aks:=(List.replicate n.many.toNat (0:Int)).set n.self.toNat (A5 l)}
def Ir (n:RN):List REnt:=(n.jns[(M0 (n.jns.map fun j=>⟨j.v,j.n⟩)).toNat]?.map RJn.l).getD []
def Ev (n:RN):RN :=
 if(n.jns.length:Int) < Am n.many then n
 else E6 (Bq (L0 n (Ir n)) ⟨3,n.pmd,0,0,Ir n⟩)
def Fk (n:RN)(v:Int):RN × Bool :=
 if v≤n.pmd∨Aa v n.many≠n.self then(n,false)
 else(Ev (Bq {n with pmd:=v,phase:=1,jns:=[⟨n.self,n.normal,A5 n.log,n.log⟩]} ⟨1,v,0,0,[]⟩),true)
def Z47 (n:RN)(e:REnt):RN:={n with log:=n.log++[e]}
def Dv (n:RN)(i k:Int):RN:={n with aks:=n.aks.set i.toNat (max (n.aks[i.toNat]?.getD 0) k)}
def Rg (n:RN)(s:ByteArray):REnt:=⟨n.pmd,A5 n.log+1,s⟩
def Cs (n:RN)(s:ByteArray):RN × Bool :=
 if n.phase≠2∨n.log.length ≥ 150∨s.size > 200 then(n,false)
 else(E6 (Bq (Dv (Z47 n (Rg n s)) n.self (Rg n s).n) ⟨4,n.pmd,0,(Rg n s).n - 1,[Rg n s]⟩),true)
def Lo (n:RN)(x:Int):Bool:=n.hrd.any fun j=>decide (j=x)
def K5 (n:RN)(i:Nat):RN:=if n.phase=1∧Ze n i=false then E0 n i ⟨1,n.pmd,0,0,[]⟩ else n
def K6 (n:RN)(i:Nat):RN:=if n.phase=2∧Lo n i=true then E0 n i ⟨4,n.pmd,0,n.aks[i]?.getD 0,n.log.drop (n.aks[i]?.getD 0).toNat⟩ else n
def J7 (n:RN)(i:Nat):RN:=if n.phase=2∧Lo n i=false then E0 n i ⟨3,n.pmd,0,0,n.log.take n.first.toNat⟩ else n
def Js (n:RN)(i:Nat):RN:=if n.phase=2 then E0 n i ⟨6,n.pmd,0,n.cmt,[]⟩ else n
def Fb (n:RN):RN:=P9 (fun n i=>Js (J7 (K6 (K5 n i) i) i) i) n n.many.toNat
def J5 (n:RN)(m:RM):RN:=if m.view > n.pmd then {n with pmd:=m.view,phase:=0} else n
def Gm (n:RN)(who:Int)(m:RM):RN :=
 if m.view=(J5 n m).pmd∧m.view > (J5 n m).normal∧(J5 n m).phase=0 then E0 (J5 n m) who ⟨2,m.view,(J5 n m).normal,0,(J5 n m).log⟩ else J5 n m
def Dq (n:RN)(who:Int)(m:RM):RN :=
 if n.phase≠1∨n.pmd≠m.view∨Ze n who=true then n else Ev (Nz n ⟨who,m.normal,A5 m.l,m.l⟩)
def El (n:RN)(m:RM):RN:=if m.view ≥ n.pmd∧m.view > n.normal then {n with pmd:=m.view,normal:=m.view,log:=m.l,cmt:=min n.cmt (A5 m.l),phase:=0} else n
def E8 (n:RN)(who:Int)(m:RM):RN :=
 if m.view=(El n m).pmd∧m.view=(El n m).normal then E0 (El n m) who ⟨5,m.view,0,A5 (El n m).log,[]⟩ else El n m
def I8:List REnt→RN→RN
 | [],n=>n
 | e::l,n=>if e.n > n.log.length+1 then n else if e.n=n.log.length+1∧(n.log.length=0∨e.v ≥ vw 0 n.log) then I8 l (Z47 n e) else I8 l n
def Gq (n:RN)(who:Int)(m:RM):RN :=
 if n.pmd≠m.view∨n.normal≠m.view∨n.phase≠0 then n else E0 (I8 m.l n) who ⟨5,m.view,0,A5 (I8 m.l n).log,[]⟩
def P4 (n:RN)(who:Int)(m:RM):RN:=E6 (Dv {n with hrd:=n.hrd++[who]} who m.num)
def E3 (n:RN)(who:Int)(m:RM):RN :=
 if n.phase≠2∨n.pmd≠m.view∨m.num > n.log.length then n
 else if m.num < (P4 n who m).log.length then E0 (P4 n who m) who ⟨4,(P4 n who m).pmd,0,m.num,(P4 n who m).log.drop m.num.toNat⟩ else P4 n who m
def Er (n:RN)(p:RPk):RN :=
 if ¬Kp p.body.data.toList∨p.to≠n.self∨p.frm=n.self∨p.frm < 0∨p.frm ≥ n.many then n
 else if(mD p.body.data.toList).kind=2 then Dq n p.frm (mD p.body.data.toList)
 else if(mD p.body.data.toList).kind=5 then E3 n p.frm (mD p.body.data.toList)
 else if Aa (mD p.body.data.toList).view n.many≠p.frm then n
 else if(mD p.body.data.toList).kind=1 then Gm n p.frm (mD p.body.data.toList)
 else if(mD p.body.data.toList).kind=3 then E8 n p.frm (mD p.body.data.toList)
 else if(mD p.body.data.toList).kind=4 then Gq n p.frm (mD p.body.data.toList)
 else if n.pmd=(mD p.body.data.toList).view∧n.normal=(mD p.body.data.toList).view∧n.phase=0 then {n with cmt:=max n.cmt (min (mD p.body.data.toList).num (A5 n.log))}
 else n
end Go.Proofs.YtihfaocdpmmooaaGreat
namespace Go.Proofs.YtihfaocdpmmooaaGreat
theorem Fl {n:PN}{i:Nat}{m:RM}(h:okM m=true):Aq n i m={n with out:=n.out++[⟨n.self,i,⟨(bM m).toArray⟩⟩]}:=by unfold Aq;rw[if_pos h]
def Wc (self k:Nat):List Nat:=(List.range k).filter fun i=>decide (i≠self)
theorem Pg (self k:Nat):Wc self (k+1)=if k=self then Wc self k else Wc self k++[k]:=by
 unfold Wc
 rw[List.range_succ,List.filter_append]
 split
 ·next h=>rw[List.filter_cons_of_neg (by simpa using h)];simp
 ·next h=>rw[List.filter_cons_of_pos (by simpa using h)];rfl
theorem Kl {f:PN→Nat→PN}{g:Nat→List RPk}{n:PN}:∀k,(∀o i,i < k→f {n with out:=o} i={n with out:=o++g i})→Jt f n k={n with out:=n.out++(Wc n.self k).flatMap g}
 | 0,_=>by simp[Jt,Wc]
 | k+1,h=>by
  rw[Ee,Kl k fun o i hi=>h o i (by omega),Pg]
  by_cases hk:k=n.self
  ·rw[if_pos hk,if_pos hk]
  ·rw[if_neg hk,if_neg hk,h _ _ (by omega),List.flatMap_append,List.append_assoc];simp
theorem O4 {f:RN→Nat→RN}{g:Nat→List RPk}{r:RN}{s:Nat}(hs:r.self=s):∀k,(∀o i,i < k→f {r with out:=o} i={r with out:=o++g i})→P9 f r k={r with out:=r.out++(Wc s k).flatMap g}
 | 0,_=>by simp[P9,Wc]
 | k+1,h=>by
  rw[Ff,O4 hs k fun o i hi=>h o i (by omega),Pg]
  by_cases hk:k=s
  ·rw[if_pos hk,if_pos (by show((k:Nat):Int)=r.self;rw[hs,hk])]
  ·rw[if_neg hk,if_neg (by show ¬((k:Nat):Int)=r.self;rw[hs];omega),h _ _ (by omega),List.flatMap_append,List.append_assoc];simp
def spL (self many:Nat)(m:RM):List RPk:=(Wc self many).flatMap fun i:Nat=>[⟨(self:Int),(i:Int),⟨(bM m).toArray⟩⟩]
theorem Wp {n:PN}{m:RM}(h:okM m=true):Ao n m={n with out:=n.out++spL n.self n.many m}:=by
 unfold Ao spL
 exact Kl (f:=fun n i=>Aq n i m) (n:=n) (g:=fun i:Nat=>[⟨(n.self:Int),(i:Int),⟨(bM m).toArray⟩⟩]) _ fun o i _=>Fl (n:={n with out:=o}) h
theorem Xs {r:RN}{s k:Nat}(m:RM)(hs:r.self=s)(hk:r.many=k):Bq r m={r with out:=r.out++spL s k m}:=by
 unfold Bq spL
 rw[show r.many.toNat=k by rw[hk,Int.toNat_natCast]]
 exact O4 (f:=fun n i=>E0 n i m) (r:=r) (g:=fun i:Nat=>[⟨(s:Int),(i:Int),⟨(bM m).toArray⟩⟩]) hs _ fun o i _=>by
  show({r with out:=o++[(⟨r.self,i,⟨(bM m).toArray⟩⟩:RPk)]}:RN)={r with out:=o++[(⟨(s:Int),i,⟨(bM m).toArray⟩⟩:RPk)]}
  rw[show r.self=(s:Int) from hs]
def jrL (j:Nat→RJ)(m:Nat):List RJn:=((List.range m).filter fun i=>(j i).is).map fun i:Nat=>⟨(i:Int),(j i).normal,A5 (j i).l,(j i).l⟩
structure Sim (n:PN)(r:RN):Prop where
 self:r.self=n.self
 many:r.many=n.many
 pmd:r.pmd=n.pmd
 normal:r.normal=n.normal
 log:r.log=n.log
 cmt:r.cmt=n.cmt
 out:r.out=n.out
 phase:r.phase=if n.lds=true then(if n.std=true then 2 else 1) else 0
 jns:n.lds=true→n.std=false→r.jns=jrL n.jns n.many
 aks:n.lds=true→n.std=true→r.aks=Bm n∧r.first=n.first∧∀i:Nat,i < n.many→Lo r i=n.hrd i
theorem Sim.snd {n:PN}{r:RN}(h:Sim n r)(l:List RPk):Sim {n with out:=n.out++l} {r with out:=r.out++l} :=
 ⟨h.self,h.many,h.pmd,h.normal,h.log,h.cmt,by show r.out++l=n.out++l;rw[h.out],h.phase,h.jns,h.aks⟩
theorem Sim.spread {n:PN}{r:RN}(h:Sim n r){m:RM}(hm:okM m=true):Sim (Ao n m) (Bq r m):=by
 rw[Wp hm,Xs m h.self h.many]
 exact h.snd _
theorem Sim.send {n:PN}{r:RN}(h:Sim n r){i:Nat}{m:RM}(hm:okM m=true):Sim (Aq n i m) (E0 r i m):=by
 rw[Fl hm]
 have:=h.snd [⟨n.self,i,⟨(bM m).toArray⟩⟩]
 have e:E0 r i m={r with out:=r.out++[⟨n.self,i,⟨(bM m).toArray⟩⟩]}:=by
  unfold E0
  rw[show [(⟨r.self,i,⟨(bM m).toArray⟩⟩:RPk)]=[⟨n.self,i,⟨(bM m).toArray⟩⟩] by rw[h.self]]
 rw[e]
 exact this
theorem U1 {v c:Int}(hv:1≤v∧v≤big)(hc:0≤c∧c≤150):okM ⟨6,v,0,c,[]⟩=true:=by
 unfold okM
 rw[decide_eq_true (by dsimp only;omega)]
 rfl
theorem Sb {v c:Int}(hv:1≤v∧v≤big)(hc:0≤c∧c≤150):okM ⟨5,v,0,c,[]⟩=true:=by
 unfold okM
 rw[decide_eq_true (by dsimp only;omega)]
 rfl
theorem Zr {v:Int}(hv:1≤v∧v≤big):okM ⟨1,v,0,0,[]⟩=true:=by
 unfold okM
 rw[decide_eq_true (by dsimp only;omega)]
 rfl
theorem Kq:∀{l:List REnt} {v:Int} {k:Nat},Ai v k l=true→k+l.length≤150→H8 k v l=true
 | [],_,_,_,_=>rfl
 | e::l,v,k,h,hl=>by
  have h:(okB v k e&&Ai e.v (k+1) l)=true:=h
  rw[Bool.and_eq_true] at h
  have h1:=h.1
  unfold okB at h1
  rw[decide_eq_true_iff] at h1
  rw[List.length_cons] at hl
  unfold H8
  rw[decide_eq_true (by omega)]
  have:=Kq h.2 (by omega)
  rw[show((k+1:Nat):Int)=(k:Int)+1 by omega] at this
  exact this
theorem Z1l {l:List REnt}(h:Bg l=true):Lw 0 l=true∧l.length≤150:=by
 unfold Bg at h
 rw[Bool.and_eq_true,decide_eq_true_iff] at h
 unfold Lw
 have:=Kq h.1 (by omega)
 rw[show H8 0 1 l=true from this,decide_eq_true h.2]
 exact⟨rfl,h.2⟩
theorem N7:∀{l:List REnt} {v:Int} {k:Nat} (i:Nat),Ai v k l=true→∃v',v≤v'∧Ai v' (k+i) (l.drop i)=true
 | l,v,k,0,h=>⟨v,Int.le_refl _,h⟩
 | [],v,k,i+1,_=>⟨v,Int.le_refl _,rfl⟩
 | e::l,v,k,i+1,h=>by
  have h:(okB v k e&&Ai e.v (k+1) l)=true:=h
  rw[Bool.and_eq_true] at h
  have h1:=h.1
  unfold okB at h1
  rw[decide_eq_true_iff] at h1
  obtain⟨v',a,b⟩:=N7 i h.2
  exact⟨v',by omega,by rw[show k+(i+1)=k+1+i by omega];exact b⟩
theorem Za7:∀{l:List REnt} {v v' k:Int},v≤v'→H8 k v' l=true→H8 k v l=true
 | [],_,_,_,_,_=>rfl
 | e::l,v,v',k,hv,h=>by
  unfold H8 at h⊢
  rw[Bool.and_eq_true,decide_eq_true_iff] at h
  rw[decide_eq_true (by omega)]
  exact h.2
theorem Gr {l m:List REnt}{v v':Int}(h:B9 l v=true)(hs:∀e∈m,e∈l)(hv:v≤v'):B9 m v'=true:=by
 unfold B9 at *
 rw[List.all_eq_true] at *
 intro e he
 have:=of_decide_eq_true (h e (hs e he))
 exact decide_eq_true (by omega)
theorem Uj {v q:Int}{l:List REnt}(hv:1≤v∧v≤big)(hq:0≤q∧q < v)(hl:Bg l=true)(ht:B9 l q=true):okM ⟨2,v,q,0,l⟩=true:=by
 obtain⟨h1,h2⟩:=Z1l hl
 unfold okM
 rw[decide_eq_true (by dsimp only;omega)]
 dsimp only
 rw[if_neg (by decide),if_pos rfl,h1,ht]
 rfl
theorem Ps {v:Int}{l:List REnt}(hv:1≤v∧v≤big)(hl:Bg l=true)(ht:B9 l (v - 1)=true):okM ⟨3,v,0,0,l⟩=true:=by
 obtain⟨h1,h2⟩:=Z1l hl
 unfold okM
 rw[decide_eq_true (by dsimp only;omega)]
 dsimp only
 rw[if_neg (by decide),if_neg (by decide),if_pos rfl,h1,ht]
 rfl
theorem Zm {v:Int}{k:Nat}{l:List REnt}(hv:1≤v∧v≤big)(hk:k≤l.length)(hl:Bg l=true)(ht:B9 l v=true):okM ⟨4,v,0,k,l.drop k⟩=true:=by
 have hl2:=hl
 unfold Bg at hl2
 rw[Bool.and_eq_true,decide_eq_true_iff] at hl2
 obtain⟨v',a,b⟩:=N7 k hl2.1
 have h3:=Za7 a (Kq b (by rw[List.length_drop];omega))
 unfold okM
 rw[decide_eq_true (by dsimp only;omega)]
 dsimp only
 rw[if_neg (by decide),if_neg (by decide),if_neg (by decide),if_pos rfl,Gr ht (fun e he=>List.mem_of_mem_drop he) (Int.le_refl _)]
 unfold Lw
 rw[Nat.zero_add] at h3
 have hdl:(l.drop k).length≤150:=by rw[List.length_drop];omega
 rw[h3,decide_eq_true hdl]
 simp
theorem Z86 {v:Int}{k:Nat}{s:ByteArray}(hv:1≤v∧v≤big)(hk:k+1≤150)(hs:s.size≤200):okM ⟨4,v,0,k,[⟨v,(k:Int)+1,s⟩]⟩=true:=by
 unfold okM
 rw[decide_eq_true (by dsimp only;omega)]
 dsimp only
 rw[if_neg (by decide),if_neg (by decide),if_neg (by decide),if_pos rfl]
 have h1:H8 (k:Int) 1 [⟨v,(k:Int)+1,s⟩]=true:=by
  unfold H8
  rw[decide_eq_true (by dsimp only;omega)]
  rfl
 unfold Lw B9
 rw[h1]
 simp
end Go.Proofs.YtihfaocdpmmooaaGreat
namespace Go.Proofs.YtihfaocdpmmooaaGreat
theorem WSt.up {k j:Nat}{l:LD}(h:WSt k l)(hj:k≤j):WSt j l:=⟨h.d,h.many,h.armed,h.wait,h.half,h.b,h.len,Nat.le_trans h.mark hj,h.dead,h.dd⟩
structure NI (k:Nat)(n:PN):Prop where
 sl:SL k n
 arm:n.st.d.armed=0
 nv:NV n
 dead:n.dead=false
 self:n.self < n.many
 m7:n.many≤7
 com:0≤n.cmt∧n.cmt≤n.log.length
 ld:n.lds=true→Aa n.pmd n.many=n.self∧1≤n.pmd
 st:n.std=true→n.lds=true∧n.normal=n.pmd∧(∀i,0≤n.aks i∧n.aks i≤n.log.length)∧(0≤n.first∧n.first≤n.log.length)∧B9 (n.log.take n.first.toNat) (n.pmd - 1)=true
 jn:n.lds=true→n.std=false→n.normal < n.pmd∧∀i,(n.jns i).is=true→(0≤(n.jns i).normal∧(n.jns i).normal < n.pmd)∧Bg (n.jns i).l=true∧B9 (n.jns i).l (n.jns i).normal=true
 jl:∀i,(n.jns i).l.length≤150
theorem NI.wn {k:Nat}{n:PN}(h:NI k n)(ho:n.out.length≤700000):WNk k n :=
 ⟨h.sl.ws,h.sl.kk,by have:=h.self;omega,h.m7,h.self,h.nv.ents.1,ho,fun i _=>h.jl i,h.nv.p.2.1,fun hs=>⟨fun i _=>(h.st hs).2.2.1 i,(h.st hs).2.2.2.1⟩⟩
theorem NI.snd {k:Nat}{n:PN}(h:NI k n)(o:List RPk):NI k {n with out:=o} :=
 ⟨⟨h.sl.ws,h.sl.rl,h.sl.kk,h.sl.ld⟩,h.arm,⟨h.nv.p,h.nv.log,h.nv.top⟩,h.dead,h.self,h.m7,h.com,h.ld,h.st,h.jn,h.jl⟩
theorem NI.same {k:Nat}{n n':PN}(h:NI k n)(hs:SameN n n'):NI k n':=by
 obtain⟨o,rfl⟩:=hs.to
 exact h.snd o
theorem Z84 {l:List Int}{c:Int}(h0:0≤c)(h:∀x∈l,x≤c):0≤Bu l∧Bu l≤c:=by
 have key:∀k,0≤Cr l k∧Cr l k≤c:=fun k=>by
  induction k with
  | zero=>simp[Cr];exact h0
  | succ k ih =>
   by_cases hk:k < l.length
   ·rw[Lr hk]
    split
    ·next hh=>exact⟨by omega,h _ (List.getElem_mem hk)⟩
    ·exact ih
   ·have:Cr l (k+1)=Cr l k:=by
     unfold Cr
     rw[List.take_of_length_le (by omega),List.take_of_length_le (by omega)]
    rw[this];exact ih
 unfold Bu
 split
 ·exact key _
 ·exact⟨Int.le_refl _,h0⟩
theorem Z4i {n:PN}{x:Int}(h:x∈Bm n):∃i,x=n.aks i:=by
 unfold Bm at h
 obtain⟨i,-,rfl⟩:=List.mem_map.1 h
 exact⟨i,rfl⟩
theorem P8 {k:Nat}{n:PN}{r:RN}(h:Sim n r)(hi:NI k n)(hs:n.std=true):Sim (Cp n) (E6 r)∧NI k (Cp n)∧(Cp n).log=n.log∧(Cp n).pmd=n.pmd:=by
 obtain⟨rs,rm,rp,rn,rl,rc,rph,rj,ra,rf,rh,ro⟩:=r
 obtain rfl:rs=n.self:=h.self
 obtain rfl:rm=n.many:=h.many
 obtain rfl:rp=n.pmd:=h.pmd
 obtain rfl:rn=n.normal:=h.normal
 obtain rfl:rl=n.log:=h.log
 obtain rfl:rc=n.cmt:=h.cmt
 obtain rfl:ro=n.out:=h.out
 obtain⟨s1,s2,s3,s4,s5⟩:=hi.st hs
 obtain⟨a1,a2,a3⟩:=h.aks s1 hs
 obtain rfl:ra=Bm n:=a1
 have hb:=Z84 (l:=Bm n) (c:=n.log.length) (by omega) fun x hx=>by
  obtain⟨i,rfl⟩:=Z4i hx
  exact(s3 i).2
 have hl:=hi.nv.ents.1
 have hp:=hi.nv.p
 have hv:=(hi.ld s1).2
 unfold Cp E6
 dsimp only
 by_cases hc:Bu (Bm n) > n.cmt
 ·rw[if_pos hc,if_pos hc]
  have hm:=U1 (v:=n.pmd) (c:=Bu (Bm n)) (by omega) (by omega)
  have h2:Sim {n with cmt:=Bu (Bm n)} ⟨n.self,n.many,n.pmd,n.normal,n.log,Bu (Bm n),rph,rj,Bm n,rf,rh,n.out⟩:=⟨h.self,h.many,h.pmd,h.normal,h.log,rfl,h.out,h.phase,h.jns,h.aks⟩
  have h3:NI k {n with cmt:=Bu (Bm n)}:=⟨⟨hi.sl.ws,hi.sl.rl,hi.sl.kk,hi.sl.ld⟩,hi.arm,⟨hi.nv.p,hi.nv.log,hi.nv.top⟩,hi.dead,hi.self,hi.m7,⟨hb.1,hb.2⟩,hi.ld,hi.st,hi.jn,hi.jl⟩
  have hss:=A2 {n with cmt:=Bu (Bm n)} ⟨6,n.pmd,0,Bu (Bm n),[]⟩
  refine⟨?_,h3.same hss,?_,?_⟩
  ·exact h2.spread hm
  ·obtain⟨o,e⟩:=hss.to;rw[e]
  ·obtain⟨o,e⟩:=hss.to;rw[e]
 ·rw[if_neg hc,if_neg hc]
  exact⟨h,hi,rfl,rfl⟩
theorem Z70 (n:PN):(jrL n.jns n.many).length=(B5 n).length:=by
 unfold jrL B5 jlN
 rw[List.length_map,List.filter_map,List.length_map]
 rfl
theorem Z3z (n:PN):(jrL n.jns n.many).map (fun j=>(⟨j.v,j.n⟩:Mk))=(B5 n).map mkJ:=by
 unfold jrL B5 jlN
 rw[List.map_map,List.filter_map,List.map_map]
 rfl
theorem Z8n {n:PN}{r:RN}(h:r.jns=jrL n.jns n.many):Ir r=F1 n:=by
 unfold Ir F1
 rw[h,Z3z]
 generalize (M0 ((B5 n).map mkJ)).toNat=p
 unfold jrL B5 jlN
 rw[List.filter_map,List.getElem?_map,List.getElem?_map]
 show(Option.map RJn.l (Option.map _ (List.filter (fun i=>(n.jns i).is) (List.range n.many))[p]?)).getD []=((Option.map n.jns (List.filter (RJ.is ∘ n.jns) (List.range n.many))[p]?).getD j0).l
 have e:(List.filter (fun i=>(n.jns i).is) (List.range n.many))=List.filter (RJ.is ∘ n.jns) (List.range n.many):=rfl
 rw[e]
 cases(List.filter (RJ.is ∘ n.jns) (List.range n.many))[p]?<;>rfl
theorem Xc (n:PN)(hs:n.self < n.many):Bm (Dc n)=(List.replicate n.many (0:Int)).set n.self (A5 n.log):=by
 refine List.ext_getElem? fun i=>?_
 unfold Bm
 show((List.range n.many).map fun i=>if i=n.self then A5 n.log else 0)[i]?=_
 rw[List.getElem?_map,List.getElem?_set,List.length_replicate]
 by_cases hi:i < n.many
 ·rw[List.getElem?_range hi]
  by_cases h:n.self=i
  ·rw[if_pos h,if_pos hs]
   show some (if i=n.self then _ else _)=_
   rw[if_pos h.symm]
  ·rw[if_neg h,List.getElem?_replicate,if_pos hi]
   show some (if i=n.self then _ else _)=_
   rw[if_neg (fun e=>h e.symm)]
 ·rw[List.getElem?_eq_none (by rw[List.length_range];omega),if_neg (by omega),List.getElem?_replicate,if_neg hi]
  rfl
theorem Kr {k:Nat}{n:PN}(hw:WSt k n.st)(hr:RLd n.st)(ha:n.st.d.armed=0){v:Int}{l:List REnt}(hv:NV (Bj n v l)):Do n v l=true∧∃st,C8 n v l={Bj n v l with st:=st}∧WSt (k+1) st∧RLd st∧st.d.armed=0∧B6 st.all (0,0,[])=some (v,v,l):=by
 obtain⟨q1,q2,q3,q4,q5⟩:=Z3h hw hr ha hv
 refine⟨decide_eq_true q1,Fc n.st (Bp (Bj n v l)),?_,q4,q2,q3,by rw[q5];exact Q7 hv⟩
 unfold C8 Dp
 rw[if_neg (fun h=>h q1)]
theorem Pe {k:Nat}{n:PN}{r:RN}(h:Sim n r)(hi:NI k n)(hk:k+1≤900000000)(hl:n.lds=true)(hs:n.std=false):Sim (Br n) (Ev r)∧NI (k+1) (Br n):=by
 obtain⟨rs,rm,rp,rn,rl,rc,rph,rj,ra,rf,rh,ro⟩:=r
 obtain rfl:rs=n.self:=h.self
 obtain rfl:rm=n.many:=h.many
 obtain rfl:rp=n.pmd:=h.pmd
 obtain rfl:rn=n.normal:=h.normal
 obtain rfl:rl=n.log:=h.log
 obtain rfl:rc=n.cmt:=h.cmt
 obtain rfl:ro=n.out:=h.out
 have hj:=h.jns hl hs
 obtain⟨j1,j2⟩:=hi.jn hl hs
 obtain⟨l1,l2⟩:=hi.ld hl
 have hp:=hi.nv.p
 have hbl:=Z8n (n:=n) hj
 have hj:rj=jrL n.jns n.many:=hj
 have hlen:rj.length=(B5 n).length:=by rw[hj,Z70]
 have hm1:1≤n.many:=by have:=hi.self;omega
 unfold Br Ev
 rw[hbl]
 dsimp only
 rw[hlen]
 by_cases hq:((B5 n).length:Int) < Am n.many
 ·rw[if_pos hq,if_pos hq]
  exact⟨h,⟨⟨hi.sl.ws.up (by omega),hi.sl.rl,hk,hi.sl.ld⟩,hi.arm,hi.nv,hi.dead,hi.self,hi.m7,hi.com,hi.ld,hi.st,hi.jn,hi.jl⟩⟩
 ·rw[if_neg hq,if_neg hq]
  have hq1:=Uf hm1 hi.m7
  obtain⟨j,-,hjb,eb⟩:=Z0i (n:=n) (by omega)
  have hjm:=List.mem_of_getElem? hjb
  unfold B5 jlN at hjm
  obtain⟨hjm,hjis⟩:=List.mem_filter.1 hjm
  obtain⟨i,-,rfl⟩:=List.mem_map.1 hjm
  obtain⟨⟨b1,b2⟩,b3,b4⟩:=j2 i hjis
  have hlog:=hi.jl i
  rw[←eb] at b3 b4 hlog
  have hv:NV (Bj n n.pmd (F1 n)):=⟨⟨by show 0≤n.pmd;omega,Int.le_refl _,hp.2.2⟩,b3,Gr b4 (fun e he=>he) (by show _≤n.pmd;omega)⟩
  obtain⟨q1,st,q2,q3,q4,q5,q6⟩:=Kr hi.sl.ws hi.sl.rl hi.arm hv
  rw[if_pos q1,q2]
  have hms:=Ps (v:=n.pmd) (l:=F1 n) (by omega) b3 (Gr b4 (fun e he=>he) (by omega))
  have hle:=Dg (F1 n)
  generalize F1 n=B at *
  have hS:Sim (Dc {Bj n n.pmd B with st:=st}) (L0 ⟨n.self,n.many,n.pmd,n.normal,n.log,n.cmt,rph,rj,ra,rf,rh,n.out⟩ B):=by
   refine⟨rfl,rfl,rfl,rfl,rfl,?_,rfl,?_,fun _ hh=>(by cases hh),fun _ _=>⟨?_,rfl,fun x hx=>rfl⟩⟩
   ·rfl
   ·show(2:Int)=if n.lds=true then(if true=true then 2 else 1) else 0
    rw[if_pos hl,if_pos rfl]
   ·have e:=Xc {Bj n n.pmd B with st:=st} hi.self
    rw[e]
    rfl
  have hN:NI (k+1) (Dc {Bj n n.pmd B with st:=st}):=by
   have hcom:=hi.com
   refine⟨⟨q3,q4,hk,q6⟩,q5,⟨hv.p,hv.log,hv.top⟩,hi.dead,hi.self,hi.m7,?_,hi.ld,fun _=>⟨hl,rfl,fun x=>?_,?_,?_⟩,fun _ hh=>(by cases hh),hi.jl⟩
   ·show 0≤min n.cmt (A5 B)∧min n.cmt (A5 B)≤(B.length:Int)
    omega
   ·show 0≤(if x=n.self then A5 B else 0)∧(if x=n.self then A5 B else 0)≤(B.length:Int)
    split<;>omega
   ·show 0≤A5 B∧A5 B≤(B.length:Int)
    omega
   ·show B9 (B.take (A5 B).toNat) (n.pmd - 1)=true
    exact Gr b4 (fun e he=>List.mem_of_mem_take he) (by omega)
  have h1:=hS.spread hms
  have h2:=hN.same (A2 (Dc {Bj n n.pmd B with st:=st}) ⟨3,n.pmd,0,0,B⟩)
  have h3:(Ao (Dc {Bj n n.pmd B with st:=st}) ⟨3,n.pmd,0,0,B⟩).std=true:=by
   obtain⟨o,e⟩:=(A2 (Dc {Bj n n.pmd B with st:=st}) ⟨3,n.pmd,0,0,B⟩).to
   rw[e];rfl
  obtain⟨r1,r2,-⟩:=P8 h1 h2 h3
  exact⟨r1,r2⟩
theorem N3 {n:PN}{r:ByteArray}(h:Ch n r=true):Bf n r={n with st:=(Bf n r).st}:=by
 unfold Ch at h
 unfold Bf
 split
 ·next h5 =>
  rw[if_pos h5] at h
  have h:=of_decide_eq_true h
  unfold Dp
  rw[if_neg (fun hh=>hh h)]
 ·next h5 =>
  rw[if_neg h5] at h
  split
  ·next h0=>rw[if_pos h0] at h;cases h
  ·next h0 =>
   rw[if_neg h0] at h
   have h:=of_decide_eq_true h
   unfold Dp
   rw[if_neg (fun hh=>hh h)]
theorem Pk {k:Nat}{n:PN}(hi:NI k n){v:Int}(hv:n.pmd < v)(hb:v≤big):Jv n v=true∧∃st,Ep n v={n with pmd:=v,lds:=false,std:=false,st:=st}∧WSt (k+1) st∧RLd st∧st.d.armed=0∧B6 st.all (0,0,[])=some (v,n.normal,n.log):=by
 have hp:=hi.nv.p
 have hN:NV {n with pmd:=v,lds:=false,std:=false}:=⟨⟨hp.1,by show n.normal≤v;omega,hb⟩,hi.nv.log,hi.nv.top⟩
 have hz:=(G7 (k:=1) (a:=v) (b:=0) (s:=eS) (by omega) (by omega) (by decide) (by decide)).1
 have e0:eS.size=0:=rfl
 obtain⟨q1,q2,q3,q4⟩:=Qx (n:={n with pmd:=v,lds:=false,std:=false}) (r:=Cb 1 v 0 eS) hi.sl.ws hi.sl.rl hi.sl.kk hi.arm hN (by omega) (by
  show B6 (n.st.all++[Cb 1 v 0 eS]) (0,0,[])=some (v,n.normal,n.log)
  rw[Lg,hi.sl.ld]
  show Cu (n.pmd,n.normal,n.log) (Cb 1 v 0 eS)=_
  rw[Z6p (by omega)])
 have q5:=(Jm (n:={n with pmd:=v,lds:=false,std:=false}) hi.sl.ws (Cb 1 v 0 eS) q1).1
 exact⟨q1,_,N3 q1,q5,q2,q3,q4⟩
theorem Tp {k:Nat}{n:PN}{r:RN}(h:Sim n r)(hi:NI k n)(hk:k+2≤900000000)(v:Int):(C3 n v).2=(Fk r v).2∧Sim (C3 n v).1 (Fk r v).1∧NI (k+2) (C3 n v).1:=by
 have up:NI (k+2) n:=⟨⟨hi.sl.ws.up (by omega),hi.sl.rl,hk,hi.sl.ld⟩,hi.arm,hi.nv,hi.dead,hi.self,hi.m7,hi.com,hi.ld,hi.st,hi.jn,hi.jl⟩
 obtain⟨rs,rm,rp,rn,rl,rc,rph,rj,ra,rf,rh,ro⟩:=r
 obtain rfl:rs=n.self:=h.self
 obtain rfl:rm=n.many:=h.many
 obtain rfl:rp=n.pmd:=h.pmd
 obtain rfl:rn=n.normal:=h.normal
 obtain rfl:rl=n.log:=h.log
 obtain rfl:rc=n.cmt:=h.cmt
 obtain rfl:ro=n.out:=h.out
 unfold C3 Fk
 dsimp only
 by_cases hc:v≤n.pmd∨Aa v n.many≠n.self
 ·rw[if_pos (.inr hc),if_pos hc]
  exact⟨rfl,h,up⟩
 ·rw[if_neg (by rw[hi.dead];rintro(h | h);cases h;exact hc h),if_neg hc]
  have hv1:n.pmd < v:=by omega
  have hpr:Aa v n.many=n.self:=Classical.byContradiction fun hh=>hc (.inr hh)
  have hvb:v≤big:=by
   unfold Aa at hpr
   split at hpr
   ·next hh=>exact hh.2.2
   ·omega
  have hp:=hi.nv.p
  obtain⟨q1,st,q2,q3,q4,q5,q6⟩:=Pk hi hv1 hvb
  rw[if_pos q1,q2]
  have hS:Sim {n with pmd:=v,lds:=true,std:=false,st:=st,jns:=fun i=>if i=n.self then⟨true,n.normal,n.log⟩ else j0} ⟨n.self,n.many,v,n.normal,n.log,n.cmt,1,[⟨n.self,n.normal,A5 n.log,n.log⟩],ra,rf,rh,n.out⟩:=by
   refine⟨rfl,rfl,rfl,rfl,rfl,rfl,rfl,?_,fun _ _=>?_,fun _ hh=>(by cases hh)⟩
   ·show(1:Int)=if true=true then(if false=true then 2 else 1) else 0
    rw[if_pos rfl,if_neg (by decide)]
   ·show [(⟨n.self,n.normal,A5 n.log,n.log⟩:RJn)]=jrL (fun i=>if i=n.self then⟨true,n.normal,n.log⟩ else j0) n.many
    unfold jrL
    have e:(List.range n.many).filter (fun i=>(if i=n.self then(⟨true,n.normal,n.log⟩:RJ) else j0).is)=[n.self]:=by
     have hself:=hi.self
     have key:∀m,(List.range m).filter (fun i=>(if i=n.self then(⟨true,n.normal,n.log⟩:RJ) else j0).is)=if n.self < m then [n.self] else []:=fun m=>by
      induction m with
      | zero=>rfl
      | succ m ih =>
       rw[List.range_succ,List.filter_append,ih]
       by_cases hm:m=n.self
       ·rw[List.filter_cons_of_pos (by rw[if_pos hm]),if_neg (by omega),if_pos (by omega),hm];rfl
       ·rw[List.filter_cons_of_neg (by rw[if_neg hm];decide)]
        by_cases hlt:n.self < m
        ·rw[if_pos hlt,if_pos (by omega)];rfl
        ·rw[if_neg hlt,if_neg (by omega)];rfl
     rw[key,if_pos hself]
    rw[e]
    dsimp only[List.map]
    rw[if_pos rfl]
  have hN:NI (k+1) {n with pmd:=v,lds:=true,std:=false,st:=st,jns:=fun i=>if i=n.self then⟨true,n.normal,n.log⟩ else j0}:=by
   refine⟨⟨q3,q4,by omega,q6⟩,q5,⟨⟨hp.1,by show n.normal≤v;omega,hvb⟩,hi.nv.log,hi.nv.top⟩,hi.dead,hi.self,hi.m7,hi.com,fun _=>⟨hpr,by show 1≤v;omega⟩,fun hh=>(by cases hh),fun _ _=>⟨by show n.normal < v;omega,fun i hii=>?_⟩,fun i=>?_⟩
   ·dsimp only at hii⊢
    split
    ·exact⟨⟨hp.1,by show n.normal < v;omega⟩,hi.nv.log,hi.nv.top⟩
    ·next hne=>rw[if_neg hne] at hii;cases hii
   ·dsimp only
    split
    ·exact hi.nv.ents.1
    ·exact Nat.zero_le _
  have hm:=Zr (v:=v) (by omega)
  have h1:=hS.spread hm
  have hss:=A2 {n with pmd:=v,lds:=true,std:=false,st:=st,jns:=fun i=>if i=n.self then⟨true,n.normal,n.log⟩ else j0} ⟨1,v,0,0,[]⟩
  have h2:=hN.same hss
  obtain⟨o,e⟩:=hss.to
  obtain⟨r1,r2⟩:=Pe h1 h2 (by omega) (by rw[e]) (by rw[e])
  exact⟨rfl,r1,r2⟩
end Go.Proofs.YtihfaocdpmmooaaGreat

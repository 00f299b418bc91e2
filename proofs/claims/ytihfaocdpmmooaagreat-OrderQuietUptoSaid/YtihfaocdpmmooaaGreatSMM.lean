
import Derived.Test.YtihfaocdpmmooaaGreatRM1
import Derived.Test.YtihfaocdpmmooaaGreatZNl
import Derived.Test.YtihfaocdpmmooaaGreatNM1
namespace Go.Proofs.YtihfaocdpmmooaaGreat
theorem Le:∀(l m:List REnt) (v:Int) (k:Nat),Ai v k (l++m)=(Ai v k l&&Ai (vw v l) (k+l.length) m)
 | [],m,v,k=>by simp[Ai,vw]
 | e::l,m,v,k=>by
  have ev:vw v (e::l)=vw e.v l:=by
   unfold vw
   rw[List.getLast?_cons]
   cases l.getLast?<;>rfl
  rw[List.cons_append]
  show(okB v k e&&Ai e.v (k+1) (l++m))=(okB v k e&&Ai e.v (k+1) l&&_)
  rw[Le l m e.v (k+1),ev,Bool.and_assoc,List.length_cons,show k+1+l.length=k+(l.length+1) by omega]
theorem Q9:∀{l:List REnt} {v:Int} {k:Nat},Ai v k l=true→∀e∈l,v≤e.v∧e.v≤4611686018427387904∧e.b.size≤200∧1≤e.n∧e.n≤k+l.length
 | [],_,_,_,e,he=>by cases he
 | x::l,v,k,h,e,he=>by
  have h:(okB v k x&&Ai x.v (k+1) l)=true:=h
  rw[Bool.and_eq_true] at h
  have h1:=h.1
  unfold okB at h1
  rw[decide_eq_true_iff] at h1
  rcases List.mem_cons.1 he with rfl | he
  ·rw[List.length_cons];exact⟨h1.2.1,h1.2.2.1,h1.2.2.2,by omega,by omega⟩
  ·have:=Q9 h.2 e he
   rw[List.length_cons]
   exact⟨by omega,this.2.1,this.2.2.1,this.2.2.2.1,by omega⟩
structure NV (n:PN):Prop where
 p:0≤n.normal∧n.normal≤n.pmd∧n.pmd≤big
 log:Bf n.log=true
 top:B6 n.log n.normal=true
theorem NV.ents {n:PN}(h:NV n):n.log.length≤150∧∀e∈n.log,(1≤e.v∧e.v≤big)∧(1≤e.n∧e.n≤150)∧e.b.size≤200:=by
 have h1:=h.log
 unfold Bf at h1
 rw[Bool.and_eq_true,decide_eq_true_iff] at h1
 refine⟨h1.2,fun e he=>?_⟩
 have:=Q9 h1.1 e he
 unfold big
 omega
theorem Zdc {k a b:Int}{s:ByteArray}(hk:0≤k∧k≤255)(ha:0≤a∧a≤big)(hb:0≤b∧b≤big)(hs:s.size≤1024):Lt [⟨1,k,eS⟩,⟨2,a,eS⟩,⟨2,b,eS⟩,⟨3,0,s⟩]=0:=by
 refine K6 fun f hf=>?_
 simp only[List.mem_cons,List.not_mem_nil,or_false] at hf
 have whole:∀n:Int,0≤n→n≤big→fdE ⟨2,n,eS⟩=0:=fun n h0 h1=>by
  unfold fdE
  dsimp only
  rw[if_neg (by decide),if_neg (by rintro(h | h);exact h rfl;omega),if_neg (by rintro⟨h,-⟩;cases h),if_neg (by rintro⟨h,-⟩;cases h),if_pos ⟨rfl,h1⟩]
 rcases hf with rfl | rfl | rfl | rfl
 ·unfold fdE
  dsimp only
  rw[if_neg (by decide),if_neg (by rintro(h | h);exact h rfl;omega),if_pos ⟨rfl,hk.2⟩]
 ·exact whole _ ha.1 ha.2
 ·exact whole _ hb.1 hb.2
 ·unfold fdE
  rw[if_pos rfl,if_neg (fun h=>h rfl),if_neg (by dsimp only;omega)]
theorem G7 {k a b:Int}{s:ByteArray}(hk:0≤k∧k≤255)(ha:0≤a∧a≤big)(hb:0≤b∧b≤big)(hs:s.size≤1024):(Ca k a b s).size=19+s.size∧Lz [1,2,2,3] (Ca k a b s).data.toList=⟨0,[⟨1,k,eS⟩,⟨2,a,eS⟩,⟨2,b,eS⟩,⟨3,0,s⟩],(Ho [⟨1,k,eS⟩,⟨2,a,eS⟩,⟨2,b,eS⟩,⟨3,0,s⟩]).length⟩:=by
 have h0:=Zdc hk ha hb hs
 have e1:Xi [⟨1,k,eS⟩,⟨2,a,eS⟩,⟨2,b,eS⟩,⟨3,0,s⟩]=Ho [⟨1,k,eS⟩,⟨2,a,eS⟩,⟨2,b,eS⟩,⟨3,0,s⟩]:=by unfold Xi;rw[if_pos h0]
 have e2:(Ca k a b s).data.toList=Ho [⟨1,k,eS⟩,⟨2,a,eS⟩,⟨2,b,eS⟩,⟨3,0,s⟩]:=by
  unfold Ca
  show(Xi _).toArray.toList=_
  rw[e1]
 refine⟨?_,by rw[e2];exact Z43 h0⟩
 have e3:(Ca k a b s).size=(Ho [⟨1,k,eS⟩,⟨2,a,eS⟩,⟨2,b,eS⟩,⟨3,0,s⟩]).length:=by rw[←e2,Array.length_toList];rfl
 have hz:s.data.toList.length=s.size:=by rw[Array.length_toList];rfl
 rw[e3]
 show([byI k]++(be8 a++(be8 b++((byI ((s.size:Int) / 256)::byI s.size::s.data.toList)++[])))).length=_
 simp only[List.length_append,List.length_cons,List.length_nil,H3,hz]
 omega
theorem Z61 {p:Int × Int × List REnt}{v:Int}(hv:0≤v∧v≤big):Ct p (Ca 1 v 0 eS)=some (v,p.2.1,p.2.2):=by
 obtain⟨-,h⟩:=G7 (k:=1) (a:=v) (b:=0) (s:=eS) (by omega) hv (by decide) (by decide)
 unfold Ct
 rw[h]
 rfl
theorem Zcz {p:Int × Int × List REnt}{v:Int}(hv:0≤v∧v≤big):Ct p (Ca 2 v 0 eS)=some (p.1,v,p.2.2):=by
 obtain⟨-,h⟩:=G7 (k:=2) (a:=v) (b:=0) (s:=eS) (by omega) hv (by decide) (by decide)
 unfold Ct
 rw[h]
 rfl
theorem Z6q {p:Int × Int × List REnt}{e:REnt}(hv:0≤e.v∧e.v≤big)(hn:0≤e.n∧e.n≤big)(hs:e.b.size≤1024):Ct p (Ca 3 e.v e.n e.b)=some (p.1,p.2.1,p.2.2++[e]):=by
 obtain⟨-,h⟩:=G7 (k:=3) (by omega) hv hn hs
 unfold Ct
 rw[h]
 rfl
theorem L7:∀(l:List ByteArray) (r:ByteArray) (p:Int × Int × List REnt),B3 (l++[r]) p=(B3 l p).bind fun q=>Ct q r
 | [],r,p=>by
  show(match Ct p r with | none=>none | some p=>B3 [] p)=Ct p r
  cases Ct p r<;>rfl
 | x::l,r,p=>by
  show(match Ct p x with | none=>none | some p=>B3 (l++[r]) p)=(match Ct p x with | none=>none | some p=>B3 l p).bind _
  cases Ct p x with
  | none=>rfl
  | some q=>exact L7 l r q
theorem Qx:∀(l:List REnt) (p:Int × Int × List REnt),(∀e∈l,(0≤e.v∧e.v≤big)∧(0≤e.n∧e.n≤big)∧e.b.size≤1024)→B3 (l.map fun e:REnt=>Ca 3 e.v e.n e.b) p=some (p.1,p.2.1,p.2.2++l)
 | [],p,_=>by
  obtain⟨a,b,c⟩:=p
  show some _=some _
  rw[List.append_nil]
 | e::l,p,h=>by
  obtain⟨h1,h2,h3⟩:=h e (by simp)
  show(match Ct p (Ca 3 e.v e.n e.b) with | none=>none | some p=>B3 (l.map fun e:REnt=>Ca 3 e.v e.n e.b) p)=_
  rw[Z6q h1 h2 h3]
  show B3 (l.map fun e:REnt=>Ca 3 e.v e.n e.b) _=_
  rw[Qx l _ fun x hx=>h x (by simp[hx])]
  show some (p.1,p.2.1,(p.2.2++[e])++l)=_
  rw[List.append_assoc];rfl
theorem Ze:(150:Int)≤big:=by decide
theorem Pr {n:PN}(h:NV n):B3 (Bl n) (0,0,[])=some (n.pmd,n.normal,n.log):=by
 have hp:=h.p
 obtain⟨hl,he⟩:=h.ents
 unfold Bl
 show(match Ct (0,0,[]) (Ca 1 n.pmd 0 eS) with | none=>none | some p=>B3 (Ca 2 n.normal 0 eS::_) p)=_
 rw[Z61 (by omega)]
 show(match Ct (n.pmd,0,[]) (Ca 2 n.normal 0 eS) with | none=>none | some p=>B3 _ p)=_
 rw[Zcz (by omega)]
 show B3 (n.log.map fun e:REnt=>Ca 3 e.v e.n e.b) (n.pmd,n.normal,[])=_
 rw[Qx n.log _ fun e hx=>?_]
 ·rfl
 ·have:=he e hx
  have:=Ze
  omega
theorem Z95 (l:List REnt)(h:∀e∈l,(Ca 3 e.v e.n e.b).size≤219):(Am (l.map fun e:REnt=>Ca 3 e.v e.n e.b)).length≤223 * l.length:=by
 induction l with
 | nil=>exact Nat.zero_le _
 | cons e l ih =>
  have h1:=h e (by simp)
  have h2:=ih fun x hx=>h x (by simp[hx])
  have h3:(frB (Ca 3 e.v e.n e.b)).length=(Ca 3 e.v e.n e.b).size+4:=Dk _
  show(frB (Ca 3 e.v e.n e.b)++Am (l.map fun e:REnt=>Ca 3 e.v e.n e.b)).length≤_
  rw[List.length_append,h3,List.length_cons]
  omega
theorem Z18 {n:PN}(h:NV n):Mj (Bl n)=0:=by
 have hp:=h.p
 obtain⟨hl,he⟩:=h.ents
 have s1:=(G7 (k:=1) (a:=n.pmd) (b:=0) (s:=eS) (by omega) (by omega) (by decide) (by decide)).1
 have s2:=(G7 (k:=2) (a:=n.normal) (b:=0) (s:=eS) (by omega) (by omega) (by decide) (by decide)).1
 have hz:eS.size=0:=rfl
 have s3:∀e∈n.log,(Ca 3 e.v e.n e.b).size≤219:=fun e hx=>by
  have:=he e hx
  have:=Ze
  rw[(G7 (k:=3) (by omega) (by omega) (by omega) (by omega)).1];omega
 have hlen:(Am (Bl n)).length≤35136:=by
  have h3:=Z95 n.log s3
  unfold Bl
  show(frB _++(frB _++Am (n.log.map fun e:REnt=>Ca 3 e.v e.n e.b))).length≤_
  rw[List.length_append,List.length_append,Dk,Dk,s1,s2,hz]
  omega
 unfold Mj
 rw[if_neg,if_neg (by omega)]
 rw[List.any_eq_true]
 rintro⟨s,hs,hd⟩
 have hd:=of_decide_eq_true hd
 unfold Bl at hs
 rcases List.mem_cons.1 hs with rfl | hs
 ·omega
 ·rcases List.mem_cons.1 hs with rfl | hs
  ·omega
  ·obtain⟨e,hx,rfl⟩:=List.mem_map.1 hs
   have:=s3 e hx
   omega
structure SL (k:Nat)(n:PN):Prop where
 ws:WSt k n.st
 rl:RLd n.st
 kk:k≤900000000
 ld:B3 n.st.all (0,0,[])=some (n.pmd,n.normal,n.log)
theorem Z2y {k:Nat}{l:LD}(h:WSt k l)(hk:k≤900000001):(l.mark:Int)+2≤big:=by
 have:=h.mark
 have e:big=4611686018427387904:=rfl
 omega
theorem Ps {k:Nat}{n:PN}{r:ByteArray}(hw:WSt k n.st)(hr:RLd n.st)(_hk:k≤900000000)(ha:n.st.d.armed=0)(hv:NV n)(hrs:r.size≤4096)(hl:B3 (n.st.all++[r]) (0,0,[])=some (n.pmd,n.normal,n.log)) :
  Cg n r=true∧RLd (Bj n r).st∧(Bj n r).st.d.armed=0∧B3 (Bj n r).st.all (0,0,[])=some (n.pmd,n.normal,n.log):=by
 by_cases h5:Fl n.st r=51
 ·have eA:=Z0b h5
  have hf:=Z18 hv
  obtain⟨hbl,hsz⟩:=Na hf
  obtain⟨q1,q2⟩:=Z70 hw hr (Bl n) hf
  have hh:=hw.half
  obtain⟨w1,w2⟩:=Kd hw.dd ha hw.many (h:=1 - n.st.half) (by omega) hbl 0
  obtain⟨w3,w4⟩:=Ln hw.dd w1
  obtain⟨-,w5,-,-⟩:=El (C9 (1 - n.st.half)) (Am (Bl n)) (nsW (Am (Bl n)) 0) n.st.d hw.d
  obtain⟨z1,z2⟩:=Jf (l:=wrL n.st (1 - n.st.half) (Am (Bl n)) 0) w3 w4 w2 (by show(runW _ _ _ _).1.now.length=_;rw[w5];exact hw.many) (1 - n.st.half) (Am (Bl n)).length
  have hE:Jl n.st (Bl n)=0:=by
   unfold Jl
   rw[if_neg (by rw[hw.dead];decide),if_neg (fun h=>h hf),if_pos w1]
   unfold Db
   rw[z1];rfl
  have hL:F5 n.st (Bl n)={Ah (wrL n.st (1 - n.st.half) (Am (Bl n)) 0) (1 - n.st.half) (Am (Bl n)).length with b:=Am (Bl n),all:=Bl n}:=by
   unfold F5
   rw[if_neg (by rw[hw.dead];decide),if_neg (fun h=>h hf),if_pos w1,if_neg (by rw[z1];decide)]
  have eK:Bj n r={n with st:=F5 n.st (Bl n)}:=by
   unfold Bj
   rw[if_pos h5,eA,hE]
   unfold Dm
   rw[if_neg (by decide)]
  have eB:Cg n r=true:=by
   unfold Cg
   rw[if_pos h5,eA,hE];rfl
  rw[eK,eB]
  refine⟨rfl,q2 hE,?_,?_⟩
  ·show(F5 n.st (Bl n)).d.armed=0
   rw[hL];exact z2
  ·show B3 (F5 n.st (Bl n)).all (0,0,[])=_
   rw[(Y5 hw (Bl n) hE).2];exact Pr hv
 ·have h0:Fl n.st r=0:=by
   unfold Fl at h5⊢
   rw[if_neg (by rw[hw.dead];decide),if_neg (by omega)] at h5⊢
   by_cases hs2:(r.size:Int) > G9 n.st
   ·rw[if_pos hs2] at h5;exact absurd rfl h5
   ·rw[if_neg hs2]
    have hroom:(n.st.b++frB r).length≤35136:=by rw[List.length_append,Dk];have:=hw.len;unfold G9 at hs2;omega
    rw[if_pos (Kd hw.dd ha hw.many hw.half hroom _).1]
  obtain⟨q1,q2,q3⟩:=Zd2 hw hr r h0
  have hS:Om (Ba n.st r)=0∧(Ji (Ba n.st r)).d.armed=0:=by
   have h0':=h0
   unfold Fl at h0'
   rw[if_neg (by rw[hw.dead];decide),if_neg (by omega)] at h0'
   have hs2:¬(r.size:Int) > G9 n.st:=fun hh=>by rw[if_pos hh] at h0';cases h0'
   have hroom:(n.st.b++frB r).length≤35136:=by rw[List.length_append,Dk];have:=hw.len;unfold G9 at hs2;omega
   obtain⟨w1,w2⟩:=Kd hw.dd ha hw.many hw.half hroom n.st.b.length
   obtain⟨w3,w4⟩:=Ln hw.dd w1
   obtain⟨-,w5,-,-⟩:=El (C9 n.st.half) (n.st.b++frB r) (nsW (n.st.b++frB r) n.st.b.length) n.st.d hw.d
   have hA:Ba n.st r={wrL n.st n.st.half (n.st.b++frB r) n.st.b.length with b:=n.st.b++frB r,all:=n.st.all++[r]}:=by
    unfold Ba
    rw[if_neg (by rw[hw.dead];decide),if_neg (by omega),if_neg hs2,if_pos w1]
   obtain⟨z1,z2⟩:=Jf (l:=Ba n.st r) (by rw[hA];exact w3) (by rw[hA];exact w4) (by rw[hA];exact w2) (by rw[hA];show(runW _ _ _ _).1.now.length=_;rw[w5];exact hw.many) (Ba n.st r).half (Ba n.st r).b.length
   have hd:(Ba n.st r).dead=false:=by rw[hA];exact w3
   unfold Om Ji Db
   rw[if_neg (by rw[hd];decide),z1,if_neg (by decide),if_neg (by rw[hd];decide)]
   exact⟨rfl,z2⟩
  have eK:Bj n r={n with st:=Ji (Ba n.st r)}:=by
   unfold Bj
   rw[if_neg h5,if_neg (fun h=>h h0),hS.1]
   unfold Dm
   rw[if_neg (by decide)]
  have eB:Cg n r=true:=by
   unfold Cg
   rw[if_neg h5,if_neg (fun h=>h h0),hS.1];rfl
  rw[eK,eB]
  refine⟨rfl,q3 hS.1,hS.2,?_⟩
  show B3 (Ji (Ba n.st r)).all (0,0,[])=_
  rw[(Z6y hw r h0 hS.1).2];exact hl
theorem Z3b {k:Nat}{st:LD}{n:PN}(hw:WSt k st)(hr:RLd st)(ha:st.d.armed=0)(hv:NV n):Jl st (Bl n)=0∧RLd (F5 st (Bl n))∧(F5 st (Bl n)).d.armed=0∧WSt (k+1) (F5 st (Bl n))∧(F5 st (Bl n)).all=Bl n:=by
 have hf:=Z18 hv
 obtain⟨hbl,hsz⟩:=Na hf
 obtain⟨q1,q2⟩:=Z70 hw hr (Bl n) hf
 have hh:=hw.half
 obtain⟨w1,w2⟩:=Kd hw.dd ha hw.many (h:=1 - st.half) (by omega) hbl 0
 obtain⟨w3,w4⟩:=Ln hw.dd w1
 obtain⟨-,w5,-,-⟩:=El (C9 (1 - st.half)) (Am (Bl n)) (nsW (Am (Bl n)) 0) st.d hw.d
 obtain⟨z1,z2⟩:=Jf (l:=wrL st (1 - st.half) (Am (Bl n)) 0) w3 w4 w2 (by show(runW _ _ _ _).1.now.length=_;rw[w5];exact hw.many) (1 - st.half) (Am (Bl n)).length
 have hE:Jl st (Bl n)=0:=by
  unfold Jl
  rw[if_neg (by rw[hw.dead];decide),if_neg (fun h=>h hf),if_pos w1]
  unfold Db
  rw[z1];rfl
 have hL:F5 st (Bl n)={Ah (wrL st (1 - st.half) (Am (Bl n)) 0) (1 - st.half) (Am (Bl n)).length with b:=Am (Bl n),all:=Bl n}:=by
  unfold F5
  rw[if_neg (by rw[hw.dead];decide),if_neg (fun h=>h hf),if_pos w1,if_neg (by rw[z1];decide)]
 exact⟨hE,q2 hE,by rw[hL];exact z2,Y5 hw (Bl n) hE⟩
end Go.Proofs.YtihfaocdpmmooaaGreat
namespace Go.Proofs.YtihfaocdpmmooaaGreat
structure RJn where
 frm:Int
 v:Int
 n:Int
 l:List REnt
structure RN where
 self:Int
 many:Int
 pmd:Int
 normal:Int
 log:List REnt
 cmt:Int
 phase:Int
 jns:List RJn
 aks:List Int
 first:Int
 hrd:List Int
 out:List RPk
def Gp (self many:Int):RN:=⟨self,many,0,0,[],0,0,[],[],0,[],[]⟩
def Ke (n:RN):RN:=⟨n.self,n.many,n.pmd,n.normal,n.log,0,0,[],[],0,[],[]⟩
def Ds (n:RN)(to:Int)(m:RM):RN:={n with out:=n.out++[⟨n.self,to,⟨(bM m).toArray⟩⟩]}
def P5 (f:RN→Nat→RN)(n:RN)(i:Nat):RN:=(List.range i).foldl (fun(n:RN) (i:Nat)=>if(i:Int)=n.self then n else f n i) n
theorem Ew (f:RN→Nat→RN)(n:RN)(i:Nat):P5 f n (i+1)=if(i:Int)=(P5 f n i).self then P5 f n i else f (P5 f n i) i:=by unfold P5;rw[List.range_succ,List.foldl_append];rfl
def Bn (n:RN)(m:RM):RN:=P5 (fun n i=>Ds n i m) n n.many.toNat
def Z0c (n:RN)(x:Int):Bool:=n.jns.any fun j=>decide (j.frm=x)
def Z9s:List RJn→RJn→List RJn
 | [],j=>[j]
 | x::l,j=>if x.frm > j.frm then j::x::l else x::Z9s l j
def Ot (n:RN)(j:RJn):RN:={n with jns:=Z9s n.jns j}
def Du (n:RN):RN:=if Bw n.aks > n.cmt then Bn {n with cmt:=Bw n.aks} ⟨6,n.pmd,0,Bw n.aks,[]⟩ else n
def Lo (n:RN)(l:List REnt):RN:={n with log:=l,cmt:=min n.cmt (A5 l),normal:=n.pmd,phase:=2,first:=A5 l,hrd:=[],aks:=(List.replicate n.many.toNat (0:Int)).set n.self.toNat (A5 l)}
def Ik (n:RN):List REnt:=(n.jns[(M1 (n.jns.map fun j=>⟨j.v,j.n⟩)).toNat]?.map RJn.l).getD []
def Ek (n:RN):RN :=
 if(n.jns.length:Int) < Ak n.many then n
 else Du (Bn (Lo n (Ik n)) ⟨3,n.pmd,0,0,Ik n⟩)
def Fa (n:RN)(v:Int):RN × Bool :=
 if v≤n.pmd∨Ab v n.many≠n.self then(n,false)
 else(Ek (Bn {n with pmd:=v,phase:=1,jns:=[⟨n.self,n.normal,A5 n.log,n.log⟩]} ⟨1,v,0,0,[]⟩),true)
def Z5m (n:RN)(e:REnt):RN:={n with log:=n.log++[e]}
def Dq (n:RN)(i k:Int):RN:={n with aks:=n.aks.set i.toNat (max (n.aks[i.toNat]?.getD 0) k)}
def R0 (n:RN)(s:ByteArray):REnt:=⟨n.pmd,A5 n.log+1,s⟩
def Co (n:RN)(s:ByteArray):RN × Bool :=
 if n.phase≠2∨n.log.length ≥ 150∨s.size > 200 then(n,false)
 else(Du (Bn (Dq (Z5m n (R0 n s)) n.self (R0 n s).n) ⟨4,n.pmd,0,(R0 n s).n - 1,[R0 n s]⟩),true)
def Lj (n:RN)(x:Int):Bool:=n.hrd.any fun j=>decide (j=x)
def K2 (n:RN)(i:Nat):RN:=if n.phase=1∧Z0c n i=false then Ds n i ⟨1,n.pmd,0,0,[]⟩ else n
def Jw (n:RN)(i:Nat):RN:=if n.phase=2∧Lj n i=true then Ds n i ⟨4,n.pmd,0,n.aks[i]?.getD 0,n.log.drop (n.aks[i]?.getD 0).toNat⟩ else n
def Iu (n:RN)(i:Nat):RN:=if n.phase=2∧Lj n i=false then Ds n i ⟨3,n.pmd,0,0,n.log.take n.first.toNat⟩ else n
def Ir (n:RN)(i:Nat):RN:=if n.phase=2 then Ds n i ⟨6,n.pmd,0,n.cmt,[]⟩ else n
def F2 (n:RN):RN:=P5 (fun n i=>Ir (Iu (Jw (K2 n i) i) i) i) n n.many.toNat
def Jd (n:RN)(m:RM):RN:=if m.view > n.pmd then {n with pmd:=m.view,phase:=0} else n
def Gg (n:RN)(who:Int)(m:RM):RN :=
 if m.view=(Jd n m).pmd∧m.view > (Jd n m).normal∧(Jd n m).phase=0 then Ds (Jd n m) who ⟨2,m.view,(Jd n m).normal,0,(Jd n m).log⟩ else Jd n m
def Dj (n:RN)(who:Int)(m:RM):RN :=
 if n.phase≠1∨n.pmd≠m.view∨Z0c n who=true then n else Ek (Ot n ⟨who,m.normal,A5 m.l,m.l⟩)
def E9 (n:RN)(m:RM):RN:=if m.view ≥ n.pmd∧m.view > n.normal then {n with pmd:=m.view,normal:=m.view,log:=m.l,cmt:=min n.cmt (A5 m.l),phase:=0} else n
def E1 (n:RN)(who:Int)(m:RM):RN :=
 if m.view=(E9 n m).pmd∧m.view=(E9 n m).normal then Ds (E9 n m) who ⟨5,m.view,0,A5 (E9 n m).log,[]⟩ else E9 n m
def I7:List REnt→RN→RN
 | [],n=>n
 | e::l,n=>if e.n > n.log.length+1 then n else if e.n=n.log.length+1∧(n.log.length=0∨e.v ≥ vw 0 n.log) then I7 l (Z5m n e) else I7 l n
def Gf (n:RN)(who:Int)(m:RM):RN :=
 if n.pmd≠m.view∨n.normal≠m.view∨n.phase≠0 then n else Ds (I7 m.l n) who ⟨5,m.view,0,A5 (I7 m.l n).log,[]⟩
def O2 (n:RN)(who:Int)(m:RM):RN:=Du (Dq {n with hrd:=n.hrd++[who]} who m.num)
def Dx (n:RN)(who:Int)(m:RM):RN :=
 if n.phase≠2∨n.pmd≠m.view∨m.num > n.log.length then n
 else if m.num < (O2 n who m).log.length then Ds (O2 n who m) who ⟨4,(O2 n who m).pmd,0,m.num,(O2 n who m).log.drop m.num.toNat⟩ else O2 n who m
def Ee (n:RN)(p:RPk):RN :=
 if ¬L0 p.body.data.toList∨p.to≠n.self∨p.frm=n.self∨p.frm < 0∨p.frm ≥ n.many then n
 else if(mD p.body.data.toList).kind=2 then Dj n p.frm (mD p.body.data.toList)
 else if(mD p.body.data.toList).kind=5 then Dx n p.frm (mD p.body.data.toList)
 else if Ab (mD p.body.data.toList).view n.many≠p.frm then n
 else if(mD p.body.data.toList).kind=1 then Gg n p.frm (mD p.body.data.toList)
 else if(mD p.body.data.toList).kind=3 then E1 n p.frm (mD p.body.data.toList)
 else if(mD p.body.data.toList).kind=4 then Gf n p.frm (mD p.body.data.toList)
 else if n.pmd=(mD p.body.data.toList).view∧n.normal=(mD p.body.data.toList).view∧n.phase=0 then {n with cmt:=max n.cmt (min (mD p.body.data.toList).num (A5 n.log))}
 else n
end Go.Proofs.YtihfaocdpmmooaaGreat
namespace Go.Proofs.YtihfaocdpmmooaaGreat
theorem Fd {n:PN}{i:Nat}{m:RM}(h:okM m=true):Ar n i m={n with out:=n.out++[⟨n.self,i,⟨(bM m).toArray⟩⟩]}:=by unfold Ar;rw[if_pos h]
def Wd (self k:Nat):List Nat:=(List.range k).filter fun i=>decide (i≠self)
theorem Qy (self k:Nat):Wd self (k+1)=if k=self then Wd self k else Wd self k++[k]:=by
 unfold Wd
 rw[List.range_succ,List.filter_append]
 split
 ·next h=>rw[List.filter_cons_of_neg (by simpa using h)];simp
 ·next h=>rw[List.filter_cons_of_pos (by simpa using h)];rfl
theorem Kc {f:PN→Nat→PN}{g:Nat→List RPk}{n:PN}:∀k,(∀o i,i < k→f {n with out:=o} i={n with out:=o++g i})→Js f n k={n with out:=n.out++(Wd n.self k).flatMap g}
 | 0,_=>by simp[Js,Wd]
 | k+1,h=>by
  rw[F3,Kc k fun o i hi=>h o i (by omega),Qy]
  by_cases hk:k=n.self
  ·rw[if_pos hk,if_pos hk]
  ·rw[if_neg hk,if_neg hk,h _ _ (by omega),List.flatMap_append,List.append_assoc];simp
theorem Oo {f:RN→Nat→RN}{g:Nat→List RPk}{r:RN}{s:Nat}(hs:r.self=s):∀k,(∀o i,i < k→f {r with out:=o} i={r with out:=o++g i})→P5 f r k={r with out:=r.out++(Wd s k).flatMap g}
 | 0,_=>by simp[P5,Wd]
 | k+1,h=>by
  rw[Ew,Oo hs k fun o i hi=>h o i (by omega),Qy]
  by_cases hk:k=s
  ·rw[if_pos hk,if_pos (by show((k:Nat):Int)=r.self;rw[hs,hk])]
  ·rw[if_neg hk,if_neg (by show ¬((k:Nat):Int)=r.self;rw[hs];omega),h _ _ (by omega),List.flatMap_append,List.append_assoc];simp
def spL (self many:Nat)(m:RM):List RPk:=(Wd self many).flatMap fun i:Nat=>[⟨(self:Int),(i:Int),⟨(bM m).toArray⟩⟩]
theorem Wf {n:PN}{m:RM}(h:okM m=true):Aq n m={n with out:=n.out++spL n.self n.many m}:=by
 unfold Aq spL
 exact Kc (f:=fun n i=>Ar n i m) (n:=n) (g:=fun i:Nat=>[⟨(n.self:Int),(i:Int),⟨(bM m).toArray⟩⟩]) _ fun o i _=>Fd (n:={n with out:=o}) h
theorem X8 {r:RN}{s k:Nat}(m:RM)(hs:r.self=s)(hk:r.many=k):Bn r m={r with out:=r.out++spL s k m}:=by
 unfold Bn spL
 rw[show r.many.toNat=k by rw[hk,Int.toNat_natCast]]
 exact Oo (f:=fun n i=>Ds n i m) (r:=r) (g:=fun i:Nat=>[⟨(s:Int),(i:Int),⟨(bM m).toArray⟩⟩]) hs _ fun o i _=>by
  show({r with out:=o++[(⟨r.self,i,⟨(bM m).toArray⟩⟩:RPk)]}:RN)={r with out:=o++[(⟨(s:Int),i,⟨(bM m).toArray⟩⟩:RPk)]}
  rw[show r.self=(s:Int) from hs]
def jrL (j:Nat→RJ)(m:Nat):List RJn:=((List.range m).filter fun i=>(j i).is).map fun i:Nat=>⟨(i:Int),(j i).normal,A5 (j i).l,(j i).l⟩
structure Sim (n:PN)(r:RN):Prop where
 self:r.self=n.self
 many:r.many=n.many
 pmd:r.pmd=n.pmd
 normal:r.normal=n.normal
 log:r.log=n.log
 cmt:r.cmt=n.cmt
 out:r.out=n.out
 phase:r.phase=if n.lds=true then(if n.std=true then 2 else 1) else 0
 jns:n.lds=true→n.std=false→r.jns=jrL n.jns n.many
 aks:n.lds=true→n.std=true→r.aks=Bk n∧r.first=n.first∧∀i:Nat,i < n.many→Lj r i=n.hrd i
theorem Sim.snd {n:PN}{r:RN}(h:Sim n r)(l:List RPk):Sim {n with out:=n.out++l} {r with out:=r.out++l} :=
 ⟨h.self,h.many,h.pmd,h.normal,h.log,h.cmt,by show r.out++l=n.out++l;rw[h.out],h.phase,h.jns,h.aks⟩
theorem Sim.spread {n:PN}{r:RN}(h:Sim n r){m:RM}(hm:okM m=true):Sim (Aq n m) (Bn r m):=by
 rw[Wf hm,X8 m h.self h.many]
 exact h.snd _
theorem Sim.send {n:PN}{r:RN}(h:Sim n r){i:Nat}{m:RM}(hm:okM m=true):Sim (Ar n i m) (Ds r i m):=by
 rw[Fd hm]
 have:=h.snd [⟨n.self,i,⟨(bM m).toArray⟩⟩]
 have e:Ds r i m={r with out:=r.out++[⟨n.self,i,⟨(bM m).toArray⟩⟩]}:=by
  unfold Ds
  rw[show [(⟨r.self,i,⟨(bM m).toArray⟩⟩:RPk)]=[⟨n.self,i,⟨(bM m).toArray⟩⟩] by rw[h.self]]
 rw[e]
 exact this
theorem Vj {v c:Int}(hv:1≤v∧v≤big)(hc:0≤c∧c≤150):okM ⟨6,v,0,c,[]⟩=true:=by
 unfold okM
 rw[decide_eq_true (by dsimp only;omega)]
 rfl
theorem Sr {v c:Int}(hv:1≤v∧v≤big)(hc:0≤c∧c≤150):okM ⟨5,v,0,c,[]⟩=true:=by
 unfold okM
 rw[decide_eq_true (by dsimp only;omega)]
 rfl
theorem Z0y {v:Int}(hv:1≤v∧v≤big):okM ⟨1,v,0,0,[]⟩=true:=by
 unfold okM
 rw[decide_eq_true (by dsimp only;omega)]
 rfl
theorem L8:∀{l:List REnt} {v:Int} {k:Nat},Ai v k l=true→k+l.length≤150→Gs k v l=true
 | [],_,_,_,_=>rfl
 | e::l,v,k,h,hl=>by
  have h:(okB v k e&&Ai e.v (k+1) l)=true:=h
  rw[Bool.and_eq_true] at h
  have h1:=h.1
  unfold okB at h1
  rw[decide_eq_true_iff] at h1
  rw[List.length_cons] at hl
  unfold Gs
  rw[decide_eq_true (by omega)]
  have:=L8 h.2 (by omega)
  rw[show((k+1:Nat):Int)=(k:Int)+1 by omega] at this
  exact this
theorem Z9 {l:List REnt}(h:Bf l=true):Ko 0 l=true∧l.length≤150:=by
 unfold Bf at h
 rw[Bool.and_eq_true,decide_eq_true_iff] at h
 unfold Ko
 have:=L8 h.1 (by omega)
 rw[show Gs 0 1 l=true from this,decide_eq_true h.2]
 exact⟨rfl,h.2⟩
theorem Mi:∀{l:List REnt} {v:Int} {k:Nat} (i:Nat),Ai v k l=true→∃v',v≤v'∧Ai v' (k+i) (l.drop i)=true
 | l,v,k,0,h=>⟨v,Int.le_refl _,h⟩
 | [],v,k,i+1,_=>⟨v,Int.le_refl _,rfl⟩
 | e::l,v,k,i+1,h=>by
  have h:(okB v k e&&Ai e.v (k+1) l)=true:=h
  rw[Bool.and_eq_true] at h
  have h1:=h.1
  unfold okB at h1
  rw[decide_eq_true_iff] at h1
  obtain⟨v',a,b⟩:=Mi i h.2
  exact⟨v',by omega,by rw[show k+(i+1)=k+1+i by omega];exact b⟩
theorem Z9q:∀{l:List REnt} {v v' k:Int},v≤v'→Gs k v' l=true→Gs k v l=true
 | [],_,_,_,_,_=>rfl
 | e::l,v,v',k,hv,h=>by
  unfold Gs at h⊢
  rw[Bool.and_eq_true,decide_eq_true_iff] at h
  rw[decide_eq_true (by omega)]
  exact h.2
theorem Gk {l m:List REnt}{v v':Int}(h:B6 l v=true)(hs:∀e∈m,e∈l)(hv:v≤v'):B6 m v'=true:=by
 unfold B6 at *
 rw[List.all_eq_true] at *
 intro e he
 have:=of_decide_eq_true (h e (hs e he))
 exact decide_eq_true (by omega)
theorem Sz {v q:Int}{l:List REnt}(hv:1≤v∧v≤big)(hq:0≤q∧q < v)(hl:Bf l=true)(ht:B6 l q=true):okM ⟨2,v,q,0,l⟩=true:=by
 obtain⟨h1,h2⟩:=Z9 hl
 unfold okM
 rw[decide_eq_true (by dsimp only;omega)]
 dsimp only
 rw[if_neg (by decide),if_pos rfl,h1,ht]
 rfl
theorem Qd {v:Int}{l:List REnt}(hv:1≤v∧v≤big)(hl:Bf l=true)(ht:B6 l (v - 1)=true):okM ⟨3,v,0,0,l⟩=true:=by
 obtain⟨h1,h2⟩:=Z9 hl
 unfold okM
 rw[decide_eq_true (by dsimp only;omega)]
 dsimp only
 rw[if_neg (by decide),if_neg (by decide),if_pos rfl,h1,ht]
 rfl
theorem Z0t {v:Int}{k:Nat}{l:List REnt}(hv:1≤v∧v≤big)(hk:k≤l.length)(hl:Bf l=true)(ht:B6 l v=true):okM ⟨4,v,0,k,l.drop k⟩=true:=by
 have hl2:=hl
 unfold Bf at hl2
 rw[Bool.and_eq_true,decide_eq_true_iff] at hl2
 obtain⟨v',a,b⟩:=Mi k hl2.1
 have h3:=Z9q a (L8 b (by rw[List.length_drop];omega))
 unfold okM
 rw[decide_eq_true (by dsimp only;omega)]
 dsimp only
 rw[if_neg (by decide),if_neg (by decide),if_neg (by decide),if_pos rfl,Gk ht (fun e he=>List.mem_of_mem_drop he) (Int.le_refl _)]
 unfold Ko
 rw[Nat.zero_add] at h3
 have hdl:(l.drop k).length≤150:=by rw[List.length_drop];omega
 rw[h3,decide_eq_true hdl]
 simp
theorem Z7m {v:Int}{k:Nat}{s:ByteArray}(hv:1≤v∧v≤big)(hk:k+1≤150)(hs:s.size≤200):okM ⟨4,v,0,k,[⟨v,(k:Int)+1,s⟩]⟩=true:=by
 unfold okM
 rw[decide_eq_true (by dsimp only;omega)]
 dsimp only
 rw[if_neg (by decide),if_neg (by decide),if_neg (by decide),if_pos rfl]
 have h1:Gs (k:Int) 1 [⟨v,(k:Int)+1,s⟩]=true:=by
  unfold Gs
  rw[decide_eq_true (by dsimp only;omega)]
  rfl
 unfold Ko B6
 rw[h1]
 simp
end Go.Proofs.YtihfaocdpmmooaaGreat
namespace Go.Proofs.YtihfaocdpmmooaaGreat
theorem WSt.up {k j:Nat}{l:LD}(h:WSt k l)(hj:k≤j):WSt j l:=⟨h.d,h.many,h.armed,h.wait,h.half,h.b,h.len,Nat.le_trans h.mark hj,h.dead,h.dd⟩
structure NI (k:Nat)(n:PN):Prop where
 sl:SL k n
 arm:n.st.d.armed=0
 nv:NV n
 dead:n.dead=false
 self:n.self < n.many
 m7:n.many≤7
 com:0≤n.cmt∧n.cmt≤n.log.length
 ld:n.lds=true→Ab n.pmd n.many=n.self∧1≤n.pmd
 st:n.std=true→n.lds=true∧n.normal=n.pmd∧(∀i,0≤n.aks i∧n.aks i≤n.log.length)∧(0≤n.first∧n.first≤n.log.length)∧B6 (n.log.take n.first.toNat) (n.pmd - 1)=true
 jn:n.lds=true→n.std=false→n.normal < n.pmd∧∀i,(n.jns i).is=true→(0≤(n.jns i).normal∧(n.jns i).normal < n.pmd)∧Bf (n.jns i).l=true∧B6 (n.jns i).l (n.jns i).normal=true
 jl:∀i,(n.jns i).l.length≤150
theorem NI.wn {k:Nat}{n:PN}(h:NI k n)(ho:n.out.length≤700000):WNk k n :=
 ⟨h.sl.ws,h.sl.kk,by have:=h.self;omega,h.m7,h.self,h.nv.ents.1,ho,fun i _=>h.jl i,h.nv.p.2.1,fun hs=>⟨fun i _=>(h.st hs).2.2.1 i,(h.st hs).2.2.2.1⟩⟩
theorem NI.snd {k:Nat}{n:PN}(h:NI k n)(o:List RPk):NI k {n with out:=o} :=
 ⟨⟨h.sl.ws,h.sl.rl,h.sl.kk,h.sl.ld⟩,h.arm,⟨h.nv.p,h.nv.log,h.nv.top⟩,h.dead,h.self,h.m7,h.com,h.ld,h.st,h.jn,h.jl⟩
theorem NI.same {k:Nat}{n n':PN}(h:NI k n)(hs:SameN n n'):NI k n':=by
 obtain⟨o,rfl⟩:=hs.to
 exact h.snd o
theorem Z99 {l:List Int}{c:Int}(h0:0≤c)(h:∀x∈l,x≤c):0≤Bw l∧Bw l≤c:=by
 have key:∀k,0≤Cp l k∧Cp l k≤c:=fun k=>by
  induction k with
  | zero=>simp[Cp];exact h0
  | succ k ih =>
   by_cases hk:k < l.length
   ·rw[L3 hk]
    split
    ·next hh=>exact⟨by omega,h _ (List.getElem_mem hk)⟩
    ·exact ih
   ·have:Cp l (k+1)=Cp l k:=by
     unfold Cp
     rw[List.take_of_length_le (by omega),List.take_of_length_le (by omega)]
    rw[this];exact ih
 unfold Bw
 split
 ·exact key _
 ·exact⟨Int.le_refl _,h0⟩
theorem Z57 {n:PN}{x:Int}(h:x∈Bk n):∃i,x=n.aks i:=by
 unfold Bk at h
 obtain⟨i,-,rfl⟩:=List.mem_map.1 h
 exact⟨i,rfl⟩
theorem Nk {k:Nat}{n:PN}{r:RN}(h:Sim n r)(hi:NI k n)(hs:n.std=true):Sim (Dg n) (Du r)∧NI k (Dg n)∧(Dg n).log=n.log∧(Dg n).pmd=n.pmd:=by
 obtain⟨rs,rm,rp,rn,rl,rc,rph,rj,ra,rf,rh,ro⟩:=r
 obtain rfl:rs=n.self:=h.self
 obtain rfl:rm=n.many:=h.many
 obtain rfl:rp=n.pmd:=h.pmd
 obtain rfl:rn=n.normal:=h.normal
 obtain rfl:rl=n.log:=h.log
 obtain rfl:rc=n.cmt:=h.cmt
 obtain rfl:ro=n.out:=h.out
 obtain⟨s1,s2,s3,s4,s5⟩:=hi.st hs
 obtain⟨a1,a2,a3⟩:=h.aks s1 hs
 obtain rfl:ra=Bk n:=a1
 have hb:=Z99 (l:=Bk n) (c:=n.log.length) (by omega) fun x hx=>by
  obtain⟨i,rfl⟩:=Z57 hx
  exact(s3 i).2
 have hl:=hi.nv.ents.1
 have hp:=hi.nv.p
 have hv:=(hi.ld s1).2
 unfold Dg Du
 dsimp only
 by_cases hc:Bw (Bk n) > n.cmt
 ·rw[if_pos hc,if_pos hc]
  have hm:=Vj (v:=n.pmd) (c:=Bw (Bk n)) (by omega) (by omega)
  have h2:Sim {n with cmt:=Bw (Bk n)} ⟨n.self,n.many,n.pmd,n.normal,n.log,Bw (Bk n),rph,rj,Bk n,rf,rh,n.out⟩:=⟨h.self,h.many,h.pmd,h.normal,h.log,rfl,h.out,h.phase,h.jns,h.aks⟩
  have h3:NI k {n with cmt:=Bw (Bk n)}:=⟨⟨hi.sl.ws,hi.sl.rl,hi.sl.kk,hi.sl.ld⟩,hi.arm,⟨hi.nv.p,hi.nv.log,hi.nv.top⟩,hi.dead,hi.self,hi.m7,⟨hb.1,hb.2⟩,hi.ld,hi.st,hi.jn,hi.jl⟩
  have hss:=A2 {n with cmt:=Bw (Bk n)} ⟨6,n.pmd,0,Bw (Bk n),[]⟩
  refine⟨?_,h3.same hss,?_,?_⟩
  ·exact h2.spread hm
  ·obtain⟨o,e⟩:=hss.to;rw[e]
  ·obtain⟨o,e⟩:=hss.to;rw[e]
 ·rw[if_neg hc,if_neg hc]
  exact⟨h,hi,rfl,rfl⟩
theorem Z75 (n:PN):(jrL n.jns n.many).length=(Bd n).length:=by
 unfold jrL Bd jlN
 rw[List.length_map,List.filter_map,List.length_map]
 rfl
theorem Z34 (n:PN):(jrL n.jns n.many).map (fun j=>(⟨j.v,j.n⟩:Mk))=(Bd n).map mkJ:=by
 unfold jrL Bd jlN
 rw[List.map_map,List.filter_map,List.map_map]
 rfl
theorem Z8w {n:PN}{r:RN}(h:r.jns=jrL n.jns n.many):Ik r=Fr n:=by
 unfold Ik Fr
 rw[h,Z34]
 generalize (M1 ((Bd n).map mkJ)).toNat=p
 unfold jrL Bd jlN
 rw[List.filter_map,List.getElem?_map,List.getElem?_map]
 show(Option.map RJn.l (Option.map _ (List.filter (fun i=>(n.jns i).is) (List.range n.many))[p]?)).getD []=((Option.map n.jns (List.filter (RJ.is ∘ n.jns) (List.range n.many))[p]?).getD j0).l
 have e:(List.filter (fun i=>(n.jns i).is) (List.range n.many))=List.filter (RJ.is ∘ n.jns) (List.range n.many):=rfl
 rw[e]
 cases(List.filter (RJ.is ∘ n.jns) (List.range n.many))[p]?<;>rfl
theorem Wr (n:PN)(hs:n.self < n.many):Bk (Di n)=(List.replicate n.many (0:Int)).set n.self (A5 n.log):=by
 refine List.ext_getElem? fun i=>?_
 unfold Bk
 show((List.range n.many).map fun i=>if i=n.self then A5 n.log else 0)[i]?=_
 rw[List.getElem?_map,List.getElem?_set,List.length_replicate]
 by_cases hi:i < n.many
 ·rw[List.getElem?_range hi]
  by_cases h:n.self=i
  ·rw[if_pos h,if_pos hs]
   show some (if i=n.self then _ else _)=_
   rw[if_pos h.symm]
  ·rw[if_neg h,List.getElem?_replicate,if_pos hi]
   show some (if i=n.self then _ else _)=_
   rw[if_neg (fun e=>h e.symm)]
 ·rw[List.getElem?_eq_none (by rw[List.length_range];omega),if_neg (by omega),List.getElem?_replicate,if_neg hi]
  rfl
theorem L5 {k:Nat}{n:PN}(hw:WSt k n.st)(hr:RLd n.st)(ha:n.st.d.armed=0){v:Int}{l:List REnt}(hv:NV (Bh n v l)):Df n v l=true∧∃st,Ci n v l={Bh n v l with st:=st}∧WSt (k+1) st∧RLd st∧st.d.armed=0∧B3 st.all (0,0,[])=some (v,v,l):=by
 obtain⟨q1,q2,q3,q4,q5⟩:=Z3b hw hr ha hv
 refine⟨decide_eq_true q1,F5 n.st (Bl (Bh n v l)),?_,q4,q2,q3,by rw[q5];exact Pr hv⟩
 unfold Ci Dm
 rw[if_neg (fun h=>h q1)]
theorem Pv {k:Nat}{n:PN}{r:RN}(h:Sim n r)(hi:NI k n)(hk:k+1≤900000000)(hl:n.lds=true)(hs:n.std=false):Sim (C2 n) (Ek r)∧NI (k+1) (C2 n):=by
 obtain⟨rs,rm,rp,rn,rl,rc,rph,rj,ra,rf,rh,ro⟩:=r
 obtain rfl:rs=n.self:=h.self
 obtain rfl:rm=n.many:=h.many
 obtain rfl:rp=n.pmd:=h.pmd
 obtain rfl:rn=n.normal:=h.normal
 obtain rfl:rl=n.log:=h.log
 obtain rfl:rc=n.cmt:=h.cmt
 obtain rfl:ro=n.out:=h.out
 have hj:=h.jns hl hs
 obtain⟨j1,j2⟩:=hi.jn hl hs
 obtain⟨l1,l2⟩:=hi.ld hl
 have hp:=hi.nv.p
 have hbl:=Z8w (n:=n) hj
 have hj:rj=jrL n.jns n.many:=hj
 have hlen:rj.length=(Bd n).length:=by rw[hj,Z75]
 have hm1:1≤n.many:=by have:=hi.self;omega
 unfold C2 Ek
 rw[hbl]
 dsimp only
 rw[hlen]
 by_cases hq:((Bd n).length:Int) < Ak n.many
 ·rw[if_pos hq,if_pos hq]
  exact⟨h,⟨⟨hi.sl.ws.up (by omega),hi.sl.rl,hk,hi.sl.ld⟩,hi.arm,hi.nv,hi.dead,hi.self,hi.m7,hi.com,hi.ld,hi.st,hi.jn,hi.jl⟩⟩
 ·rw[if_neg hq,if_neg hq]
  have hq1:=Vc hm1 hi.m7
  obtain⟨j,-,hjb,eb⟩:=Z1v (n:=n) (by omega)
  have hjm:=List.mem_of_getElem? hjb
  unfold Bd jlN at hjm
  obtain⟨hjm,hjis⟩:=List.mem_filter.1 hjm
  obtain⟨i,-,rfl⟩:=List.mem_map.1 hjm
  obtain⟨⟨b1,b2⟩,b3,b4⟩:=j2 i hjis
  have hlog:=hi.jl i
  rw[←eb] at b3 b4 hlog
  have hv:NV (Bh n n.pmd (Fr n)):=⟨⟨by show 0≤n.pmd;omega,Int.le_refl _,hp.2.2⟩,b3,Gk b4 (fun e he=>he) (by show _≤n.pmd;omega)⟩
  obtain⟨q1,st,q2,q3,q4,q5,q6⟩:=L5 hi.sl.ws hi.sl.rl hi.arm hv
  rw[if_pos q1,q2]
  have hms:=Qd (v:=n.pmd) (l:=Fr n) (by omega) b3 (Gk b4 (fun e he=>he) (by omega))
  have hle:=Dn (Fr n)
  generalize Fr n=B at *
  have hS:Sim (Di {Bh n n.pmd B with st:=st}) (Lo ⟨n.self,n.many,n.pmd,n.normal,n.log,n.cmt,rph,rj,ra,rf,rh,n.out⟩ B):=by
   refine⟨rfl,rfl,rfl,rfl,rfl,?_,rfl,?_,fun _ hh=>(by cases hh),fun _ _=>⟨?_,rfl,fun x hx=>rfl⟩⟩
   ·rfl
   ·show(2:Int)=if n.lds=true then(if true=true then 2 else 1) else 0
    rw[if_pos hl,if_pos rfl]
   ·have e:=Wr {Bh n n.pmd B with st:=st} hi.self
    rw[e]
    rfl
  have hN:NI (k+1) (Di {Bh n n.pmd B with st:=st}):=by
   have hcom:=hi.com
   refine⟨⟨q3,q4,hk,q6⟩,q5,⟨hv.p,hv.log,hv.top⟩,hi.dead,hi.self,hi.m7,?_,hi.ld,fun _=>⟨hl,rfl,fun x=>?_,?_,?_⟩,fun _ hh=>(by cases hh),hi.jl⟩
   ·show 0≤min n.cmt (A5 B)∧min n.cmt (A5 B)≤(B.length:Int)
    omega
   ·show 0≤(if x=n.self then A5 B else 0)∧(if x=n.self then A5 B else 0)≤(B.length:Int)
    split<;>omega
   ·show 0≤A5 B∧A5 B≤(B.length:Int)
    omega
   ·show B6 (B.take (A5 B).toNat) (n.pmd - 1)=true
    exact Gk b4 (fun e he=>List.mem_of_mem_take he) (by omega)
  have h1:=hS.spread hms
  have h2:=hN.same (A2 (Di {Bh n n.pmd B with st:=st}) ⟨3,n.pmd,0,0,B⟩)
  have h3:(Aq (Di {Bh n n.pmd B with st:=st}) ⟨3,n.pmd,0,0,B⟩).std=true:=by
   obtain⟨o,e⟩:=(A2 (Di {Bh n n.pmd B with st:=st}) ⟨3,n.pmd,0,0,B⟩).to
   rw[e];rfl
  obtain⟨r1,r2,-⟩:=Nk h1 h2 h3
  exact⟨r1,r2⟩
theorem Mx {n:PN}{r:ByteArray}(h:Cg n r=true):Bj n r={n with st:=(Bj n r).st}:=by
 unfold Cg at h
 unfold Bj
 split
 ·next h5 =>
  rw[if_pos h5] at h
  have h:=of_decide_eq_true h
  unfold Dm
  rw[if_neg (fun hh=>hh h)]
 ·next h5 =>
  rw[if_neg h5] at h
  split
  ·next h0=>rw[if_pos h0] at h;cases h
  ·next h0 =>
   rw[if_neg h0] at h
   have h:=of_decide_eq_true h
   unfold Dm
   rw[if_neg (fun hh=>hh h)]
theorem Q4 {k:Nat}{n:PN}(hi:NI k n){v:Int}(hv:n.pmd < v)(hb:v≤big):Ix n v=true∧∃st,F7 n v={n with pmd:=v,lds:=false,std:=false,st:=st}∧WSt (k+1) st∧RLd st∧st.d.armed=0∧B3 st.all (0,0,[])=some (v,n.normal,n.log):=by
 have hp:=hi.nv.p
 have hN:NV {n with pmd:=v,lds:=false,std:=false}:=⟨⟨hp.1,by show n.normal≤v;omega,hb⟩,hi.nv.log,hi.nv.top⟩
 have hz:=(G7 (k:=1) (a:=v) (b:=0) (s:=eS) (by omega) (by omega) (by decide) (by decide)).1
 have e0:eS.size=0:=rfl
 obtain⟨q1,q2,q3,q4⟩:=Ps (n:={n with pmd:=v,lds:=false,std:=false}) (r:=Ca 1 v 0 eS) hi.sl.ws hi.sl.rl hi.sl.kk hi.arm hN (by omega) (by
  show B3 (n.st.all++[Ca 1 v 0 eS]) (0,0,[])=some (v,n.normal,n.log)
  rw[L7,hi.sl.ld]
  show Ct (n.pmd,n.normal,n.log) (Ca 1 v 0 eS)=_
  rw[Z61 (by omega)])
 have q5:=(J7 (n:={n with pmd:=v,lds:=false,std:=false}) hi.sl.ws (Ca 1 v 0 eS) q1).1
 exact⟨q1,_,Mx q1,q5,q2,q3,q4⟩
theorem T0 {k:Nat}{n:PN}{r:RN}(h:Sim n r)(hi:NI k n)(hk:k+2≤900000000)(v:Int):(C5 n v).2=(Fa r v).2∧Sim (C5 n v).1 (Fa r v).1∧NI (k+2) (C5 n v).1:=by
 have up:NI (k+2) n:=⟨⟨hi.sl.ws.up (by omega),hi.sl.rl,hk,hi.sl.ld⟩,hi.arm,hi.nv,hi.dead,hi.self,hi.m7,hi.com,hi.ld,hi.st,hi.jn,hi.jl⟩
 obtain⟨rs,rm,rp,rn,rl,rc,rph,rj,ra,rf,rh,ro⟩:=r
 obtain rfl:rs=n.self:=h.self
 obtain rfl:rm=n.many:=h.many
 obtain rfl:rp=n.pmd:=h.pmd
 obtain rfl:rn=n.normal:=h.normal
 obtain rfl:rl=n.log:=h.log
 obtain rfl:rc=n.cmt:=h.cmt
 obtain rfl:ro=n.out:=h.out
 unfold C5 Fa
 dsimp only
 by_cases hc:v≤n.pmd∨Ab v n.many≠n.self
 ·rw[if_pos (.inr hc),if_pos hc]
  exact⟨rfl,h,up⟩
 ·rw[if_neg (by rw[hi.dead];rintro(h | h);cases h;exact hc h),if_neg hc]
  have hv1:n.pmd < v:=by omega
  have hpr:Ab v n.many=n.self:=Classical.byContradiction fun hh=>hc (.inr hh)
  have hvb:v≤big:=by
   unfold Ab at hpr
   split at hpr
   ·next hh=>exact hh.2.2
   ·omega
  have hp:=hi.nv.p
  obtain⟨q1,st,q2,q3,q4,q5,q6⟩:=Q4 hi hv1 hvb
  rw[if_pos q1,q2]
  have hS:Sim {n with pmd:=v,lds:=true,std:=false,st:=st,jns:=fun i=>if i=n.self then⟨true,n.normal,n.log⟩ else j0} ⟨n.self,n.many,v,n.normal,n.log,n.cmt,1,[⟨n.self,n.normal,A5 n.log,n.log⟩],ra,rf,rh,n.out⟩:=by
   refine⟨rfl,rfl,rfl,rfl,rfl,rfl,rfl,?_,fun _ _=>?_,fun _ hh=>(by cases hh)⟩
   ·show(1:Int)=if true=true then(if false=true then 2 else 1) else 0
    rw[if_pos rfl,if_neg (by decide)]
   ·show [(⟨n.self,n.normal,A5 n.log,n.log⟩:RJn)]=jrL (fun i=>if i=n.self then⟨true,n.normal,n.log⟩ else j0) n.many
    unfold jrL
    have e:(List.range n.many).filter (fun i=>(if i=n.self then(⟨true,n.normal,n.log⟩:RJ) else j0).is)=[n.self]:=by
     have hself:=hi.self
     have key:∀m,(List.range m).filter (fun i=>(if i=n.self then(⟨true,n.normal,n.log⟩:RJ) else j0).is)=if n.self < m then [n.self] else []:=fun m=>by
      induction m with
      | zero=>rfl
      | succ m ih =>
       rw[List.range_succ,List.filter_append,ih]
       by_cases hm:m=n.self
       ·rw[List.filter_cons_of_pos (by rw[if_pos hm]),if_neg (by omega),if_pos (by omega),hm];rfl
       ·rw[List.filter_cons_of_neg (by rw[if_neg hm];decide)]
        by_cases hlt:n.self < m
        ·rw[if_pos hlt,if_pos (by omega)];rfl
        ·rw[if_neg hlt,if_neg (by omega)];rfl
     rw[key,if_pos hself]
    rw[e]
    dsimp only[List.map]
    rw[if_pos rfl]
  have hN:NI (k+1) {n with pmd:=v,lds:=true,std:=false,st:=st,jns:=fun i=>if i=n.self then⟨true,n.normal,n.log⟩ else j0}:=by
   refine⟨⟨q3,q4,by omega,q6⟩,q5,⟨⟨hp.1,by show n.normal≤v;omega,hvb⟩,hi.nv.log,hi.nv.top⟩,hi.dead,hi.self,hi.m7,hi.com,fun _=>⟨hpr,by show 1≤v;omega⟩,fun hh=>(by cases hh),fun _ _=>⟨by show n.normal < v;omega,fun i hii=>?_⟩,fun i=>?_⟩
   ·dsimp only at hii⊢
    split
    ·exact⟨⟨hp.1,by show n.normal < v;omega⟩,hi.nv.log,hi.nv.top⟩
    ·next hne=>rw[if_neg hne] at hii;cases hii
   ·dsimp only
    split
    ·exact hi.nv.ents.1
    ·exact Nat.zero_le _
  have hm:=Z0y (v:=v) (by omega)
  have h1:=hS.spread hm
  have hss:=A2 {n with pmd:=v,lds:=true,std:=false,st:=st,jns:=fun i=>if i=n.self then⟨true,n.normal,n.log⟩ else j0} ⟨1,v,0,0,[]⟩
  have h2:=hN.same hss
  obtain⟨o,e⟩:=hss.to
  obtain⟨r1,r2⟩:=Pv h1 h2 (by omega) (by rw[e]) (by rw[e])
  exact⟨rfl,r1,r2⟩
end Go.Proofs.YtihfaocdpmmooaaGreat


import Derived.Test.YtihfaocdpmmooaaGreatRM1
import Derived.Test.YtihfaocdpmmooaaGreatZNl
import Derived.Test.YtihfaocdpmmooaaGreatNM1
namespace Go.Proofs.YtihfaocdpmmooaaGreat
theorem M9:∀(l m:List REnt) (v:Int) (k:Nat),Aj v k (l++m)=(Aj v k l&&Aj (vw v l) (k+l.length) m)
 | [],m,v,k=>by simp[Aj,vw]
 | e::l,m,v,k=>by
  have ev:vw v (e::l)=vw e.v l:=by
   unfold vw
   rw[List.getLast?_cons]
   cases l.getLast?<;>rfl
  rw[c8]
  show(okB v k e&&Aj e.v (k+1) (l++m))=(okB v k e&&Aj e.v (k+1) l&&_)
  rw[M9 l m e.v (k+1),ev,Bool.and_assoc,bc,show k+1+l.length=k+(l.length+1) by omega]
theorem Pt:∀{l:List REnt} {v:Int} {k:Nat},Aj v k l=true→∀e∈l,v≤e.v∧e.v≤4611686018427387904∧e.b.size≤200∧1≤e.n∧e.n≤k+l.length
 | [],_,_,_,e,he=>by cases he
 | x::l,v,k,h,e,he=>by
  have h:(okB v k x&&Aj x.v (k+1) l)=true:=h
  rw[aq] at h
  have h1:=h.1
  unfold okB at h1
  rw[decide_eq_true_iff] at h1
  rcases bh.1 he with rfl | he
  ·rw[bc];exact⟨h1.2.1,h1.2.2.1,h1.2.2.2,by omega,by omega⟩
  ·have:=Pt h.2 e he
   rw[bc]
   exact⟨by omega,this.2.1,this.2.2.1,this.2.2.2.1,by omega⟩
structure NV (n:PN):Prop where
 p:0≤n.normal∧n.normal≤n.pmd∧n.pmd≤big
 log:Bo n.log=true
 top:Au n.log n.normal=true
theorem NV.ents {n:PN}(h:NV n):n.log.length≤150∧∀e∈n.log,(1≤e.v∧e.v≤big)∧(1≤e.n∧e.n≤150)∧e.b.size≤200:=by
 have h1:=h.log
 unfold Bo at h1
 rw[aq,decide_eq_true_iff] at h1
 refine⟨h1.2,fun e he=>?_⟩
 have:=Pt h1.1 e he
 unfold big
 omega
theorem Zet {k a b:Int}{s:ByteArray}(hk:0≤k∧k≤255)(ha:0≤a∧a≤big)(hb:0≤b∧b≤big)(hs:s.size≤1024):M7 [⟨1,k,eS⟩,⟨2,a,eS⟩,⟨2,b,eS⟩,⟨3,0,s⟩]=0:=by
 refine J1 fun f hf=>?_
 simp only[List.mem_cons,List.not_mem_nil,or_false] at hf
 have whole:∀n:Int,0≤n→n≤big→fdE ⟨2,n,eS⟩=0:=fun n h0 h1=>by
  unfold fdE
  dsimp only
  rw[da (by decide),da (by rintro(h | h);exact h rfl;omega),da (by rintro⟨h,-⟩;cases h),da (by rintro⟨h,-⟩;cases h),db ⟨rfl,h1⟩]
 rcases hf with rfl | rfl | rfl | rfl
 ·unfold fdE
  dsimp only
  rw[da (by decide),da (by rintro(h | h);exact h rfl;omega),db ⟨rfl,hk.2⟩]
 ·exact whole _ ha.1 ha.2
 ·exact whole _ hb.1 hb.2
 ·unfold fdE
  rw[db rfl,da (fun h=>h rfl),da (by dsimp only;omega)]
theorem H1 {k a b:Int}{s:ByteArray}(hk:0≤k∧k≤255)(ha:0≤a∧a≤big)(hb:0≤b∧b≤big)(hs:s.size≤1024):(Cp k a b s).size=19+s.size∧Jy [1,2,2,3] (Cp k a b s).data.toList=⟨0,[⟨1,k,eS⟩,⟨2,a,eS⟩,⟨2,b,eS⟩,⟨3,0,s⟩],(Hv [⟨1,k,eS⟩,⟨2,a,eS⟩,⟨2,b,eS⟩,⟨3,0,s⟩]).length⟩:=by
 have h0:=Zet hk ha hb hs
 have e1:Q4 [⟨1,k,eS⟩,⟨2,a,eS⟩,⟨2,b,eS⟩,⟨3,0,s⟩]=Hv [⟨1,k,eS⟩,⟨2,a,eS⟩,⟨2,b,eS⟩,⟨3,0,s⟩]:=by unfold Q4;rw[db h0]
 have e2:(Cp k a b s).data.toList=Hv [⟨1,k,eS⟩,⟨2,a,eS⟩,⟨2,b,eS⟩,⟨3,0,s⟩]:=by
  unfold Cp
  show(Q4 _).toArray.toList=_
  rw[e1]
 refine⟨?_,by rw[e2];exact Z3y h0⟩
 have e3:(Cp k a b s).size=(Hv [⟨1,k,eS⟩,⟨2,a,eS⟩,⟨2,b,eS⟩,⟨3,0,s⟩]).length:=by rw[←e2,cb];rfl
 have hz:s.data.toList.length=s.size:=by rw[cb];rfl
 rw[e3]
 show([byI k]++(be8 a++(be8 b++((byI ((s.size:Int) / 256)::byI s.size::s.data.toList)++[])))).length=_
 simp only[List.length_append,List.length_cons,List.length_nil,I6,hz]
 omega
theorem Z88 {p:Int × Int × List REnt}{v:Int}(hv:0≤v∧v≤big):Db p (Cp 1 v 0 eS)=some (v,p.2.1,p.2.2):=by
 obtain⟨-,h⟩:=H1 (k:=1) (a:=v) (b:=0) (s:=eS) (by omega) hv (by decide) (by decide)
 unfold Db
 rw[h]
 rfl
theorem Zdz {p:Int × Int × List REnt}{v:Int}(hv:0≤v∧v≤big):Db p (Cp 2 v 0 eS)=some (p.1,v,p.2.2):=by
 obtain⟨-,h⟩:=H1 (k:=2) (a:=v) (b:=0) (s:=eS) (by omega) hv (by decide) (by decide)
 unfold Db
 rw[h]
 rfl
theorem Z85 {p:Int × Int × List REnt}{e:REnt}(hv:0≤e.v∧e.v≤big)(hn:0≤e.n∧e.n≤big)(hs:e.b.size≤1024):Db p (Cp 3 e.v e.n e.b)=some (p.1,p.2.1,p.2.2++[e]):=by
 obtain⟨-,h⟩:=H1 (k:=3) (by omega) hv hn hs
 unfold Db
 rw[h]
 rfl
theorem Ls:∀(l:List ByteArray) (r:ByteArray) (p:Int × Int × List REnt),Bf (l++[r]) p=(Bf l p).bind fun q=>Db q r
 | [],r,p=>by
  show(match Db p r with | none=>none | some p=>Bf [] p)=Db p r
  cases Db p r<;>rfl
 | x::l,r,p=>by
  show(match Db p x with | none=>none | some p=>Bf (l++[r]) p)=(match Db p x with | none=>none | some p=>Bf l p).bind _
  cases Db p x with
  | none=>rfl
  | some q=>exact Ls l r q
theorem R6:∀(l:List REnt) (p:Int × Int × List REnt),(∀e∈l,(0≤e.v∧e.v≤big)∧(0≤e.n∧e.n≤big)∧e.b.size≤1024)→Bf (l.map fun e:REnt=>Cp 3 e.v e.n e.b) p=some (p.1,p.2.1,p.2.2++l)
 | [],p,_=>by
  obtain⟨a,b,c⟩:=p
  show some _=some _
  rw[cy]
 | e::l,p,h=>by
  obtain⟨h1,h2,h3⟩:=h e (by simp)
  show(match Db p (Cp 3 e.v e.n e.b) with | none=>none | some p=>Bf (l.map fun e:REnt=>Cp 3 e.v e.n e.b) p)=_
  rw[Z85 h1 h2 h3]
  show Bf (l.map fun e:REnt=>Cp 3 e.v e.n e.b) _=_
  rw[R6 l _ fun x hx=>h x (by simp[hx])]
  show some (p.1,p.2.1,(p.2.2++[e])++l)=_
  rw[bw];rfl
theorem Z0t:(150:Int)≤big:=by decide
theorem Qm {n:PN}(h:NV n):Bf (Bz n) (0,0,[])=some (n.pmd,n.normal,n.log):=by
 have hp:=h.p
 obtain⟨hl,he⟩:=h.ents
 unfold Bz
 show(match Db (0,0,[]) (Cp 1 n.pmd 0 eS) with | none=>none | some p=>Bf (Cp 2 n.normal 0 eS::_) p)=_
 rw[Z88 (by omega)]
 show(match Db (n.pmd,0,[]) (Cp 2 n.normal 0 eS) with | none=>none | some p=>Bf _ p)=_
 rw[Zdz (by omega)]
 show Bf (n.log.map fun e:REnt=>Cp 3 e.v e.n e.b) (n.pmd,n.normal,[])=_
 rw[R6 n.log _ fun e hx=>?_]
 ·rfl
 ·have:=he e hx
  have:=Z0t
  omega
theorem Zbd (l:List REnt)(h:∀e∈l,(Cp 3 e.v e.n e.b).size≤219):(Am (l.map fun e:REnt=>Cp 3 e.v e.n e.b)).length≤223 * l.length:=by
 induction l with
 | nil=>exact ah _
 | cons e l ih =>
  have h1:=h e (by simp)
  have h2:=ih fun x hx=>h x (by simp[hx])
  have h3:(frB (Cp 3 e.v e.n e.b)).length=(Cp 3 e.v e.n e.b).size+4:=E2 _
  show(frB (Cp 3 e.v e.n e.b)++Am (l.map fun e:REnt=>Cp 3 e.v e.n e.b)).length≤_
  rw[aw,h3,bc]
  omega
theorem Z1y {n:PN}(h:NV n):N0 (Bz n)=0:=by
 have hp:=h.p
 obtain⟨hl,he⟩:=h.ents
 have s1:=(H1 (k:=1) (a:=n.pmd) (b:=0) (s:=eS) (by omega) (by omega) (by decide) (by decide)).1
 have s2:=(H1 (k:=2) (a:=n.normal) (b:=0) (s:=eS) (by omega) (by omega) (by decide) (by decide)).1
 have hz:eS.size=0:=rfl
 have s3:∀e∈n.log,(Cp 3 e.v e.n e.b).size≤219:=fun e hx=>by
  have:=he e hx
  have:=Z0t
  rw[(H1 (k:=3) (by omega) (by omega) (by omega) (by omega)).1];omega
 have hlen:(Am (Bz n)).length≤35136:=by
  have h3:=Zbd n.log s3
  unfold Bz
  show(frB _++(frB _++Am (n.log.map fun e:REnt=>Cp 3 e.v e.n e.b))).length≤_
  rw[aw,aw,E2,E2,s1,s2,hz]
  omega
 unfold N0
 rw[da,da (by omega)]
 rw[List.any_eq_true]
 rintro⟨s,hs,hd⟩
 have hd:=of_decide_eq_true hd
 unfold Bz at hs
 rcases bh.1 hs with rfl | hs
 ·omega
 ·rcases bh.1 hs with rfl | hs
  ·omega
  ·obtain⟨e,hx,rfl⟩:=az.1 hs
   have:=s3 e hx
   omega
structure SL (k:Nat)(n:PN):Prop where
 ws:WSt k n.st
 rl:RLd n.st
 kk:k≤900000000
 ld:Bf n.st.all (0,0,[])=some (n.pmd,n.normal,n.log)
theorem Z6b {k:Nat}{l:LD}(h:WSt k l)(hk:k≤900000001):(l.mark:Int)+2≤big:=by
 have:=h.mark
 have e:big=4611686018427387904:=rfl
 omega
theorem Qy {k:Nat}{n:PN}{r:ByteArray}(hw:WSt k n.st)(hr:RLd n.st)(_hk:k≤900000000)(ha:n.st.d.armed=0)(hv:NV n)(hrs:r.size≤4096)(hl:Bf (n.st.all++[r]) (0,0,[])=some (n.pmd,n.normal,n.log)) :
  Cu n r=true∧RLd (Br n r).st∧(Br n r).st.d.armed=0∧Bf (Br n r).st.all (0,0,[])=some (n.pmd,n.normal,n.log):=by
 by_cases h5:Gc n.st r=51
 ·have eA:=Z2j h5
  have hf:=Z1y hv
  obtain⟨hbl,hsz⟩:=Oy hf
  obtain⟨q1,q2⟩:=Z8e hw hr (Bz n) hf
  have hh:=hw.half
  obtain⟨w1,w2⟩:=Kz hw.dd ha hw.many (h:=1 - n.st.half) (by omega) hbl 0
  obtain⟨w3,w4⟩:=M8 hw.dd w1
  obtain⟨-,w5,-,-⟩:=F5 (Cq (1 - n.st.half)) (Am (Bz n)) (nsW (Am (Bz n)) 0) n.st.d hw.d
  obtain⟨z1,z2⟩:=K3 (l:=wrL n.st (1 - n.st.half) (Am (Bz n)) 0) w3 w4 w2 (by show(runW _ _ _ _).1.now.length=_;rw[w5];exact hw.many) (1 - n.st.half) (Am (Bz n)).length
  have hE:Jv n.st (Bz n)=0:=by
   unfold Jv
   rw[da (by rw[hw.dead];decide),da (fun h=>h hf),db w1]
   unfold Dp
   rw[z1];rfl
  have hL:Fq n.st (Bz n)={Ai (wrL n.st (1 - n.st.half) (Am (Bz n)) 0) (1 - n.st.half) (Am (Bz n)).length with b:=Am (Bz n),all:=Bz n}:=by
   unfold Fq
   rw[da (by rw[hw.dead];decide),da (fun h=>h hf),db w1,da (by rw[z1];decide)]
  have eK:Br n r={n with st:=Fq n.st (Bz n)}:=by
   unfold Br
   rw[db h5,eA,hE]
   unfold E3
   rw[da (by decide)]
  have eB:Cu n r=true:=by
   unfold Cu
   rw[db h5,eA,hE];rfl
  rw[eK,eB]
  refine⟨rfl,q2 hE,?_,?_⟩
  ·show(Fq n.st (Bz n)).d.armed=0
   rw[hL];exact z2
  ·show Bf (Fq n.st (Bz n)).all (0,0,[])=_
   rw[(Z2a hw (Bz n) hE).2];exact Qm hv
 ·have h0:Gc n.st r=0:=by
   unfold Gc at h5⊢
   rw[da (by rw[hw.dead];decide),da (by omega)] at h5⊢
   by_cases hs2:(r.size:Int) > Gf n.st
   ·rw[db hs2] at h5;exact dc rfl h5
   ·rw[da hs2]
    have hroom:(n.st.b++frB r).length≤35136:=by rw[aw,E2];have:=hw.len;unfold Gf at hs2;omega
    rw[db (Kz hw.dd ha hw.many hw.half hroom _).1]
  obtain⟨q1,q2,q3⟩:=Zcw hw hr r h0
  have hS:P0 (Bk n.st r)=0∧(K2 (Bk n.st r)).d.armed=0:=by
   have h0':=h0
   unfold Gc at h0'
   rw[da (by rw[hw.dead];decide),da (by omega)] at h0'
   have hs2:¬(r.size:Int) > Gf n.st:=fun hh=>by rw[db hh] at h0';cases h0'
   have hroom:(n.st.b++frB r).length≤35136:=by rw[aw,E2];have:=hw.len;unfold Gf at hs2;omega
   obtain⟨w1,w2⟩:=Kz hw.dd ha hw.many hw.half hroom n.st.b.length
   obtain⟨w3,w4⟩:=M8 hw.dd w1
   obtain⟨-,w5,-,-⟩:=F5 (Cq n.st.half) (n.st.b++frB r) (nsW (n.st.b++frB r) n.st.b.length) n.st.d hw.d
   have hA:Bk n.st r={wrL n.st n.st.half (n.st.b++frB r) n.st.b.length with b:=n.st.b++frB r,all:=n.st.all++[r]}:=by
    unfold Bk
    rw[da (by rw[hw.dead];decide),da (by omega),da hs2,db w1]
   obtain⟨z1,z2⟩:=K3 (l:=Bk n.st r) (by rw[hA];exact w3) (by rw[hA];exact w4) (by rw[hA];exact w2) (by rw[hA];show(runW _ _ _ _).1.now.length=_;rw[w5];exact hw.many) (Bk n.st r).half (Bk n.st r).b.length
   have hd:(Bk n.st r).dead=false:=by rw[hA];exact w3
   unfold P0 K2 Dp
   rw[da (by rw[hd];decide),z1,da (by decide),da (by rw[hd];decide)]
   exact⟨rfl,z2⟩
  have eK:Br n r={n with st:=K2 (Bk n.st r)}:=by
   unfold Br
   rw[da h5,da (fun h=>h h0),hS.1]
   unfold E3
   rw[da (by decide)]
  have eB:Cu n r=true:=by
   unfold Cu
   rw[da h5,da (fun h=>h h0),hS.1];rfl
  rw[eK,eB]
  refine⟨rfl,q3 hS.1,hS.2,?_⟩
  show Bf (K2 (Bk n.st r)).all (0,0,[])=_
  rw[(Z8a hw r h0 hS.1).2];exact hl
theorem Z5h {k:Nat}{st:LD}{n:PN}(hw:WSt k st)(hr:RLd st)(ha:st.d.armed=0)(hv:NV n):Jv st (Bz n)=0∧RLd (Fq st (Bz n))∧(Fq st (Bz n)).d.armed=0∧WSt (k+1) (Fq st (Bz n))∧(Fq st (Bz n)).all=Bz n:=by
 have hf:=Z1y hv
 obtain⟨hbl,hsz⟩:=Oy hf
 obtain⟨q1,q2⟩:=Z8e hw hr (Bz n) hf
 have hh:=hw.half
 obtain⟨w1,w2⟩:=Kz hw.dd ha hw.many (h:=1 - st.half) (by omega) hbl 0
 obtain⟨w3,w4⟩:=M8 hw.dd w1
 obtain⟨-,w5,-,-⟩:=F5 (Cq (1 - st.half)) (Am (Bz n)) (nsW (Am (Bz n)) 0) st.d hw.d
 obtain⟨z1,z2⟩:=K3 (l:=wrL st (1 - st.half) (Am (Bz n)) 0) w3 w4 w2 (by show(runW _ _ _ _).1.now.length=_;rw[w5];exact hw.many) (1 - st.half) (Am (Bz n)).length
 have hE:Jv st (Bz n)=0:=by
  unfold Jv
  rw[da (by rw[hw.dead];decide),da (fun h=>h hf),db w1]
  unfold Dp
  rw[z1];rfl
 have hL:Fq st (Bz n)={Ai (wrL st (1 - st.half) (Am (Bz n)) 0) (1 - st.half) (Am (Bz n)).length with b:=Am (Bz n),all:=Bz n}:=by
  unfold Fq
  rw[da (by rw[hw.dead];decide),da (fun h=>h hf),db w1,da (by rw[z1];decide)]
 exact⟨hE,q2 hE,by rw[hL];exact z2,Z2a hw (Bz n) hE⟩
structure RJn where
 frm:Int
 v:Int
 n:Int
 l:List REnt
structure RN where
 self:Int
 many:Int
 pmd:Int
 normal:Int
 log:List REnt
 cmt:Int
 phase:Int
 jns:List RJn
 aks:List Int
 first:Int
 hrd:List Int
 out:List RPk
def Hy (self many:Int):RN:=⟨self,many,0,0,[],0,0,[],[],0,[],[]⟩
def F3 (n:RN):RN:=⟨n.self,n.many,n.pmd,n.normal,n.log,0,0,[],[],0,[],[]⟩
def Ar (n:RN)(to:Int)(m:RM):RN:={n with out:=n.out++[⟨n.self,to,⟨(bM m).toArray⟩⟩]}
def Lk (f:RN→Nat→RN)(n:RN)(i:Nat):RN:=(List.range i).foldl (fun(n:RN) (i:Nat)=>if(i:Int)=n.self then n else f n i) n
theorem Cx (f:RN→Nat→RN)(n:RN)(i:Nat):Lk f n (i+1)=if(i:Int)=(Lk f n i).self then Lk f n i else f (Lk f n i) i:=by unfold Lk;rw[List.range_succ,List.foldl_append];rfl
def Aq (n:RN)(m:RM):RN:=Lk (fun n i=>Ar n i m) n n.many.toNat
def Jx (n:RN)(x:Int):Bool:=n.jns.any fun j=>decide (j.frm=x)
def L0:List RJn→RJn→List RJn
 | [],j=>[j]
 | x::l,j=>if x.frm > j.frm then j::x::l else x::L0 l j
def Em (n:RN)(j:RJn):RN:={n with jns:=L0 n.jns j}
def Cc (n:RN):RN:=if Bb n.aks > n.cmt then Aq {n with cmt:=Bb n.aks} ⟨6,n.pmd,0,Bb n.aks,[]⟩ else n
def Ef (n:RN)(l:List REnt):RN:={n with log:=l,cmt:=min n.cmt (A4 l),normal:=n.pmd,phase:=2,first:=A4 l,hrd:=[],aks:=(List.replicate n.many.toNat (0:Int)).set n.self.toNat (A4 l)}
def G8 (n:RN):List REnt:=(n.jns[(Ga (n.jns.map fun j=>⟨j.v,j.n⟩)).toNat]?.map RJn.l).getD []
def Cf (n:RN):RN :=
 if(n.jns.length:Int) < Ag n.many then n
 else Cc (Aq (Ef n (G8 n)) ⟨3,n.pmd,0,0,G8 n⟩)
def D7 (n:RN)(v:Int):RN × Bool :=
 if v≤n.pmd∨A9 v n.many≠n.self then(n,false)
 else(Cf (Aq {n with pmd:=v,phase:=1,jns:=[⟨n.self,n.normal,A4 n.log,n.log⟩]} ⟨1,v,0,0,[]⟩),true)
def My (n:RN)(e:REnt):RN:={n with log:=n.log++[e]}
def Bc (n:RN)(i k:Int):RN:={n with aks:=n.aks.set i.toNat (max (n.aks[i.toNat]?.getD 0) k)}
def Fd (n:RN)(s:ByteArray):REnt:=⟨n.pmd,A4 n.log+1,s⟩
def B9 (n:RN)(s:ByteArray):RN × Bool :=
 if n.phase≠2∨n.log.length ≥ 150∨s.size > 200 then(n,false)
 else(Cc (Aq (Bc (My n (Fd n s)) n.self (Fd n s).n) ⟨4,n.pmd,0,(Fd n s).n - 1,[Fd n s]⟩),true)
def Dx (n:RN)(x:Int):Bool:=n.hrd.any fun j=>decide (j=x)
def Fb (n:RN)(i:Nat):RN:=if n.phase=1∧Jx n i=false then Ar n i ⟨1,n.pmd,0,0,[]⟩ else n
def Ev (n:RN)(i:Nat):RN:=if n.phase=2∧Dx n i=true then Ar n i ⟨4,n.pmd,0,n.aks[i]?.getD 0,n.log.drop (n.aks[i]?.getD 0).toNat⟩ else n
def Ek (n:RN)(i:Nat):RN:=if n.phase=2∧Dx n i=false then Ar n i ⟨3,n.pmd,0,0,n.log.take n.first.toNat⟩ else n
def En (n:RN)(i:Nat):RN:=if n.phase=2 then Ar n i ⟨6,n.pmd,0,n.cmt,[]⟩ else n
def D8 (n:RN):RN:=Lk (fun n i=>En (Ek (Ev (Fb n i) i) i) i) n n.many.toNat
def Fw (n:RN)(m:RM):RN:=if m.view > n.pmd then {n with pmd:=m.view,phase:=0} else n
def Bu (n:RN)(who:Int)(m:RM):RN :=
 if m.view=(Fw n m).pmd∧m.view > (Fw n m).normal∧(Fw n m).phase=0 then Ar (Fw n m) who ⟨2,m.view,(Fw n m).normal,0,(Fw n m).log⟩ else Fw n m
def Bj (n:RN)(who:Int)(m:RM):RN :=
 if n.phase≠1∨n.pmd≠m.view∨Jx n who=true then n else Cf (Em n ⟨who,m.normal,A4 m.l,m.l⟩)
def Ce (n:RN)(m:RM):RN:=if m.view ≥ n.pmd∧m.view > n.normal then {n with pmd:=m.view,normal:=m.view,log:=m.l,cmt:=min n.cmt (A4 m.l),phase:=0} else n
def B2 (n:RN)(who:Int)(m:RM):RN :=
 if m.view=(Ce n m).pmd∧m.view=(Ce n m).normal then Ar (Ce n m) who ⟨5,m.view,0,A4 (Ce n m).log,[]⟩ else Ce n m
def Du:List REnt→RN→RN
 | [],n=>n
 | e::l,n=>if e.n > n.log.length+1 then n else if e.n=n.log.length+1∧(n.log.length=0∨e.v ≥ vw 0 n.log) then Du l (My n e) else Du l n
def Cl (n:RN)(who:Int)(m:RM):RN :=
 if n.pmd≠m.view∨n.normal≠m.view∨n.phase≠0 then n else Ar (Du m.l n) who ⟨5,m.view,0,A4 (Du m.l n).log,[]⟩
def Gz (n:RN)(who:Int)(m:RM):RN:=Cc (Bc {n with hrd:=n.hrd++[who]} who m.num)
def By (n:RN)(who:Int)(m:RM):RN :=
 if n.phase≠2∨n.pmd≠m.view∨m.num > n.log.length then n
 else if m.num < (Gz n who m).log.length then Ar (Gz n who m) who ⟨4,(Gz n who m).pmd,0,m.num,(Gz n who m).log.drop m.num.toNat⟩ else Gz n who m
def Dk (n:RN)(p:RPk):RN :=
 if ¬Jd p.body.data.toList∨p.to≠n.self∨p.frm=n.self∨p.frm < 0∨p.frm ≥ n.many then n
 else if(mD p.body.data.toList).kind=2 then Bj n p.frm (mD p.body.data.toList)
 else if(mD p.body.data.toList).kind=5 then By n p.frm (mD p.body.data.toList)
 else if A9 (mD p.body.data.toList).view n.many≠p.frm then n
 else if(mD p.body.data.toList).kind=1 then Bu n p.frm (mD p.body.data.toList)
 else if(mD p.body.data.toList).kind=3 then B2 n p.frm (mD p.body.data.toList)
 else if(mD p.body.data.toList).kind=4 then Cl n p.frm (mD p.body.data.toList)
 else if n.pmd=(mD p.body.data.toList).view∧n.normal=(mD p.body.data.toList).view∧n.phase=0 then {n with cmt:=max n.cmt (min (mD p.body.data.toList).num (A4 n.log))}
 else n
theorem G3 {n:PN}{i:Nat}{m:RM}(h:okM m=true):Ay n i m={n with out:=n.out++[⟨n.self,i,⟨(bM m).toArray⟩⟩]}:=by unfold Ay;rw[db h]
def Xn (self k:Nat):List Nat:=(List.range k).filter fun i=>decide (i≠self)
theorem Ql (self k:Nat):Xn self (k+1)=if k=self then Xn self k else Xn self k++[k]:=by
 unfold Xn
 rw[List.range_succ,List.filter_append]
 split
 ·next h=>rw[List.filter_cons_of_neg (by simpa using h)];simp
 ·next h=>rw[List.filter_cons_of_pos (by simpa using h)];rfl
theorem L2 {f:PN→Nat→PN}{g:Nat→List RPk}{n:PN}:∀k,(∀o i,i < k→f {n with out:=o} i={n with out:=o++g i})→Kg f n k={n with out:=n.out++(Xn n.self k).flatMap g}
 | 0,_=>by simp[Kg,Xn]
 | k+1,h=>by
  rw[Fj,L2 k fun o i hi=>h o i (by omega),Ql]
  by_cases hk:k=n.self
  ·rw[db hk,db hk]
  ·rw[da hk,da hk,h _ _ (by omega),List.flatMap_append,bw];simp
theorem P6 {f:RN→Nat→RN}{g:Nat→List RPk}{r:RN}{s:Nat}(hs:r.self=s):∀k,(∀o i,i < k→f {r with out:=o} i={r with out:=o++g i})→Lk f r k={r with out:=r.out++(Xn s k).flatMap g}
 | 0,_=>by simp[Lk,Xn]
 | k+1,h=>by
  rw[Cx,P6 hs k fun o i hi=>h o i (by omega),Ql]
  by_cases hk:k=s
  ·rw[db hk,db (by show((k:Nat):Int)=r.self;rw[hs,hk])]
  ·rw[da hk,da (by show ¬((k:Nat):Int)=r.self;rw[hs];omega),h _ _ (by omega),List.flatMap_append,bw];simp
def spL (self many:Nat)(m:RM):List RPk:=(Xn self many).flatMap fun i:Nat=>[⟨(self:Int),(i:Int),⟨(bM m).toArray⟩⟩]
theorem Y7 {n:PN}{m:RM}(h:okM m=true):Ax n m={n with out:=n.out++spL n.self n.many m}:=by
 unfold Ax spL
 exact L2 (f:=fun n i=>Ay n i m) (n:=n) (g:=fun i:Nat=>[⟨(n.self:Int),(i:Int),⟨(bM m).toArray⟩⟩]) _ fun o i _=>G3 (n:={n with out:=o}) h
theorem Xh {r:RN}{s k:Nat}(m:RM)(hs:r.self=s)(hk:r.many=k):Aq r m={r with out:=r.out++spL s k m}:=by
 unfold Aq spL
 rw[show r.many.toNat=k by rw[hk,ay]]
 exact P6 (f:=fun n i=>Ar n i m) (r:=r) (g:=fun i:Nat=>[⟨(s:Int),(i:Int),⟨(bM m).toArray⟩⟩]) hs _ fun o i _=>by
  show({r with out:=o++[(⟨r.self,i,⟨(bM m).toArray⟩⟩:RPk)]}:RN)={r with out:=o++[(⟨(s:Int),i,⟨(bM m).toArray⟩⟩:RPk)]}
  rw[show r.self=(s:Int) from hs]
def jrL (j:Nat→RJ)(m:Nat):List RJn:=((List.range m).filter fun i=>(j i).is).map fun i:Nat=>⟨(i:Int),(j i).normal,A4 (j i).l,(j i).l⟩
structure Sim (n:PN)(r:RN):Prop where
 self:r.self=n.self
 many:r.many=n.many
 pmd:r.pmd=n.pmd
 normal:r.normal=n.normal
 log:r.log=n.log
 cmt:r.cmt=n.cmt
 out:r.out=n.out
 phase:r.phase=if n.lds=true then(if n.std=true then 2 else 1) else 0
 jns:n.lds=true→n.std=false→r.jns=jrL n.jns n.many
 aks:n.lds=true→n.std=true→r.aks=Bx n∧r.first=n.first∧∀i:Nat,i < n.many→Dx r i=n.hrd i
theorem Sim.snd {n:PN}{r:RN}(h:Sim n r)(l:List RPk):Sim {n with out:=n.out++l} {r with out:=r.out++l} :=
 ⟨h.self,h.many,h.pmd,h.normal,h.log,h.cmt,by show r.out++l=n.out++l;rw[h.out],h.phase,h.jns,h.aks⟩
theorem Sim.spread {n:PN}{r:RN}(h:Sim n r){m:RM}(hm:okM m=true):Sim (Ax n m) (Aq r m):=by
 rw[Y7 hm,Xh m h.self h.many]
 exact h.snd _
theorem Sim.send {n:PN}{r:RN}(h:Sim n r){i:Nat}{m:RM}(hm:okM m=true):Sim (Ay n i m) (Ar r i m):=by
 rw[G3 hm]
 have:=h.snd [⟨n.self,i,⟨(bM m).toArray⟩⟩]
 have e:Ar r i m={r with out:=r.out++[⟨n.self,i,⟨(bM m).toArray⟩⟩]}:=by
  unfold Ar
  rw[show [(⟨r.self,i,⟨(bM m).toArray⟩⟩:RPk)]=[⟨n.self,i,⟨(bM m).toArray⟩⟩] by rw[h.self]]
 rw[e]
 exact this
theorem V9 {v c:Int}(hv:1≤v∧v≤big)(hc:0≤c∧c≤150):okM ⟨6,v,0,c,[]⟩=true:=by
 unfold okM
 rw[decide_eq_true (by dsimp only;omega)]
 rfl
theorem Te {v c:Int}(hv:1≤v∧v≤big)(hc:0≤c∧c≤150):okM ⟨5,v,0,c,[]⟩=true:=by
 unfold okM
 rw[decide_eq_true (by dsimp only;omega)]
 rfl
theorem Z2z {v:Int}(hv:1≤v∧v≤big):okM ⟨1,v,0,0,[]⟩=true:=by
 unfold okM
 rw[decide_eq_true (by dsimp only;omega)]
 rfl
theorem Mb:∀{l:List REnt} {v:Int} {k:Nat},Aj v k l=true→k+l.length≤150→Gd k v l=true
 | [],_,_,_,_=>rfl
 | e::l,v,k,h,hl=>by
  have h:(okB v k e&&Aj e.v (k+1) l)=true:=h
  rw[aq] at h
  have h1:=h.1
  unfold okB at h1
  rw[decide_eq_true_iff] at h1
  rw[bc] at hl
  unfold Gd
  rw[decide_eq_true (by omega)]
  have:=Mb h.2 (by omega)
  rw[show((k+1:Nat):Int)=(k:Int)+1 by omega] at this
  exact this
theorem Zc {l:List REnt}(h:Bo l=true):Gq 0 l=true∧l.length≤150:=by
 unfold Bo at h
 rw[aq,decide_eq_true_iff] at h
 unfold Gq
 have:=Mb h.1 (by omega)
 rw[show Gd 0 1 l=true from this,decide_eq_true h.2]
 exact⟨rfl,h.2⟩
theorem N9:∀{l:List REnt} {v:Int} {k:Nat} (i:Nat),Aj v k l=true→∃v',v≤v'∧Aj v' (k+i) (l.drop i)=true
 | l,v,k,0,h=>⟨v,bp _,h⟩
 | [],v,k,i+1,_=>⟨v,bp _,rfl⟩
 | e::l,v,k,i+1,h=>by
  have h:(okB v k e&&Aj e.v (k+1) l)=true:=h
  rw[aq] at h
  have h1:=h.1
  unfold okB at h1
  rw[decide_eq_true_iff] at h1
  obtain⟨v',a,b⟩:=N9 i h.2
  exact⟨v',by omega,by rw[show k+(i+1)=k+1+i by omega];exact b⟩
theorem Zbj:∀{l:List REnt} {v v' k:Int},v≤v'→Gd k v' l=true→Gd k v l=true
 | [],_,_,_,_,_=>rfl
 | e::l,v,v',k,hv,h=>by
  unfold Gd at h⊢
  rw[aq,decide_eq_true_iff] at h
  rw[decide_eq_true (by omega)]
  exact h.2
theorem Ha {l m:List REnt}{v v':Int}(h:Au l v=true)(hs:∀e∈m,e∈l)(hv:v≤v'):Au m v'=true:=by
 unfold Au at *
 rw[List.all_eq_true] at *
 intro e he
 have:=of_decide_eq_true (h e (hs e he))
 exact decide_eq_true (by omega)
theorem V5 {v q:Int}{l:List REnt}(hv:1≤v∧v≤big)(hq:0≤q∧q < v)(hl:Bo l=true)(ht:Au l q=true):okM ⟨2,v,q,0,l⟩=true:=by
 obtain⟨h1,h2⟩:=Zc hl
 unfold okM
 rw[decide_eq_true (by dsimp only;omega)]
 dsimp only
 rw[da (by decide),db rfl,h1,ht]
 rfl
theorem Pp {v:Int}{l:List REnt}(hv:1≤v∧v≤big)(hl:Bo l=true)(ht:Au l (v - 1)=true):okM ⟨3,v,0,0,l⟩=true:=by
 obtain⟨h1,h2⟩:=Zc hl
 unfold okM
 rw[decide_eq_true (by dsimp only;omega)]
 dsimp only
 rw[da (by decide),da (by decide),db rfl,h1,ht]
 rfl
theorem Z1i {v:Int}{k:Nat}{l:List REnt}(hv:1≤v∧v≤big)(hk:k≤l.length)(hl:Bo l=true)(ht:Au l v=true):okM ⟨4,v,0,k,l.drop k⟩=true:=by
 have hl2:=hl
 unfold Bo at hl2
 rw[aq,decide_eq_true_iff] at hl2
 obtain⟨v',a,b⟩:=N9 k hl2.1
 have h3:=Zbj a (Mb b (by rw[ba];omega))
 unfold okM
 rw[decide_eq_true (by dsimp only;omega)]
 dsimp only
 rw[da (by decide),da (by decide),da (by decide),db rfl,Ha ht (fun e he=>bz he) (bp _)]
 unfold Gq
 rw[ca] at h3
 have hdl:(l.drop k).length≤150:=by rw[ba];omega
 rw[h3,decide_eq_true hdl]
 simp
theorem Z93 {v:Int}{k:Nat}{s:ByteArray}(hv:1≤v∧v≤big)(hk:k+1≤150)(hs:s.size≤200):okM ⟨4,v,0,k,[⟨v,(k:Int)+1,s⟩]⟩=true:=by
 unfold okM
 rw[decide_eq_true (by dsimp only;omega)]
 dsimp only
 rw[da (by decide),da (by decide),da (by decide),db rfl]
 have h1:Gd (k:Int) 1 [⟨v,(k:Int)+1,s⟩]=true:=by
  unfold Gd
  rw[decide_eq_true (by dsimp only;omega)]
  rfl
 unfold Gq Au
 rw[h1]
 simp
theorem WSt.up {k j:Nat}{l:LD}(h:WSt k l)(hj:k≤j):WSt j l:=⟨h.d,h.many,h.armed,h.wait,h.half,h.b,h.len,b9 h.mark hj,h.dead,h.dd⟩
structure NI (k:Nat)(n:PN):Prop where
 sl:SL k n
 arm:n.st.d.armed=0
 nv:NV n
 dead:n.dead=false
 self:n.self < n.many
 m7:n.many≤7
 com:0≤n.cmt∧n.cmt≤n.log.length
 ld:n.lds=true→A9 n.pmd n.many=n.self∧1≤n.pmd
 st:n.std=true→n.lds=true∧n.normal=n.pmd∧(∀i,0≤n.aks i∧n.aks i≤n.log.length)∧(0≤n.first∧n.first≤n.log.length)∧Au (n.log.take n.first.toNat) (n.pmd - 1)=true
 jn:n.lds=true→n.std=false→n.normal < n.pmd∧∀i,(n.jns i).is=true→(0≤(n.jns i).normal∧(n.jns i).normal < n.pmd)∧Bo (n.jns i).l=true∧Au (n.jns i).l (n.jns i).normal=true
 jl:∀i,(n.jns i).l.length≤150
theorem NI.wn {k:Nat}{n:PN}(h:NI k n)(ho:n.out.length≤700000):WNk k n :=
 ⟨h.sl.ws,h.sl.kk,by have:=h.self;omega,h.m7,h.self,h.nv.ents.1,ho,fun i _=>h.jl i,h.nv.p.2.1,fun hs=>⟨fun i _=>(h.st hs).2.2.1 i,(h.st hs).2.2.2.1⟩⟩
theorem NI.snd {k:Nat}{n:PN}(h:NI k n)(o:List RPk):NI k {n with out:=o} :=
 ⟨⟨h.sl.ws,h.sl.rl,h.sl.kk,h.sl.ld⟩,h.arm,⟨h.nv.p,h.nv.log,h.nv.top⟩,h.dead,h.self,h.m7,h.com,h.ld,h.st,h.jn,h.jl⟩
theorem NI.same {k:Nat}{n n':PN}(h:NI k n)(hs:SameN n n'):NI k n':=by
 obtain⟨o,rfl⟩:=hs.to
 exact h.snd o
theorem Z90 {l:List Int}{c:Int}(h0:0≤c)(h:∀x∈l,x≤c):0≤Bb l∧Bb l≤c:=by
 have key:∀k,0≤Cj l k∧Cj l k≤c:=fun k=>by
  induction k with
  | zero=>simp[Cj];exact h0
  | succ k ih =>
   by_cases hk:k < l.length
   ·rw[I4 hk]
    split
    ·next hh=>exact⟨by omega,h _ (bl hk)⟩
    ·exact ih
   ·have:Cj l (k+1)=Cj l k:=by
     unfold Cj
     rw[ao (by omega),ao (by omega)]
    rw[this];exact ih
 unfold Bb
 split
 ·exact key _
 ·exact⟨bp _,h0⟩
theorem Wg {n:PN}{x:Int}(h:x∈Bx n):∃i,x=n.aks i:=by
 unfold Bx at h
 obtain⟨i,-,rfl⟩:=az.1 h
 exact⟨i,rfl⟩
theorem Pb {k:Nat}{n:PN}{r:RN}(h:Sim n r)(hi:NI k n)(hs:n.std=true):Sim (Dy n) (Cc r)∧NI k (Dy n)∧(Dy n).log=n.log∧(Dy n).pmd=n.pmd:=by
 obtain⟨rs,rm,rp,rn,rl,rc,rph,rj,ra,rf,rh,ro⟩:=r
 obtain rfl:rs=n.self:=h.self
 obtain rfl:rm=n.many:=h.many
 obtain rfl:rp=n.pmd:=h.pmd
 obtain rfl:rn=n.normal:=h.normal
 obtain rfl:rl=n.log:=h.log
 obtain rfl:rc=n.cmt:=h.cmt
 obtain rfl:ro=n.out:=h.out
 obtain⟨s1,s2,s3,s4,s5⟩:=hi.st hs
 obtain⟨a1,a2,a3⟩:=h.aks s1 hs
 obtain rfl:ra=Bx n:=a1
 have hb:=Z90 (l:=Bx n) (c:=n.log.length) (by omega) fun x hx=>by
  obtain⟨i,rfl⟩:=Wg hx
  exact(s3 i).2
 have hl:=hi.nv.ents.1
 have hp:=hi.nv.p
 have hv:=(hi.ld s1).2
 unfold Dy Cc
 dsimp only
 by_cases hc:Bb (Bx n) > n.cmt
 ·rw[db hc,db hc]
  have hm:=V9 (v:=n.pmd) (c:=Bb (Bx n)) (by omega) (by omega)
  have h2:Sim {n with cmt:=Bb (Bx n)} ⟨n.self,n.many,n.pmd,n.normal,n.log,Bb (Bx n),rph,rj,Bx n,rf,rh,n.out⟩:=⟨h.self,h.many,h.pmd,h.normal,h.log,rfl,h.out,h.phase,h.jns,h.aks⟩
  have h3:NI k {n with cmt:=Bb (Bx n)}:=⟨⟨hi.sl.ws,hi.sl.rl,hi.sl.kk,hi.sl.ld⟩,hi.arm,⟨hi.nv.p,hi.nv.log,hi.nv.top⟩,hi.dead,hi.self,hi.m7,⟨hb.1,hb.2⟩,hi.ld,hi.st,hi.jn,hi.jl⟩
  have hss:=A2 {n with cmt:=Bb (Bx n)} ⟨6,n.pmd,0,Bb (Bx n),[]⟩
  refine⟨?_,h3.same hss,?_,?_⟩
  ·exact h2.spread hm
  ·obtain⟨o,e⟩:=hss.to;rw[e]
  ·obtain⟨o,e⟩:=hss.to;rw[e]
 ·rw[da hc,da hc]
  exact⟨h,hi,rfl,rfl⟩
theorem Z86 (n:PN):(jrL n.jns n.many).length=(Bp n).length:=by
 unfold jrL Bp jlN
 rw[aa,List.filter_map,aa]
 rfl
theorem Z6h (n:PN):(jrL n.jns n.many).map (fun j=>(⟨j.v,j.n⟩:Mk))=(Bp n).map mkJ:=by
 unfold jrL Bp jlN
 rw[List.map_map,List.filter_map,List.map_map]
 rfl
theorem Z9o {n:PN}{r:RN}(h:r.jns=jrL n.jns n.many):G8 r=H7 n:=by
 unfold G8 H7
 rw[h,Z6h]
 generalize (Ga ((Bp n).map mkJ)).toNat=p
 unfold jrL Bp jlN
 rw[List.filter_map,aj,aj]
 show(Option.map RJn.l (Option.map _ (List.filter (fun i=>(n.jns i).is) (List.range n.many))[p]?)).getD []=((Option.map n.jns (List.filter (RJ.is ∘ n.jns) (List.range n.many))[p]?).getD j0).l
 have e:(List.filter (fun i=>(n.jns i).is) (List.range n.many))=List.filter (RJ.is ∘ n.jns) (List.range n.many):=rfl
 rw[e]
 cases(List.filter (RJ.is ∘ n.jns) (List.range n.many))[p]?<;>rfl
theorem X7 (n:PN)(hs:n.self < n.many):Bx (Dt n)=(List.replicate n.many (0:Int)).set n.self (A4 n.log):=by
 refine co fun i=>?_
 unfold Bx
 show((List.range n.many).map fun i=>if i=n.self then A4 n.log else 0)[i]?=_
 rw[aj,ck,List.length_replicate]
 by_cases hi:i < n.many
 ·rw[cp hi]
  by_cases h:n.self=i
  ·rw[db h,db hs]
   show some (if i=n.self then _ else _)=_
   rw[db h.symm]
  ·rw[da h,List.getElem?_replicate,db hi]
   show some (if i=n.self then _ else _)=_
   rw[da (fun e=>h e.symm)]
 ·rw[b8 (by rw[List.length_range];omega),da (by omega),List.getElem?_replicate,da hi]
  rfl
theorem M3 {k:Nat}{n:PN}(hw:WSt k n.st)(hr:RLd n.st)(ha:n.st.d.armed=0){v:Int}{l:List REnt}(hv:NV (Bt n v l)):Dw n v l=true∧∃st,Cy n v l={Bt n v l with st:=st}∧WSt (k+1) st∧RLd st∧st.d.armed=0∧Bf st.all (0,0,[])=some (v,v,l):=by
 obtain⟨q1,q2,q3,q4,q5⟩:=Z5h hw hr ha hv
 refine⟨decide_eq_true q1,Fq n.st (Bz (Bt n v l)),?_,q4,q2,q3,by rw[q5];exact Qm hv⟩
 unfold Cy E3
 rw[da (fun h=>h q1)]
theorem Qc {k:Nat}{n:PN}{r:RN}(h:Sim n r)(hi:NI k n)(hk:k+1≤900000000)(hl:n.lds=true)(hs:n.std=false):Sim (Cb n) (Cf r)∧NI (k+1) (Cb n):=by
 obtain⟨rs,rm,rp,rn,rl,rc,rph,rj,ra,rf,rh,ro⟩:=r
 obtain rfl:rs=n.self:=h.self
 obtain rfl:rm=n.many:=h.many
 obtain rfl:rp=n.pmd:=h.pmd
 obtain rfl:rn=n.normal:=h.normal
 obtain rfl:rl=n.log:=h.log
 obtain rfl:rc=n.cmt:=h.cmt
 obtain rfl:ro=n.out:=h.out
 have hj:=h.jns hl hs
 obtain⟨j1,j2⟩:=hi.jn hl hs
 obtain⟨l1,l2⟩:=hi.ld hl
 have hp:=hi.nv.p
 have hbl:=Z9o (n:=n) hj
 have hj:rj=jrL n.jns n.many:=hj
 have hlen:rj.length=(Bp n).length:=by rw[hj,Z86]
 have hm1:1≤n.many:=by have:=hi.self;omega
 unfold Cb Cf
 rw[hbl]
 dsimp only
 rw[hlen]
 by_cases hq:((Bp n).length:Int) < Ag n.many
 ·rw[db hq,db hq]
  exact⟨h,⟨⟨hi.sl.ws.up (by omega),hi.sl.rl,hk,hi.sl.ld⟩,hi.arm,hi.nv,hi.dead,hi.self,hi.m7,hi.com,hi.ld,hi.st,hi.jn,hi.jl⟩⟩
 ·rw[da hq,da hq]
  have hq1:=Of hm1 hi.m7
  obtain⟨j,-,hjb,eb⟩:=Yo (n:=n) (by omega)
  have hjm:=ae hjb
  unfold Bp jlN at hjm
  obtain⟨hjm,hjis⟩:=List.mem_filter.1 hjm
  obtain⟨i,-,rfl⟩:=az.1 hjm
  obtain⟨⟨b1,b2⟩,b3,b4⟩:=j2 i hjis
  have hlog:=hi.jl i
  rw[←eb] at b3 b4 hlog
  have hv:NV (Bt n n.pmd (H7 n)):=⟨⟨by show 0≤n.pmd;omega,bp _,hp.2.2⟩,b3,Ha b4 (fun e he=>he) (by show _≤n.pmd;omega)⟩
  obtain⟨q1,st,q2,q3,q4,q5,q6⟩:=M3 hi.sl.ws hi.sl.rl hi.arm hv
  rw[db q1,q2]
  have hms:=Pp (v:=n.pmd) (l:=H7 n) (by omega) b3 (Ha b4 (fun e he=>he) (by omega))
  have hle:=E1 (H7 n)
  generalize H7 n=B at *
  have hS:Sim (Dt {Bt n n.pmd B with st:=st}) (Ef ⟨n.self,n.many,n.pmd,n.normal,n.log,n.cmt,rph,rj,ra,rf,rh,n.out⟩ B):=by
   refine⟨rfl,rfl,rfl,rfl,rfl,?_,rfl,?_,fun _ hh=>(by cases hh),fun _ _=>⟨?_,rfl,fun x hx=>rfl⟩⟩
   ·rfl
   ·show(2:Int)=if n.lds=true then(if true=true then 2 else 1) else 0
    rw[db hl,db rfl]
   ·have e:=X7 {Bt n n.pmd B with st:=st} hi.self
    rw[e]
    rfl
  have hN:NI (k+1) (Dt {Bt n n.pmd B with st:=st}):=by
   have hcom:=hi.com
   refine⟨⟨q3,q4,hk,q6⟩,q5,⟨hv.p,hv.log,hv.top⟩,hi.dead,hi.self,hi.m7,?_,hi.ld,fun _=>⟨hl,rfl,fun x=>?_,?_,?_⟩,fun _ hh=>(by cases hh),hi.jl⟩
   ·show 0≤min n.cmt (A4 B)∧min n.cmt (A4 B)≤(B.length:Int)
    omega
   ·show 0≤(if x=n.self then A4 B else 0)∧(if x=n.self then A4 B else 0)≤(B.length:Int)
    split<;>omega
   ·show 0≤A4 B∧A4 B≤(B.length:Int)
    omega
   ·show Au (B.take (A4 B).toNat) (n.pmd - 1)=true
    exact Ha b4 (fun e he=>bd he) (by omega)
  have h1:=hS.spread hms
  have h2:=hN.same (A2 (Dt {Bt n n.pmd B with st:=st}) ⟨3,n.pmd,0,0,B⟩)
  have h3:(Ax (Dt {Bt n n.pmd B with st:=st}) ⟨3,n.pmd,0,0,B⟩).std=true:=by
   obtain⟨o,e⟩:=(A2 (Dt {Bt n n.pmd B with st:=st}) ⟨3,n.pmd,0,0,B⟩).to
   rw[e];rfl
  obtain⟨r1,r2,-⟩:=Pb h1 h2 h3
  exact⟨r1,r2⟩
theorem Nc {n:PN}{r:ByteArray}(h:Cu n r=true):Br n r={n with st:=(Br n r).st}:=by
 unfold Cu at h
 unfold Br
 split
 ·next h5 =>
  rw[db h5] at h
  have h:=of_decide_eq_true h
  unfold E3
  rw[da (fun hh=>hh h)]
 ·next h5 =>
  rw[da h5] at h
  split
  ·next h0=>rw[db h0] at h;cases h
  ·next h0 =>
   rw[da h0] at h
   have h:=of_decide_eq_true h
   unfold E3
   rw[da (fun hh=>hh h)]
theorem Ra {k:Nat}{n:PN}(hi:NI k n){v:Int}(hv:n.pmd < v)(hb:v≤big):Jw n v=true∧∃st,Fl n v={n with pmd:=v,lds:=false,std:=false,st:=st}∧WSt (k+1) st∧RLd st∧st.d.armed=0∧Bf st.all (0,0,[])=some (v,n.normal,n.log):=by
 have hp:=hi.nv.p
 have hN:NV {n with pmd:=v,lds:=false,std:=false}:=⟨⟨hp.1,by show n.normal≤v;omega,hb⟩,hi.nv.log,hi.nv.top⟩
 have hz:=(H1 (k:=1) (a:=v) (b:=0) (s:=eS) (by omega) (by omega) (by decide) (by decide)).1
 have e0:eS.size=0:=rfl
 obtain⟨q1,q2,q3,q4⟩:=Qy (n:={n with pmd:=v,lds:=false,std:=false}) (r:=Cp 1 v 0 eS) hi.sl.ws hi.sl.rl hi.sl.kk hi.arm hN (by omega) (by
  show Bf (n.st.all++[Cp 1 v 0 eS]) (0,0,[])=some (v,n.normal,n.log)
  rw[Ls,hi.sl.ld]
  show Db (n.pmd,n.normal,n.log) (Cp 1 v 0 eS)=_
  rw[Z88 (by omega)])
 have q5:=(Jn (n:={n with pmd:=v,lds:=false,std:=false}) hi.sl.ws (Cp 1 v 0 eS) q1).1
 exact⟨q1,_,Nc q1,q5,q2,q3,q4⟩
theorem U8 {k:Nat}{n:PN}{r:RN}(h:Sim n r)(hi:NI k n)(hk:k+2≤900000000)(v:Int):(Cn n v).2=(D7 r v).2∧Sim (Cn n v).1 (D7 r v).1∧NI (k+2) (Cn n v).1:=by
 have up:NI (k+2) n:=⟨⟨hi.sl.ws.up (by omega),hi.sl.rl,hk,hi.sl.ld⟩,hi.arm,hi.nv,hi.dead,hi.self,hi.m7,hi.com,hi.ld,hi.st,hi.jn,hi.jl⟩
 obtain⟨rs,rm,rp,rn,rl,rc,rph,rj,ra,rf,rh,ro⟩:=r
 obtain rfl:rs=n.self:=h.self
 obtain rfl:rm=n.many:=h.many
 obtain rfl:rp=n.pmd:=h.pmd
 obtain rfl:rn=n.normal:=h.normal
 obtain rfl:rl=n.log:=h.log
 obtain rfl:rc=n.cmt:=h.cmt
 obtain rfl:ro=n.out:=h.out
 unfold Cn D7
 dsimp only
 by_cases hc:v≤n.pmd∨A9 v n.many≠n.self
 ·rw[db (.inr hc),db hc]
  exact⟨rfl,h,up⟩
 ·rw[da (by rw[hi.dead];rintro(h | h);cases h;exact hc h),da hc]
  have hv1:n.pmd < v:=by omega
  have hpr:A9 v n.many=n.self:=bx fun hh=>hc (.inr hh)
  have hvb:v≤big:=by
   unfold A9 at hpr
   split at hpr
   ·next hh=>exact hh.2.2
   ·omega
  have hp:=hi.nv.p
  obtain⟨q1,st,q2,q3,q4,q5,q6⟩:=Ra hi hv1 hvb
  rw[db q1,q2]
  have hS:Sim {n with pmd:=v,lds:=true,std:=false,st:=st,jns:=fun i=>if i=n.self then⟨true,n.normal,n.log⟩ else j0} ⟨n.self,n.many,v,n.normal,n.log,n.cmt,1,[⟨n.self,n.normal,A4 n.log,n.log⟩],ra,rf,rh,n.out⟩:=by
   refine⟨rfl,rfl,rfl,rfl,rfl,rfl,rfl,?_,fun _ _=>?_,fun _ hh=>(by cases hh)⟩
   ·show(1:Int)=if true=true then(if false=true then 2 else 1) else 0
    rw[db rfl,da (by decide)]
   ·show [(⟨n.self,n.normal,A4 n.log,n.log⟩:RJn)]=jrL (fun i=>if i=n.self then⟨true,n.normal,n.log⟩ else j0) n.many
    unfold jrL
    have e:(List.range n.many).filter (fun i=>(if i=n.self then(⟨true,n.normal,n.log⟩:RJ) else j0).is)=[n.self]:=by
     have hself:=hi.self
     have key:∀m,(List.range m).filter (fun i=>(if i=n.self then(⟨true,n.normal,n.log⟩:RJ) else j0).is)=if n.self < m then [n.self] else []:=fun m=>by
      induction m with
      | zero=>rfl
      | succ m ih =>
       rw[List.range_succ,List.filter_append,ih]
       by_cases hm:m=n.self
       ·rw[List.filter_cons_of_pos (by rw[db hm]),da (by omega),db (by omega),hm];rfl
       ·rw[List.filter_cons_of_neg (by rw[da hm];decide)]
        by_cases hlt:n.self < m
        ·rw[db hlt,db (by omega)];rfl
        ·rw[da hlt,da (by omega)];rfl
     rw[key,db hself]
    rw[e]
    dsimp only[List.map]
    rw[db rfl]
  have hN:NI (k+1) {n with pmd:=v,lds:=true,std:=false,st:=st,jns:=fun i=>if i=n.self then⟨true,n.normal,n.log⟩ else j0}:=by
   refine⟨⟨q3,q4,by omega,q6⟩,q5,⟨⟨hp.1,by show n.normal≤v;omega,hvb⟩,hi.nv.log,hi.nv.top⟩,hi.dead,hi.self,hi.m7,hi.com,fun _=>⟨hpr,by show 1≤v;omega⟩,fun hh=>(by cases hh),fun _ _=>⟨by show n.normal < v;omega,fun i hii=>?_⟩,fun i=>?_⟩
   ·dsimp only at hii⊢
    split
    ·exact⟨⟨hp.1,by show n.normal < v;omega⟩,hi.nv.log,hi.nv.top⟩
    ·next hne=>rw[da hne] at hii;cases hii
   ·dsimp only
    split
    ·exact hi.nv.ents.1
    ·exact ah _
  have hm:=Z2z (v:=v) (by omega)
  have h1:=hS.spread hm
  have hss:=A2 {n with pmd:=v,lds:=true,std:=false,st:=st,jns:=fun i=>if i=n.self then⟨true,n.normal,n.log⟩ else j0} ⟨1,v,0,0,[]⟩
  have h2:=hN.same hss
  obtain⟨o,e⟩:=hss.to
  obtain⟨r1,r2⟩:=Qc h1 h2 (by omega) (by rw[e]) (by rw[e])
  exact⟨rfl,r1,r2⟩
end Go.Proofs.YtihfaocdpmmooaaGreat

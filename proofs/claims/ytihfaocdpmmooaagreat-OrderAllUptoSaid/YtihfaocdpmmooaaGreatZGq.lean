
import Derived.Test.YtihfaocdpmmooaaGreatGM2
import Derived.Test.YtihfaocdpmmooaaGreatSMN
namespace Go.Proofs.YtihfaocdpmmooaaGreat
structure GI (k m:Nat)(l:List GM):Prop where
 len:l.length=m
 m7:m≤7
 ok:∀(i:Nat) (x:GM),l[i]?=some x→MOk k x∧x.n.self=i∧x.n.many=m
def Still (l:List GM):Prop:=∀(i:Nat) (x:GM),l[i]?=some x→x.r.out=[]
def G9:Nat→List RN→List RPk→List RN × List RPk
 | 0,l,w=>(l,w)
 | _+1,l,[]=>(l,[])
 | f+1,l,p::w=>if 0≤p.to∧p.to < l.length then
   G9 f (l.set p.to.toNat (Tt (Dk (l[p.to.toNat]?.getD (Hy 0 0)) p))) (Cw w (Dk (l[p.to.toNat]?.getD (Hy 0 0)) p).out)
  else G9 f l w
theorem MOk.out {k:Nat}{x:GM}(h:MOk k x):MOk k (Jq x) :=
 ⟨⟨h.sim.self,h.sim.many,h.sim.pmd,h.sim.normal,h.sim.log,h.sim.cmt,rfl,h.sim.phase,h.sim.jns,h.sim.aks⟩,h.ni.snd [],h.nj,⟨h.sh.b,h.sh.a⟩⟩
theorem GI.set {k m:Nat}{l:List GM}{i:Nat}{x y:GM}(h:GI k m l)(hx:l[i]?=some x)(hy:MOk k y)(h1:y.n.self=x.n.self)(h2:y.n.many=x.n.many):GI k m (l.set i y):=by
 refine⟨by rw[bf];exact h.len,h.m7,fun j z hz=>?_⟩
 rw[ck] at hz
 split at hz
 ·next e =>
  subst e
  split at hz
  ·cases hz
   have:=h.ok i x hx
   exact⟨hy,h1.trans this.2.1,h2.trans this.2.2⟩
  ·cases hz
 ·exact h.ok j z hz
theorem GI.up {k j m:Nat}{l:List GM}(h:GI k m l)(hj:k≤j)(hb:j≤900000000):GI j m l :=
 ⟨h.len,h.m7,fun i x hx=>by obtain⟨a,b,c⟩:=h.ok i x hx;exact⟨⟨a.sim,a.ni.up hj hb,a.nj,a.sh⟩,b,c⟩⟩
theorem Still.set {l:List GM}{i:Nat}{y:GM}(h:∀(j:Nat) (z:GM),l[j]?=some z→j≠i→z.r.out=[])(hy:y.r.out=[]):Still (l.set i y):=fun j z hz=>by
 rw[ck] at hz
 split at hz
 ·split at hz
  ·cases hz;exact hy
  ·cases hz
 ·next e=>exact h j z hz (fun e2=>e e2.symm)
theorem Li (l:List GM)(i:Nat)(y:GM):(l.set i y).map GM.r=(l.map GM.r).set i y.r:=List.map_set
theorem Um {l:List GM}{i:Nat}{x:GM}(h:l[i]?=some x)(d:RN):(l.map GM.r)[i]?.getD d=x.r:=by rw[aj,h];rfl
def Hj (x:GM)(s:Bool)(p:RPk):GM:=⟨s,El x.n p,x.b,x.e,Dk x.r p⟩
theorem MOk.take {k:Nat}{x:GM}(h:MOk k x)(hk:k+150≤900000000){s:Bool}(p:RPk)(hs:ShN s (El x.n p)):MOk (k+150) (Hj x s p):=by
 obtain⟨a,b⟩:=Z5u h.sim h.ni hk h.nj p
 exact⟨a,b,Zbn h.nj p,hs⟩
theorem Sim.selfN {n:PN}{r:RN}(h:Sim n r){i m:Nat}(h1:r.self=(i:Int))(h2:r.many=(m:Int)):n.self=i∧n.many=m:=by
 have:=h.self
 have:=h.many
 omega
theorem Lx (r:RN)(p:RPk):(Dk r p).self=r.self∧(Dk r p).many=r.many:=by
 have spr:∀(n:RN) (k:Nat) (f:RN→Nat→RN),(∀n i,(f n i).self=n.self∧(f n i).many=n.many)→(Lk f n k).self=n.self∧(Lk f n k).many=n.many:=fun n k f hf=>by
  induction k with
  | zero=>exact⟨rfl,rfl⟩
  | succ k ih =>
   rw[Cx]
   split
   ·exact ih
   ·exact⟨(hf _ _).1.trans ih.1,(hf _ _).2.trans ih.2⟩
 have spd:∀(n:RN) (m:RM),(Aq n m).self=n.self∧(Aq n m).many=n.many:=fun n m=>spr n _ _ fun n i=>⟨rfl,rfl⟩
 have lk:∀n:RN,(Cc n).self=n.self∧(Cc n).many=n.many:=fun n=>by
  unfold Cc
  split
  ·exact spd {n with cmt:=Bb n.aks} _
  ·exact⟨rfl,rfl⟩
 have bg:∀n:RN,(Cf n).self=n.self∧(Cf n).many=n.many:=fun n=>by
  unfold Cf
  split
  ·exact⟨rfl,rfl⟩
  ·have h1:=lk (Aq (Ef n (G8 n)) ⟨3,n.pmd,0,0,G8 n⟩)
   have h2:=spd (Ef n (G8 n)) ⟨3,n.pmd,0,0,G8 n⟩
   exact⟨h1.1.trans h2.1,h1.2.trans h2.2⟩
 have pt:∀(l:List REnt) (n:RN),(Du l n).self=n.self∧(Du l n).many=n.many:=fun l=>by
  induction l with
  | nil=>exact fun n=>⟨rfl,rfl⟩
  | cons e l ih =>
   intro n
   unfold Du
   split
   ·exact⟨rfl,rfl⟩
   ·split
    ·exact ih (My n e)
    ·exact ih n
 unfold Dk
 generalize mD p.body.data.toList=m
 split
 ·exact⟨rfl,rfl⟩
 split
 ·unfold Bj
  split
  ·exact⟨rfl,rfl⟩
  ·exact bg (Em r _)
 split
 ·unfold By
  have h1:(Gz r p.frm m).self=r.self∧(Gz r p.frm m).many=r.many:=lk (Bc {r with hrd:=r.hrd++[p.frm]} p.frm m.num)
  split
  ·exact⟨rfl,rfl⟩
  ·split
   ·exact h1
   ·exact h1
 split
 ·exact⟨rfl,rfl⟩
 split
 ·unfold Bu Fw
  split<;>split<;>exact⟨rfl,rfl⟩
 split
 ·unfold B2 Ce
  split<;>split<;>exact⟨rfl,rfl⟩
 split
 ·unfold Cl
  split
  ·exact⟨rfl,rfl⟩
  ·exact pt m.l r
 split
 ·exact⟨rfl,rfl⟩
 ·exact⟨rfl,rfl⟩
end Go.Proofs.YtihfaocdpmmooaaGreat

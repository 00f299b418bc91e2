
import Derived.Test.YtihfaocdpmmooaaGreatGM2
import Derived.Test.YtihfaocdpmmooaaGreatSMN
namespace Go.Proofs.YtihfaocdpmmooaaGreat
structure GI (k m:Nat)(l:List GM):Prop where
 len:l.length=m
 m7:m≤7
 ok:∀(i:Nat) (x:GM),l[i]?=some x→MOk k x∧x.n.self=i∧x.n.many=m
def Still (l:List GM):Prop:=∀(i:Nat) (x:GM),l[i]?=some x→x.r.out=[]
def Fk:Nat→List RN→List RPk→List RN × List RPk
 | 0,l,w=>(l,w)
 | _+1,l,[]=>(l,[])
 | f+1,l,p::w=>if 0≤p.to∧p.to < l.length then
   Fk f (l.set p.to.toNat (Z2f (Ee (l[p.to.toNat]?.getD (Gp 0 0)) p))) (Cq w (Ee (l[p.to.toNat]?.getD (Gp 0 0)) p).out)
  else Fk f l w
theorem MOk.out {k:Nat}{x:GM}(h:MOk k x):MOk k (M2 x) :=
 ⟨⟨h.sim.self,h.sim.many,h.sim.pmd,h.sim.normal,h.sim.log,h.sim.cmt,rfl,h.sim.phase,h.sim.jns,h.sim.aks⟩,h.ni.snd [],h.nj,⟨h.sh.b,h.sh.a⟩⟩
theorem GI.set {k m:Nat}{l:List GM}{i:Nat}{x y:GM}(h:GI k m l)(hx:l[i]?=some x)(hy:MOk k y)(h1:y.n.self=x.n.self)(h2:y.n.many=x.n.many):GI k m (l.set i y):=by
 refine⟨by rw[List.length_set];exact h.len,h.m7,fun j z hz=>?_⟩
 rw[List.getElem?_set] at hz
 split at hz
 ·next e =>
  subst e
  split at hz
  ·cases hz
   have:=h.ok i x hx
   exact⟨hy,h1.trans this.2.1,h2.trans this.2.2⟩
  ·cases hz
 ·exact h.ok j z hz
theorem GI.up {k j m:Nat}{l:List GM}(h:GI k m l)(hj:k≤j)(hb:j≤900000000):GI j m l :=
 ⟨h.len,h.m7,fun i x hx=>by obtain⟨a,b,c⟩:=h.ok i x hx;exact⟨⟨a.sim,a.ni.up hj hb,a.nj,a.sh⟩,b,c⟩⟩
theorem Still.set {l:List GM}{i:Nat}{y:GM}(h:∀(j:Nat) (z:GM),l[j]?=some z→j≠i→z.r.out=[])(hy:y.r.out=[]):Still (l.set i y):=fun j z hz=>by
 rw[List.getElem?_set] at hz
 split at hz
 ·split at hz
  ·cases hz;exact hy
  ·cases hz
 ·next e=>exact h j z hz (fun e2=>e e2.symm)
theorem Eu (l:List GM)(i:Nat)(y:GM):(l.set i y).map GM.r=(l.map GM.r).set i y.r:=List.map_set
theorem Fh {l:List GM}{i:Nat}{x:GM}(h:l[i]?=some x)(d:RN):(l.map GM.r)[i]?.getD d=x.r:=by rw[List.getElem?_map,h];rfl
def Gt (x:GM)(s:Bool)(p:RPk):GM:=⟨s,D9 x.n p,x.b,x.e,Ee x.r p⟩
theorem MOk.take {k:Nat}{x:GM}(h:MOk k x)(hk:k+150≤900000000){s:Bool}(p:RPk)(hs:ShN s (D9 x.n p)):MOk (k+150) (Gt x s p):=by
 obtain⟨a,b⟩:=Z3o h.sim h.ni hk h.nj p
 exact⟨a,b,Z88 h.nj p,hs⟩
theorem Sim.selfN {n:PN}{r:RN}(h:Sim n r){i m:Nat}(h1:r.self=(i:Int))(h2:r.many=(m:Int)):n.self=i∧n.many=m:=by
 have:=h.self
 have:=h.many
 omega
theorem Im (r:RN)(p:RPk):(Ee r p).self=r.self∧(Ee r p).many=r.many:=by
 have spr:∀(n:RN) (k:Nat) (f:RN→Nat→RN),(∀n i,(f n i).self=n.self∧(f n i).many=n.many)→(P5 f n k).self=n.self∧(P5 f n k).many=n.many:=fun n k f hf=>by
  induction k with
  | zero=>exact⟨rfl,rfl⟩
  | succ k ih =>
   rw[Ew]
   split
   ·exact ih
   ·exact⟨(hf _ _).1.trans ih.1,(hf _ _).2.trans ih.2⟩
 have spd:∀(n:RN) (m:RM),(Bn n m).self=n.self∧(Bn n m).many=n.many:=fun n m=>spr n _ _ fun n i=>⟨rfl,rfl⟩
 have lk:∀n:RN,(Du n).self=n.self∧(Du n).many=n.many:=fun n=>by
  unfold Du
  split
  ·exact spd {n with cmt:=Bw n.aks} _
  ·exact⟨rfl,rfl⟩
 have bg:∀n:RN,(Ek n).self=n.self∧(Ek n).many=n.many:=fun n=>by
  unfold Ek
  split
  ·exact⟨rfl,rfl⟩
  ·have h1:=lk (Bn (Lo n (Ik n)) ⟨3,n.pmd,0,0,Ik n⟩)
   have h2:=spd (Lo n (Ik n)) ⟨3,n.pmd,0,0,Ik n⟩
   exact⟨h1.1.trans h2.1,h1.2.trans h2.2⟩
 have pt:∀(l:List REnt) (n:RN),(I7 l n).self=n.self∧(I7 l n).many=n.many:=fun l=>by
  induction l with
  | nil=>exact fun n=>⟨rfl,rfl⟩
  | cons e l ih =>
   intro n
   unfold I7
   split
   ·exact⟨rfl,rfl⟩
   ·split
    ·exact ih (Z5m n e)
    ·exact ih n
 unfold Ee
 generalize mD p.body.data.toList=m
 split
 ·exact⟨rfl,rfl⟩
 split
 ·unfold Dj
  split
  ·exact⟨rfl,rfl⟩
  ·exact bg (Ot r _)
 split
 ·unfold Dx
  have h1:(O2 r p.frm m).self=r.self∧(O2 r p.frm m).many=r.many:=lk (Dq {r with hrd:=r.hrd++[p.frm]} p.frm m.num)
  split
  ·exact⟨rfl,rfl⟩
  ·split
   ·exact h1
   ·exact h1
 split
 ·exact⟨rfl,rfl⟩
 split
 ·unfold Gg Jd
  split<;>split<;>exact⟨rfl,rfl⟩
 split
 ·unfold E1 E9
  split<;>split<;>exact⟨rfl,rfl⟩
 split
 ·unfold Gf
  split
  ·exact⟨rfl,rfl⟩
  ·exact pt m.l r
 split
 ·exact⟨rfl,rfl⟩
 ·exact⟨rfl,rfl⟩
end Go.Proofs.YtihfaocdpmmooaaGreat

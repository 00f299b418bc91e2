
import Derived.Test.YtihfaocdpmmooaaGreatGM2
import Derived.Test.YtihfaocdpmmooaaGreatSMN
namespace Go.Proofs.YtihfaocdpmmooaaGreat
structure GI (k m:Nat)(l:List GM):Prop where
 len:l.length=m
 m7:m≤7
 ok:∀(i:Nat) (x:GM),l[i]?=some x→MOk k x∧x.n.self=i∧x.n.many=m
def Still (l:List GM):Prop:=∀(i:Nat) (x:GM),l[i]?=some x→x.r.out=[]
def Gt:Nat→List RN→List RPk→List RN × List RPk
 | 0,l,w=>(l,w)
 | _+1,l,[]=>(l,[])
 | f+1,l,p::w=>if 0≤p.to∧p.to < l.length then
   Gt f (l.set p.to.toNat (K9 (Dw (l[p.to.toNat]?.getD (J1 0 0)) p))) (De w (Dw (l[p.to.toNat]?.getD (J1 0 0)) p).out)
  else Gt f l w
theorem MOk.out {k:Nat}{x:GM}(h:MOk k x):MOk k (Hh x) :=
 ⟨⟨h.sim.self,h.sim.many,h.sim.pmd,h.sim.normal,h.sim.log,h.sim.cmt,rfl,h.sim.phase,h.sim.jns,h.sim.aks⟩,h.ni.snd [],h.nj,⟨h.sh.b,h.sh.a⟩⟩
theorem GI.set {k m:Nat}{l:List GM}{i:Nat}{x y:GM}(h:GI k m l)(d:l[i]?=some x)(hy:MOk k y)(c:y.n.self=x.n.self)(b:y.n.many=x.n.many):GI k m (l.set i y):=by
 refine⟨by rw[bh];exact h.len,h.m7,fun j z a=>?_⟩;rw[cn] at a;split at a
 ·next e =>
  subst e;split at a
  ·cases a;have:=h.ok i x d;exact⟨hy,c.trans this.2.1,b.trans this.2.2⟩
  ·cases a
 ·exact h.ok j z a
theorem GI.up {k j m:Nat}{l:List GM}(h:GI k m l)(e:k≤j)(d:j≤900000000):GI j m l :=
 ⟨h.len,h.m7,fun i x f=>by obtain⟨a,b,c⟩:=h.ok i x f;exact⟨⟨a.sim,a.ni.up e d,a.nj,a.sh⟩,b,c⟩⟩
theorem Still.set {l:List GM}{i:Nat}{y:GM}(h:∀(j:Nat) (z:GM),l[j]?=some z→j≠i→z.r.out=[])(hy:y.r.out=[]):Still (l.set i y):=fun j z a=>by
 rw[cn] at a;split at a
 ·split at a
  ·cases a;exact hy
  ·cases a
 ·next e=>exact h j z a (fun b=>e b.symm)
theorem Jx (l:List GM)(i:Nat)(y:GM):(l.set i y).map GM.r=(l.map GM.r).set i y.r:=List.map_set
theorem Xw {l:List GM}{i:Nat}{x:GM}(h:l[i]?=some x)(d:RN):(l.map GM.r)[i]?.getD d=x.r:=by rw[aj,h];rfl
def Ia (x:GM)(s:Bool)(p:RPk):GM:=⟨s,Dd x.n p,x.b,x.e,Dw x.r p⟩
theorem MOk.take {k:Nat}{x:GM}(h:MOk k x)(c:k+150≤900000000){s:Bool}(p:RPk)(d:ShN s (Dd x.n p)):MOk (k+150) (Ia x s p):=by obtain⟨a,b⟩:=Xs h.sim h.ni c h.nj p;exact⟨a,b,Z34 h.nj p,d⟩
theorem Sim.selfN {n:PN}{r:RN}(h:Sim n r){i m:Nat}(a:r.self=(i:Int))(b:r.many=(m:Int)):n.self=i∧n.many=m:=by have:=h.self;have:=h.many;omega
theorem Me (r:RN)(p:RPk):(Dw r p).self=r.self∧(Dw r p).many=r.many:=by
 have c:∀(n:RN) (k:Nat) (f:RN→Nat→RN),(∀n i,(f n i).self=n.self∧(f n i).many=n.many)→(Ma f n k).self=n.self∧(Ma f n k).many=n.many:=fun n k f hf=>by
  induction k with
  | zero=>exact⟨rfl,rfl⟩
  | succ k ih =>
   rw[Dh];split
   ·exact ih
   ·exact⟨(hf _ _).1.trans ih.1,(hf _ _).2.trans ih.2⟩
 have b:∀(n:RN) (m:RM),(Au n m).self=n.self∧(Au n m).many=n.many:=fun n m=>c n _ _ fun n i=>⟨rfl,rfl⟩;have d:∀n:RN,(Ck n).self=n.self∧(Ck n).many=n.many:=fun n=>by
  unfold Ck;split
  ·exact b {n with cmt:=Bi n.aks} _
  ·exact⟨rfl,rfl⟩
 have h:∀n:RN,(Cf n).self=n.self∧(Cf n).many=n.many:=fun n=>by
  unfold Cf;split
  ·exact⟨rfl,rfl⟩
  ·have a:=d (Au (E5 n (Gl n)) ⟨3,n.pmd,0,0,Gl n⟩);have g:=b (E5 n (Gl n)) ⟨3,n.pmd,0,0,Gl n⟩;exact⟨a.1.trans g.1,a.2.trans g.2⟩
 have j:∀(l:List REnt) (n:RN),(Cm l n).self=n.self∧(Cm l n).many=n.many:=fun l=>by
  induction l with
  | nil=>exact fun n=>⟨rfl,rfl⟩
  | cons e l ih =>
   intro n;unfold Cm;split
   ·exact⟨rfl,rfl⟩
   ·split
    ·exact ih (J9 n e)
    ·exact ih n
 unfold Dw;generalize mD p.body.data.toList=m;split
 ·exact⟨rfl,rfl⟩
 split
 ·unfold Bn;split
  ·exact⟨rfl,rfl⟩
  ·exact h (Em r _)
 split
 ·unfold C5;have a:(H7 r p.frm m).self=r.self∧(H7 r p.frm m).many=r.many:=d (Bp {r with hrd:=r.hrd++[p.frm]} p.frm m.num);split
  ·exact⟨rfl,rfl⟩
  ·split
   ·exact a
   ·exact a
 split
 ·exact⟨rfl,rfl⟩
 split
 ·unfold Bh Fw;split<;>split<;>exact⟨rfl,rfl⟩
 split
 ·unfold Ax Cg;split<;>split<;>exact⟨rfl,rfl⟩
 split
 ·unfold Ca;split
  ·exact⟨rfl,rfl⟩
  ·exact j m.l r
 split
 ·exact⟨rfl,rfl⟩
 ·exact⟨rfl,rfl⟩
end Go.Proofs.YtihfaocdpmmooaaGreat

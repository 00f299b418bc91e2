
import Derived.Test.YtihfaocdpmmooaaGreatRows
import Derived.WalkKit
import Derived.WalkSpells
import Derived.WalkLawsBesides
import Derived.Lib.Hide
import Derived.Laws.StructEq
import Derived.Deep.QuietTactic
import Derived.BigQuiet
namespace Go.Proofs.YtihfaocdpmmooaaGreat
open Go.RowKit
theorem M1 (a:Addr)(n:Nat):(a.add n).block=a.block:=by unfold Addr.add;split<;>rfl
theorem Ww (a:Addr)(i j:Nat):(a.add i).add j=a.add (i+j):=by
 unfold Addr.add
 by_cases hi:i=0<;>by_cases hj:j=0<;>simp[hi,hj,Nat.add_assoc]
def Rd {α:Type}(w:World)(B sz:Nat)(f:α→List Value)(A:Option Addr)(l:List α):Prop :=
 ∀(i:Nat) (x:α),l[i]?=some x→∃a,A=some a∧a.block < B∧∀(j:Nat) (v:Value),(f x)[j]?=some v→w.cell? ((a.add (i * sz)).add j)=some v
section
variable {α:Type} {w w':World} {B B' sz:Nat} {f:α→List Value} {A:Option Addr} {a:Addr} {l:List α}
theorem Rd.nil (w:World)(B sz:Nat)(f:α→List Value)(A:Option Addr):Rd w B sz f A []:=fun i x h=>by simp at h
theorem Rd.keep (h:Rd w B sz f A l)(hk:∀p:Addr,p.block < B→w'.cell? p=w.cell? p):Rd w' B sz f A l:=fun i x hx=>by
 obtain⟨a,e,hb,hc⟩:=h i x hx
 exact⟨a,e,hb,fun j v hv=>(hk _ (by rw[M1,M1];exact hb)).trans (hc j v hv)⟩
theorem Rd.more (h:Rd w B sz f A l)(hB:B≤B'):Rd w B' sz f A l:=fun i x hx=>by
 obtain⟨a,e,hb,hc⟩:=h i x hx
 exact⟨a,e,Nat.lt_of_lt_of_le hb hB,hc⟩
theorem Rd.below (h:Rd w B sz f A l)(hb:Below B w w'):Rd w' B sz f A l:=h.keep fun _ hp=>hb.cell hp
theorem Rd.drew (h:Rd w B sz f A l):Rd w.drew B sz f A l:=h
theorem Rd.alloc (h:Rd w B sz f A l)(hB:B≤w.heap.size)(o:Obj):Rd (w.alloc o) B sz f A l:=h.keep fun p hp=>World.cell?_alloc_lt w o p (by omega)
theorem Rd.take (h:Rd w B sz f A l)(n:Nat):Rd w B sz f A (l.take n):=fun i x hx=>h i x (by
 rw[List.getElem?_take] at hx
 split at hx
 ·exact hx
 ·cases hx)
theorem Rd.addr (h:Rd w B sz f A l){i:Nat}(hi:i < l.length):∃a,A=some a∧a.block < B:=by
 obtain⟨a,e,hb,_⟩:=h i l[i] (List.getElem?_eq_getElem hi)
 exact⟨a,e,hb⟩
theorem Rd.cell (h:Rd w B sz f (some a) l){i:Nat}(hi:i < l.length){j:Nat}{v:Value}(hv:(f l[i])[j]?=some v):w.cell? ((a.add (i * sz)).add j)=some v:=by
 obtain⟨a',e,hb,hc⟩:=h i l[i] (List.getElem?_eq_getElem hi)
 injection e with e
 subst e
 exact hc j v hv
theorem Rd.lt (h:Rd w B sz f (some a) l){i:Nat}(hi:i < l.length):a.block < B:=by
 obtain⟨a',e,hb,_⟩:=h i l[i] (List.getElem?_eq_getElem hi)
 injection e with e
 subst e
 exact hb
end
theorem Y9 {w:World}{g:Nat}{cs:Array Value}{t:TypeId}{fr:Nat × Nat}(hg:w.heap[g]?=some (.cells cs t fr))(i:Nat):w.cell? ⟨g,i,none⟩=cs[i]?:=by
 simp[World.cell?,hg]
theorem D7 {k:IntKind}{a b:Int}(h:a=b):Ending.returned (.int k a)=.returned (.int k b):=by rw[h]
theorem Gu {a b:Bool}(h:a=b):Ending.returned (.bool a)=.returned (.bool b):=by rw[h]
theorem RL1 {α β γ:Type}{a0:α}{b0:β}{c0:γ}:a0=a0∧b0=b0∧c0=c0:=⟨rfl,rfl,rfl⟩
theorem RL2 {α β γ:Type}{a0 a1:α}{b0 b1:β}{c0 c1:γ}:(a0=a0∧b0=b0∧c0=c0)∧(a1=a1∧b1=b1∧c1=c1)∧True:=⟨⟨rfl,rfl,rfl⟩,⟨rfl,rfl,rfl⟩,trivial⟩
theorem RL3 {α β γ:Type}{a0 a1 a2:α}{b0 b1 b2:β}{c0 c1 c2:γ}:(a0=a0∧b0=b0∧c0=c0)∧(a1=a1∧b1=b1∧c1=c1)∧(a2=a2∧b2=b2∧c2=c2)∧True:=⟨⟨rfl,rfl,rfl⟩,⟨rfl,rfl,rfl⟩,⟨rfl,rfl,rfl⟩,trivial⟩
theorem RL4 {α β γ:Type}{a0 a1 a2 a3:α}{b0 b1 b2 b3:β}{c0 c1 c2 c3:γ}:(a0=a0∧b0=b0∧c0=c0)∧(a1=a1∧b1=b1∧c1=c1)∧(a2=a2∧b2=b2∧c2=c2)∧(a3=a3∧b3=b3∧c3=c3)∧True:=⟨⟨rfl,rfl,rfl⟩,⟨rfl,rfl,rfl⟩,⟨rfl,rfl,rfl⟩,⟨rfl,rfl,rfl⟩,trivial⟩
theorem RL5 {α β γ:Type}{a0 a1 a2 a3 a4:α}{b0 b1 b2 b3 b4:β}{c0 c1 c2 c3 c4:γ}:(a0=a0∧b0=b0∧c0=c0)∧(a1=a1∧b1=b1∧c1=c1)∧(a2=a2∧b2=b2∧c2=c2)∧(a3=a3∧b3=b3∧c3=c3)∧(a4=a4∧b4=b4∧c4=c4)∧True:=⟨⟨rfl,rfl,rfl⟩,⟨rfl,rfl,rfl⟩,⟨rfl,rfl,rfl⟩,⟨rfl,rfl,rfl⟩,⟨rfl,rfl,rfl⟩,trivial⟩
theorem RL6 {α β γ:Type}{a0 a1 a2 a3 a4 a5:α}{b0 b1 b2 b3 b4 b5:β}{c0 c1 c2 c3 c4 c5:γ}:(a0=a0∧b0=b0∧c0=c0)∧(a1=a1∧b1=b1∧c1=c1)∧(a2=a2∧b2=b2∧c2=c2)∧(a3=a3∧b3=b3∧c3=c3)∧(a4=a4∧b4=b4∧c4=c4)∧(a5=a5∧b5=b5∧c5=c5)∧True:=⟨⟨rfl,rfl,rfl⟩,⟨rfl,rfl,rfl⟩,⟨rfl,rfl,rfl⟩,⟨rfl,rfl,rfl⟩,⟨rfl,rfl,rfl⟩,⟨rfl,rfl,rfl⟩,trivial⟩
theorem RL7 {α β γ:Type}{a0 a1 a2 a3 a4 a5 a6:α}{b0 b1 b2 b3 b4 b5 b6:β}{c0 c1 c2 c3 c4 c5 c6:γ}:(a0=a0∧b0=b0∧c0=c0)∧(a1=a1∧b1=b1∧c1=c1)∧(a2=a2∧b2=b2∧c2=c2)∧(a3=a3∧b3=b3∧c3=c3)∧(a4=a4∧b4=b4∧c4=c4)∧(a5=a5∧b5=b5∧c5=c5)∧(a6=a6∧b6=b6∧c6=c6)∧True:=⟨⟨rfl,rfl,rfl⟩,⟨rfl,rfl,rfl⟩,⟨rfl,rfl,rfl⟩,⟨rfl,rfl,rfl⟩,⟨rfl,rfl,rfl⟩,⟨rfl,rfl,rfl⟩,⟨rfl,rfl,rfl⟩,trivial⟩
end Go.Proofs.YtihfaocdpmmooaaGreat

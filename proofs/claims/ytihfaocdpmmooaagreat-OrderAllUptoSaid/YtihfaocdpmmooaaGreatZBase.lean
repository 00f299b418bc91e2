
import Derived.Test.YtihfaocdpmmooaaGreatRows
import Derived.WalkKit
import Derived.WalkSpells
import Derived.WalkLawsBesides
import Derived.Lib.Hide
import Derived.Laws.StructEq
import Derived.Deep.QuietTactic
import Derived.BigQuiet
namespace Go.Proofs.YtihfaocdpmmooaaGreat
open Go.RowKit
theorem Mc (a:Addr)(n:Nat):(a.add n).block=a.block:=by unfold Addr.add;split<;>rfl
theorem Wr (a:Addr)(i j:Nat):(a.add i).add j=a.add (i+j):=by
 unfold Addr.add
 by_cases hi:i=0<;>by_cases hj:j=0<;>simp[hi,hj,Nat.add_assoc]
def Rd {α:Type}(w:World)(B sz:Nat)(f:α→List Value)(A:Option Addr)(l:List α):Prop :=
 ∀(i:Nat) (x:α),l[i]?=some x→∃a,A=some a∧a.block < B∧∀(j:Nat) (v:Value),(f x)[j]?=some v→w.cell? ((a.add (i * sz)).add j)=some v
section
variable {α:Type} {w w':World} {B B' sz:Nat} {f:α→List Value} {A:Option Addr} {a:Addr} {l:List α}
theorem Rd.nil (w:World)(B sz:Nat)(f:α→List Value)(A:Option Addr):Rd w B sz f A []:=fun i x h=>by simp at h
theorem Rd.keep (h:Rd w B sz f A l)(hk:∀p:Addr,p.block < B→w'.cell? p=w.cell? p):Rd w' B sz f A l:=fun i x hx=>by
 obtain⟨a,e,hb,hc⟩:=h i x hx
 exact⟨a,e,hb,fun j v hv=>(hk _ (by rw[Mc,Mc];exact hb)).trans (hc j v hv)⟩
theorem Rd.more (h:Rd w B sz f A l)(hB:B≤B'):Rd w B' sz f A l:=fun i x hx=>by
 obtain⟨a,e,hb,hc⟩:=h i x hx
 exact⟨a,e,Nat.lt_of_lt_of_le hb hB,hc⟩
theorem Rd.below (h:Rd w B sz f A l)(hb:Below B w w'):Rd w' B sz f A l:=h.keep fun _ hp=>hb.cell hp
theorem Rd.drew (h:Rd w B sz f A l):Rd w.drew B sz f A l:=h
theorem Rd.alloc (h:Rd w B sz f A l)(hB:B≤w.heap.size)(o:Obj):Rd (w.alloc o) B sz f A l:=h.keep fun p hp=>World.cell?_alloc_lt w o p (by omega)
theorem Rd.take (h:Rd w B sz f A l)(n:Nat):Rd w B sz f A (l.take n):=fun i x hx=>h i x (by
 rw[List.getElem?_take] at hx
 split at hx
 ·exact hx
 ·cases hx)
theorem Rd.addr (h:Rd w B sz f A l){i:Nat}(hi:i < l.length):∃a,A=some a∧a.block < B:=by
 obtain⟨a,e,hb,_⟩:=h i l[i] (List.getElem?_eq_getElem hi)
 exact⟨a,e,hb⟩
theorem Rd.cell (h:Rd w B sz f (some a) l){i:Nat}(hi:i < l.length){j:Nat}{v:Value}(hv:(f l[i])[j]?=some v):w.cell? ((a.add (i * sz)).add j)=some v:=by
 obtain⟨a',e,hb,hc⟩:=h i l[i] (List.getElem?_eq_getElem hi)
 injection e with e
 subst e
 exact hc j v hv
theorem Rd.lt (h:Rd w B sz f (some a) l){i:Nat}(hi:i < l.length):a.block < B:=by
 obtain⟨a',e,hb,_⟩:=h i l[i] (List.getElem?_eq_getElem hi)
 injection e with e
 subst e
 exact hb
end
theorem Z06 {w:World}{g:Nat}{cs:Array Value}{t:TypeId}{fr:Nat × Nat}(hg:w.heap[g]?=some (.cells cs t fr))(i:Nat):w.cell? ⟨g,i,none⟩=cs[i]?:=by
 simp[World.cell?,hg]
theorem Bq {k:IntKind}{a b:Int}(h:a=b):Ending.returned (.int k a)=.returned (.int k b):=by rw[h]
theorem F1 {a b:Bool}(h:a=b):Ending.returned (.bool a)=.returned (.bool b):=by rw[h]
theorem RL1 {α β γ:Type}{a0:α}{b0:β}{c0:γ}:a0=a0∧b0=b0∧c0=c0:=⟨rfl,rfl,rfl⟩
theorem RL2 {α β γ:Type}{a0 a1:α}{b0 b1:β}{c0 c1:γ}:(a0=a0∧b0=b0∧c0=c0)∧(a1=a1∧b1=b1∧c1=c1)∧True:=⟨⟨rfl,rfl,rfl⟩,⟨rfl,rfl,rfl⟩,trivial⟩
theorem RL3 {α β γ:Type}{a0 a1 a2:α}{b0 b1 b2:β}{c0 c1 c2:γ}:(a0=a0∧b0=b0∧c0=c0)∧(a1=a1∧b1=b1∧c1=c1)∧(a2=a2∧b2=b2∧c2=c2)∧True:=⟨⟨rfl,rfl,rfl⟩,⟨rfl,rfl,rfl⟩,⟨rfl,rfl,rfl⟩,trivial⟩
theorem RL4 {α β γ:Type}{a0 a1 a2 a3:α}{b0 b1 b2 b3:β}{c0 c1 c2 c3:γ}:(a0=a0∧b0=b0∧c0=c0)∧(a1=a1∧b1=b1∧c1=c1)∧(a2=a2∧b2=b2∧c2=c2)∧(a3=a3∧b3=b3∧c3=c3)∧True:=⟨⟨rfl,rfl,rfl⟩,⟨rfl,rfl,rfl⟩,⟨rfl,rfl,rfl⟩,⟨rfl,rfl,rfl⟩,trivial⟩
theorem RL5 {α β γ:Type}{a0 a1 a2 a3 a4:α}{b0 b1 b2 b3 b4:β}{c0 c1 c2 c3 c4:γ}:(a0=a0∧b0=b0∧c0=c0)∧(a1=a1∧b1=b1∧c1=c1)∧(a2=a2∧b2=b2∧c2=c2)∧(a3=a3∧b3=b3∧c3=c3)∧(a4=a4∧b4=b4∧c4=c4)∧True:=⟨⟨rfl,rfl,rfl⟩,⟨rfl,rfl,rfl⟩,⟨rfl,rfl,rfl⟩,⟨rfl,rfl,rfl⟩,⟨rfl,rfl,rfl⟩,trivial⟩
theorem RL6 {α β γ:Type}{a0 a1 a2 a3 a4 a5:α}{b0 b1 b2 b3 b4 b5:β}{c0 c1 c2 c3 c4 c5:γ}:(a0=a0∧b0=b0∧c0=c0)∧(a1=a1∧b1=b1∧c1=c1)∧(a2=a2∧b2=b2∧c2=c2)∧(a3=a3∧b3=b3∧c3=c3)∧(a4=a4∧b4=b4∧c4=c4)∧(a5=a5∧b5=b5∧c5=c5)∧True:=⟨⟨rfl,rfl,rfl⟩,⟨rfl,rfl,rfl⟩,⟨rfl,rfl,rfl⟩,⟨rfl,rfl,rfl⟩,⟨rfl,rfl,rfl⟩,⟨rfl,rfl,rfl⟩,trivial⟩
theorem RL7 {α β γ:Type}{a0 a1 a2 a3 a4 a5 a6:α}{b0 b1 b2 b3 b4 b5 b6:β}{c0 c1 c2 c3 c4 c5 c6:γ}:(a0=a0∧b0=b0∧c0=c0)∧(a1=a1∧b1=b1∧c1=c1)∧(a2=a2∧b2=b2∧c2=c2)∧(a3=a3∧b3=b3∧c3=c3)∧(a4=a4∧b4=b4∧c4=c4)∧(a5=a5∧b5=b5∧c5=c5)∧(a6=a6∧b6=b6∧c6=c6)∧True:=⟨⟨rfl,rfl,rfl⟩,⟨rfl,rfl,rfl⟩,⟨rfl,rfl,rfl⟩,⟨rfl,rfl,rfl⟩,⟨rfl,rfl,rfl⟩,⟨rfl,rfl,rfl⟩,⟨rfl,rfl,rfl⟩,trivial⟩
theorem aa:type_of%@List.length_map:=@List.length_map
theorem ab:type_of%@List.getElem?_eq_getElem:=@List.getElem?_eq_getElem
theorem ac:type_of%@List.getElem?_eq_some_iff:=@List.getElem?_eq_some_iff
theorem ae:type_of%@List.mem_of_getElem?:=@List.mem_of_getElem?
theorem af:type_of%@Nat.le_refl:=@Nat.le_refl
theorem ah:type_of%@Nat.zero_le:=@Nat.zero_le
theorem ai:type_of%@Nat.eq_of_beq_eq_true:=@Nat.eq_of_beq_eq_true
theorem aj:type_of%@List.getElem?_map:=@List.getElem?_map
theorem al:type_of%@List.eq_nil_of_length_eq_zero:=@List.eq_nil_of_length_eq_zero
theorem am:type_of%@List.map_append:=@List.map_append
theorem ao:type_of%@List.take_of_length_le:=@List.take_of_length_le
theorem ap:type_of%@Nat.lt_of_lt_of_le:=@Nat.lt_of_lt_of_le
theorem aq:type_of%@Bool.and_eq_true:=@Bool.and_eq_true
theorem au:type_of%@List.length_take:=@List.length_take
theorem aw:type_of%@List.length_append:=@List.length_append
theorem ax:type_of%@Option.map_eq_some_iff:=@Option.map_eq_some_iff
theorem ay:type_of%@Int.toNat_natCast:=@Int.toNat_natCast
theorem az:type_of%@List.mem_map:=@List.mem_map
theorem ba:type_of%@List.length_drop:=@List.length_drop
theorem bc:type_of%@List.length_cons:=@List.length_cons
theorem bd:type_of%@List.mem_of_mem_take:=@List.mem_of_mem_take
theorem be:type_of%@List.getElem?_append_right:=@List.getElem?_append_right
theorem bf:type_of%@List.length_set:=@List.length_set
theorem bh:type_of%@List.mem_cons:=@List.mem_cons
theorem bi:type_of%@List.getElem?_take:=@List.getElem?_take
theorem bj:type_of%@Int.natCast_nonneg:=@Int.natCast_nonneg
theorem bk:type_of%@List.getElem?_append_left:=@List.getElem?_append_left
theorem bl:type_of%@List.getElem_mem:=@List.getElem_mem
theorem bm:type_of%@List.mem_singleton:=@List.mem_singleton
theorem bo:type_of%@Array.getElem?_eq_some_iff:=@Array.getElem?_eq_some_iff
theorem bp:type_of%@Int.le_refl:=@Int.le_refl
theorem br:type_of%@List.mem_append:=@List.mem_append
theorem bu:type_of%@List.getElem?_drop:=@List.getElem?_drop
theorem bw:type_of%@List.append_assoc:=@List.append_assoc
theorem bx:type_of%@Classical.byContradiction:=@Classical.byContradiction
theorem bz:type_of%@List.mem_of_mem_drop:=@List.mem_of_mem_drop
theorem b7:type_of%@List.flatten_cons:=@List.flatten_cons
theorem b8:type_of%@List.getElem?_eq_none:=@List.getElem?_eq_none
theorem b9:type_of%@Nat.le_trans:=@Nat.le_trans
theorem ca:type_of%@Nat.zero_add:=@Nat.zero_add
theorem cb:type_of%@Array.length_toList:=@Array.length_toList
theorem cd:type_of%@List.getElem?_set_ne:=@List.getElem?_set_ne
theorem ce:type_of%@Nat.min_eq_left:=@Nat.min_eq_left
theorem cf:type_of%@List.mem_iff_getElem:=@List.mem_iff_getElem
theorem cg:type_of%@Option.some.inj:=@Option.some.inj
theorem cj:type_of%@List.map_cons:=@List.map_cons
theorem ck:type_of%@List.getElem?_set:=@List.getElem?_set
theorem cn:type_of%@List.mem_or_eq_of_mem_set:=@List.mem_or_eq_of_mem_set
theorem co:type_of%@List.ext_getElem?:=@List.ext_getElem?
theorem cp:type_of%@List.getElem?_range:=@List.getElem?_range
theorem cq:type_of%@List.eq_of_mem_replicate:=@List.eq_of_mem_replicate
theorem ct:type_of%@Nat.lt_succ_self:=@Nat.lt_succ_self
theorem cu:type_of%@Nat.add_assoc:=@Nat.add_assoc
theorem cv:type_of%@List.map_take:=@List.map_take
theorem cw:type_of%@List.take_append_drop:=@List.take_append_drop
theorem cx:type_of%@List.nil_append:=@List.nil_append
theorem cy:type_of%@List.append_nil:=@List.append_nil
theorem cz:type_of%@List.getElem?_set_self:=@List.getElem?_set_self
theorem c7:type_of%@List.drop_eq_nil_of_le:=@List.drop_eq_nil_of_le
theorem c8:type_of%@List.cons_append:=@List.cons_append
theorem c9:type_of%@Nat.le_of_ble_eq_true:=@Nat.le_of_ble_eq_true
theorem da:type_of%@if_neg:=@if_neg
theorem db:type_of%@if_pos:=@if_pos
theorem dc {a b:Prop}(h:a)(k:¬a):b:=absurd h k
end Go.Proofs.YtihfaocdpmmooaaGreat

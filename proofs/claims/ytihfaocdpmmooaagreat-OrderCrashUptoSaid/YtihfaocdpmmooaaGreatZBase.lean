
import Derived.Test.YtihfaocdpmmooaaGreatRows
import Derived.WalkKit
import Derived.WalkSpells
import Derived.WalkLawsBesides
import Derived.Lib.Hide
import Derived.Laws.StructEq
import Derived.Deep.QuietTactic
import Derived.BigQuiet
namespace Go.Proofs.YtihfaocdpmmooaaGreat
open Go.RowKit
theorem N5 (a:Addr)(n:Nat):(a.add n).block=a.block:=by unfold Addr.add;split<;>rfl
theorem Yx (a:Addr)(i j:Nat):(a.add i).add j=a.add (i+j):=by unfold Addr.add;by_cases hi:i=0<;>by_cases b:j=0<;>simp[hi,b,Nat.add_assoc]
def Rd {α:Type}(w:World)(B sz:Nat)(f:α→List Value)(A:Option Addr)(l:List α):Prop :=
 ∀(i:Nat) (x:α),l[i]?=some x→∃a,A=some a∧a.block < B∧∀(j:Nat) (v:Value),(f x)[j]?=some v→w.cell? ((a.add (i * sz)).add j)=some v
section
variable {α:Type} {w w':World} {B B' sz:Nat} {f:α→List Value} {A:Option Addr} {a:Addr} {l:List α}
theorem Rd.nil (w:World)(B sz:Nat)(f:α→List Value)(A:Option Addr):Rd w B sz f A []:=fun i x h=>by simp at h
theorem Rd.keep (h:Rd w B sz f A l)(d:∀p:Addr,p.block < B→w'.cell? p=w.cell? p):Rd w' B sz f A l:=fun i x g=>by obtain⟨a,e,b,k⟩:=h i x g;exact⟨a,e,b,fun j v c=>(d _ (by rw[N5,N5];exact b)).trans (k j v c)⟩
theorem Rd.more (h:Rd w B sz f A l)(g:B≤B'):Rd w B' sz f A l:=fun i x d=>by obtain⟨a,e,b,c⟩:=h i x d;exact⟨a,e,Nat.lt_of_lt_of_le b g,c⟩
theorem Rd.below (h:Rd w B sz f A l)(b:Below B w w'):Rd w' B sz f A l:=h.keep fun _ c=>b.cell c
theorem Rd.drew (h:Rd w B sz f A l):Rd w.drew B sz f A l:=h
theorem Rd.alloc (h:Rd w B sz f A l)(c:B≤w.heap.size)(o:Obj):Rd (w.alloc o) B sz f A l:=h.keep fun p b=>World.cell?_alloc_lt w o p (by omega)
theorem Rd.take (h:Rd w B sz f A l)(n:Nat):Rd w B sz f A (l.take n):=fun i x b=>h i x (by
 rw[List.getElem?_take] at b;split at b
 ·exact b
 ·cases b)
theorem Rd.addr (h:Rd w B sz f A l){i:Nat}(hi:i < l.length):∃a,A=some a∧a.block < B:=by obtain⟨a,e,b,_⟩:=h i l[i] (List.getElem?_eq_getElem hi);exact⟨a,e,b⟩
theorem Rd.cell (h:Rd w B sz f (some a) l){i:Nat}(hi:i < l.length){j:Nat}{v:Value}(b:(f l[i])[j]?=some v):w.cell? ((a.add (i * sz)).add j)=some v:=by obtain⟨g,e,d,c⟩:=h i l[i] (List.getElem?_eq_getElem hi);injection e with e;subst e;exact c j v b
theorem Rd.lt (h:Rd w B sz f (some a) l){i:Nat}(hi:i < l.length):a.block < B:=by obtain⟨c,e,b,_⟩:=h i l[i] (List.getElem?_eq_getElem hi);injection e with e;subst e;exact b
end
theorem Z1x {w:World}{g:Nat}{cs:Array Value}{t:TypeId}{c:Nat × Nat}(b:w.heap[g]?=some (.cells cs t c))(i:Nat):w.cell? ⟨g,i,none⟩=cs[i]?:=by simp[World.cell?,b]
def eqF (d:Nat)(xs c:Array Value):List (String × TypeId × Nat)→Sem Bool
 | []=>pure true
 | (n,t,o)::fs =>
  if n≠"_" then do
   let a ←part t xs o;let b ←part t c o;let r ←Op.equalIn d t a b
   if(!r)=true then pure false else eqF d xs c fs
  else eqF d xs c fs
theorem Zff (d:Nat)(xs c:Array Value)(b:List Field):Op.eqFields d xs c b=eqF d xs c (b.map fun f=>(f.name,f.type,f.offset)):=by
 induction b with
 | nil=>rfl
 | cons f b ih=>simp only[Op.eqFields,eqF,List.map_cons,ih]
theorem Nm {P:Program}(w:World){t:TypeId}{L:List (String × TypeId × Nat)}(g:P.underlying t=some (.struct (P.fieldsOf t)))(e:P.stoodInHeld t=false)
  (d:(P.fieldsOf t).toList.map (fun f=>(f.name,f.type,f.offset))=L) (xs c:Array Value) :
  (binOp .eql t (.agg xs) (.agg c)).run P w=((eqF 9999 xs c L).run P w).andThen fun b w'=>.ok (.bool b) w':=by
 rw[run_eql_struct,run_equalIn_struct w 9999 _ _ _ g e,Zff,d]
theorem Z2z (a b:ByteArray):(a.toList==b.toList)=(a==b):=(beq_toListBytes a b).symm
theorem Bf {k:IntKind}{a b:Int}(h:a=b):Ending.returned (.int k a)=.returned (.int k b):=by rw[h]
theorem Fk {a b:Bool}(h:a=b):Ending.returned (.bool a)=.returned (.bool b):=by rw[h]
theorem RL1 {α β γ:Type}{d:α}{c:β}{b:γ}:d=d∧c=c∧b=b:=⟨rfl,rfl,rfl⟩
theorem RL2 {α β γ:Type}{d a1:α}{c b1:β}{e b:γ}:(d=d∧c=c∧e=e)∧(a1=a1∧b1=b1∧b=b)∧True:=⟨⟨rfl,rfl,rfl⟩,⟨rfl,rfl,rfl⟩,trivial⟩
theorem RL3 {α β γ:Type}{g a1 a2:α}{c b1 b2:β}{e b d:γ}:(g=g∧c=c∧e=e)∧(a1=a1∧b1=b1∧b=b)∧(a2=a2∧b2=b2∧d=d)∧True:=⟨⟨rfl,rfl,rfl⟩,⟨rfl,rfl,rfl⟩,⟨rfl,rfl,rfl⟩,trivial⟩
theorem RL4 {α β γ:Type}{j a1 a2 i:α}{d b1 b2 g:β}{h c e b:γ}:(j=j∧d=d∧h=h)∧(a1=a1∧b1=b1∧c=c)∧(a2=a2∧b2=b2∧e=e)∧(i=i∧g=g∧b=b)∧True:=⟨⟨rfl,rfl,rfl⟩,⟨rfl,rfl,rfl⟩,⟨rfl,rfl,rfl⟩,⟨rfl,rfl,rfl⟩,trivial⟩
theorem RL5 {α β γ:Type}{n a1 a2 m e:α}{d b1 b2 j h:β}{k c g b i:γ}:(n=n∧d=d∧k=k)∧(a1=a1∧b1=b1∧c=c)∧(a2=a2∧b2=b2∧g=g)∧(m=m∧j=j∧b=b)∧(e=e∧h=h∧i=i)∧True:=⟨⟨rfl,rfl,rfl⟩,⟨rfl,rfl,rfl⟩,⟨rfl,rfl,rfl⟩,⟨rfl,rfl,rfl⟩,⟨rfl,rfl,rfl⟩,trivial⟩
theorem RL6 {α β γ:Type}{q a1 a2 p h g:α}{e b1 b2 n k j:β}{o d i b m c:γ}:(q=q∧e=e∧o=o)∧(a1=a1∧b1=b1∧d=d)∧(a2=a2∧b2=b2∧i=i)∧(p=p∧n=n∧b=b)∧(h=h∧k=k∧m=m)∧(g=g∧j=j∧c=c)∧True:=⟨⟨rfl,rfl,rfl⟩,⟨rfl,rfl,rfl⟩,⟨rfl,rfl,rfl⟩,⟨rfl,rfl,rfl⟩,⟨rfl,rfl,rfl⟩,⟨rfl,rfl,rfl⟩,trivial⟩
theorem RL7 {α β γ:Type}{t a1 a2 k q o b:α}{n b1 b2 s h g p:β}{j d e m r c i:γ}:(t=t∧n=n∧j=j)∧(a1=a1∧b1=b1∧d=d)∧(a2=a2∧b2=b2∧e=e)∧(k=k∧s=s∧m=m)∧(q=q∧h=h∧r=r)∧(o=o∧g=g∧c=c)∧(b=b∧p=p∧i=i)∧True:=⟨⟨rfl,rfl,rfl⟩,⟨rfl,rfl,rfl⟩,⟨rfl,rfl,rfl⟩,⟨rfl,rfl,rfl⟩,⟨rfl,rfl,rfl⟩,⟨rfl,rfl,rfl⟩,⟨rfl,rfl,rfl⟩,trivial⟩
theorem aa:type_of%@List.length_map:=@List.length_map
theorem ab:type_of%@List.getElem?_eq_getElem:=@List.getElem?_eq_getElem
theorem ac:type_of%@List.getElem?_eq_some_iff:=@List.getElem?_eq_some_iff
theorem ae:type_of%@List.mem_of_getElem?:=@List.mem_of_getElem?
theorem af:type_of%@Nat.le_refl:=@Nat.le_refl
theorem ah:type_of%@Nat.zero_le:=@Nat.zero_le
theorem ai:type_of%@Nat.eq_of_beq_eq_true:=@Nat.eq_of_beq_eq_true
theorem aj:type_of%@List.getElem?_map:=@List.getElem?_map
theorem am:type_of%@List.eq_nil_of_length_eq_zero:=@List.eq_nil_of_length_eq_zero
theorem ao:type_of%@List.map_append:=@List.map_append
theorem ap:type_of%@List.take_of_length_le:=@List.take_of_length_le
theorem aq:type_of%@Nat.lt_of_lt_of_le:=@Nat.lt_of_lt_of_le
theorem au:type_of%@Bool.and_eq_true:=@Bool.and_eq_true
theorem aw:type_of%@List.length_take:=@List.length_take
theorem ax:type_of%@List.length_append:=@List.length_append
theorem ay:type_of%@Option.map_eq_some_iff:=@Option.map_eq_some_iff
theorem az:type_of%@Int.toNat_natCast:=@Int.toNat_natCast
theorem ba:type_of%@List.mem_map:=@List.mem_map
theorem bc:type_of%@List.length_drop:=@List.length_drop
theorem bd:type_of%@List.length_cons:=@List.length_cons
theorem be:type_of%@List.mem_of_mem_take:=@List.mem_of_mem_take
theorem bf:type_of%@List.getElem?_append_right:=@List.getElem?_append_right
theorem bh:type_of%@List.length_set:=@List.length_set
theorem bi:type_of%@List.mem_cons:=@List.mem_cons
theorem bj:type_of%@List.getElem?_take:=@List.getElem?_take
theorem bk:type_of%@Int.natCast_nonneg:=@Int.natCast_nonneg
theorem bl:type_of%@List.getElem?_append_left:=@List.getElem?_append_left
theorem bm:type_of%@List.getElem_mem:=@List.getElem_mem
theorem bo:type_of%@List.mem_singleton:=@List.mem_singleton
theorem bp:type_of%@Array.getElem?_eq_some_iff:=@Array.getElem?_eq_some_iff
theorem br:type_of%@Int.le_refl:=@Int.le_refl
theorem bu:type_of%@List.mem_append:=@List.mem_append
theorem bw:type_of%@List.getElem?_drop:=@List.getElem?_drop
theorem bx:type_of%@List.append_assoc:=@List.append_assoc
theorem bz:type_of%@Classical.byContradiction:=@Classical.byContradiction
theorem b7:type_of%@List.mem_of_mem_drop:=@List.mem_of_mem_drop
theorem b8:type_of%@List.flatten_cons:=@List.flatten_cons
theorem b9:type_of%@List.getElem?_eq_none:=@List.getElem?_eq_none
theorem ca:type_of%@Nat.le_trans:=@Nat.le_trans
theorem cb:type_of%@Nat.zero_add:=@Nat.zero_add
theorem cd:type_of%@Array.length_toList:=@Array.length_toList
theorem ce:type_of%@List.getElem?_set_ne:=@List.getElem?_set_ne
theorem cf:type_of%@Nat.min_eq_left:=@Nat.min_eq_left
theorem cg:type_of%@List.mem_iff_getElem:=@List.mem_iff_getElem
theorem cj:type_of%@Option.some.inj:=@Option.some.inj
theorem ck:type_of%@List.map_cons:=@List.map_cons
theorem cn:type_of%@List.getElem?_set:=@List.getElem?_set
theorem co:type_of%@List.mem_or_eq_of_mem_set:=@List.mem_or_eq_of_mem_set
theorem cp:type_of%@List.ext_getElem?:=@List.ext_getElem?
theorem cq:type_of%@List.getElem?_range:=@List.getElem?_range
theorem ct:type_of%@List.eq_of_mem_replicate:=@List.eq_of_mem_replicate
theorem cu:type_of%@Nat.lt_succ_self:=@Nat.lt_succ_self
theorem cv:type_of%@Nat.add_assoc:=@Nat.add_assoc
theorem cw:type_of%@List.map_take:=@List.map_take
theorem cx:type_of%@List.take_append_drop:=@List.take_append_drop
theorem cy:type_of%@List.nil_append:=@List.nil_append
theorem cz:type_of%@List.append_nil:=@List.append_nil
theorem c7:type_of%@List.getElem?_set_self:=@List.getElem?_set_self
theorem c8:type_of%@List.drop_eq_nil_of_le:=@List.drop_eq_nil_of_le
theorem c9:type_of%@List.cons_append:=@List.cons_append
theorem da:type_of%@Nat.le_of_ble_eq_true:=@Nat.le_of_ble_eq_true
theorem db:type_of%@if_neg:=@if_neg
theorem dc:type_of%@if_pos:=@if_pos
theorem de {a b:Prop}(h:a)(k:¬a):b:=absurd h k
end Go.Proofs.YtihfaocdpmmooaaGreat


import Derived.Test.YtmmdikhljefeiaaGreatRows
import Derived.WalkKit
import Derived.WalkSpells
import Derived.WalkLawsBesides
import Derived.Lib.Hide
import Derived.Laws.StructEq
import Derived.Deep.QuietTactic
import Derived.BigQuiet
namespace Go.Proofs.YtmmdikhljefeiaaGreat
open Go.RowKit
theorem Gx (a:Addr)(n:Nat):(a.add n).block=a.block:=by unfold Addr.add;split<;>rfl
theorem Fi (a:Addr)(i j:Nat):(a.add i).add j=a.add (i+j):=by unfold Addr.add;by_cases c:i=0<;>by_cases b:j=0<;>simp[c,b,Nat.add_assoc]
def Rd {α:Type}(w:World)(B sz:Nat)(f:α->List Value)(A:Option Addr)(l:List α):Prop :=
 ∀(i:Nat) (x:α),l[i]?=some x->∃a,A=some a/\a.block < B/\∀(j:Nat) (v:Value),(f x)[j]?=some v->w.cell? ((a.add (i * sz)).add j)=some v
section
variable {α:Type} {w w':World} {B B' sz:Nat} {f:α->List Value} {A:Option Addr} {a:Addr} {l:List α}
theorem Rd.nil (w:World)(B sz:Nat)(f:α->List Value)(A:Option Addr):Rd w B sz f A []:=λi x h=>by simp at h
theorem Rd.keep (h:Rd w B sz f A l)(c:∀p:Addr,p.block < B->w'.cell? p=w.cell? p):Rd w' B sz f A l:=λi x k=>by obtain⟨a,e,b,g⟩:=h i x k;exact⟨a,e,b,λj v d=>(c _ (by rw[Gx,Gx];exact b)).trans (g j v d)⟩
theorem Rd.more (h:Rd w B sz f A l)(b:B<=B'):Rd w B' sz f A l:=λi x g=>by obtain⟨a,e,d,c⟩:=h i x g;exact⟨a,e,Nat.lt_of_lt_of_le d b,c⟩
theorem Rd.below (h:Rd w B sz f A l)(c:Below B w w'):Rd w' B sz f A l:=h.keep λ_ b=>c.cell b
theorem Rd.drew (h:Rd w B sz f A l):Rd w.drew B sz f A l:=h
theorem Rd.alloc (h:Rd w B sz f A l)(c:B<=w.heap.size)(o:Obj):Rd (w.alloc o) B sz f A l:=h.keep λp b=>World.cell?_alloc_lt w o p (by omega)
theorem Rd.take (h:Rd w B sz f A l)(n:Nat):Rd w B sz f A (l.take n):=λi x b=>h i x (by
 rw[List.getElem?_take] at b;split at b
 .exact b
 .cases b)
theorem Rd.addr (h:Rd w B sz f A l){i:Nat}(b:i < l.length):∃a,A=some a/\a.block < B:=by obtain⟨a,e,c,_⟩:=h i l[i] (List.getElem?_eq_getElem b);exact⟨a,e,c⟩
theorem Rd.cell (h:Rd w B sz f (some a) l){i:Nat}(b:i < l.length){j:Nat}{v:Value}(c:(f l[i])[j]?=some v):w.cell? ((a.add (i * sz)).add j)=some v:=by obtain⟨k,e,g,d⟩:=h i l[i] (List.getElem?_eq_getElem b);injection e with e;subst e;exact d j v c
theorem Rd.lt (h:Rd w B sz f (some a) l){i:Nat}(b:i < l.length):a.block < B:=by obtain⟨d,e,c,_⟩:=h i l[i] (List.getElem?_eq_getElem b);injection e with e;subst e;exact c
end
theorem Ti (g n:Nat):(⟨g,0,none⟩:Addr).add n=⟨g,n,none⟩:=by unfold Addr.add;split<;>simp_all
theorem A1 {w:World}{g:Nat}{cs:Array Value}{t:TypeId}{c:Nat × Nat}(b:w.heap[g]?=some (.cells cs t c))(i:Nat):w.cell? ⟨g,i,none⟩=cs[i]?:=by simp[World.cell?,b]
theorem Pt {α:Type}{w:World}{B sz g:Nat}{f:α->List Value}{l:List α}{cs:Array Value}{t:TypeId}{m:Nat × Nat}(h:w.heap[g]?=some (.cells cs t m))(d:g < B)
  (c:∀i x,l[i]?=some x->∀j v,(f x)[j]?=some v->cs[i * sz+j]?=some v):Rd w B sz f (some ⟨g,0,none⟩) l:=λi x k=>by
 refine⟨_,rfl,d,λj v b=>?_⟩;rw[Ti];show w.cell? (Addr.add ⟨g,i * sz,none⟩ j)=_;have e:(Addr.add ⟨g,i * sz,none⟩ j)=⟨g,i * sz+j,none⟩:=by unfold Addr.add;split<;>simp_all
 rw[e,A1 h];exact c i x k j v b
def eqF (d:Nat)(xs c:Array Value):List (String × TypeId × Nat)->Sem Bool
 | []=>pure true
 | (n,t,o)::fs =>
  if n≠"_" then do
   let a <-part t xs o;let b <-part t c o;let r <-Op.equalIn d t a b
   if(!r)=true then pure false else eqF d xs c fs
  else eqF d xs c fs
theorem Zc9 (d:Nat)(xs c:Array Value)(b:List Field):Op.eqFields d xs c b=eqF d xs c (b.map λf=>(f.name,f.type,f.offset)):=by
 induction b with
 | nil=>rfl
 | cons f b ih=>simp only[Op.eqFields,eqF,List.map_cons,ih]
theorem My {P:Program}(w:World){t:TypeId}{L:List (String × TypeId × Nat)}(g:P.underlying t=some (.struct (P.fieldsOf t)))(e:P.stoodInHeld t=false)
  (d:(P.fieldsOf t).toList.map (λf=>(f.name,f.type,f.offset))=L) (xs c:Array Value) :
  (binOp .neq t (.agg xs) (.agg c)).run P w=((eqF 9999 xs c L).run P w).andThen λb w'=>.ok (.bool (!b)) w':=by
 rw[run_neq_struct,run_equalIn_struct w 9999 _ _ _ g e,Zc9,d]
theorem Kh {k:IntKind}{a b:Int}(h:a=b):Ending.returned (.int k a)=.returned (.int k b):=by rw[h]
theorem Io {a b:Bool}(h:a=b):Ending.returned (.bool a)=.returned (.bool b):=by rw[h]
theorem RL1 {α β γ:Type}{c:α}{b:β}{c0:γ}:c=c/\b=b/\c0=c0:=⟨rfl,rfl,rfl⟩
theorem RL2 {α β γ:Type}{c a1:α}{b b1:β}{c0 c1:γ}:(c=c/\b=b/\c0=c0)/\(a1=a1/\b1=b1/\c1=c1)/\True:=⟨⟨rfl,rfl,rfl⟩,⟨rfl,rfl,rfl⟩,trivial⟩
theorem RL3 {α β γ:Type}{b a1 a2:α}{d b1 b2:β}{c0 c1 c:γ}:(b=b/\d=d/\c0=c0)/\(a1=a1/\b1=b1/\c1=c1)/\(a2=a2/\b2=b2/\c=c)/\True:=⟨⟨rfl,rfl,rfl⟩,⟨rfl,rfl,rfl⟩,⟨rfl,rfl,rfl⟩,trivial⟩
theorem RL4 {α β γ:Type}{b a1 a2 c:α}{g b1 b2 b3:β}{c0 c1 e d:γ}:(b=b/\g=g/\c0=c0)/\(a1=a1/\b1=b1/\c1=c1)/\(a2=a2/\b2=b2/\e=e)/\(c=c/\b3=b3/\d=d)/\True:=⟨⟨rfl,rfl,rfl⟩,⟨rfl,rfl,rfl⟩,⟨rfl,rfl,rfl⟩,⟨rfl,rfl,rfl⟩,trivial⟩
theorem RL5 {α β γ:Type}{c a1 a2 d h:α}{i b1 b2 b3 b4:β}{c0 c1 g e b:γ}:(c=c/\i=i/\c0=c0)/\(a1=a1/\b1=b1/\c1=c1)/\(a2=a2/\b2=b2/\g=g)/\(d=d/\b3=b3/\e=e)/\(h=h/\b4=b4/\b=b)/\True:=⟨⟨rfl,rfl,rfl⟩,⟨rfl,rfl,rfl⟩,⟨rfl,rfl,rfl⟩,⟨rfl,rfl,rfl⟩,⟨rfl,rfl,rfl⟩,trivial⟩
theorem RL6 {α β γ:Type}{c a1 a2 d j b:α}{k b1 b2 b3 b4 b5:β}{c0 c1 i g e h:γ}:(c=c/\k=k/\c0=c0)/\(a1=a1/\b1=b1/\c1=c1)/\(a2=a2/\b2=b2/\i=i)/\(d=d/\b3=b3/\g=g)/\(j=j/\b4=b4/\e=e)/\(b=b/\b5=b5/\h=h)/\True:=⟨⟨rfl,rfl,rfl⟩,⟨rfl,rfl,rfl⟩,⟨rfl,rfl,rfl⟩,⟨rfl,rfl,rfl⟩,⟨rfl,rfl,rfl⟩,⟨rfl,rfl,rfl⟩,trivial⟩
theorem RL7 {α β γ:Type}{e a1 a2 k m c d:α}{n b1 b2 b3 b4 b5 b6:β}{c0 c1 h g i j b:γ}:(e=e/\n=n/\c0=c0)/\(a1=a1/\b1=b1/\c1=c1)/\(a2=a2/\b2=b2/\h=h)/\(k=k/\b3=b3/\g=g)/\(m=m/\b4=b4/\i=i)/\(c=c/\b5=b5/\j=j)/\(d=d/\b6=b6/\b=b)/\True:=⟨⟨rfl,rfl,rfl⟩,⟨rfl,rfl,rfl⟩,⟨rfl,rfl,rfl⟩,⟨rfl,rfl,rfl⟩,⟨rfl,rfl,rfl⟩,⟨rfl,rfl,rfl⟩,⟨rfl,rfl,rfl⟩,trivial⟩
theorem aa:type_of%@Lib.hid:=@Lib.hid
theorem ab:type_of%@Below.refl:=@Below.refl
theorem ac:type_of%@World.cell?_of_block:=@World.cell?_of_block
theorem ae:type_of%@Below.heap_alloc:=@Below.heap_alloc
theorem af:type_of%@List.mem_filter:=@List.mem_filter
theorem ah:type_of%@List.length_filter_le:=@List.length_filter_le
theorem ai:type_of%@Option.map_some:=@Option.map_some
theorem aj:type_of%@Or.inl:=@Or.inl
theorem ak:type_of%@Nat.eq_zero_or_pos:=@Nat.eq_zero_or_pos
theorem al:type_of%@Int.eq_ofNat_of_zero_le:=@Int.eq_ofNat_of_zero_le
theorem am:type_of%@Array.getElem?_eq_getElem:=@Array.getElem?_eq_getElem
theorem ao:type_of%@Decidable.not_not:=@Decidable.not_not
theorem ap:type_of%@List.length_map:=@List.length_map
theorem aq:type_of%@List.getElem?_eq_getElem:=@List.getElem?_eq_getElem
theorem ar:type_of%@List.getElem?_eq_some_iff:=@List.getElem?_eq_some_iff
theorem au:type_of%@List.mem_of_getElem?:=@List.mem_of_getElem?
theorem av:type_of%@Nat.le_refl:=@Nat.le_refl
theorem aw:type_of%@Nat.zero_le:=@Nat.zero_le
theorem ax:type_of%@Nat.eq_of_beq_eq_true:=@Nat.eq_of_beq_eq_true
theorem ay:type_of%@List.getElem?_map:=@List.getElem?_map
theorem az:type_of%@List.eq_nil_of_length_eq_zero:=@List.eq_nil_of_length_eq_zero
theorem ba:type_of%@List.map_append:=@List.map_append
theorem bc:type_of%@List.take_of_length_le:=@List.take_of_length_le
theorem bd:type_of%@Nat.lt_of_lt_of_le:=@Nat.lt_of_lt_of_le
theorem be:type_of%@Bool.and_eq_true:=@Bool.and_eq_true
theorem bf:type_of%@List.length_take:=@List.length_take
theorem bg:type_of%@List.length_append:=@List.length_append
theorem bh:type_of%@Option.map_eq_some_iff:=@Option.map_eq_some_iff
theorem bj:type_of%@Int.toNat_natCast:=@Int.toNat_natCast
theorem bk:type_of%@List.mem_map:=@List.mem_map
theorem bm:type_of%@List.length_drop:=@List.length_drop
theorem bn:type_of%@List.length_cons:=@List.length_cons
theorem bo:type_of%@List.mem_of_mem_take:=@List.mem_of_mem_take
theorem bp:type_of%@List.getElem?_append_right:=@List.getElem?_append_right
theorem bq:type_of%@List.mem_cons:=@List.mem_cons
theorem br:type_of%@List.getElem?_take:=@List.getElem?_take
theorem bu:type_of%@List.getElem?_append_left:=@List.getElem?_append_left
theorem bw:type_of%@List.getElem_mem:=@List.getElem_mem
theorem bx:type_of%@List.mem_singleton:=@List.mem_singleton
theorem bz:type_of%@Array.getElem?_eq_some_iff:=@Array.getElem?_eq_some_iff
theorem cd:type_of%@List.mem_append:=@List.mem_append
theorem ce:type_of%@List.getElem?_drop:=@List.getElem?_drop
theorem cf:type_of%@List.append_assoc:=@List.append_assoc
theorem cg:type_of%@Classical.byContradiction:=@Classical.byContradiction
theorem cj:type_of%@List.mem_of_mem_drop:=@List.mem_of_mem_drop
theorem ck:type_of%@List.flatten_cons:=@List.flatten_cons
theorem cm:type_of%@List.getElem?_eq_none:=@List.getElem?_eq_none
theorem cn:type_of%@Nat.le_trans:=@Nat.le_trans
theorem co:type_of%@Nat.zero_add:=@Nat.zero_add
theorem cp:type_of%@Array.length_toList:=@Array.length_toList
theorem cq:type_of%@Nat.min_eq_left:=@Nat.min_eq_left
theorem ct:type_of%@List.mem_iff_getElem:=@List.mem_iff_getElem
theorem cu:type_of%@Option.some.inj:=@Option.some.inj
theorem cv:type_of%@List.map_cons:=@List.map_cons
theorem cw:type_of%@List.getElem?_set:=@List.getElem?_set
theorem cx:type_of%@List.mem_or_eq_of_mem_set:=@List.mem_or_eq_of_mem_set
theorem cy:type_of%@List.ext_getElem?:=@List.ext_getElem?
theorem cz:type_of%@List.getElem?_range:=@List.getElem?_range
theorem da:type_of%@List.eq_of_mem_replicate:=@List.eq_of_mem_replicate
theorem db:type_of%@Nat.lt_succ_self:=@Nat.lt_succ_self
theorem dc:type_of%@Nat.add_assoc:=@Nat.add_assoc
theorem de:type_of%@List.map_take:=@List.map_take
theorem dh:type_of%@List.take_append_drop:=@List.take_append_drop
theorem dj:type_of%@List.nil_append:=@List.nil_append
theorem dk:type_of%@List.append_nil:=@List.append_nil
theorem dl:type_of%@List.drop_eq_nil_of_le:=@List.drop_eq_nil_of_le
theorem dm:type_of%@List.cons_append:=@List.cons_append
theorem dn:type_of%@Nat.le_of_ble_eq_true:=@Nat.le_of_ble_eq_true
theorem dp:type_of%@if_neg:=@if_neg
theorem dq:type_of%@if_pos:=@if_pos
theorem dt {a b:Prop}(h:a)(k:¬a):b:=absurd h k
end Go.Proofs.YtmmdikhljefeiaaGreat

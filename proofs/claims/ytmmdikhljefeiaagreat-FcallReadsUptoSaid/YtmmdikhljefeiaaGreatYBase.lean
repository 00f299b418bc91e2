
import Derived.Test.YtmmdikhljefeiaaGreatRows
import Derived.WalkKit
import Derived.WalkSpells
import Derived.WalkLawsBesides
import Derived.Lib.Hide
import Derived.Laws.StructEq
import Derived.Deep.QuietTactic
import Derived.BigQuiet
namespace Go.Proofs.YtmmdikhljefeiaaGreat
open Go.RowKit
theorem Gk (a:Addr)(n:Nat):(a.add n).block=a.block:=by unfold Addr.add;split<;>rfl
theorem Fh (a:Addr)(i j:Nat):(a.add i).add j=a.add (i+j):=by unfold Addr.add;by_cases c:i=0<;>by_cases b:j=0<;>simp[c,b,Nat.add_assoc]
def Rd {α:Type}(w:World)(B sz:Nat)(f:α->List Value)(A:Option Addr)(l:List α):Prop :=
 ∀(i:Nat) (x:α),l[i]?=some x->∃a,A=some a/\a.block < B/\∀(j:Nat) (v:Value),(f x)[j]?=some v->w.cell? ((a.add (i * sz)).add j)=some v
section
variable {α:Type} {w w':World} {B B' sz:Nat} {f:α->List Value} {A:Option Addr} {a:Addr} {l:List α}
theorem Rd.nil (w:World)(B sz:Nat)(f:α->List Value)(A:Option Addr):Rd w B sz f A []:=λi x h=>by simp at h
theorem Rd.keep (h:Rd w B sz f A l)(d:∀p:Addr,p.block < B->w'.cell? p=w.cell? p):Rd w' B sz f A l:=λi x c=>by obtain⟨a,e,b,k⟩:=h i x c;exact⟨a,e,b,λj v g=>(d _ (by rw[Gk,Gk];exact b)).trans (k j v g)⟩
theorem Rd.more (h:Rd w B sz f A l)(d:B<=B'):Rd w B' sz f A l:=λi x c=>by obtain⟨a,e,b,g⟩:=h i x c;exact⟨a,e,Nat.lt_of_lt_of_le b d,g⟩
theorem Rd.below (h:Rd w B sz f A l)(b:Below B w w'):Rd w' B sz f A l:=h.keep λ_ c=>b.cell c
theorem Rd.drew (h:Rd w B sz f A l):Rd w.drew B sz f A l:=h
theorem Rd.alloc (h:Rd w B sz f A l)(c:B<=w.heap.size)(o:Obj):Rd (w.alloc o) B sz f A l:=h.keep λp b=>World.cell?_alloc_lt w o p (by omega)
theorem Rd.take (h:Rd w B sz f A l)(n:Nat):Rd w B sz f A (l.take n):=λi x b=>h i x (by
 rw[List.getElem?_take] at b;split at b
 .exact b
 .cases b)
theorem Rd.addr (h:Rd w B sz f A l){i:Nat}(c:i < l.length):∃a,A=some a/\a.block < B:=by obtain⟨a,e,b,_⟩:=h i l[i] (List.getElem?_eq_getElem c);exact⟨a,e,b⟩
theorem Rd.cell (h:Rd w B sz f (some a) l){i:Nat}(d:i < l.length){j:Nat}{v:Value}(b:(f l[i])[j]?=some v):w.cell? ((a.add (i * sz)).add j)=some v:=by obtain⟨k,e,g,c⟩:=h i l[i] (List.getElem?_eq_getElem d);injection e with e;subst e;exact c j v b
theorem Rd.lt (h:Rd w B sz f (some a) l){i:Nat}(c:i < l.length):a.block < B:=by obtain⟨d,e,b,_⟩:=h i l[i] (List.getElem?_eq_getElem c);injection e with e;subst e;exact b
end
theorem Ue (g n:Nat):(⟨g,0,none⟩:Addr).add n=⟨g,n,none⟩:=by unfold Addr.add;split<;>simp_all
theorem A1 {w:World}{g:Nat}{cs:Array Value}{t:TypeId}{c:Nat × Nat}(b:w.heap[g]?=some (.cells cs t c))(i:Nat):w.cell? ⟨g,i,none⟩=cs[i]?:=by simp[World.cell?,b]
theorem P7 {α:Type}{w:World}{B sz g:Nat}{f:α->List Value}{l:List α}{cs:Array Value}{t:TypeId}{b:Nat × Nat}(c:w.heap[g]?=some (.cells cs t b))(h:g < B)
  (m:∀i x,l[i]?=some x->∀j v,(f x)[j]?=some v->cs[i * sz+j]?=some v):Rd w B sz f (some ⟨g,0,none⟩) l:=λi x d=>by
 refine⟨_,rfl,h,λj v k=>?_⟩;rw[Ue];show w.cell? (Addr.add ⟨g,i * sz,none⟩ j)=_;have e:(Addr.add ⟨g,i * sz,none⟩ j)=⟨g,i * sz+j,none⟩:=by unfold Addr.add;split<;>simp_all
 rw[e,A1 c];exact m i x d j v k
def eqF (d:Nat)(xs c:Array Value):List (String × TypeId × Nat)->Sem Bool
 | []=>pure true
 | (n,t,o)::fs =>
  if n≠"_" then do
   let a <-part t xs o;let b <-part t c o;let r <-Op.equalIn d t a b
   if(!r)=true then pure false else eqF d xs c fs
  else eqF d xs c fs
theorem Zcy (d:Nat)(xs c:Array Value)(b:List Field):Op.eqFields d xs c b=eqF d xs c (b.map λf=>(f.name,f.type,f.offset)):=by
 induction b with
 | nil=>rfl
 | cons f b ih=>simp only[Op.eqFields,eqF,List.map_cons,ih]
theorem N3 {P:Program}(w:World){t:TypeId}{L:List (String × TypeId × Nat)}(d:P.underlying t=some (.struct (P.fieldsOf t)))(g:P.stoodInHeld t=false)
  (e:(P.fieldsOf t).toList.map (λf=>(f.name,f.type,f.offset))=L) (xs c:Array Value) :
  (binOp .neq t (.agg xs) (.agg c)).run P w=((eqF 9999 xs c L).run P w).andThen λb w'=>.ok (.bool (!b)) w':=by
 rw[run_neq_struct,run_equalIn_struct w 9999 _ _ _ d g,Zcy,e]
theorem Kp {k:IntKind}{a b:Int}(h:a=b):Ending.returned (.int k a)=.returned (.int k b):=by rw[h]
theorem Jg {a b:Bool}(h:a=b):Ending.returned (.bool a)=.returned (.bool b):=by rw[h]
theorem RL1 {α β γ:Type}{c:α}{b:β}{c0:γ}:c=c/\b=b/\c0=c0:=⟨rfl,rfl,rfl⟩
theorem RL2 {α β γ:Type}{c a1:α}{b d:β}{c0 c1:γ}:(c=c/\b=b/\c0=c0)/\(a1=a1/\d=d/\c1=c1)/\True:=⟨⟨rfl,rfl,rfl⟩,⟨rfl,rfl,rfl⟩,trivial⟩
theorem RL3 {α β γ:Type}{c a1 a2:α}{e d g:β}{c0 c1 b:γ}:(c=c/\e=e/\c0=c0)/\(a1=a1/\d=d/\c1=c1)/\(a2=a2/\g=g/\b=b)/\True:=⟨⟨rfl,rfl,rfl⟩,⟨rfl,rfl,rfl⟩,⟨rfl,rfl,rfl⟩,trivial⟩
theorem RL4 {α β γ:Type}{e a1 a2 j:α}{h g i b:β}{c0 c1 c d:γ}:(e=e/\h=h/\c0=c0)/\(a1=a1/\g=g/\c1=c1)/\(a2=a2/\i=i/\c=c)/\(j=j/\b=b/\d=d)/\True:=⟨⟨rfl,rfl,rfl⟩,⟨rfl,rfl,rfl⟩,⟨rfl,rfl,rfl⟩,⟨rfl,rfl,rfl⟩,trivial⟩
theorem RL5 {α β γ:Type}{h a1 a2 m n:α}{j i k c b:β}{c0 c1 d g e:γ}:(h=h/\j=j/\c0=c0)/\(a1=a1/\i=i/\c1=c1)/\(a2=a2/\k=k/\d=d)/\(m=m/\c=c/\g=g)/\(n=n/\b=b/\e=e)/\True:=⟨⟨rfl,rfl,rfl⟩,⟨rfl,rfl,rfl⟩,⟨rfl,rfl,rfl⟩,⟨rfl,rfl,rfl⟩,⟨rfl,rfl,rfl⟩,trivial⟩
theorem RL6 {α β γ:Type}{i a1 a2 p q k:α}{m j n d c o:β}{c0 c1 e h g b:γ}:(i=i/\m=m/\c0=c0)/\(a1=a1/\j=j/\c1=c1)/\(a2=a2/\n=n/\e=e)/\(p=p/\d=d/\h=h)/\(q=q/\c=c/\g=g)/\(k=k/\o=o/\b=b)/\True:=⟨⟨rfl,rfl,rfl⟩,⟨rfl,rfl,rfl⟩,⟨rfl,rfl,rfl⟩,⟨rfl,rfl,rfl⟩,⟨rfl,rfl,rfl⟩,⟨rfl,rfl,rfl⟩,trivial⟩
theorem RL7 {α β γ:Type}{r a1 a2 h t s j:α}{d c e m i g p:β}{c0 c1 o q b k n:γ}:(r=r/\d=d/\c0=c0)/\(a1=a1/\c=c/\c1=c1)/\(a2=a2/\e=e/\o=o)/\(h=h/\m=m/\q=q)/\(t=t/\i=i/\b=b)/\(s=s/\g=g/\k=k)/\(j=j/\p=p/\n=n)/\True:=⟨⟨rfl,rfl,rfl⟩,⟨rfl,rfl,rfl⟩,⟨rfl,rfl,rfl⟩,⟨rfl,rfl,rfl⟩,⟨rfl,rfl,rfl⟩,⟨rfl,rfl,rfl⟩,⟨rfl,rfl,rfl⟩,trivial⟩
theorem aa:type_of%@Lib.hid:=@Lib.hid
theorem ab:type_of%@Below.refl:=@Below.refl
theorem ac:type_of%@World.cell?_of_block:=@World.cell?_of_block
theorem ae:type_of%@Below.heap_alloc:=@Below.heap_alloc
theorem af:type_of%@List.mem_filter:=@List.mem_filter
theorem ah:type_of%@List.length_filter_le:=@List.length_filter_le
theorem ai:type_of%@Option.map_some:=@Option.map_some
theorem aj:type_of%@Or.inl:=@Or.inl
theorem ak:type_of%@Nat.eq_zero_or_pos:=@Nat.eq_zero_or_pos
theorem al:type_of%@Int.eq_ofNat_of_zero_le:=@Int.eq_ofNat_of_zero_le
theorem am:type_of%@Array.getElem?_eq_getElem:=@Array.getElem?_eq_getElem
theorem an:type_of%@Decidable.not_not:=@Decidable.not_not
theorem ao:type_of%@List.length_map:=@List.length_map
theorem ap:type_of%@List.getElem?_eq_getElem:=@List.getElem?_eq_getElem
theorem aq:type_of%@List.getElem?_eq_some_iff:=@List.getElem?_eq_some_iff
theorem ar:type_of%@List.mem_of_getElem?:=@List.mem_of_getElem?
theorem au:type_of%@Nat.le_refl:=@Nat.le_refl
theorem av:type_of%@Nat.zero_le:=@Nat.zero_le
theorem aw:type_of%@Nat.eq_of_beq_eq_true:=@Nat.eq_of_beq_eq_true
theorem ax:type_of%@List.getElem?_map:=@List.getElem?_map
theorem ay:type_of%@List.eq_nil_of_length_eq_zero:=@List.eq_nil_of_length_eq_zero
theorem az:type_of%@List.map_append:=@List.map_append
theorem ba:type_of%@List.take_of_length_le:=@List.take_of_length_le
theorem bc:type_of%@Nat.lt_of_lt_of_le:=@Nat.lt_of_lt_of_le
theorem bd:type_of%@Bool.and_eq_true:=@Bool.and_eq_true
theorem be:type_of%@List.length_take:=@List.length_take
theorem bf:type_of%@List.length_append:=@List.length_append
theorem bg:type_of%@Option.map_eq_some_iff:=@Option.map_eq_some_iff
theorem bh:type_of%@Int.toNat_natCast:=@Int.toNat_natCast
theorem bj:type_of%@List.mem_map:=@List.mem_map
theorem bk:type_of%@List.length_drop:=@List.length_drop
theorem bm:type_of%@List.length_cons:=@List.length_cons
theorem bn:type_of%@List.mem_of_mem_take:=@List.mem_of_mem_take
theorem bo:type_of%@List.getElem?_append_right:=@List.getElem?_append_right
theorem bp:type_of%@List.length_set:=@List.length_set
theorem bq:type_of%@List.mem_cons:=@List.mem_cons
theorem br:type_of%@List.getElem?_take:=@List.getElem?_take
theorem bu:type_of%@List.getElem?_append_left:=@List.getElem?_append_left
theorem bw:type_of%@List.getElem_mem:=@List.getElem_mem
theorem bx:type_of%@List.mem_singleton:=@List.mem_singleton
theorem bz:type_of%@Array.getElem?_eq_some_iff:=@Array.getElem?_eq_some_iff
theorem cd:type_of%@Int.le_refl:=@Int.le_refl
theorem ce:type_of%@List.mem_append:=@List.mem_append
theorem cf:type_of%@List.getElem?_drop:=@List.getElem?_drop
theorem cg:type_of%@List.append_assoc:=@List.append_assoc
theorem cj:type_of%@Classical.byContradiction:=@Classical.byContradiction
theorem ck:type_of%@List.mem_of_mem_drop:=@List.mem_of_mem_drop
theorem cm:type_of%@List.flatten_cons:=@List.flatten_cons
theorem cn:type_of%@List.getElem?_eq_none:=@List.getElem?_eq_none
theorem co:type_of%@Nat.le_trans:=@Nat.le_trans
theorem cp:type_of%@Nat.zero_add:=@Nat.zero_add
theorem cq:type_of%@Array.length_toList:=@Array.length_toList
theorem ct:type_of%@Nat.min_eq_left:=@Nat.min_eq_left
theorem cu:type_of%@List.mem_iff_getElem:=@List.mem_iff_getElem
theorem cv:type_of%@Option.some.inj:=@Option.some.inj
theorem cw:type_of%@List.map_cons:=@List.map_cons
theorem cx:type_of%@List.getElem?_set:=@List.getElem?_set
theorem cy:type_of%@List.mem_or_eq_of_mem_set:=@List.mem_or_eq_of_mem_set
theorem cz:type_of%@List.ext_getElem?:=@List.ext_getElem?
theorem da:type_of%@List.getElem?_range:=@List.getElem?_range
theorem db:type_of%@List.eq_of_mem_replicate:=@List.eq_of_mem_replicate
theorem dc:type_of%@Nat.lt_succ_self:=@Nat.lt_succ_self
theorem de:type_of%@Nat.add_assoc:=@Nat.add_assoc
theorem dh:type_of%@List.map_take:=@List.map_take
theorem dj:type_of%@List.take_append_drop:=@List.take_append_drop
theorem dk:type_of%@List.nil_append:=@List.nil_append
theorem dl:type_of%@List.append_nil:=@List.append_nil
theorem dm:type_of%@List.drop_eq_nil_of_le:=@List.drop_eq_nil_of_le
theorem dn:type_of%@List.cons_append:=@List.cons_append
theorem dp:type_of%@Nat.le_of_ble_eq_true:=@Nat.le_of_ble_eq_true
theorem dq:type_of%@if_neg:=@if_neg
theorem dt:type_of%@if_pos:=@if_pos
theorem du {a b:Prop}(h:a)(k:¬a):b:=absurd h k
end Go.Proofs.YtmmdikhljefeiaaGreat


import Derived.Test.YtmmdikhljefeiaaGreatRows
import Derived.WalkKit
import Derived.WalkSpells
import Derived.WalkLawsBesides
import Derived.Lib.Hide
import Derived.Laws.StructEq
import Derived.Deep.QuietTactic
import Derived.BigQuiet
namespace Go.Proofs.YtmmdikhljefeiaaGreat
open Go.RowKit
theorem Gl (a:Addr)(n:Nat):(a.add n).block=a.block:=by unfold Addr.add;split<;>rfl
theorem Ey (a:Addr)(i j:Nat):(a.add i).add j=a.add (i+j):=by unfold Addr.add;by_cases c:i=0<;>by_cases b:j=0<;>simp[c,b,Nat.add_assoc]
def Rd {α:Type}(w:World)(B sz:Nat)(f:α->List Value)(A:Option Addr)(l:List α):Prop :=
 ∀(i:Nat) (x:α),l[i]?=some x->∃a,A=some a/\a.block < B/\∀(j:Nat) (v:Value),(f x)[j]?=some v->w.cell? ((a.add (i * sz)).add j)=some v
section
variable {α:Type} {w w':World} {B B' sz:Nat} {f:α->List Value} {A:Option Addr} {a:Addr} {l:List α}
theorem Rd.nil (w:World)(B sz:Nat)(f:α->List Value)(A:Option Addr):Rd w B sz f A []:=λi x h=>by simp at h
theorem Rd.keep (h:Rd w B sz f A l)(k:∀p:Addr,p.block < B->w'.cell? p=w.cell? p):Rd w' B sz f A l:=λi x d=>by obtain⟨a,e,b,g⟩:=h i x d;exact⟨a,e,b,λj v c=>(k _ (by rw[Gl,Gl];exact b)).trans (g j v c)⟩
theorem Rd.more (h:Rd w B sz f A l)(c:B<=B'):Rd w B' sz f A l:=λi x d=>by obtain⟨a,e,b,g⟩:=h i x d;exact⟨a,e,Nat.lt_of_lt_of_le b c,g⟩
theorem Rd.below (h:Rd w B sz f A l)(c:Below B w w'):Rd w' B sz f A l:=h.keep λ_ b=>c.cell b
theorem Rd.drew (h:Rd w B sz f A l):Rd w.drew B sz f A l:=h
theorem Rd.alloc (h:Rd w B sz f A l)(b:B<=w.heap.size)(o:Obj):Rd (w.alloc o) B sz f A l:=h.keep λp c=>World.cell?_alloc_lt w o p (by omega)
theorem Rd.take (h:Rd w B sz f A l)(n:Nat):Rd w B sz f A (l.take n):=λi x b=>h i x (by
 rw[List.getElem?_take] at b;split at b
 .exact b
 .cases b)
theorem Rd.addr (h:Rd w B sz f A l){i:Nat}(b:i < l.length):∃a,A=some a/\a.block < B:=by obtain⟨a,e,c,_⟩:=h i l[i] (List.getElem?_eq_getElem b);exact⟨a,e,c⟩
theorem Rd.cell (h:Rd w B sz f (some a) l){i:Nat}(c:i < l.length){j:Nat}{v:Value}(b:(f l[i])[j]?=some v):w.cell? ((a.add (i * sz)).add j)=some v:=by obtain⟨g,e,k,d⟩:=h i l[i] (List.getElem?_eq_getElem c);injection e with e;subst e;exact d j v b
theorem Rd.lt (h:Rd w B sz f (some a) l){i:Nat}(b:i < l.length):a.block < B:=by obtain⟨d,e,c,_⟩:=h i l[i] (List.getElem?_eq_getElem b);injection e with e;subst e;exact c
end
theorem Tc (g n:Nat):(⟨g,0,none⟩:Addr).add n=⟨g,n,none⟩:=by unfold Addr.add;split<;>simp_all
theorem A1 {w:World}{g:Nat}{cs:Array Value}{t:TypeId}{b:Nat × Nat}(c:w.heap[g]?=some (.cells cs t b))(i:Nat):w.cell? ⟨g,i,none⟩=cs[i]?:=by simp[World.cell?,c]
theorem Oj {α:Type}{w:World}{B sz g:Nat}{f:α->List Value}{l:List α}{cs:Array Value}{t:TypeId}{d:Nat × Nat}(k:w.heap[g]?=some (.cells cs t d))(h:g < B)
  (m:∀i x,l[i]?=some x->∀j v,(f x)[j]?=some v->cs[i * sz+j]?=some v):Rd w B sz f (some ⟨g,0,none⟩) l:=λi x b=>by
 refine⟨_,rfl,h,λj v c=>?_⟩;rw[Tc];show w.cell? (Addr.add ⟨g,i * sz,none⟩ j)=_;have e:(Addr.add ⟨g,i * sz,none⟩ j)=⟨g,i * sz+j,none⟩:=by unfold Addr.add;split<;>simp_all
 rw[e,A1 k];exact m i x b j v c
def eqF (d:Nat)(xs c:Array Value):List (String × TypeId × Nat)->Sem Bool
 | []=>pure true
 | (n,t,o)::fs =>
  if n≠"_" then do
   let a <-part t xs o;let b <-part t c o;let r <-Op.equalIn d t a b
   if(!r)=true then pure false else eqF d xs c fs
  else eqF d xs c fs
theorem Z9e (d:Nat)(xs c:Array Value)(b:List Field):Op.eqFields d xs c b=eqF d xs c (b.map λf=>(f.name,f.type,f.offset)):=by
 induction b with
 | nil=>rfl
 | cons f b ih=>simp only[Op.eqFields,eqF,List.map_cons,ih]
theorem M7 {P:Program}(w:World){t:TypeId}{L:List (String × TypeId × Nat)}(e:P.underlying t=some (.struct (P.fieldsOf t)))(d:P.stoodInHeld t=false)
  (g:(P.fieldsOf t).toList.map (λf=>(f.name,f.type,f.offset))=L) (xs c:Array Value) :
  (binOp .neq t (.agg xs) (.agg c)).run P w=((eqF 9999 xs c L).run P w).andThen λb w'=>.ok (.bool (!b)) w':=by
 rw[run_neq_struct,run_equalIn_struct w 9999 _ _ _ e d,Z9e,g]
theorem Jj {k:IntKind}{a b:Int}(h:a=b):Ending.returned (.int k a)=.returned (.int k b):=by rw[h]
theorem Io {a b:Bool}(h:a=b):Ending.returned (.bool a)=.returned (.bool b):=by rw[h]
theorem RL1 {α β γ:Type}{b:α}{c:β}{c0:γ}:b=b/\c=c/\c0=c0:=⟨rfl,rfl,rfl⟩
theorem RL2 {α β γ:Type}{c d:α}{e b:β}{c0 c1:γ}:(c=c/\e=e/\c0=c0)/\(d=d/\b=b/\c1=c1)/\True:=⟨⟨rfl,rfl,rfl⟩,⟨rfl,rfl,rfl⟩,trivial⟩
theorem RL3 {α β γ:Type}{h c e:α}{d g i:β}{c0 c1 b:γ}:(h=h/\d=d/\c0=c0)/\(c=c/\g=g/\c1=c1)/\(e=e/\i=i/\b=b)/\True:=⟨⟨rfl,rfl,rfl⟩,⟨rfl,rfl,rfl⟩,⟨rfl,rfl,rfl⟩,trivial⟩
theorem RL4 {α β γ:Type}{j e h b:α}{g i k m:β}{c0 c1 c d:γ}:(j=j/\g=g/\c0=c0)/\(e=e/\i=i/\c1=c1)/\(h=h/\k=k/\c=c)/\(b=b/\m=m/\d=d)/\True:=⟨⟨rfl,rfl,rfl⟩,⟨rfl,rfl,rfl⟩,⟨rfl,rfl,rfl⟩,⟨rfl,rfl,rfl⟩,trivial⟩
theorem RL5 {α β γ:Type}{n g j b c:α}{h m o p i:β}{c0 c1 d e k:γ}:(n=n/\h=h/\c0=c0)/\(g=g/\m=m/\c1=c1)/\(j=j/\o=o/\d=d)/\(b=b/\p=p/\e=e)/\(c=c/\i=i/\k=k)/\True:=⟨⟨rfl,rfl,rfl⟩,⟨rfl,rfl,rfl⟩,⟨rfl,rfl,rfl⟩,⟨rfl,rfl,rfl⟩,⟨rfl,rfl,rfl⟩,trivial⟩
theorem RL6 {α β γ:Type}{q i m b c n:α}{j p r s k h:β}{c0 c1 d e o g:γ}:(q=q/\j=j/\c0=c0)/\(i=i/\p=p/\c1=c1)/\(m=m/\r=r/\d=d)/\(b=b/\s=s/\e=e)/\(c=c/\k=k/\o=o)/\(n=n/\h=h/\g=g)/\True:=⟨⟨rfl,rfl,rfl⟩,⟨rfl,rfl,rfl⟩,⟨rfl,rfl,rfl⟩,⟨rfl,rfl,rfl⟩,⟨rfl,rfl,rfl⟩,⟨rfl,rfl,rfl⟩,trivial⟩
theorem RL7 {α β γ:Type}{k p i b c s q:α}{h t u v r o m:β}{c0 c1 e g j n d:γ}:(k=k/\h=h/\c0=c0)/\(p=p/\t=t/\c1=c1)/\(i=i/\u=u/\e=e)/\(b=b/\v=v/\g=g)/\(c=c/\r=r/\j=j)/\(s=s/\o=o/\n=n)/\(q=q/\m=m/\d=d)/\True:=⟨⟨rfl,rfl,rfl⟩,⟨rfl,rfl,rfl⟩,⟨rfl,rfl,rfl⟩,⟨rfl,rfl,rfl⟩,⟨rfl,rfl,rfl⟩,⟨rfl,rfl,rfl⟩,⟨rfl,rfl,rfl⟩,trivial⟩
theorem aa:type_of%@Lib.hid:=@Lib.hid
theorem ab:type_of%@Below.refl:=@Below.refl
theorem ac:type_of%@World.cell?_of_block:=@World.cell?_of_block
theorem ae:type_of%@Below.heap_alloc:=@Below.heap_alloc
theorem af:type_of%@List.mem_filter:=@List.mem_filter
theorem ah:type_of%@List.length_filter_le:=@List.length_filter_le
theorem ai:type_of%@Option.map_some:=@Option.map_some
theorem aj:type_of%@Or.inl:=@Or.inl
theorem ak:type_of%@Nat.eq_zero_or_pos:=@Nat.eq_zero_or_pos
theorem al:type_of%@Int.eq_ofNat_of_zero_le:=@Int.eq_ofNat_of_zero_le
theorem am:type_of%@Array.getElem?_eq_getElem:=@Array.getElem?_eq_getElem
theorem an:type_of%@Decidable.not_not:=@Decidable.not_not
theorem ao:type_of%@List.length_map:=@List.length_map
theorem ap:type_of%@List.getElem?_eq_getElem:=@List.getElem?_eq_getElem
theorem aq:type_of%@List.getElem?_eq_some_iff:=@List.getElem?_eq_some_iff
theorem ar:type_of%@List.mem_of_getElem?:=@List.mem_of_getElem?
theorem au:type_of%@Nat.le_refl:=@Nat.le_refl
theorem av:type_of%@Nat.zero_le:=@Nat.zero_le
theorem aw:type_of%@Nat.eq_of_beq_eq_true:=@Nat.eq_of_beq_eq_true
theorem ax:type_of%@List.getElem?_map:=@List.getElem?_map
theorem ay:type_of%@List.eq_nil_of_length_eq_zero:=@List.eq_nil_of_length_eq_zero
theorem az:type_of%@List.map_append:=@List.map_append
theorem ba:type_of%@List.take_of_length_le:=@List.take_of_length_le
theorem bc:type_of%@Nat.lt_of_lt_of_le:=@Nat.lt_of_lt_of_le
theorem bd:type_of%@Bool.and_eq_true:=@Bool.and_eq_true
theorem be:type_of%@List.length_take:=@List.length_take
theorem bf:type_of%@List.length_append:=@List.length_append
theorem bg:type_of%@Option.map_eq_some_iff:=@Option.map_eq_some_iff
theorem bh:type_of%@Int.toNat_natCast:=@Int.toNat_natCast
theorem bi:type_of%@List.mem_map:=@List.mem_map
theorem bj:type_of%@List.length_drop:=@List.length_drop
theorem bk:type_of%@List.length_cons:=@List.length_cons
theorem bm:type_of%@List.mem_of_mem_take:=@List.mem_of_mem_take
theorem bn:type_of%@List.getElem?_append_right:=@List.getElem?_append_right
theorem bo:type_of%@List.mem_cons:=@List.mem_cons
theorem bp:type_of%@List.getElem?_take:=@List.getElem?_take
theorem bq:type_of%@Int.natCast_nonneg:=@Int.natCast_nonneg
theorem br:type_of%@List.getElem?_append_left:=@List.getElem?_append_left
theorem bu:type_of%@List.getElem_mem:=@List.getElem_mem
theorem bw:type_of%@List.mem_singleton:=@List.mem_singleton
theorem bx:type_of%@Array.getElem?_eq_some_iff:=@Array.getElem?_eq_some_iff
theorem bz:type_of%@List.mem_append:=@List.mem_append
theorem cd:type_of%@List.getElem?_drop:=@List.getElem?_drop
theorem ce:type_of%@List.append_assoc:=@List.append_assoc
theorem cf:type_of%@Classical.byContradiction:=@Classical.byContradiction
theorem cg:type_of%@List.mem_of_mem_drop:=@List.mem_of_mem_drop
theorem cj:type_of%@List.flatten_cons:=@List.flatten_cons
theorem ck:type_of%@List.getElem?_eq_none:=@List.getElem?_eq_none
theorem cm:type_of%@Nat.le_trans:=@Nat.le_trans
theorem cn:type_of%@Nat.zero_add:=@Nat.zero_add
theorem co:type_of%@Array.length_toList:=@Array.length_toList
theorem cp:type_of%@Nat.min_eq_left:=@Nat.min_eq_left
theorem cq:type_of%@List.mem_iff_getElem:=@List.mem_iff_getElem
theorem ct:type_of%@Option.some.inj:=@Option.some.inj
theorem cu:type_of%@List.map_cons:=@List.map_cons
theorem cv:type_of%@List.getElem?_set:=@List.getElem?_set
theorem cw:type_of%@List.mem_or_eq_of_mem_set:=@List.mem_or_eq_of_mem_set
theorem cx:type_of%@List.ext_getElem?:=@List.ext_getElem?
theorem cy:type_of%@List.getElem?_range:=@List.getElem?_range
theorem cz:type_of%@List.eq_of_mem_replicate:=@List.eq_of_mem_replicate
theorem da:type_of%@Nat.lt_succ_self:=@Nat.lt_succ_self
theorem db:type_of%@Nat.add_assoc:=@Nat.add_assoc
theorem dc:type_of%@List.map_take:=@List.map_take
theorem de:type_of%@List.take_append_drop:=@List.take_append_drop
theorem dh:type_of%@List.nil_append:=@List.nil_append
theorem dj:type_of%@List.append_nil:=@List.append_nil
theorem dk:type_of%@List.drop_eq_nil_of_le:=@List.drop_eq_nil_of_le
theorem dl:type_of%@List.cons_append:=@List.cons_append
theorem dm:type_of%@Nat.le_of_ble_eq_true:=@Nat.le_of_ble_eq_true
theorem dn:type_of%@if_neg:=@if_neg
theorem dp:type_of%@if_pos:=@if_pos
theorem dq {a b:Prop}(h:a)(k:¬a):b:=absurd h k
end Go.Proofs.YtmmdikhljefeiaaGreat

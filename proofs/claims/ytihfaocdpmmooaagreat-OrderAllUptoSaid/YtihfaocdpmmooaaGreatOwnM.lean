
import Derived.Test.YtihfaocdpmmooaaGreatZMap
import Derived.Laws.CopyRow
import Derived.Laws.CopyOwn
import Derived.Test.YtihfaocdpmmooaaGreatZPure
import Derived.Laws.AppendOwnNone
namespace Go.Proofs.YtihfaocdpmmooaaGreat
open Go.RowKit
def Own {α:Type}(w:World)(base:Nat)(e:TypeId)(sz:Nat)(f:α→List Value)(v:Value)(l:List α):Prop :=
 w.ownsRow base e sz v l.length (l.flatMap f)
section
variable {α:Type} {w w':World} {base:Nat} {t e:TypeId} {sz bytes:Nat} {f:α→List Value} {v:Value} {l:List α}
theorem Vr (hl:∀x,(f x).length=sz):∀(l:List α) (i:Nat) (x:α),l[i]?=some x→∀(j:Nat) (u:Value),(f x)[j]?=some u→(l.flatMap f)[i * sz+j]?=some u
 | [],i,x,h,_,_,_=>by simp at h
 | y::l,0,x,h,j,u,hu=>by
  simp only[List.getElem?_cons_zero,Option.some.injEq] at h
  subst h
  rw[List.flatMap_cons,Nat.zero_mul,ca,bk (ac.1 hu).1]
  exact hu
 | y::l,i+1,x,h,j,u,hu=>by
  rw[List.flatMap_cons,be (by rw[hl,Nat.add_mul];omega),hl,show(i+1) * sz+j - sz=i * sz+j by rw[Nat.add_mul];omega]
  exact Vr hl l i x (by simpa using h) j u hu
theorem Own.nil (w:World)(base:Nat)(e:TypeId)(sz:Nat)(f:α→List Value):Own w base e sz f (.slice none 0 0) []:=World.ownsRow_nil w base e sz
theorem Own.kept (h:Own w base e sz f v l){row:Option Nat}(hg:w.grownBy w' row)(hne:v.ownBlock=none∨v.ownBlock≠row):Own w' base e sz f v l:=World.ownsRow.kept h hg hne
theorem Own.below (h:Own w base e sz f v l){B:Nat}(hb:Below B w w')(hB:w.heap.size≤B):Own w' base e sz f v l:=by
 refine World.ownsRow.kept (row:=none) h ⟨hb.os,hb.tape,hb.output,hb.size,fun k hk _=>hb.block k (ap hk hB)⟩ ?_
 cases hv:v.ownBlock<;>simp
theorem Own.alloc (h:Own w base e sz f v l)(o:Obj):Own (w.alloc o) base e sz f v l:=World.ownsRow.alloc h o
theorem Own.drew (h:Own w base e sz f v l):Own w.drew base e sz f v l:=h
theorem Own.lt (h:Own w base e sz f v l):∀k,v.ownBlock=some k→base≤k∧k < w.heap.size:=World.ownsRow.lt h
theorem Own.val (h:Own w base e sz f v l):∃A c,v=.slice A l.length c∧l.length≤c∧c≤maxLen∧(∀a,A=some a→a.off=0∧base≤a.block∧a.block < w.heap.size)∧(A=none→l=[]):=by
 rcases h.2 with⟨rfl,h0⟩ | ⟨g,cap,cur,rfl,hb,hg,hn,hc,_⟩
 ·exact⟨none,0,by rw[h0],by omega,by simp[maxLen],fun a ha=>by simp at ha,fun _=>al h0⟩
 ·exact⟨_,cap,rfl,hn,hc,fun a ha=>by injection ha with ha;subst ha;exact⟨rfl,hb,(bo.1 hg).1⟩,fun h=>by cases h⟩
theorem Own.get (h:Own w base e sz f v l)(hl:∀x,(f x).length=sz){i:Nat}(hi:i < l.length){j:Nat}{u:Value}(hu:(f l[i])[j]?=some u):∃g c,v=.slice (some ⟨g,0,none⟩) l.length c∧base≤g∧g < w.heap.size∧w.cell? ⟨g,i * sz+j,none⟩=some u:=by
 rcases h.2 with⟨rfl,h0⟩ | ⟨g,cap,cur,rfl,hb,hg,hn,hc,hs,ht⟩
 ·omega
 ·refine⟨g,cap,rfl,hb,(bo.1 hg).1,?_⟩
  have h1:=Vr hl l i l[i] (ab hi) j u hu
  rw[←ht,bi] at h1
  rw[Z06 hg]
  split at h1
  ·simpa using h1
  ·cases h1
theorem Below.grownBy {B:Nat}{w0 w w':World}{row:Option Nat}(h:Below B w0 w)(hg:w.grownBy w' row)(hB:B≤w.heap.size)(hr:∀k,row=some k→B≤k):Below B w0 w':=Below.grown h hg hB hr
theorem Own.grown {B:Nat}{w0:World}(h:Own w base e sz f v l)(hb:Below B w0 w)(hg:w.grownBy w' v.ownBlock)(hB:B≤base)(hs:B≤w.heap.size):Below B w0 w' :=
 Below.grown hb hg hs (fun k hk=>b9 hB (h.lt k hk).1)
end
theorem Own.mono {α:Type}{w:World}{base base' sz:Nat}{e:TypeId}{f:α→List Value}{v:Value}{l:List α}(h:Own w base e sz f v l)(hb:base'≤base):Own w base' e sz f v l:=by
 rcases h with⟨h1,h2 | ⟨g,cap,cur,e1,h3,h4⟩⟩
 ·exact⟨h1,.inl h2⟩
 ·exact⟨h1,.inr ⟨g,cap,cur,e1,b9 hb h3,h4⟩⟩
def Tag (w:World)(e:TypeId)(A:Option Addr):Prop:=∀a,A=some a→∃cs fr,w.heap[a.block]?=some (.cells cs e fr)
theorem Tag.none (w:World)(e:TypeId):Tag w e none:=fun a h=>by cases h
theorem Tag.below {w w':World}{e:TypeId}{A:Option Addr}(h:Tag w e A)(hb:Below w.heap.size w w'):Tag w' e A:=fun a ha=>by
 obtain⟨cs,fr,hc⟩:=h a ha
 exact⟨cs,fr,(hb.block _ (bo.1 hc).1).trans hc⟩
theorem Tag.grown {w w':World}{e:TypeId}{A:Option Addr}{g:Nat}(h:Tag w e A)(hg:w.grownBy w' (some g)){cs:Array Value}{t:TypeId}{fr:Nat × Nat}(hc:w.heap[g]?=some (.cells cs t fr))(ht:t≠e):Tag w' e A:=fun a ha=>by
 obtain⟨cs',fr',hc'⟩:=h a ha
 refine⟨cs',fr',(hg.block _ (bo.1 hc').1 (fun e'=>?_)).trans hc'⟩
 injection e' with e'
 rw[e',hc] at hc'
 injection hc' with hc'
 injection hc' with _ e2 _
 exact ht e2
theorem Tag.ne {w:World}{e:TypeId}{A:Option Addr}{g:Nat}(h:Tag w e A){o:Obj}(ho:w.heap[g]?=some o)(hne:∀cs fr,o≠.cells cs e fr):∀a,A=some a→a.block≠g:=fun a ha e'=>by
 obtain⟨cs,fr,hc⟩:=h a ha
 rw[e',ho] at hc
 injection hc with hc
 exact hne _ _ hc
end Go.Proofs.YtihfaocdpmmooaaGreat

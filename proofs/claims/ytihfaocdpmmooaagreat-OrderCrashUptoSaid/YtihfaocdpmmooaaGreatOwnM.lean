
import Derived.Test.YtihfaocdpmmooaaGreatZMap
import Derived.Laws.CopyRow
import Derived.Laws.CopyOwn
import Derived.Test.YtihfaocdpmmooaaGreatZPure
import Derived.Laws.AppendOwnNone
namespace Go.Proofs.YtihfaocdpmmooaaGreat
open Go.RowKit
def Own {α:Type}(w:World)(base:Nat)(e:TypeId)(sz:Nat)(f:α→List Value)(v:Value)(l:List α):Prop :=
 w.ownsRow base e sz v l.length (l.flatMap f)
section
variable {α:Type} {w w':World} {base:Nat} {t e:TypeId} {sz bytes:Nat} {f:α→List Value} {v:Value} {l:List α}
theorem Yd (a:∀x,(f x).length=sz):∀(l:List α) (i:Nat) (x:α),l[i]?=some x→∀(j:Nat) (u:Value),(f x)[j]?=some u→(l.flatMap f)[i * sz+j]?=some u
 | [],i,x,h,_,_,_=>by simp at h
 | y::l,0,x,h,j,u,hu=>by simp only[List.getElem?_cons_zero,Option.some.injEq] at h;subst h;rw[List.flatMap_cons,Nat.zero_mul,cb,bl (ac.1 hu).1];exact hu
 | y::l,i+1,x,h,j,u,hu=>by rw[List.flatMap_cons,bf (by rw[a,Nat.add_mul];omega),a,show(i+1) * sz+j - sz=i * sz+j by rw[Nat.add_mul];omega];exact Yd a l i x (by simpa using h) j u hu
theorem Own.nil (w:World)(base:Nat)(e:TypeId)(sz:Nat)(f:α→List Value):Own w base e sz f (.slice none 0 0) []:=World.ownsRow_nil w base e sz
theorem Own.kept (h:Own w base e sz f v l){row:Option Nat}(b:w.grownBy w' row)(a:v.ownBlock=none∨v.ownBlock≠row):Own w' base e sz f v l:=World.ownsRow.kept h b a
theorem Own.below (h:Own w base e sz f v l){B:Nat}(a:Below B w w')(c:w.heap.size≤B):Own w' base e sz f v l:=by refine World.ownsRow.kept (row:=none) h ⟨a.os,a.tape,a.output,a.size,fun k b _=>a.block k (aq b c)⟩ ?_;cases hv:v.ownBlock<;>simp
theorem Own.alloc (h:Own w base e sz f v l)(o:Obj):Own (w.alloc o) base e sz f v l:=World.ownsRow.alloc h o
theorem Own.drew (h:Own w base e sz f v l):Own w.drew base e sz f v l:=h
theorem Own.lt (h:Own w base e sz f v l):∀k,v.ownBlock=some k→base≤k∧k < w.heap.size:=World.ownsRow.lt h
theorem Own.val (h:Own w base e sz f v l):∃A c,v=.slice A l.length c∧l.length≤c∧c≤maxLen∧(∀a,A=some a→a.off=0∧base≤a.block∧a.block < w.heap.size)∧(A=none→l=[]):=by
 rcases h.2 with⟨rfl,h0⟩ | ⟨g,cap,cur,rfl,hb,hg,hn,hc,_⟩
 ·exact⟨none,0,by rw[h0],by omega,by simp[maxLen],fun a ha=>by simp at ha,fun _=>am h0⟩
 ·exact⟨_,cap,rfl,hn,hc,fun a ha=>by injection ha with ha;subst ha;exact⟨rfl,hb,(bp.1 hg).1⟩,fun h=>by cases h⟩
theorem Own.get (h:Own w base e sz f v l)(d:∀x,(f x).length=sz){i:Nat}(hi:i < l.length){j:Nat}{u:Value}(b:(f l[i])[j]?=some u):∃g c,v=.slice (some ⟨g,0,none⟩) l.length c∧base≤g∧g < w.heap.size∧w.cell? ⟨g,i * sz+j,none⟩=some u:=by
 rcases h.2 with⟨rfl,h0⟩ | ⟨g,cap,cur,rfl,hb,hg,hn,hc,hs,ht⟩
 ·omega
 ·refine⟨g,cap,rfl,hb,(bp.1 hg).1,?_⟩;have a:=Yd d l i l[i] (ab hi) j u b;rw[←ht,bj] at a;rw[Z1x hg];split at a
  ·simpa using a
  ·cases a
theorem Below.grownBy {B:Nat}{w0 w w':World}{row:Option Nat}(h:Below B w0 w)(a:w.grownBy w' row)(b:B≤w.heap.size)(hr:∀k,row=some k→B≤k):Below B w0 w':=Below.grown h a b hr
theorem Own.grown {B:Nat}{w0:World}(h:Own w base e sz f v l)(a:Below B w0 w)(b:w.grownBy w' v.ownBlock)(g:B≤base)(d:B≤w.heap.size):Below B w0 w' :=
 Below.grown a b d (fun k c=>ca g (h.lt k c).1)
end
theorem Own.mono {α:Type}{w:World}{base a sz:Nat}{e:TypeId}{f:α→List Value}{v:Value}{l:List α}(h:Own w base e sz f v l)(c:a≤base):Own w a e sz f v l:=by
 rcases h with⟨b,h2 | ⟨g,cap,cur,e1,h3,h4⟩⟩
 ·exact⟨b,.inl h2⟩
 ·exact⟨b,.inr ⟨g,cap,cur,e1,ca c h3,h4⟩⟩
def Tag (w:World)(e:TypeId)(A:Option Addr):Prop:=∀a,A=some a→∃cs b,w.heap[a.block]?=some (.cells cs e b)
theorem Tag.none (w:World)(e:TypeId):Tag w e none:=fun a h=>by cases h
theorem Tag.below {w w':World}{e:TypeId}{A:Option Addr}(h:Tag w e A)(c:Below w.heap.size w w'):Tag w' e A:=fun a ha=>by obtain⟨cs,d,b⟩:=h a ha;exact⟨cs,d,(c.block _ (bp.1 b).1).trans b⟩
theorem Tag.grown {w w':World}{e:TypeId}{A:Option Addr}{g:Nat}(h:Tag w e A)(j:w.grownBy w' (some g)){cs:Array Value}{t:TypeId}{n:Nat × Nat}(m:w.heap[g]?=some (.cells cs t n))(k:t≠e):Tag w' e A:=fun a ha=>by obtain⟨c,d,b⟩:=h a ha;refine⟨c,d,(j.block _ (bp.1 b).1 (fun i=>?_)).trans b⟩;injection i with i;rw[i,m] at b;injection b with b;injection b with _ e2 _;exact k e2
theorem Tag.ne {w:World}{e:TypeId}{A:Option Addr}{g:Nat}(h:Tag w e A){o:Obj}(i:w.heap[g]?=some o)(c:∀cs d,o≠.cells cs e d):∀a,A=some a→a.block≠g:=fun a ha j=>by obtain⟨cs,d,b⟩:=h a ha;rw[j,i] at b;injection b with b;exact c _ _ b
end Go.Proofs.YtihfaocdpmmooaaGreat

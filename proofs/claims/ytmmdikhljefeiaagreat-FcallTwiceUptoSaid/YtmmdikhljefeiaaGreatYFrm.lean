
import Derived.Test.YtmmdikhljefeiaaGreatBM
import Derived.Test.YtmmdikhljefeiaaGreatYPure
namespace Go.Proofs.YtmmdikhljefeiaaGreat
open Go.RowKit Go.MapKept
structure Frm (S:List Nat)(w w':World):Prop where
 os:w'.os=w.os
 tape:w'.tape=w.tape
 output:w'.output=w.output
 size:w.heap.size<=w'.heap.size
 block:∀k,k < w.heap.size->k ∉ S->w'.heap[k]?=w.heap[k]?
theorem Frm.refl (S:List Nat)(w:World):Frm S w w:=⟨rfl,rfl,rfl,av _,λ_ _ _=>rfl⟩
theorem Frm.trans {S:List Nat}{a b c:World}(h:Frm S a b)(k:Frm S b c):Frm S a c :=
 ⟨k.os.trans h.os,k.tape.trans h.tape,k.output.trans h.output,cn h.size k.size,λi e d=>(k.block i (bd e h.size) d).trans (h.block i e d)⟩
theorem Frm.of_below {S:List Nat}{w w':World}(h:Below w.heap.size w w'):Frm S w w':=⟨h.os,h.tape,h.output,h.size,λk a _=>h.block k a⟩
theorem Frm.below {S:List Nat}{w0 w w':World}{B:Nat}(h:Frm S w w')(b:Below B w0 w)(e:B<=w.heap.size)(a:∀k∈S,B<=k):Below B w0 w' :=
 b.trans ⟨h.os,h.tape,h.output,h.size,λk d=>h.block k (by omega) (λc=>by have:=a k c;omega)⟩
theorem Frm.mono {S T:List Nat}{w w':World}(h:Frm S w w')(a:∀k∈S,k∈T):Frm T w w':=⟨h.os,h.tape,h.output,h.size,λk b c=>h.block k b (λd=>c (a k d))⟩
theorem Frm.setCell {S:List Nat}{a w:World}(h:Frm S a w){p:Addr}(b:p.block∈S\/a.heap.size<=p.block)(u:Value):Frm S a (w.setCell p u) :=
 ⟨h.os,h.tape,h.output,by simpa [World.setCell] using h.size,λi d c=>(Below.heap_setCell w p u i (by
  rintro rfl;rcases b with b | b
  .exact c b
  .omega)).trans (h.block i d c)⟩
theorem Frm.alloc {S:List Nat}{a w:World}(h:Frm S a w)(o:Obj):Frm S a (w.alloc o) :=
 ⟨h.os,h.tape,h.output,cn h.size (by simp),λi b c=>(ae w o i (bd b h.size)).trans (h.block i b c)⟩
theorem Frm.drew {S:List Nat}{a w:World}(h:Frm S a w):Frm S a w.drew:=⟨h.os,h.tape,h.output,h.size,h.block⟩
theorem Frm.putObj {S:List Nat}{a w:World}(h:Frm S a w){m:Nat}(b:m∈S\/a.heap.size<=m)(o:Obj):Frm S a (putObj w m o) :=
 ⟨h.os,h.tape,h.output,by rw[C8];exact h.size,λi d c=>(A9 w o (by
  rintro rfl;rcases b with b | b
  .exact c b
  .omega)).trans (h.block i d c)⟩
end Go.Proofs.YtmmdikhljefeiaaGreat

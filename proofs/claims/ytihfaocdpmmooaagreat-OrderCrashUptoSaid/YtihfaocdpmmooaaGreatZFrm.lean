
import Derived.Test.YtihfaocdpmmooaaGreatZMap
import Derived.Test.YtihfaocdpmmooaaGreatZPure
namespace Go.Proofs.YtihfaocdpmmooaaGreat
open Go.RowKit Go.MapKept
structure Frm (S:List Nat)(w w':World):Prop where
 os:w'.os=w.os
 tape:w'.tape=w.tape
 output:w'.output=w.output
 size:w.heap.size≤w'.heap.size
 block:∀k,k < w.heap.size→k ∉ S→w'.heap[k]?=w.heap[k]?
theorem Frm.refl (S:List Nat)(w:World):Frm S w w:=⟨rfl,rfl,rfl,af _,fun _ _ _=>rfl⟩
theorem Frm.trans {S:List Nat}{a b c:World}(h:Frm S a b)(k:Frm S b c):Frm S a c :=
 ⟨k.os.trans h.os,k.tape.trans h.tape,k.output.trans h.output,ca h.size k.size,fun i hi d=>(k.block i (aq hi h.size) d).trans (h.block i hi d)⟩
theorem Frm.of_below {S:List Nat}{w w':World}(h:Below w.heap.size w w'):Frm S w w':=⟨h.os,h.tape,h.output,h.size,fun k a _=>h.block k a⟩
theorem Frm.below {S:List Nat}{w0 w w':World}{B:Nat}(h:Frm S w w')(a:Below B w0 w)(e:B≤w.heap.size)(c:∀k∈S,B≤k):Below B w0 w' :=
 a.trans ⟨h.os,h.tape,h.output,h.size,fun k d=>h.block k (by omega) (fun b=>by have:=c k b;omega)⟩
theorem Frm.mono {S T:List Nat}{w w':World}(h:Frm S w w')(a:∀k∈S,k∈T):Frm T w w':=⟨h.os,h.tape,h.output,h.size,fun k d b=>h.block k d (fun c=>b (a k c))⟩
theorem Frm.alloc {S:List Nat}{a w:World}(h:Frm S a w)(o:Obj):Frm S a (w.alloc o) :=
 ⟨h.os,h.tape,h.output,ca h.size (by simp),fun i hi b=>(Below.heap_alloc w o i (aq hi h.size)).trans (h.block i hi b)⟩
theorem Frm.drew {S:List Nat}{a w:World}(h:Frm S a w):Frm S a w.drew:=⟨h.os,h.tape,h.output,h.size,h.block⟩
end Go.Proofs.YtihfaocdpmmooaaGreat

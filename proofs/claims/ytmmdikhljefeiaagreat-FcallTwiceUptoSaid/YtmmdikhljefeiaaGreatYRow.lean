
import Derived.Test.YtmmdikhljefeiaaGreatBM
import Derived.Laws.CopyRow
import Derived.Laws.CopyOwn
namespace Go.Proofs.YtmmdikhljefeiaaGreat
open Go.RowKit
section
variable {P:Program}
theorem Gw {w:World}{g:Nat}{a:Array Value}{t ty:TypeId}(j:w.heap[g]?=some (.cells a t (0,0))){cs:Array Value}(k:a.size=cs.size)(f:(P.info? ty).map (·.size)=some cs.size)(h:∀v∈cs.toList,v.oneCell'=true) :
  (Instr.storeAt ty (.pointer (some ⟨g,0,none⟩)) (.agg cs)).run P w=.ok () (w.setRow g cs):=by
 have b:=run_storeCells_at P g 0 t cs.toList 0 a w j (by simp;omega) h;obtain⟨i,d,c⟩:=bh.1 f;have e:(a.toList.take (0+0)++cs.toList++a.toList.drop (0+0+cs.toList.length)).toArray=cs:=by rw[dl (by simp;omega)];simp
 rw[e] at b;simp[Instr.storeAt,Instr.sureAddr,storeVar,Value.cells,sizeOf,typeInfo,d,c,b]
theorem Nx (w:World)(a cs:Array Value)(t:TypeId):(w.alloc (.cells a t)).setRow w.heap.size cs=w.alloc (.cells cs t):=by
 unfold World.setRow;have e:((w.alloc (.cells a t)).heap.modify w.heap.size λ| .cells _ elem frozen=>.cells cs elem frozen | o=>o)=(w.alloc (.cells cs t)).heap:=by
  apply Array.ext_getElem?;intro i;show((w.heap.push _).modify _ _)[i]?=(w.heap.push _)[i]?;rw[Array.getElem?_modify,Array.getElem?_push,Array.getElem?_push];by_cases h:w.heap.size=i
  .subst h;simp
  .rw[dp h,dp (λe=>h e.symm),dp (λe=>h e.symm)]
 exact congrArg (λh=>({(w.alloc (.cells a t)) with heap:=h}:World)) e
theorem As {ops:Array Oper}{b:List Oper}{o:Oper}{a:Act}{Q:Exit->Act->World->Prop}(e:o.guard=none)(ty:TypeId)(x y:Operand)(i:o.op=.store ty x y)
  (w:World) (d cs:Array Value) (t:TypeId) (n:a.eval x=.pointer (some ⟨w.heap.size,0,none⟩)) (j:a.eval y=.agg cs) (f:d.size=cs.size) (m:(P.info? ty).map (·.size)=some cs.size) (k:∀v∈cs.toList,v.oneCell'=true)
  (h:wpList P ops Q b (a.put o.dst undef) (w.alloc (.cells cs t))):wpList P ops Q (o::b) a (w.alloc (.cells d t)):=by
 refine wpList_plain e λK l=>?_;have c:=Gw (P:=P) (w:=w.alloc (.cells d t)) (g:=w.heap.size) (ty:=ty) (heap_alloc_new w _) f m k;rw[Nx] at c;unfold Oper.wp execOp;simp only[i,n,j,Sem.run_bind,c,Result.andThen_ok,Sem.run_pure];exact l _ _ h
end
end Go.Proofs.YtmmdikhljefeiaaGreat


import Derived.Test.YtmmdikhljefeiaaGreatBM
import Derived.Laws.CopyRow
import Derived.Laws.CopyOwn
namespace Go.Proofs.YtmmdikhljefeiaaGreat
open Go.RowKit
section
variable {P:Program}
theorem H9 {w:World}{g:Nat}{a:Array Value}{t ty:TypeId}(j:w.heap[g]?=some (.cells a t (0,0))){cs:Array Value}(h:a.size=cs.size)(k:(P.info? ty).map (·.size)=some cs.size)(f:∀v∈cs.toList,v.oneCell'=true) :
  (Instr.storeAt ty (.pointer (some ⟨g,0,none⟩)) (.agg cs)).run P w=.ok () (w.setRow g cs):=by
 have b:=run_storeCells_at P g 0 t cs.toList 0 a w j (by simp;omega) f;obtain⟨i,d,c⟩:=bg.1 k;have e:(a.toList.take (0+0)++cs.toList++a.toList.drop (0+0+cs.toList.length)).toArray=cs:=by rw[dm (by simp;omega)];simp
 rw[e] at b;simp[Instr.storeAt,Instr.sureAddr,storeVar,Value.cells,sizeOf,typeInfo,d,c,b]
theorem Oh (w:World)(a cs:Array Value)(t:TypeId):(w.alloc (.cells a t)).setRow w.heap.size cs=w.alloc (.cells cs t):=by
 unfold World.setRow;have e:((w.alloc (.cells a t)).heap.modify w.heap.size λ| .cells _ elem frozen=>.cells cs elem frozen | o=>o)=(w.alloc (.cells cs t)).heap:=by
  apply Array.ext_getElem?;intro i;show((w.heap.push _).modify _ _)[i]?=(w.heap.push _)[i]?;rw[Array.getElem?_modify,Array.getElem?_push,Array.getElem?_push];by_cases h:w.heap.size=i
  .subst h;simp
  .rw[dq h,dq (λe=>h e.symm),dq (λe=>h e.symm)]
 exact congrArg (λh=>({(w.alloc (.cells a t)) with heap:=h}:World)) e
theorem Au {ops:Array Oper}{c:List Oper}{o:Oper}{a:Act}{Q:Exit->Act->World->Prop}(f:o.guard=none)(ty:TypeId)(x y:Operand)(k:o.op=.store ty x y)
  (w:World) (d cs:Array Value) (t:TypeId) (m:a.eval x=.pointer (some ⟨w.heap.size,0,none⟩)) (n:a.eval y=.agg cs) (e:d.size=cs.size) (j:(P.info? ty).map (·.size)=some cs.size) (i:∀v∈cs.toList,v.oneCell'=true)
  (h:wpList P ops Q c (a.put o.dst undef) (w.alloc (.cells cs t))):wpList P ops Q (o::c) a (w.alloc (.cells d t)):=by
 refine wpList_plain f λK l=>?_;have b:=H9 (P:=P) (w:=w.alloc (.cells d t)) (g:=w.heap.size) (ty:=ty) (heap_alloc_new w _) e j i;rw[Oh] at b;unfold Oper.wp execOp;simp only[k,m,n,Sem.run_bind,b,Result.andThen_ok,Sem.run_pure];exact l _ _ h
end
end Go.Proofs.YtmmdikhljefeiaaGreat

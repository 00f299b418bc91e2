
import Derived.Test.YtmmdikhljefeiaaGreatBM
import Derived.Laws.CopyRow
import Derived.Laws.CopyOwn
namespace Go.Proofs.YtmmdikhljefeiaaGreat
open Go.RowKit
section
variable {P:Program}
theorem G3 {w:World}{g:Nat}{a:Array Value}{t ty:TypeId}(k:w.heap[g]?=some (.cells a t (0,0))){cs:Array Value}(j:a.size=cs.size)(h:(P.info? ty).map (·.size)=some cs.size)(f:∀v∈cs.toList,v.oneCell'=true) :
  (Instr.storeAt ty (.pointer (some ⟨g,0,none⟩)) (.agg cs)).run P w=.ok () (w.setRow g cs):=by
 have b:=run_storeCells_at P g 0 t cs.toList 0 a w k (by simp;omega) f;obtain⟨i,d,c⟩:=bg.1 h;have e:(a.toList.take (0+0)++cs.toList++a.toList.drop (0+0+cs.toList.length)).toArray=cs:=by rw[dk (by simp;omega)];simp
 rw[e] at b;simp[Instr.storeAt,Instr.sureAddr,storeVar,Value.cells,sizeOf,typeInfo,d,c,b]
theorem Mv (w:World)(a cs:Array Value)(t:TypeId):(w.alloc (.cells a t)).setRow w.heap.size cs=w.alloc (.cells cs t):=by
 unfold World.setRow;have e:((w.alloc (.cells a t)).heap.modify w.heap.size λ| .cells _ elem frozen=>.cells cs elem frozen | o=>o)=(w.alloc (.cells cs t)).heap:=by
  apply Array.ext_getElem?;intro i;show((w.heap.push _).modify _ _)[i]?=(w.heap.push _)[i]?;rw[Array.getElem?_modify,Array.getElem?_push,Array.getElem?_push];by_cases h:w.heap.size=i
  .subst h;simp
  .rw[dn h,dn (λe=>h e.symm),dn (λe=>h e.symm)]
 exact congrArg (λh=>({(w.alloc (.cells a t)) with heap:=h}:World)) e
theorem Ak {ops:Array Oper}{b:List Oper}{o:Oper}{a:Act}{Q:Exit->Act->World->Prop}(f:o.guard=none)(ty:TypeId)(x y:Operand)(k:o.op=.store ty x y)
  (w:World) (d cs:Array Value) (t:TypeId) (l:a.eval x=.pointer (some ⟨w.heap.size,0,none⟩)) (n:a.eval y=.agg cs) (e:d.size=cs.size) (j:(P.info? ty).map (·.size)=some cs.size) (m:∀v∈cs.toList,v.oneCell'=true)
  (h:wpList P ops Q b (a.put o.dst undef) (w.alloc (.cells cs t))):wpList P ops Q (o::b) a (w.alloc (.cells d t)):=by
 refine wpList_plain f λK i=>?_;have c:=G3 (P:=P) (w:=w.alloc (.cells d t)) (g:=w.heap.size) (ty:=ty) (heap_alloc_new w _) e j m;rw[Mv] at c;unfold Oper.wp execOp;simp only[k,l,n,Sem.run_bind,c,Result.andThen_ok,Sem.run_pure];exact i _ _ h
end
end Go.Proofs.YtmmdikhljefeiaaGreat

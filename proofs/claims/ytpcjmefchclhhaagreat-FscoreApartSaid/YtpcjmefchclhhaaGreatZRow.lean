/- A part of the proof. -/
import Derived.Test.YtpcjmefchclhhaaGreatZMap
import Derived.Laws.CopyRow
import Derived.Laws.CopyOwn
namespace Go.Proofs.YtpcjmefchclhhaaGreat
open Go.RowKit
section
variable {P : Program}
theorem run_storeAt_row {w : World} {g : Nat} {cur : Array Value} {t ty : TypeId} (hg : w.heap[g]? = some (.cells cur t (0, 0))) {cs : Array Value} (hsz : cur.size = cs.size) (hi : (P.info? ty).map (·.size) = some cs.size) (h1 : ∀ v ∈ cs.toList, v.oneCell' = true) :
  (Instr.storeAt ty (.pointer (some ⟨g, 0, none⟩)) (.agg cs)).run P w = .ok () (w.setRow g cs) := by
 have hst := run_storeCells_at P g 0 t cs.toList 0 cur w hg (by simp; omega) h1
 obtain ⟨i, hi1, hi2⟩ := Option.map_eq_some_iff.1 hi
 have e : (cur.toList.take (0 + 0) ++ cs.toList ++ cur.toList.drop (0 + 0 + cs.toList.length)).toArray = cs := by
  rw [List.drop_eq_nil_of_le (by simp; omega)]
  simp
 rw [e] at hst
 simp [Instr.storeAt, Instr.sureAddr, storeVar, Value.cells, sizeOf, typeInfo, hi1, hi2, hst]
theorem setRow_new (w : World) (cur cs : Array Value) (t : TypeId) : (w.alloc (.cells cur t)).setRow w.heap.size cs = w.alloc (.cells cs t) := by
 unfold World.setRow
 have e : ((w.alloc (.cells cur t)).heap.modify w.heap.size fun | .cells _ elem frozen => .cells cs elem frozen | o => o) = (w.alloc (.cells cs t)).heap := by
  apply Array.ext_getElem?
  intro i
  show ((w.heap.push _).modify _ _)[i]? = (w.heap.push _)[i]?
  rw [Array.getElem?_modify, Array.getElem?_push, Array.getElem?_push]
  by_cases h : w.heap.size = i
  ·subst h; simp
  ·rw [if_neg h, if_neg (fun e => h e.symm), if_neg (fun e => h e.symm)]
 exact congrArg (fun h => ({ (w.alloc (.cells cur t)) with heap := h } : World)) e
theorem wpList_store_new {ops : Array Oper} {rest : List Oper} {o : Oper} {a : Act} {Q : Exit → Act → World → Prop} (hgd : o.guard = none) (ty : TypeId) (x y : Operand) (ho : o.op = .store ty x y)
  (w : World) (cur cs : Array Value) (t : TypeId) (hx : a.eval x = .pointer (some ⟨w.heap.size, 0, none⟩)) (hy : a.eval y = .agg cs) (hsz : cur.size = cs.size) (hi : (P.info? ty).map (·.size) = some cs.size) (h1 : ∀ v ∈ cs.toList, v.oneCell' = true)
  (h : wpList P ops Q rest (a.put o.dst undef) (w.alloc (.cells cs t))) : wpList P ops Q (o :: rest) a (w.alloc (.cells cur t)) := by
 refine wpList_plain hgd fun K hK => ?_
 have hrun := run_storeAt_row (P := P) (w := w.alloc (.cells cur t)) (g := w.heap.size) (ty := ty) (heap_alloc_new w _) hsz hi h1
 rw [setRow_new] at hrun
 unfold Oper.wp execOp
 simp only [ho, hx, hy, Sem.run_bind, hrun, Result.andThen_ok, Sem.run_pure]
 exact hK _ _ h
end
end Go.Proofs.YtpcjmefchclhhaaGreat

/- 'append(s, y)' as one step of a region that draws its order. -/
import Derived.Test.YtpcjmefchclhhaaSet
import Derived.Deep.RegionLaw
import Derived.StillTailTactics
namespace Go.Proofs.Ytpcjmefchclhhaa
open Go.RowKit

theorem step_app1 {α : Type} {f : α → List Value} {ops : Array Oper} {o : Oper} {a : Act} {K : Act → World → Prop} {Q : Exit → Act → World → Prop} {E : Prop} (hgd : o.guard = none) (s x : Operand) (t : TypeId)
    (ho : o.op = .call { callee := .builtin .append, args := #[s, x], argTypes := #[t, t] }) (e : TypeId) (sz bytes : Nat) (T : SlT t e sz bytes f)
    (w : World) (base : Nat) (v : Value) (l : List α) (y : α) (cs : Array Value) (et : TypeId) (fr : Nat × Nat) (hs : a.eval s = v) (hx : a.eval x = .slice (some ⟨w.heap.size, 0, none⟩) 1 1) (hcs : cs.toList = f y)
    (hown : Own w base e sz f v l) (h63 : l.length + 1 ≤ maxLen) (hbytes : (l.length + 1) * bytes ≤ 140737488355328) (hbase : base ≤ w.heap.size)
    (h : ∀ v' w', Own w' base e sz f v' (l ++ [y]) → w.grownBy w' v.ownBlock → K (a.put o.dst v') w') :
    if Region.wanted o (yielded ops a.tmps) = true then Oper.wp Try.prog o a (w.alloc (.cells cs et fr)) K Q else E := by
  have hw : Region.wanted o (yielded ops a.tmps) = true := by simp [Region.wanted, hgd]
  rw [if_pos hw]
  obtain ⟨z, hz, hzs⟩ := T.info
  obtain ⟨i, hi, h1, h2, h3⟩ := info_parts hz
  refine wp_append_own _ s x t ho base e i z sz bytes T.under hi h1 h2 h3 hzs T.pos v l.length (l.flatMap f) hs (hown.alloc _) ⟨w.heap.size, 0, none⟩ 1 1 (f y) hx (by rw [T.len]; omega) ?_ (T.one y) h63 hbytes (by simp; omega) ?_
  · intro j u hu
    rw [add_zero_at, cell_at (heap_alloc_new w _)]
    rw [← hcs] at hu
    simpa using hu
  · intro v' w' hown' hgr _
    refine h v' w' ?_ ?_
    · unfold Own
      rw [List.length_append, List.flatMap_append]
      simpa using hown'
    · exact ⟨hgr.os, hgr.tape, hgr.output, Nat.le_trans (by simp) hgr.size, fun k hk hne => (hgr.block k (by simp; omega) hne).trans (Below.heap_alloc w _ k hk)⟩
end Go.Proofs.Ytpcjmefchclhhaa

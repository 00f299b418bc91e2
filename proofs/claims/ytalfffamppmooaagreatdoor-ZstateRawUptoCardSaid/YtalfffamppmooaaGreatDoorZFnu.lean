/- A part of the proof. -/
import Derived.Test.YtalfffamppmooaaGreatDoorSxMc
namespace Go.Proofs.YtalfffamppmooaaGreatDoor
open Go.RowKit
theorem fnuG {f : FuncId} {fn : Func} {c : Code} {gs gs0 : List G} {rs : List R} {own0 : Os} {n0 : Nat} {roots : List Nat} {Q : G → List R → Prop} (hf : Tryz.prog.funcs[f]? = some fn) (hname : (fn.name == "runtime.NumGoroutine") = false) (hb : fn.body = some c) (hn : gs0.length ≤ fn.ntmps) (hc : codeB tab fn.ntmps c = true) (ho : Lent rs gs own0 n0 gs0 roots) (h : sxC Tryz.prog tab c (args0 0 gs0) own0 n0 (sxResU tab fn roots Q)) : FnO Tryz.prog f gs rs Q :=
 fno_of_sxU (tab_ok tabG) (by kernel_rfl) hf hname hb hn hc ho h
end Go.Proofs.YtalfffamppmooaaGreatDoor

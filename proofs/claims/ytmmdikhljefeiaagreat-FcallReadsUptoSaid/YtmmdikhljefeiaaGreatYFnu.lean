
import Derived.Test.YtmmdikhljefeiaaGreatSxMc
namespace Go.Proofs.YtmmdikhljefeiaaGreat
open Go.RowKit
theorem Z5 {f:FuncId}{fn:Func}{c:Code}{gs b:List G}{rs:List R}{own0:Os}{e:Nat}{a:List Nat}{Q:G->List R->Prop}(i:Tryz.prog.funcs[f]?=some fn)(k:Za2 rs gs own0 e b a)(h:sxC Tryz.prog tab c (Jz 0 b) own0 e (Z1v tab fn a Q))(d:(fn.name=="runtime.NumGoroutine")=false:=by kernel_rfl) (g:fn.body=some c:=by exact rfl) (j:b.length<=fn.ntmps:=by exact dp (by kernel_rfl)) (l:Fi tab fn.ntmps c=true:=by kernel_rfl):FnO Tryz.prog f gs rs Q :=
 Xi (Z0f Zfl) (by kernel_rfl) i d g j l k h
end Go.Proofs.YtmmdikhljefeiaaGreat


import Derived.Test.YtmmdikhljefeiaaGreatSxMc
namespace Go.Proofs.YtmmdikhljefeiaaGreat
open Go.RowKit
theorem Z3e {f:FuncId}{fn:Func}{c:Code}{gs d:List G}{rs:List R}{own0:Os}{e:Nat}{a:List Nat}{Q:G->List R->Prop}(i:Tryz.prog.funcs[f]?=some fn)(k:Z8n rs gs own0 e d a)(h:sxC Tryz.prog tab c (Jh 0 d) own0 e (Zw tab fn a Q))(b:(fn.name=="runtime.NumGoroutine")=false:=by kernel_rfl) (j:fn.body=some c:=by exact rfl) (g:d.length<=fn.ntmps:=by exact dm (by kernel_rfl)) (l:Ez tab fn.ntmps c=true:=by kernel_rfl):FnO Tryz.prog f gs rs Q :=
 Vx (Z13 Zcr) (by kernel_rfl) i b j g l k h
end Go.Proofs.YtmmdikhljefeiaaGreat


import Derived.Test.YtmmdikhljefeiaaGreatSxMc
namespace Go.Proofs.YtmmdikhljefeiaaGreat
open Go.RowKit
theorem Z5u {f:FuncId}{fn:Func}{c:Code}{gs b:List G}{rs:List R}{own0:Os}{e:Nat}{a:List Nat}{Q:G->List R->Prop}(g:Tryz.prog.funcs[f]?=some fn)(i:Zal rs gs own0 e b a)(h:sxC Tryz.prog tab c (K9 0 b) own0 e (Zy tab fn a Q))(d:(fn.name=="runtime.NumGoroutine")=false:=by kernel_rfl) (k:fn.body=some c:=by exact rfl) (j:b.length<=fn.ntmps:=by exact dn (by kernel_rfl)) (l:Fd tab fn.ntmps c=true:=by kernel_rfl):FnO Tryz.prog f gs rs Q :=
 Wt (Z2a Zew) (by kernel_rfl) g d k j l i h
end Go.Proofs.YtmmdikhljefeiaaGreat


import Derived.Test.YtmmdikhljefeiaaGreatYBase
namespace Go.Proofs.YtmmdikhljefeiaaGreat
open Go.RowKit
theorem D7 {B:Nat}{a w:World}(h:Below B a w)(n:Nat):Below B a (w.drewN n):=⟨h.os,h.tape,h.output,h.size,h.block⟩
def Ever (w0:World)(f:FuncId)(args:Array Value)(v:Value):Prop :=
 ∀w,Below w0.heap.size w0 w->Calls Tryz.prog f args w λe w'=>e=.returned v/\Below w0.heap.size w0 w'
section
variable {w0:World} {f:FuncId} {args:Array Value} {v:Value}
theorem Ever.at_ (h:Hid (Ever w0 f args v))(w:World)(a:Below w0.heap.size w0 w):Calls Tryz.prog f args w λe w'=>e=.returned v/\Below w0.heap.size w0 w':=h.out w a
end
end Go.Proofs.YtmmdikhljefeiaaGreat

/- Contracts of functions that write nothing that was there, said from a base world on. -/
import Derived.Test.YtpcjmefchclhhaaBase
namespace Go.Proofs.Ytpcjmefchclhhaa
open Go.RowKit

theorem below_drewN {B : Nat} {a w : World} (h : Below B a w) (n : Nat) : Below B a (w.drewN n) := ⟨h.os, h.tape, h.output, h.size, h.block⟩

/-- From a base world on: whatever was made since, the call answers v and writes nothing that was there. -/
def Ever (w0 : World) (f : FuncId) (args : Array Value) (v : Value) : Prop :=
  ∀ w, Below w0.heap.size w0 w → Calls Try.prog f args w fun e w' => e = .returned v ∧ Below w0.heap.size w0 w'
section
variable {w0 : World} {f : FuncId} {args : Array Value} {v : Value}
theorem ever_below (h : ∀ w, Below w0.heap.size w0 w → Calls Try.prog f args w fun e w' => e = .returned v ∧ Below w.heap.size w w') : Ever w0 f args v :=
  fun w hb => (h w hb).mono fun _ _ ⟨he, hb'⟩ => ⟨he, hb.trans (hb'.mono hb.size)⟩
theorem ever_drew (h : ∀ w, Below w0.heap.size w0 w → Calls Try.prog f args w fun e w' => e = .returned v ∧ ∃ n, w' = w.drewN n) : Ever w0 f args v :=
  fun w hb => (h w hb).mono fun _ _ ⟨he, n, hn⟩ => ⟨he, by subst hn; exact below_drewN hb n⟩
theorem ever_same (h : ∀ w, Below w0.heap.size w0 w → Calls Try.prog f args w fun e w' => e = .returned v ∧ w = w') : Ever w0 f args v :=
  fun w hb => (h w hb).mono fun _ _ ⟨he, hn⟩ => ⟨he, by subst hn; exact hb⟩
theorem Ever.at_ (h : Hid (Ever w0 f args v)) (w : World) (hb : Below w0.heap.size w0 w) : Calls Try.prog f args w fun e w' => e = .returned v ∧ Below w0.heap.size w0 w' := h.out w hb
end
end Go.Proofs.Ytpcjmefchclhhaa

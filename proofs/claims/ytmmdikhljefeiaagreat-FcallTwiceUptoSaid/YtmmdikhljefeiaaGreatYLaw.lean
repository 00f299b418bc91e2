
import Derived.Test.YtmmdikhljefeiaaGreatYBase
import Derived.ProofKit
import Derived.OpenShut
import Derived.ChangeOld
import Derived.Deep.Slices
import Derived.SizedLaws
namespace Go.Proofs.YtmmdikhljefeiaaGreat
open Go.ChangeShapes Go.WideShapes Go.ChangeAt Go.RowKit
theorem own:ownKnob Tryz.prog.godebug=none:=by kernel_rfl
theorem Z9l:laidOutB Tryz.prog=true:=by kernel_rfl
theorem Pk {H:Type}{enc:TypeId × Value->H}{P:Program}(f:laidOutB P=true){W k:World}(c:List TypeId):∀{vs:List Value} {ds:List (DataW H)} {e:List MemPlace},
  DataW.TrodAll enc P W 0 (λ_=>true) true c vs ds e->(∀t∈c,P.readableRec t=true/\t < P.types.size)->Below W.heap.size W k ->
   DataW.TrodAll enc P k 0 (λb=>decide (b < W.heap.size)) true c vs ds e:=by
 induction c with
 | nil =>
  intro vs ds e h _ _;obtain⟨rfl,rfl,rfl⟩:=trodAll_nil h;exact trodAll_mk0
 | cons t c ih =>
  intro vs ds e h a i;obtain⟨v,o,d,l,p,q,rfl,rfl,rfl,j,hr⟩:=trodAll_cons h;have g:∀x∈p,x.block < W.heap.size:=by obtain⟨m,r⟩:=j;exact DataW.trod_lt m _ _ _ r
  exact trodAll_cons_mk (Below.trod f (a t (by simp)).1 (a t (by simp)).2 j i g) (ih hr (λu n=>a u (by simp[n])) i)
theorem Tk {H:Type}{enc:TypeId × Value->H}{P:Program}{W:World}{a:Nat->Bool}(b:List TypeId):∀{vs:List Value} {ds:List (DataW H)} {c:List MemPlace},
  DataW.TrodAll enc P W 0 a true b vs ds c->ds.length=b.length:=by
 induction b with
 | nil =>
  intro vs ds c h;obtain⟨rfl,rfl,rfl⟩:=trodAll_nil h;rfl
 | cons t b ih =>
  intro vs ds c h;obtain⟨v,f,d,e,p,q,rfl,rfl,rfl,g,hr⟩:=trodAll_cons h;simp[ih hr]
section
variable {W:World} {H:Type} {enc:TypeId × Value->H}
end
end Go.Proofs.YtmmdikhljefeiaaGreat

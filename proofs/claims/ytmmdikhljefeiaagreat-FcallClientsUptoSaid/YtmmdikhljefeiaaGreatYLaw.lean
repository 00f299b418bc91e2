
import Derived.Test.YtmmdikhljefeiaaGreatYBase
import Derived.ProofKit
import Derived.OpenShut
import Derived.ChangeOld
import Derived.Deep.Slices
import Derived.SizedLaws
namespace Go.Proofs.YtmmdikhljefeiaaGreat
open Go.ChangeShapes Go.WideShapes Go.ChangeAt Go.RowKit
theorem own:ownKnob Tryz.prog.godebug=none:=by kernel_rfl
theorem Z9d:laidOutB Tryz.prog=true:=by kernel_rfl
theorem Oj {H:Type}{enc:TypeId × Value->H}{P:Program}(g:laidOutB P=true){W i:World}(c:List TypeId):∀{vs:List Value} {ds:List (DataW H)} {e:List MemPlace},
  DataW.TrodAll enc P W 0 (λ_=>true) true c vs ds e->(∀t∈c,P.readableRec t=true/\t < P.types.size)->Below W.heap.size W i ->
   DataW.TrodAll enc P i 0 (λb=>decide (b < W.heap.size)) true c vs ds e:=by
 induction c with
 | nil =>
  intro vs ds e h _ _;obtain⟨rfl,rfl,rfl⟩:=trodAll_nil h;exact trodAll_mk0
 | cons t c ih =>
  intro vs ds e h a j;obtain⟨v,r,d,n,p,q,rfl,rfl,rfl,k,hr⟩:=trodAll_cons h;have f:∀x∈p,x.block < W.heap.size:=by obtain⟨m,l⟩:=k;exact DataW.trod_lt m _ _ _ l
  exact trodAll_cons_mk (Below.trod g (a t (by simp)).1 (a t (by simp)).2 k j f) (ih hr (λu o=>a u (by simp[o])) j)
theorem Tj {H:Type}{enc:TypeId × Value->H}{P:Program}{W:World}{a:Nat->Bool}(b:List TypeId):∀{vs:List Value} {ds:List (DataW H)} {c:List MemPlace},
  DataW.TrodAll enc P W 0 a true b vs ds c->ds.length=b.length:=by
 induction b with
 | nil =>
  intro vs ds c h;obtain⟨rfl,rfl,rfl⟩:=trodAll_nil h;rfl
 | cons t b ih =>
  intro vs ds c h;obtain⟨v,f,d,e,p,q,rfl,rfl,rfl,g,hr⟩:=trodAll_cons h;simp[ih hr]
section
variable {W:World} {H:Type} {enc:TypeId × Value->H}
end
end Go.Proofs.YtmmdikhljefeiaaGreat


import Derived.Test.YtihfaocdpmmooaaGreatZBase
import Derived.ProofKit
import Derived.OpenShut
import Derived.ChangeOld
import Derived.Deep.Slices
import Derived.SizedLaws
namespace Go.Proofs.YtihfaocdpmmooaaGreat
open Go.ChangeShapes Go.WideShapes Go.ChangeAt Go.RowKit
theorem own:ownKnob Tryz.prog.godebug=none:=by kernel_rfl
theorem Z92:laidOutB Tryz.prog=true:=by kernel_rfl
theorem P3 {H:Type}{enc:TypeId × Value→H}{P:Program}(hlo:laidOutB P=true){W W':World}(ts:List TypeId):∀{vs:List Value} {ds:List (DataW H)} {ps:List MemPlace},
  DataW.TrodAll enc P W 0 (fun _=>true) true ts vs ds ps→(∀t∈ts,P.readableRec t=true∧t < P.types.size)→Below W.heap.size W W' →
   DataW.TrodAll enc P W' 0 (fun b=>decide (b < W.heap.size)) true ts vs ds ps:=by
 induction ts with
 | nil =>
  intro vs ds ps h _ _
  obtain⟨rfl,rfl,rfl⟩:=trodAll_nil h
  exact trodAll_mk0
 | cons t ts ih =>
  intro vs ds ps h hok hb
  obtain⟨v,vs',d,ds',p,q,rfl,rfl,rfl,h0,hr⟩:=trodAll_cons h
  have hlt:∀x∈p,x.block < W.heap.size:=by
   obtain⟨m,hm⟩:=h0
   exact DataW.trod_lt m _ _ _ hm
  exact trodAll_cons_mk (Below.trod hlo (hok t (by simp)).1 (hok t (by simp)).2 h0 hb hlt) (ih hr (fun u hu=>hok u (by simp[hu])) hb)
theorem Sl {H:Type}{enc:TypeId × Value→H}{P:Program}{W:World}{spare:Nat→Bool}(ts:List TypeId):∀{vs:List Value} {ds:List (DataW H)} {ps:List MemPlace},
  DataW.TrodAll enc P W 0 spare true ts vs ds ps→ds.length=ts.length:=by
 induction ts with
 | nil =>
  intro vs ds ps h
  obtain⟨rfl,rfl,rfl⟩:=trodAll_nil h
  rfl
 | cons t ts ih =>
  intro vs ds ps h
  obtain⟨v,vs',d,ds',p,q,rfl,rfl,rfl,h0,hr⟩:=trodAll_cons h
  simp[ih hr]
section
variable {W:World} {H:Type} {enc:TypeId × Value→H}
end
end Go.Proofs.YtihfaocdpmmooaaGreat


import Derived.Test.YtihfaocdpmmooaaGreatZLaw
import Derived.Deep.DeepHandedRow
namespace Go.Proofs.YtihfaocdpmmooaaGreat
open Go.ChangeShapes Go.WideShapes Go.ChangeAt Go.RowKit
structure Z8j (W:World)(fn:Func)(args:Array Value):Prop where
 read:∃(H:Type) (enc:TypeId × Value→H) (ds:List (DataW H)) (p:List MemPlace),DataW.TrodAll enc Tryz.prog W 0 (fun _=>true) true fn.params.toList args.toList ds p∧Rows.uptoBulkAll ds≤1048576
 val:∃base,∀(j:Nat) t v,fn.params[j]?=some t→args[j]?=some v→Value.okWide Tryz.prog W .any base t v
set_option maxRecDepth 100000 in
theorem Rv {F:FuncId}{fn:Func}{s:ChangeSpec}{dom:List PathCond}{laid:List (String × DataW Unit)}(os:Os)(std:os.Started)(H:Type)(enc:TypeId × Value→H)(St:Stop.Interp)
  (hi:Tryz.prog.inits.idxOf? F=none) (hf:Tryz.prog.funcs[F]?=some fn) (hvars:s.vars=[]) (hres:fn.resultTypes=#[4])
  (hok:∀t∈fn.params.toList,Tryz.prog.readableRec t=true∧t < Tryz.prog.types.size)
  (hspec:∀ds:List (DataW H),ds.length=fn.params.toList.length→(s.fn H ds).results=[.lit (.bool true)]∧(s.fn H ds).args=ds∧(s.fn H ds).vars=[])
  (hwit:∃(w:World) (tape:Tape) (i:Input),w.os=os∧(w.forCall tape i).Shaped Tryz.prog∧i.vars=[]∧Input.okWide Tryz.prog (w.forCall tape i) .any w.heap.size F i ∧
   (Rows.OpenSpec.upto s).preRow enc Tryz.prog fn dom false laid (w.forCall tape i).memory i.args∧(({}:Assume)).holds Tryz.prog (lone (Frame.enter Tryz.prog F i.args .normal) [] (w.forCall tape i)))
  (hwalk:∀(W:World) (args:Array Value),Z8j W fn args→Calls Tryz.prog F args W fun e W'=>e=.returned (.bool true)∧Below W.heap.size W W') :
  ReturnsInHanded {} Tryz.checked os F .any ((Rows.OpenSpec.upto s).preRow enc Tryz.prog fn dom false laid) (((Rows.OpenSpec.upto s).at St).post enc Tryz.prog fn false true false false):=by
 refine returnsInHanded_of_row (C:=Tryz.checked) (s:=Rows.OpenSpec.upto s) own std hi hf hwit ?_
 intro W base args ds gs before hval hW _ hcond _ _ _ _
 have hW':=hW
 obtain⟨p,q,hA,hV,rfl,hfz,hnd⟩:=hW
 have hvars':(Rows.OpenSpec.upto s).vars=[]:=hvars
 rw[hvars'] at hV
 obtain⟨rfl,rfl⟩:=trodVars_none hV
 simp only[List.append_nil] at hW'
 have hk:=hcond _ rfl
 rw[cy] at hk
 have hk:Rows.uptoBulkAll ds≤1048576:=of_decide_eq_true hk
 refine(hwalk W args ⟨⟨H,enc,ds,p,hA,hk⟩,⟨base,hval⟩⟩).mono fun e W' ⟨he,bel⟩=>?_
 subst he
 have hs:=hspec (ds++[]) (by simpa using Sl _ hA)
 refine⟨_,rfl,ds,[],p,[],p,[],hW',?_,?_,?_,bel.frame _,fun h=>by cases h⟩
 ·rw[show(((Rows.OpenSpec.upto s).at St).fn H (ds++[])).results=[.lit (.bool true)] from hs.1,hres]
  exact trodAll_mk1 (shut_bool Tryz.underlying4 _)
 ·rw[show(((Rows.OpenSpec.upto s).at St).fn H (ds++[])).args=ds++[] from hs.2.1,cy]
  exact P3 Z92 _ hA hok bel
 ·have e:((Rows.OpenSpec.upto s).at St).vars=[]:=hvars
  rw[e,show(((Rows.OpenSpec.upto s).at St).fn H (ds++[])).vars=[] from hs.2.2]
  rfl
end Go.Proofs.YtihfaocdpmmooaaGreat

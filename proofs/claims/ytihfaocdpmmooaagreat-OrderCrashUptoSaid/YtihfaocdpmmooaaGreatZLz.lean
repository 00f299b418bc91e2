
import Derived.Test.YtihfaocdpmmooaaGreatZLaw
import Derived.Deep.DeepHandedRow
namespace Go.Proofs.YtihfaocdpmmooaaGreat
open Go.ChangeShapes Go.WideShapes Go.ChangeAt Go.RowKit
structure Z9p (W:World)(fn:Func)(args:Array Value):Prop where
 read:∃(H:Type) (enc:TypeId × Value→H) (ds:List (DataW H)) (p:List MemPlace),DataW.TrodAll enc Tryz.prog W 0 (fun _=>true) true fn.params.toList args.toList ds p∧Rows.uptoBulkAll ds≤1048576
 val:∃base,∀(j:Nat) t v,fn.params[j]?=some t→args[j]?=some v→Value.okWide Tryz.prog W .any base t v
set_option maxRecDepth 100000 in
theorem Tt {F:FuncId}{fn:Func}{s:ChangeSpec}{l:List PathCond}{laid:List (String × DataW Unit)}(os:Os)(std:os.Started)(H:Type)(enc:TypeId × Value→H)(j:Stop.Interp)
  (hi:Tryz.prog.inits.idxOf? F=none) (hf:Tryz.prog.funcs[F]?=some fn) (a:s.vars=[]) (g:fn.resultTypes=#[4])
  (x:∀t∈fn.params.toList,Tryz.prog.readableRec t=true∧t < Tryz.prog.types.size)
  (c:∀ds:List (DataW H),ds.length=fn.params.toList.length→(s.fn H ds).results=[.lit (.bool true)]∧(s.fn H ds).args=ds∧(s.fn H ds).vars=[])
  (m:∃(w:World) (tape:Tape) (i:Input),w.os=os∧(w.forCall tape i).Shaped Tryz.prog∧i.vars=[]∧Input.okWide Tryz.prog (w.forCall tape i) .any w.heap.size F i ∧
   (Rows.OpenSpec.upto s).preRow enc Tryz.prog fn l false laid (w.forCall tape i).memory i.args∧(({}:Assume)).holds Tryz.prog (lone (Frame.enter Tryz.prog F i.args .normal) [] (w.forCall tape i)))
  (d:∀(W:World) (args:Array Value),Z9p W fn args→Calls Tryz.prog F args W fun e z=>e=.returned (.bool true)∧Below W.heap.size W z) :
  ReturnsInHanded {} Tryz.checked os F .any ((Rows.OpenSpec.upto s).preRow enc Tryz.prog fn l false laid) (((Rows.OpenSpec.upto s).at j).post enc Tryz.prog fn false true false false):=by
 refine returnsInHanded_of_row (C:=Tryz.checked) (s:=Rows.OpenSpec.upto s) own std hi hf m ?_;intro W base args ds G o k y _ f _ _ _ _;have n:=y;obtain⟨p,q,u,A,rfl,B,D⟩:=y;have b:(Rows.OpenSpec.upto s).vars=[]:=a;rw[b] at A;obtain⟨rfl,rfl⟩:=trodVars_none A;simp only[List.append_nil] at n;have r:=f _ rfl;rw[cz] at r;have r:Rows.uptoBulkAll ds≤1048576:=of_decide_eq_true r;refine(d W args ⟨⟨H,enc,ds,p,u,r⟩,⟨base,k⟩⟩).mono fun e z ⟨E,bel⟩=>?_;subst E;have v:=c (ds++[]) (by simpa using Tn _ u);refine⟨_,rfl,ds,[],p,[],p,[],n,?_,?_,?_,bel.frame _,fun h=>by cases h⟩
 ·rw[show(((Rows.OpenSpec.upto s).at j).fn H (ds++[])).results=[.lit (.bool true)] from v.1,g];exact trodAll_mk1 (shut_bool Tryz.underlying4 _)
 ·rw[show(((Rows.OpenSpec.upto s).at j).fn H (ds++[])).args=ds++[] from v.2.1,cz];exact Or Zcl _ u x bel
 ·have e:((Rows.OpenSpec.upto s).at j).vars=[]:=a;rw[e,show(((Rows.OpenSpec.upto s).at j).fn H (ds++[])).vars=[] from v.2.2];rfl
end Go.Proofs.YtihfaocdpmmooaaGreat

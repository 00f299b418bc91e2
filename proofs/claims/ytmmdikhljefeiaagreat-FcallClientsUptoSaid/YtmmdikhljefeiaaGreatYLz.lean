
import Derived.Test.YtmmdikhljefeiaaGreatYLaw
import Derived.Deep.DeepHandedRow
namespace Go.Proofs.YtmmdikhljefeiaaGreat
open Go.ChangeShapes Go.WideShapes Go.ChangeAt Go.RowKit
structure Se (W:World)(fn:Func)(args:Array Value):Prop where
 read:∃(H:Type) (enc:TypeId × Value->H) (ds:List (DataW H)) (p:List MemPlace),DataW.TrodAll enc Tryz.prog W 0 (λ_=>true) true fn.params.toList args.toList ds p/\Rows.uptoBulkAll ds<=1048576
 val:∃base,∀(j:Nat) t v,fn.params[j]?=some t->args[j]?=some v->Value.okWide Tryz.prog W .any base t v
set_option maxRecDepth 100000 in
theorem Fy {F:FuncId}{fn:Func}{s:ChangeSpec}{k:List PathCond}{laid:List (String × DataW Unit)}(os:Os)(u:os.Started)(H:Type)(enc:TypeId × Value->H)(g:Stop.Interp)
  (J:Tryz.prog.inits.idxOf? F=none) (D:Tryz.prog.funcs[F]?=some fn) (a:s.vars=[]) (n:fn.resultTypes=#[4])
  (v:∀t∈fn.params.toList,Tryz.prog.readableRec t=true/\t < Tryz.prog.types.size)
  (d:∀ds:List (DataW H),ds.length=fn.params.toList.length->(s.fn H ds).results=[.lit (.bool true)]/\(s.fn H ds).args=ds/\(s.fn H ds).vars=[])
  (j:∃(w:World) (tape:Tape) (i:Input),w.os=os/\(w.forCall tape i).Shaped Tryz.prog/\i.vars=[]/\Input.okWide Tryz.prog (w.forCall tape i) .any w.heap.size F i /\
   (Rows.OpenSpec.upto s).preRow enc Tryz.prog fn k false laid (w.forCall tape i).memory i.args/\(({}:Assume)).holds Tryz.prog (lone (Frame.enter Tryz.prog F i.args .normal) [] (w.forCall tape i)))
  (f:∀(W:World) (args:Array Value),Se W fn args->Calls Tryz.prog F args W λe B=>e=.returned (.bool true)/\Below W.heap.size W B) :
  ReturnsInHanded {} Tryz.checked os F .any ((Rows.OpenSpec.upto s).preRow enc Tryz.prog fn k false laid) (((Rows.OpenSpec.upto s).at g).post enc Tryz.prog fn false true false false):=by
 refine returnsInHanded_of_row (C:=Tryz.checked) (s:=Rows.OpenSpec.upto s) own u J D j ?_;intro W base args ds gs r l A _ c _ _ _ _;have m:=A;obtain⟨p,q,x,z,rfl,G,E⟩:=A;have b:(Rows.OpenSpec.upto s).vars=[]:=a;rw[b] at z;obtain⟨rfl,rfl⟩:=trodVars_none z;simp only[List.append_nil] at m;have o:=c _ rfl;rw[dl] at o;have o:Rows.uptoBulkAll ds<=1048576:=of_decide_eq_true o;refine(f W args ⟨⟨H,enc,ds,p,x,o⟩,⟨base,l⟩⟩).mono λe B ⟨I,bel⟩=>?_;subst I;have y:=d (ds++[]) (by simpa using Tj _ x);refine⟨_,rfl,ds,[],p,[],p,[],m,?_,?_,?_,bel.frame _,λh=>by cases h⟩
 .rw[show(((Rows.OpenSpec.upto s).at g).fn H (ds++[])).results=[.lit (.bool true)] from y.1,n];exact trodAll_mk1 (shut_bool Tryz.underlying4 _)
 .rw[show(((Rows.OpenSpec.upto s).at g).fn H (ds++[])).args=ds++[] from y.2.1,dl];exact Oj Z9d _ x v bel
 .have e:((Rows.OpenSpec.upto s).at g).vars=[]:=a;rw[e,show(((Rows.OpenSpec.upto s).at g).fn H (ds++[])).vars=[] from y.2.2];rfl
end Go.Proofs.YtmmdikhljefeiaaGreat

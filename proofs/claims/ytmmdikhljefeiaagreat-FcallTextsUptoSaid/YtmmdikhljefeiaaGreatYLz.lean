
import Derived.Test.YtmmdikhljefeiaaGreatYLaw
import Derived.Deep.DeepHandedRow
namespace Go.Proofs.YtmmdikhljefeiaaGreat
open Go.ChangeShapes Go.WideShapes Go.ChangeAt Go.RowKit
structure Z4 (W:World)(fn:Func)(args:Array Value):Prop where
 read:∃(H:Type) (enc:TypeId × Value->H) (ds:List (DataW H)) (p:List MemPlace),DataW.TrodAll enc Tryz.prog W 0 (λ_=>true) true fn.params.toList args.toList ds p/\Rows.uptoBulkAll ds<=1048576
 val:∃base,∀(j:Nat) t v,fn.params[j]?=some t->args[j]?=some v->Value.okWide Tryz.prog W .any base t v
set_option maxRecDepth 100000 in
theorem Lg {F:FuncId}{fn:Func}{s:ChangeSpec}{j:List PathCond}{laid:List (String × DataW Unit)}(os:Os)(x:os.Started)(H:Type)(enc:TypeId × Value->H)(n:Stop.Interp)
  (G:Tryz.prog.inits.idxOf? F=none) (J:Tryz.prog.funcs[F]?=some fn) (a:s.vars=[]) (k:fn.resultTypes=#[4])
  (v:∀t∈fn.params.toList,Tryz.prog.readableRec t=true/\t < Tryz.prog.types.size)
  (d:∀ds:List (DataW H),ds.length=fn.params.toList.length->(s.fn H ds).results=[.lit (.bool true)]/\(s.fn H ds).args=ds/\(s.fn H ds).vars=[])
  (m:∃(w:World) (tape:Tape) (i:Input),w.os=os/\(w.forCall tape i).Shaped Tryz.prog/\i.vars=[]/\Input.okWide Tryz.prog (w.forCall tape i) .any w.heap.size F i /\
   (Rows.OpenSpec.upto s).preRow enc Tryz.prog fn j false laid (w.forCall tape i).memory i.args/\(({}:Assume)).holds Tryz.prog (lone (Frame.enter Tryz.prog F i.args .normal) [] (w.forCall tape i)))
  (c:∀(W:World) (args:Array Value),Z4 W fn args->Calls Tryz.prog F args W λe B=>e=.returned (.bool true)/\Below W.heap.size W B) :
  ReturnsInHanded {} Tryz.checked os F .any ((Rows.OpenSpec.upto s).preRow enc Tryz.prog fn j false laid) (((Rows.OpenSpec.upto s).at n).post enc Tryz.prog fn false true false false):=by
 refine returnsInHanded_of_row (C:=Tryz.checked) (s:=Rows.OpenSpec.upto s) own x G J m ?_;intro W base args ds gs r g A _ f _ _ _ _;have l:=A;obtain⟨p,q,u,z,rfl,D,E⟩:=A;have b:(Rows.OpenSpec.upto s).vars=[]:=a;rw[b] at z;obtain⟨rfl,rfl⟩:=trodVars_none z;simp only[List.append_nil] at l;have o:=f _ rfl;rw[dj] at o;have o:Rows.uptoBulkAll ds<=1048576:=of_decide_eq_true o;refine(c W args ⟨⟨H,enc,ds,p,u,o⟩,⟨base,g⟩⟩).mono λe B ⟨I,bel⟩=>?_;subst I;have y:=d (ds++[]) (by simpa using Ss _ u);refine⟨_,rfl,ds,[],p,[],p,[],l,?_,?_,?_,bel.frame _,λh=>by cases h⟩
 .rw[show(((Rows.OpenSpec.upto s).at n).fn H (ds++[])).results=[.lit (.bool true)] from y.1,k];exact trodAll_mk1 (shut_bool Tryz.underlying4 _)
 .rw[show(((Rows.OpenSpec.upto s).at n).fn H (ds++[])).args=ds++[] from y.2.1,dj];exact Oo Z7h _ u v bel
 .have e:((Rows.OpenSpec.upto s).at n).vars=[]:=a;rw[e,show(((Rows.OpenSpec.upto s).at n).fn H (ds++[])).vars=[] from y.2.2];rfl
end Go.Proofs.YtmmdikhljefeiaaGreat

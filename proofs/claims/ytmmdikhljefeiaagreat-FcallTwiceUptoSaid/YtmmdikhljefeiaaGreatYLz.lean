
import Derived.Test.YtmmdikhljefeiaaGreatYLaw
import Derived.Deep.DeepHandedRow
namespace Go.Proofs.YtmmdikhljefeiaaGreat
open Go.ChangeShapes Go.WideShapes Go.ChangeAt Go.RowKit
structure Z7a (W:World)(fn:Func)(args:Array Value):Prop where
 read:∃(H:Type) (enc:TypeId × Value->H) (ds:List (DataW H)) (p:List MemPlace),DataW.TrodAll enc Tryz.prog W 0 (λ_=>true) true fn.params.toList args.toList ds p/\Rows.uptoBulkAll ds<=1048576
 val:∃base,∀(j:Nat) t v,fn.params[j]?=some t->args[j]?=some v->Value.okWide Tryz.prog W .any base t v
set_option maxRecDepth 100000 in
theorem Tx {F:FuncId}{fn:Func}{s:ChangeSpec}{j:List PathCond}{laid:List (String × DataW Unit)}(os:Os)(v:os.Started)(H:Type)(enc:TypeId × Value->H)(k:Stop.Interp)
  (J:Tryz.prog.inits.idxOf? F=none) (D:Tryz.prog.funcs[F]?=some fn) (a:s.vars=[]) (g:fn.resultTypes=#[4])
  (x:∀t∈fn.params.toList,Tryz.prog.readableRec t=true/\t < Tryz.prog.types.size)
  (f:∀ds:List (DataW H),ds.length=fn.params.toList.length->(s.fn H ds).results=[.lit (.bool true)]/\(s.fn H ds).args=ds/\(s.fn H ds).vars=[])
  (l:∃(w:World) (tape:Tape) (i:Input),w.os=os/\(w.forCall tape i).Shaped Tryz.prog/\i.vars=[]/\Input.okWide Tryz.prog (w.forCall tape i) .any w.heap.size F i /\
   (Rows.OpenSpec.upto s).preRow enc Tryz.prog fn j false laid (w.forCall tape i).memory i.args/\(({}:Assume)).holds Tryz.prog (lone (Frame.enter Tryz.prog F i.args .normal) [] (w.forCall tape i)))
  (c:∀(W:World) (args:Array Value),Z7a W fn args->Calls Tryz.prog F args W λe B=>e=.returned (.bool true)/\Below W.heap.size W B) :
  ReturnsInHanded {} Tryz.checked os F .any ((Rows.OpenSpec.upto s).preRow enc Tryz.prog fn j false laid) (((Rows.OpenSpec.upto s).at k).post enc Tryz.prog fn false true false false):=by
 refine returnsInHanded_of_row (C:=Tryz.checked) (s:=Rows.OpenSpec.upto s) own v J D l ?_;intro W base args ds gs r m z _ d _ _ _ _;have n:=z;obtain⟨p,q,y,A,rfl,E,G⟩:=z;have b:(Rows.OpenSpec.upto s).vars=[]:=a;rw[b] at A;obtain⟨rfl,rfl⟩:=trodVars_none A;simp only[List.append_nil] at n;have o:=d _ rfl;rw[dk] at o;have o:Rows.uptoBulkAll ds<=1048576:=of_decide_eq_true o;refine(c W args ⟨⟨H,enc,ds,p,y,o⟩,⟨base,m⟩⟩).mono λe B ⟨I,bel⟩=>?_;subst I;have u:=f (ds++[]) (by simpa using Tk _ y);refine⟨_,rfl,ds,[],p,[],p,[],n,?_,?_,?_,bel.frame _,λh=>by cases h⟩
 .rw[show(((Rows.OpenSpec.upto s).at k).fn H (ds++[])).results=[.lit (.bool true)] from u.1,g];exact trodAll_mk1 (shut_bool Tryz.underlying4 _)
 .rw[show(((Rows.OpenSpec.upto s).at k).fn H (ds++[])).args=ds++[] from u.2.1,dk];exact Pk Z9l _ y x bel
 .have e:((Rows.OpenSpec.upto s).at k).vars=[]:=a;rw[e,show(((Rows.OpenSpec.upto s).at k).fn H (ds++[])).vars=[] from u.2.2];rfl
end Go.Proofs.YtmmdikhljefeiaaGreat

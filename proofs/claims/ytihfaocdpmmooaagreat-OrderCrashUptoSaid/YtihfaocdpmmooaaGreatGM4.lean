
import Derived.Test.YtihfaocdpmmooaaGreatGM3
import Derived.Test.YtihfaocdpmmooaaGreatOM3
namespace Go.Proofs.YtihfaocdpmmooaaGreat
open Go.RowKit
set_option maxRecDepth 100000
theorem eqT {b:Bool}(h:b=true):G.v (.bool b)=.v (.bool true):=by rw[h]
set_option maxHeartbeats 2000000 in
theorem U1 (l:List REnt)(c:l.length≤1000000):FnV Tryz.prog 81 [.sl (l.map enE),.sl (l.map enE)] fun g=>g=gI l.length:=by
 refine fnG Tryz.func81 ?_;refine As [0,1] [] (fun i:Nat=>[(5,gI i),(6,gI i)]) (fun _=>[]) (fun i=>i≤l.length) (fun i=>l.length - i) 0 (ah _) ⟨⟨rfl,rfl⟩,⟨rfl,rfl⟩,trivial⟩ trivial rfl fun i hi=>?_;refine dg (fun a=>?_) fun a=>?_
 ·have a:(i:Int) < ((l.map enE).length:Nat):=a;rw[aa] at a;obtain⟨x,b⟩:∃x,l[i]?=some x:=⟨_,ab (by omega)⟩;refine dg (fun _=>?_) fun h=>de (by rw[aa];exact a) h;refine df (fun _=>?_) fun h=>de rfl h;refine dl (f:=enE) b ?_;refine dl (f:=enE) b ?_;refine EvEq.flat [.i .i64,.i .i64,.s] [_,_,_] [_,_,_] (by kernel_rfl) (by kernel_rfl) (by kernel_rfl) rfl rfl rfl rfl (fun _=>?_) (fun h=>de rfl h);refine dk (fun _=>?_) fun h=>(by cases h);refine⟨by omega,⟨by omega,i+1,by omega,(by dsimp only;omega),?_⟩⟩;refine⟨?_,?_,rfl⟩<;>repeat' (first|exact trivial|with_reducible rfl|exact rfl|refine And.intro ?_ ?_)
 ·rw[aa] at a;have:i=l.length:=by omega
  subst this;exact rfl
theorem Z11 (l:List REnt)(a:l.length≤1000000):FnV Tryz.prog 52 [.sl (l.map enE),.sl (l.map enE)] fun g=>g=.v (.bool true):=by refine fnG Tryz.func52 ?_;refine df (fun _=>?_) fun h=>de rfl h;refine(U1 l a).cal fun q b=>?_;subst b;refine eqT ?_;rw[aa];exact beq_self_eq_true _
end Go.Proofs.YtihfaocdpmmooaaGreat

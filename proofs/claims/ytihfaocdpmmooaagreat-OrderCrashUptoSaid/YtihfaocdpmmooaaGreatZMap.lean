
import Derived.Test.YtihfaocdpmmooaaGreatZBase
import Derived.Maps.Own
namespace Go.Proofs.YtihfaocdpmmooaaGreat
open Go.RowKit Go.MapKept
section
variable {κ β:Type} [DecidableEq κ]
def Z6u (L:List (κ × β))(k:κ):Option β:=(L.find? fun p=>decide (p.1=k)).map (·.2)
def Zji (L:List (κ × β))(k:κ)(v:β):List (κ × β):=if(Z6u L k).isSome then L.map (fun p=>if p.1=k then(k,v) else p) else L++[(k,v)]
theorem R1 (p:κ × β)(L:List (κ × β))(k:κ):Z6u (p::L) k=if p.1=k then some p.2 else Z6u L k:=by unfold Z6u;rw[List.find?_cons];by_cases h:p.1=k<;>simp[h]
end
structure KeyOk {κ:Type}[DecidableEq κ](P:Program)(kt:TypeId)(kf:κ→Value):Prop where
 chk:∀(e:Bool) (a:κ) (w:World),(Instr.checkKey e 10000 kt (kf a)).run P w=.ok () w
 same:∃kd,P.underlying kt=some kd∧∀a b,Instr.sameNow kd (kf a) (kf b)=some (decide (a=b))
 bits:∀a,Instr.sameBits 10000 (kf a) (kf a)=true
def MapB {κ β:Type}(w:World)(m:Nat)(kf:κ→Value)(vf:β→Value)(L:List (κ × β)):Prop :=
 ∃b a,w.heap[m]?=some (.map b a)∧Stamped b a∧b.toList.map (fun e=>(e.key,e.val))=L.map (fun p=>(kf p.1,vf p.2))
theorem Rb {α γ:Type}(f:α→γ){l:List α}(h:(l.map f).Nodup):l.Nodup:=by
 induction l with
 | nil=>simp
 | cons x l ih =>
  simp only[List.map_cons,List.nodup_cons] at h⊢;exact⟨fun a=>h.1 (ba.2 ⟨x,a,rfl⟩),ih h.2⟩
section
variable {κ β:Type} {P:Program} {kt:TypeId} {kf:κ→Value} {vf:β→Value} {w w':World} {m:Nat} {L:List (κ × β)}
theorem MapB.lt (h:MapB w m kf vf L):m < w.heap.size:=by obtain⟨c,a,b,_⟩:=h;exact(bp.1 b).1
theorem MapB.of_block (h:MapB w m kf vf L)(b:w'.heap[m]?=w.heap[m]?):MapB w' m kf vf L:=by obtain⟨c,a,d,r⟩:=h;exact⟨c,a,b.trans d,r⟩
theorem KeyOk.inj [DecidableEq κ](K:KeyOk P kt kf){a b:κ}(h:kf a=kf b):a=b:=by obtain⟨kd,_,d⟩:=K.same;have c:=d a b;have e:=d b b;rw[h] at c;rw[c] at e;simpa using e
theorem MapB.nodup (h:MapB w m kf vf L):(L.map (·.1)).Nodup:=by
 obtain⟨d,a,_,⟨_,_,b⟩,e⟩:=h;have c:d.toList.map (·.key)=(L.map (·.1)).map kf:=by have:=congrArg (List.map Prod.fst) e;simpa [List.map_map,Function.comp_def] using this
 rw[c] at b;exact Rb kf b
theorem MapB.length (h:MapB w m kf vf L):∃b a,w.heap[m]?=some (.map b a)∧b.size=L.length:=by obtain⟨b,a,c,_,d⟩:=h;refine⟨b,a,c,?_⟩;have:=congrArg List.length d;simpa using this
theorem Nn {b:Array MapEntry}{a:Nat}(c:w.heap[m]?=some (.map b a)):(getObj m).run P w=.ok (.map b a) w:=by simp[getObj,Sem.run,c]
theorem Vb {t kt c ty:TypeId}(d:P.underlying t=some (.map kt c))(h:MapB w m kf vf L):(Builtin.len_ #[t] ty #[.map (some m)]).run P w=.ok (.int .i64 (L.length:Int)) w:=by obtain⟨f,a,b,e⟩:=h.length;simp[Builtin.len_,run_underlying d,Nn b,e,goInt]
end
end Go.Proofs.YtihfaocdpmmooaaGreat

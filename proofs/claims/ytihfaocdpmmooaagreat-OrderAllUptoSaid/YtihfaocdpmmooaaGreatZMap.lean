
import Derived.Test.YtihfaocdpmmooaaGreatZBase
import Derived.Maps.Own
namespace Go.Proofs.YtihfaocdpmmooaaGreat
open Go.RowKit Go.MapKept
section
variable {κ β:Type} [DecidableEq κ]
def Z6l (L:List (κ × β))(k:κ):Option β:=(L.find? fun p=>decide (p.1=k)).map (·.2)
def Zgy (L:List (κ × β))(k:κ)(v:β):List (κ × β):=if(Z6l L k).isSome then L.map (fun p=>if p.1=k then(k,v) else p) else L++[(k,v)]
theorem Qa (p:κ × β)(L:List (κ × β))(k:κ):Z6l (p::L) k=if p.1=k then some p.2 else Z6l L k:=by
 unfold Z6l
 rw[List.find?_cons]
 by_cases h:p.1=k<;>simp[h]
end
structure KeyOk {κ:Type}[DecidableEq κ](P:Program)(kt:TypeId)(kf:κ→Value):Prop where
 chk:∀(e:Bool) (a:κ) (w:World),(Instr.checkKey e 10000 kt (kf a)).run P w=.ok () w
 same:∃kd,P.underlying kt=some kd∧∀a b,Instr.sameNow kd (kf a) (kf b)=some (decide (a=b))
 bits:∀a,Instr.sameBits 10000 (kf a) (kf a)=true
def MapB {κ β:Type}(w:World)(m:Nat)(kf:κ→Value)(vf:β→Value)(L:List (κ × β)):Prop :=
 ∃es clock,w.heap[m]?=some (.map es clock)∧Stamped es clock∧es.toList.map (fun e=>(e.key,e.val))=L.map (fun p=>(kf p.1,vf p.2))
theorem Qp {α γ:Type}(f:α→γ){l:List α}(h:(l.map f).Nodup):l.Nodup:=by
 induction l with
 | nil=>simp
 | cons x l ih =>
  simp only[List.map_cons,List.nodup_cons] at h⊢
  exact⟨fun hx=>h.1 (az.2 ⟨x,hx,rfl⟩),ih h.2⟩
section
variable {κ β:Type} {P:Program} {kt:TypeId} {kf:κ→Value} {vf:β→Value} {w w':World} {m:Nat} {L:List (κ × β)}
theorem MapB.lt (h:MapB w m kf vf L):m < w.heap.size:=by
 obtain⟨es,clock,hb,_⟩:=h
 exact(bo.1 hb).1
theorem MapB.of_block (h:MapB w m kf vf L)(hb:w'.heap[m]?=w.heap[m]?):MapB w' m kf vf L:=by
 obtain⟨es,clock,he,r⟩:=h
 exact⟨es,clock,hb.trans he,r⟩
theorem KeyOk.inj [DecidableEq κ](K:KeyOk P kt kf){a b:κ}(h:kf a=kf b):a=b:=by
 obtain⟨kd,_,hs⟩:=K.same
 have h1:=hs a b
 have h2:=hs b b
 rw[h] at h1
 rw[h1] at h2
 simpa using h2
theorem MapB.nodup (h:MapB w m kf vf L):(L.map (·.1)).Nodup:=by
 obtain⟨es,clock,_,⟨_,_,hk⟩,he⟩:=h
 have h1:es.toList.map (·.key)=(L.map (·.1)).map kf:=by
  have:=congrArg (List.map Prod.fst) he
  simpa [List.map_map,Function.comp_def] using this
 rw[h1] at hk
 exact Qp kf hk
theorem MapB.length (h:MapB w m kf vf L):∃es clock,w.heap[m]?=some (.map es clock)∧es.size=L.length:=by
 obtain⟨es,clock,hb,_,he⟩:=h
 refine⟨es,clock,hb,?_⟩
 have:=congrArg List.length he
 simpa using this
theorem Mq {es:Array MapEntry}{clock:Nat}(hb:w.heap[m]?=some (.map es clock)):(getObj m).run P w=.ok (.map es clock) w:=by
 simp[getObj,Sem.run,hb]
theorem Rq {t kt et ty:TypeId}(ht:P.underlying t=some (.map kt et))(h:MapB w m kf vf L):(Builtin.len_ #[t] ty #[.map (some m)]).run P w=.ok (.int .i64 (L.length:Int)) w:=by
 obtain⟨es,clock,hb,hs⟩:=h.length
 simp[Builtin.len_,run_underlying ht,Mq hb,hs,goInt]
end
end Go.Proofs.YtihfaocdpmmooaaGreat


import Derived.Test.YtihfaocdpmmooaaGreatZMap
import Derived.Maps.RangeWalk
namespace Go.Proofs.YtihfaocdpmmooaaGreat
open Go.RowKit Go.MapKept
open Go.ChangeMaps (setBlock)
structure RanB {κ β:Type}[DecidableEq κ](w:World)(r m:Nat)(kf:κ→Value)(vf:β→Value)(L:List (κ × β))(D:List κ):Prop where
 it:∃es clock since c0 seen,w.heap[m]?=some (.map es clock)∧Stamped es clock∧es.toList.map (fun e=>(e.key,e.val))=L.map (fun p=>(kf p.1,vf p.2)) ∧
  w.heap[r]?=some (.mapIter (some m) since seen c0)∧(∀x∈es.toList,x.born < since)∧since≤c0∧since≤clock ∧
  ∀(i:Nat) (e:MapEntry) (p:κ × β),es[i]?=some e→L[i]?=some p→seen.contains e.born=decide (p.1∈D)
 nodup:D.Nodup
 sub:∀k∈D,∃v,(k,v)∈L
section
variable {κ β:Type} [DecidableEq κ] {P:Program} {kt:TypeId} {kf:κ→Value} {vf:β→Value} {w w':World} {r m:Nat} {L:List (κ × β)} {D:List κ}
theorem RanB.map (h:RanB w r m kf vf L D):MapB w m kf vf L:=by obtain⟨d,b,since,g,seen,c,f,e,_⟩:=h.it;exact⟨d,b,c,f,e⟩
theorem RanB.lt (h:RanB w r m kf vf L D):r < w.heap.size:=by obtain⟨d,b,since,e,seen,_,_,_,c,_⟩:=h.it;exact(bp.1 c).1
theorem RanB.keep (h:RanB w r m kf vf L D)(hr:w'.heap[r]?=w.heap[r]?)(i:w'.heap[m]?=w.heap[m]?):RanB w' r m kf vf L D:=by obtain⟨k,b,since,e,seen,c,f,d,g,j⟩:=h.it;exact⟨⟨k,b,since,e,seen,i.trans c,f,d,hr.trans g,j⟩,h.nodup,h.sub⟩
theorem Jo:∀{l m:List κ},l.Nodup→(∀x∈l,x∈m)→l.length≤m.length
 | [],_,_,_=>ah _
 | x::l,m,hn,hs=>by have b:=hs x (by simp);obtain⟨c,f⟩:=List.nodup_cons.1 hn;have d:=Jo (m:=m.erase x) f (fun y hy=>(List.mem_erase_of_ne (fun e=>c (by rw[←e];exact hy))).2 (hs y (by simp[hy])));rw[List.length_erase_of_mem b] at d;have:0 < m.length:=List.length_pos_of_mem b;simp;omega
theorem RanB.len (h:RanB w r m kf vf L D):D.length≤L.length:=by
 have b:=Jo (m:=L.map (·.1)) h.nodup (fun k c=>by obtain⟨v,d⟩:=h.sub k c;exact ba.2 ⟨_,d,rfl⟩)
 simpa using b
variable {ops:Array Oper} {rest:List Oper} {o:Oper} {a:Act} {Q:Exit→Act→World→Prop}
end
end Go.Proofs.YtihfaocdpmmooaaGreat

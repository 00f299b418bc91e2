
import Derived.Test.YtihfaocdpmmooaaGreatZMap
import Derived.Maps.RangeWalk
namespace Go.Proofs.YtihfaocdpmmooaaGreat
open Go.RowKit Go.MapKept
open Go.ChangeMaps (setBlock)
structure RanB {κ β:Type}[DecidableEq κ](w:World)(r m:Nat)(kf:κ→Value)(vf:β→Value)(L:List (κ × β))(D:List κ):Prop where
 it:∃es clock since c0 seen,w.heap[m]?=some (.map es clock)∧Stamped es clock∧es.toList.map (fun e=>(e.key,e.val))=L.map (fun p=>(kf p.1,vf p.2)) ∧
  w.heap[r]?=some (.mapIter (some m) since seen c0)∧(∀x∈es.toList,x.born < since)∧since≤c0∧since≤clock ∧
  ∀(i:Nat) (e:MapEntry) (p:κ × β),es[i]?=some e→L[i]?=some p→seen.contains e.born=decide (p.1∈D)
 nodup:D.Nodup
 sub:∀k∈D,∃v,(k,v)∈L
section
variable {κ β:Type} [DecidableEq κ] {P:Program} {kt:TypeId} {kf:κ→Value} {vf:β→Value} {w w':World} {r m:Nat} {L:List (κ × β)} {D:List κ}
theorem RanB.map (h:RanB w r m kf vf L D):MapB w m kf vf L:=by
 obtain⟨es,clock,since,c0,seen,h1,h2,h3,_⟩:=h.it
 exact⟨es,clock,h1,h2,h3⟩
theorem RanB.lt (h:RanB w r m kf vf L D):r < w.heap.size:=by
 obtain⟨es,clock,since,c0,seen,_,_,_,h1,_⟩:=h.it
 exact(bo.1 h1).1
theorem RanB.keep (h:RanB w r m kf vf L D)(hr:w'.heap[r]?=w.heap[r]?)(hm:w'.heap[m]?=w.heap[m]?):RanB w' r m kf vf L D:=by
 obtain⟨es,clock,since,c0,seen,h1,h2,h3,h4,h5⟩:=h.it
 exact⟨⟨es,clock,since,c0,seen,hm.trans h1,h2,h3,hr.trans h4,h5⟩,h.nodup,h.sub⟩
theorem Ij:∀{l m:List κ},l.Nodup→(∀x∈l,x∈m)→l.length≤m.length
 | [],_,_,_=>ah _
 | x::l,m,hn,hs=>by
  have hx:=hs x (by simp)
  obtain⟨h1,h2⟩:=List.nodup_cons.1 hn
  have h3:=Ij (m:=m.erase x) h2 (fun y hy=>(List.mem_erase_of_ne (fun e=>h1 (by rw[←e];exact hy))).2 (hs y (by simp[hy])))
  rw[List.length_erase_of_mem hx] at h3
  have:0 < m.length:=List.length_pos_of_mem hx
  simp
  omega
theorem RanB.len (h:RanB w r m kf vf L D):D.length≤L.length:=by
 have h1:=Ij (m:=L.map (·.1)) h.nodup (fun k hk=>by
  obtain⟨v,hv⟩:=h.sub k hk
  exact az.2 ⟨_,hv,rfl⟩)
 simpa using h1
variable {ops:Array Oper} {rest:List Oper} {o:Oper} {a:Act} {Q:Exit→Act→World→Prop}
end
end Go.Proofs.YtihfaocdpmmooaaGreat

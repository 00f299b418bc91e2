
import Derived.Test.YtihfaocdpmmooaaGreatZMap
import Derived.Maps.RangeWalk
namespace Go.Proofs.YtihfaocdpmmooaaGreat
open Go.RowKit Go.MapKept
open Go.ChangeMaps (setBlock)
structure RanB {κ β:Type}[DecidableEq κ](w:World)(r m:Nat)(kf:κ→Value)(vf:β→Value)(L:List (κ × β))(D:List κ):Prop where
 it:∃es clock since c0 seen,w.heap[m]?=some (.map es clock)∧Stamped es clock∧es.toList.map (fun e=>(e.key,e.val))=L.map (fun p=>(kf p.1,vf p.2)) ∧
  w.heap[r]?=some (.mapIter (some m) since seen c0)∧(∀x∈es.toList,x.born < since)∧since≤c0∧since≤clock ∧
  ∀(i:Nat) (e:MapEntry) (p:κ × β),es[i]?=some e→L[i]?=some p→seen.contains e.born=decide (p.1∈D)
 nodup:D.Nodup
 sub:∀k∈D,∃v,(k,v)∈L
section
variable {κ β:Type} [DecidableEq κ] {P:Program} {kt:TypeId} {kf:κ→Value} {vf:β→Value} {w w':World} {r m:Nat} {L:List (κ × β)} {D:List κ}
theorem RanB.map (h:RanB w r m kf vf L D):MapB w m kf vf L:=by
 obtain⟨es,clock,since,c0,seen,h1,h2,h3,_⟩:=h.it
 exact⟨es,clock,h1,h2,h3⟩
theorem RanB.lt (h:RanB w r m kf vf L D):r < w.heap.size:=by
 obtain⟨es,clock,since,c0,seen,_,_,_,h1,_⟩:=h.it
 exact(Array.getElem?_eq_some_iff.1 h1).1
theorem RanB.keep (h:RanB w r m kf vf L D)(hr:w'.heap[r]?=w.heap[r]?)(hm:w'.heap[m]?=w.heap[m]?):RanB w' r m kf vf L D:=by
 obtain⟨es,clock,since,c0,seen,h1,h2,h3,h4,h5⟩:=h.it
 exact⟨⟨es,clock,since,c0,seen,hm.trans h1,h2,h3,hr.trans h4,h5⟩,h.nodup,h.sub⟩
theorem En:∀{l m:List κ},l.Nodup→(∀x∈l,x∈m)→l.length≤m.length
 | [],_,_,_=>Nat.zero_le _
 | x::l,m,hn,hs=>by
  have hx:=hs x (by simp)
  obtain⟨h1,h2⟩:=List.nodup_cons.1 hn
  have h3:=En (m:=m.erase x) h2 (fun y hy=>(List.mem_erase_of_ne (fun e=>h1 (by rw[←e];exact hy))).2 (hs y (by simp[hy])))
  rw[List.length_erase_of_mem hx] at h3
  have:0 < m.length:=List.length_pos_of_mem hx
  simp
  omega
theorem RanB.len (h:RanB w r m kf vf L D):D.length≤L.length:=by
 have h1:=En (m:=L.map (·.1)) h.nodup (fun k hk=>by
  obtain⟨v,hv⟩:=h.sub k hk
  exact List.mem_map.2 ⟨_,hv,rfl⟩)
 simpa using h1
theorem RanB.len_lt (h:RanB w r m kf vf L D){k:κ}{v:β}(hk:(k,v)∈L)(hn:k ∉ D):D.length < L.length:=by
 have h1:=En (l:=k::D) (m:=L.map (·.1)) (List.nodup_cons.2 ⟨hn,h.nodup⟩) (fun j hj=>by
  rcases List.mem_cons.1 hj with rfl | hj
  ·exact List.mem_map.2 ⟨_,hk,rfl⟩
  ·obtain⟨v,hv⟩:=h.sub j hj
   exact List.mem_map.2 ⟨_,hv,rfl⟩)
 simp at h1
 omega
theorem Nx (w:World){r:Nat}(o:Obj)(hr:r < w.heap.size):(setBlock w r o).heap[r]?=some o:=by simp[setBlock,hr]
theorem G4 (w:World){r k:Nat}(o:Obj)(hk:k≠r):(setBlock w r o).heap[k]?=w.heap[k]?:=by
 simp only[setBlock,Array.getElem?_setIfInBounds]
 rw[if_neg (fun e=>hk e.symm)]
theorem H8 (w:World)(r:Nat)(o:Obj):(setBlock w r o).heap.size=w.heap.size:=by simp[setBlock]
theorem Rz {t et:TypeId}(ht:P.underlying t=some (.map kt et))(h:MapB w m kf vf L) :
  ∃w',(Instr.range t (.map (some m))).run P w=.ok (.pointer (some ⟨w.heap.size,0,none⟩)) w'∧RanB w' w.heap.size m kf vf L []∧Below w.heap.size w w'∧w'.heap.size=w.heap.size+1:=by
 have hlt:=h.lt
 obtain⟨es,clock,hb,hst,he⟩:=h
 refine⟨w.alloc (.mapIter (some m) clock #[] clock),?_,⟨⟨es,clock,clock,clock,#[],?_,hst,he,heap_alloc_new w _,hst.1,Nat.le_refl _,Nat.le_refl _,fun i e p _ _=>by simp⟩,by simp,by simp⟩,(Below.refl _ _).alloc (Nat.le_refl _) _,by simp⟩
 ·simp[Instr.range,run_underlying ht,Ar hb,newObj,Sem.run,Result.andThen]
 ·exact(Below.heap_alloc w _ m hlt).trans hb
theorem Vc (h:RanB w r m kf vf L D)(ty:TypeId) :
  ((∀p∈L,p.1∈D)∧(Instr.next (.pointer (some ⟨r,0,none⟩)) false ty).run P w=.ok (.tuple #[.bool false]) w) ∨
  ∃k v w',(k,v)∈L∧k ∉ D∧(Instr.next (.pointer (some ⟨r,0,none⟩)) false ty).run P w=.ok (.tuple #[.bool true,kf k,vf v]) w'∧RanB w' r m kf vf L (D++[k])∧w.grownBy w' (some r)∧w'.heap.size=w.heap.size ∧
   ∀(P':Program) (w2:World),w2.heap[r]?=w'.heap[r]?→w2.heap[m]?=w'.heap[m]?→(Instr.entry (.pointer (some ⟨r,0,none⟩))).run P' w2=.ok (.tuple #[kf k,vf v]) w2:=by
 have hnd:=h.map.nodup
 have hrl:=h.lt
 obtain⟨⟨es,clock,since,c0,seen,hm,hst,he,hr,hold,hsc,hsk,hseen⟩,hdn,hsub⟩:=h
 have hsz:es.size=L.length:=by
  have:=congrArg List.length he
  simpa using this
 have hat:∀i (hi:i < es.size),es[i].key=kf (L[i]'(by omega)).1∧es[i].val=vf (L[i]'(by omega)).2:=fun i hi=>by
  have h1:=congrArg (·[i]?) he
  simp only[List.getElem?_map,Array.getElem?_toList] at h1
  rw[Array.getElem?_eq_getElem hi,List.getElem?_eq_getElem (by omega)] at h1
  simpa using h1
 have hne:r≠m:=fun e=>by rw[e,hm] at hr;cases hr
 rcases run_next_at (P:=P) w ty r m since c0 seen es clock hr hm hold hsc with⟨h0,hrun⟩ | ⟨e,hem,w1,hw1,hrun⟩
 ·left
  refine⟨fun p hp=>?_,hrun⟩
  obtain⟨i,hi,rfl⟩:=List.getElem_of_mem hp
  have hie:i < es.size:=by omega
  have h1:=hseen i es[i] L[i] (Array.getElem?_eq_getElem hie) (List.getElem?_eq_getElem hi)
  have h2:seen.contains es[i].born=true:=by
   cases hc:seen.contains es[i].born
   ·exfalso
    have:es[i]∈leftOf es seen:=by unfold leftOf;rw[Array.mem_filter];exact⟨Array.getElem_mem hie,by simp only[hc];rfl⟩
    rw[Array.eq_empty_of_size_eq_zero h0] at this
    simp at this
   ·rfl
  rw[h2] at h1
  simpa using h1.symm
 ·right
  have hel:e∈leftOf es seen:=by simpa using hem
  unfold leftOf at hel
  rw[Array.mem_filter] at hel
  obtain⟨hes,hnc⟩:=hel
  obtain⟨i,hi,rfl⟩:=Array.getElem_of_mem hes
  have hil:i < L.length:=by omega
  have h1:=hseen i es[i] L[i] (Array.getElem?_eq_getElem hi) (List.getElem?_eq_getElem hil)
  have hnc':seen.contains es[i].born=false:=by simpa using hnc
  rw[hnc'] at h1
  have hkd:L[i].1 ∉ D:=by simpa using h1.symm
  have hw1h:∀j:Nat,w1.heap[j]?=w.heap[j]?:=fun j=>by rcases hw1 with e | e<;>rw[e]<;>rfl
  have hw1s:w1.heap.size=w.heap.size:=by rcases hw1 with e | e<;>rw[e]<;>rfl
  have hr':(setBlock w1 r (.mapIter (some m) since (seen.push es[i].born) clock)).heap[r]?=some (.mapIter (some m) since (seen.push es[i].born) clock):=Nx w1 _ (by omega)
  have hm':(setBlock w1 r (.mapIter (some m) since (seen.push es[i].born) clock)).heap[m]?=some (.map es clock):=((G4 w1 _ (fun e=>hne e.symm)).trans (hw1h m)).trans hm
  refine⟨L[i].1,L[i].2,_,List.getElem_mem hil,hkd,?_,⟨⟨es,clock,since,clock,_,hm',hst,he,hr',hold,hsk,hsk,fun j e p hj hp=>?_⟩,?_,?_⟩,?_,?_,?_⟩
  ·rw[hrun,(hat i hi).1,(hat i hi).2]
  ·have h2:=hseen j e p hj hp
   rw[Array.contains_push,h2]
   obtain⟨hje,rfl⟩:=Array.getElem?_eq_some_iff.1 hj
   obtain⟨hjl,rfl⟩:=List.getElem?_eq_some_iff.1 hp
   have hb:(es[j].born==es[i].born)=decide (L[j].1=L[i].1):=by
    rw[Bool.eq_iff_iff,beq_iff_eq,decide_eq_true_eq]
    constructor
    ·intro hbb
     have hnb:=hst.2.1
     have:j=i:=by
      have hpw:=List.pairwise_iff_getElem.1 (List.nodup_iff_pairwise_ne.1 hnb)
      apply Decidable.byContradiction
      intro hji
      rcases Nat.lt_or_gt_of_ne hji with hlt | hgt
      ·have:=hpw j i (by simpa using hje) (by simpa using hi) hlt
       simp at this
       exact this hbb
      ·have:=hpw i j (by simpa using hi) (by simpa using hje) hgt
       simp at this
       exact this hbb.symm
     subst this
     rfl
    ·intro hkk
     have:j=i:=by
      have hpw:=List.pairwise_iff_getElem.1 (List.nodup_iff_pairwise_ne.1 hnd)
      apply Decidable.byContradiction
      intro hji
      rcases Nat.lt_or_gt_of_ne hji with hlt | hgt
      ·have:=hpw j i (by simpa using hjl) (by simpa using hil) hlt
       simp at this
       exact this hkk
      ·have:=hpw i j (by simpa using hil) (by simpa using hjl) hgt
       simp at this
       exact this hkk.symm
     subst this
     rfl
   rw[hb]
   simp[Bool.decide_or]
  ·rw[List.nodup_append]
   refine⟨hdn,by simp,fun a ha b hb=>?_⟩
   simp only[List.mem_singleton] at hb
   subst hb
   exact fun e=>hkd (e ▸ ha)
  ·intro k hk
   rcases List.mem_append.1 hk with hk | hk
   ·exact hsub k hk
   ·simp only[List.mem_singleton] at hk
    subst hk
    exact⟨_,List.getElem_mem hil⟩
  ·refine⟨by rcases hw1 with e | e<;>rw[e]<;>rfl,by rcases hw1 with e | e<;>rw[e]<;>rfl,by rcases hw1 with e | e<;>rw[e]<;>rfl,by rw[H8];omega,fun k _ hk=>?_⟩
   rw[G4 w1 _ (fun e=>hk (by rw[e]))]
   exact hw1h k
  ·rw[H8];exact hw1s
  ·intro P' w2 e1 e2
   have:=run_entry_at (P:=P') w2 r m since seen es clock es[i] (e1.trans hr') (e2.trans hm') (by simp) hst.2.1
   rw[this,(hat i hi).1,(hat i hi).2]
variable {ops:Array Oper} {rest:List Oper} {o:Oper} {a:Act} {Q:Exit→Act→World→Prop}
end
end Go.Proofs.YtihfaocdpmmooaaGreat


import Derived.Test.YtihfaocdpmmooaaGreatZBase
import Derived.Maps.Own
namespace Go.Proofs.YtihfaocdpmmooaaGreat
open Go.RowKit Go.MapKept
section
variable {κ β:Type} [DecidableEq κ]
def Gu (L:List (κ × β))(k:κ):Option β:=(L.find? fun p=>decide (p.1=k)).map (·.2)
def Z0j (L:List (κ × β))(k:κ)(v:β):List (κ × β):=if(Gu L k).isSome then L.map (fun p=>if p.1=k then(k,v) else p) else L++[(k,v)]
def Yr (L:List (κ × β))(k:κ):List (κ × β):=L.filter fun p=>decide (p.1≠k)
theorem Jl (p:κ × β)(L:List (κ × β))(k:κ):Gu (p::L) k=if p.1=k then some p.2 else Gu L k:=by
 unfold Gu
 rw[List.find?_cons]
 by_cases h:p.1=k<;>simp[h]
theorem Pz {L:List (κ × β)}{k:κ}:Gu L k=none↔∀p∈L,p.1≠k:=by
 unfold Gu
 simp
theorem Sd {L:List (κ × β)}{k:κ}{v:β}(h:Gu L k=some v):(k,v)∈L:=by
 unfold Gu at h
 obtain⟨p,hp,rfl⟩:=Option.map_eq_some_iff.1 h
 have h1:=List.find?_some hp
 simp at h1
 subst h1
 exact List.mem_of_find?_eq_some hp
end
structure KeyOk {κ:Type}[DecidableEq κ](P:Program)(kt:TypeId)(kf:κ→Value):Prop where
 chk:∀(e:Bool) (a:κ) (w:World),(Instr.checkKey e 10000 kt (kf a)).run P w=.ok () w
 same:∃kd,P.underlying kt=some kd∧∀a b,Instr.sameNow kd (kf a) (kf b)=some (decide (a=b))
 bits:∀a,Instr.sameBits 10000 (kf a) (kf a)=true
def MapB {κ β:Type}(w:World)(m:Nat)(kf:κ→Value)(vf:β→Value)(L:List (κ × β)):Prop :=
 ∃es clock,w.heap[m]?=some (.map es clock)∧Stamped es clock∧es.toList.map (fun e=>(e.key,e.val))=L.map (fun p=>(kf p.1,vf p.2))
def putObj (w:World)(m:Nat)(o:Obj):World:={w with heap:=w.heap.setIfInBounds m o}
theorem Og {α γ:Type}(f:α→γ){l:List α}(h:(l.map f).Nodup):l.Nodup:=by
 induction l with
 | nil=>simp
 | cons x l ih =>
  simp only[List.map_cons,List.nodup_cons] at h⊢
  exact⟨fun hx=>h.1 (List.mem_map.2 ⟨x,hx,rfl⟩),ih h.2⟩
section
variable {κ β:Type} {P:Program} {kt:TypeId} {kf:κ→Value} {vf:β→Value} {w w':World} {m:Nat} {L:List (κ × β)}
theorem MapB.lt (h:MapB w m kf vf L):m < w.heap.size:=by
 obtain⟨es,clock,hb,_⟩:=h
 exact(Array.getElem?_eq_some_iff.1 hb).1
theorem MapB.of_block (h:MapB w m kf vf L)(hb:w'.heap[m]?=w.heap[m]?):MapB w' m kf vf L:=by
 obtain⟨es,clock,he,r⟩:=h
 exact⟨es,clock,hb.trans he,r⟩
theorem KeyOk.inj [DecidableEq κ](K:KeyOk P kt kf){a b:κ}(h:kf a=kf b):a=b:=by
 obtain⟨kd,_,hs⟩:=K.same
 have h1:=hs a b
 have h2:=hs b b
 rw[h] at h1
 rw[h1] at h2
 simpa using h2
theorem MapB.nodup (h:MapB w m kf vf L):(L.map (·.1)).Nodup:=by
 obtain⟨es,clock,_,⟨_,_,hk⟩,he⟩:=h
 have h1:es.toList.map (·.key)=(L.map (·.1)).map kf:=by
  have:=congrArg (List.map Prod.fst) he
  simpa [List.map_map,Function.comp_def] using this
 rw[h1] at hk
 exact Og kf hk
theorem MapB.length (h:MapB w m kf vf L):∃es clock,w.heap[m]?=some (.map es clock)∧es.size=L.length:=by
 obtain⟨es,clock,hb,_,he⟩:=h
 refine⟨es,clock,hb,?_⟩
 have:=congrArg List.length he
 simpa using this
theorem Te [DecidableEq κ]{kd:TypeDesc}(hs:∀a b,Instr.sameNow kd (kf a) (kf b)=some (decide (a=b)))(k:κ):∀(es:List MapEntry) (L:List (κ × β)) (i:Nat),es.map (fun e=>(e.key,e.val))=L.map (fun p=>(kf p.1,vf p.2)) →
  Instr.findNow kd (kf k) es i=some ((Gu L k).map fun v=>(i+(L.findIdx fun p=>decide (p.1=k)),vf v))
 | [],[],i,_=>by simp[Instr.findNow,Gu]
 | [],_::_,i,h=>by simp at h
 | _::_,[],i,h=>by simp at h
 | e::es,p::L,i,h=>by
  simp only[List.map_cons,List.cons.injEq,Prod.mk.injEq] at h
  obtain⟨⟨hk,hv⟩,hr⟩:=h
  unfold Instr.findNow
  rw[hk,hs k p.1,Jl,List.findIdx_cons]
  by_cases hp:p.1=k
  ·have hp':k=p.1:=hp.symm
   simp[hp,hv]
  ·have hp':¬k=p.1:=fun e=>hp e.symm
   simp only[hp,hp',decide_false,if_false,cond_false]
   rw[Te hs k es L (i+1) hr]
   congr 1
   cases Gu L k with
   | none=>rfl
   | some v=>simp only[Option.map_some];congr 2;omega
theorem Bv [DecidableEq κ](K:KeyOk P kt kf){es:Array MapEntry}(he:es.toList.map (fun e=>(e.key,e.val))=L.map (fun p=>(kf p.1,vf p.2)))(k:κ) :
  (Instr.findKey kt (kf k) es.toList).run P w=.ok ((Gu L k).map fun v=>(L.findIdx fun p=>decide (p.1=k),vf v)) w:=by
 obtain⟨kd,hu,hs⟩:=K.same
 unfold Instr.findKey
 rw[Sem.run_bind,run_underlying hu]
 simp only[Result.andThen_ok]
 rw[Te hs k es.toList L 0 he]
 simp[Nat.zero_add]
theorem Ar {es:Array MapEntry}{clock:Nat}(hb:w.heap[m]?=some (.map es clock)):(getObj m).run P w=.ok (.map es clock) w:=by
 simp[getObj,Sem.run,hb]
theorem D7 {es:Array MapEntry}{clock:Nat}(hb:w.heap[m]?=some (.map es clock))(o:Obj):(setObj m o).run P w=.ok () (putObj w m o):=by
 simp[setObj,Sem.run,hb,putObj]
theorem Dy (w:World){m:Nat}(o:Obj)(hm:m < w.heap.size):(putObj w m o).heap[m]?=some o:=by
 simp[putObj,hm]
theorem J3 (w:World){m k:Nat}(o:Obj)(hk:k≠m):(putObj w m o).heap[k]?=w.heap[k]?:=by
 simp only[putObj,Array.getElem?_setIfInBounds]
 rw[if_neg (fun e=>hk e.symm)]
theorem Kc (w:World)(m:Nat)(o:Obj):(putObj w m o).heap.size=w.heap.size:=by simp[putObj]
theorem Hm [DecidableEq κ](K:KeyOk P kt kf){t et:TypeId}(ht:P.underlying t=some (.map kt et)){z:Value}(hz:(zeroValue et).run P w=.ok z w)(h:MapB w m kf vf L)(k:κ) :
  (Instr.lookup t (.map (some m)) (kf k) true).run P w=.ok (.tuple #[((Gu L k).map vf).getD z,.bool (Gu L k).isSome]) w:=by
 obtain⟨es,clock,hb,_,he⟩:=h
 cases hg:Gu L k with
 | none=>simp[Instr.lookup,run_underlying ht,Ar hb,K.chk,Bv K he,hz,hg]
 | some v=>simp[Instr.lookup,run_underlying ht,Ar hb,K.chk,Bv K he,hg]
theorem Ew [DecidableEq κ](K:KeyOk P kt kf){t et:TypeId}(ht:P.underlying t=some (.map kt et)){z:Value}(hz:(zeroValue et).run P w=.ok z w)(h:MapB w m kf vf L)(k:κ) :
  (Instr.lookup t (.map (some m)) (kf k) false).run P w=.ok (((Gu L k).map vf).getD z) w:=by
 obtain⟨es,clock,hb,_,he⟩:=h
 cases hg:Gu L k with
 | none=>simp[Instr.lookup,run_underlying ht,Ar hb,K.chk,Bv K he,hz,hg]
 | some v=>simp[Instr.lookup,run_underlying ht,Ar hb,K.chk,Bv K he,hg]
theorem Qn {t kt et ty:TypeId}(ht:P.underlying t=some (.map kt et))(h:MapB w m kf vf L):(Builtin.len_ #[t] ty #[.map (some m)]).run P w=.ok (.int .i64 (L.length:Int)) w:=by
 obtain⟨es,clock,hb,hs⟩:=h.length
 simp[Builtin.len_,run_underlying ht,Ar hb,hs,goInt]
theorem Uf (w:World)(kf:κ→Value)(vf:β→Value):MapB (w.alloc (.map #[] 0)) w.heap.size kf vf [] :=
 ⟨#[],0,heap_alloc_new w _,⟨by simp,by simp,by simp⟩,rfl⟩
theorem Uo [DecidableEq κ](K:KeyOk P kt kf){t et:TypeId}(ht:P.underlying t=some (.map kt et))(h:MapB w m kf vf L)(k:κ)(v:β) :
  ∃o,(Instr.mapUpdate t (.map (some m)) (kf k) (vf v)).run P w=.ok () (putObj w m o)∧MapB (putObj w m o) m kf vf (Z0j L k v):=by
 have hnd:=h.nodup
 have hlt:=h.lt
 obtain⟨es,clock,hb,hst,he⟩:=h
 cases hg:Gu L k with
 | none =>
  refine⟨.map (es.push {key:=kf k,val:=vf v,born:=clock}) (clock+1),?_,es.push {key:=kf k,val:=vf v,born:=clock},clock+1,Dy w _ hlt,?_,?_⟩
  ·simp[Instr.mapUpdate,run_underlying ht,Ar hb,K.chk,Bv K he,hg,D7 hb]
  ·obtain⟨h1,h2,h3⟩:=hst
   refine⟨?_,?_,?_⟩
   ·intro x hx
    simp at hx
    rcases hx with hx | rfl
    ·have:=h1 x (by simpa using hx);omega
    ·exact Nat.lt_succ_self _
   ·simp only[Array.toList_push,List.map_append,List.map_cons,List.map_nil,List.nodup_append]
    refine⟨h2,by simp,fun a ha b hb=>?_⟩
    obtain⟨x,hx,rfl⟩:=List.mem_map.1 ha
    simp only[List.mem_singleton] at hb
    have:=h1 x hx
    omega
   ·simp only[Array.toList_push,List.map_append,List.map_cons,List.map_nil,List.nodup_append]
    refine⟨h3,by simp,fun a ha b hb=>?_⟩
    simp only[List.mem_singleton] at hb
    subst hb
    have h4:es.toList.map (·.key)=(L.map (·.1)).map kf:=by
     have:=congrArg (List.map Prod.fst) he
     simpa [List.map_map,Function.comp_def] using this
    rw[h4] at ha
    obtain⟨c,hc,rfl⟩:=List.mem_map.1 ha
    obtain⟨p,hp,rfl⟩:=List.mem_map.1 hc
    exact fun e=>Pz.1 hg p hp (K.inj e)
  ·unfold Z0j
   rw[hg]
   simp[he]
 | some u =>
  have hidx:(L.findIdx fun p=>decide (p.1=k)) < L.length:=by
   rw[List.findIdx_lt_length]
   exact⟨(k,u),Sd hg,by simp⟩
  have hLi:(L[L.findIdx fun p=>decide (p.1=k)]'hidx).1=k:=by
   have:=List.findIdx_getElem (w:=hidx)
   simpa using this
  have hfk:=Bv (P:=P) (w:=w) K he k
  rw[hg] at hfk
  simp only[Option.map_some] at hfk
  generalize (L.findIdx fun p=>decide (p.1=k))=i at *
  have hsz:es.size=L.length:=by
   have:=congrArg List.length he
   simpa using this
  have hie:i < es.size:=by omega
  have hat:∀j (hj:j < es.size),es[j].key=kf (L[j]'(by omega)).1∧es[j].val=vf (L[j]'(by omega)).2:=fun j hj=>by
   have h1:=congrArg (·[j]?) he
   simp only[List.getElem?_map,Array.getElem?_toList] at h1
   rw[Array.getElem?_eq_getElem hj,List.getElem?_eq_getElem (by omega)] at h1
   simpa using h1
  have hki:es[i].key=kf k:=by rw[(hat i hie).1,hLi]
  refine⟨.map (es.modify i fun e=>{e with key:=kf k,val:=vf v}) clock,?_,es.modify i fun e=>{e with key:=kf k,val:=vf v},clock,Dy w _ hlt,?_,?_⟩
  ·simp[Instr.mapUpdate,run_underlying ht,Ar hb,K.chk,hfk,Instr.keyThatStays,hki,K.bits,D7 hb,hie]
  ·obtain⟨h1,h2,h3⟩:=hst
   have hbn:(es.modify i fun e=>{e with key:=kf k,val:=vf v}).toList.map (·.born)=es.toList.map (·.born):=by
    apply List.ext_getElem?
    intro j
    simp only[List.getElem?_map,Array.getElem?_toList,Array.getElem?_modify]
    split
    ·cases es[j]?<;>rfl
    ·rfl
   have hkn:(es.modify i fun e=>{e with key:=kf k,val:=vf v}).toList.map (·.key)=es.toList.map (·.key):=by
    apply List.ext_getElem?
    intro j
    simp only[List.getElem?_map,Array.getElem?_toList,Array.getElem?_modify]
    split
    ·rename_i hij
     subst hij
     rw[Array.getElem?_eq_getElem hie]
     simp[hki]
    ·rfl
   refine⟨fun x hx=>?_,by rw[hbn];exact h2,by rw[hkn];exact h3⟩
   have hx':x.born∈(es.modify i fun e=>{e with key:=kf k,val:=vf v}).toList.map (·.born):=List.mem_map.2 ⟨x,hx,rfl⟩
   rw[hbn] at hx'
   obtain⟨y,hy,e⟩:=List.mem_map.1 hx'
   rw[←e]
   exact h1 y hy
  ·unfold Z0j
   rw[hg]
   simp only[Option.isSome_some,if_true,List.map_map]
   apply List.ext_getElem?
   intro j
   by_cases hj:j < es.size
   ·have h1:=hat j hj
    simp only[List.getElem?_map,Array.getElem?_toList,Array.getElem?_modify]
    rw[Array.getElem?_eq_getElem hj,List.getElem?_eq_getElem (show j < L.length by omega)]
    by_cases hij:i=j
    ·subst hij
     simp[hLi]
    ·have hne:(L[j]'(by omega)).1≠k:=fun e=>by
      have hnd':=List.pairwise_iff_getElem.1 hnd
      rcases Nat.lt_or_ge i j with hlt' | hge
      ·have:=hnd' i j (by simpa using hidx) (by simp;omega) hlt'
       simp at this
       exact this (by rw[hLi,e])
      ·have:=hnd' j i (by simp;omega) (by simpa using hidx) (by omega)
       simp at this
       exact this (by rw[hLi,e])
     simp[hij,hne,h1.1,h1.2]
   ·simp only[List.getElem?_map,Array.getElem?_toList]
    rw[Array.getElem?_eq_none (by simp;omega),List.getElem?_eq_none (by omega)]
    rfl
theorem Kt {α γ:Type}(f:α→γ):∀(l:List α) (i:Nat),(l.eraseIdx i).map f=(l.map f).eraseIdx i
 | [],_=>by simp
 | x::l,0=>by simp
 | x::l,i+1=>by simp[Kt f l i]
theorem Um [DecidableEq κ](K:KeyOk P kt kf){t et ty tk:TypeId}(ht:P.underlying t=some (.map kt et))(h:MapB w m kf vf L)(k:κ) :
  ∃o,(Builtin.delete_ #[t,tk] ty #[.map (some m),kf k]).run P w=.ok (.tuple #[]) (putObj w m o)∧MapB (putObj w m o) m kf vf (Yr L k):=by
 have hnd:=h.nodup
 have hlt:=h.lt
 obtain⟨es,clock,hb,hst,he⟩:=h
 cases hg:Gu L k with
 | none =>
  refine⟨.map es clock,?_,es,clock,Dy w _ hlt,hst,?_⟩
  ·simp[Builtin.delete_,run_underlying ht,Ar hb,K.chk,Bv K he,hg,D7 hb]
  ·rw[he]
   congr 1
   unfold Yr
   rw[List.filter_eq_self.2]
   intro p hp
   simpa using Pz.1 hg p hp
 | some u =>
  have hidx:(L.findIdx fun p=>decide (p.1=k)) < L.length:=by
   rw[List.findIdx_lt_length]
   exact⟨(k,u),Sd hg,by simp⟩
  have hLi:(L[L.findIdx fun p=>decide (p.1=k)]'hidx).1=k:=by
   have:=List.findIdx_getElem (w:=hidx)
   simpa using this
  have hfk:=Bv (P:=P) (w:=w) K he k
  rw[hg] at hfk
  simp only[Option.map_some] at hfk
  generalize (L.findIdx fun p=>decide (p.1=k))=i at *
  have hsz:es.size=L.length:=by
   have:=congrArg List.length he
   simpa using this
  have hie:i < es.size:=by omega
  have hfl:Yr L k=L.eraseIdx i:=by
   unfold Yr
   have e:=List.take_append_drop i L
   rw[List.drop_eq_getElem_cons hidx] at e
   rw[List.eraseIdx_eq_take_drop_succ]
   conv=>lhs;rw[←e]
   rw[←e] at hnd
   simp only[List.map_append,List.map_cons,List.nodup_append,List.nodup_cons] at hnd
   obtain⟨_,⟨hn1,_⟩,hn2⟩:=hnd
   rw[List.filter_append,List.filter_cons,if_neg (by simp[hLi]),List.filter_eq_self.2,List.filter_eq_self.2]
   ·intro p hp
    simp only[decide_eq_true_eq]
    exact fun e=>hn1 (by rw[hLi,←e];exact List.mem_map.2 ⟨p,hp,rfl⟩)
   ·intro p hp
    simp only[decide_eq_true_eq]
    exact fun e=>hn2 p.1 (List.mem_map.2 ⟨p,hp,rfl⟩) (L[i]).1 (by simp) (by rw[hLi,e])
  refine⟨.map (es.eraseIdxIfInBounds i) clock,?_,es.eraseIdxIfInBounds i,clock,Dy w _ hlt,?_,?_⟩
  ·simp[Builtin.delete_,run_underlying ht,Ar hb,K.chk,hfk,D7 hb]
  ·obtain⟨h1,h2,h3⟩:=hst
   have e1:(es.eraseIdxIfInBounds i).toList=es.toList.eraseIdx i:=by simp[Array.eraseIdxIfInBounds,hie]
   rw[Stamped,e1]
   refine⟨fun x hx=>h1 x (List.mem_of_mem_eraseIdx hx),?_,?_⟩
   ·exact List.Nodup.sublist (List.Sublist.map _ (List.eraseIdx_sublist _ _)) h2
   ·exact List.Nodup.sublist (List.Sublist.map _ (List.eraseIdx_sublist _ _)) h3
  ·have e1:(es.eraseIdxIfInBounds i).toList=es.toList.eraseIdx i:=by simp[Array.eraseIdxIfInBounds,hie]
   rw[e1,hfl,Kt,Kt,he]
end
end Go.Proofs.YtihfaocdpmmooaaGreat

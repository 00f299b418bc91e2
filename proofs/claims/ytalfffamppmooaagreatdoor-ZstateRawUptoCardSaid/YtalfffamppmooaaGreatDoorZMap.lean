/- A part of the proof. -/
import Derived.Test.YtalfffamppmooaaGreatDoorZBase
import Derived.Maps.Own
namespace Go.Proofs.YtalfffamppmooaaGreatDoor
open Go.RowKit Go.MapKept
section
variable {κ β : Type} [DecidableEq κ]
def aget (L : List (κ × β)) (k : κ) : Option β := (L.find? fun p => decide (p.1 = k)).map (·.2)
def aput (L : List (κ × β)) (k : κ) (v : β) : List (κ × β) := if (aget L k).isSome then L.map (fun p => if p.1 = k then (k, v) else p) else L ++ [(k, v)]
def adel (L : List (κ × β)) (k : κ) : List (κ × β) := L.filter fun p => decide (p.1 ≠ k)
theorem aget_cons (p : κ × β) (L : List (κ × β)) (k : κ) : aget (p :: L) k = if p.1 = k then some p.2 else aget L k := by
 unfold aget
 rw [List.find?_cons]
 by_cases h : p.1 = k <;> simp [h]
theorem aget_none {L : List (κ × β)} {k : κ} : aget L k = none ↔ ∀ p ∈ L, p.1 ≠ k := by
 unfold aget
 simp
theorem aget_mem {L : List (κ × β)} {k : κ} {v : β} (h : aget L k = some v) : (k, v) ∈ L := by
 unfold aget at h
 obtain ⟨p, hp, rfl⟩ := Option.map_eq_some_iff.1 h
 have h1 := List.find?_some hp
 simp at h1
 subst h1
 exact List.mem_of_find?_eq_some hp
theorem aget_of_mem {L : List (κ × β)} (hn : (L.map (·.1)).Nodup) {k : κ} {v : β} (h : (k, v) ∈ L) : aget L k = some v := by
 induction L with
 | nil => simp at h
 | cons p L ih =>
  rw [aget_cons]
  simp only [List.map_cons, List.nodup_cons] at hn
  rcases List.mem_cons.1 h with rfl | h
  ·simp
  ·have hne : p.1 ≠ k := fun e => hn.1 (by rw [e]; exact List.mem_map.2 ⟨_, h, rfl⟩)
   rw [if_neg hne]
   exact ih hn.2 h
theorem aget_append (L M : List (κ × β)) (k : κ) : aget (L ++ M) k = (aget L k).or (aget M k) := by
 induction L with
 | nil => simp [aget]
 | cons p L ih =>
  rw [List.cons_append, aget_cons, aget_cons, ih]
  split <;> simp
theorem aget_map_put (L : List (κ × β)) (k : κ) (v : β) (j : κ) : aget (L.map fun p => if p.1 = k then (k, v) else p) j = if j = k then (aget L k).map (fun _ => v) else aget L j := by
 induction L with
 | nil => simp [aget]
 | cons p L ih =>
  rw [List.map_cons, aget_cons, ih, aget_cons, aget_cons]
  by_cases h1 : p.1 = k
  ·by_cases h2 : j = k
   ·subst h2; simp [h1]
   ·have : k ≠ j := fun e => h2 e.symm
    simp [h1, h2, this]
  ·by_cases h2 : j = k
   ·subst h2; simp [h1]
   ·simp [h1, h2]
theorem aget_put (L : List (κ × β)) (k : κ) (v : β) (j : κ) : aget (aput L k v) j = if j = k then some v else aget L j := by
 unfold aput
 split
 ·rename_i h
  rw [aget_map_put]
  obtain ⟨u, hu⟩ := Option.isSome_iff_exists.1 h
  by_cases h2 : j = k <;> simp [h2, hu]
 ·rename_i h
  have h0 : aget L k = none := by simpa using h
  rw [aget_append, aget_cons]
  by_cases h2 : j = k
  ·subst h2; simp [h0]
  ·have : k ≠ j := fun e => h2 e.symm
   simp [h2, this, aget]
theorem aget_del (L : List (κ × β)) (k j : κ) : aget (adel L k) j = if j = k then none else aget L j := by
 unfold adel
 induction L with
 | nil => simp [aget]
 | cons p L ih =>
  rw [List.filter_cons, aget_cons]
  by_cases h1 : p.1 = k
  ·simp only [ne_eq, h1, not_true_eq_false, decide_false, Bool.false_eq_true, if_false]
   simp only [ne_eq] at ih
   rw [ih]
   by_cases h2 : j = k
   ·simp [h2]
   ·have : k ≠ j := fun e => h2 e.symm
    simp [h2, this]
  ·simp only [ne_eq, h1, not_false_eq_true, decide_true, if_true]
   rw [aget_cons, ih]
   by_cases h2 : j = k
   ·subst h2; simp [h1]
   ·simp [h2]
theorem keys_put (L : List (κ × β)) (k : κ) (v : β) : (aput L k v).map (·.1) = if (aget L k).isSome then L.map (·.1) else L.map (·.1) ++ [k] := by
 unfold aput
 split
 ·rw [List.map_map]
  apply List.map_congr_left
  intro p _
  by_cases h : p.1 = k <;> simp [h]
 ·simp
theorem nodup_put {L : List (κ × β)} (hn : (L.map (·.1)).Nodup) (k : κ) (v : β) : ((aput L k v).map (·.1)).Nodup := by
 rw [keys_put]
 split
 ·exact hn
 ·rename_i h
  have h0 : aget L k = none := by simpa using h
  rw [List.nodup_append]
  refine ⟨hn, by simp, fun a ha b hb => ?_⟩
  obtain ⟨p, hp, rfl⟩ := List.mem_map.1 ha
  simp only [List.mem_singleton] at hb
  subst hb
  exact aget_none.1 h0 p hp
theorem nodup_del {L : List (κ × β)} (hn : (L.map (·.1)).Nodup) (k : κ) : ((adel L k).map (·.1)).Nodup := by
 unfold adel
 exact List.Nodup.sublist (List.Sublist.map _ List.filter_sublist) hn
end
structure KeyOk {κ : Type} [DecidableEq κ] (P : Program) (kt : TypeId) (kf : κ → Value) : Prop where
 chk : ∀ (e : Bool) (a : κ) (w : World), (Instr.checkKey e 10000 kt (kf a)).run P w = .ok () w
 same : ∃ kd, P.underlying kt = some kd ∧ ∀ a b, Instr.sameNow kd (kf a) (kf b) = some (decide (a = b))
 bits : ∀ a, Instr.sameBits 10000 (kf a) (kf a) = true
def MapB {κ β : Type} (w : World) (m : Nat) (kf : κ → Value) (vf : β → Value) (L : List (κ × β)) : Prop :=
 ∃ es clock, w.heap[m]? = some (.map es clock) ∧ Stamped es clock ∧ es.toList.map (fun e => (e.key, e.val)) = L.map (fun p => (kf p.1, vf p.2))
def putObj (w : World) (m : Nat) (o : Obj) : World := { w with heap := w.heap.setIfInBounds m o }
theorem nodup_of_map {α γ : Type} (f : α → γ) {l : List α} (h : (l.map f).Nodup) : l.Nodup := by
 induction l with
 | nil => simp
 | cons x l ih =>
  simp only [List.map_cons, List.nodup_cons] at h ⊢
  exact ⟨fun hx => h.1 (List.mem_map.2 ⟨x, hx, rfl⟩), ih h.2⟩
section
variable {κ β : Type} {P : Program} {kt : TypeId} {kf : κ → Value} {vf : β → Value} {w w' : World} {m : Nat} {L : List (κ × β)}
theorem MapB.lt (h : MapB w m kf vf L) : m < w.heap.size := by
 obtain ⟨es, clock, hb, _⟩ := h
 exact (Array.getElem?_eq_some_iff.1 hb).1
theorem MapB.of_block (h : MapB w m kf vf L) (hb : w'.heap[m]? = w.heap[m]?) : MapB w' m kf vf L := by
 obtain ⟨es, clock, he, r⟩ := h
 exact ⟨es, clock, hb.trans he, r⟩
theorem KeyOk.inj [DecidableEq κ] (K : KeyOk P kt kf) {a b : κ} (h : kf a = kf b) : a = b := by
 obtain ⟨kd, _, hs⟩ := K.same
 have h1 := hs a b
 have h2 := hs b b
 rw [h] at h1
 rw [h1] at h2
 simpa using h2
theorem MapB.nodup (h : MapB w m kf vf L) : (L.map (·.1)).Nodup := by
 obtain ⟨es, clock, _, ⟨_, _, hk⟩, he⟩ := h
 have h1 : es.toList.map (·.key) = (L.map (·.1)).map kf := by
  have := congrArg (List.map Prod.fst) he
  simpa [List.map_map, Function.comp_def] using this
 rw [h1] at hk
 exact nodup_of_map kf hk
theorem MapB.length (h : MapB w m kf vf L) : ∃ es clock, w.heap[m]? = some (.map es clock) ∧ es.size = L.length := by
 obtain ⟨es, clock, hb, _, he⟩ := h
 refine ⟨es, clock, hb, ?_⟩
 have := congrArg List.length he
 simpa using this
theorem find_now [DecidableEq κ] {kd : TypeDesc} (hs : ∀ a b, Instr.sameNow kd (kf a) (kf b) = some (decide (a = b))) (k : κ) : ∀ (es : List MapEntry) (L : List (κ × β)) (i : Nat), es.map (fun e => (e.key, e.val)) = L.map (fun p => (kf p.1, vf p.2)) →
  Instr.findNow kd (kf k) es i = some ((aget L k).map fun v => (i + (L.findIdx fun p => decide (p.1 = k)), vf v))
 | [], [], i, _ => by simp [Instr.findNow, aget]
 | [], _ :: _, i, h => by simp at h
 | _ :: _, [], i, h => by simp at h
 | e :: es, p :: L, i, h => by
  simp only [List.map_cons, List.cons.injEq, Prod.mk.injEq] at h
  obtain ⟨⟨hk, hv⟩, hr⟩ := h
  unfold Instr.findNow
  rw [hk, hs k p.1, aget_cons, List.findIdx_cons]
  by_cases hp : p.1 = k
  ·have hp' : k = p.1 := hp.symm
   simp [hp, hv]
  ·have hp' : ¬ k = p.1 := fun e => hp e.symm
   simp only [hp, hp', decide_false, if_false, cond_false]
   rw [find_now hs k es L (i + 1) hr]
   congr 1
   cases aget L k with
   | none => rfl
   | some v => simp only [Option.map_some]; congr 2; omega
theorem run_findKey [DecidableEq κ] (K : KeyOk P kt kf) {es : Array MapEntry} (he : es.toList.map (fun e => (e.key, e.val)) = L.map (fun p => (kf p.1, vf p.2))) (k : κ) :
  (Instr.findKey kt (kf k) es.toList).run P w = .ok ((aget L k).map fun v => (L.findIdx fun p => decide (p.1 = k), vf v)) w := by
 obtain ⟨kd, hu, hs⟩ := K.same
 unfold Instr.findKey
 rw [Sem.run_bind, run_underlying hu]
 simp only [Result.andThen_ok]
 rw [find_now hs k es.toList L 0 he]
 simp [Nat.zero_add]
theorem run_getObj_map {es : Array MapEntry} {clock : Nat} (hb : w.heap[m]? = some (.map es clock)) : (getObj m).run P w = .ok (.map es clock) w := by
 simp [getObj, Sem.run, hb]
theorem run_setObj_map {es : Array MapEntry} {clock : Nat} (hb : w.heap[m]? = some (.map es clock)) (o : Obj) : (setObj m o).run P w = .ok () (putObj w m o) := by
 simp [setObj, Sem.run, hb, putObj]
theorem putObj_heap (w : World) {m : Nat} (o : Obj) (hm : m < w.heap.size) : (putObj w m o).heap[m]? = some o := by
 simp [putObj, hm]
theorem putObj_other (w : World) {m k : Nat} (o : Obj) (hk : k ≠ m) : (putObj w m o).heap[k]? = w.heap[k]? := by
 simp only [putObj, Array.getElem?_setIfInBounds]
 rw [if_neg (fun e => hk e.symm)]
theorem putObj_size (w : World) (m : Nat) (o : Obj) : (putObj w m o).heap.size = w.heap.size := by simp [putObj]
theorem run_lookup_ok [DecidableEq κ] (K : KeyOk P kt kf) {t et : TypeId} (ht : P.underlying t = some (.map kt et)) {z : Value} (hz : (zeroValue et).run P w = .ok z w) (h : MapB w m kf vf L) (k : κ) :
  (Instr.lookup t (.map (some m)) (kf k) true).run P w = .ok (.tuple #[((aget L k).map vf).getD z, .bool (aget L k).isSome]) w := by
 obtain ⟨es, clock, hb, _, he⟩ := h
 cases hg : aget L k with
 | none => simp [Instr.lookup, run_underlying ht, run_getObj_map hb, K.chk, run_findKey K he, hz, hg]
 | some v => simp [Instr.lookup, run_underlying ht, run_getObj_map hb, K.chk, run_findKey K he, hg]
theorem run_lookup_plain [DecidableEq κ] (K : KeyOk P kt kf) {t et : TypeId} (ht : P.underlying t = some (.map kt et)) {z : Value} (hz : (zeroValue et).run P w = .ok z w) (h : MapB w m kf vf L) (k : κ) :
  (Instr.lookup t (.map (some m)) (kf k) false).run P w = .ok (((aget L k).map vf).getD z) w := by
 obtain ⟨es, clock, hb, _, he⟩ := h
 cases hg : aget L k with
 | none => simp [Instr.lookup, run_underlying ht, run_getObj_map hb, K.chk, run_findKey K he, hz, hg]
 | some v => simp [Instr.lookup, run_underlying ht, run_getObj_map hb, K.chk, run_findKey K he, hg]
theorem run_len_map {t kt et ty : TypeId} (ht : P.underlying t = some (.map kt et)) (h : MapB w m kf vf L) : (Builtin.len_ #[t] ty #[.map (some m)]).run P w = .ok (.int .i64 (L.length : Int)) w := by
 obtain ⟨es, clock, hb, hs⟩ := h.length
 simp [Builtin.len_, run_underlying ht, run_getObj_map hb, hs, goInt]
theorem mapB_new (w : World) (kf : κ → Value) (vf : β → Value) : MapB (w.alloc (.map #[] 0)) w.heap.size kf vf [] :=
 ⟨#[], 0, heap_alloc_new w _, ⟨by simp, by simp, by simp⟩, rfl⟩
theorem run_update [DecidableEq κ] (K : KeyOk P kt kf) {t et : TypeId} (ht : P.underlying t = some (.map kt et)) (h : MapB w m kf vf L) (k : κ) (v : β) :
  ∃ o, (Instr.mapUpdate t (.map (some m)) (kf k) (vf v)).run P w = .ok () (putObj w m o) ∧ MapB (putObj w m o) m kf vf (aput L k v) := by
 have hnd := h.nodup
 have hlt := h.lt
 obtain ⟨es, clock, hb, hst, he⟩ := h
 cases hg : aget L k with
 | none =>
  refine ⟨.map (es.push { key := kf k, val := vf v, born := clock }) (clock + 1), ?_, es.push { key := kf k, val := vf v, born := clock }, clock + 1, putObj_heap w _ hlt, ?_, ?_⟩
  ·simp [Instr.mapUpdate, run_underlying ht, run_getObj_map hb, K.chk, run_findKey K he, hg, run_setObj_map hb]
  ·obtain ⟨h1, h2, h3⟩ := hst
   refine ⟨?_, ?_, ?_⟩
   ·intro x hx
    simp at hx
    rcases hx with hx | rfl
    ·have := h1 x (by simpa using hx); omega
    ·exact Nat.lt_succ_self _
   ·simp only [Array.toList_push, List.map_append, List.map_cons, List.map_nil, List.nodup_append]
    refine ⟨h2, by simp, fun a ha b hb => ?_⟩
    obtain ⟨x, hx, rfl⟩ := List.mem_map.1 ha
    simp only [List.mem_singleton] at hb
    have := h1 x hx
    omega
   ·simp only [Array.toList_push, List.map_append, List.map_cons, List.map_nil, List.nodup_append]
    refine ⟨h3, by simp, fun a ha b hb => ?_⟩
    simp only [List.mem_singleton] at hb
    subst hb
    have h4 : es.toList.map (·.key) = (L.map (·.1)).map kf := by
     have := congrArg (List.map Prod.fst) he
     simpa [List.map_map, Function.comp_def] using this
    rw [h4] at ha
    obtain ⟨c, hc, rfl⟩ := List.mem_map.1 ha
    obtain ⟨p, hp, rfl⟩ := List.mem_map.1 hc
    exact fun e => aget_none.1 hg p hp (K.inj e)
  ·unfold aput
   rw [hg]
   simp [he]
 | some u =>
  have hidx : (L.findIdx fun p => decide (p.1 = k)) < L.length := by
   rw [List.findIdx_lt_length]
   exact ⟨(k, u), aget_mem hg, by simp⟩
  have hLi : (L[L.findIdx fun p => decide (p.1 = k)]'hidx).1 = k := by
   have := List.findIdx_getElem (w := hidx)
   simpa using this
  have hfk := run_findKey (P := P) (w := w) K he k
  rw [hg] at hfk
  simp only [Option.map_some] at hfk
  generalize (L.findIdx fun p => decide (p.1 = k)) = i at *
  have hsz : es.size = L.length := by
   have := congrArg List.length he
   simpa using this
  have hie : i < es.size := by omega
  have hat : ∀ j (hj : j < es.size), es[j].key = kf (L[j]'(by omega)).1 ∧ es[j].val = vf (L[j]'(by omega)).2 := fun j hj => by
   have h1 := congrArg (·[j]?) he
   simp only [List.getElem?_map, Array.getElem?_toList] at h1
   rw [Array.getElem?_eq_getElem hj, List.getElem?_eq_getElem (by omega)] at h1
   simpa using h1
  have hki : es[i].key = kf k := by rw [(hat i hie).1, hLi]
  refine ⟨.map (es.modify i fun e => { e with key := kf k, val := vf v }) clock, ?_, es.modify i fun e => { e with key := kf k, val := vf v }, clock, putObj_heap w _ hlt, ?_, ?_⟩
  ·simp [Instr.mapUpdate, run_underlying ht, run_getObj_map hb, K.chk, hfk, Instr.keyThatStays, hki, K.bits, run_setObj_map hb, hie]
  ·obtain ⟨h1, h2, h3⟩ := hst
   have hbn : (es.modify i fun e => { e with key := kf k, val := vf v }).toList.map (·.born) = es.toList.map (·.born) := by
    apply List.ext_getElem?
    intro j
    simp only [List.getElem?_map, Array.getElem?_toList, Array.getElem?_modify]
    split
    ·cases es[j]? <;> rfl
    ·rfl
   have hkn : (es.modify i fun e => { e with key := kf k, val := vf v }).toList.map (·.key) = es.toList.map (·.key) := by
    apply List.ext_getElem?
    intro j
    simp only [List.getElem?_map, Array.getElem?_toList, Array.getElem?_modify]
    split
    ·rename_i hij
     subst hij
     rw [Array.getElem?_eq_getElem hie]
     simp [hki]
    ·rfl
   refine ⟨fun x hx => ?_, by rw [hbn]; exact h2, by rw [hkn]; exact h3⟩
   have hx' : x.born ∈ (es.modify i fun e => { e with key := kf k, val := vf v }).toList.map (·.born) := List.mem_map.2 ⟨x, hx, rfl⟩
   rw [hbn] at hx'
   obtain ⟨y, hy, e⟩ := List.mem_map.1 hx'
   rw [← e]
   exact h1 y hy
  ·unfold aput
   rw [hg]
   simp only [Option.isSome_some, if_true, List.map_map]
   apply List.ext_getElem?
   intro j
   by_cases hj : j < es.size
   ·have h1 := hat j hj
    simp only [List.getElem?_map, Array.getElem?_toList, Array.getElem?_modify]
    rw [Array.getElem?_eq_getElem hj, List.getElem?_eq_getElem (show j < L.length by omega)]
    by_cases hij : i = j
    ·subst hij
     simp [hLi]
    ·have hne : (L[j]'(by omega)).1 ≠ k := fun e => by
      have hnd' := List.pairwise_iff_getElem.1 hnd
      rcases Nat.lt_or_ge i j with hlt' | hge
      ·have := hnd' i j (by simpa using hidx) (by simp; omega) hlt'
       simp at this
       exact this (by rw [hLi, e])
      ·have := hnd' j i (by simp; omega) (by simpa using hidx) (by omega)
       simp at this
       exact this (by rw [hLi, e])
     simp [hij, hne, h1.1, h1.2]
   ·simp only [List.getElem?_map, Array.getElem?_toList]
    rw [Array.getElem?_eq_none (by simp; omega), List.getElem?_eq_none (by omega)]
    rfl
theorem map_erase {α γ : Type} (f : α → γ) : ∀ (l : List α) (i : Nat), (l.eraseIdx i).map f = (l.map f).eraseIdx i
 | [], _ => by simp
 | x :: l, 0 => by simp
 | x :: l, i + 1 => by simp [map_erase f l i]
theorem run_delete [DecidableEq κ] (K : KeyOk P kt kf) {t et ty tk : TypeId} (ht : P.underlying t = some (.map kt et)) (h : MapB w m kf vf L) (k : κ) :
  ∃ o, (Builtin.delete_ #[t, tk] ty #[.map (some m), kf k]).run P w = .ok (.tuple #[]) (putObj w m o) ∧ MapB (putObj w m o) m kf vf (adel L k) := by
 have hnd := h.nodup
 have hlt := h.lt
 obtain ⟨es, clock, hb, hst, he⟩ := h
 cases hg : aget L k with
 | none =>
  refine ⟨.map es clock, ?_, es, clock, putObj_heap w _ hlt, hst, ?_⟩
  ·simp [Builtin.delete_, run_underlying ht, run_getObj_map hb, K.chk, run_findKey K he, hg, run_setObj_map hb]
  ·rw [he]
   congr 1
   unfold adel
   rw [List.filter_eq_self.2]
   intro p hp
   simpa using aget_none.1 hg p hp
 | some u =>
  have hidx : (L.findIdx fun p => decide (p.1 = k)) < L.length := by
   rw [List.findIdx_lt_length]
   exact ⟨(k, u), aget_mem hg, by simp⟩
  have hLi : (L[L.findIdx fun p => decide (p.1 = k)]'hidx).1 = k := by
   have := List.findIdx_getElem (w := hidx)
   simpa using this
  have hfk := run_findKey (P := P) (w := w) K he k
  rw [hg] at hfk
  simp only [Option.map_some] at hfk
  generalize (L.findIdx fun p => decide (p.1 = k)) = i at *
  have hsz : es.size = L.length := by
   have := congrArg List.length he
   simpa using this
  have hie : i < es.size := by omega
  have hfl : adel L k = L.eraseIdx i := by
   unfold adel
   have e := List.take_append_drop i L
   rw [List.drop_eq_getElem_cons hidx] at e
   rw [List.eraseIdx_eq_take_drop_succ]
   conv => lhs; rw [← e]
   rw [← e] at hnd
   simp only [List.map_append, List.map_cons, List.nodup_append, List.nodup_cons] at hnd
   obtain ⟨_, ⟨hn1, _⟩, hn2⟩ := hnd
   rw [List.filter_append, List.filter_cons, if_neg (by simp [hLi]), List.filter_eq_self.2, List.filter_eq_self.2]
   ·intro p hp
    simp only [decide_eq_true_eq]
    exact fun e => hn1 (by rw [hLi, ← e]; exact List.mem_map.2 ⟨p, hp, rfl⟩)
   ·intro p hp
    simp only [decide_eq_true_eq]
    exact fun e => hn2 p.1 (List.mem_map.2 ⟨p, hp, rfl⟩) (L[i]).1 (by simp) (by rw [hLi, e])
  refine ⟨.map (es.eraseIdxIfInBounds i) clock, ?_, es.eraseIdxIfInBounds i, clock, putObj_heap w _ hlt, ?_, ?_⟩
  ·simp [Builtin.delete_, run_underlying ht, run_getObj_map hb, K.chk, hfk, run_setObj_map hb]
  ·obtain ⟨h1, h2, h3⟩ := hst
   have e1 : (es.eraseIdxIfInBounds i).toList = es.toList.eraseIdx i := by simp [Array.eraseIdxIfInBounds, hie]
   rw [Stamped, e1]
   refine ⟨fun x hx => h1 x (List.mem_of_mem_eraseIdx hx), ?_, ?_⟩
   ·exact List.Nodup.sublist (List.Sublist.map _ (List.eraseIdx_sublist _ _)) h2
   ·exact List.Nodup.sublist (List.Sublist.map _ (List.eraseIdx_sublist _ _)) h3
  ·have e1 : (es.eraseIdxIfInBounds i).toList = es.toList.eraseIdx i := by simp [Array.eraseIdxIfInBounds, hie]
   rw [e1, hfl, map_erase, map_erase, he]
end
end Go.Proofs.YtalfffamppmooaaGreatDoor

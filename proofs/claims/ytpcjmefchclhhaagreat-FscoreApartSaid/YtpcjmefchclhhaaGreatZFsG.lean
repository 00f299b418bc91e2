/- A part of the proof. -/
import Derived.Test.YtpcjmefchclhhaaGreatZFsA
namespace Go.Proofs.YtpcjmefchclhhaaGreat
open Go.RowKit Go.MapKept
def unnamedP (r : RFs) (dir : Int) (s : ByteArray) : RFs := { r with nms := r.nms.filter fun n => !decide (n.dir = dir ∧ n.name = s) }
def goneP (r : RFs) (id : Int) : RFs := { r with ins := r.ins.filter fun x => decide (x.id ≠ id) }
def namedP (r : RFs) (dir : Int) (s : ByteArray) (id : Int) : RFs := { r with nms := r.nms ++ [⟨dir, s, id⟩] }
def setP (r : RFs) (x : RIn) : RFs := { r with ins := (r.ins.filter fun y => decide (y.id ≠ x.id)) ++ [x] }
def dropP (r : RFs) (dir : Int) (s : ByteArray) : RFs :=
 if (byIdP r.ins (entryP r.nms dir s)).kind = 2 ∨ linksN (unnamedP r dir s) (byIdP r.ins (entryP r.nms dir s)) = 0 then goneP (unnamedP r dir s) (entryP r.nms dir s) else unnamedP r dir s
def mayP (r : RFs) (x : RIn) (fo : Bool) : Int :=
 if x.kind = 2 then (if fo = true then (if 0 < manyP r.nms x.id then 174 else 0) else 172) else (if fo = true then 173 else 0)
theorem countP_unnamed {l : List RNm} {dir : Int} {s : ByteArray} (hu : l.Pairwise fun a b => ¬ (a.dir = b.dir ∧ a.name = b.name)) {n : RNm} (hn : n ∈ l) (h1 : n.dir = dir) (h2 : n.name = s) (P : RNm → Bool) :
  l.countP P = (l.filter fun n => !decide (n.dir = dir ∧ n.name = s)).countP P + if P n = true then 1 else 0 := by
 induction l with
 | nil => simp at hn
 | cons a l ih =>
  obtain ⟨ha, hu⟩ := List.pairwise_cons.1 hu
  rcases List.mem_cons.1 hn with e | hn
  ·subst e
   have hl : (l.filter fun n => !decide (n.dir = dir ∧ n.name = s)) = l := by
    rw [List.filter_eq_self]
    intro m hm
    have := ha m hm
    rw [h1, h2] at this
    simp only [Bool.not_eq_true', decide_eq_false_iff_not]
    exact fun e => this ⟨e.1.symm, e.2.symm⟩
   rw [List.filter_cons, if_neg (by simp [h1, h2]), hl, List.countP_cons]
  ·have hne : ¬ (a.dir = dir ∧ a.name = s) := fun e => ha n hn ⟨e.1.trans h1.symm, e.2.trans h2.symm⟩
   rw [List.filter_cons, if_pos (by rw [decide_eq_false hne]; rfl), List.countP_cons, List.countP_cons, ih hu hn]
   omega
theorem namesP_unnamed (l : List RNm) (dir d : Int) (s : ByteArray) : namesP (l.filter fun n => !decide (n.dir = dir ∧ n.name = s)) d = if d = dir then adel (namesP l d) s else namesP l d := by
 unfold namesP adel
 rw [List.filter_map, List.filter_filter, List.filter_filter]
 by_cases h : d = dir
 ·subst h
  rw [if_pos rfl]
  congr 1
  apply List.filter_congr
  intro n _
  by_cases h1 : n.dir = d <;> by_cases h2 : n.name = s <;> simp [h1, h2]
 ·rw [if_neg h]
  congr 1
  apply List.filter_congr
  intro n _
  by_cases h1 : n.dir = d
  ·have : ¬ n.dir = dir := fun e => h (h1.symm.trans e)
   simp [h1]
   exact .inl h
  ·simp [h1]
theorem namesP_named (l : List RNm) (dir d id : Int) (s : ByteArray) : namesP (l ++ [⟨dir, s, id⟩]) d = if d = dir then namesP l d ++ [(s, id)] else namesP l d := by
 unfold namesP
 rw [List.filter_append, List.map_append]
 by_cases h : d = dir
 ·subst h; simp
 ·have : ¬ dir = d := fun e => h e.symm
  simp [h, this]
theorem byIdP_filter (l : List RIn) (i j : Int) : byIdP (l.filter fun x => decide (x.id ≠ i)) j = if j = i then rin0 else byIdP l j := by
 by_cases h : j = i
 ·rw [if_pos h, byIdP_none]
  intro x hx e
  have := (List.mem_filter.1 hx).2
  simp at this
  exact this (e.trans h)
 ·rw [if_neg h]
  unfold byIdP
  congr 1
  induction l with
  | nil => rfl
  | cons x l ih =>
   rw [List.filter_cons, List.find?_cons]
   by_cases h1 : x.id = i
   ·have : ¬ x.id = j := fun e => h (e.symm.trans h1)
    simp only [h1, ne_eq, not_true_eq_false, decide_false, Bool.false_eq_true, if_false]
    rw [show decide (i = j) = false from decide_eq_false (fun e => h e.symm)]
    simp only [ne_eq] at ih
    exact ih
   ·simp only [ne_eq, h1, not_false_eq_true, decide_true, if_true, List.find?_cons]
    simp only [ne_eq] at ih
    rw [ih]
theorem byIdP_append (l : List RIn) (x : RIn) (j : Int) (h : ∀ y ∈ l, y.id ≠ x.id) : byIdP (l ++ [x]) j = if j = x.id then x else byIdP l j := by
 unfold byIdP
 rw [List.find?_append]
 by_cases hj : j = x.id
 ·subst hj
  rw [if_pos rfl, List.find?_eq_none.2 (fun y hy => by simpa using h y hy)]
  simp
 ·rw [if_neg hj]
  have : ¬ x.id = j := fun e => hj e.symm
  simp [this]
theorem byIdP_set (r : RFs) (x : RIn) (j : Int) : byIdP (setP r x).ins j = if j = x.id then x else byIdP r.ins j := by
 unfold setP
 dsimp only
 rw [byIdP_append _ _ _ (fun y hy => by have := (List.mem_filter.1 hy).2; simpa using this), byIdP_filter]
 by_cases hj : j = x.id
 ·rw [if_pos hj, if_pos hj]
 ·rw [if_neg hj, if_neg hj, if_neg hj]
theorem linksN_congr {r r' : RFs} {x x' : RIn} (hi : x'.id = x.id) (hk : x'.kind = x.kind) (hn : r'.nms = r.nms) (hb : ∀ n ∈ r.nms, (byIdP r'.ins n.id).kind = 2 ↔ (byIdP r.ins n.id).kind = 2) : linksN r' x' = linksN r x := by
 unfold linksN
 rw [hi, hk, hn]
 split
 ·congr 1
  apply List.countP_congr
  intro n hm
  have := hb n hm
  simp [this]
 ·rfl
theorem linksN_unnamed {r : RFs} {K : Nat} (hW : Wf r K) {n : RNm} (hn : n ∈ r.nms) (y : RIn) :
  linksN r y = linksN (unnamedP r n.dir n.name) y + if y.kind = 2 then (if n.dir = y.id ∧ (byIdP r.ins n.id).kind = 2 then 1 else 0) else if n.id = y.id then 1 else 0 := by
 unfold linksN unnamedP
 dsimp only
 by_cases h : y.kind = 2
 ·rw [if_pos h, if_pos h, if_pos h, countP_unnamed hW.uniq hn rfl rfl]
  simp only [decide_eq_true_eq]
  omega
 ·rw [if_neg h, if_neg h, if_neg h, countP_unnamed hW.uniq hn rfl rfl]
  simp only [decide_eq_true_eq]
theorem linksN_gone {r : RFs} {id : Int} (h : ∀ n ∈ r.nms, n.id = id → (byIdP r.ins id).kind ≠ 2) (y : RIn) : linksN (goneP r id) y = linksN r y := by
 refine linksN_congr rfl rfl rfl fun n hn => ?_
 show (byIdP (r.ins.filter fun x => decide (x.id ≠ id)) n.id).kind = 2 ↔ _
 rw [byIdP_filter]
 by_cases hi : n.id = id
 ·rw [if_pos hi, hi]
  exact ⟨fun e => absurd e (by decide), fun e => absurd e (h n hn hi)⟩
 ·rw [if_neg hi]
theorem linksN_named (r : RFs) (dir : Int) (s : ByteArray) (id : Int) (y : RIn) :
  linksN (namedP r dir s id) y = linksN r y + if y.kind = 2 then (if dir = y.id ∧ (byIdP r.ins id).kind = 2 then 1 else 0) else if id = y.id then 1 else 0 := by
 unfold linksN namedP
 dsimp only
 by_cases h : y.kind = 2
 ·rw [if_pos h, if_pos h, if_pos h, List.countP_append]
  simp only [List.countP_cons, List.countP_nil, decide_eq_true_eq]
  omega
 ·rw [if_neg h, if_neg h, if_neg h, List.countP_append]
  simp only [List.countP_cons, List.countP_nil, decide_eq_true_eq]
  omega
theorem Wf.one_name {r : RFs} {K : Nat} (hW : Wf r K) {x : RIn} (hx : x ∈ r.ins) (hk : x.kind = 2) (h1 : x.id ≠ 1) {n m : RNm} (hn : n ∈ r.nms) (hm : m ∈ r.nms) (en : n.id = x.id) (em : m.id = x.id) : n.dir = m.dir ∧ n.name = m.name := by
 have ho := hW.one x hx hk h1
 have hl : (r.nms.filter fun n => decide (n.id = x.id)).length = 1 := by have := congrArg List.length ho; simpa using this
 obtain ⟨a, ha⟩ := List.length_eq_one_iff.1 hl
 have h2 : n ∈ r.nms.filter fun n => decide (n.id = x.id) := List.mem_filter.2 ⟨hn, by simpa using en⟩
 have h3 : m ∈ r.nms.filter fun n => decide (n.id = x.id) := List.mem_filter.2 ⟨hm, by simpa using em⟩
 rw [ha, List.mem_singleton] at h2 h3
 rw [h2, h3]
 exact ⟨rfl, rfl⟩
theorem Wf.dir_of {r : RFs} {K : Nat} (hW : Wf r K) {x : RIn} (hx : x ∈ r.ins) (hk : x.kind = 2) {n : RNm} (hn : n ∈ r.nms) (en : n.id = x.id) : n.dir = x.parent := by
 have h1 : x.id ≠ 1 := by rw [← en]; exact (hW.nmI n hn).1
 have ho := hW.one x hx hk h1
 have h2 : n.dir ∈ (r.nms.filter fun n => decide (n.id = x.id)).map (·.dir) := List.mem_map.2 ⟨n, List.mem_filter.2 ⟨hn, by simpa using en⟩, rfl⟩
 rw [ho] at h2
 simpa using h2
theorem Wf.par_ne {r : RFs} {K : Nat} (hW : Wf r K) {x : RIn} (hx : x ∈ r.ins) (hk : x.kind = 2) (h1 : x.id ≠ 1) : x.parent ≠ x.id := by
 obtain ⟨ρ, hρ⟩ := hW.tree
 have := hρ x hx hk h1
 intro e
 rw [e] at this
 omega
theorem Wf.self_ne {r : RFs} {K : Nat} (hW : Wf r K) {n : RNm} (hn : n ∈ r.nms) : n.id ≠ n.dir := by
 intro e
 obtain ⟨d, hd, e1, hk⟩ := hW.nmD n hn
 have h1 := (hW.nmI n hn).1
 have h2 := hW.dir_of hd hk hn (by rw [e, e1])
 have := hW.par_ne hd hk (by rw [e1, ← e]; exact h1)
 rw [← h2, e1] at this
 exact this rfl
end Go.Proofs.YtpcjmefchclhhaaGreat

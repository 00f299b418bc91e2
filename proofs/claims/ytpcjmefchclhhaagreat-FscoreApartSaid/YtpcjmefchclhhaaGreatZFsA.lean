/- A part of the proof. -/
import Derived.Test.YtpcjmefchclhhaaGreatZShN
import Derived.Test.YtpcjmefchclhhaaGreatZKeys
namespace Go.Proofs.YtpcjmefchclhhaaGreat
open Go.RowKit Go.MapKept
structure RIn where
 id : Int
 gen : Int
 kind : Int
 mode : Int
 time : Int
 parent : Int
 target : ByteArray
 B : List UInt8
 On : List Nat
structure RNm where
 dir : Int
 name : ByteArray
 id : Int
structure RFs where
 room : Int
 ins : List RIn
 nms : List RNm
 gens : List Int
structure RMk where
 kind : Int
 mode : Int
 time : Int
 target : ByteArray
def noStr : ByteArray := ⟨#[]⟩
def dotS : ByteArray := ⟨#[46]⟩
def dot2S : ByteArray := ⟨#[46, 46]⟩
def rin0 : RIn := ⟨0, 0, 0, 0, 0, 0, noStr, [], []⟩
def byIdP (l : List RIn) (id : Int) : RIn := (l.find? fun x => decide (x.id = id)).getD rin0
def liveP (r : RFs) (h : Int × Int) : Bool := decide ((byIdP r.ins h.1).id ≠ 0 ∧ (byIdP r.ins h.1).gen = h.2)
def findE (r : RFs) (h : Int × Int) : Int := if liveP r h = true then 0 else 175
def folderE (r : RFs) (h : Int × Int) : Int := if liveP r h = true then (if (byIdP r.ins h.1).kind = 2 then 0 else 173) else 175
def validP (s : ByteArray) : Bool := decide (1 ≤ s.size ∧ s.size ≤ 60 ∧ s ≠ dotS ∧ s ≠ dot2S) && s.data.toList.all fun c => decide (c ≠ 47 ∧ c ≠ 0)
def entryP (l : List RNm) (dir : Int) (name : ByteArray) : Int := ((l.find? fun n => decide (n.dir = dir ∧ n.name = name)).map (·.id)).getD 0
def namesP (l : List RNm) (dir : Int) : List (ByteArray × Int) := (l.filter fun n => decide (n.dir = dir)).map fun n => (n.name, n.id)
def manyP (l : List RNm) (dir : Int) : Nat := l.countP fun n => decide (n.dir = dir)
def linksN (r : RFs) (x : RIn) : Nat :=
 if x.kind = 2 then (r.nms.countP fun n => decide (n.dir = x.id ∧ (byIdP r.ins n.id).kind = 2)) + 2 else r.nms.countP fun n => decide (n.id = x.id)
def gensAt (l : List Int) (id : Int) : Int := if 0 ≤ id then l.getD id.toNat 0 else 0
def placeE (r : RFs) (h : Int × Int) (s : ByteArray) (free : Bool) : Int :=
 if folderE r h ≠ 0 then folderE r h else if free = true ∧ (s = dotS ∨ s = dot2S) then 0 else if validP s = true then 0 else 176
structure Wf (r : RFs) (K : Nat) : Prop where
 ids : (r.ins.map (·.id)).Nodup
 rng : ∀ x ∈ r.ins, 1 ≤ x.id ∧ x.id ≤ 200
 gen : ∀ x ∈ r.ins, x.gen = gensAt r.gens x.id ∧ 1 ≤ x.gen
 genK : ∀ g ∈ r.gens, 0 ≤ g ∧ g ≤ (K : Int) + 1
 genL : r.gens.length ≤ 201
 kind : ∀ x ∈ r.ins, x.kind = 1 ∨ x.kind = 2 ∨ x.kind = 3
 root : ∃ x ∈ r.ins, x.id = 1 ∧ x.gen = 1 ∧ x.kind = 2 ∧ x.parent = 1
 nmD : ∀ n ∈ r.nms, ∃ d ∈ r.ins, d.id = n.dir ∧ d.kind = 2
 nmI : ∀ n ∈ r.nms, n.id ≠ 1 ∧ ∃ x ∈ r.ins, x.id = n.id
 nmV : ∀ n ∈ r.nms, validP n.name = true
 uniq : r.nms.Pairwise fun a b => ¬ (a.dir = b.dir ∧ a.name = b.name)
 one : ∀ x ∈ r.ins, x.kind = 2 → x.id ≠ 1 → (r.nms.filter fun n => decide (n.id = x.id)).map (·.dir) = [x.parent]
 some : ∀ x ∈ r.ins, x.kind ≠ 2 → ∃ n ∈ r.nms, n.id = x.id
 par : ∀ x ∈ r.ins, x.kind = 2 → ∃ p ∈ r.ins, p.id = x.parent ∧ p.kind = 2
 tree : ∃ ρ : Int → Nat, ∀ x ∈ r.ins, x.kind = 2 → x.id ≠ 1 → ρ x.parent < ρ x.id
 nmK : r.nms.length ≤ K
 lim : ∀ x ∈ r.ins, linksN r x ≤ 20
 file : ∀ x ∈ r.ins, x.kind ≠ 1 → x.B = [] ∧ x.On = []
 link : ∀ x ∈ r.ins, x.kind ≠ 3 → x.target = noStr
 rm : r.room ≤ 9223372036854775807
 sp : (((r.ins.map fun x => x.On.length).sum : Nat) : Int) ≤ r.room
section
variable {r : RFs} {K : Nat} {id : Int} {x : RIn}
theorem byIdP_mem {l : List RIn} (h : (byIdP l id).id ≠ 0) : byIdP l id ∈ l ∧ (byIdP l id).id = id := by
 unfold byIdP at h ⊢
 cases hf : l.find? fun x => decide (x.id = id) with
 | none => rw [hf] at h; exact absurd rfl h
 | some y =>
  rw [Option.getD_some]
  exact ⟨List.mem_of_find?_eq_some hf, by simpa using List.find?_some hf⟩
theorem byIdP_of {l : List RIn} (hn : (l.map (·.id)).Nodup) (hx : x ∈ l) : byIdP l x.id = x := by
 unfold byIdP
 induction l with
 | nil => simp at hx
 | cons y l ih =>
  simp only [List.map_cons, List.nodup_cons] at hn
  rw [List.find?_cons]
  rcases List.mem_cons.1 hx with rfl | hx
  ·simp
  ·have : y.id ≠ x.id := fun e => hn.1 (by rw [e]; exact List.mem_map.2 ⟨x, hx, rfl⟩)
   simp only [this, decide_false]
   exact ih hn.2 hx
theorem byIdP_none {l : List RIn} (h : ∀ x ∈ l, x.id ≠ id) : byIdP l id = rin0 := by
 unfold byIdP
 rw [List.find?_eq_none.2 (fun x hx => by simpa using h x hx)]
 rfl
theorem Wf.byId (h : Wf r K) (hx : x ∈ r.ins) : byIdP r.ins x.id = x := byIdP_of h.ids hx
theorem Wf.ne0 (h : Wf r K) (hx : x ∈ r.ins) : x.id ≠ 0 := by have := h.rng x hx; omega
theorem Wf.cnt (h : Wf r K) : r.ins.length ≤ 200 := by
 have h1 := nodup_sub_len (l := r.ins.map (·.id)) (m := (List.range 200).map fun i => ((i : Nat) : Int) + 1) h.ids (fun k hk => by
  obtain ⟨x, hx, rfl⟩ := List.mem_map.1 hk
  have := h.rng x hx
  exact List.mem_map.2 ⟨(x.id - 1).toNat, by simp; omega, by simp; omega⟩)
 simpa using h1
theorem namesP_len (l : List RNm) (dir : Int) : (namesP l dir).length = manyP l dir := by
 unfold namesP manyP
 rw [List.length_map, List.countP_eq_length_filter]
theorem namesP_get {l : List RNm} (dir : Int) (s : ByteArray) : aget (namesP l dir) s = (l.find? fun n => decide (n.dir = dir ∧ n.name = s)).map (·.id) := by
 unfold namesP
 induction l with
 | nil => rfl
 | cons n l ih =>
  rw [List.filter_cons, List.find?_cons]
  by_cases h : n.dir = dir
  ·simp only [h, decide_true, if_true, List.map_cons, aget_cons]
   by_cases h2 : n.name = s
   ·simp [h2]
   ·simp only [h2, if_false, and_false, decide_false]
    exact ih
  ·simp only [h, decide_false, false_and]
   exact ih
theorem entry_get {l : List RNm} (dir : Int) (s : ByteArray) : (aget (namesP l dir) s).getD 0 = entryP l dir s := by rw [namesP_get]; rfl
theorem Wf.entry_some (h : Wf r K) (dir : Int) (s : ByteArray) : (aget (namesP r.nms dir) s).isSome = decide (entryP r.nms dir s ≠ 0) := by
 rw [namesP_get]
 unfold entryP
 cases hf : r.nms.find? fun n => decide (n.dir = dir ∧ n.name = s) with
 | none => simp
 | some n =>
  have hm := List.mem_of_find?_eq_some hf
  obtain ⟨_, y, hy, e⟩ := h.nmI n hm
  have := h.rng y hy
  simp
  omega
theorem entry_mem {l : List RNm} {dir : Int} {s : ByteArray} (h : entryP l dir s ≠ 0) : ∃ n ∈ l, n.dir = dir ∧ n.name = s ∧ n.id = entryP l dir s := by
 unfold entryP at h ⊢
 cases hf : l.find? fun n => decide (n.dir = dir ∧ n.name = s) with
 | none => rw [hf] at h; exact absurd rfl h
 | some n =>
  have := List.find?_some hf
  simp at this
  exact ⟨n, List.mem_of_find?_eq_some hf, this.1, this.2, rfl⟩
theorem live_mem {hd : Int × Int} (hl : liveP r hd = true) : byIdP r.ins hd.1 ∈ r.ins ∧ (byIdP r.ins hd.1).id = hd.1 ∧ (byIdP r.ins hd.1).gen = hd.2 := by
 obtain ⟨h1, h2⟩ := of_decide_eq_true hl
 obtain ⟨h3, h4⟩ := byIdP_mem h1
 exact ⟨h3, h4, h2⟩
end
end Go.Proofs.YtpcjmefchclhhaaGreat

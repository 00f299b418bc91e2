/- A part of the proof, merged from several texts. -/
import Derived.Test.YtalfffamppmooaaGreatDoorZM2
import Derived.Test.YtalfffamppmooaaGreatDoorZM1
namespace Go.Proofs.YtalfffamppmooaaGreatDoor
open Go.RowKit
set_option maxRecDepth 100000
structure SmT (T : List RZ) : Prop where
 len : T.length ≤ 100000
 path : ∀ z ∈ T, z.path.size ≤ 1500000
end Go.Proofs.YtalfffamppmooaaGreatDoor
namespace Go.Proofs.YtalfffamppmooaaGreatDoor
open Go.RowKit
set_option maxRecDepth 100000
theorem valid_size {s : ByteArray} (h : validZ s = true) : s.size ≤ 500 := by
 by_cases hs : s = rootS
 ·subst hs; decide
 ·obtain ⟨r, hp⟩ := isP_of h hs
  have e : s = joinZ (splitZ r) := data_inj (by rw [join_splitZ, hp.bytes])
  have := join_take (splitZ r) fun x hx => by
   have := hp.good x hx
   unfold nameZ at this
   simp only [Bool.and_eq_true, decide_eq_true_eq] at this
   exact this.2.2.1
  have h8 := hp.few
  rw [← e] at this
  omega
theorem wz_sm {T : List RZ} (h : Wz T) : SmT T := ⟨by have := h.len; omega, fun z hz => by have := valid_size (h.valid z hz); omega⟩
theorem ev_rows (l : List RE) : ∀ r ∈ l.map enE, r.length = 3 ∧ r.all G.one = true := fun r hr => by
 obtain ⟨x, -, rfl⟩ := List.mem_map.1 hr
 exact ⟨rfl, rfl⟩
end Go.Proofs.YtalfffamppmooaaGreatDoor
namespace Go.Proofs.YtalfffamppmooaaGreatDoor
open Go.RowKit
set_option maxRecDepth 100000
theorem one_ev (T : List RZ) (zx se : Int) (c : RC) : (oneZ T zx se c).ev.length ≤ 2 := by
 unfold oneZ
 repeat' split
 all_goals first
  | (unfold createZ; split <;> simp [kidZ, failZ]; done)
  | simp [failZ, removeZ, kidZ]
theorem runZ_step {zx se : Int} {l : List RC} {i : Nat} {c : RC} (h : l[i]? = some c) (a : RAns) : runZ zx se (l.drop i) a = if (oneZ a.t zx se c).e = 0 then runZ zx se (l.drop (i + 1)) ⟨(oneZ a.t zx se c).t, a.ps ++ [(oneZ a.t zx se c).path], a.ev ++ (oneZ a.t zx se c).ev, 0⟩ else ⟨[], [], [], (oneZ a.t zx se c).e⟩ := by
 rw [List.drop_eq_getElem_cons (List.getElem?_eq_some_iff.1 h).1, (List.getElem?_eq_some_iff.1 h).2, runZ]
structure DoInv (zx se : Int) (T : List RZ) (l : List RC) (x : Nat × List RZ × List ByteArray × List RE) : Prop where
 le : x.1 ≤ l.length
 wz : Wz x.2.1
 ps : x.2.2.1.length = x.1
 ev : x.2.2.2.length ≤ 2 * x.1
 run : runZ zx se l ⟨T, [], [], 0⟩ = runZ zx se (l.drop x.1) ⟨x.2.1, x.2.2.1, x.2.2.2, 0⟩
structure EndInv (zx : Int) (T : List RZ) (L : List ByteArray) (x : Nat × List RZ × List RE) : Prop where
 le : x.1 ≤ L.length
 wz : Wz x.2.1
 ev : x.2.2.length = 2 * x.1
 own : ∀ p ∈ L.drop x.1, ∃ z ∈ x.2.1, z.path = p ∧ z.ow ≠ 0
 run : endL zx L (T, []) = endL zx (L.drop x.1) (x.2.1, x.2.2)
theorem end_step {zx : Int} (hz : inZ zx = true) {T t : List RZ} {L : List ByteArray} (hn : L.Nodup) {i : Nat} {ev : List RE} (h : EndInv zx T L (i, t, ev)) {p : ByteArray} (hp : L[i]? = some p) : ∃ q, RmOk t p q ∧ p.size ≤ 500 ∧ EndInv zx T L (i + 1, (removeZ t zx p).t, ev ++ (removeZ t zx p).ev) := by
 have hw : Wz t := h.wz
 have hlt := lt_of_at hp
 have hd : L.drop i = p :: L.drop (i + 1) := by rw [List.drop_eq_getElem_cons hlt, (List.getElem?_eq_some_iff.1 hp).2]
 obtain ⟨z, h1, h2, h3⟩ := h.own p (by show p ∈ L.drop i; rw [hd]; simp)
 have h1 : z ∈ t := h1
 obtain ⟨h4, h5⟩ := own_leaf hw h1 h3
 obtain ⟨q, hq⟩ := rm_of hw h1 h4 h5
 rw [h2] at hq
 obtain ⟨h6, h7⟩ := wz_remove hw hz hq
 have hnd : (p :: L.drop (i + 1)).Nodup := by rw [← hd]; exact hn.sublist (List.drop_sublist _ _)
 refine ⟨q, hq, by rw [← h2]; exact valid_size (hw.valid z h1), hlt, h6, ?_, fun p' hp' => ?_, ?_⟩
 ·have := h.ev
  show (ev ++ (removeZ t zx p).ev).length = 2 * (i + 1)
  rw [List.length_append, show (removeZ t zx p).ev.length = 2 from rfl, show ev.length = 2 * i from this]; omega
 ·have hp' : p' ∈ L.drop (i + 1) := hp'
  obtain ⟨z', k1, k2, k3⟩ := h.own p' (by show p' ∈ L.drop i; rw [hd]; simp [hp'])
  have hne : p' ≠ p := fun e => (List.nodup_cons.1 hnd).1 (e ▸ hp')
  refine ⟨z', ?_, k2, k3⟩
  show z' ∈ (removeZ t zx p).t
  rw [h7]
  refine mem_put.2 (.inr ⟨mem_del.2 ⟨k1, by rw [k2]; exact hne⟩, fun e => ?_⟩)
  have := srt_inj hw.srt k1 hq.mem e
  exact k3 (this ▸ hq.own)
 ·have := h.run
  show _ = endL zx (L.drop (i + 1)) _
  rw [show endL zx L (T, []) = endL zx (L.drop i) (t, ev) from this, hd]
  rfl
theorem end_init {zx : Int} {T : List RZ} (h : Wz T) (se : Int) : EndInv zx T (ownedZ T se) (0, T, []) := ⟨by simp, h, rfl, (owned_ok h se).2, rfl⟩
theorem owned_len {T : List RZ} (h : Wz T) (se : Int) : (ownedZ T se).length ≤ 200 := by
 unfold ownedZ
 rw [List.length_map]
 exact Nat.le_trans (List.length_filter_le _ _) h.len
end Go.Proofs.YtalfffamppmooaaGreatDoor

/- A part of the proof. -/
import Derived.Test.YtifdeajdlhgglaaGreatDoorZM1
namespace Go.Proofs.YtifdeajdlhgglaaGreatDoor
def SimZ (z x : RZ) : Prop := x = { z with ki := x.ki, ci := x.ci }
theorem SimZ.refl (z : RZ) : SimZ z z := rfl
theorem SimZ.trans {a b c : RZ} (h1 : SimZ a b) (h2 : SimZ b c) : SimZ a c := by
 unfold SimZ at *
 rw [h2, h1]
theorem SimZ.ow {a b : RZ} (h : SimZ a b) : b.ow = a.ow := by rw [show b = _ from h]
theorem SimZ.flds {z x : RZ} (h : SimZ z x) : x.path = z.path ∧ x.data = z.data ∧ x.cr = z.cr ∧ x.ch = z.ch ∧ x.ve = z.ve ∧ x.ow = z.ow ∧ x.nx = z.nx := by
 rw [show x = _ from h]
 exact ⟨rfl, rfl, rfl, rfl, rfl, rfl, rfl⟩
theorem sim_kid (q : RZ) (zx : Int) : SimZ q (kidOf q zx false) := rfl
structure EndO (T T' : List RZ) (l : List ByteArray) (q : ByteArray) : Prop where
 gone : q ∈ l → getZ T' q = none
 none : getZ T q = none → getZ T' q = none
 same : q ∉ l → ∀ z, getZ T q = some z → ∃ x, getZ T' q = some x ∧ SimZ z x
theorem endL_o {zx : Int} (hz : inZ zx = true) : ∀ (l : List ByteArray) (a : List RZ × List RE), l.Nodup → Wz a.1 → (∀ p ∈ l, ∃ z ∈ a.1, z.path = p ∧ z.ow ≠ 0) → ∀ k, EndO a.1 (endL zx l a).1 l k
 | [], _, _, _, _, _ => ⟨fun h => by simp at h, fun h => h, fun _ z h => ⟨z, h, .refl z⟩⟩
 | p :: l, a, hn, h, hl, k => by
  obtain ⟨z, h1, h2, h3⟩ := hl p (by simp)
  obtain ⟨h4, h5⟩ := own_leaf h h1 h3
  obtain ⟨q, hq⟩ := rm_of h h1 h4 h5
  rw [h2] at hq
  obtain ⟨h6, h7⟩ := wz_remove h hz hq
  have ih := endL_o hz l ((removeZ a.1 zx p).t, a.2 ++ (removeZ a.1 zx p).ev) (List.nodup_cons.1 hn).2 h6 (fun p' hp' => by
   obtain ⟨z', k1, k2, k3⟩ := hl p' (by simp [hp'])
   have hne : p' ≠ p := fun e => (List.nodup_cons.1 hn).1 (e ▸ hp')
   refine ⟨z', ?_, k2, k3⟩
   show z' ∈ (removeZ a.1 zx p).t
   rw [h7]
   refine mem_put.2 (.inr ⟨mem_del.2 ⟨k1, by rw [k2]; exact hne⟩, fun e => ?_⟩)
   have := srt_inj h.srt k1 hq.mem e
   exact k3 (this ▸ hq.own)) k
  have e : getZ (removeZ a.1 zx p).t k = if k = q.path then some (kidOf q zx false) else if k = p then .none else getZ a.1 k := by
   rw [h7, get_put (srt_del h.srt), get_del h.srt]; rfl
  have hqk : getZ a.1 q.path = some q := (get_iff h.srt).2 ⟨hq.mem, rfl⟩
  have hpq : p ≠ q.path := fun e => hq.lt e.symm
  show EndO a.1 (endL zx l ((removeZ a.1 zx p).t, a.2 ++ (removeZ a.1 zx p).ev)).1 (p :: l) k
  refine ⟨fun hk => ?_, fun hk => ?_, fun hk y hy => ?_⟩
  ·rcases List.mem_cons.1 hk with rfl | hk
   ·exact ih.none (by rw [show ((removeZ a.1 zx k).t, a.2 ++ (removeZ a.1 zx k).ev).1 = (removeZ a.1 zx k).t from rfl, e, if_neg hpq, if_pos rfl])
   ·exact ih.gone hk
  ·refine ih.none ?_
   show getZ (removeZ a.1 zx p).t k = .none
   rw [e]
   by_cases h8 : k = q.path
   ·rw [h8, hqk] at hk; cases hk
   ·rw [if_neg h8]
    by_cases h9 : k = p
    ·rw [if_pos h9]
    ·rw [if_neg h9]; exact hk
  ·have hk : k ≠ p ∧ k ∉ l := by simpa using hk
   by_cases h8 : k = q.path
   ·subst h8
    rw [hqk] at hy
    obtain rfl := Option.some.inj hy
    obtain ⟨x, hx1, hx2⟩ := ih.same hk.2 (kidOf q zx false) (by show getZ (removeZ a.1 zx p).t q.path = _; rw [e, if_pos rfl])
    exact ⟨x, hx1, (sim_kid q zx).trans hx2⟩
   ·exact ih.same hk.2 y (by show getZ (removeZ a.1 zx p).t k = _; rw [e, if_neg h8, if_neg hk.1]; exact hy)
theorem end_o' {T : List RZ} (h : Wz T) {zx se : Int} (hz : inZ zx = true) (hs : inZ se = true) (k : ByteArray) : EndO T (endZ T zx se).1 (ownedZ T se) k := by
 unfold endZ
 rw [if_pos ⟨hz, hs⟩]
 exact endL_o hz _ (T, []) (owned_ok h se).1 h (owned_ok h se).2 k
theorem end_nil {T : List RZ} {zx se : Int} (h : ¬ (inZ zx = true ∧ inZ se = true ∧ se ≠ 0)) : endZ T zx se = (T, []) := by
 unfold endZ
 by_cases h1 : inZ zx = true ∧ inZ se = true
 ·rw [if_pos h1]
  have h0 : se = 0 := Decidable.byContradiction fun hh => h ⟨h1.1, h1.2, hh⟩
  have : ownedZ T se = [] := by
   unfold ownedZ
   rw [List.filter_eq_nil_iff.2 fun z _ => by simp [isOwn, h0]]
   rfl
  rw [this]; rfl
 ·rw [if_neg h1]
theorem own_mem {T : List RZ} (h : Wz T) {se : Int} {z : RZ} (hz : z ∈ T) : z.path ∈ ownedZ T se ↔ isOwn se z = true := by
 unfold ownedZ
 rw [List.mem_map]
 refine ⟨fun ⟨y, hy, e⟩ => ?_, fun hh => ⟨z, List.mem_filter.2 ⟨hz, hh⟩, rfl⟩⟩
 obtain ⟨h1, h2⟩ := List.mem_filter.1 hy
 rw [← srt_inj h.srt h1 hz e]; exact h2
theorem end_is {T : List RZ} (h : Wz T) {zx se : Int} (hz : inZ zx = true) (hs : inZ se = true) {z : RZ} (hm : z ∈ T) (ho : isOwn se z = true) : getZ (endZ T zx se).1 z.path = none :=
 (end_o' h hz hs _).gone ((own_mem h hm).2 ho)
theorem end_not {T : List RZ} (h : Wz T) {zx se : Int} (hz : inZ zx = true) (hs : inZ se = true) {z : RZ} (hm : z ∈ T) (ho : isOwn se z = false) : ∃ x, getZ (endZ T zx se).1 z.path = some x ∧ SimZ z x :=
 (end_o' h hz hs _).same (fun hh => by rw [own_mem h hm, ho] at hh; cases hh) z ((get_iff h.srt).2 ⟨hm, rfl⟩)
theorem end_all {T : List RZ} (h : Wz T) {zx se : Int} (hz : inZ zx = true) (hs : inZ se = true) : ownedZ (endZ T zx se).1 se = [] := by
 have hw := wz_end h zx se
 unfold ownedZ
 rw [List.filter_eq_nil_iff.2 fun x hx => ?_]
 ·rfl
 intro ho
 have hg : getZ (endZ T zx se).1 x.path = some x := (get_iff hw.srt).2 ⟨hx, rfl⟩
 cases hT : getZ T x.path with
 | none => rw [(end_o' h hz hs x.path).none hT] at hg; cases hg
 | some z =>
  obtain ⟨hz1, hz2⟩ := get_mem hT
  cases ho2 : isOwn se z with
  | true => rw [← hz2, end_is h hz hs hz1 ho2] at hg; cases hg
  | false =>
   obtain ⟨y, hy1, hy2⟩ := end_not h hz hs hz1 ho2
   rw [hz2, hg] at hy1
   obtain rfl := Option.some.inj hy1
   unfold isOwn at ho ho2
   rw [hy2.ow] at ho
   rw [ho] at ho2; cases ho2
theorem end_evs {T : List RZ} {zx se : Int} (hz : inZ zx = true) (hs : inZ se = true) : (endZ T zx se).1 = (endL zx (ownedZ T se) (T, [])).1 ∧ (endZ T zx se).2 = (endL zx (ownedZ T se) (T, [])).2 := by
 unfold endZ
 rw [if_pos ⟨hz, hs⟩]; exact ⟨rfl, rfl⟩
end Go.Proofs.YtifdeajdlhgglaaGreatDoor

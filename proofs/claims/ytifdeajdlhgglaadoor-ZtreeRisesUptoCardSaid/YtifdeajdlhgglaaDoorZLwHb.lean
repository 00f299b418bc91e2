/- A part of the proof. -/
import Derived.Test.YtifdeajdlhgglaaDoorZLwHa
namespace Go.Proofs.YtifdeajdlhgglaaDoor
def qS : ByteArray := ⟨#[47, 113]⟩
def qnS : ByteArray := ⟨#[47, 113, 47, 110]⟩
def qnC : RC := ⟨1, qnS, noS, 0, false, true⟩
def qC : RC := ⟨1, qS, noS, 0, false, false⟩
def Kept (T T' : List RZ) (k : ByteArray) : Prop := ∀ z, getZ T k = some z → ∃ z', getZ T' k = some z' ∧ z.nx ≤ z'.nx
theorem Kept.refl (T : List RZ) (k : ByteArray) : Kept T T k := fun z h => ⟨z, h, Int.le_refl _⟩
theorem up_le (n : Int) : n ≤ upZ n := by unfold upZ; split <;> omega
theorem kid_nx (p : RZ) (zx : Int) (made : Bool) : p.nx ≤ (kidOf p zx made).nx := by
 show p.nx ≤ if made = true then upZ p.nx else p.nx
 split
 ·exact up_le _
 ·exact Int.le_refl _
theorem create_t {T : List RZ} (h : Wz T) {zx se : Int} (hz : inZ zx = true) (hs : inZ se = true) {c : RC} (hv : validZ c.path = true) (he : createE T c = 0) : ∃ p, CrOk T c p ∧ getZ T (parentZ c.path).1 = some p ∧ (createZ T zx se c).path = (nameC T c).1 ∧ ∀ k, getZ (createZ T zx se c).t k = if k = p.path then some (kidOf p zx true) else if k = (nameC T c).1 then some (newZ (nameC T c).1 c.data zx (if c.ep = true then se else 0)) else getZ T k := by
 obtain ⟨p, k, hp⟩ := create_ok hv he
 refine ⟨p, k, hp, ?_, fun q => ?_⟩
 ·unfold createZ
  rw [if_pos he]; rfl
 ·have hne := get_none.1 k.fresh
  have e := ((wz_made h hz hs k).kid (s := ⟨madeT T zx se c, (nameC T c).1, [⟨0, 1, (nameC T c).1⟩], 0⟩) rfl (p := p) (mem_put.2 (.inr ⟨k.mem, hne p k.mem⟩)) (by show p.path = _; rw [k.path, k.par]) hz true).2
  have e2 : (createZ T zx se c).t = putZ (madeT T zx se c) (kidOf p zx true) := by
   unfold createZ
   rw [if_pos he]; exact e
  rw [e2, get_put (wz_made h hz hs k).srt]
  unfold madeT
  rw [get_put h.srt]; rfl
theorem one_keep {T : List RZ} (h : Wz T) {zx se : Int} (hz : inZ zx = true) (hs : inZ se = true) {c : RC} (he : (oneZ T zx se c).e = 0) {k : ByteArray} (hk : ¬ (c.kind = 2 ∧ c.path = k)) : Kept T (oneZ T zx se c).t k := by
 unfold oneZ at he ⊢
 split at he
 ·cases he
 next k1 =>
 rw [if_neg k1]
 split at he
 ·cases he
 next k2 =>
 rw [if_neg k2]
 have hv : validZ c.path = true := by simpa using k2
 split at he
 ·next k3 =>
  rw [if_pos k3]
  have he' : createE T c = 0 := by
   unfold createZ at he
   split at he
   ·assumption
   ·exact he
  obtain ⟨p, q, hp, -, e⟩ := create_t h hz hs hv he'
  intro z hzk
  rw [e]
  by_cases h1 : k = p.path
  ·subst h1
   rw [if_pos rfl]
   have := (get_iff h.srt).2 ⟨q.mem, rfl⟩
   rw [this] at hzk
   obtain rfl := Option.some.inj hzk
   exact ⟨_, rfl, kid_nx _ _ _⟩
  ·rw [if_neg h1]
   by_cases h2 : k = (nameC T c).1
   ·rw [h2, q.fresh] at hzk; cases hzk
   ·rw [if_neg h2]; exact ⟨z, hzk, Int.le_refl _⟩
 next k3 =>
 rw [if_neg k3]
 split at he
 ·cases he
 next k4 =>
 rw [if_neg k4]
 split at he
 ·next k5 => exact absurd he k5
 next k5 =>
 rw [if_neg k5]
 have hf : foundE T c = 0 := by simpa using k5
 obtain ⟨z, hg, hr⟩ := found_ok hf
 obtain ⟨hm, hp⟩ := get_mem hg
 split at he
 ·next k6 =>
  rw [if_pos k6]
  split at he
  ·cases he
  next k7 =>
  rw [if_neg k7]
  obtain ⟨q, hq⟩ := rm_of h hm (by rw [hp]; exact fun e => hr ⟨k6, e⟩) (by rw [hp]; exact kids_none hg k7)
  rw [hp] at hq
  rw [(wz_remove h hz hq).2]
  intro y hy
  rw [get_put (srt_del h.srt), get_del h.srt]
  by_cases h1 : k = q.path
  ·subst h1
   have := (get_iff h.srt).2 ⟨hq.mem, rfl⟩
   rw [this] at hy
   obtain rfl := Option.some.inj hy
   exact ⟨_, if_pos rfl, kid_nx _ _ _⟩
  ·rw [if_neg (show ¬ k = (kidOf q zx false).path from h1), if_neg fun e => hk ⟨k6, e.symm⟩]
   exact ⟨y, hy, Int.le_refl _⟩
 next k6 =>
 rw [if_neg k6]
 split at he
 ·next k7 => rw [if_pos k7]; exact Kept.refl T k
 next k7 =>
 rw [if_neg k7]
 have e : setZ T zx c = { z with data := c.data, ch := zx, ve := upZ z.ve } := by unfold setZ; rw [hg]; rfl
 rw [e]
 intro y hy
 show ∃ z', getZ (putZ T _) k = some z' ∧ _
 rw [get_put h.srt]
 by_cases h1 : k = z.path
 ·rw [if_pos h1]
  rw [h1, hp, hg] at hy
  obtain rfl := Option.some.inj hy
  exact ⟨_, rfl, Int.le_refl _⟩
 ·rw [if_neg h1]; exact ⟨y, hy, Int.le_refl _⟩
theorem do1 (T : List RZ) (zx se : Int) (c : RC) : ((inZ zx = true ∧ inZ se = true) ∧ (oneZ T zx se c).e = 0 ∧ doZ T zx se [c] = ⟨(oneZ T zx se c).t, [(oneZ T zx se c).path], (oneZ T zx se c).ev, 0⟩) ∨ ((doZ T zx se [c]).e ≠ 0 ∧ (doZ T zx se [c]).t = T) := by
 unfold doZ
 by_cases hz : inZ zx = true ∧ inZ se = true
 ·rw [if_pos hz]
  by_cases h : (oneZ T zx se c).e = 0
  ·have : runZ zx se [c] ⟨T, [], [], 0⟩ = ⟨(oneZ T zx se c).t, [(oneZ T zx se c).path], (oneZ T zx se c).ev, 0⟩ := by
    simp only [runZ]
    rw [if_pos h]
    rfl
   rw [this, if_pos rfl]
   exact .inl ⟨hz, h, rfl⟩
  ·have : (runZ zx se [c] ⟨T, [], [], 0⟩).e = (oneZ T zx se c).e := by
    simp only [runZ]
    rw [if_neg h]
   rw [this, if_neg h]
   exact .inr ⟨h, rfl⟩
 ·rw [if_neg hz]
  exact .inr ⟨by show ¬ (1 : Int) = 0; decide, rfl⟩
theorem do_keep {T : List RZ} (h : Wz T) (zx se : Int) {c : RC} {k : ByteArray} (hk : ¬ (c.kind = 2 ∧ c.path = k)) : Kept T (doZ T zx se [c]).t k := by
 rcases do1 T zx se c with ⟨h1, h2, h3⟩ | ⟨-, h3⟩
 ·rw [h3]; exact one_keep h h1.1 h1.2 h2 hk
 ·rw [h3]; exact .refl T k
theorem qn_valid : validZ qnS = true := by decide +kernel
theorem qn_parent : parentZ qnS = (qS, true) := by decide +kernel
theorem no_valid : validZ noS = false := by decide +kernel
theorem seq_rise {T : List RZ} (h : Wz T) {zx : Int} (he : (doZ T zx 0 [qnC]).e = 0) {z : RZ} (hq : getZ T qS = some z) : (doZ T zx 0 [qnC]).ps = [qnS ++ tenZ z.nx] ∧ 0 ≤ z.nx ∧ z.nx ≤ 9999999999 ∧ ∃ z', getZ (doZ T zx 0 [qnC]).t qS = some z' ∧ z'.nx = z.nx + 1 := by
 rcases do1 T zx 0 qnC with ⟨h1, h2, h3⟩ | ⟨h3, -⟩
 ·rw [h3]
  have eo : oneZ T zx 0 qnC = createZ T zx 0 qnC := by
   unfold oneZ
   rw [if_neg (by show ¬ ((1 : Int) < 1 ∨ (1 : Int) > 4); omega), if_neg (by rw [show qnC.path = qnS from rfl, qn_valid]; decide), if_pos (show qnC.kind = 1 from rfl)]
  have he' : createE T qnC = 0 := by
   rw [eo] at h2
   unfold createZ at h2
   split at h2
   ·assumption
   ·exact h2
  obtain ⟨p, k, hp, e1, e2⟩ := create_t h h1.1 h1.2 (c := qnC) qn_valid he'
  rw [show qnC.path = qnS from rfl, qn_parent] at hp
  have hp : getZ T qS = some p := hp
  rw [hq] at hp
  obtain rfl := Option.some.inj hp
  have en : nameC T qnC = numZ qnS z.nx := by
   unfold nameC
   rw [if_pos (show qnC.sq = true from rfl), show qnC.path = qnS from rfl, qn_parent, hq]; rfl
  have h2' : (numZ qnS z.nx).2 = true := by
   cases hh : (numZ qnS z.nx).2 with
   | true => rfl
   | false =>
    have : (numZ qnS z.nx).1 = noS := by
     unfold numZ at hh ⊢
     split at hh
     ·cases hh
     next h5 => rw [if_neg h5]
    have hv := k.valid
    rw [en, this, no_valid] at hv
    cases hv
  obtain ⟨n1, -, -, n2, n3, -⟩ := num_ok h2'
  refine ⟨by rw [eo, e1, en, n1], n2, n3, _, by show getZ (oneZ T zx 0 qnC).t qS = _; rw [eo, e2, if_pos (get_mem hq).2.symm], ?_⟩
  show (if true = true then upZ z.nx else z.nx) = _
  rw [if_pos rfl]
  unfold upZ big
  rw [if_neg (by omega)]
 ·exact absurd he h3
def LastOk (last : ByteArray) (T : List RZ) : Prop := ∃ z, getZ T qS = some z ∧ (last = noS ∨ ∃ b, last = qnS ++ tenZ b ∧ 0 ≤ b ∧ b < z.nx)
theorem LastOk.keep {last : ByteArray} {T T' : List RZ} (h : LastOk last T) (hk : Kept T T' qS) : LastOk last T' := by
 obtain ⟨z, h1, h2⟩ := h
 obtain ⟨z', k1, k2⟩ := hk z h1
 refine ⟨z', k1, h2.imp_right fun ⟨b, q1, q2, q3⟩ => ⟨b, q1, q2, by omega⟩⟩
theorem LastOk.rise {last : ByteArray} {T : List RZ} (h : LastOk last T) (hw : Wz T) {zx : Int} (he : (doZ T zx 0 [qnC]).e = 0) : ∃ p, (doZ T zx 0 [qnC]).ps = [p] ∧ ltS last p = true ∧ LastOk p (doZ T zx 0 [qnC]).t := by
 obtain ⟨z, h1, h2⟩ := h
 obtain ⟨e1, e2, e3, z', e4, e5⟩ := seq_rise hw he h1
 refine ⟨_, e1, ?_, z', e4, .inr ⟨z.nx, rfl, e2, by omega⟩⟩
 rcases h2 with rfl | ⟨b, rfl, q2, q3⟩
 ·rw [ltS_iff, ByteArray.data_append, Array.toList_append]
  exact List.nil_lt_cons _ _
 ·exact num_lt qnS q2 q3 e3
theorem last_new : LastOk noS (doZ [zRoot] 1 0 [qC]).t := by
 have : (getZ (doZ [zRoot] 1 0 [qC]).t qS).isSome = true := by decide +kernel
 obtain ⟨z, hz⟩ := Option.isSome_iff_exists.1 this
 exact ⟨z, hz, .inl rfl⟩
end Go.Proofs.YtifdeajdlhgglaaDoor

/- A part of the proof, merged from several texts. -/
import Derived.Test.YtifdeajdlhgglaaDoorZM2
import Derived.Test.YtifdeajdlhgglaaDoorZM1
namespace Go.Proofs.YtifdeajdlhgglaaDoor
open Go.RowKit
set_option maxRecDepth 100000
structure SmT (T : List RZ) : Prop where
 len : T.length ≤ 100000
 path : ∀ z ∈ T, z.path.size ≤ 1500000
abbrev gT (T : List RZ) : G := .sl (T.map enZ)
theorem in_r (n : Int) : FnV Tryd.prog 25 [gI n] fun g => g = .v (.bool (inZ n)) := by
 refine fnG Tryd.func25 (by kernel_rfl) rfl (Nat.le_of_ble_eq_true (by kernel_rfl)) (by kernel_rfl) ?_
 repeat' first
  | refine EvIf.dec (fun _ => ?_) (fun _ => ?_)
 all_goals (refine bool_eq (b := inZ n) ?_; unfold inZ big; simp; try omega)
def getO (T : List RZ) (p : ByteArray) : RZ := (getZ T p).getD rz0
theorem get_r {T : List RZ} (hT : T.length ≤ 100000) (p : ByteArray) : FnV Tryd.prog 24 [gT T, gS p] fun g => g = .tup [gz (getO T p), .v (.bool (getZ T p).isSome)] := by
 refine fnG Tryd.func24 (by kernel_rfl) rfl (Nat.le_of_ble_eq_true (by kernel_rfl)) (by kernel_rfl) ?_
 refine sx_loop [0, 1, 4] [0] (fun i : Nat => [(6, .v (.int .i64 i))]) (fun _ => []) (fun i => i ≤ T.length ∧ ∀ x ∈ T.take i, ¬ x.path = p) (fun i => T.length - i) 0 ⟨by omega, by simp⟩ ⟨⟨rfl, rfl⟩, trivial⟩ trivial rfl fun i ⟨hi, hno⟩ => ?_
 refine EvIf.dec (fun h => ?_) (fun h => ?_)
 ·refine EvIdx.of (by simpa using h) fun x hx => EvIf.beqS (fun h2 => ?_) (fun h2 => ?_)
  ·refine EvIdx.at hx ?_
   have e : getZ T p = some x := by
    unfold getZ
    rw [find_at hx (fun y hy => decide_eq_false (hno y hy)) (decide_eq_true h2)]
   unfold getO
   rw [e]; exact rfl
  ·have := lt_of_at hx
   refine ⟨by omega, i + 1, ⟨by omega, take_no hx hno h2⟩, (by dsimp only; omega), ?_⟩
   refine ⟨?_, ?_, rfl⟩ <;> repeat' (first | exact True.intro | with_reducible rfl | exact rfl | refine And.intro ?_ ?_)
 ·have e : getZ T p = none := get_none.2 (take_all (by simpa using h) hno)
  unfold getO
  rw [e]; exact rfl
end Go.Proofs.YtifdeajdlhgglaaDoor
namespace Go.Proofs.YtifdeajdlhgglaaDoor
open Go.RowKit
set_option maxRecDepth 100000
theorem valid_size {s : ByteArray} (h : validZ s = true) : s.size ≤ 500 := by
 by_cases hs : s = rootS
 ·subst hs; decide
 ·obtain ⟨r, hp⟩ := isP_of h hs
  have e : s = joinZ (splitZ r) := data_inj (by rw [join_splitZ, hp.bytes])
  have := join_take (splitZ r) fun x hx => by
   have := hp.good x hx
   unfold nameZ at this
   simp only [Bool.and_eq_true, decide_eq_true_eq] at this
   exact this.2.2.1
  have h8 := hp.few
  rw [← e] at this
  omega
theorem wz_sm {T : List RZ} (h : Wz T) : SmT T := ⟨by have := h.len; omega, fun z hz => by have := valid_size (h.valid z hz); omega⟩
theorem ev_rows (l : List RE) : ∀ r ∈ l.map enE, r.length = 3 ∧ r.all G.one = true := fun r hr => by
 obtain ⟨x, -, rfl⟩ := List.mem_map.1 hr
 exact ⟨rfl, rfl⟩
end Go.Proofs.YtifdeajdlhgglaaDoor
namespace Go.Proofs.YtifdeajdlhgglaaDoor
open Go.RowKit
set_option maxRecDepth 100000
theorem one_ev (T : List RZ) (zx se : Int) (c : RC) : (oneZ T zx se c).ev.length ≤ 2 := by
 unfold oneZ
 repeat' split
 all_goals first
  | (unfold createZ; split <;> simp [kidZ, failZ]; done)
  | simp [failZ, removeZ, kidZ]
theorem runZ_step {zx se : Int} {l : List RC} {i : Nat} {c : RC} (h : l[i]? = some c) (a : RAns) : runZ zx se (l.drop i) a = if (oneZ a.t zx se c).e = 0 then runZ zx se (l.drop (i + 1)) ⟨(oneZ a.t zx se c).t, a.ps ++ [(oneZ a.t zx se c).path], a.ev ++ (oneZ a.t zx se c).ev, 0⟩ else ⟨[], [], [], (oneZ a.t zx se c).e⟩ := by
 rw [List.drop_eq_getElem_cons (List.getElem?_eq_some_iff.1 h).1, (List.getElem?_eq_some_iff.1 h).2, runZ]
structure DoInv (zx se : Int) (T : List RZ) (l : List RC) (x : Nat × List RZ × List ByteArray × List RE) : Prop where
 le : x.1 ≤ l.length
 wz : Wz x.2.1
 ps : x.2.2.1.length = x.1
 ev : x.2.2.2.length ≤ 2 * x.1
 run : runZ zx se l ⟨T, [], [], 0⟩ = runZ zx se (l.drop x.1) ⟨x.2.1, x.2.2.1, x.2.2.2, 0⟩
structure EndInv (zx : Int) (T : List RZ) (L : List ByteArray) (x : Nat × List RZ × List RE) : Prop where
 le : x.1 ≤ L.length
 wz : Wz x.2.1
 ev : x.2.2.length = 2 * x.1
 own : ∀ p ∈ L.drop x.1, ∃ z ∈ x.2.1, z.path = p ∧ z.ow ≠ 0
 run : endL zx L (T, []) = endL zx (L.drop x.1) (x.2.1, x.2.2)
theorem end_step {zx : Int} (hz : inZ zx = true) {T t : List RZ} {L : List ByteArray} (hn : L.Nodup) {i : Nat} {ev : List RE} (h : EndInv zx T L (i, t, ev)) {p : ByteArray} (hp : L[i]? = some p) : ∃ q, RmOk t p q ∧ p.size ≤ 500 ∧ EndInv zx T L (i + 1, (removeZ t zx p).t, ev ++ (removeZ t zx p).ev) := by
 have hw : Wz t := h.wz
 have hlt := lt_of_at hp
 have hd : L.drop i = p :: L.drop (i + 1) := by rw [List.drop_eq_getElem_cons hlt, (List.getElem?_eq_some_iff.1 hp).2]
 obtain ⟨z, h1, h2, h3⟩ := h.own p (by show p ∈ L.drop i; rw [hd]; simp)
 have h1 : z ∈ t := h1
 obtain ⟨h4, h5⟩ := own_leaf hw h1 h3
 obtain ⟨q, hq⟩ := rm_of hw h1 h4 h5
 rw [h2] at hq
 obtain ⟨h6, h7⟩ := wz_remove hw hz hq
 have hnd : (p :: L.drop (i + 1)).Nodup := by rw [← hd]; exact hn.sublist (List.drop_sublist _ _)
 refine ⟨q, hq, by rw [← h2]; exact valid_size (hw.valid z h1), hlt, h6, ?_, fun p' hp' => ?_, ?_⟩
 ·have := h.ev
  show (ev ++ (removeZ t zx p).ev).length = 2 * (i + 1)
  rw [List.length_append, show (removeZ t zx p).ev.length = 2 from rfl, show ev.length = 2 * i from this]; omega
 ·have hp' : p' ∈ L.drop (i + 1) := hp'
  obtain ⟨z', k1, k2, k3⟩ := h.own p' (by show p' ∈ L.drop i; rw [hd]; simp [hp'])
  have hne : p' ≠ p := fun e => (List.nodup_cons.1 hnd).1 (e ▸ hp')
  refine ⟨z', ?_, k2, k3⟩
  show z' ∈ (removeZ t zx p).t
  rw [h7]
  refine mem_put.2 (.inr ⟨mem_del.2 ⟨k1, by rw [k2]; exact hne⟩, fun e => ?_⟩)
  have := srt_inj hw.srt k1 hq.mem e
  exact k3 (this ▸ hq.own)
 ·have := h.run
  show _ = endL zx (L.drop (i + 1)) _
  rw [show endL zx L (T, []) = endL zx (L.drop i) (t, ev) from this, hd]
  rfl
theorem end_init {zx : Int} {T : List RZ} (h : Wz T) (se : Int) : EndInv zx T (ownedZ T se) (0, T, []) := ⟨by simp, h, rfl, (owned_ok h se).2, rfl⟩
theorem owned_len {T : List RZ} (h : Wz T) (se : Int) : (ownedZ T se).length ≤ 200 := by
 unfold ownedZ
 rw [List.length_map]
 exact Nat.le_trans (List.length_filter_le _ _) h.len
theorem leq_not (a b : ByteArray) : (Op.bytesLess a.toList b.toList || a.toList == b.toList) = !ltS b a := by
 rw [bytes_eq]
 show (ltS a b || decide (a = b)) = _
 cases h : ltS b a with
 | true =>
  rw [ltS_asymm h]
  have := ltS_ne h
  simp [Ne.symm this]
 | false =>
  by_cases e : a = b
  ·simp [e]
  ·rw [ltS_total h (Ne.symm e)]; rfl
end Go.Proofs.YtifdeajdlhgglaaDoor
namespace Go.Proofs.YtifdeajdlhgglaaDoor
open Go.RowKit
set_option maxRecDepth 100000
def lastP (l : List RZ) (i : Nat) : ByteArray := if i = 0 then noS else ((l[i - 1]?).getD rz0).path
theorem chkL_step {l : List RZ} {i : Nat} {z : RZ} (h : l[i]? = some z) : chkL (l.take i) (lastP l i) (l.drop i) = if rightE (l.take i) (lastP l i) z = 0 then chkL (l.take (i + 1)) (lastP l (i + 1)) (l.drop (i + 1)) else rightE (l.take i) (lastP l i) z := by
 rw [List.drop_eq_getElem_cons (List.getElem?_eq_some_iff.1 h).1, (List.getElem?_eq_some_iff.1 h).2, chkL, take_more h]
 have e : lastP l (i + 1) = z.path := by unfold lastP; rw [if_neg (by omega), show i + 1 - 1 = i by omega, h]; rfl
 rw [e]
set_option maxHeartbeats 1000000 in
theorem check_r (l : List RZ) (hl : l.length ≤ 100000) (hp : ∀ z ∈ l, z.path.size ≤ maxZ) : FnV Tryd.prog 12 [gT l] fun g => g = gI (checkZ l) := by
 refine fnG Tryd.func12 (by kernel_rfl) rfl (Nat.le_of_ble_eq_true (by kernel_rfl)) (by kernel_rfl) ?_
 obtain ⟨X, hX⟩ : ∃ X, X = checkZ l := ⟨_, rfl⟩
 rw [← hX]
 have fin : ∀ e, X = e → gI e = gI X := fun e h => by rw [h]
 refine EvIf.beq (fun h0 => fin _ ?_) (fun h0 => ?_)
 ·have : l = [] := List.eq_nil_of_length_eq_zero (by simpa using h0)
  rw [hX, this]; rfl
 obtain ⟨z0, l0, hz0⟩ : ∃ z l', l = z :: l' := by
  cases l with
  | nil => exact absurd rfl h0
  | cons z l' => exact ⟨z, l', rfl⟩
 have hX : X = if z0.path ≠ rootS then 80 else if l.length > 200 then 86 else chkL [] noS l := by rw [hX, hz0]; rfl
 refine EvIdx.atI (x := z0) (by decide) (by rw [hz0]; rfl) (EvIf.bneS (fun (h1 : z0.path ≠ rootS) => fin _ (by rw [hX, if_pos h1])) (fun (h1 : z0.path = rootS) => EvIf.dec (fun h2 => fin _ ?_) (fun h2 => ?_)))
 ·rw [hX, if_neg (fun h => h h1), if_pos (by simp at h2; omega)]
 rw [if_neg (fun h => h h1), if_neg (by simp at h2; omega)] at hX
 refine sx_loop [0] [] (fun i : Nat => [(3, gI i)]) (fun _ => []) (fun i => i ≤ l.length ∧ X = chkL (l.take i) (lastP l i) (l.drop i)) (fun i => l.length - i) 0 ⟨by omega, hX⟩ ⟨⟨rfl, rfl⟩, trivial⟩ trivial rfl fun i ⟨hi, hx⟩ => ?_
 clear hX
 refine EvIf.dec (fun h3 => ?_) (fun h3 => ?_)
 ·refine EvIdx.of (by simpa using h3) fun z hz => ?_
  have hlt := lt_of_at hz
  rw [chkL_step hz] at hx
  have hpz := hp z (List.mem_of_getElem? hz)
  have bad : ∀ e, rightE (l.take i) (lastP l i) z = e → e ≠ 0 → X = e := fun e h he => by rw [hx, h, if_neg he]
  have hgood : rightE (l.take i) (lastP l i) z = 0 → X = chkL (l.take (i + 1)) (lastP l (i + 1)) (l.drop (i + 1)) := fun h => by rw [hx, if_pos h]
  clear hx
  obtain ⟨E, hE⟩ : ∃ E, E = rightE (l.take i) (lastP l i) z := ⟨_, rfl⟩
  rw [← hE] at bad hgood
  unfold rightE at hE
  refine (valid_r z.path hpz).cal fun q hq => ?_
  subst hq
  cases hv : validZ z.path with
  | false =>
   refine EvIf.mk (fun _ => fin _ (bad _ (by rw [hE, if_pos hv]) (by decide))) fun hh => by cases hh
  | true =>
   rw [if_neg (by rw [hv]; simp)] at hE
   refine EvIf.mk (fun hh => by cases hh) fun _ => ?_
   -- the last one's path
   have hne : (l.take i ≠ []) ↔ 0 < i := by
    rw [← List.length_pos_iff, List.length_take]; omega
   have hO : (¬ (l.take i ≠ [] ∧ ltS (lastP l i) z.path = false)) → E = (if (parentZ z.path).2 = true ∧ (getZ (l.take i) (parentZ z.path).1).isSome = false then 83
    else if ((parentZ z.path).2 = true ∧ ((getZ (l.take i) (parentZ z.path).1).getD rz0).ow ≠ 0) ∨ ((parentZ z.path).2 = false ∧ z.ow ≠ 0) then 85
    else if z.data.size > 1024 then 87
    else if inZ z.cr && inZ z.ch && inZ z.ci && inZ z.ve && inZ z.ki && inZ z.ow && inZ z.nx then 0 else 1) := fun h => by rw [hE, if_neg h]
   have hB : l.take i ≠ [] ∧ ltS (lastP l i) z.path = false → E = 81 := fun h => by rw [hE, if_pos h]
   clear hE
   refine EvIf.dec (fun h4 => ?_) (fun h4 => ?_)
   ·refine ⟨by omega, ?_⟩
    obtain ⟨y, hy⟩ : ∃ y, l[i - 1]? = some y := ⟨_, List.getElem?_eq_getElem (by omega)⟩
    have ely : lastP l i = y.path := by unfold lastP; rw [if_neg (by omega), hy]; rfl
    refine EvIdx.atI (x := y) (by omega) (by rw [show ((i : Int) - 1).toNat = i - 1 by omega]; exact hy) ?_
    have el : (Op.bytesLess z.path.toList y.path.toList || z.path.toList == y.path.toList) = !ltS (lastP l i) z.path := by rw [leq_not, ely]
    refine EvIf.mk (fun (h5 : (Op.bytesLess z.path.toList y.path.toList || z.path.toList == y.path.toList) = true) => fin _ (bad _ (hB ⟨hne.2 (by omega), by rw [el] at h5; simpa using h5⟩) (by decide))) (fun (h5 : (Op.bytesLess z.path.toList y.path.toList || z.path.toList == y.path.toList) = false) => ?_)
    have hE := hO fun h => by rw [el, h.2] at h5; cases h5
    refine (parent_r z.path hpz).cal fun q hq => ?_
    subst hq
    refine ⟨by simp; omega, ⟨fun r hr => by obtain ⟨b, -, rfl⟩ := List.mem_map.1 hr; rfl, ?_⟩⟩
    have esub : subL (l.map enZ) (0 : Int).toNat (i : Int).toNat = (l.take i).map enZ := by unfold subL; rw [show (0 : Int).toNat = 0 from rfl, List.drop_zero, map_take', Int.toNat_natCast]
    rw [esub]
    refine (get_r (by rw [List.length_take]; omega) (parentZ z.path).1).cal fun q hq => ?_
    subst hq
    cases hu : (parentZ z.path).2 with
    | true =>
     rw [hu] at hE
     refine EvIf.mk (fun _ => ?_) fun hh => by cases hh
     cases hg : getZ (l.take i) (parentZ z.path).1 with
     | none =>
      refine EvIf.mk (fun _ => fin _ (bad _ (by rw [hE, if_pos ⟨rfl, by rw [hg]; rfl⟩]) (by decide))) fun hh => by cases hh
     | some y2 =>
      rw [hg, if_neg (by simp)] at hE
      have eO : getO (l.take i) (parentZ z.path).1 = y2 := by unfold getO; rw [hg]; rfl
      rw [eO]
      refine EvIf.mk (fun hh => by cases hh) fun _ => EvIf.mk (fun _ => EvIf.bne (fun h7 => fin _ (bad _ (by rw [hE, if_pos (.inl ⟨rfl, h7⟩)]) (by decide))) (fun h7 => EvIf.mk (fun hh => by cases hh) fun _ => ?_)) fun hh => by cases hh
      rw [if_neg (by rintro (⟨-, h⟩ | ⟨h, -⟩); exact h h7; cases h)] at hE
      refine EvIf.dec (fun h8 => fin _ (bad _ (by rw [hE, if_pos (by omega)]) (by decide))) (fun h8 => ?_)
      rw [if_neg (by omega)] at hE
      refine (in_r z.cr).cal fun q hq => ?_
      subst hq
      refine EvIf.mk (fun g0 => fin _ (bad _ (by rw [hE, if_neg (by simp at g0; simp [g0])]) (by decide))) (fun g0 => ?_)
      refine (in_r z.ch).cal fun q hq => ?_
      subst hq
      refine EvIf.mk (fun g1 => fin _ (bad _ (by rw [hE, if_neg (by simp at g1; simp [g1])]) (by decide))) (fun g1 => ?_)
      refine (in_r z.ci).cal fun q hq => ?_
      subst hq
      refine EvIf.mk (fun g2 => fin _ (bad _ (by rw [hE, if_neg (by simp at g2; simp [g2])]) (by decide))) (fun g2 => ?_)
      refine (in_r z.ve).cal fun q hq => ?_
      subst hq
      refine EvIf.mk (fun g3 => fin _ (bad _ (by rw [hE, if_neg (by simp at g3; simp [g3])]) (by decide))) (fun g3 => ?_)
      refine (in_r z.ki).cal fun q hq => ?_
      subst hq
      refine EvIf.mk (fun g4 => fin _ (bad _ (by rw [hE, if_neg (by simp at g4; simp [g4])]) (by decide))) (fun g4 => ?_)
      refine (in_r z.ow).cal fun q hq => ?_
      subst hq
      refine EvIf.mk (fun g5 => fin _ (bad _ (by rw [hE, if_neg (by simp at g5; simp [g5])]) (by decide))) (fun g5 => ?_)
      refine (in_r z.nx).cal fun q hq => ?_
      subst hq
      refine EvIf.mk (fun g6 => fin _ (bad _ (by rw [hE, if_neg (by simp at g6; simp [g6])]) (by decide))) (fun g6 => ?_)
      simp at g0 g1 g2 g3 g4 g5 g6
      have hE := hgood (by rw [hE, if_pos (by simp [g0, g1, g2, g3, g4, g5, g6])])
      refine ⟨by omega, i + 1, ⟨by omega, hE⟩, (by dsimp only; omega), ?_⟩
      refine ⟨?_, ?_, rfl⟩ <;> repeat' (first | exact True.intro | with_reducible rfl | exact rfl | refine And.intro ?_ ?_)
    | false =>
     rw [hu, if_neg (by simp)] at hE
     refine EvIf.mk (fun hh => by cases hh) fun _ => EvIf.mk (fun hh => by cases hh) fun _ => EvIf.mk (fun _ => EvIf.bne (fun h7 => fin _ (bad _ (by rw [hE, if_pos (.inr ⟨rfl, h7⟩)]) (by decide))) (fun h7 => ?_)) fun hh => by cases hh
     rw [if_neg (by rintro (⟨h, -⟩ | ⟨-, h⟩); cases h; exact h h7)] at hE
     refine EvIf.dec (fun h8 => fin _ (bad _ (by rw [hE, if_pos (by omega)]) (by decide))) (fun h8 => ?_)
     rw [if_neg (by omega)] at hE
     refine (in_r z.cr).cal fun q hq => ?_
     subst hq
     refine EvIf.mk (fun g0 => fin _ (bad _ (by rw [hE, if_neg (by simp at g0; simp [g0])]) (by decide))) (fun g0 => ?_)
     refine (in_r z.ch).cal fun q hq => ?_
     subst hq
     refine EvIf.mk (fun g1 => fin _ (bad _ (by rw [hE, if_neg (by simp at g1; simp [g1])]) (by decide))) (fun g1 => ?_)
     refine (in_r z.ci).cal fun q hq => ?_
     subst hq
     refine EvIf.mk (fun g2 => fin _ (bad _ (by rw [hE, if_neg (by simp at g2; simp [g2])]) (by decide))) (fun g2 => ?_)
     refine (in_r z.ve).cal fun q hq => ?_
     subst hq
     refine EvIf.mk (fun g3 => fin _ (bad _ (by rw [hE, if_neg (by simp at g3; simp [g3])]) (by decide))) (fun g3 => ?_)
     refine (in_r z.ki).cal fun q hq => ?_
     subst hq
     refine EvIf.mk (fun g4 => fin _ (bad _ (by rw [hE, if_neg (by simp at g4; simp [g4])]) (by decide))) (fun g4 => ?_)
     refine (in_r z.ow).cal fun q hq => ?_
     subst hq
     refine EvIf.mk (fun g5 => fin _ (bad _ (by rw [hE, if_neg (by simp at g5; simp [g5])]) (by decide))) (fun g5 => ?_)
     refine (in_r z.nx).cal fun q hq => ?_
     subst hq
     refine EvIf.mk (fun g6 => fin _ (bad _ (by rw [hE, if_neg (by simp at g6; simp [g6])]) (by decide))) (fun g6 => ?_)
     simp at g0 g1 g2 g3 g4 g5 g6
     have hE := hgood (by rw [hE, if_pos (by simp [g0, g1, g2, g3, g4, g5, g6])])
     refine ⟨by omega, i + 1, ⟨by omega, hE⟩, (by dsimp only; omega), ?_⟩
     refine ⟨?_, ?_, rfl⟩ <;> repeat' (first | exact True.intro | with_reducible rfl | exact rfl | refine And.intro ?_ ?_)
   ·have hE := hO fun h => absurd (hne.1 h.1) (by omega)
    refine (parent_r z.path hpz).cal fun q hq => ?_
    subst hq
    refine ⟨by simp; omega, ⟨fun r hr => by obtain ⟨b, -, rfl⟩ := List.mem_map.1 hr; rfl, ?_⟩⟩
    have esub : subL (l.map enZ) (0 : Int).toNat (i : Int).toNat = (l.take i).map enZ := by unfold subL; rw [show (0 : Int).toNat = 0 from rfl, List.drop_zero, map_take', Int.toNat_natCast]
    rw [esub]
    refine (get_r (by rw [List.length_take]; omega) (parentZ z.path).1).cal fun q hq => ?_
    subst hq
    cases hu : (parentZ z.path).2 with
    | true =>
     rw [hu] at hE
     refine EvIf.mk (fun _ => ?_) fun hh => by cases hh
     cases hg : getZ (l.take i) (parentZ z.path).1 with
     | none =>
      refine EvIf.mk (fun _ => fin _ (bad _ (by rw [hE, if_pos ⟨rfl, by rw [hg]; rfl⟩]) (by decide))) fun hh => by cases hh
     | some y2 =>
      rw [hg, if_neg (by simp)] at hE
      have eO : getO (l.take i) (parentZ z.path).1 = y2 := by unfold getO; rw [hg]; rfl
      rw [eO]
      refine EvIf.mk (fun hh => by cases hh) fun _ => EvIf.mk (fun _ => EvIf.bne (fun h7 => fin _ (bad _ (by rw [hE, if_pos (.inl ⟨rfl, h7⟩)]) (by decide))) (fun h7 => EvIf.mk (fun hh => by cases hh) fun _ => ?_)) fun hh => by cases hh
      rw [if_neg (by rintro (⟨-, h⟩ | ⟨h, -⟩); exact h h7; cases h)] at hE
      refine EvIf.dec (fun h8 => fin _ (bad _ (by rw [hE, if_pos (by omega)]) (by decide))) (fun h8 => ?_)
      rw [if_neg (by omega)] at hE
      refine (in_r z.cr).cal fun q hq => ?_
      subst hq
      refine EvIf.mk (fun g0 => fin _ (bad _ (by rw [hE, if_neg (by simp at g0; simp [g0])]) (by decide))) (fun g0 => ?_)
      refine (in_r z.ch).cal fun q hq => ?_
      subst hq
      refine EvIf.mk (fun g1 => fin _ (bad _ (by rw [hE, if_neg (by simp at g1; simp [g1])]) (by decide))) (fun g1 => ?_)
      refine (in_r z.ci).cal fun q hq => ?_
      subst hq
      refine EvIf.mk (fun g2 => fin _ (bad _ (by rw [hE, if_neg (by simp at g2; simp [g2])]) (by decide))) (fun g2 => ?_)
      refine (in_r z.ve).cal fun q hq => ?_
      subst hq
      refine EvIf.mk (fun g3 => fin _ (bad _ (by rw [hE, if_neg (by simp at g3; simp [g3])]) (by decide))) (fun g3 => ?_)
      refine (in_r z.ki).cal fun q hq => ?_
      subst hq
      refine EvIf.mk (fun g4 => fin _ (bad _ (by rw [hE, if_neg (by simp at g4; simp [g4])]) (by decide))) (fun g4 => ?_)
      refine (in_r z.ow).cal fun q hq => ?_
      subst hq
      refine EvIf.mk (fun g5 => fin _ (bad _ (by rw [hE, if_neg (by simp at g5; simp [g5])]) (by decide))) (fun g5 => ?_)
      refine (in_r z.nx).cal fun q hq => ?_
      subst hq
      refine EvIf.mk (fun g6 => fin _ (bad _ (by rw [hE, if_neg (by simp at g6; simp [g6])]) (by decide))) (fun g6 => ?_)
      simp at g0 g1 g2 g3 g4 g5 g6
      have hE := hgood (by rw [hE, if_pos (by simp [g0, g1, g2, g3, g4, g5, g6])])
      refine ⟨by omega, i + 1, ⟨by omega, hE⟩, (by dsimp only; omega), ?_⟩
      refine ⟨?_, ?_, rfl⟩ <;> repeat' (first | exact True.intro | with_reducible rfl | exact rfl | refine And.intro ?_ ?_)
    | false =>
     rw [hu, if_neg (by simp)] at hE
     refine EvIf.mk (fun hh => by cases hh) fun _ => EvIf.mk (fun hh => by cases hh) fun _ => EvIf.mk (fun _ => EvIf.bne (fun h7 => fin _ (bad _ (by rw [hE, if_pos (.inr ⟨rfl, h7⟩)]) (by decide))) (fun h7 => ?_)) fun hh => by cases hh
     rw [if_neg (by rintro (⟨h, -⟩ | ⟨-, h⟩); cases h; exact h h7)] at hE
     refine EvIf.dec (fun h8 => fin _ (bad _ (by rw [hE, if_pos (by omega)]) (by decide))) (fun h8 => ?_)
     rw [if_neg (by omega)] at hE
     refine (in_r z.cr).cal fun q hq => ?_
     subst hq
     refine EvIf.mk (fun g0 => fin _ (bad _ (by rw [hE, if_neg (by simp at g0; simp [g0])]) (by decide))) (fun g0 => ?_)
     refine (in_r z.ch).cal fun q hq => ?_
     subst hq
     refine EvIf.mk (fun g1 => fin _ (bad _ (by rw [hE, if_neg (by simp at g1; simp [g1])]) (by decide))) (fun g1 => ?_)
     refine (in_r z.ci).cal fun q hq => ?_
     subst hq
     refine EvIf.mk (fun g2 => fin _ (bad _ (by rw [hE, if_neg (by simp at g2; simp [g2])]) (by decide))) (fun g2 => ?_)
     refine (in_r z.ve).cal fun q hq => ?_
     subst hq
     refine EvIf.mk (fun g3 => fin _ (bad _ (by rw [hE, if_neg (by simp at g3; simp [g3])]) (by decide))) (fun g3 => ?_)
     refine (in_r z.ki).cal fun q hq => ?_
     subst hq
     refine EvIf.mk (fun g4 => fin _ (bad _ (by rw [hE, if_neg (by simp at g4; simp [g4])]) (by decide))) (fun g4 => ?_)
     refine (in_r z.ow).cal fun q hq => ?_
     subst hq
     refine EvIf.mk (fun g5 => fin _ (bad _ (by rw [hE, if_neg (by simp at g5; simp [g5])]) (by decide))) (fun g5 => ?_)
     refine (in_r z.nx).cal fun q hq => ?_
     subst hq
     refine EvIf.mk (fun g6 => fin _ (bad _ (by rw [hE, if_neg (by simp at g6; simp [g6])]) (by decide))) (fun g6 => ?_)
     simp at g0 g1 g2 g3 g4 g5 g6
     have hE := hgood (by rw [hE, if_pos (by simp [g0, g1, g2, g3, g4, g5, g6])])
     refine ⟨by omega, i + 1, ⟨by omega, hE⟩, (by dsimp only; omega), ?_⟩
     refine ⟨?_, ?_, rfl⟩ <;> repeat' (first | exact True.intro | with_reducible rfl | exact rfl | refine And.intro ?_ ?_)
 ·have hk : i = l.length := by simp at h3; omega
  rw [hk, List.drop_length] at hx
  exact fin _ hx
end Go.Proofs.YtifdeajdlhgglaaDoor

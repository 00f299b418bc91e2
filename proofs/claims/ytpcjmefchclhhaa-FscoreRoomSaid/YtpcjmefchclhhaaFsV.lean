/- What is always true of a file system stays true: Rename. -/
import Derived.Test.YtpcjmefchclhhaaFsT
import Derived.Test.YtpcjmefchclhhaaFsR
namespace Go.Proofs.Ytpcjmefchclhhaa
open Go.RowKit Go.MapKept

def upP (x : RIn) (q : Int) : RIn := { x with parent := q }
/-- One name moved. -/
def movedP (r : RFs) (p : Int) (s : ByteArray) (q : Int) (t : ByteArray) (x : RIn) : RFs :=
  if x.kind = 2 then setP (namedP (unnamedP r p s) q t x.id) (upP x q) else namedP (unnamedP r p s) q t x.id

section
variable {r : RFs} {K : Nat} {x p q : RIn} {s t : ByteArray}
theorem moved_nms (r : RFs) (p : Int) (s : ByteArray) (q : Int) (t : ByteArray) (x : RIn) : (movedP r p s q t x).nms = (r.nms.filter fun n => !decide (n.dir = p ∧ n.name = s)) ++ [⟨q, t, x.id⟩] := by
  unfold movedP
  split <;> rfl
theorem moved_mem (r : RFs) (x : RIn) (p : Int) (s : ByteArray) (q : Int) (t : ByteArray) (y : RIn) : y ∈ (movedP r p s q t x).ins ↔ y ∈ r.ins ∧ (x.kind = 2 → y.id ≠ x.id) ∨ x.kind = 2 ∧ y = upP x q := by
  unfold movedP
  by_cases hk : x.kind = 2
  · rw [if_pos hk, setP_mem]
    simp only [hk, true_and, forall_const]
    exact Iff.rfl
  · rw [if_neg hk]
    simp [hk, namedP, unnamedP]
theorem moved_byId (r : RFs) (p : Int) (s : ByteArray) (q : Int) (t : ByteArray) (hx : byIdP r.ins x.id = x) (j : Int) : (byIdP (movedP r p s q t x).ins j).kind = (byIdP r.ins j).kind := by
  unfold movedP
  by_cases hk : x.kind = 2
  · rw [if_pos hk, byIdP_set]
    show (if j = x.id then _ else _ : RIn).kind = _
    by_cases e : j = x.id
    · rw [if_pos e, e, hx]; rfl
    · rw [if_neg e]; rfl
  · rw [if_neg hk]; rfl
/-- Links behind a name that has moved. -/
theorem moved_links (h : Wf r K) (hx : x ∈ r.ins) {n0 : RNm} (hn0 : n0 ∈ r.nms) (e3 : n0.id = x.id) (q : Int) (t : ByteArray) {y y' : RIn} (hi : y'.id = y.id) (hk : y'.kind = y.kind) :
    linksN (movedP r n0.dir n0.name q t x) y' + (if y.kind = 2 ∧ x.kind = 2 ∧ n0.dir = y.id then 1 else 0) = linksN r y + (if y.kind = 2 ∧ x.kind = 2 ∧ q = y.id then 1 else 0) := by
  have h1 : linksN (movedP r n0.dir n0.name q t x) y' = linksN (namedP (unnamedP r n0.dir n0.name) q t x.id) y := by
    refine linksN_congr hi hk (moved_nms r n0.dir n0.name q t x) fun n hn => ?_
    rw [moved_byId r n0.dir n0.name q t (h.byId hx)]
    exact Iff.rfl
  have h2 := linksN_named (unnamedP r n0.dir n0.name) q t x.id y
  have h3 := linksN_unnamed h hn0 y
  have hb : byIdP (unnamedP r n0.dir n0.name).ins x.id = x := h.byId hx
  rw [hb] at h2
  rw [e3, h.byId hx] at h3
  rw [h1, h2]
  by_cases k1 : y.kind = 2
  · by_cases k2 : x.kind = 2
    · simp only [k1, k2, true_and, and_true, if_true] at h3 ⊢
      omega
    · simp only [k1, k2, false_and, and_false, if_false, if_true] at h3 ⊢
      omega
  · simp only [k1, false_and, if_false] at h3 ⊢
    omega
theorem under_step {r : RFs} {top id : Int} (h1 : id ≠ 1) (hne : id ≠ top) : Under r top id ↔ Under r top (byIdP r.ins id).parent := by
  constructor
  · intro hu
    cases hu with
    | refl => exact absurd rfl hne
    | step _ h2 => exact h2
  · exact fun hu => Under.step h1 hu
theorem under_iff (h : Wf r K) {y : RIn} (hy : y ∈ r.ins) (h1 : y.id ≠ 1) (hne : y.id ≠ x.id) : Under r x.id y.id ↔ Under r x.id y.parent := by
  rw [under_step h1 hne, h.byId hy]
open Classical in
theorem wf_moved (h : Wf r K) (hx : x ∈ r.ins) (hq : q ∈ r.ins) (hkq : q.kind = 2) {n0 : RNm} (hn0 : n0 ∈ r.nms) (e1 : n0.dir = p.id) (e2 : n0.name = s) (e3 : n0.id = x.id) (hv : validP t = true) (he : entryP r.nms q.id t = 0)
    (hu : x.kind = 2 → ¬ Under r x.id q.id) (hl : x.kind = 2 → p.id ≠ q.id → linksN r q < 20) : Wf (movedP r p.id s q.id t x) K := by
  have hx1 : x.id ≠ 1 := by rw [← e3]; exact (h.nmI n0 hn0).1
  have hlk := fun y y' => moved_links h hx hn0 e3 q.id t (y := y) (y' := y')
  rw [e1, e2] at hlk
  have hmem := moved_mem r x p.id s q.id t
  have hnm := moved_nms r p.id s q.id t x
  generalize hr' : movedP r p.id s q.id t x = r' at *
  have hgens : r'.gens = r.gens ∧ r'.room = r.room := by rw [← hr']; unfold movedP; split <;> exact ⟨rfl, rfl⟩
  have hqx : x.kind = 2 → q.id ≠ x.id := fun k e => hu k (by rw [e]; exact Under.refl)
  have hxe : ∀ y ∈ r.ins, y.id = x.id → y = x := fun y hy e => by rw [← h.byId hy, e, h.byId hx]
  have hold : ∀ y ∈ r'.ins, ∃ z ∈ r.ins, z.id = y.id ∧ z.gen = y.gen ∧ z.kind = y.kind ∧ z.target = y.target ∧ z.B = y.B ∧ z.On = y.On ∧ (y.parent = z.parent ∧ (x.kind = 2 → z.id ≠ x.id) ∨ y.parent = q.id ∧ z = x ∧ x.kind = 2) := fun y hy => by
    rcases (hmem y).1 hy with ⟨h1, h2⟩ | ⟨h1, rfl⟩
    · exact ⟨y, h1, rfl, rfl, rfl, rfl, rfl, rfl, .inl ⟨rfl, h2⟩⟩
    · exact ⟨x, hx, rfl, rfl, rfl, rfl, rfl, rfl, .inr ⟨rfl, rfl, h1⟩⟩
  have hnew : ∀ z ∈ r.ins, ∃ y ∈ r'.ins, z.id = y.id ∧ z.gen = y.gen ∧ z.kind = y.kind ∧ (z.id ≠ x.id → z.parent = y.parent) := fun z hz => by
    by_cases hk : x.kind = 2
    · by_cases e : z.id = x.id
      · have := hxe z hz e
        subst this
        exact ⟨upP z q.id, (hmem _).2 (.inr ⟨hk, rfl⟩), rfl, rfl, rfl, fun q => absurd rfl q⟩
      · exact ⟨z, (hmem _).2 (.inl ⟨hz, fun _ => e⟩), rfl, rfl, rfl, fun _ => rfl⟩
    · exact ⟨z, (hmem _).2 (.inl ⟨hz, fun e => absurd e hk⟩), rfl, rfl, rfl, fun _ => rfl⟩
  have hnn : ∀ n, n ∈ r'.nms ↔ n ∈ r.nms ∧ ¬ (n.dir = p.id ∧ n.name = s) ∨ n = ⟨q.id, t, x.id⟩ := fun n => by
    rw [hnm, List.mem_append, List.mem_filter, List.mem_singleton, Bool.not_eq_true', decide_eq_false_iff_not]
  have hsup : ∀ n ∈ r.nms, n.id ≠ x.id → n ∈ r'.nms := fun n hn qe => (hnn n).2 (.inl ⟨hn, fun e => qe (by rw [h.uniq_eq hn hn0 (e.1.trans e1.symm) (e.2.trans e2.symm)]; exact e3)⟩)
  have hfil : ∀ y : RIn, y.id ≠ x.id → r'.nms.filter (fun n => decide (n.id = y.id)) = r.nms.filter (fun n => decide (n.id = y.id)) := fun y hy => by
    rw [hnm, List.filter_append, List.filter_filter]
    have : ¬ x.id = y.id := fun e => hy e.symm
    simp only [List.filter_cons, List.filter_nil, this, decide_false, Bool.false_eq_true, if_false, List.append_nil]
    apply List.filter_congr
    intro n hn
    by_cases qe : n.id = y.id
    · have : ¬ (n.dir = p.id ∧ n.name = s) := fun e => hy (by rw [← qe, h.uniq_eq hn hn0 (e.1.trans e1.symm) (e.2.trans e2.symm)]; exact e3)
      simp only [qe, decide_true, Bool.true_and, this, decide_false, Bool.not_false]
    · simp [qe]
  refine { ids := ?_, rng := fun y hy => ?_, gen := fun y hy => ?_, genK := by rw [hgens.1]; exact h.genK, genL := by rw [hgens.1]; exact h.genL, kind := fun y hy => ?_, root := ?_, nmD := fun n hn => ?_, nmI := fun n hn => ?_, nmV := fun n hn => ?_, uniq := ?_, one := fun y hy q1 q2 => ?_, some := fun y hy k => ?_, par := fun y hy k => ?_, tree := ?_, nmK := ?_, lim := fun y hy => ?_, file := fun y hy k => ?_, link := fun y hy k => ?_, rm := by rw [hgens.2]; exact h.rm, sp := ?_ }
  · rw [← hr']
    unfold movedP
    split
    · exact setP_ids (r := r) h (upP x q.id)
    · exact h.ids
  · obtain ⟨z, hz, a1, a2, a3, a4, a5, a6, a7⟩ := hold y hy; rw [← a1]; exact h.rng z hz
  · obtain ⟨z, hz, a1, a2, a3, a4, a5, a6, a7⟩ := hold y hy; rw [← a1, ← a2, hgens.1]; exact h.gen z hz
  · obtain ⟨z, hz, a1, a2, a3, a4, a5, a6, a7⟩ := hold y hy; rw [← a3]; exact h.kind z hz
  · obtain ⟨z, hz, b1, b2, b3, b4⟩ := h.root
    obtain ⟨y, hy, a1, a2, a3, a4⟩ := hnew z hz
    exact ⟨y, hy, a1 ▸ b1, a2 ▸ b2, a3 ▸ b3, by rw [← a4 (fun e => hx1 (e ▸ b1))]; exact b4⟩
  · rcases (hnn n).1 hn with ⟨h1, _⟩ | rfl
    · obtain ⟨z, hz, b1, b2⟩ := h.nmD n h1
      obtain ⟨y, hy, a1, a2, a3, a4⟩ := hnew z hz
      exact ⟨y, hy, a1 ▸ b1, a3 ▸ b2⟩
    · obtain ⟨y, hy, a1, a2, a3, a4⟩ := hnew q hq
      exact ⟨y, hy, a1.symm, a3 ▸ hkq⟩
  · rcases (hnn n).1 hn with ⟨h1, _⟩ | rfl
    · obtain ⟨b0, z, hz, b1⟩ := h.nmI n h1
      obtain ⟨y, hy, a1, a2, a3, a4⟩ := hnew z hz
      exact ⟨b0, y, hy, a1 ▸ b1⟩
    · obtain ⟨y, hy, a1, a2, a3, a4⟩ := hnew x hx
      exact ⟨hx1, y, hy, a1.symm⟩
  · rcases (hnn n).1 hn with ⟨h1, _⟩ | rfl
    · exact h.nmV n h1
    · exact hv
  · rw [hnm]
    exact uniq_add (h.uniq.filter _) (fun n hn => entry_none h (fun _ hn => hn) he n (List.mem_filter.1 hn).1)
  · obtain ⟨z, hz, a1, a2, a3, a4, a5, a6, a7⟩ := hold y hy
    by_cases e : y.id = x.id
    · have hzx : z = x := hxe z hz (a1.trans e)
      subst hzx
      have hkz : z.kind = 2 := a3.trans q1
      rcases a7 with ⟨_, b⟩ | ⟨b, _, _⟩
      · exact absurd rfl (b hkz)
      · rw [hnm, List.filter_append, List.filter_filter, b]
        have : (r.nms.filter fun n => decide (n.id = y.id) && !decide (n.dir = p.id ∧ n.name = s)) = [] := by
          rw [List.filter_eq_nil_iff]
          intro n hn
          by_cases qe : n.id = z.id
          · have h9 := h.one_name hz hkz hx1 hn hn0 qe e3
            have : n.dir = p.id ∧ n.name = s := ⟨h9.1.trans e1, h9.2.trans e2⟩
            simp [this]
          · rw [e]; simp [qe]
        rw [this]
        simp [e]
    · rw [hfil y e]
      have hzx : z.id ≠ x.id := fun e' => e (a1 ▸ e')
      have := h.one z hz (a3.trans q1) (fun e' => q2 (a1 ▸ e'))
      rw [a1] at this
      rw [this]
      rcases a7 with ⟨b, _⟩ | ⟨_, b, _⟩
      · rw [b]
      · exact absurd (by rw [b]) hzx
  · obtain ⟨z, hz, a1, a2, a3, a4, a5, a6, a7⟩ := hold y hy
    by_cases e : y.id = x.id
    · exact ⟨_, (hnn _).2 (.inr rfl), e.symm⟩
    · obtain ⟨n, hn, b⟩ := h.some z hz (fun e' => k (a3 ▸ e'))
      exact ⟨n, hsup n hn (by rw [b, a1]; exact e), b.trans a1⟩
  · obtain ⟨z, hz, a1, a2, a3, a4, a5, a6, a7⟩ := hold y hy
    rcases a7 with ⟨b, _⟩ | ⟨b, _, _⟩
    · obtain ⟨w, hw, c1, c2⟩ := h.par z hz (a3.trans k)
      obtain ⟨w', hw', d1, d2, d3, d4⟩ := hnew w hw
      exact ⟨w', hw', by rw [← d1, c1, b], d3 ▸ c2⟩
    · obtain ⟨w', hw', d1, d2, d3, d4⟩ := hnew q hq
      exact ⟨w', hw', by rw [← d1, b], d3 ▸ hkq⟩
  · obtain ⟨ρ, hρ⟩ := h.tree
    by_cases hk : x.kind = 2
    · refine ⟨fun j => if Under r x.id j then ρ j + (ρ q.id + 1) else ρ j, fun y hy q1 q2 => ?_⟩
      obtain ⟨z, hz, a1, a2, a3, a4, a5, a6, a7⟩ := hold y hy
      rw [← a1] at q2 ⊢
      dsimp only
      rcases a7 with ⟨b, b'⟩ | ⟨b, rfl, _⟩
      · have hz1 := hρ z hz (a3.trans q1) q2
        have hui := under_iff (x := x) h hz q2 (b' hk)
        rw [b]
        by_cases u : Under r x.id z.id
        · rw [if_pos u, if_pos (hui.1 u)]; omega
        · rw [if_neg u, if_neg (fun u' => u (hui.2 u'))]; exact hz1
      · rw [b, if_neg (hu hk), if_pos Under.refl]; omega
    · refine ⟨ρ, fun y hy q1 q2 => ?_⟩
      obtain ⟨z, hz, a1, a2, a3, a4, a5, a6, a7⟩ := hold y hy
      rcases a7 with ⟨b, _⟩ | ⟨_, _, b⟩
      · rw [b, ← a1]; exact hρ z hz (a3.trans q1) (fun e => q2 (a1 ▸ e))
      · exact absurd b hk
  · have h1 := countP_unnamed h.uniq hn0 e1 e2 (fun _ => true)
    have h2 := h.nmK
    rw [hnm]
    simp only [List.countP_true, if_true] at h1
    simp only [List.length_append, List.length_cons, List.length_nil]
    omega
  · obtain ⟨z, hz, a1, a2, a3, a4, a5, a6, a7⟩ := hold y hy
    have h1 := hlk z y a1.symm a3.symm
    have h2 := h.lim z hz
    by_cases c1 : z.kind = 2 ∧ x.kind = 2 ∧ q.id = z.id
    · have hqz : q = z := by rw [← h.byId hq, c1.2.2, h.byId hz]
      by_cases c2 : p.id = z.id
      · rw [if_pos c1, if_pos ⟨c1.1, c1.2.1, c2⟩] at h1; omega
      · have := hl c1.2.1 (fun e => c2 (e.trans c1.2.2))
        rw [if_pos c1] at h1
        rw [hqz] at this
        omega
    · rw [if_neg c1] at h1; omega
  · obtain ⟨z, hz, a1, a2, a3, a4, a5, a6, a7⟩ := hold y hy
    rw [← a5, ← a6]; exact h.file z hz (fun e => k (a3 ▸ e))
  · obtain ⟨z, hz, a1, a2, a3, a4, a5, a6, a7⟩ := hold y hy
    rw [← a4]; exact h.link z hz (fun e => k (a3 ▸ e))
  · rw [hgens.2, ← hr']
    have h1 := h.sp
    have h2 := sum_drop h.ids hx (fun y => y.On.length)
    unfold movedP
    split
    · unfold setP namedP unnamedP upP
      dsimp only
      rw [List.map_append, List.sum_append]
      simp only [List.map_cons, List.map_nil, List.sum_cons, List.sum_nil]
      omega
    · exact h1
end
end Go.Proofs.Ytpcjmefchclhhaa

/- What is always true of a file system stays true: New, Link, Write, Cut. -/
import Derived.Test.YtpcjmefchclhhaaFsP
import Derived.Test.YtpcjmefchclhhaaFsL
namespace Go.Proofs.Ytpcjmefchclhhaa
open Go.RowKit Go.MapKept

section
variable {r : RFs} {K : Nat} {x d : RIn}
theorem Wf.up {K' : Nat} (h : Wf r K) (hk : K ≤ K') : Wf r K' :=
  { h with genK := fun g hg => by have := h.genK g hg; omega, nmK := by have := h.nmK; omega }
theorem newP_mem {room : Int} {y : RIn} (h : y ∈ (newP room).ins) : y = ⟨1, 1, 2, 493, 0, 1, noStr, [], []⟩ := by
  unfold newP at h
  simpa using h
theorem wf_new {room : Int} (hr : room ≤ 9223372036854775807) : Wf (newP room) 0 where
  ids := by unfold newP; simp
  rng := fun y hy => by rw [newP_mem hy]; decide
  gen := fun y hy => by rw [newP_mem hy]; exact ⟨rfl, by decide⟩
  genK := fun g hg => by unfold newP at hg; simp at hg; omega
  genL := by unfold newP; simp
  kind := fun y hy => by rw [newP_mem hy]; decide
  root := ⟨_, by unfold newP; exact List.mem_singleton.2 rfl, rfl, rfl, rfl, rfl⟩
  nmD := fun n hn => by unfold newP at hn; simp at hn
  nmI := fun n hn => by unfold newP at hn; simp at hn
  nmV := fun n hn => by unfold newP at hn; simp at hn
  uniq := by unfold newP; simp
  one := fun y hy _ h1 => by rw [newP_mem hy] at h1; exact absurd rfl h1
  some := fun y hy h1 => by rw [newP_mem hy] at h1; exact absurd rfl h1
  par := fun y hy _ => ⟨y, hy, by rw [newP_mem hy], by rw [newP_mem hy]⟩
  tree := ⟨fun _ => 0, fun y hy _ h1 => by rw [newP_mem hy] at h1; exact absurd rfl h1⟩
  nmK := by unfold newP; simp
  lim := fun y hy => by rw [newP_mem hy]; unfold linksN newP; simp
  file := fun y hy _ => by rw [newP_mem hy]; exact ⟨rfl, rfl⟩
  link := fun y hy _ => by rw [newP_mem hy]
  rm := by unfold newP; dsimp only; omega
  sp := by unfold newP; simp; omega
theorem setP_mem {r : RFs} {x y : RIn} : y ∈ (setP r x).ins ↔ y ∈ r.ins ∧ y.id ≠ x.id ∨ y = x := by
  unfold setP
  simp
theorem sum_filter {α : Type} (g : α → Nat) (p : α → Bool) (l : List α) : ((l.filter p).map g).sum ≤ (l.map g).sum := by
  induction l with
  | nil => simp
  | cons a l ih =>
    rw [List.filter_cons]
    split <;> simp <;> omega
theorem sum_drop {l : List RIn} (hn : (l.map (·.id)).Nodup) (hx : x ∈ l) (g : RIn → Nat) : ((l.filter fun y => decide (y.id ≠ x.id)).map g).sum + g x = (l.map g).sum := by
  induction l with
  | nil => simp at hx
  | cons y l ih =>
    simp only [List.map_cons, List.nodup_cons] at hn
    rw [List.filter_cons]
    rcases List.mem_cons.1 hx with rfl | hx
    · have hl : (l.filter fun y => decide (y.id ≠ x.id)) = l := by
        rw [List.filter_eq_self]
        intro z hz
        simp only [decide_eq_true_eq]
        exact fun e => hn.1 (by rw [← e]; exact List.mem_map.2 ⟨z, hz, rfl⟩)
      rw [if_neg (by simp), hl]
      simp
      omega
    · have hne : y.id ≠ x.id := fun e => hn.1 (by rw [e]; exact List.mem_map.2 ⟨x, hx, rfl⟩)
      rw [if_pos (by simpa using hne)]
      have := ih hn.2 hx
      simp only [List.map_cons, List.sum_cons]
      omega
theorem setP_ids (h : Wf r K) (x : RIn) : ((setP r x).ins.map (·.id)).Nodup := by
  unfold setP
  dsimp only
  rw [List.map_append, List.nodup_append]
  refine ⟨(h.ids.sublist (List.filter_sublist.map _)), by simp, ?_⟩
  intro a ha b hb
  obtain ⟨y, hy, rfl⟩ := List.mem_map.1 ha
  simp at hb
  have := (List.mem_filter.1 hy).2
  simp at this
  rw [hb]
  exact this
/-- A file with other bytes. -/
theorem wf_file (h : Wf r K) (hx : x ∈ r.ins) (hk : x.kind = 1) (B : List UInt8) (On : List Nat) (t : Int) (hs : (usedN r : Int) + On.length ≤ r.room + x.On.length) : Wf (setP r (fileP x B On t)) K := by
  have hl := linksN_set h hx (x' := fileP x B On t) rfl rfl
  have hm : ∀ y, y ∈ (setP r (fileP x B On t)).ins → ∃ z ∈ r.ins, z.id = y.id ∧ z.gen = y.gen ∧ z.kind = y.kind ∧ z.parent = y.parent ∧ z.target = y.target ∧ (y.kind ≠ 1 → z.B = y.B ∧ z.On = y.On) := fun y hy => by
    rcases setP_mem.1 hy with ⟨h1, _⟩ | rfl
    · exact ⟨y, h1, rfl, rfl, rfl, rfl, rfl, fun _ => ⟨rfl, rfl⟩⟩
    · exact ⟨x, hx, rfl, rfl, rfl, rfl, rfl, fun e => absurd hk e⟩
  have hm2 : ∀ z ∈ r.ins, ∃ y ∈ (setP r (fileP x B On t)).ins, z.id = y.id ∧ z.gen = y.gen ∧ z.kind = y.kind ∧ z.parent = y.parent := fun z hz => by
    by_cases e : z.id = x.id
    · have : z = x := by rw [← h.byId hz, e, h.byId hx]
      subst this
      exact ⟨_, setP_mem.2 (.inr rfl), rfl, rfl, rfl, rfl⟩
    · exact ⟨z, setP_mem.2 (.inl ⟨hz, e⟩), rfl, rfl, rfl, rfl⟩
  refine { ids := setP_ids h _, rng := fun y hy => ?_, gen := fun y hy => ?_, genK := h.genK, genL := h.genL, kind := fun y hy => ?_, root := ?_, nmD := fun n hn => ?_, nmI := fun n hn => ?_, nmV := h.nmV, uniq := h.uniq, one := fun y hy q1 q2 => ?_, some := fun y hy q => ?_, par := fun y hy q => ?_, tree := ?_, nmK := h.nmK, lim := fun y hy => ?_, file := fun y hy q => ?_, link := fun y hy q => ?_, rm := h.rm, sp := ?_ }
  · obtain ⟨z, hz, e1, e2, e3, e4, e5, e6⟩ := hm y hy; rw [← e1]; exact h.rng z hz
  · obtain ⟨z, hz, e1, e2, e3, e4, e5, e6⟩ := hm y hy; rw [← e1, ← e2]; exact h.gen z hz
  · obtain ⟨z, hz, e1, e2, e3, e4, e5, e6⟩ := hm y hy; rw [← e3]; exact h.kind z hz
  · obtain ⟨z, hz, e1, e2, e3, e4⟩ := h.root
    obtain ⟨y, hy, a1, a2, a3, a4⟩ := hm2 z hz
    exact ⟨y, hy, a1 ▸ e1, a2 ▸ e2, a3 ▸ e3, a4 ▸ e4⟩
  · obtain ⟨z, hz, e1, e2⟩ := h.nmD n hn
    obtain ⟨y, hy, a1, a2, a3, a4⟩ := hm2 z hz
    exact ⟨y, hy, a1 ▸ e1, a3 ▸ e2⟩
  · obtain ⟨e0, z, hz, e1⟩ := h.nmI n hn
    obtain ⟨y, hy, a1, a2, a3, a4⟩ := hm2 z hz
    exact ⟨e0, y, hy, a1 ▸ e1⟩
  · obtain ⟨z, hz, e1, e2, e3, e4, e5, e6⟩ := hm y hy
    have := h.one z hz (e3.trans q1) (fun e => q2 (e1 ▸ e))
    rw [e1, e4] at this
    exact this
  · obtain ⟨z, hz, e1, e2, e3, e4, e5, e6⟩ := hm y hy
    have := h.some z hz (fun e => q (e3 ▸ e))
    rw [e1] at this
    exact this
  · obtain ⟨z, hz, e1, e2, e3, e4, e5, e6⟩ := hm y hy
    obtain ⟨p, hp, p1, p2⟩ := h.par z hz (e3.trans q)
    obtain ⟨p', hp', a1, a2, a3, a4⟩ := hm2 p hp
    exact ⟨p', hp', by rw [← a1, p1, e4], a3 ▸ p2⟩
  · obtain ⟨ρ, hρ⟩ := h.tree
    refine ⟨ρ, fun y hy q1 q2 => ?_⟩
    obtain ⟨z, hz, e1, e2, e3, e4, e5, e6⟩ := hm y hy
    rw [← e4, ← e1]
    exact hρ z hz (e3.trans q1) (fun e => q2 (e1 ▸ e))
  · rw [hl]
    obtain ⟨z, hz, e1, e2, e3, e4, e5, e6⟩ := hm y hy
    rw [linksN_congr (r := r) (r' := r) (x := z) (x' := y) e1.symm e3.symm rfl (fun _ _ => Iff.rfl)]
    exact h.lim z hz
  · obtain ⟨z, hz, e1, e2, e3, e4, e5, e6⟩ := hm y hy
    rw [← (e6 q).1, ← (e6 q).2]
    exact h.file z hz (fun e => q (e3 ▸ e))
  · obtain ⟨z, hz, e1, e2, e3, e4, e5, e6⟩ := hm y hy
    rw [← e5]
    exact h.link z hz (fun e => q (e3 ▸ e))
  · have := sum_drop h.ids hx (fun y => y.On.length)
    unfold usedN at hs
    unfold setP fileP
    dsimp only
    rw [List.map_append, List.sum_append]
    simp only [List.map_cons, List.map_nil, List.sum_cons, List.sum_nil]
    omega
theorem entry_none {l : List RNm} {dir : Int} {s : ByteArray} {K : Nat} {r : RFs} (h : Wf r K) (hl : ∀ n ∈ l, n ∈ r.nms) (he : entryP l dir s = 0) : ∀ n ∈ l, ¬ (n.dir = dir ∧ n.name = s) := by
  intro n hn e
  unfold entryP at he
  cases hf : l.find? fun n => decide (n.dir = dir ∧ n.name = s) with
  | none =>
    have := List.find?_eq_none.1 hf n hn
    simp at this
    exact this e.1 e.2
  | some m =>
    rw [hf] at he
    have hm := List.mem_of_find?_eq_some hf
    obtain ⟨_, y, hy, e2⟩ := h.nmI m (hl m hm)
    have := h.rng y hy
    simp at he
    omega
theorem uniq_add {l : List RNm} (hu : l.Pairwise fun a b => ¬ (a.dir = b.dir ∧ a.name = b.name)) {m : RNm} (hn : ∀ n ∈ l, ¬ (n.dir = m.dir ∧ n.name = m.name)) : (l ++ [m]).Pairwise fun a b => ¬ (a.dir = b.dir ∧ a.name = b.name) := by
  rw [List.pairwise_append]
  refine ⟨hu, by simp, fun a ha b hb => ?_⟩
  simp at hb
  subst hb
  exact hn a ha
/-- One name more, of what is no folder. -/
theorem wf_named (h : Wf r K) (hd : d ∈ r.ins) (hk : d.kind = 2) (hx : x ∈ r.ins) (hkx : x.kind ≠ 2) {s : ByteArray} (hv : validP s = true) (he : entryP r.nms d.id s = 0) (hl : linksN r x < 20) : Wf (namedP r d.id s x.id) (K + 1) := by
  have hx1 : x.id ≠ 1 := fun e => by
    obtain ⟨z, hz, e1, e2, e3, e4⟩ := h.root
    have a := h.byId hx
    rw [e, ← e1, h.byId hz] at a
    rw [← a] at hkx
    exact hkx e3
  have hm : ∀ n, n ∈ (namedP r d.id s x.id).nms ↔ n ∈ r.nms ∨ n = ⟨d.id, s, x.id⟩ := fun n => by unfold namedP; simp
  have hl' := linksN_named r d.id s x.id
  rw [h.byId hx] at hl'
  refine { h.up (Nat.le_succ K) with nmD := fun n hn => ?_, nmI := fun n hn => ?_, nmV := fun n hn => ?_, uniq := ?_, one := fun y hy q1 q2 => ?_, some := fun y hy q => ?_, nmK := ?_, lim := fun y hy => ?_ }
  · rcases (hm n).1 hn with h1 | rfl
    · exact h.nmD n h1
    · exact ⟨d, hd, rfl, hk⟩
  · rcases (hm n).1 hn with h1 | rfl
    · exact h.nmI n h1
    · exact ⟨hx1, x, hx, rfl⟩
  · rcases (hm n).1 hn with h1 | rfl
    · exact h.nmV n h1
    · exact hv
  · exact uniq_add h.uniq (entry_none h (fun _ hn => hn) he)
  · unfold namedP
    dsimp only
    rw [List.filter_append, List.map_append, h.one y hy q1 q2]
    have : ¬ x.id = y.id := fun e => by
      have a := h.byId hx
      rw [e, h.byId hy] at a
      rw [a] at q1
      exact hkx q1
    simp [this]
  · obtain ⟨n, hn, e⟩ := h.some y hy q
    exact ⟨n, (hm n).2 (.inl hn), e⟩
  · unfold namedP
    have := h.nmK
    simp
    omega
  · rw [hl']
    have h1 := h.lim y hy
    by_cases q : y.kind = 2
    · rw [if_pos q, if_neg (fun e => hkx e.2)]; exact h1
    · rw [if_neg q]
      by_cases e : x.id = y.id
      · have : x = y := by rw [← h.byId hx, e, h.byId hy]
        subst this
        rw [if_pos rfl]; omega
      · rw [if_neg e]; exact h1
theorem Wf.uniq_eq (h : Wf r K) {n m : RNm} (hn : n ∈ r.nms) (hm : m ∈ r.nms) (e1 : n.dir = m.dir) (e2 : n.name = m.name) : n = m := by
  obtain ⟨a, ha, ea⟩ := List.getElem_of_mem hn
  obtain ⟨b, hb, eb⟩ := List.getElem_of_mem hm
  have hq := List.pairwise_iff_getElem.1 h.uniq
  rcases Nat.lt_trichotomy a b with hlt | heq | hgt
  · exact absurd ⟨by rw [ea, eb]; exact e1, by rw [ea, eb]; exact e2⟩ (hq a b ha hb hlt)
  · subst heq; exact ea.symm.trans eb
  · exact absurd ⟨by rw [ea, eb]; exact e1.symm, by rw [ea, eb]; exact e2.symm⟩ (hq b a hb ha hgt)
/-- One name less: what it led to is there yet by another one, or is gone too. -/
theorem wf_drop (h : Wf r K) {s : ByteArray} (he : entryP r.nms d.id s ≠ 0) (hm : (byIdP r.ins (entryP r.nms d.id s)).kind = 2 → manyP r.nms (byIdP r.ins (entryP r.nms d.id s)).id = 0) : Wf (dropP r d.id s) K := by
  obtain ⟨n0, hn0, e1, e2, e3⟩ := entry_mem he
  obtain ⟨hx1, x, hx, ex⟩ := h.nmI n0 hn0
  have hid : entryP r.nms d.id s = x.id := by rw [← e3, ← ex]
  have hbx : byIdP r.ins x.id = x := h.byId hx
  rw [hid, hbx] at hm
  have hun := linksN_unnamed h hn0
  rw [e1, e2] at hun
  have hsub : ∀ n ∈ (unnamedP r d.id s).nms, n ∈ r.nms ∧ ¬ (n.dir = d.id ∧ n.name = s) := fun n hn => by
    have := List.mem_filter.1 hn
    refine ⟨this.1, ?_⟩
    have h2 := this.2
    rw [Bool.not_eq_true', decide_eq_false_iff_not] at h2
    exact h2
  have hsup : ∀ n ∈ r.nms, n.id ≠ x.id → n ∈ (unnamedP r d.id s).nms := fun n hn q => by
    refine List.mem_filter.2 ⟨hn, ?_⟩
    rw [Bool.not_eq_true', decide_eq_false_iff_not]
    intro e
    have := h.uniq_eq hn hn0 (e.1.trans e1.symm) (e.2.trans e2.symm)
    rw [this] at q
    exact q ex.symm
  have hxe : ∀ y ∈ r.ins, y.id = x.id → y = x := fun y hy e => by rw [← h.byId hy, e, hbx]
  have hfil : ∀ y : RIn, y.id ≠ x.id → (unnamedP r d.id s).nms.filter (fun n => decide (n.id = y.id)) = r.nms.filter (fun n => decide (n.id = y.id)) := fun y hy => by
    unfold unnamedP
    dsimp only
    rw [List.filter_filter]
    apply List.filter_congr
    intro n hn
    by_cases q : n.id = y.id
    · have := (List.mem_filter.1 (hsup n hn (fun e => hy (q.symm.trans e)))).2
      simp only [q, decide_true, Bool.true_and]
      exact this
    · simp [q]
  have hlen : (unnamedP r d.id s).nms.length ≤ r.nms.length := List.length_filter_le _ _
  have hle : ∀ y, linksN (unnamedP r d.id s) y ≤ linksN r y := fun y => by have := hun y; omega
  by_cases hg : x.kind = 2 ∨ linksN (unnamedP r d.id s) x = 0
  · rw [show dropP r d.id s = goneP (unnamedP r d.id s) x.id by unfold dropP; rw [hid, hbx, if_pos hg]]
    have hnx : ∀ n ∈ (unnamedP r d.id s).nms, n.id ≠ x.id := fun n hn e => by
      obtain ⟨a, b⟩ := hsub n hn
      rcases hg with q | q
      · have := h.one_name hx q (by rw [ex]; exact hx1) a hn0 e ex.symm
        exact b ⟨this.1.trans e1, this.2.trans e2⟩
      · by_cases q2 : x.kind = 2
        · have := h.one_name hx q2 (by rw [ex]; exact hx1) a hn0 e ex.symm
          exact b ⟨this.1.trans e1, this.2.trans e2⟩
        · unfold linksN at q
          rw [if_neg q2] at q
          rw [List.countP_eq_zero] at q
          have := q n hn
          simp [e] at this
    have hnd : ∀ n ∈ r.nms, x.kind = 2 → n.dir ≠ x.id := fun n hn q e => by
      have := hm q
      unfold manyP at this
      rw [List.countP_eq_zero] at this
      have := this n hn
      simp [e] at this
    have hgo : ∀ y, linksN (goneP (unnamedP r d.id s) x.id) y = linksN (unnamedP r d.id s) y := linksN_gone fun n hn hni => absurd hni (hnx n hn)
    have hmi : ∀ y, y ∈ (goneP (unnamedP r d.id s) x.id).ins ↔ y ∈ r.ins ∧ y.id ≠ x.id := fun y => by unfold goneP unnamedP; simp
    have hdir : ∀ p ∈ r.ins, p.kind = 2 → (∃ n ∈ r.nms, n.dir = p.id) → p.id ≠ x.id := fun p hp q ⟨n, hn, e⟩ e' => by
      have := hxe p hp e'
      subst this
      exact hnd n hn q e
    have hrt : ∀ z ∈ r.ins, z.id = 1 → z.id ≠ x.id := fun z _ e e' => hx1 (by rw [← ex, ← e', e])
    refine { ids := h.ids.sublist (List.filter_sublist.map _), rng := fun y hy => h.rng y ((hmi y).1 hy).1, gen := fun y hy => h.gen y ((hmi y).1 hy).1, genK := h.genK, genL := h.genL, kind := fun y hy => h.kind y ((hmi y).1 hy).1, root := ?_, nmD := fun n hn => ?_, nmI := fun n hn => ?_, nmV := fun n hn => h.nmV n (hsub n hn).1, uniq := h.uniq.filter _, one := fun y hy q1 q2 => ?_, some := fun y hy q => ?_, par := fun y hy q => ?_, tree := ?_, nmK := Nat.le_trans hlen h.nmK, lim := fun y hy => ?_, file := fun y hy => h.file y ((hmi y).1 hy).1, link := fun y hy => h.link y ((hmi y).1 hy).1, rm := h.rm, sp := ?_ }
    · obtain ⟨z, hz, a1, a2, a3, a4⟩ := h.root
      exact ⟨z, (hmi z).2 ⟨hz, hrt z hz a1⟩, a1, a2, a3, a4⟩
    · obtain ⟨p, hp, a1, a2⟩ := h.nmD n (hsub n hn).1
      exact ⟨p, (hmi p).2 ⟨hp, hdir p hp a2 ⟨n, (hsub n hn).1, a1.symm⟩⟩, a1, a2⟩
    · obtain ⟨a0, p, hp, a1⟩ := h.nmI n (hsub n hn).1
      exact ⟨a0, p, (hmi p).2 ⟨hp, by rw [a1]; exact hnx n hn⟩, a1⟩
    · obtain ⟨hy1, hy2⟩ := (hmi y).1 hy
      show ((unnamedP r d.id s).nms.filter fun n => decide (n.id = y.id)).map (·.dir) = _
      rw [hfil y hy2]
      exact h.one y hy1 q1 q2
    · obtain ⟨hy1, hy2⟩ := (hmi y).1 hy
      obtain ⟨n, hn, e⟩ := h.some y hy1 q
      exact ⟨n, hsup n hn (by rw [e]; exact hy2), e⟩
    · obtain ⟨hy1, hy2⟩ := (hmi y).1 hy
      obtain ⟨p, hp, a1, a2⟩ := h.par y hy1 q
      refine ⟨p, (hmi p).2 ⟨hp, ?_⟩, a1, a2⟩
      by_cases q1 : y.id = 1
      · obtain ⟨z, hz, b1, b2, b3, b4⟩ := h.root
        have : y = z := by rw [← h.byId hy1, q1, ← b1, h.byId hz]
        subst this
        exact hrt p hp (by rw [a1, b4])
      · have ho := h.one y hy1 q q1
        have : y.parent ∈ (r.nms.filter fun n => decide (n.id = y.id)).map (·.dir) := by rw [ho]; simp
        obtain ⟨n, hn, e⟩ := List.mem_map.1 this
        exact hdir p hp a2 ⟨n, (List.mem_filter.1 hn).1, e.trans a1.symm⟩
    · obtain ⟨ρ, hρ⟩ := h.tree
      exact ⟨ρ, fun y hy => hρ y ((hmi y).1 hy).1⟩
    · rw [hgo]
      exact Nat.le_trans (hle y) (h.lim y ((hmi y).1 hy).1)
    · have := sum_filter (fun y : RIn => y.On.length) (fun y => decide (y.id ≠ x.id)) r.ins
      have h2 := h.sp
      show (((((r.ins.filter fun y => decide (y.id ≠ x.id)).map fun y => y.On.length).sum : Nat)) : Int) ≤ r.room
      omega
  · rw [show dropP r d.id s = unnamedP r d.id s by unfold dropP; rw [hid, hbx, if_neg hg]]
    have hk2 : x.kind ≠ 2 := fun e => hg (.inl e)
    have hl0 : linksN (unnamedP r d.id s) x ≠ 0 := fun e => hg (.inr e)
    refine { h with nmD := fun n hn => h.nmD n (hsub n hn).1, nmI := fun n hn => h.nmI n (hsub n hn).1, nmV := fun n hn => h.nmV n (hsub n hn).1, uniq := h.uniq.filter _, one := fun y hy q1 q2 => ?_, some := fun y hy q => ?_, nmK := Nat.le_trans hlen h.nmK, lim := fun y hy => Nat.le_trans (hle y) (h.lim y hy) }
    · have hyx : y.id ≠ x.id := fun e => hk2 (by rw [← hxe y hy e]; exact q1)
      rw [hfil y hyx]
      exact h.one y hy q1 q2
    · by_cases e : y.id = x.id
      · have := hxe y hy e
        subst this
        unfold linksN at hl0
        rw [if_neg hk2] at hl0
        have := List.countP_pos_iff.1 (Nat.pos_of_ne_zero hl0)
        obtain ⟨n, hn, q3⟩ := this
        exact ⟨n, hn, by simpa using q3⟩
      · obtain ⟨n, hn, e4⟩ := h.some y hy q
        exact ⟨n, hsup n hn (by rw [e4]; exact e), e4⟩
end
end Go.Proofs.Ytpcjmefchclhhaa

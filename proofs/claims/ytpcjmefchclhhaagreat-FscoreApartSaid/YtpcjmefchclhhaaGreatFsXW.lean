/- A part of the proof, merged from several texts. -/
import Derived.Test.YtpcjmefchclhhaaGreatZFsP
import Derived.Test.YtpcjmefchclhhaaGreatZFsL
import Derived.Test.YtpcjmefchclhhaaGreatZFsR
import Derived.Test.YtpcjmefchclhhaaGreatZFsJ
import Derived.Test.YtpcjmefchclhhaaGreatZFsS
import Derived.LaidEqlPtr
namespace Go.Proofs.YtpcjmefchclhhaaGreat
open Go.RowKit Go.MapKept
section
variable {r : RFs} {K : Nat} {x d : RIn}
theorem Wf.up {K' : Nat} (h : Wf r K) (hk : K ≤ K') : Wf r K' :=
 { h with genK := fun g hg => by have := h.genK g hg; omega, nmK := by have := h.nmK; omega }
theorem newP_mem {room : Int} {y : RIn} (h : y ∈ (newP room).ins) : y = ⟨1, 1, 2, 493, 0, 1, noStr, [], []⟩ := by
 unfold newP at h
 simpa using h
theorem wf_new {room : Int} (hr : room ≤ 9223372036854775807) : Wf (newP room) 0 where
 ids := by unfold newP; simp
 rng := fun y hy => by rw [newP_mem hy]; decide
 gen := fun y hy => by rw [newP_mem hy]; exact ⟨rfl, by decide⟩
 genK := fun g hg => by unfold newP at hg; simp at hg; omega
 genL := by unfold newP; simp
 kind := fun y hy => by rw [newP_mem hy]; decide
 root := ⟨_, by unfold newP; exact List.mem_singleton.2 rfl, rfl, rfl, rfl, rfl⟩
 nmD := fun n hn => by unfold newP at hn; simp at hn
 nmI := fun n hn => by unfold newP at hn; simp at hn
 nmV := fun n hn => by unfold newP at hn; simp at hn
 uniq := by unfold newP; simp
 one := fun y hy _ h1 => by rw [newP_mem hy] at h1; exact absurd rfl h1
 some := fun y hy h1 => by rw [newP_mem hy] at h1; exact absurd rfl h1
 par := fun y hy _ => ⟨y, hy, by rw [newP_mem hy], by rw [newP_mem hy]⟩
 tree := ⟨fun _ => 0, fun y hy _ h1 => by rw [newP_mem hy] at h1; exact absurd rfl h1⟩
 nmK := by unfold newP; simp
 lim := fun y hy => by rw [newP_mem hy]; unfold linksN newP; simp
 file := fun y hy _ => by rw [newP_mem hy]; exact ⟨rfl, rfl⟩
 link := fun y hy _ => by rw [newP_mem hy]
 rm := by unfold newP; dsimp only; omega
 sp := by unfold newP; simp; omega
theorem setP_mem {r : RFs} {x y : RIn} : y ∈ (setP r x).ins ↔ y ∈ r.ins ∧ y.id ≠ x.id ∨ y = x := by
 unfold setP
 simp
theorem sum_filter {α : Type} (g : α → Nat) (p : α → Bool) (l : List α) : ((l.filter p).map g).sum ≤ (l.map g).sum := by
 induction l with
 | nil => simp
 | cons a l ih =>
  rw [List.filter_cons]
  split <;> simp <;> omega
theorem sum_drop {l : List RIn} (hn : (l.map (·.id)).Nodup) (hx : x ∈ l) (g : RIn → Nat) : ((l.filter fun y => decide (y.id ≠ x.id)).map g).sum + g x = (l.map g).sum := by
 induction l with
 | nil => simp at hx
 | cons y l ih =>
  simp only [List.map_cons, List.nodup_cons] at hn
  rw [List.filter_cons]
  rcases List.mem_cons.1 hx with rfl | hx
  ·have hl : (l.filter fun y => decide (y.id ≠ x.id)) = l := by
    rw [List.filter_eq_self]
    intro z hz
    simp only [decide_eq_true_eq]
    exact fun e => hn.1 (by rw [← e]; exact List.mem_map.2 ⟨z, hz, rfl⟩)
   rw [if_neg (by simp), hl]
   simp
   omega
  ·have hne : y.id ≠ x.id := fun e => hn.1 (by rw [e]; exact List.mem_map.2 ⟨x, hx, rfl⟩)
   rw [if_pos (by simpa using hne)]
   have := ih hn.2 hx
   simp only [List.map_cons, List.sum_cons]
   omega
theorem setP_ids (h : Wf r K) (x : RIn) : ((setP r x).ins.map (·.id)).Nodup := by
 unfold setP
 dsimp only
 rw [List.map_append, List.nodup_append]
 refine ⟨(h.ids.sublist (List.filter_sublist.map _)), by simp, ?_⟩
 intro a ha b hb
 obtain ⟨y, hy, rfl⟩ := List.mem_map.1 ha
 simp at hb
 have := (List.mem_filter.1 hy).2
 simp at this
 rw [hb]
 exact this
theorem wf_file (h : Wf r K) (hx : x ∈ r.ins) (hk : x.kind = 1) (B : List UInt8) (On : List Nat) (t : Int) (hs : (usedN r : Int) + On.length ≤ r.room + x.On.length) : Wf (setP r (fileP x B On t)) K := by
 have hl := linksN_set h hx (x' := fileP x B On t) rfl rfl
 have hm : ∀ y, y ∈ (setP r (fileP x B On t)).ins → ∃ z ∈ r.ins, z.id = y.id ∧ z.gen = y.gen ∧ z.kind = y.kind ∧ z.parent = y.parent ∧ z.target = y.target ∧ (y.kind ≠ 1 → z.B = y.B ∧ z.On = y.On) := fun y hy => by
  rcases setP_mem.1 hy with ⟨h1, _⟩ | rfl
  ·exact ⟨y, h1, rfl, rfl, rfl, rfl, rfl, fun _ => ⟨rfl, rfl⟩⟩
  ·exact ⟨x, hx, rfl, rfl, rfl, rfl, rfl, fun e => absurd hk e⟩
 have hm2 : ∀ z ∈ r.ins, ∃ y ∈ (setP r (fileP x B On t)).ins, z.id = y.id ∧ z.gen = y.gen ∧ z.kind = y.kind ∧ z.parent = y.parent := fun z hz => by
  by_cases e : z.id = x.id
  ·have : z = x := by rw [← h.byId hz, e, h.byId hx]
   subst this
   exact ⟨_, setP_mem.2 (.inr rfl), rfl, rfl, rfl, rfl⟩
  ·exact ⟨z, setP_mem.2 (.inl ⟨hz, e⟩), rfl, rfl, rfl, rfl⟩
 refine { ids := setP_ids h _, rng := fun y hy => ?_, gen := fun y hy => ?_, genK := h.genK, genL := h.genL, kind := fun y hy => ?_, root := ?_, nmD := fun n hn => ?_, nmI := fun n hn => ?_, nmV := h.nmV, uniq := h.uniq, one := fun y hy q1 q2 => ?_, some := fun y hy q => ?_, par := fun y hy q => ?_, tree := ?_, nmK := h.nmK, lim := fun y hy => ?_, file := fun y hy q => ?_, link := fun y hy q => ?_, rm := h.rm, sp := ?_ }
 ·obtain ⟨z, hz, e1, e2, e3, e4, e5, e6⟩ := hm y hy; rw [← e1]; exact h.rng z hz
 ·obtain ⟨z, hz, e1, e2, e3, e4, e5, e6⟩ := hm y hy; rw [← e1, ← e2]; exact h.gen z hz
 ·obtain ⟨z, hz, e1, e2, e3, e4, e5, e6⟩ := hm y hy; rw [← e3]; exact h.kind z hz
 ·obtain ⟨z, hz, e1, e2, e3, e4⟩ := h.root
  obtain ⟨y, hy, a1, a2, a3, a4⟩ := hm2 z hz
  exact ⟨y, hy, a1 ▸ e1, a2 ▸ e2, a3 ▸ e3, a4 ▸ e4⟩
 ·obtain ⟨z, hz, e1, e2⟩ := h.nmD n hn
  obtain ⟨y, hy, a1, a2, a3, a4⟩ := hm2 z hz
  exact ⟨y, hy, a1 ▸ e1, a3 ▸ e2⟩
 ·obtain ⟨e0, z, hz, e1⟩ := h.nmI n hn
  obtain ⟨y, hy, a1, a2, a3, a4⟩ := hm2 z hz
  exact ⟨e0, y, hy, a1 ▸ e1⟩
 ·obtain ⟨z, hz, e1, e2, e3, e4, e5, e6⟩ := hm y hy
  have := h.one z hz (e3.trans q1) (fun e => q2 (e1 ▸ e))
  rw [e1, e4] at this
  exact this
 ·obtain ⟨z, hz, e1, e2, e3, e4, e5, e6⟩ := hm y hy
  have := h.some z hz (fun e => q (e3 ▸ e))
  rw [e1] at this
  exact this
 ·obtain ⟨z, hz, e1, e2, e3, e4, e5, e6⟩ := hm y hy
  obtain ⟨p, hp, p1, p2⟩ := h.par z hz (e3.trans q)
  obtain ⟨p', hp', a1, a2, a3, a4⟩ := hm2 p hp
  exact ⟨p', hp', by rw [← a1, p1, e4], a3 ▸ p2⟩
 ·obtain ⟨ρ, hρ⟩ := h.tree
  refine ⟨ρ, fun y hy q1 q2 => ?_⟩
  obtain ⟨z, hz, e1, e2, e3, e4, e5, e6⟩ := hm y hy
  rw [← e4, ← e1]
  exact hρ z hz (e3.trans q1) (fun e => q2 (e1 ▸ e))
 ·rw [hl]
  obtain ⟨z, hz, e1, e2, e3, e4, e5, e6⟩ := hm y hy
  rw [linksN_congr (r := r) (r' := r) (x := z) (x' := y) e1.symm e3.symm rfl (fun _ _ => Iff.rfl)]
  exact h.lim z hz
 ·obtain ⟨z, hz, e1, e2, e3, e4, e5, e6⟩ := hm y hy
  rw [← (e6 q).1, ← (e6 q).2]
  exact h.file z hz (fun e => q (e3 ▸ e))
 ·obtain ⟨z, hz, e1, e2, e3, e4, e5, e6⟩ := hm y hy
  rw [← e5]
  exact h.link z hz (fun e => q (e3 ▸ e))
 ·have := sum_drop h.ids hx (fun y => y.On.length)
  unfold usedN at hs
  unfold setP fileP
  dsimp only
  rw [List.map_append, List.sum_append]
  simp only [List.map_cons, List.map_nil, List.sum_cons, List.sum_nil]
  omega
theorem entry_none {l : List RNm} {dir : Int} {s : ByteArray} {K : Nat} {r : RFs} (h : Wf r K) (hl : ∀ n ∈ l, n ∈ r.nms) (he : entryP l dir s = 0) : ∀ n ∈ l, ¬ (n.dir = dir ∧ n.name = s) := by
 intro n hn e
 unfold entryP at he
 cases hf : l.find? fun n => decide (n.dir = dir ∧ n.name = s) with
 | none =>
  have := List.find?_eq_none.1 hf n hn
  simp at this
  exact this e.1 e.2
 | some m =>
  rw [hf] at he
  have hm := List.mem_of_find?_eq_some hf
  obtain ⟨_, y, hy, e2⟩ := h.nmI m (hl m hm)
  have := h.rng y hy
  simp at he
  omega
theorem uniq_add {l : List RNm} (hu : l.Pairwise fun a b => ¬ (a.dir = b.dir ∧ a.name = b.name)) {m : RNm} (hn : ∀ n ∈ l, ¬ (n.dir = m.dir ∧ n.name = m.name)) : (l ++ [m]).Pairwise fun a b => ¬ (a.dir = b.dir ∧ a.name = b.name) := by
 rw [List.pairwise_append]
 refine ⟨hu, by simp, fun a ha b hb => ?_⟩
 simp at hb
 subst hb
 exact hn a ha
theorem wf_named (h : Wf r K) (hd : d ∈ r.ins) (hk : d.kind = 2) (hx : x ∈ r.ins) (hkx : x.kind ≠ 2) {s : ByteArray} (hv : validP s = true) (he : entryP r.nms d.id s = 0) (hl : linksN r x < 20) : Wf (namedP r d.id s x.id) (K + 1) := by
 have hx1 : x.id ≠ 1 := fun e => by
  obtain ⟨z, hz, e1, e2, e3, e4⟩ := h.root
  have a := h.byId hx
  rw [e, ← e1, h.byId hz] at a
  rw [← a] at hkx
  exact hkx e3
 have hm : ∀ n, n ∈ (namedP r d.id s x.id).nms ↔ n ∈ r.nms ∨ n = ⟨d.id, s, x.id⟩ := fun n => by unfold namedP; simp
 have hl' := linksN_named r d.id s x.id
 rw [h.byId hx] at hl'
 refine { h.up (Nat.le_succ K) with nmD := fun n hn => ?_, nmI := fun n hn => ?_, nmV := fun n hn => ?_, uniq := ?_, one := fun y hy q1 q2 => ?_, some := fun y hy q => ?_, nmK := ?_, lim := fun y hy => ?_ }
 ·rcases (hm n).1 hn with h1 | rfl
  ·exact h.nmD n h1
  ·exact ⟨d, hd, rfl, hk⟩
 ·rcases (hm n).1 hn with h1 | rfl
  ·exact h.nmI n h1
  ·exact ⟨hx1, x, hx, rfl⟩
 ·rcases (hm n).1 hn with h1 | rfl
  ·exact h.nmV n h1
  ·exact hv
 ·exact uniq_add h.uniq (entry_none h (fun _ hn => hn) he)
 ·unfold namedP
  dsimp only
  rw [List.filter_append, List.map_append, h.one y hy q1 q2]
  have : ¬ x.id = y.id := fun e => by
   have a := h.byId hx
   rw [e, h.byId hy] at a
   rw [a] at q1
   exact hkx q1
  simp [this]
 ·obtain ⟨n, hn, e⟩ := h.some y hy q
  exact ⟨n, (hm n).2 (.inl hn), e⟩
 ·unfold namedP
  have := h.nmK
  simp
  omega
 ·rw [hl']
  have h1 := h.lim y hy
  by_cases q : y.kind = 2
  ·rw [if_pos q, if_neg (fun e => hkx e.2)]; exact h1
  ·rw [if_neg q]
   by_cases e : x.id = y.id
   ·have : x = y := by rw [← h.byId hx, e, h.byId hy]
    subst this
    rw [if_pos rfl]; omega
   ·rw [if_neg e]; exact h1
theorem Wf.uniq_eq (h : Wf r K) {n m : RNm} (hn : n ∈ r.nms) (hm : m ∈ r.nms) (e1 : n.dir = m.dir) (e2 : n.name = m.name) : n = m := by
 obtain ⟨a, ha, ea⟩ := List.getElem_of_mem hn
 obtain ⟨b, hb, eb⟩ := List.getElem_of_mem hm
 have hq := List.pairwise_iff_getElem.1 h.uniq
 rcases Nat.lt_trichotomy a b with hlt | heq | hgt
 ·exact absurd ⟨by rw [ea, eb]; exact e1, by rw [ea, eb]; exact e2⟩ (hq a b ha hb hlt)
 ·subst heq; exact ea.symm.trans eb
 ·exact absurd ⟨by rw [ea, eb]; exact e1.symm, by rw [ea, eb]; exact e2.symm⟩ (hq b a hb ha hgt)
theorem wf_drop (h : Wf r K) {s : ByteArray} (he : entryP r.nms d.id s ≠ 0) (hm : (byIdP r.ins (entryP r.nms d.id s)).kind = 2 → manyP r.nms (byIdP r.ins (entryP r.nms d.id s)).id = 0) : Wf (dropP r d.id s) K := by
 obtain ⟨n0, hn0, e1, e2, e3⟩ := entry_mem he
 obtain ⟨hx1, x, hx, ex⟩ := h.nmI n0 hn0
 have hid : entryP r.nms d.id s = x.id := by rw [← e3, ← ex]
 have hbx : byIdP r.ins x.id = x := h.byId hx
 rw [hid, hbx] at hm
 have hun := linksN_unnamed h hn0
 rw [e1, e2] at hun
 have hsub : ∀ n ∈ (unnamedP r d.id s).nms, n ∈ r.nms ∧ ¬ (n.dir = d.id ∧ n.name = s) := fun n hn => by
  have := List.mem_filter.1 hn
  refine ⟨this.1, ?_⟩
  have h2 := this.2
  rw [Bool.not_eq_true', decide_eq_false_iff_not] at h2
  exact h2
 have hsup : ∀ n ∈ r.nms, n.id ≠ x.id → n ∈ (unnamedP r d.id s).nms := fun n hn q => by
  refine List.mem_filter.2 ⟨hn, ?_⟩
  rw [Bool.not_eq_true', decide_eq_false_iff_not]
  intro e
  have := h.uniq_eq hn hn0 (e.1.trans e1.symm) (e.2.trans e2.symm)
  rw [this] at q
  exact q ex.symm
 have hxe : ∀ y ∈ r.ins, y.id = x.id → y = x := fun y hy e => by rw [← h.byId hy, e, hbx]
 have hfil : ∀ y : RIn, y.id ≠ x.id → (unnamedP r d.id s).nms.filter (fun n => decide (n.id = y.id)) = r.nms.filter (fun n => decide (n.id = y.id)) := fun y hy => by
  unfold unnamedP
  dsimp only
  rw [List.filter_filter]
  apply List.filter_congr
  intro n hn
  by_cases q : n.id = y.id
  ·have := (List.mem_filter.1 (hsup n hn (fun e => hy (q.symm.trans e)))).2
   simp only [q, decide_true, Bool.true_and]
   exact this
  ·simp [q]
 have hlen : (unnamedP r d.id s).nms.length ≤ r.nms.length := List.length_filter_le _ _
 have hle : ∀ y, linksN (unnamedP r d.id s) y ≤ linksN r y := fun y => by have := hun y; omega
 by_cases hg : x.kind = 2 ∨ linksN (unnamedP r d.id s) x = 0
 ·rw [show dropP r d.id s = goneP (unnamedP r d.id s) x.id by unfold dropP; rw [hid, hbx, if_pos hg]]
  have hnx : ∀ n ∈ (unnamedP r d.id s).nms, n.id ≠ x.id := fun n hn e => by
   obtain ⟨a, b⟩ := hsub n hn
   rcases hg with q | q
   ·have := h.one_name hx q (by rw [ex]; exact hx1) a hn0 e ex.symm
    exact b ⟨this.1.trans e1, this.2.trans e2⟩
   ·by_cases q2 : x.kind = 2
    ·have := h.one_name hx q2 (by rw [ex]; exact hx1) a hn0 e ex.symm
     exact b ⟨this.1.trans e1, this.2.trans e2⟩
    ·unfold linksN at q
     rw [if_neg q2] at q
     rw [List.countP_eq_zero] at q
     have := q n hn
     simp [e] at this
  have hnd : ∀ n ∈ r.nms, x.kind = 2 → n.dir ≠ x.id := fun n hn q e => by
   have := hm q
   unfold manyP at this
   rw [List.countP_eq_zero] at this
   have := this n hn
   simp [e] at this
  have hgo : ∀ y, linksN (goneP (unnamedP r d.id s) x.id) y = linksN (unnamedP r d.id s) y := linksN_gone fun n hn hni => absurd hni (hnx n hn)
  have hmi : ∀ y, y ∈ (goneP (unnamedP r d.id s) x.id).ins ↔ y ∈ r.ins ∧ y.id ≠ x.id := fun y => by unfold goneP unnamedP; simp
  have hdir : ∀ p ∈ r.ins, p.kind = 2 → (∃ n ∈ r.nms, n.dir = p.id) → p.id ≠ x.id := fun p hp q ⟨n, hn, e⟩ e' => by
   have := hxe p hp e'
   subst this
   exact hnd n hn q e
  have hrt : ∀ z ∈ r.ins, z.id = 1 → z.id ≠ x.id := fun z _ e e' => hx1 (by rw [← ex, ← e', e])
  refine { ids := h.ids.sublist (List.filter_sublist.map _), rng := fun y hy => h.rng y ((hmi y).1 hy).1, gen := fun y hy => h.gen y ((hmi y).1 hy).1, genK := h.genK, genL := h.genL, kind := fun y hy => h.kind y ((hmi y).1 hy).1, root := ?_, nmD := fun n hn => ?_, nmI := fun n hn => ?_, nmV := fun n hn => h.nmV n (hsub n hn).1, uniq := h.uniq.filter _, one := fun y hy q1 q2 => ?_, some := fun y hy q => ?_, par := fun y hy q => ?_, tree := ?_, nmK := Nat.le_trans hlen h.nmK, lim := fun y hy => ?_, file := fun y hy => h.file y ((hmi y).1 hy).1, link := fun y hy => h.link y ((hmi y).1 hy).1, rm := h.rm, sp := ?_ }
  ·obtain ⟨z, hz, a1, a2, a3, a4⟩ := h.root
   exact ⟨z, (hmi z).2 ⟨hz, hrt z hz a1⟩, a1, a2, a3, a4⟩
  ·obtain ⟨p, hp, a1, a2⟩ := h.nmD n (hsub n hn).1
   exact ⟨p, (hmi p).2 ⟨hp, hdir p hp a2 ⟨n, (hsub n hn).1, a1.symm⟩⟩, a1, a2⟩
  ·obtain ⟨a0, p, hp, a1⟩ := h.nmI n (hsub n hn).1
   exact ⟨a0, p, (hmi p).2 ⟨hp, by rw [a1]; exact hnx n hn⟩, a1⟩
  ·obtain ⟨hy1, hy2⟩ := (hmi y).1 hy
   show ((unnamedP r d.id s).nms.filter fun n => decide (n.id = y.id)).map (·.dir) = _
   rw [hfil y hy2]
   exact h.one y hy1 q1 q2
  ·obtain ⟨hy1, hy2⟩ := (hmi y).1 hy
   obtain ⟨n, hn, e⟩ := h.some y hy1 q
   exact ⟨n, hsup n hn (by rw [e]; exact hy2), e⟩
  ·obtain ⟨hy1, hy2⟩ := (hmi y).1 hy
   obtain ⟨p, hp, a1, a2⟩ := h.par y hy1 q
   refine ⟨p, (hmi p).2 ⟨hp, ?_⟩, a1, a2⟩
   by_cases q1 : y.id = 1
   ·obtain ⟨z, hz, b1, b2, b3, b4⟩ := h.root
    have : y = z := by rw [← h.byId hy1, q1, ← b1, h.byId hz]
    subst this
    exact hrt p hp (by rw [a1, b4])
   ·have ho := h.one y hy1 q q1
    have : y.parent ∈ (r.nms.filter fun n => decide (n.id = y.id)).map (·.dir) := by rw [ho]; simp
    obtain ⟨n, hn, e⟩ := List.mem_map.1 this
    exact hdir p hp a2 ⟨n, (List.mem_filter.1 hn).1, e.trans a1.symm⟩
  ·obtain ⟨ρ, hρ⟩ := h.tree
   exact ⟨ρ, fun y hy => hρ y ((hmi y).1 hy).1⟩
  ·rw [hgo]
   exact Nat.le_trans (hle y) (h.lim y ((hmi y).1 hy).1)
  ·have := sum_filter (fun y : RIn => y.On.length) (fun y => decide (y.id ≠ x.id)) r.ins
   have h2 := h.sp
   show (((((r.ins.filter fun y => decide (y.id ≠ x.id)).map fun y => y.On.length).sum : Nat)) : Int) ≤ r.room
   omega
 ·rw [show dropP r d.id s = unnamedP r d.id s by unfold dropP; rw [hid, hbx, if_neg hg]]
  have hk2 : x.kind ≠ 2 := fun e => hg (.inl e)
  have hl0 : linksN (unnamedP r d.id s) x ≠ 0 := fun e => hg (.inr e)
  refine { h with nmD := fun n hn => h.nmD n (hsub n hn).1, nmI := fun n hn => h.nmI n (hsub n hn).1, nmV := fun n hn => h.nmV n (hsub n hn).1, uniq := h.uniq.filter _, one := fun y hy q1 q2 => ?_, some := fun y hy q => ?_, nmK := Nat.le_trans hlen h.nmK, lim := fun y hy => Nat.le_trans (hle y) (h.lim y hy) }
  ·have hyx : y.id ≠ x.id := fun e => hk2 (by rw [← hxe y hy e]; exact q1)
   rw [hfil y hyx]
   exact h.one y hy q1 q2
  ·by_cases e : y.id = x.id
   ·have := hxe y hy e
    subst this
    unfold linksN at hl0
    rw [if_neg hk2] at hl0
    have := List.countP_pos_iff.1 (Nat.pos_of_ne_zero hl0)
    obtain ⟨n, hn, q3⟩ := this
    exact ⟨n, hn, by simpa using q3⟩
   ·obtain ⟨n, hn, e4⟩ := h.some y hy q
    exact ⟨n, hsup n hn (by rw [e4]; exact e), e4⟩
end
end Go.Proofs.YtpcjmefchclhhaaGreat
namespace Go.Proofs.YtpcjmefchclhhaaGreat
open Go.RowKit Go.MapKept
section
variable {r : RFs} {K : Nat} {x d : RIn}
theorem freeP_ok (h : Wf r K) (hc : r.ins.length < 200) : 1 ≤ freeP r.ins ∧ freeP r.ins ≤ 200 ∧ ∀ y ∈ r.ins, y.id ≠ freeP r.ins := by
 have hex : ∃ j : Nat, j < 201 ∧ (byIdP r.ins ((j : Int) + 1)).id = 0 := Classical.byContradiction fun hn => by
  have := ids_le h (j := 201) (fun k hk e => hn ⟨k, hk, e⟩)
  omega
 have hmin : ∃ j : Nat, (j < 201 ∧ (byIdP r.ins ((j : Int) + 1)).id = 0) ∧ ∀ k, k < j → (byIdP r.ins ((k : Int) + 1)).id ≠ 0 := by
  obtain ⟨j, hj⟩ := hex
  induction j using Nat.strongRecOn with
  | ind j ih =>
   by_cases q : ∃ k, k < j ∧ (byIdP r.ins ((k : Int) + 1)).id = 0
   ·obtain ⟨k, hk, e⟩ := q
    exact ih k hk ⟨by omega, e⟩
   ·exact ⟨j, hj, fun k hk e => q ⟨k, hk, e⟩⟩
 obtain ⟨j, ⟨hj, h0⟩, hl⟩ := hmin
 have hle := ids_le h hl
 rw [freeP_of hj h0 hl]
 refine ⟨by omega, by omega, fun y hy e => ?_⟩
 have := h.byId hy
 rw [e] at this
 rw [this] at h0
 exact h.ne0 hy h0
theorem size0 {s : ByteArray} (h : s.size = 0) : s = noStr := by
 obtain ⟨a⟩ := s
 have : a = #[] := Array.eq_empty_of_size_eq_zero h
 rw [this]
 rfl
theorem wf_make (h : Wf r K) (hd : d ∈ r.ins) (hk : d.kind = 2) {s : ByteArray} {m : RMk} {g : Int} (hv : validP s = true) (hr : rightB m = true) (he : entryP r.nms d.id s = 0) (hl : m.kind = 2 → linksN r d < 20) (hc : r.ins.length < 200) :
  Wf (namedP (addP r (newIn r (d.id, g) m)) d.id s (freeP r.ins)) (K + 1) := by
 obtain ⟨f1, f2, f3⟩ := freeP_ok h hc
 unfold rightB at hr
 obtain ⟨r1, r2, r3, r4, r5, r6, r7, r8⟩ := of_decide_eq_true hr
 obtain ⟨x, hx⟩ : ∃ x, newIn r (d.id, g) m = x := ⟨_, rfl⟩
 have xi : x.id = freeP r.ins := by rw [← hx]; rfl
 have xg : x.gen = gensAt r.gens x.id + 1 := by rw [xi, ← hx]; rfl
 have xk : x.kind = m.kind := by rw [← hx]; rfl
 have xp : x.parent = d.id := by rw [← hx]; rfl
 have xo : x.B = [] ∧ x.On = [] := by rw [← hx]; exact ⟨rfl, rfl⟩
 have xt : x.target = m.target := by rw [← hx]; rfl
 rw [hx, ← xi]
 rw [← xi] at f1 f2 f3
 clear hx
 have hrt : x.id ≠ 1 := fun e => by
  obtain ⟨z, hz, a, _⟩ := h.root
  exact f3 z hz (a.trans e.symm)
 have hm : ∀ y, y ∈ (namedP (addP r x) d.id s x.id).ins ↔ y ∈ r.ins ∨ y = x := fun y => by unfold namedP addP; simp
 have hn : ∀ n, n ∈ (namedP (addP r x) d.id s x.id).nms ↔ n ∈ r.nms ∨ n = ⟨d.id, s, x.id⟩ := fun n => by unfold namedP addP; simp
 have hg : ∀ j, gensAt (namedP (addP r x) d.id s x.id).gens j = if j = x.id then gensAt r.gens x.id + 1 else gensAt r.gens j := gensAt_up r.gens (by omega)
 have hnone : ∀ n ∈ r.nms, n.id ≠ x.id := fun n hn e => by
  obtain ⟨_, z, hz, a⟩ := h.nmI n hn
  exact f3 z hz (a.trans e)
 have hbd := gens_bd h x.id
 refine { ids := ?_, rng := fun y hy => ?_, gen := fun y hy => ?_, genK := fun g hg => ?_, genL := ?_, kind := fun y hy => ?_, root := ?_, nmD := fun n hn' => ?_, nmI := fun n hn' => ?_, nmV := fun n hn' => ?_, uniq := ?_, one := fun y hy q1 q2 => ?_, some := fun y hy q => ?_, par := fun y hy q => ?_, tree := ?_, nmK := ?_, lim := fun y hy => ?_, file := fun y hy q => ?_, link := fun y hy q => ?_, rm := h.rm, sp := ?_ }
 ·unfold namedP addP
  dsimp only
  rw [List.map_append, List.nodup_append]
  refine ⟨h.ids, by simp, fun a ha b hb => ?_⟩
  obtain ⟨y, hy, rfl⟩ := List.mem_map.1 ha
  simp at hb
  rw [hb]
  exact f3 y hy
 ·rcases (hm y).1 hy with h1 | rfl
  ·exact h.rng y h1
  ·exact ⟨f1, f2⟩
 ·rw [hg]
  rcases (hm y).1 hy with h1 | rfl
  ·rw [if_neg (f3 y h1)]; exact h.gen y h1
  ·rw [if_pos rfl]; exact ⟨xg, by omega⟩
 ·have hg : g ∈ gensUp r.gens x.id := hg
  unfold gensUp at hg
  rcases List.mem_or_eq_of_mem_set hg with h1 | h1
  ·rcases List.mem_append.1 h1 with h2 | h2
   ·have := h.genK g h2; omega
   ·have := (List.mem_replicate.1 h2).2; omega
  ·omega
 ·show (gensUp r.gens x.id).length ≤ 201
  unfold gensUp
  have := h.genL
  simp
  omega
 ·rcases (hm y).1 hy with h1 | rfl
  ·exact h.kind y h1
  ·omega
 ·obtain ⟨z, hz, a⟩ := h.root
  exact ⟨z, (hm z).2 (.inl hz), a⟩
 ·rcases (hn n).1 hn' with h1 | rfl
  ·obtain ⟨p, hp, a⟩ := h.nmD n h1
   exact ⟨p, (hm p).2 (.inl hp), a⟩
  ·exact ⟨d, (hm d).2 (.inl hd), rfl, hk⟩
 ·rcases (hn n).1 hn' with h1 | rfl
  ·obtain ⟨a0, p, hp, a⟩ := h.nmI n h1
   exact ⟨a0, p, (hm p).2 (.inl hp), a⟩
  ·exact ⟨hrt, x, (hm x).2 (.inr rfl), rfl⟩
 ·rcases (hn n).1 hn' with h1 | rfl
  ·exact h.nmV n h1
  ·exact hv
 ·exact uniq_add h.uniq (entry_none h (fun _ hn => hn) he)
 ·show ((r.nms ++ [(⟨d.id, s, x.id⟩ : RNm)]).filter fun n : RNm => decide (n.id = y.id)).map (fun n : RNm => n.dir) = _
  rw [List.filter_append, List.map_append]
  rcases (hm y).1 hy with h1 | rfl
  ·rw [h.one y h1 q1 q2]
   have : ¬ x.id = y.id := fun e => f3 y h1 e.symm
   simp [this]
  ·rw [List.filter_eq_nil_iff.2 (fun n hn' => by simpa using hnone n hn')]
   simp [xp]
 ·rcases (hm y).1 hy with h1 | rfl
  ·obtain ⟨n, hn', e⟩ := h.some y h1 q
   exact ⟨n, (hn n).2 (.inl hn'), e⟩
  ·exact ⟨_, (hn _).2 (.inr rfl), rfl⟩
 ·rcases (hm y).1 hy with h1 | rfl
  ·obtain ⟨p, hp, a⟩ := h.par y h1 q
   exact ⟨p, (hm p).2 (.inl hp), a⟩
  ·exact ⟨d, (hm d).2 (.inl hd), xp.symm, hk⟩
 ·obtain ⟨ρ, hρ⟩ := h.tree
  refine ⟨fun j => if j = x.id then ρ d.id + 1 else ρ j, fun y hy q1 q2 => ?_⟩
  dsimp only
  rcases (hm y).1 hy with h1 | rfl
  ·obtain ⟨p, hp, a, _⟩ := h.par y h1 q1
   rw [if_neg (f3 y h1), ← a, if_neg (f3 p hp), a]
   exact hρ y h1 q1 q2
  ·rw [if_pos rfl, xp, if_neg (f3 d hd)]
   omega
 ·have := h.nmK
  show (r.nms ++ [_]).length ≤ _
  simp
  omega
 ·rcases (hm y).1 hy with h1 | rfl
  ·rw [linksN_make h f3 s h1]
   have := h.lim y h1
   split
   ·rename_i q
    have e : d = y := by rw [← h.byId hd, q.2.1, h.byId h1]
    have := hl (xk.symm.trans q.2.2)
    rw [e] at this
    omega
   ·omega
  ·rw [linksN_new h f3 hd s]
   split <;> omega
 ·rcases (hm y).1 hy with h1 | rfl
  ·exact h.file y h1 q
  ·exact xo
 ·rcases (hm y).1 hy with h1 | rfl
  ·exact h.link y h1 q
  ·rw [xt]; exact size0 (r8 (fun e => q (xk.trans e)))
 ·have := h.sp
  show ((((r.ins ++ [x]).map fun y => y.On.length).sum : Nat) : Int) ≤ r.room
  rw [List.map_append, List.sum_append]
  simp [xo.2]
  exact this
end
end Go.Proofs.YtpcjmefchclhhaaGreat
namespace Go.Proofs.YtpcjmefchclhhaaGreat
open Go.RowKit Go.MapKept
def upP (x : RIn) (q : Int) : RIn := { x with parent := q }
def movedP (r : RFs) (p : Int) (s : ByteArray) (q : Int) (t : ByteArray) (x : RIn) : RFs :=
 if x.kind = 2 then setP (namedP (unnamedP r p s) q t x.id) (upP x q) else namedP (unnamedP r p s) q t x.id
section
variable {r : RFs} {K : Nat} {x p q : RIn} {s t : ByteArray}
theorem moved_nms (r : RFs) (p : Int) (s : ByteArray) (q : Int) (t : ByteArray) (x : RIn) : (movedP r p s q t x).nms = (r.nms.filter fun n => !decide (n.dir = p ∧ n.name = s)) ++ [⟨q, t, x.id⟩] := by
 unfold movedP
 split <;> rfl
theorem moved_mem (r : RFs) (x : RIn) (p : Int) (s : ByteArray) (q : Int) (t : ByteArray) (y : RIn) : y ∈ (movedP r p s q t x).ins ↔ y ∈ r.ins ∧ (x.kind = 2 → y.id ≠ x.id) ∨ x.kind = 2 ∧ y = upP x q := by
 unfold movedP
 by_cases hk : x.kind = 2
 ·rw [if_pos hk, setP_mem]
  simp only [hk, true_and, forall_const]
  exact Iff.rfl
 ·rw [if_neg hk]
  simp [hk, namedP, unnamedP]
theorem moved_byId (r : RFs) (p : Int) (s : ByteArray) (q : Int) (t : ByteArray) (hx : byIdP r.ins x.id = x) (j : Int) : (byIdP (movedP r p s q t x).ins j).kind = (byIdP r.ins j).kind := by
 unfold movedP
 by_cases hk : x.kind = 2
 ·rw [if_pos hk, byIdP_set]
  show (if j = x.id then _ else _ : RIn).kind = _
  by_cases e : j = x.id
  ·rw [if_pos e, e, hx]; rfl
  ·rw [if_neg e]; rfl
 ·rw [if_neg hk]; rfl
theorem moved_links (h : Wf r K) (hx : x ∈ r.ins) {n0 : RNm} (hn0 : n0 ∈ r.nms) (e3 : n0.id = x.id) (q : Int) (t : ByteArray) {y y' : RIn} (hi : y'.id = y.id) (hk : y'.kind = y.kind) :
  linksN (movedP r n0.dir n0.name q t x) y' + (if y.kind = 2 ∧ x.kind = 2 ∧ n0.dir = y.id then 1 else 0) = linksN r y + (if y.kind = 2 ∧ x.kind = 2 ∧ q = y.id then 1 else 0) := by
 have h1 : linksN (movedP r n0.dir n0.name q t x) y' = linksN (namedP (unnamedP r n0.dir n0.name) q t x.id) y := by
  refine linksN_congr hi hk (moved_nms r n0.dir n0.name q t x) fun n hn => ?_
  rw [moved_byId r n0.dir n0.name q t (h.byId hx)]
  exact Iff.rfl
 have h2 := linksN_named (unnamedP r n0.dir n0.name) q t x.id y
 have h3 := linksN_unnamed h hn0 y
 have hb : byIdP (unnamedP r n0.dir n0.name).ins x.id = x := h.byId hx
 rw [hb] at h2
 rw [e3, h.byId hx] at h3
 rw [h1, h2]
 by_cases k1 : y.kind = 2
 ·by_cases k2 : x.kind = 2
  ·simp only [k1, k2, true_and, and_true, if_true] at h3 ⊢
   omega
  ·simp only [k1, k2, false_and, and_false, if_false, if_true] at h3 ⊢
   omega
 ·simp only [k1, false_and, if_false] at h3 ⊢
  omega
theorem under_step {r : RFs} {top id : Int} (h1 : id ≠ 1) (hne : id ≠ top) : Under r top id ↔ Under r top (byIdP r.ins id).parent := by
 constructor
 ·intro hu
  cases hu with
  | refl => exact absurd rfl hne
  | step _ h2 => exact h2
 ·exact fun hu => Under.step h1 hu
theorem under_iff (h : Wf r K) {y : RIn} (hy : y ∈ r.ins) (h1 : y.id ≠ 1) (hne : y.id ≠ x.id) : Under r x.id y.id ↔ Under r x.id y.parent := by
 rw [under_step h1 hne, h.byId hy]
open Classical in
theorem wf_moved (h : Wf r K) (hx : x ∈ r.ins) (hq : q ∈ r.ins) (hkq : q.kind = 2) {n0 : RNm} (hn0 : n0 ∈ r.nms) (e1 : n0.dir = p.id) (e2 : n0.name = s) (e3 : n0.id = x.id) (hv : validP t = true) (he : entryP r.nms q.id t = 0)
  (hu : x.kind = 2 → ¬ Under r x.id q.id) (hl : x.kind = 2 → p.id ≠ q.id → linksN r q < 20) : Wf (movedP r p.id s q.id t x) K := by
 have hx1 : x.id ≠ 1 := by rw [← e3]; exact (h.nmI n0 hn0).1
 have hlk := fun y y' => moved_links h hx hn0 e3 q.id t (y := y) (y' := y')
 rw [e1, e2] at hlk
 have hmem := moved_mem r x p.id s q.id t
 have hnm := moved_nms r p.id s q.id t x
 generalize hr' : movedP r p.id s q.id t x = r' at *
 have hgens : r'.gens = r.gens ∧ r'.room = r.room := by rw [← hr']; unfold movedP; split <;> exact ⟨rfl, rfl⟩
 have hqx : x.kind = 2 → q.id ≠ x.id := fun k e => hu k (by rw [e]; exact Under.refl)
 have hxe : ∀ y ∈ r.ins, y.id = x.id → y = x := fun y hy e => by rw [← h.byId hy, e, h.byId hx]
 have hold : ∀ y ∈ r'.ins, ∃ z ∈ r.ins, z.id = y.id ∧ z.gen = y.gen ∧ z.kind = y.kind ∧ z.target = y.target ∧ z.B = y.B ∧ z.On = y.On ∧ (y.parent = z.parent ∧ (x.kind = 2 → z.id ≠ x.id) ∨ y.parent = q.id ∧ z = x ∧ x.kind = 2) := fun y hy => by
  rcases (hmem y).1 hy with ⟨h1, h2⟩ | ⟨h1, rfl⟩
  ·exact ⟨y, h1, rfl, rfl, rfl, rfl, rfl, rfl, .inl ⟨rfl, h2⟩⟩
  ·exact ⟨x, hx, rfl, rfl, rfl, rfl, rfl, rfl, .inr ⟨rfl, rfl, h1⟩⟩
 have hnew : ∀ z ∈ r.ins, ∃ y ∈ r'.ins, z.id = y.id ∧ z.gen = y.gen ∧ z.kind = y.kind ∧ (z.id ≠ x.id → z.parent = y.parent) := fun z hz => by
  by_cases hk : x.kind = 2
  ·by_cases e : z.id = x.id
   ·have := hxe z hz e
    subst this
    exact ⟨upP z q.id, (hmem _).2 (.inr ⟨hk, rfl⟩), rfl, rfl, rfl, fun q => absurd rfl q⟩
   ·exact ⟨z, (hmem _).2 (.inl ⟨hz, fun _ => e⟩), rfl, rfl, rfl, fun _ => rfl⟩
  ·exact ⟨z, (hmem _).2 (.inl ⟨hz, fun e => absurd e hk⟩), rfl, rfl, rfl, fun _ => rfl⟩
 have hnn : ∀ n, n ∈ r'.nms ↔ n ∈ r.nms ∧ ¬ (n.dir = p.id ∧ n.name = s) ∨ n = ⟨q.id, t, x.id⟩ := fun n => by
  rw [hnm, List.mem_append, List.mem_filter, List.mem_singleton, Bool.not_eq_true', decide_eq_false_iff_not]
 have hsup : ∀ n ∈ r.nms, n.id ≠ x.id → n ∈ r'.nms := fun n hn qe => (hnn n).2 (.inl ⟨hn, fun e => qe (by rw [h.uniq_eq hn hn0 (e.1.trans e1.symm) (e.2.trans e2.symm)]; exact e3)⟩)
 have hfil : ∀ y : RIn, y.id ≠ x.id → r'.nms.filter (fun n => decide (n.id = y.id)) = r.nms.filter (fun n => decide (n.id = y.id)) := fun y hy => by
  rw [hnm, List.filter_append, List.filter_filter]
  have : ¬ x.id = y.id := fun e => hy e.symm
  simp only [List.filter_cons, List.filter_nil, this, decide_false, Bool.false_eq_true, if_false, List.append_nil]
  apply List.filter_congr
  intro n hn
  by_cases qe : n.id = y.id
  ·have : ¬ (n.dir = p.id ∧ n.name = s) := fun e => hy (by rw [← qe, h.uniq_eq hn hn0 (e.1.trans e1.symm) (e.2.trans e2.symm)]; exact e3)
   simp only [qe, decide_true, Bool.true_and, this, decide_false, Bool.not_false]
  ·simp [qe]
 refine { ids := ?_, rng := fun y hy => ?_, gen := fun y hy => ?_, genK := by rw [hgens.1]; exact h.genK, genL := by rw [hgens.1]; exact h.genL, kind := fun y hy => ?_, root := ?_, nmD := fun n hn => ?_, nmI := fun n hn => ?_, nmV := fun n hn => ?_, uniq := ?_, one := fun y hy q1 q2 => ?_, some := fun y hy k => ?_, par := fun y hy k => ?_, tree := ?_, nmK := ?_, lim := fun y hy => ?_, file := fun y hy k => ?_, link := fun y hy k => ?_, rm := by rw [hgens.2]; exact h.rm, sp := ?_ }
 ·rw [← hr']
  unfold movedP
  split
  ·exact setP_ids (r := r) h (upP x q.id)
  ·exact h.ids
 ·obtain ⟨z, hz, a1, a2, a3, a4, a5, a6, a7⟩ := hold y hy; rw [← a1]; exact h.rng z hz
 ·obtain ⟨z, hz, a1, a2, a3, a4, a5, a6, a7⟩ := hold y hy; rw [← a1, ← a2, hgens.1]; exact h.gen z hz
 ·obtain ⟨z, hz, a1, a2, a3, a4, a5, a6, a7⟩ := hold y hy; rw [← a3]; exact h.kind z hz
 ·obtain ⟨z, hz, b1, b2, b3, b4⟩ := h.root
  obtain ⟨y, hy, a1, a2, a3, a4⟩ := hnew z hz
  exact ⟨y, hy, a1 ▸ b1, a2 ▸ b2, a3 ▸ b3, by rw [← a4 (fun e => hx1 (e ▸ b1))]; exact b4⟩
 ·rcases (hnn n).1 hn with ⟨h1, _⟩ | rfl
  ·obtain ⟨z, hz, b1, b2⟩ := h.nmD n h1
   obtain ⟨y, hy, a1, a2, a3, a4⟩ := hnew z hz
   exact ⟨y, hy, a1 ▸ b1, a3 ▸ b2⟩
  ·obtain ⟨y, hy, a1, a2, a3, a4⟩ := hnew q hq
   exact ⟨y, hy, a1.symm, a3 ▸ hkq⟩
 ·rcases (hnn n).1 hn with ⟨h1, _⟩ | rfl
  ·obtain ⟨b0, z, hz, b1⟩ := h.nmI n h1
   obtain ⟨y, hy, a1, a2, a3, a4⟩ := hnew z hz
   exact ⟨b0, y, hy, a1 ▸ b1⟩
  ·obtain ⟨y, hy, a1, a2, a3, a4⟩ := hnew x hx
   exact ⟨hx1, y, hy, a1.symm⟩
 ·rcases (hnn n).1 hn with ⟨h1, _⟩ | rfl
  ·exact h.nmV n h1
  ·exact hv
 ·rw [hnm]
  exact uniq_add (h.uniq.filter _) (fun n hn => entry_none h (fun _ hn => hn) he n (List.mem_filter.1 hn).1)
 ·obtain ⟨z, hz, a1, a2, a3, a4, a5, a6, a7⟩ := hold y hy
  by_cases e : y.id = x.id
  ·have hzx : z = x := hxe z hz (a1.trans e)
   subst hzx
   have hkz : z.kind = 2 := a3.trans q1
   rcases a7 with ⟨_, b⟩ | ⟨b, _, _⟩
   ·exact absurd rfl (b hkz)
   ·rw [hnm, List.filter_append, List.filter_filter, b]
    have : (r.nms.filter fun n => decide (n.id = y.id) && !decide (n.dir = p.id ∧ n.name = s)) = [] := by
     rw [List.filter_eq_nil_iff]
     intro n hn
     by_cases qe : n.id = z.id
     ·have h9 := h.one_name hz hkz hx1 hn hn0 qe e3
      have : n.dir = p.id ∧ n.name = s := ⟨h9.1.trans e1, h9.2.trans e2⟩
      simp [this]
     ·rw [e]; simp [qe]
    rw [this]
    simp [e]
  ·rw [hfil y e]
   have hzx : z.id ≠ x.id := fun e' => e (a1 ▸ e')
   have := h.one z hz (a3.trans q1) (fun e' => q2 (a1 ▸ e'))
   rw [a1] at this
   rw [this]
   rcases a7 with ⟨b, _⟩ | ⟨_, b, _⟩
   ·rw [b]
   ·exact absurd (by rw [b]) hzx
 ·obtain ⟨z, hz, a1, a2, a3, a4, a5, a6, a7⟩ := hold y hy
  by_cases e : y.id = x.id
  ·exact ⟨_, (hnn _).2 (.inr rfl), e.symm⟩
  ·obtain ⟨n, hn, b⟩ := h.some z hz (fun e' => k (a3 ▸ e'))
   exact ⟨n, hsup n hn (by rw [b, a1]; exact e), b.trans a1⟩
 ·obtain ⟨z, hz, a1, a2, a3, a4, a5, a6, a7⟩ := hold y hy
  rcases a7 with ⟨b, _⟩ | ⟨b, _, _⟩
  ·obtain ⟨w, hw, c1, c2⟩ := h.par z hz (a3.trans k)
   obtain ⟨w', hw', d1, d2, d3, d4⟩ := hnew w hw
   exact ⟨w', hw', by rw [← d1, c1, b], d3 ▸ c2⟩
  ·obtain ⟨w', hw', d1, d2, d3, d4⟩ := hnew q hq
   exact ⟨w', hw', by rw [← d1, b], d3 ▸ hkq⟩
 ·obtain ⟨ρ, hρ⟩ := h.tree
  by_cases hk : x.kind = 2
  ·refine ⟨fun j => if Under r x.id j then ρ j + (ρ q.id + 1) else ρ j, fun y hy q1 q2 => ?_⟩
   obtain ⟨z, hz, a1, a2, a3, a4, a5, a6, a7⟩ := hold y hy
   rw [← a1] at q2 ⊢
   dsimp only
   rcases a7 with ⟨b, b'⟩ | ⟨b, rfl, _⟩
   ·have hz1 := hρ z hz (a3.trans q1) q2
    have hui := under_iff (x := x) h hz q2 (b' hk)
    rw [b]
    by_cases u : Under r x.id z.id
    ·rw [if_pos u, if_pos (hui.1 u)]; omega
    ·rw [if_neg u, if_neg (fun u' => u (hui.2 u'))]; exact hz1
   ·rw [b, if_neg (hu hk), if_pos Under.refl]; omega
  ·refine ⟨ρ, fun y hy q1 q2 => ?_⟩
   obtain ⟨z, hz, a1, a2, a3, a4, a5, a6, a7⟩ := hold y hy
   rcases a7 with ⟨b, _⟩ | ⟨_, _, b⟩
   ·rw [b, ← a1]; exact hρ z hz (a3.trans q1) (fun e => q2 (a1 ▸ e))
   ·exact absurd b hk
 ·have h1 := countP_unnamed h.uniq hn0 e1 e2 (fun _ => true)
  have h2 := h.nmK
  rw [hnm]
  simp only [List.countP_true, if_true] at h1
  simp only [List.length_append, List.length_cons, List.length_nil]
  omega
 ·obtain ⟨z, hz, a1, a2, a3, a4, a5, a6, a7⟩ := hold y hy
  have h1 := hlk z y a1.symm a3.symm
  have h2 := h.lim z hz
  by_cases c1 : z.kind = 2 ∧ x.kind = 2 ∧ q.id = z.id
  ·have hqz : q = z := by rw [← h.byId hq, c1.2.2, h.byId hz]
   by_cases c2 : p.id = z.id
   ·rw [if_pos c1, if_pos ⟨c1.1, c1.2.1, c2⟩] at h1; omega
   ·have := hl c1.2.1 (fun e => c2 (e.trans c1.2.2))
    rw [if_pos c1] at h1
    rw [hqz] at this
    omega
  ·rw [if_neg c1] at h1; omega
 ·obtain ⟨z, hz, a1, a2, a3, a4, a5, a6, a7⟩ := hold y hy
  rw [← a5, ← a6]; exact h.file z hz (fun e => k (a3 ▸ e))
 ·obtain ⟨z, hz, a1, a2, a3, a4, a5, a6, a7⟩ := hold y hy
  rw [← a4]; exact h.link z hz (fun e => k (a3 ▸ e))
 ·rw [hgens.2, ← hr']
  have h1 := h.sp
  have h2 := sum_drop h.ids hx (fun y => y.On.length)
  unfold movedP
  split
  ·unfold setP namedP unnamedP upP
   dsimp only
   rw [List.map_append, List.sum_append]
   simp only [List.map_cons, List.map_nil, List.sum_cons, List.sum_nil]
   omega
  ·exact h1
end
end Go.Proofs.YtpcjmefchclhhaaGreat
namespace Go.Proofs.YtpcjmefchclhhaaGreat
open Go.RowKit Go.MapKept
theorem NodeR.ne {w : World} {r : RFs} {x : RIn} {n : Nd} (h : NodeR w r x n) (hk : x.kind = 2) : n.big = true ∧ n.b ≠ n.m ∧ n.b ≠ n.blk ∧ n.m ≠ n.blk :=
 ⟨by rw [h.big, hk]; rfl, fun e => map_ne (h.dir hk).2 (h.dir hk).1 e.symm, blk_ne (h.dir hk).1 h.head (by decide), map_ne (h.dir hk).2 h.head⟩
theorem FsN.uniq {w : World} {f mi mg K : Nat} {r : RFs} {N : List Nd} (h : FsN w f mi mg r N) (hW : Wf r K) {x y : RIn} {n : Nd} (hx : x ∈ r.ins) (hrx : NodeR w r x n) (hy : y ∈ r.ins) (hry : NodeR w r y n) : x = y := by
 have _ := h
 rw [← hW.byId hx, ← hrx.id, hry.id, hW.byId hy]
theorem moved_fs {w w' : World} {f mi mg K : Nat} {r : RFs} {N : List Nd} (h : FsN w f mi mg r N) (hW : Wf r K) {x p q : RIn} {nx np nq : Nd} (hx : x ∈ r.ins) (hnx : nx ∈ N) (hrx : NodeR w r x nx) (hp : p ∈ r.ins) (hkp : p.kind = 2) (hnp : np ∈ N) (hrp : NodeR w r p np) (hq : q ∈ r.ins) (hkq : q.kind = 2) (hnq : nq ∈ N) (hrq : NodeR w r q nq)
  {s : ByteArray} {n0 : RNm} (hn0 : n0 ∈ r.nms) (e1 : n0.dir = p.id) (e2 : n0.name = s) (e3 : n0.id = x.id) (xp : x.id ≠ p.id) (xq : x.id ≠ q.id) {t : ByteArray}
  (kk : ∀ k, k < w.heap.size → k ≠ np.m → k ≠ nq.m → k ≠ np.blk → k ≠ nq.blk → (x.kind = 2 → k ≠ nx.b) → w'.heap[k]? = w.heap[k]?)
  (hmp : MapB w' np.m strK intK (namesP (movedP r p.id s q.id t x).nms p.id)) (hmq : MapB w' nq.m strK intK (namesP (movedP r p.id s q.id t x).nms q.id))
  (hbp : w'.heap[np.blk]? = some (.cells (inoC p (linksN (movedP r p.id s q.id t x) p) np) 73 (0, 0))) (hbq : w'.heap[nq.blk]? = some (.cells (inoC q (linksN (movedP r p.id s q.id t x) q) nq) 73 (0, 0)))
  (hxb : x.kind = 2 → w'.heap[nx.b]? = some (.cells #[.map (some nx.m), .int .i64 q.id] 71 (0, 0))) : FsN w' f mi mg (movedP r p.id s q.id t x) N := by
 have hlk := fun y y' => moved_links hW hx hn0 e3 q.id t (y := y) (y' := y')
 rw [e1, e2] at hlk
 have hmem := moved_mem r x p.id s q.id t
 have hnm := moved_nms r p.id s q.id t x
 have hnames : ∀ i, i ≠ p.id → i ≠ q.id → namesP (movedP r p.id s q.id t x).nms i = namesP r.nms i := fun i a b => by
  rw [hnm, namesP_named, if_neg b, namesP_unnamed, if_neg a]
 generalize hr' : movedP r p.id s q.id t x = r' at *
 have hgens : r'.gens = r.gens ∧ r'.room = r.room := by rw [← hr']; unfold movedP; split <;> exact ⟨rfl, rfl⟩
 obtain ⟨pb, p1, p2, p3⟩ := hrp.ne hkp
 obtain ⟨qb, q1, q2, q3⟩ := hrq.ne hkq
 obtain ⟨l1, l2, l3, l4⟩ := h.lt hW
 have hxp : nx ≠ np := fun e => xp (by rw [← hrx.id, ← hrp.id, e])
 have hxq : nx ≠ nq := fun e => xq (by rw [← hrx.id, ← hrq.id, e])
 have far : ∀ {a b : Nd} {i j : Nat}, a ∈ N → b ∈ N → a ≠ b → i ∈ a.foot → j ∈ b.foot → i ≠ j := fun ha hb hne hi hj e => h.apart ha hb hne _ hi (e ▸ hj)
 have off : ∀ {k : Nat}, (∀ n ∈ N, k ∉ n.foot) → k < w.heap.size → w'.heap[k]? = w.heap[k]? := fun hk hl => kk _ hl (fun e => hk np hnp (e ▸ Nd.m_mem pb)) (fun e => hk nq hnq (e ▸ Nd.m_mem qb)) (fun e => hk np hnp (e ▸ np.blk_mem)) (fun e => hk nq hnq (e ▸ nq.blk_mem)) (fun k2 e => hk nx hnx (e ▸ Nd.b_mem (by rw [hrx.big, k2]; rfl)))
 obtain ⟨G, g1, g2⟩ := h.gmap
 refine ⟨?_, h.imap.of_block (off (fun n hn => (h.off n hn).2.1) l2), ⟨G, g1.of_block (off (fun n hn => (h.off n hn).2.2) l3), by rw [hgens.1]; exact g2⟩, fun n hn => ?_, fun y hy => ?_, h.sep, h.off, h.mm⟩
 ·rw [hgens.2]
  exact (off (fun n hn => (h.off n hn).1) l1).trans h.head
 ·obtain ⟨y, hy, hr⟩ := h.node n hn
  have hlt := hr.lt (hW.kind y hy)
  by_cases c1 : n = nx
  ·subst c1
   obtain rfl := h.uniq hW hx hrx hy hr
   have hlx : ∀ y', y'.id = x.id → y'.kind = x.kind → linksN r' y' = linksN r x := fun y' a b => by
    have := hlk x y' a b
    rw [if_neg (fun e => xp e.2.2.symm), if_neg (fun e => xq e.2.2.symm)] at this
    exact this
   have base : ∀ k ∈ n.foot, (x.kind = 2 → k ≠ n.b) → w'.heap[k]? = w.heap[k]? := fun k hk hb => kk k (hlt k hk) (far hn hnp hxp hk (Nd.m_mem pb)) (far hn hnq hxq hk (Nd.m_mem qb)) (far hn hnp hxp hk np.blk_mem) (far hn hnq hxq hk nq.blk_mem) hb
   by_cases k2 : x.kind = 2
   ·obtain ⟨xb, x1, x2, x3⟩ := hr.ne k2
    refine ⟨upP x q.id, (hmem _).2 (.inr ⟨k2, rfl⟩), hr.id, ?_, hr.big, fun e => ?_, fun _ => ⟨hxb k2, ?_⟩⟩
    ·rw [hlx (upP x q.id) rfl rfl]
     exact (base _ n.blk_mem (fun _ => x2.symm)).trans hr.head
    ·have : x.kind = 1 := e
     omega
    ·show MapB w' n.m strK intK (namesP r'.nms x.id)
     rw [hnames _ xp xq]
     exact (hr.dir k2).2.of_block (base _ (Nd.m_mem xb) (fun _ => x1.symm))
   ·exact ⟨x, (hmem _).2 (.inl ⟨hx, fun e => absurd e k2⟩), hr.keep (fun k hk => base k hk (fun e => absurd e k2)) (hlx x rfl rfl) (fun e => absurd e k2)⟩
  ·have hyx : y.id ≠ x.id := fun e => c1 (nodup_inj h.idU hn hnx (by rw [hr.id, hrx.id, e]))
   have hym : y ∈ r'.ins := (hmem _).2 (.inl ⟨hy, fun _ => hyx⟩)
   have hxbn : x.kind = 2 → ∀ k ∈ n.foot, k ≠ nx.b := fun k2 k hk => far hn hnx c1 hk (Nd.b_mem (by rw [hrx.big, k2]; rfl))
   by_cases c2 : n = np
   ·subst c2
    obtain rfl := h.uniq hW hp hrp hy hr
    refine ⟨p, hym, hr.mk2 hbp (fun hb => ?_) (fun e => absurd e (by omega)) (fun _ => hmp)⟩
    by_cases c3 : n = nq
    ·subst c3
     exact kk _ (hlt _ (Nd.b_mem hb)) p1 p1 p2 p2 (fun k2 => hxbn k2 _ (Nd.b_mem hb))
    ·exact kk _ (hlt _ (Nd.b_mem hb)) p1 (far hn hnq c3 (Nd.b_mem hb) (Nd.m_mem qb)) p2 (far hn hnq c3 (Nd.b_mem hb) nq.blk_mem) (fun k2 => hxbn k2 _ (Nd.b_mem hb))
   ·by_cases c3 : n = nq
    ·subst c3
     obtain rfl := h.uniq hW hq hrq hy hr
     exact ⟨q, hym, hr.mk2 hbq (fun hb => kk _ (hlt _ (Nd.b_mem hb)) (far hn hnp c2 (Nd.b_mem hb) (Nd.m_mem pb)) q1 (far hn hnp c2 (Nd.b_mem hb) np.blk_mem) q2 (fun k2 => hxbn k2 _ (Nd.b_mem hb))) (fun e => absurd e (by omega)) (fun _ => hmq)⟩
    ·have hyp : y.id ≠ p.id := fun e => c2 (nodup_inj h.idU hn hnp (by rw [hr.id, hrp.id, e]))
     have hyq : y.id ≠ q.id := fun e => c3 (nodup_inj h.idU hn hnq (by rw [hr.id, hrq.id, e]))
     refine ⟨y, hym, hr.keep (fun k hk => kk k (hlt k hk) (far hn hnp c2 hk (Nd.m_mem pb)) (far hn hnq c3 hk (Nd.m_mem qb)) (far hn hnp c2 hk np.blk_mem) (far hn hnq c3 hk nq.blk_mem) (fun k2 => hxbn k2 k hk)) ?_ (fun _ => hnames _ hyp hyq)⟩
     have := hlk y y rfl rfl
     rw [if_neg (fun e => hyp e.2.2.symm), if_neg (fun e => hyq e.2.2.symm)] at this
     exact this
 ·rcases (hmem y).1 hy with ⟨h1, _⟩ | ⟨_, rfl⟩
  ·exact h.all y h1
  ·exact h.all x hx
end Go.Proofs.YtpcjmefchclhhaaGreat
namespace Go.Proofs.YtpcjmefchclhhaaGreat
open Go.RowKit Go.MapKept
theorem neq_ino {w : World} {a b : Nat} {ca cb : Array Value} {ta tb : TypeId} (ha : w.heap[a]? = some (.cells ca ta (0, 0))) (hb : w.heap[b]? = some (.cells cb tb (0, 0))) :
  (binOp .neq 67 (.pointer (some ⟨a, 0, none⟩)) (.pointer (some ⟨b, 0, none⟩))).run Tryz.prog w = .ok (.bool (!decide (a = b))) w := by
 have hi : ∃ j, Tryz.prog.info? 73 = some j ∧ j.size = 6 := by
  have : (Tryz.prog.info? 73).map (·.size) = some 6 := by kernel_rfl
  cases h : Tryz.prog.info? 73 with
  | none => rw [h] at this; cases this
  | some j => rw [h] at this; exact ⟨j, rfl, by simpa using this⟩
 obtain ⟨j, hj, h6⟩ := hi
 have hp : Tryz.prog.underlying 67 = some (.pointer 73) := by kernel_rfl
 by_cases e : a = b
 ·subst e
  have h : ∀ d : Nat, (Op.equalIn (d + 1) 67 (.pointer (some ⟨a, 0, none⟩)) (.pointer (some ⟨a, 0, none⟩))).run Tryz.prog w = .ok true w := fun d => by
   simp [Op.equalIn, run_underlying hp, sizeOf, typeInfo, hj, run_sameAddr_same]
  simp only [binOp]
  simp [Op.equal, Op.maxDepth, h 9999]
 ·have h : ∀ d : Nat, (Op.equalIn (d + 1) 67 (.pointer (some ⟨a, 0, none⟩)) (.pointer (some ⟨b, 0, none⟩))).run Tryz.prog w = .ok false w := fun d => by
   simp [Op.equalIn, run_underlying hp, sizeOf, typeInfo, hj, h6, run_sameAddr_other w (a := ⟨a, 0, none⟩) (b := ⟨b, 0, none⟩) (fun hh => e (by injection hh)) ha hb]
  simp only [binOp]
  simp [Op.equal, Op.maxDepth, h 9999, e]
noncomputable def renameP (r : RFs) (h : Int × Int) (s : ByteArray) (g : Int × Int) (t : ByteArray) : RFs × Int :=
 if placesE r h s g t ≠ 0 then (r, placesE r h s g t) else if entryP r.nms h.1 s = 0 then (r, 170) else if entryP r.nms h.1 s = entryP r.nms g.1 t then (r, 0)
 else if (byIdP r.ins (entryP r.nms h.1 s)).kind = 2 ∧ belowB r g.1 (entryP r.nms h.1 s) = true then (r, 178)
 else if entryP r.nms g.1 t ≠ 0 then
  (if mayP r (byIdP r.ins (entryP r.nms g.1 t)) (decide ((byIdP r.ins (entryP r.nms h.1 s)).kind = 2)) ≠ 0 then (r, mayP r (byIdP r.ins (entryP r.nms g.1 t)) (decide ((byIdP r.ins (entryP r.nms h.1 s)).kind = 2)))
   else (movedP (dropP r g.1 t) h.1 s g.1 t (byIdP r.ins (entryP r.nms h.1 s)), 0))
 else if (byIdP r.ins (entryP r.nms h.1 s)).kind = 2 ∧ h.1 ≠ g.1 ∧ 20 ≤ linksN r (byIdP r.ins g.1) then (r, 179)
 else (movedP r h.1 s g.1 t (byIdP r.ins (entryP r.nms h.1 s)), 0)
theorem places_no {w : World} {f mi mg K : Nat} {r : RFs} {N : List Nd} (h : FsN w f mi mg r N) (hW : Wf r K) (i g : Int) (s : ByteArray) (hs : s.size ≤ maxLen) (i2 g2 : Int) (s2 : ByteArray) (hs2 : s2.size ≤ maxLen) (he : placesE r (i, g) s (i2, g2) s2 ≠ 0) :
  Calls Tryz.prog 44 #[.pointer (some ⟨f, 0, none⟩), .agg #[.int .i64 i, .int .i64 g], .string s, .agg #[.int .i64 i2, .int .i64 g2], .string s2] w
   fun e w' => e = .returned (.tuple #[.agg #[.pointer none, .pointer none, .string ⟨#[]⟩], .agg #[.pointer none, .pointer none, .string ⟨#[]⟩], .int .i64 (placesE r (i, g) s (i2, g2) s2)]) ∧ Below w.heap.size w w' := by
 unfold placesE at he ⊢
 dsimp only at he ⊢
 cases hl : liveP r (i, g)
 ·simp only [true_or, if_true]
  exact places_a h hW i g s hs i2 g2 s2 hs2 hl
 ·cases hl2 : liveP r (i2, g2)
  ·simp only [or_true, if_true]
   exact places_b h hW i g s hs i2 g2 s2 hs2 hl hl2
  ·rw [hl, hl2] at he
   simp only [Bool.true_eq_false, or_false, if_false] at he ⊢
   by_cases hk : (byIdP r.ins i).kind = 2
   ·by_cases hk2 : (byIdP r.ins i2).kind = 2
    ·simp only [hk, hk2, ne_eq, not_true_eq_false, or_false, if_false] at he ⊢
     by_cases hv : validP s = true
     ·by_cases hv2 : validP s2 = true
      ·simp [hv, hv2] at he
      ·simp only [hv, hv2]
       exact places_g h hW i g s hs i2 g2 s2 hs2 hl hl2 hk hk2 hv hv2
     ·simp only [hv]
      exact places_f h hW i g s hs i2 g2 s2 hs2 hl hl2 hk hk2 hv
    ·simp only [hk2, ne_eq, not_false_eq_true, or_true, if_true]
     exact places_e h hW i g s hs i2 g2 s2 hs2 hl hl2 hk hk2
   ·simp only [hk, ne_eq, not_false_eq_true, true_or, if_true]
    by_cases hk2 : (byIdP r.ins i2).kind = 2
    ·exact places_c h hW i g s hs i2 g2 s2 hs2 hl hl2 hk hk2
    ·exact places_d h hW i g s hs i2 g2 s2 hs2 hl hl2 hk hk2
theorem placesE_ok {r : RFs} {h g : Int × Int} {s t : ByteArray} (he : placesE r h s g t = 0) : liveP r h = true ∧ liveP r g = true ∧ (byIdP r.ins h.1).kind = 2 ∧ (byIdP r.ins g.1).kind = 2 ∧ validP s = true ∧ validP t = true := by
 unfold placesE at he
 split at he
 ·cases he
 ·rename_i a
  split at he
  ·cases he
  ·rename_i b
   split at he
   ·rename_i c
    refine ⟨?_, ?_, ?_, ?_, c.1, c.2⟩
    ·cases hh : liveP r h
     ·exact absurd (.inl hh) a
     ·rfl
    ·cases hh : liveP r g
     ·exact absurd (.inr hh) a
     ·rfl
    ·exact Classical.byContradiction fun e => b (.inl e)
    ·exact Classical.byContradiction fun e => b (.inr e)
   ·cases he
set_option maxRecDepth 100000 in
set_option maxHeartbeats 8000000 in
theorem rename_bad {w : World} {f mi mg K : Nat} {r : RFs} {N : List Nd} (h : FsN w f mi mg r N) (hW : Wf r K) (i g : Int) (s : ByteArray) (hs : s.size ≤ maxLen) (i2 g2 : Int) (s2 : ByteArray) (hs2 : s2.size ≤ maxLen) (he : placesE r (i, g) s (i2, g2) s2 ≠ 0) :
  Calls Tryz.prog 19 #[.pointer (some ⟨f, 0, none⟩), .agg #[.int .i64 i, .int .i64 g], .string s, .agg #[.int .i64 i2, .int .i64 g2], .string s2] w
   fun e w' => e = .returned (.int .i64 (placesE r (i, g) s (i2, g2) s2)) ∧ Below w.heap.size w w' := by
 obtain ⟨w2, hw2, hB, hz2, hb0, hb1⟩ := box2 w #[.int .i64 i, .int .i64 g] #[.int .i64 i2, .int .i64 g2] 37 37
 have t0 : w2.cell? ⟨w.heap.size, 0, none⟩ = some (.int .i64 i) := by rw [cell_at hb0]; rfl
 have t1 : w2.cell? ⟨w.heap.size, 1, none⟩ = some (.int .i64 g) := by rw [cell_at hb0]; rfl
 have t2 : w2.cell? ⟨w.heap.size + 1, 0, none⟩ = some (.int .i64 i2) := by rw [cell_at hb1]; rfl
 have t3 : w2.cell? ⟨w.heap.size + 1, 1, none⟩ = some (.int .i64 g2) := by rw [cell_at hb1]; rfl
 have h2 := h.below hW hB
 have HW2 := Lib.hid hw2
 have HB := Lib.hid hB
 have HP := Lib.hid (places_no h2 hW i g s hs i2 g2 s2 hs2 he)
 have hne : (placesE r (i, g) s (i2, g2) s2 != 0) = true := by rw [bne_iff_ne]; exact he
 generalize placesE r (i, g) s (i2, g2) s2 = pe at *
 clear hw2 hB hb0 hb1 h h2 hW he
 go_enter Tryz.func19, Tryz.ntmps19
 go_wp2_with fail
 rw [HW2.out]
 go_wp2_with (go_at_call 44; (with_reducible refine HP.out.mono ?_); rintro e w3 ⟨rfl, hB3⟩; have hs3 := hB3.size; replace hB3 := Lib.hid hB3)
 go_ret
 have hfin := HB.out.trans (hB3.out.mono (by omega))
 exact ⟨rfl, (hfin.alloc hfin.size _).alloc (by have := hfin.size; simp; omega) _⟩
set_option maxRecDepth 100000 in
set_option maxHeartbeats 8000000 in
theorem rename_none {w : World} {f mi mg K : Nat} {r : RFs} {N : List Nd} (h : FsN w f mi mg r N) (hW : Wf r K) (i g : Int) (s : ByteArray) (hs : s.size ≤ maxLen) (i2 g2 : Int) (s2 : ByteArray) (hs2 : s2.size ≤ maxLen)
  {p q : RIn} {np nq : Nd} (_hp : p ∈ r.ins) (hkp : p.kind = 2) (hnp : np ∈ N) (hrp : NodeR w r p np) (_hq : q ∈ r.ins) (hkq : q.kind = 2) (hnq : nq ∈ N) (hrq : NodeR w r q nq) (hpi : p.id = i) (hqi : q.id = i2)
  (hl : liveP r (i, g) = true) (hl2 : liveP r (i2, g2) = true) (hk : (byIdP r.ins i).kind = 2) (hk2 : (byIdP r.ins i2).kind = 2) (hv : validP s = true) (hv2 : validP s2 = true) (he : entryP r.nms i s = 0) :
  Calls Tryz.prog 19 #[.pointer (some ⟨f, 0, none⟩), .agg #[.int .i64 i, .int .i64 g], .string s, .agg #[.int .i64 i2, .int .i64 g2], .string s2] w fun e w' => e = .returned (.int .i64 170) ∧ Below w.heap.size w w' := by
 obtain ⟨w2, hw2, hB, hz2, hb0, hb1⟩ := box2 w #[.int .i64 i, .int .i64 g] #[.int .i64 i2, .int .i64 g2] 37 37
 have t0 : w2.cell? ⟨w.heap.size, 0, none⟩ = some (.int .i64 i) := by rw [cell_at hb0]; rfl
 have t1 : w2.cell? ⟨w.heap.size, 1, none⟩ = some (.int .i64 g) := by rw [cell_at hb0]; rfl
 have t2 : w2.cell? ⟨w.heap.size + 1, 0, none⟩ = some (.int .i64 i2) := by rw [cell_at hb1]; rfl
 have t3 : w2.cell? ⟨w.heap.size + 1, 1, none⟩ = some (.int .i64 g2) := by rw [cell_at hb1]; rfl
 have h2 := h.below hW hB
 have HW2 := Lib.hid hw2
 have HB := Lib.hid hB
 have hrp2 := hrp.below (.inr (.inl hkp)) hB
 have hrq2 := hrq.below (.inr (.inl hkq)) hB
 have hpl := places_ok h2 hW i g s hs i2 g2 s2 hs2 hl hl2 hk hk2 hv hv2 hnp hnq (hrp.id.trans hpi) (hrq.id.trans hqi)
 have HP := Lib.hid hpl
 have HAt := Lib.hid (show ∀ w4, Below w2.heap.size w2 w4 → Calls Tryz.prog 26 #[.agg #[.pointer (some ⟨np.blk, 0, none⟩), .pointer (some ⟨np.b, 0, none⟩), .string s]] w4 fun e w' => e = .returned (.tuple #[.int .i64 (entryP r.nms i s), .bool (decide (entryP r.nms i s ≠ 0))]) ∧ Below w4.heap.size w4 w' from fun w4 hb => by
  have hr4 := hrp2.below (.inr (.inl hkp)) hb
  have := at_any hr4 hkp (hr4.lt (.inr (.inl hkp))) s (some ⟨np.blk, 0, none⟩)
  rw [hpi, hW.entry_some] at this
  exact this)
 have HAt2 := Lib.hid (show ∀ w4, Below w2.heap.size w2 w4 → Calls Tryz.prog 26 #[.agg #[.pointer (some ⟨nq.blk, 0, none⟩), .pointer (some ⟨nq.b, 0, none⟩), .string s2]] w4 fun e w' => e = .returned (.tuple #[.int .i64 (entryP r.nms i2 s2), .bool (decide (entryP r.nms i2 s2 ≠ 0))]) ∧ Below w4.heap.size w4 w' from fun w4 hb => by
  have hr4 := hrq2.below (.inr (.inl hkq)) hb
  have := at_any hr4 hkq (hr4.lt (.inr (.inl hkq))) s2 (some ⟨nq.blk, 0, none⟩)
  rw [hqi, hW.entry_some] at this
  exact this)
 rw [he] at HAt
 simp only [ne_eq, not_true_eq_false, decide_false] at HAt
 clear hw2 hB hb0 hb1 h h2 hW hrp2 hrq2 hpl _hp hkp hnp hrp _hq hkq hnq hrq hpi hqi hl hl2 hk hk2 hv hv2 he
 go_enter Tryz.func19, Tryz.ntmps19
 go_wp2_with fail
 rw [HW2.out]
 go_upto_region 4 with (go_at_call 44; (with_reducible refine HP.out.mono ?_); rintro e w3 ⟨rfl, hB3⟩; have hs3 := hB3.size; replace hB3 := Lib.hid hB3)
 obtain ⟨w4, hw4, hB4, hs4, hb40, hb41⟩ := box2 w3 #[.pointer (some ⟨np.blk, 0, none⟩), .pointer (some ⟨np.b, 0, none⟩), .string s] #[.pointer (some ⟨nq.blk, 0, none⟩), .pointer (some ⟨nq.b, 0, none⟩), .string s2] 85 85
 rw [hw4]
 have c0 : w4.cell? ⟨w3.heap.size, 0, none⟩ = some (.pointer (some ⟨np.blk, 0, none⟩)) := by rw [cell_at hb40]; rfl
 have c1 : w4.cell? ⟨w3.heap.size, 1, none⟩ = some (.pointer (some ⟨np.b, 0, none⟩)) := by rw [cell_at hb40]; rfl
 have c2 : w4.cell? ⟨w3.heap.size, 2, none⟩ = some (.string s) := by rw [cell_at hb40]; rfl
 have HQ1 := Lib.hid hb40
 have HQ2 := Lib.hid hb41
 have HB4 := Lib.hid (hB3.out.trans (hB4.mono (by omega)))
 clear hw4 hb40 hb41 hB4
 go_wp2_with (go_at_call 26; (with_reducible refine (HAt.out w4 HB4.out).mono ?_); rintro e w5 ⟨rfl, hB5⟩; replace hB5 := Lib.hid hB5)
 go_ret
 exact ⟨rfl, HB.out.trans ((HB4.out.trans (hB5.out.mono HB4.out.size)).mono (by omega))⟩
set_option maxRecDepth 100000 in
set_option maxHeartbeats 8000000 in
theorem rename_same {w : World} {f mi mg K : Nat} {r : RFs} {N : List Nd} (h : FsN w f mi mg r N) (hW : Wf r K) (i g : Int) (s : ByteArray) (hs : s.size ≤ maxLen) (i2 g2 : Int) (s2 : ByteArray) (hs2 : s2.size ≤ maxLen)
  {p q : RIn} {np nq : Nd} (_hp : p ∈ r.ins) (hkp : p.kind = 2) (hnp : np ∈ N) (hrp : NodeR w r p np) (_hq : q ∈ r.ins) (hkq : q.kind = 2) (hnq : nq ∈ N) (hrq : NodeR w r q nq) (hpi : p.id = i) (hqi : q.id = i2)
  (hl : liveP r (i, g) = true) (hl2 : liveP r (i2, g2) = true) (hk : (byIdP r.ins i).kind = 2) (hk2 : (byIdP r.ins i2).kind = 2) (hv : validP s = true) (hv2 : validP s2 = true)
  {x : RIn} {nx : Nd} (hx : x ∈ r.ins) (hnx : nx ∈ N) (hrx : NodeR w r x nx) (hxi : entryP r.nms i s = x.id) (ho : entryP r.nms i2 s2 = x.id) :
  Calls Tryz.prog 19 #[.pointer (some ⟨f, 0, none⟩), .agg #[.int .i64 i, .int .i64 g], .string s, .agg #[.int .i64 i2, .int .i64 g2], .string s2] w fun e w' => e = .returned (.int .i64 0) ∧ Below w.heap.size w w' := by
 obtain ⟨w2, hw2, hB, hz2, hb0, hb1⟩ := box2 w #[.int .i64 i, .int .i64 g] #[.int .i64 i2, .int .i64 g2] 37 37
 have t0 : w2.cell? ⟨w.heap.size, 0, none⟩ = some (.int .i64 i) := by rw [cell_at hb0]; rfl
 have t1 : w2.cell? ⟨w.heap.size, 1, none⟩ = some (.int .i64 g) := by rw [cell_at hb0]; rfl
 have t2 : w2.cell? ⟨w.heap.size + 1, 0, none⟩ = some (.int .i64 i2) := by rw [cell_at hb1]; rfl
 have t3 : w2.cell? ⟨w.heap.size + 1, 1, none⟩ = some (.int .i64 g2) := by rw [cell_at hb1]; rfl
 have h2 := h.below hW hB
 have HW2 := Lib.hid hw2
 have HB := Lib.hid hB
 have hrp2 := hrp.below (.inr (.inl hkp)) hB
 have hrq2 := hrq.below (.inr (.inl hkq)) hB
 have hpl := places_ok h2 hW i g s hs i2 g2 s2 hs2 hl hl2 hk hk2 hv hv2 hnp hnq (hrp.id.trans hpi) (hrq.id.trans hqi)
 have HP := Lib.hid hpl
 have HAt := Lib.hid (show ∀ w4, Below w2.heap.size w2 w4 → Calls Tryz.prog 26 #[.agg #[.pointer (some ⟨np.blk, 0, none⟩), .pointer (some ⟨np.b, 0, none⟩), .string s]] w4 fun e w' => e = .returned (.tuple #[.int .i64 (entryP r.nms i s), .bool (decide (entryP r.nms i s ≠ 0))]) ∧ Below w4.heap.size w4 w' from fun w4 hb => by
  have hr4 := hrp2.below (.inr (.inl hkp)) hb
  have := at_any hr4 hkp (hr4.lt (.inr (.inl hkp))) s (some ⟨np.blk, 0, none⟩)
  rw [hpi, hW.entry_some] at this
  exact this)
 have HAt2 := Lib.hid (show ∀ w4, Below w2.heap.size w2 w4 → Calls Tryz.prog 26 #[.agg #[.pointer (some ⟨nq.blk, 0, none⟩), .pointer (some ⟨nq.b, 0, none⟩), .string s2]] w4 fun e w' => e = .returned (.tuple #[.int .i64 (entryP r.nms i2 s2), .bool (decide (entryP r.nms i2 s2 ≠ 0))]) ∧ Below w4.heap.size w4 w' from fun w4 hb => by
  have hr4 := hrq2.below (.inr (.inl hkq)) hb
  have := at_any hr4 hkq (hr4.lt (.inr (.inl hkq))) s2 (some ⟨nq.blk, 0, none⟩)
  rw [hqi, hW.entry_some] at this
  exact this)
 have hx0 : x.id ≠ 0 := hW.ne0 hx
 rw [hxi, decide_eq_true hx0] at HAt
 have hrx2 := hrx.below (hW.kind x hx) hB
 have HX := Lib.hid (show ∀ w', Below w2.heap.size w2 w' → w'.cell? ⟨f, 1, none⟩ = some (.map (some mi)) ∧ w'.cell? ⟨nx.blk, 5, none⟩ = some (holdsV x nx) ∧ (Instr.lookup 63 (.map (some mi)) (.int .i64 x.id) false).run Tryz.prog w' = .ok (.pointer (some ⟨nx.blk, 0, none⟩)) w' ∧ w'.cell? ⟨nq.blk, 0, none⟩ = some (.int .i64 i2) ∧ w'.cell? ⟨nq.blk, 4, none⟩ = some (.int .i64 (linksN r q : Int)) from fun w' hb => by
  have h4 := h2.below hW hb
  have hg := h4.get hnx
  rw [hrx.id] at hg
  have hlk := (h4.look x.id).2
  rw [hg] at hlk
  have hq4 := (hrq2.below (.inr (.inl hkq)) hb).cells
  exact ⟨h4.cells.2.1, (hrx2.below (hW.kind x hx) hb).cells.2.2.2.2.2, hlk, by rw [← hqi]; exact hq4.1, hq4.2.2.2.2.1⟩)
 rw [ho, decide_eq_true hx0] at HAt2
 by_cases hkx : x.kind = 2
 all_goals
  first
  | (have hta : ∀ w, (Instr.typeAssert (holdsV x nx) 20 68 true).run Tryz.prog w = .ok (.tuple #[.pointer (some ⟨nx.b, 0, none⟩), .bool true]) w := fun w => by rw [ta_dir, if_pos hkx]; rfl)
  | (have hta : ∀ w, (Instr.typeAssert (holdsV x nx) 20 68 true).run Tryz.prog w = .ok (.tuple #[.pointer none, .bool false]) w := fun w => by rw [ta_dir, if_neg hkx])
  clear hw2 hB hb0 hb1 h h2 hW hrp2 hrq2 hpl _hp hkp hnp hrp _hq hkq hnq hrq hpi hqi hl hl2 hk hk2 hv hv2 hx hnx hrx hxi hx0 hrx2 ho hkx
  go_enter Tryz.func19, Tryz.ntmps19
  go_wp2_with fail
  rw [HW2.out]
  go_upto_region 4 with (go_at_call 44; (with_reducible refine HP.out.mono ?_); rintro e w3 ⟨rfl, hB3⟩; have hs3 := hB3.size; replace hB3 := Lib.hid hB3)
  obtain ⟨w4, hw4, hB4, hs4, hb40, hb41⟩ := box2 w3 #[.pointer (some ⟨np.blk, 0, none⟩), .pointer (some ⟨np.b, 0, none⟩), .string s] #[.pointer (some ⟨nq.blk, 0, none⟩), .pointer (some ⟨nq.b, 0, none⟩), .string s2] 85 85
  rw [hw4]
  have c0 : w4.cell? ⟨w3.heap.size, 0, none⟩ = some (.pointer (some ⟨np.blk, 0, none⟩)) := by rw [cell_at hb40]; rfl
  have c1 : w4.cell? ⟨w3.heap.size, 1, none⟩ = some (.pointer (some ⟨np.b, 0, none⟩)) := by rw [cell_at hb40]; rfl
  have c2 : w4.cell? ⟨w3.heap.size, 2, none⟩ = some (.string s) := by rw [cell_at hb40]; rfl
  have HQ1 := Lib.hid hb40
  have HQ2 := Lib.hid hb41
  have HB4 := Lib.hid (hB3.out.trans (hB4.mono (by omega)))
  clear hw4 hb40 hb41 hB4
  go_wp2_with (first
  | (go_at_call 26; (with_reducible refine (HAt.out w4 HB4.out).mono ?_); rintro e w5 ⟨rfl, hB5⟩; have hs5 := hB5.size; have hY := (hB5.block _ (by omega)).trans HQ2.out; have d0 : w5.cell? ⟨w3.heap.size + 1, 0, none⟩ = _ := cell_at hY 0; have d1 : w5.cell? ⟨w3.heap.size + 1, 1, none⟩ = _ := cell_at hY 1; have d2 : w5.cell? ⟨w3.heap.size + 1, 2, none⟩ = _ := cell_at hY 2; have HQ25 := Lib.hid hY; have HQ15 := Lib.hid ((hB5.block _ (by omega)).trans HQ1.out); clear hY; have HB5 := Lib.hid (HB4.out.trans (hB5.mono HB4.out.size)); obtain ⟨x1, x2, x3, -, -⟩ := HX.out w5 HB5.out; clear hB5)
  | (go_at_call 26; (with_reducible refine (HAt2.out w5 HB5.out).mono ?_); rintro e w6 ⟨rfl, hB6⟩; have hs6 := hB6.size; have HQ26 := Lib.hid ((hB6.block _ (by omega)).trans HQ25.out); have HQ16 := Lib.hid ((hB6.block _ (by omega)).trans HQ15.out); have e0 : w6.cell? ⟨w3.heap.size, 0, none⟩ = _ := cell_at HQ16.out 0; have g0 : w6.cell? ⟨w3.heap.size + 1, 0, none⟩ = _ := cell_at HQ26.out 0; have HB6 := Lib.hid (HB5.out.trans (hB6.mono HB5.out.size)); obtain ⟨y1, y2, y3, y4, y5⟩ := HX.out w6 HB6.out; clear hB6))
  go_ret
  exact ⟨rfl, HB.out.trans (HB6.out.mono (by omega))⟩
set_option maxRecDepth 100000 in
set_option maxHeartbeats 8000000 in
theorem rename_loop0 {w : World} {f mi mg K : Nat} {r : RFs} {N : List Nd} (h : FsN w f mi mg r N) (hW : Wf r K) (i g : Int) (s : ByteArray) (hs : s.size ≤ maxLen) (i2 g2 : Int) (s2 : ByteArray) (hs2 : s2.size ≤ maxLen)
  {p q : RIn} {np nq : Nd} (_hp : p ∈ r.ins) (hkp : p.kind = 2) (hnp : np ∈ N) (hrp : NodeR w r p np) (hq : q ∈ r.ins) (hkq : q.kind = 2) (hnq : nq ∈ N) (hrq : NodeR w r q nq) (hpi : p.id = i) (hqi : q.id = i2)
  (hl : liveP r (i, g) = true) (hl2 : liveP r (i2, g2) = true) (hk : (byIdP r.ins i).kind = 2) (hk2 : (byIdP r.ins i2).kind = 2) (hv : validP s = true) (hv2 : validP s2 = true)
  {x : RIn} {nx : Nd} (hx : x ∈ r.ins) (hnx : nx ∈ N) (hrx : NodeR w r x nx) (hxi : entryP r.nms i s = x.id) (hkx : x.kind = 2) (hbl : belowB r i2 x.id = true) (ho : entryP r.nms i2 s2 = 0) :
  Calls Tryz.prog 19 #[.pointer (some ⟨f, 0, none⟩), .agg #[.int .i64 i, .int .i64 g], .string s, .agg #[.int .i64 i2, .int .i64 g2], .string s2] w fun e w' => e = .returned (.int .i64 178) ∧ Below w.heap.size w w' := by
 obtain ⟨w2, hw2, hB, hz2, hb0, hb1⟩ := box2 w #[.int .i64 i, .int .i64 g] #[.int .i64 i2, .int .i64 g2] 37 37
 have t0 : w2.cell? ⟨w.heap.size, 0, none⟩ = some (.int .i64 i) := by rw [cell_at hb0]; rfl
 have t1 : w2.cell? ⟨w.heap.size, 1, none⟩ = some (.int .i64 g) := by rw [cell_at hb0]; rfl
 have t2 : w2.cell? ⟨w.heap.size + 1, 0, none⟩ = some (.int .i64 i2) := by rw [cell_at hb1]; rfl
 have t3 : w2.cell? ⟨w.heap.size + 1, 1, none⟩ = some (.int .i64 g2) := by rw [cell_at hb1]; rfl
 have h2 := h.below hW hB
 have HW2 := Lib.hid hw2
 have HB := Lib.hid hB
 have hrp2 := hrp.below (.inr (.inl hkp)) hB
 have hrq2 := hrq.below (.inr (.inl hkq)) hB
 have hpl := places_ok h2 hW i g s hs i2 g2 s2 hs2 hl hl2 hk hk2 hv hv2 hnp hnq (hrp.id.trans hpi) (hrq.id.trans hqi)
 have HP := Lib.hid hpl
 have HAt := Lib.hid (show ∀ w4, Below w2.heap.size w2 w4 → Calls Tryz.prog 26 #[.agg #[.pointer (some ⟨np.blk, 0, none⟩), .pointer (some ⟨np.b, 0, none⟩), .string s]] w4 fun e w' => e = .returned (.tuple #[.int .i64 (entryP r.nms i s), .bool (decide (entryP r.nms i s ≠ 0))]) ∧ Below w4.heap.size w4 w' from fun w4 hb => by
  have hr4 := hrp2.below (.inr (.inl hkp)) hb
  have := at_any hr4 hkp (hr4.lt (.inr (.inl hkp))) s (some ⟨np.blk, 0, none⟩)
  rw [hpi, hW.entry_some] at this
  exact this)
 have HAt2 := Lib.hid (show ∀ w4, Below w2.heap.size w2 w4 → Calls Tryz.prog 26 #[.agg #[.pointer (some ⟨nq.blk, 0, none⟩), .pointer (some ⟨nq.b, 0, none⟩), .string s2]] w4 fun e w' => e = .returned (.tuple #[.int .i64 (entryP r.nms i2 s2), .bool (decide (entryP r.nms i2 s2 ≠ 0))]) ∧ Below w4.heap.size w4 w' from fun w4 hb => by
  have hr4 := hrq2.below (.inr (.inl hkq)) hb
  have := at_any hr4 hkq (hr4.lt (.inr (.inl hkq))) s2 (some ⟨nq.blk, 0, none⟩)
  rw [hqi, hW.entry_some] at this
  exact this)
 have hx0 : x.id ≠ 0 := hW.ne0 hx
 rw [hxi, decide_eq_true hx0] at HAt
 have hrx2 := hrx.below (hW.kind x hx) hB
 have HX := Lib.hid (show ∀ w', Below w2.heap.size w2 w' → w'.cell? ⟨f, 1, none⟩ = some (.map (some mi)) ∧ w'.cell? ⟨nx.blk, 5, none⟩ = some (holdsV x nx) ∧ (Instr.lookup 63 (.map (some mi)) (.int .i64 x.id) false).run Tryz.prog w' = .ok (.pointer (some ⟨nx.blk, 0, none⟩)) w' ∧ w'.cell? ⟨nq.blk, 0, none⟩ = some (.int .i64 i2) ∧ w'.cell? ⟨nq.blk, 4, none⟩ = some (.int .i64 (linksN r q : Int)) from fun w' hb => by
  have h4 := h2.below hW hb
  have hg := h4.get hnx
  rw [hrx.id] at hg
  have hlk := (h4.look x.id).2
  rw [hg] at hlk
  have hq4 := (hrq2.below (.inr (.inl hkq)) hb).cells
  exact ⟨h4.cells.2.1, (hrx2.below (hW.kind x hx) hb).cells.2.2.2.2.2, hlk, by rw [← hqi]; exact hq4.1, hq4.2.2.2.2.1⟩)
 have hta : ∀ w, (Instr.typeAssert (holdsV x nx) 20 68 true).run Tryz.prog w = .ok (.tuple #[.pointer (some ⟨nx.b, 0, none⟩), .bool true]) w := fun w => by rw [ta_dir, if_pos hkx]; rfl
 rw [ho] at HAt2
 simp only [ne_eq, not_true_eq_false, decide_false] at HAt2
 have HBl := Lib.hid (show ∀ w', Below w2.heap.size w2 w' → Calls Tryz.prog 45 #[.pointer (some ⟨f, 0, none⟩), .int .i64 i2, .int .i64 x.id] w' fun e w'' => e = .returned (.bool true) ∧ w' = w'' from fun w' hb => by
  have := below_any (h2.below hW hb) hW hq hkq x.id
  rw [hqi, hbl] at this
  exact this)
 clear hw2 hB hb0 hb1 h h2 hW hrp2 hrq2 hpl _hp hkp hnp hrp hq hkq hnq hrq hpi hqi hl hl2 hk hk2 hv hv2 hx hnx hrx hxi hx0 hrx2 ho hkx hbl
 go_enter Tryz.func19, Tryz.ntmps19
 go_wp2_with fail
 rw [HW2.out]
 go_upto_region 4 with (go_at_call 44; (with_reducible refine HP.out.mono ?_); rintro e w3 ⟨rfl, hB3⟩; have hs3 := hB3.size; replace hB3 := Lib.hid hB3)
 obtain ⟨w4, hw4, hB4, hs4, hb40, hb41⟩ := box2 w3 #[.pointer (some ⟨np.blk, 0, none⟩), .pointer (some ⟨np.b, 0, none⟩), .string s] #[.pointer (some ⟨nq.blk, 0, none⟩), .pointer (some ⟨nq.b, 0, none⟩), .string s2] 85 85
 rw [hw4]
 have c0 : w4.cell? ⟨w3.heap.size, 0, none⟩ = some (.pointer (some ⟨np.blk, 0, none⟩)) := by rw [cell_at hb40]; rfl
 have c1 : w4.cell? ⟨w3.heap.size, 1, none⟩ = some (.pointer (some ⟨np.b, 0, none⟩)) := by rw [cell_at hb40]; rfl
 have c2 : w4.cell? ⟨w3.heap.size, 2, none⟩ = some (.string s) := by rw [cell_at hb40]; rfl
 have HQ1 := Lib.hid hb40
 have HQ2 := Lib.hid hb41
 have HB4 := Lib.hid (hB3.out.trans (hB4.mono (by omega)))
 clear hw4 hb40 hb41 hB4
 go_wp2_with (first
  | (go_at_call 26; (with_reducible refine (HAt.out w4 HB4.out).mono ?_); rintro e w5 ⟨rfl, hB5⟩; have hs5 := hB5.size; have hY := (hB5.block _ (by omega)).trans HQ2.out; have d0 : w5.cell? ⟨w3.heap.size + 1, 0, none⟩ = _ := cell_at hY 0; have d1 : w5.cell? ⟨w3.heap.size + 1, 1, none⟩ = _ := cell_at hY 1; have d2 : w5.cell? ⟨w3.heap.size + 1, 2, none⟩ = _ := cell_at hY 2; have HQ25 := Lib.hid hY; have HQ15 := Lib.hid ((hB5.block _ (by omega)).trans HQ1.out); clear hY; have HB5 := Lib.hid (HB4.out.trans (hB5.mono HB4.out.size)); obtain ⟨x1, x2, x3, -, -⟩ := HX.out w5 HB5.out; clear hB5)
  | (go_at_call 26; (with_reducible refine (HAt2.out w5 HB5.out).mono ?_); rintro e w6 ⟨rfl, hB6⟩; have hs6 := hB6.size; have HQ26 := Lib.hid ((hB6.block _ (by omega)).trans HQ25.out); have HQ16 := Lib.hid ((hB6.block _ (by omega)).trans HQ15.out); have e0 : w6.cell? ⟨w3.heap.size, 0, none⟩ = _ := cell_at HQ16.out 0; have g0 : w6.cell? ⟨w3.heap.size + 1, 0, none⟩ = _ := cell_at HQ26.out 0; have HB6 := Lib.hid (HB5.out.trans (hB6.mono HB5.out.size)); obtain ⟨y1, y2, y3, y4, y5⟩ := HX.out w6 HB6.out; clear hB6)
  | (go_at_call 45; (with_reducible refine (HBl.out w6 HB6.out).mono ?_); rintro e w7 ⟨rfl, rfl⟩))
 go_ret
 exact ⟨rfl, HB.out.trans (HB6.out.mono (by omega))⟩
set_option maxRecDepth 100000 in
set_option maxHeartbeats 8000000 in
theorem rename_loop1 {w : World} {f mi mg K : Nat} {r : RFs} {N : List Nd} (h : FsN w f mi mg r N) (hW : Wf r K) (i g : Int) (s : ByteArray) (hs : s.size ≤ maxLen) (i2 g2 : Int) (s2 : ByteArray) (hs2 : s2.size ≤ maxLen)
  {p q : RIn} {np nq : Nd} (_hp : p ∈ r.ins) (hkp : p.kind = 2) (hnp : np ∈ N) (hrp : NodeR w r p np) (hq : q ∈ r.ins) (hkq : q.kind = 2) (hnq : nq ∈ N) (hrq : NodeR w r q nq) (hpi : p.id = i) (hqi : q.id = i2)
  (hl : liveP r (i, g) = true) (hl2 : liveP r (i2, g2) = true) (hk : (byIdP r.ins i).kind = 2) (hk2 : (byIdP r.ins i2).kind = 2) (hv : validP s = true) (hv2 : validP s2 = true)
  {x : RIn} {nx : Nd} (hx : x ∈ r.ins) (hnx : nx ∈ N) (hrx : NodeR w r x nx) (hxi : entryP r.nms i s = x.id) (hkx : x.kind = 2) (hbl : belowB r i2 x.id = true) (ho : entryP r.nms i2 s2 ≠ 0) (hox : entryP r.nms i2 s2 ≠ x.id) :
  Calls Tryz.prog 19 #[.pointer (some ⟨f, 0, none⟩), .agg #[.int .i64 i, .int .i64 g], .string s, .agg #[.int .i64 i2, .int .i64 g2], .string s2] w fun e w' => e = .returned (.int .i64 178) ∧ Below w.heap.size w w' := by
 obtain ⟨w2, hw2, hB, hz2, hb0, hb1⟩ := box2 w #[.int .i64 i, .int .i64 g] #[.int .i64 i2, .int .i64 g2] 37 37
 have t0 : w2.cell? ⟨w.heap.size, 0, none⟩ = some (.int .i64 i) := by rw [cell_at hb0]; rfl
 have t1 : w2.cell? ⟨w.heap.size, 1, none⟩ = some (.int .i64 g) := by rw [cell_at hb0]; rfl
 have t2 : w2.cell? ⟨w.heap.size + 1, 0, none⟩ = some (.int .i64 i2) := by rw [cell_at hb1]; rfl
 have t3 : w2.cell? ⟨w.heap.size + 1, 1, none⟩ = some (.int .i64 g2) := by rw [cell_at hb1]; rfl
 have h2 := h.below hW hB
 have HW2 := Lib.hid hw2
 have HB := Lib.hid hB
 have hrp2 := hrp.below (.inr (.inl hkp)) hB
 have hrq2 := hrq.below (.inr (.inl hkq)) hB
 have hpl := places_ok h2 hW i g s hs i2 g2 s2 hs2 hl hl2 hk hk2 hv hv2 hnp hnq (hrp.id.trans hpi) (hrq.id.trans hqi)
 have HP := Lib.hid hpl
 have HAt := Lib.hid (show ∀ w4, Below w2.heap.size w2 w4 → Calls Tryz.prog 26 #[.agg #[.pointer (some ⟨np.blk, 0, none⟩), .pointer (some ⟨np.b, 0, none⟩), .string s]] w4 fun e w' => e = .returned (.tuple #[.int .i64 (entryP r.nms i s), .bool (decide (entryP r.nms i s ≠ 0))]) ∧ Below w4.heap.size w4 w' from fun w4 hb => by
  have hr4 := hrp2.below (.inr (.inl hkp)) hb
  have := at_any hr4 hkp (hr4.lt (.inr (.inl hkp))) s (some ⟨np.blk, 0, none⟩)
  rw [hpi, hW.entry_some] at this
  exact this)
 have HAt2 := Lib.hid (show ∀ w4, Below w2.heap.size w2 w4 → Calls Tryz.prog 26 #[.agg #[.pointer (some ⟨nq.blk, 0, none⟩), .pointer (some ⟨nq.b, 0, none⟩), .string s2]] w4 fun e w' => e = .returned (.tuple #[.int .i64 (entryP r.nms i2 s2), .bool (decide (entryP r.nms i2 s2 ≠ 0))]) ∧ Below w4.heap.size w4 w' from fun w4 hb => by
  have hr4 := hrq2.below (.inr (.inl hkq)) hb
  have := at_any hr4 hkq (hr4.lt (.inr (.inl hkq))) s2 (some ⟨nq.blk, 0, none⟩)
  rw [hqi, hW.entry_some] at this
  exact this)
 have hx0 : x.id ≠ 0 := hW.ne0 hx
 rw [hxi, decide_eq_true hx0] at HAt
 have hrx2 := hrx.below (hW.kind x hx) hB
 have HX := Lib.hid (show ∀ w', Below w2.heap.size w2 w' → w'.cell? ⟨f, 1, none⟩ = some (.map (some mi)) ∧ w'.cell? ⟨nx.blk, 5, none⟩ = some (holdsV x nx) ∧ (Instr.lookup 63 (.map (some mi)) (.int .i64 x.id) false).run Tryz.prog w' = .ok (.pointer (some ⟨nx.blk, 0, none⟩)) w' ∧ w'.cell? ⟨nq.blk, 0, none⟩ = some (.int .i64 i2) ∧ w'.cell? ⟨nq.blk, 4, none⟩ = some (.int .i64 (linksN r q : Int)) from fun w' hb => by
  have h4 := h2.below hW hb
  have hg := h4.get hnx
  rw [hrx.id] at hg
  have hlk := (h4.look x.id).2
  rw [hg] at hlk
  have hq4 := (hrq2.below (.inr (.inl hkq)) hb).cells
  exact ⟨h4.cells.2.1, (hrx2.below (hW.kind x hx) hb).cells.2.2.2.2.2, hlk, by rw [← hqi]; exact hq4.1, hq4.2.2.2.2.1⟩)
 have hta : ∀ w, (Instr.typeAssert (holdsV x nx) 20 68 true).run Tryz.prog w = .ok (.tuple #[.pointer (some ⟨nx.b, 0, none⟩), .bool true]) w := fun w => by rw [ta_dir, if_pos hkx]; rfl
 rw [decide_eq_true ho] at HAt2
 have hbq : (entryP r.nms i2 s2 == x.id) = false := by rw [beq_eq_false_iff_ne]; exact hox
 have HBl := Lib.hid (show ∀ w', Below w2.heap.size w2 w' → Calls Tryz.prog 45 #[.pointer (some ⟨f, 0, none⟩), .int .i64 i2, .int .i64 x.id] w' fun e w'' => e = .returned (.bool true) ∧ w' = w'' from fun w' hb => by
  have := below_any (h2.below hW hb) hW hq hkq x.id
  rw [hqi, hbl] at this
  exact this)
 clear hw2 hB hb0 hb1 h h2 hW hrp2 hrq2 hpl _hp hkp hnp hrp hq hkq hnq hrq hpi hqi hl hl2 hk hk2 hv hv2 hx hnx hrx hxi hx0 hrx2 ho hkx hbl hox
 go_enter Tryz.func19, Tryz.ntmps19
 go_wp2_with fail
 rw [HW2.out]
 go_upto_region 4 with (go_at_call 44; (with_reducible refine HP.out.mono ?_); rintro e w3 ⟨rfl, hB3⟩; have hs3 := hB3.size; replace hB3 := Lib.hid hB3)
 obtain ⟨w4, hw4, hB4, hs4, hb40, hb41⟩ := box2 w3 #[.pointer (some ⟨np.blk, 0, none⟩), .pointer (some ⟨np.b, 0, none⟩), .string s] #[.pointer (some ⟨nq.blk, 0, none⟩), .pointer (some ⟨nq.b, 0, none⟩), .string s2] 85 85
 rw [hw4]
 have c0 : w4.cell? ⟨w3.heap.size, 0, none⟩ = some (.pointer (some ⟨np.blk, 0, none⟩)) := by rw [cell_at hb40]; rfl
 have c1 : w4.cell? ⟨w3.heap.size, 1, none⟩ = some (.pointer (some ⟨np.b, 0, none⟩)) := by rw [cell_at hb40]; rfl
 have c2 : w4.cell? ⟨w3.heap.size, 2, none⟩ = some (.string s) := by rw [cell_at hb40]; rfl
 have HQ1 := Lib.hid hb40
 have HQ2 := Lib.hid hb41
 have HB4 := Lib.hid (hB3.out.trans (hB4.mono (by omega)))
 clear hw4 hb40 hb41 hB4
 go_wp2_with (first
  | (go_at_call 26; (with_reducible refine (HAt.out w4 HB4.out).mono ?_); rintro e w5 ⟨rfl, hB5⟩; have hs5 := hB5.size; have hY := (hB5.block _ (by omega)).trans HQ2.out; have d0 : w5.cell? ⟨w3.heap.size + 1, 0, none⟩ = _ := cell_at hY 0; have d1 : w5.cell? ⟨w3.heap.size + 1, 1, none⟩ = _ := cell_at hY 1; have d2 : w5.cell? ⟨w3.heap.size + 1, 2, none⟩ = _ := cell_at hY 2; have HQ25 := Lib.hid hY; have HQ15 := Lib.hid ((hB5.block _ (by omega)).trans HQ1.out); clear hY; have HB5 := Lib.hid (HB4.out.trans (hB5.mono HB4.out.size)); obtain ⟨x1, x2, x3, -, -⟩ := HX.out w5 HB5.out; clear hB5)
  | (go_at_call 26; (with_reducible refine (HAt2.out w5 HB5.out).mono ?_); rintro e w6 ⟨rfl, hB6⟩; have hs6 := hB6.size; have HQ26 := Lib.hid ((hB6.block _ (by omega)).trans HQ25.out); have HQ16 := Lib.hid ((hB6.block _ (by omega)).trans HQ15.out); have e0 : w6.cell? ⟨w3.heap.size, 0, none⟩ = _ := cell_at HQ16.out 0; have g0 : w6.cell? ⟨w3.heap.size + 1, 0, none⟩ = _ := cell_at HQ26.out 0; have HB6 := Lib.hid (HB5.out.trans (hB6.mono HB5.out.size)); obtain ⟨y1, y2, y3, y4, y5⟩ := HX.out w6 HB6.out; clear hB6)
  | (go_at_call 45; (with_reducible refine (HBl.out w6 HB6.out).mono ?_); rintro e w7 ⟨rfl, rfl⟩))
 go_ret
 exact ⟨rfl, HB.out.trans (HB6.out.mono (by omega))⟩
set_option maxRecDepth 100000 in
set_option maxHeartbeats 8000000 in
theorem rename_may0 {w : World} {f mi mg K : Nat} {r : RFs} {N : List Nd} (h : FsN w f mi mg r N) (hW : Wf r K) (i g : Int) (s : ByteArray) (hs : s.size ≤ maxLen) (i2 g2 : Int) (s2 : ByteArray) (hs2 : s2.size ≤ maxLen)
  {p q : RIn} {np nq : Nd} (_hp : p ∈ r.ins) (hkp : p.kind = 2) (hnp : np ∈ N) (hrp : NodeR w r p np) (_hq : q ∈ r.ins) (hkq : q.kind = 2) (hnq : nq ∈ N) (hrq : NodeR w r q nq) (hpi : p.id = i) (hqi : q.id = i2)
  (hl : liveP r (i, g) = true) (hl2 : liveP r (i2, g2) = true) (hk : (byIdP r.ins i).kind = 2) (hk2 : (byIdP r.ins i2).kind = 2) (hv : validP s = true) (hv2 : validP s2 = true)
  {x : RIn} {nx : Nd} (hx : x ∈ r.ins) (hnx : nx ∈ N) (hrx : NodeR w r x nx) (hxi : entryP r.nms i s = x.id) {o : RIn} {no : Nd} (ho : o ∈ r.ins) (hno : no ∈ N) (hro : NodeR w r o no) (hoi : entryP r.nms i2 s2 = o.id) (hox : o.id ≠ x.id) (hkx : ¬ x.kind = 2) (hmy : mayP r o false ≠ 0) :
  Calls Tryz.prog 19 #[.pointer (some ⟨f, 0, none⟩), .agg #[.int .i64 i, .int .i64 g], .string s, .agg #[.int .i64 i2, .int .i64 g2], .string s2] w fun e w' => e = .returned (.int .i64 (mayP r o false)) ∧ Below w.heap.size w w' := by
 obtain ⟨w2, hw2, hB, hz2, hb0, hb1⟩ := box2 w #[.int .i64 i, .int .i64 g] #[.int .i64 i2, .int .i64 g2] 37 37
 have t0 : w2.cell? ⟨w.heap.size, 0, none⟩ = some (.int .i64 i) := by rw [cell_at hb0]; rfl
 have t1 : w2.cell? ⟨w.heap.size, 1, none⟩ = some (.int .i64 g) := by rw [cell_at hb0]; rfl
 have t2 : w2.cell? ⟨w.heap.size + 1, 0, none⟩ = some (.int .i64 i2) := by rw [cell_at hb1]; rfl
 have t3 : w2.cell? ⟨w.heap.size + 1, 1, none⟩ = some (.int .i64 g2) := by rw [cell_at hb1]; rfl
 have h2 := h.below hW hB
 have HW2 := Lib.hid hw2
 have HB := Lib.hid hB
 have hrp2 := hrp.below (.inr (.inl hkp)) hB
 have hrq2 := hrq.below (.inr (.inl hkq)) hB
 have hpl := places_ok h2 hW i g s hs i2 g2 s2 hs2 hl hl2 hk hk2 hv hv2 hnp hnq (hrp.id.trans hpi) (hrq.id.trans hqi)
 have HP := Lib.hid hpl
 have HAt := Lib.hid (show ∀ w4, Below w2.heap.size w2 w4 → Calls Tryz.prog 26 #[.agg #[.pointer (some ⟨np.blk, 0, none⟩), .pointer (some ⟨np.b, 0, none⟩), .string s]] w4 fun e w' => e = .returned (.tuple #[.int .i64 (entryP r.nms i s), .bool (decide (entryP r.nms i s ≠ 0))]) ∧ Below w4.heap.size w4 w' from fun w4 hb => by
  have hr4 := hrp2.below (.inr (.inl hkp)) hb
  have := at_any hr4 hkp (hr4.lt (.inr (.inl hkp))) s (some ⟨np.blk, 0, none⟩)
  rw [hpi, hW.entry_some] at this
  exact this)
 have HAt2 := Lib.hid (show ∀ w4, Below w2.heap.size w2 w4 → Calls Tryz.prog 26 #[.agg #[.pointer (some ⟨nq.blk, 0, none⟩), .pointer (some ⟨nq.b, 0, none⟩), .string s2]] w4 fun e w' => e = .returned (.tuple #[.int .i64 (entryP r.nms i2 s2), .bool (decide (entryP r.nms i2 s2 ≠ 0))]) ∧ Below w4.heap.size w4 w' from fun w4 hb => by
  have hr4 := hrq2.below (.inr (.inl hkq)) hb
  have := at_any hr4 hkq (hr4.lt (.inr (.inl hkq))) s2 (some ⟨nq.blk, 0, none⟩)
  rw [hqi, hW.entry_some] at this
  exact this)
 have hx0 : x.id ≠ 0 := hW.ne0 hx
 rw [hxi, decide_eq_true hx0] at HAt
 have hrx2 := hrx.below (hW.kind x hx) hB
 have HX := Lib.hid (show ∀ w', Below w2.heap.size w2 w' → w'.cell? ⟨f, 1, none⟩ = some (.map (some mi)) ∧ w'.cell? ⟨nx.blk, 5, none⟩ = some (holdsV x nx) ∧ (Instr.lookup 63 (.map (some mi)) (.int .i64 x.id) false).run Tryz.prog w' = .ok (.pointer (some ⟨nx.blk, 0, none⟩)) w' ∧ w'.cell? ⟨nq.blk, 0, none⟩ = some (.int .i64 i2) ∧ w'.cell? ⟨nq.blk, 4, none⟩ = some (.int .i64 (linksN r q : Int)) from fun w' hb => by
  have h4 := h2.below hW hb
  have hg := h4.get hnx
  rw [hrx.id] at hg
  have hlk := (h4.look x.id).2
  rw [hg] at hlk
  have hq4 := (hrq2.below (.inr (.inl hkq)) hb).cells
  exact ⟨h4.cells.2.1, (hrx2.below (hW.kind x hx) hb).cells.2.2.2.2.2, hlk, by rw [← hqi]; exact hq4.1, hq4.2.2.2.2.1⟩)
 have hta : ∀ w, (Instr.typeAssert (holdsV x nx) 20 68 true).run Tryz.prog w = .ok (.tuple #[.pointer none, .bool false]) w := fun w => by rw [ta_dir, if_neg hkx]
 have ho0 : o.id ≠ 0 := hW.ne0 ho
 rw [hoi, decide_eq_true ho0] at HAt2
 have hbq : (o.id == x.id) = false := by rw [beq_eq_false_iff_ne]; exact hox
 have hro2 := hro.below (hW.kind o ho) hB
 have HO := Lib.hid (show ∀ w', Below w2.heap.size w2 w' → (Instr.lookup 63 (.map (some mi)) (.int .i64 o.id) false).run Tryz.prog w' = .ok (.pointer (some ⟨no.blk, 0, none⟩)) w' from fun w' hb => by
  have h4 := h2.below hW hb
  have hg := h4.get hno
  rw [hro.id] at hg
  have hlk := (h4.look o.id).2
  rw [hg] at hlk
  exact hlk)
 have HMy := Lib.hid (show ∀ w', Below w2.heap.size w2 w' → Calls Tryz.prog 46 #[.pointer (some ⟨f, 0, none⟩), .pointer (some ⟨no.blk, 0, none⟩), .bool false] w' fun e w'' => e = .returned (.int .i64 (mayP r o false)) ∧ w' = w'' from fun w' hb => by
  have := may_any (hro2.below (hW.kind o ho) hb) false (some ⟨f, 0, none⟩)
  exact this)
 have hmn : (mayP r o false != 0) = true := by rw [bne_iff_ne]; exact hmy
 generalize mayP r o false = my at *
 clear hw2 hB hb0 hb1 h h2 hW hrp2 hrq2 hpl _hp hkp hnp hrp _hq hkq hnq hrq hpi hqi hl hl2 hk hk2 hv hv2 hx hnx hrx hxi hx0 hrx2 hkx hmy ho hno hro hoi hox ho0 hro2
 go_enter Tryz.func19, Tryz.ntmps19
 go_wp2_with fail
 rw [HW2.out]
 go_upto_region 4 with (go_at_call 44; (with_reducible refine HP.out.mono ?_); rintro e w3 ⟨rfl, hB3⟩; have hs3 := hB3.size; replace hB3 := Lib.hid hB3)
 obtain ⟨w4, hw4, hB4, hs4, hb40, hb41⟩ := box2 w3 #[.pointer (some ⟨np.blk, 0, none⟩), .pointer (some ⟨np.b, 0, none⟩), .string s] #[.pointer (some ⟨nq.blk, 0, none⟩), .pointer (some ⟨nq.b, 0, none⟩), .string s2] 85 85
 rw [hw4]
 have c0 : w4.cell? ⟨w3.heap.size, 0, none⟩ = some (.pointer (some ⟨np.blk, 0, none⟩)) := by rw [cell_at hb40]; rfl
 have c1 : w4.cell? ⟨w3.heap.size, 1, none⟩ = some (.pointer (some ⟨np.b, 0, none⟩)) := by rw [cell_at hb40]; rfl
 have c2 : w4.cell? ⟨w3.heap.size, 2, none⟩ = some (.string s) := by rw [cell_at hb40]; rfl
 have HQ1 := Lib.hid hb40
 have HQ2 := Lib.hid hb41
 have HB4 := Lib.hid (hB3.out.trans (hB4.mono (by omega)))
 clear hw4 hb40 hb41 hB4
 go_wp2_with (first
  | (go_at_call 26; (with_reducible refine (HAt.out w4 HB4.out).mono ?_); rintro e w5 ⟨rfl, hB5⟩; have hs5 := hB5.size; have hY := (hB5.block _ (by omega)).trans HQ2.out; have d0 : w5.cell? ⟨w3.heap.size + 1, 0, none⟩ = _ := cell_at hY 0; have d1 : w5.cell? ⟨w3.heap.size + 1, 1, none⟩ = _ := cell_at hY 1; have d2 : w5.cell? ⟨w3.heap.size + 1, 2, none⟩ = _ := cell_at hY 2; have HQ25 := Lib.hid hY; have HQ15 := Lib.hid ((hB5.block _ (by omega)).trans HQ1.out); clear hY; have HB5 := Lib.hid (HB4.out.trans (hB5.mono HB4.out.size)); obtain ⟨x1, x2, x3, -, -⟩ := HX.out w5 HB5.out; clear hB5)
  | (go_at_call 26; (with_reducible refine (HAt2.out w5 HB5.out).mono ?_); rintro e w6 ⟨rfl, hB6⟩; have hs6 := hB6.size; have HQ26 := Lib.hid ((hB6.block _ (by omega)).trans HQ25.out); have HQ16 := Lib.hid ((hB6.block _ (by omega)).trans HQ15.out); have e0 : w6.cell? ⟨w3.heap.size, 0, none⟩ = _ := cell_at HQ16.out 0; have g0 : w6.cell? ⟨w3.heap.size + 1, 0, none⟩ = _ := cell_at HQ26.out 0; have HB6 := Lib.hid (HB5.out.trans (hB6.mono HB5.out.size)); obtain ⟨y1, y2, y3, y4, y5⟩ := HX.out w6 HB6.out; clear hB6; have z1 := HO.out w6 HB6.out)
  | (go_at_call 45; (with_reducible refine (HBl.out w6 HB6.out).mono ?_); rintro e w7 ⟨rfl, rfl⟩)
  | (go_at_call 46; (with_reducible refine (HMy.out w6 HB6.out).mono ?_); rintro e w7 ⟨rfl, rfl⟩))
 go_ret
 exact ⟨rfl, HB.out.trans (HB6.out.mono (by omega))⟩
set_option maxRecDepth 100000 in
set_option maxHeartbeats 8000000 in
theorem rename_may1 {w : World} {f mi mg K : Nat} {r : RFs} {N : List Nd} (h : FsN w f mi mg r N) (hW : Wf r K) (i g : Int) (s : ByteArray) (hs : s.size ≤ maxLen) (i2 g2 : Int) (s2 : ByteArray) (hs2 : s2.size ≤ maxLen)
  {p q : RIn} {np nq : Nd} (_hp : p ∈ r.ins) (hkp : p.kind = 2) (hnp : np ∈ N) (hrp : NodeR w r p np) (hq : q ∈ r.ins) (hkq : q.kind = 2) (hnq : nq ∈ N) (hrq : NodeR w r q nq) (hpi : p.id = i) (hqi : q.id = i2)
  (hl : liveP r (i, g) = true) (hl2 : liveP r (i2, g2) = true) (hk : (byIdP r.ins i).kind = 2) (hk2 : (byIdP r.ins i2).kind = 2) (hv : validP s = true) (hv2 : validP s2 = true)
  {x : RIn} {nx : Nd} (hx : x ∈ r.ins) (hnx : nx ∈ N) (hrx : NodeR w r x nx) (hxi : entryP r.nms i s = x.id) {o : RIn} {no : Nd} (ho : o ∈ r.ins) (hno : no ∈ N) (hro : NodeR w r o no) (hoi : entryP r.nms i2 s2 = o.id) (hox : o.id ≠ x.id) (hkx : x.kind = 2) (hbl : belowB r i2 x.id = false) (hmy : mayP r o true ≠ 0) :
  Calls Tryz.prog 19 #[.pointer (some ⟨f, 0, none⟩), .agg #[.int .i64 i, .int .i64 g], .string s, .agg #[.int .i64 i2, .int .i64 g2], .string s2] w fun e w' => e = .returned (.int .i64 (mayP r o true)) ∧ Below w.heap.size w w' := by
 obtain ⟨w2, hw2, hB, hz2, hb0, hb1⟩ := box2 w #[.int .i64 i, .int .i64 g] #[.int .i64 i2, .int .i64 g2] 37 37
 have t0 : w2.cell? ⟨w.heap.size, 0, none⟩ = some (.int .i64 i) := by rw [cell_at hb0]; rfl
 have t1 : w2.cell? ⟨w.heap.size, 1, none⟩ = some (.int .i64 g) := by rw [cell_at hb0]; rfl
 have t2 : w2.cell? ⟨w.heap.size + 1, 0, none⟩ = some (.int .i64 i2) := by rw [cell_at hb1]; rfl
 have t3 : w2.cell? ⟨w.heap.size + 1, 1, none⟩ = some (.int .i64 g2) := by rw [cell_at hb1]; rfl
 have h2 := h.below hW hB
 have HW2 := Lib.hid hw2
 have HB := Lib.hid hB
 have hrp2 := hrp.below (.inr (.inl hkp)) hB
 have hrq2 := hrq.below (.inr (.inl hkq)) hB
 have hpl := places_ok h2 hW i g s hs i2 g2 s2 hs2 hl hl2 hk hk2 hv hv2 hnp hnq (hrp.id.trans hpi) (hrq.id.trans hqi)
 have HP := Lib.hid hpl
 have HAt := Lib.hid (show ∀ w4, Below w2.heap.size w2 w4 → Calls Tryz.prog 26 #[.agg #[.pointer (some ⟨np.blk, 0, none⟩), .pointer (some ⟨np.b, 0, none⟩), .string s]] w4 fun e w' => e = .returned (.tuple #[.int .i64 (entryP r.nms i s), .bool (decide (entryP r.nms i s ≠ 0))]) ∧ Below w4.heap.size w4 w' from fun w4 hb => by
  have hr4 := hrp2.below (.inr (.inl hkp)) hb
  have := at_any hr4 hkp (hr4.lt (.inr (.inl hkp))) s (some ⟨np.blk, 0, none⟩)
  rw [hpi, hW.entry_some] at this
  exact this)
 have HAt2 := Lib.hid (show ∀ w4, Below w2.heap.size w2 w4 → Calls Tryz.prog 26 #[.agg #[.pointer (some ⟨nq.blk, 0, none⟩), .pointer (some ⟨nq.b, 0, none⟩), .string s2]] w4 fun e w' => e = .returned (.tuple #[.int .i64 (entryP r.nms i2 s2), .bool (decide (entryP r.nms i2 s2 ≠ 0))]) ∧ Below w4.heap.size w4 w' from fun w4 hb => by
  have hr4 := hrq2.below (.inr (.inl hkq)) hb
  have := at_any hr4 hkq (hr4.lt (.inr (.inl hkq))) s2 (some ⟨nq.blk, 0, none⟩)
  rw [hqi, hW.entry_some] at this
  exact this)
 have hx0 : x.id ≠ 0 := hW.ne0 hx
 rw [hxi, decide_eq_true hx0] at HAt
 have hrx2 := hrx.below (hW.kind x hx) hB
 have HX := Lib.hid (show ∀ w', Below w2.heap.size w2 w' → w'.cell? ⟨f, 1, none⟩ = some (.map (some mi)) ∧ w'.cell? ⟨nx.blk, 5, none⟩ = some (holdsV x nx) ∧ (Instr.lookup 63 (.map (some mi)) (.int .i64 x.id) false).run Tryz.prog w' = .ok (.pointer (some ⟨nx.blk, 0, none⟩)) w' ∧ w'.cell? ⟨nq.blk, 0, none⟩ = some (.int .i64 i2) ∧ w'.cell? ⟨nq.blk, 4, none⟩ = some (.int .i64 (linksN r q : Int)) from fun w' hb => by
  have h4 := h2.below hW hb
  have hg := h4.get hnx
  rw [hrx.id] at hg
  have hlk := (h4.look x.id).2
  rw [hg] at hlk
  have hq4 := (hrq2.below (.inr (.inl hkq)) hb).cells
  exact ⟨h4.cells.2.1, (hrx2.below (hW.kind x hx) hb).cells.2.2.2.2.2, hlk, by rw [← hqi]; exact hq4.1, hq4.2.2.2.2.1⟩)
 have hta : ∀ w, (Instr.typeAssert (holdsV x nx) 20 68 true).run Tryz.prog w = .ok (.tuple #[.pointer (some ⟨nx.b, 0, none⟩), .bool true]) w := fun w => by rw [ta_dir, if_pos hkx]; rfl
 have ho0 : o.id ≠ 0 := hW.ne0 ho
 rw [hoi, decide_eq_true ho0] at HAt2
 have hbq : (o.id == x.id) = false := by rw [beq_eq_false_iff_ne]; exact hox
 have hro2 := hro.below (hW.kind o ho) hB
 have HO := Lib.hid (show ∀ w', Below w2.heap.size w2 w' → (Instr.lookup 63 (.map (some mi)) (.int .i64 o.id) false).run Tryz.prog w' = .ok (.pointer (some ⟨no.blk, 0, none⟩)) w' from fun w' hb => by
  have h4 := h2.below hW hb
  have hg := h4.get hno
  rw [hro.id] at hg
  have hlk := (h4.look o.id).2
  rw [hg] at hlk
  exact hlk)
 have HMy := Lib.hid (show ∀ w', Below w2.heap.size w2 w' → Calls Tryz.prog 46 #[.pointer (some ⟨f, 0, none⟩), .pointer (some ⟨no.blk, 0, none⟩), .bool true] w' fun e w'' => e = .returned (.int .i64 (mayP r o true)) ∧ w' = w'' from fun w' hb => by
  have := may_any (hro2.below (hW.kind o ho) hb) true (some ⟨f, 0, none⟩)
  exact this)
 have HBl := Lib.hid (show ∀ w', Below w2.heap.size w2 w' → Calls Tryz.prog 45 #[.pointer (some ⟨f, 0, none⟩), .int .i64 i2, .int .i64 x.id] w' fun e w'' => e = .returned (.bool false) ∧ w' = w'' from fun w' hb => by
  have := below_any (h2.below hW hb) hW hq hkq x.id
  rw [hqi, hbl] at this
  exact this)
 have hmn : (mayP r o true != 0) = true := by rw [bne_iff_ne]; exact hmy
 generalize mayP r o true = my at *
 clear hw2 hB hb0 hb1 h h2 hW hrp2 hrq2 hpl _hp hkp hnp hrp hq hkq hnq hrq hpi hqi hl hl2 hk hk2 hv hv2 hx hnx hrx hxi hx0 hrx2 hkx hmy ho hno hro hoi hox ho0 hro2 hbl
 go_enter Tryz.func19, Tryz.ntmps19
 go_wp2_with fail
 rw [HW2.out]
 go_upto_region 4 with (go_at_call 44; (with_reducible refine HP.out.mono ?_); rintro e w3 ⟨rfl, hB3⟩; have hs3 := hB3.size; replace hB3 := Lib.hid hB3)
 obtain ⟨w4, hw4, hB4, hs4, hb40, hb41⟩ := box2 w3 #[.pointer (some ⟨np.blk, 0, none⟩), .pointer (some ⟨np.b, 0, none⟩), .string s] #[.pointer (some ⟨nq.blk, 0, none⟩), .pointer (some ⟨nq.b, 0, none⟩), .string s2] 85 85
 rw [hw4]
 have c0 : w4.cell? ⟨w3.heap.size, 0, none⟩ = some (.pointer (some ⟨np.blk, 0, none⟩)) := by rw [cell_at hb40]; rfl
 have c1 : w4.cell? ⟨w3.heap.size, 1, none⟩ = some (.pointer (some ⟨np.b, 0, none⟩)) := by rw [cell_at hb40]; rfl
 have c2 : w4.cell? ⟨w3.heap.size, 2, none⟩ = some (.string s) := by rw [cell_at hb40]; rfl
 have HQ1 := Lib.hid hb40
 have HQ2 := Lib.hid hb41
 have HB4 := Lib.hid (hB3.out.trans (hB4.mono (by omega)))
 clear hw4 hb40 hb41 hB4
 go_wp2_with (first
  | (go_at_call 26; (with_reducible refine (HAt.out w4 HB4.out).mono ?_); rintro e w5 ⟨rfl, hB5⟩; have hs5 := hB5.size; have hY := (hB5.block _ (by omega)).trans HQ2.out; have d0 : w5.cell? ⟨w3.heap.size + 1, 0, none⟩ = _ := cell_at hY 0; have d1 : w5.cell? ⟨w3.heap.size + 1, 1, none⟩ = _ := cell_at hY 1; have d2 : w5.cell? ⟨w3.heap.size + 1, 2, none⟩ = _ := cell_at hY 2; have HQ25 := Lib.hid hY; have HQ15 := Lib.hid ((hB5.block _ (by omega)).trans HQ1.out); clear hY; have HB5 := Lib.hid (HB4.out.trans (hB5.mono HB4.out.size)); obtain ⟨x1, x2, x3, -, -⟩ := HX.out w5 HB5.out; clear hB5)
  | (go_at_call 26; (with_reducible refine (HAt2.out w5 HB5.out).mono ?_); rintro e w6 ⟨rfl, hB6⟩; have hs6 := hB6.size; have HQ26 := Lib.hid ((hB6.block _ (by omega)).trans HQ25.out); have HQ16 := Lib.hid ((hB6.block _ (by omega)).trans HQ15.out); have e0 : w6.cell? ⟨w3.heap.size, 0, none⟩ = _ := cell_at HQ16.out 0; have g0 : w6.cell? ⟨w3.heap.size + 1, 0, none⟩ = _ := cell_at HQ26.out 0; have HB6 := Lib.hid (HB5.out.trans (hB6.mono HB5.out.size)); obtain ⟨y1, y2, y3, y4, y5⟩ := HX.out w6 HB6.out; clear hB6; have z1 := HO.out w6 HB6.out)
  | (go_at_call 45; (with_reducible refine (HBl.out w6 HB6.out).mono ?_); rintro e w7 ⟨rfl, rfl⟩)
  | (go_at_call 46; (with_reducible refine (HMy.out w6 HB6.out).mono ?_); rintro e w7 ⟨rfl, rfl⟩))
 go_ret
 exact ⟨rfl, HB.out.trans (HB6.out.mono (by omega))⟩
set_option maxRecDepth 100000 in
set_option maxHeartbeats 8000000 in
theorem rename_links {w : World} {f mi mg K : Nat} {r : RFs} {N : List Nd} (h : FsN w f mi mg r N) (hW : Wf r K) (i g : Int) (s : ByteArray) (hs : s.size ≤ maxLen) (i2 g2 : Int) (s2 : ByteArray) (hs2 : s2.size ≤ maxLen)
  {p q : RIn} {np nq : Nd} (_hp : p ∈ r.ins) (hkp : p.kind = 2) (hnp : np ∈ N) (hrp : NodeR w r p np) (hq : q ∈ r.ins) (hkq : q.kind = 2) (hnq : nq ∈ N) (hrq : NodeR w r q nq) (hpi : p.id = i) (hqi : q.id = i2)
  (hl : liveP r (i, g) = true) (hl2 : liveP r (i2, g2) = true) (hk : (byIdP r.ins i).kind = 2) (hk2 : (byIdP r.ins i2).kind = 2) (hv : validP s = true) (hv2 : validP s2 = true)
  {x : RIn} {nx : Nd} (hx : x ∈ r.ins) (hnx : nx ∈ N) (hrx : NodeR w r x nx) (hxi : entryP r.nms i s = x.id) (hkx : x.kind = 2) (hbl : belowB r i2 x.id = false) (ho : entryP r.nms i2 s2 = 0) (hpq : np.blk ≠ nq.blk) (hlq : 20 ≤ linksN r q) :
  Calls Tryz.prog 19 #[.pointer (some ⟨f, 0, none⟩), .agg #[.int .i64 i, .int .i64 g], .string s, .agg #[.int .i64 i2, .int .i64 g2], .string s2] w fun e w' => e = .returned (.int .i64 179) ∧ Below w.heap.size w w' := by
 obtain ⟨w2, hw2, hB, hz2, hb0, hb1⟩ := box2 w #[.int .i64 i, .int .i64 g] #[.int .i64 i2, .int .i64 g2] 37 37
 have t0 : w2.cell? ⟨w.heap.size, 0, none⟩ = some (.int .i64 i) := by rw [cell_at hb0]; rfl
 have t1 : w2.cell? ⟨w.heap.size, 1, none⟩ = some (.int .i64 g) := by rw [cell_at hb0]; rfl
 have t2 : w2.cell? ⟨w.heap.size + 1, 0, none⟩ = some (.int .i64 i2) := by rw [cell_at hb1]; rfl
 have t3 : w2.cell? ⟨w.heap.size + 1, 1, none⟩ = some (.int .i64 g2) := by rw [cell_at hb1]; rfl
 have h2 := h.below hW hB
 have HW2 := Lib.hid hw2
 have HB := Lib.hid hB
 have hrp2 := hrp.below (.inr (.inl hkp)) hB
 have hrq2 := hrq.below (.inr (.inl hkq)) hB
 have hpl := places_ok h2 hW i g s hs i2 g2 s2 hs2 hl hl2 hk hk2 hv hv2 hnp hnq (hrp.id.trans hpi) (hrq.id.trans hqi)
 have HP := Lib.hid hpl
 have HAt := Lib.hid (show ∀ w4, Below w2.heap.size w2 w4 → Calls Tryz.prog 26 #[.agg #[.pointer (some ⟨np.blk, 0, none⟩), .pointer (some ⟨np.b, 0, none⟩), .string s]] w4 fun e w' => e = .returned (.tuple #[.int .i64 (entryP r.nms i s), .bool (decide (entryP r.nms i s ≠ 0))]) ∧ Below w4.heap.size w4 w' from fun w4 hb => by
  have hr4 := hrp2.below (.inr (.inl hkp)) hb
  have := at_any hr4 hkp (hr4.lt (.inr (.inl hkp))) s (some ⟨np.blk, 0, none⟩)
  rw [hpi, hW.entry_some] at this
  exact this)
 have HAt2 := Lib.hid (show ∀ w4, Below w2.heap.size w2 w4 → Calls Tryz.prog 26 #[.agg #[.pointer (some ⟨nq.blk, 0, none⟩), .pointer (some ⟨nq.b, 0, none⟩), .string s2]] w4 fun e w' => e = .returned (.tuple #[.int .i64 (entryP r.nms i2 s2), .bool (decide (entryP r.nms i2 s2 ≠ 0))]) ∧ Below w4.heap.size w4 w' from fun w4 hb => by
  have hr4 := hrq2.below (.inr (.inl hkq)) hb
  have := at_any hr4 hkq (hr4.lt (.inr (.inl hkq))) s2 (some ⟨nq.blk, 0, none⟩)
  rw [hqi, hW.entry_some] at this
  exact this)
 have hx0 : x.id ≠ 0 := hW.ne0 hx
 rw [hxi, decide_eq_true hx0] at HAt
 have hrx2 := hrx.below (hW.kind x hx) hB
 have HX := Lib.hid (show ∀ w', Below w2.heap.size w2 w' → w'.cell? ⟨f, 1, none⟩ = some (.map (some mi)) ∧ w'.cell? ⟨nx.blk, 5, none⟩ = some (holdsV x nx) ∧ (Instr.lookup 63 (.map (some mi)) (.int .i64 x.id) false).run Tryz.prog w' = .ok (.pointer (some ⟨nx.blk, 0, none⟩)) w' ∧ w'.cell? ⟨nq.blk, 0, none⟩ = some (.int .i64 i2) ∧ w'.cell? ⟨nq.blk, 4, none⟩ = some (.int .i64 (linksN r q : Int)) from fun w' hb => by
  have h4 := h2.below hW hb
  have hg := h4.get hnx
  rw [hrx.id] at hg
  have hlk := (h4.look x.id).2
  rw [hg] at hlk
  have hq4 := (hrq2.below (.inr (.inl hkq)) hb).cells
  exact ⟨h4.cells.2.1, (hrx2.below (hW.kind x hx) hb).cells.2.2.2.2.2, hlk, by rw [← hqi]; exact hq4.1, hq4.2.2.2.2.1⟩)
 have hta : ∀ w, (Instr.typeAssert (holdsV x nx) 20 68 true).run Tryz.prog w = .ok (.tuple #[.pointer (some ⟨nx.b, 0, none⟩), .bool true]) w := fun w => by rw [ta_dir, if_pos hkx]; rfl
 rw [ho] at HAt2
 simp only [ne_eq, not_true_eq_false, decide_false] at HAt2
 have HBl := Lib.hid (show ∀ w', Below w2.heap.size w2 w' → Calls Tryz.prog 45 #[.pointer (some ⟨f, 0, none⟩), .int .i64 i2, .int .i64 x.id] w' fun e w'' => e = .returned (.bool false) ∧ w' = w'' from fun w' hb => by
  have := below_any (h2.below hW hb) hW hq hkq x.id
  rw [hqi, hbl] at this
  exact this)
 have q3 : decide (20 ≤ (linksN r q : Int)) = true := decide_eq_true (by omega)
 have q4 : decide (20 ≤ linksN r q) = true := decide_eq_true hlq
 have HNq := Lib.hid (show ∀ w', Below w2.heap.size w2 w' → (binOp .neq 67 (.pointer (some ⟨np.blk, 0, none⟩)) (.pointer (some ⟨nq.blk, 0, none⟩))).run Tryz.prog w' = .ok (.bool true) w' from fun w' hb => by
  have := neq_ino (hrp2.below (.inr (.inl hkp)) hb).head (hrq2.below (.inr (.inl hkq)) hb).head
  rw [decide_eq_false hpq] at this
  exact this)
 clear hw2 hB hb0 hb1 h h2 hW hrp2 hrq2 hpl _hp hkp hnp hrp hq hkq hnq hrq hpi hqi hl hl2 hk hk2 hv hv2 hx hnx hrx hxi hx0 hrx2 ho hkx hbl hpq
 go_enter Tryz.func19, Tryz.ntmps19
 go_wp2_with fail
 rw [HW2.out]
 go_upto_region 4 with (go_at_call 44; (with_reducible refine HP.out.mono ?_); rintro e w3 ⟨rfl, hB3⟩; have hs3 := hB3.size; replace hB3 := Lib.hid hB3)
 obtain ⟨w4, hw4, hB4, hs4, hb40, hb41⟩ := box2 w3 #[.pointer (some ⟨np.blk, 0, none⟩), .pointer (some ⟨np.b, 0, none⟩), .string s] #[.pointer (some ⟨nq.blk, 0, none⟩), .pointer (some ⟨nq.b, 0, none⟩), .string s2] 85 85
 rw [hw4]
 have c0 : w4.cell? ⟨w3.heap.size, 0, none⟩ = some (.pointer (some ⟨np.blk, 0, none⟩)) := by rw [cell_at hb40]; rfl
 have c1 : w4.cell? ⟨w3.heap.size, 1, none⟩ = some (.pointer (some ⟨np.b, 0, none⟩)) := by rw [cell_at hb40]; rfl
 have c2 : w4.cell? ⟨w3.heap.size, 2, none⟩ = some (.string s) := by rw [cell_at hb40]; rfl
 have HQ1 := Lib.hid hb40
 have HQ2 := Lib.hid hb41
 have HB4 := Lib.hid (hB3.out.trans (hB4.mono (by omega)))
 clear hw4 hb40 hb41 hB4
 go_wp2_with (first
  | (go_at_call 26; (with_reducible refine (HAt.out w4 HB4.out).mono ?_); rintro e w5 ⟨rfl, hB5⟩; have hs5 := hB5.size; have hY := (hB5.block _ (by omega)).trans HQ2.out; have d0 : w5.cell? ⟨w3.heap.size + 1, 0, none⟩ = _ := cell_at hY 0; have d1 : w5.cell? ⟨w3.heap.size + 1, 1, none⟩ = _ := cell_at hY 1; have d2 : w5.cell? ⟨w3.heap.size + 1, 2, none⟩ = _ := cell_at hY 2; have HQ25 := Lib.hid hY; have HQ15 := Lib.hid ((hB5.block _ (by omega)).trans HQ1.out); clear hY; have HB5 := Lib.hid (HB4.out.trans (hB5.mono HB4.out.size)); obtain ⟨x1, x2, x3, -, -⟩ := HX.out w5 HB5.out; clear hB5)
  | (go_at_call 26; (with_reducible refine (HAt2.out w5 HB5.out).mono ?_); rintro e w6 ⟨rfl, hB6⟩; have hs6 := hB6.size; have HQ26 := Lib.hid ((hB6.block _ (by omega)).trans HQ25.out); have HQ16 := Lib.hid ((hB6.block _ (by omega)).trans HQ15.out); have e0 : w6.cell? ⟨w3.heap.size, 0, none⟩ = _ := cell_at HQ16.out 0; have g0 : w6.cell? ⟨w3.heap.size + 1, 0, none⟩ = _ := cell_at HQ26.out 0; have HB6 := Lib.hid (HB5.out.trans (hB6.mono HB5.out.size)); obtain ⟨y1, y2, y3, y4, y5⟩ := HX.out w6 HB6.out; clear hB6; have y6 := HNq.out w6 HB6.out)
  | (go_at_call 45; (with_reducible refine (HBl.out w6 HB6.out).mono ?_); rintro e w7 ⟨rfl, rfl⟩))
 go_ret
 exact ⟨rfl, HB.out.trans (HB6.out.mono (by omega))⟩
set_option maxRecDepth 100000 in
set_option maxHeartbeats 8000000 in
theorem rename_mv0d {w : World} {f mi mg K : Nat} {r : RFs} {N : List Nd} (h : FsN w f mi mg r N) (hW : Wf r K) (i g : Int) (s : ByteArray) (hs : s.size ≤ maxLen) (i2 g2 : Int) (s2 : ByteArray) (hs2 : s2.size ≤ maxLen)
  {p q : RIn} {np nq : Nd} (hp : p ∈ r.ins) (hkp : p.kind = 2) (hnp : np ∈ N) (hrp : NodeR w r p np) (hq : q ∈ r.ins) (hkq : q.kind = 2) (hnq : nq ∈ N) (hrq : NodeR w r q nq) (hpi : p.id = i) (hqi : q.id = i2)
  (hl : liveP r (i, g) = true) (hl2 : liveP r (i2, g2) = true) (hk : (byIdP r.ins i).kind = 2) (hk2 : (byIdP r.ins i2).kind = 2) (hv : validP s = true) (hv2 : validP s2 = true)
  {x : RIn} {nx : Nd} (hx : x ∈ r.ins) (hnx : nx ∈ N) (hrx : NodeR w r x nx) (hxi : entryP r.nms i s = x.id) (hxq : x.id ≠ q.id) (ho : entryP r.nms i2 s2 = 0) (hkx : ¬ x.kind = 2) (hpq : np.blk ≠ nq.blk) :
  Calls Tryz.prog 19 #[.pointer (some ⟨f, 0, none⟩), .agg #[.int .i64 i, .int .i64 g], .string s, .agg #[.int .i64 i2, .int .i64 g2], .string s2] w fun e w' => e = .returned (.int .i64 0) ∧ StepR w w' f mi mg N (movedP r i s i2 s2 x) := by
 obtain ⟨w2, hw2, hB, hz2, hb0, hb1⟩ := box2 w #[.int .i64 i, .int .i64 g] #[.int .i64 i2, .int .i64 g2] 37 37
 have t0 : w2.cell? ⟨w.heap.size, 0, none⟩ = some (.int .i64 i) := by rw [cell_at hb0]; rfl
 have t1 : w2.cell? ⟨w.heap.size, 1, none⟩ = some (.int .i64 g) := by rw [cell_at hb0]; rfl
 have t2 : w2.cell? ⟨w.heap.size + 1, 0, none⟩ = some (.int .i64 i2) := by rw [cell_at hb1]; rfl
 have t3 : w2.cell? ⟨w.heap.size + 1, 1, none⟩ = some (.int .i64 g2) := by rw [cell_at hb1]; rfl
 have h2 := h.below hW hB
 have HW2 := Lib.hid hw2
 have HB := Lib.hid hB
 have hrp2 := hrp.below (.inr (.inl hkp)) hB
 have hrq2 := hrq.below (.inr (.inl hkq)) hB
 have hpl := places_ok h2 hW i g s hs i2 g2 s2 hs2 hl hl2 hk hk2 hv hv2 hnp hnq (hrp.id.trans hpi) (hrq.id.trans hqi)
 have HP := Lib.hid hpl
 have HAt := Lib.hid (show ∀ w4, Below w2.heap.size w2 w4 → Calls Tryz.prog 26 #[.agg #[.pointer (some ⟨np.blk, 0, none⟩), .pointer (some ⟨np.b, 0, none⟩), .string s]] w4 fun e w' => e = .returned (.tuple #[.int .i64 (entryP r.nms i s), .bool (decide (entryP r.nms i s ≠ 0))]) ∧ Below w4.heap.size w4 w' from fun w4 hb => by
  have hr4 := hrp2.below (.inr (.inl hkp)) hb
  have := at_any hr4 hkp (hr4.lt (.inr (.inl hkp))) s (some ⟨np.blk, 0, none⟩)
  rw [hpi, hW.entry_some] at this
  exact this)
 have HAt2 := Lib.hid (show ∀ w4, Below w2.heap.size w2 w4 → Calls Tryz.prog 26 #[.agg #[.pointer (some ⟨nq.blk, 0, none⟩), .pointer (some ⟨nq.b, 0, none⟩), .string s2]] w4 fun e w' => e = .returned (.tuple #[.int .i64 (entryP r.nms i2 s2), .bool (decide (entryP r.nms i2 s2 ≠ 0))]) ∧ Below w4.heap.size w4 w' from fun w4 hb => by
  have hr4 := hrq2.below (.inr (.inl hkq)) hb
  have := at_any hr4 hkq (hr4.lt (.inr (.inl hkq))) s2 (some ⟨nq.blk, 0, none⟩)
  rw [hqi, hW.entry_some] at this
  exact this)
 have hx0 : x.id ≠ 0 := hW.ne0 hx
 rw [hxi, decide_eq_true hx0] at HAt
 have hrx2 := hrx.below (hW.kind x hx) hB
 have HX := Lib.hid (show ∀ w', Below w2.heap.size w2 w' → w'.cell? ⟨f, 1, none⟩ = some (.map (some mi)) ∧ w'.cell? ⟨nx.blk, 5, none⟩ = some (holdsV x nx) ∧ (Instr.lookup 63 (.map (some mi)) (.int .i64 x.id) false).run Tryz.prog w' = .ok (.pointer (some ⟨nx.blk, 0, none⟩)) w' ∧ w'.cell? ⟨nq.blk, 0, none⟩ = some (.int .i64 i2) ∧ w'.cell? ⟨nq.blk, 4, none⟩ = some (.int .i64 (linksN r q : Int)) from fun w' hb => by
  have h4 := h2.below hW hb
  have hg := h4.get hnx
  rw [hrx.id] at hg
  have hlk := (h4.look x.id).2
  rw [hg] at hlk
  have hq4 := (hrq2.below (.inr (.inl hkq)) hb).cells
  exact ⟨h4.cells.2.1, (hrx2.below (hW.kind x hx) hb).cells.2.2.2.2.2, hlk, by rw [← hqi]; exact hq4.1, hq4.2.2.2.2.1⟩)
 have hta : ∀ w, (Instr.typeAssert (holdsV x nx) 20 68 true).run Tryz.prog w = .ok (.tuple #[.pointer none, .bool false]) w := fun w => by rw [ta_dir, if_neg hkx]
 have hh0 : entryP r.nms i s ≠ 0 := by rw [hxi]; exact hW.ne0 hx
 obtain ⟨n0, hn0, m1, m2, m3⟩ := entry_mem hh0
 rw [hxi] at m3
 rw [← hpi] at m1
 have hxp : x.id ≠ p.id := by rw [← m3, ← m1]; exact hW.self_ne hn0
 have HH := Lib.hid h
 have HWf := Lib.hid hW
 have HR := Lib.hid (And.intro hrx (And.intro hrp hrq))
 have HM := Lib.hid (And.intro hx (And.intro hp hq))
 have HN := Lib.hid (And.intro hnx (And.intro hnp hnq))
 have H0 := Lib.hid (And.intro hn0 (And.intro m1 (And.intro m2 m3)))
 have HK := Lib.hid (And.intro hkp hkq)
 have HI := Lib.hid (And.intro hpi hqi)
 have HXP := Lib.hid hxp
 have HNo := Lib.hid (entry_none hW (l := r.nms) (fun _ hn => hn) ho)
 have HN6 := Lib.hid (show ∀ w', Below w2.heap.size w2 w' → FsN w' f mi mg r N ∧ NodeR w' r p np ∧ NodeR w' r q nq ∧ NodeR w' r x nx from fun w' hb => ⟨h2.below hW hb, hrp2.below (.inr (.inl hkp)) hb, hrq2.below (.inr (.inl hkq)) hb, hrx2.below (hW.kind x hx) hb⟩)
 rw [ho] at HAt2
 simp only [ne_eq, not_true_eq_false, decide_false] at HAt2
 have HKX := Lib.hid hkx
 have HXQ := Lib.hid hxq
 have HAg := Lib.hid (show (aget (namesP r.nms q.id) s2).isSome = false by rw [hW.entry_some, hqi, ho]; rfl)
 have hmm : nq.m ≠ np.m := fun e => hpq (by
  by_cases c : nq = np
  ·rw [c]
  ·exact absurd (e ▸ Nd.m_mem (hrp.ne hkp).1) (h.apart hnq hnp c _ (Nd.m_mem (hrq.ne hkq).1)))
 have HMm := Lib.hid hmm
 have HPB := Lib.hid hpq
 have HPQ := Lib.hid (show p.id ≠ q.id from fun e => hpq (by rw [nodup_inj h.idU hnp hnq (hrp.id.trans (e.trans hrq.id.symm))]))
 clear hw2 hB hb0 hb1 h h2 hW hrp2 hrq2 hpl hp hkp hnp hrp hq hkq hnq hrq hpi hqi hl hl2 hk hk2 hv hv2 hx hnx hrx hxi hx0 hrx2 ho hkx hpq hmm hxq hh0 hn0 m1 m2 m3 hxp
 go_enter Tryz.func19, Tryz.ntmps19
 go_wp2_with fail
 rw [HW2.out]
 go_upto_region 4 with (go_at_call 44; (with_reducible refine HP.out.mono ?_); rintro e w3 ⟨rfl, hB3⟩; have hs3 := hB3.size; replace hB3 := Lib.hid hB3)
 obtain ⟨w4, hw4, hB4, hs4, hb40, hb41⟩ := box2 w3 #[.pointer (some ⟨np.blk, 0, none⟩), .pointer (some ⟨np.b, 0, none⟩), .string s] #[.pointer (some ⟨nq.blk, 0, none⟩), .pointer (some ⟨nq.b, 0, none⟩), .string s2] 85 85
 rw [hw4]
 have c0 : w4.cell? ⟨w3.heap.size, 0, none⟩ = some (.pointer (some ⟨np.blk, 0, none⟩)) := by rw [cell_at hb40]; rfl
 have c1 : w4.cell? ⟨w3.heap.size, 1, none⟩ = some (.pointer (some ⟨np.b, 0, none⟩)) := by rw [cell_at hb40]; rfl
 have c2 : w4.cell? ⟨w3.heap.size, 2, none⟩ = some (.string s) := by rw [cell_at hb40]; rfl
 have HQ1 := Lib.hid hb40
 have HQ2 := Lib.hid hb41
 have HB4 := Lib.hid (hB3.out.trans (hB4.mono (by omega)))
 clear hw4 hb40 hb41 hB4
 go_upto_region 22 with (first
  | (go_at_call 26; (with_reducible refine (HAt.out w4 HB4.out).mono ?_); rintro e w5 ⟨rfl, hB5⟩; have hs5 := hB5.size; have hY := (hB5.block _ (by omega)).trans HQ2.out; have d0 : w5.cell? ⟨w3.heap.size + 1, 0, none⟩ = _ := cell_at hY 0; have d1 : w5.cell? ⟨w3.heap.size + 1, 1, none⟩ = _ := cell_at hY 1; have d2 : w5.cell? ⟨w3.heap.size + 1, 2, none⟩ = _ := cell_at hY 2; have HQ25 := Lib.hid hY; have HQ15 := Lib.hid ((hB5.block _ (by omega)).trans HQ1.out); clear hY; have HB5 := Lib.hid (HB4.out.trans (hB5.mono HB4.out.size)); obtain ⟨x1, x2, x3, -, -⟩ := HX.out w5 HB5.out; clear hB5)
  | (go_at_call 26; (with_reducible refine (HAt2.out w5 HB5.out).mono ?_); rintro e w6 ⟨rfl, hB6⟩; have hs6 := hB6.size; have HQ26 := Lib.hid ((hB6.block _ (by omega)).trans HQ25.out); have HQ16 := Lib.hid ((hB6.block _ (by omega)).trans HQ15.out); have e0 : w6.cell? ⟨w3.heap.size, 0, none⟩ = _ := cell_at HQ16.out 0; have g0 : w6.cell? ⟨w3.heap.size + 1, 0, none⟩ = _ := cell_at HQ26.out 0; have HB6 := Lib.hid (HB5.out.trans (hB6.mono HB5.out.size)); obtain ⟨y1, y2, y3, y4, y5⟩ := HX.out w6 HB6.out; clear hB6))
 obtain ⟨F6, P6, Q6, X6⟩ := HN6.out w6 HB6.out
 have a1 : w6.cell? ⟨w3.heap.size, 1, none⟩ = some (.pointer (some ⟨np.b, 0, none⟩)) := by rw [cell_at HQ16.out]; rfl
 have a2 : w6.cell? ⟨np.b, 0, none⟩ = some (.map (some np.m)) := by rw [cell_at (P6.dir HK.out.1).1]; rfl
 have hm6 : MapB w6 np.m strK intK (namesP r.nms p.id) := (P6.dir HK.out.1).2
 obtain ⟨o1, hdel, hmp1⟩ := run_delete (P := Tryz.prog) (ty := 0) (tk := 9) KS (t := 69) Tryz.underlying69 hm6 s
 unfold strK at hdel
 have M1 := Lib.hid hmp1
 have G6 := Lib.hid F6
 have P6' := Lib.hid P6
 have Q6' := Lib.hid Q6
 have X6' := Lib.hid X6
 clear F6 P6 Q6 X6 hm6 hmp1
 go_upto_region 23 with fail
 obtain ⟨w7, hw7⟩ : ∃ w7, putObj w6 np.m o1 = w7 := ⟨_, rfl⟩
 rw [hw7]
 have k7 : ∀ k, k ≠ np.m → w7.heap[k]? = w6.heap[k]? := fun k hk => by rw [← hw7]; exact putObj_other w6 o1 hk
 rw [hw7] at M1
 have W7 := Lib.hid hw7
 have K7 := Lib.hid k7
 have b1 : w7.cell? ⟨w3.heap.size + 1, 1, none⟩ = some (.pointer (some ⟨nq.b, 0, none⟩)) := by rw [cell_at ((k7 _ (map_ne (P6'.out.dir HK.out.1).2 HQ26.out).symm).trans HQ26.out)]; rfl
 have b2 : w7.cell? ⟨nq.b, 0, none⟩ = some (.map (some nq.m)) := by rw [cell_at ((k7 _ (map_ne (P6'.out.dir HK.out.1).2 (Q6'.out.dir HK.out.2).1).symm).trans (Q6'.out.dir HK.out.2).1)]; rfl
 have hm7 : MapB w7 nq.m strK intK (namesP r.nms q.id) := (Q6'.out.dir HK.out.2).2.of_block (k7 _ HMm.out)
 have hag : (aget (namesP r.nms q.id) s2).isSome = false := HAg.out
 obtain ⟨o2, hup, hmp2⟩ := run_update KS (P := Tryz.prog) (t := 69) Tryz.underlying69 hm7 s2 x.id
 rw [aput_new hag] at hmp2
 unfold strK intK at hup
 have M2 := Lib.hid hmp2
 clear hm7 hag hmp2 hw7 k7 hdel a1 a2
 go_upto_region 24 with fail
 obtain ⟨w8, hw8⟩ : ∃ w8, putObj w7 nq.m o2 = w8 := ⟨_, rfl⟩
 rw [hw8]
 rw [hw8] at M2
 have W8 := Lib.hid hw8
 have K8 := Lib.hid (show ∀ k, k ≠ nq.m → w8.heap[k]? = w7.heap[k]? from fun k hk => by rw [← hw8]; exact putObj_other w7 o2 hk)
 clear hw8 hup b1 b2
 go_wp2
 go_ret
 refine ⟨rfl, ?_⟩
 obtain ⟨ei, eq⟩ := HI.out
 subst ei eq
 obtain ⟨hx, hp, hq⟩ := HM.out
 obtain ⟨hnx, hnp, hnq⟩ := HN.out
 obtain ⟨hrx, hrp, hrq⟩ := HR.out
 obtain ⟨hn0, m1, m2, m3⟩ := H0.out
 have B6 := HB.out.trans (HB6.out.mono (show w.heap.size ≤ w2.heap.size by omega))
 have hlk := fun y => moved_links HWf.out hx hn0 m3 q.id s2 (y := y) (y' := y) rfl rfl
 rw [m1, m2] at hlk
 have hns : ∀ j, namesP (movedP r p.id s q.id s2 x).nms j = _ := fun j => by rw [moved_nms, namesP_named, namesP_unnamed]
 have pm := (P6'.out.dir HK.out.1).2
 have qm := (Q6'.out.dir HK.out.2).2
 have hl : ∀ y, linksN (movedP r p.id s q.id s2 x) y = linksN r y := fun y => by
  have := hlk y
  rw [if_neg (fun e => HKX.out e.2.1), if_neg (fun e => HKX.out e.2.1)] at this
  exact this
 refine ⟨N, moved_fs HH.out HWf.out hx hnx hrx hp HK.out.1 hnp hrp hq HK.out.2 hnq hrq hn0 m1 m2 m3 HXP.out HXQ.out (fun k hk a b _ _ _ => (K8.out k b).trans ((K7.out k a).trans (B6.block k hk))) ?_ ?_ ?_ ?_ (fun e => absurd e HKX.out), fun k hk => .inl hk, ?_⟩
 ·rw [hns, if_neg HPQ.out, if_pos rfl]
  exact M1.out.of_block (K8.out _ (fun e => HMm.out e.symm))
 ·rw [hns, if_pos rfl, if_neg (fun e => HPQ.out e.symm)]
  exact M2.out
 ·rw [hl]
  exact (K8.out _ (map_ne qm P6'.out.head).symm).trans ((K7.out _ (map_ne pm P6'.out.head).symm).trans P6'.out.head)
 ·rw [hl]
  exact (K8.out _ (map_ne qm Q6'.out.head).symm).trans ((K7.out _ (map_ne pm Q6'.out.head).symm).trans Q6'.out.head)
 ·rw [← W8.out, ← W7.out]
  exact ((Frm.of_below B6).putObj (.inl (fp_node hnp (Nd.m_mem (hrp.ne HK.out.1).1))) o1).putObj (.inl (fp_node hnq (Nd.m_mem (hrq.ne HK.out.2).1))) o2
set_option maxRecDepth 100000 in
set_option maxHeartbeats 8000000 in
theorem rename_mv0s {w : World} {f mi mg K : Nat} {r : RFs} {N : List Nd} (h : FsN w f mi mg r N) (hW : Wf r K) (i g : Int) (s : ByteArray) (hs : s.size ≤ maxLen) (i2 g2 : Int) (s2 : ByteArray) (hs2 : s2.size ≤ maxLen)
  {p q : RIn} {np nq : Nd} (hp : p ∈ r.ins) (hkp : p.kind = 2) (hnp : np ∈ N) (hrp : NodeR w r p np) (hq : q ∈ r.ins) (hkq : q.kind = 2) (hnq : nq ∈ N) (hrq : NodeR w r q nq) (hpi : p.id = i) (hqi : q.id = i2)
  (hl : liveP r (i, g) = true) (hl2 : liveP r (i2, g2) = true) (hk : (byIdP r.ins i).kind = 2) (hk2 : (byIdP r.ins i2).kind = 2) (hv : validP s = true) (hv2 : validP s2 = true)
  {x : RIn} {nx : Nd} (hx : x ∈ r.ins) (hnx : nx ∈ N) (hrx : NodeR w r x nx) (hxi : entryP r.nms i s = x.id) (hxq : x.id ≠ q.id) (ho : entryP r.nms i2 s2 = 0) (hkx : ¬ x.kind = 2) (hpq : np = nq) :
  Calls Tryz.prog 19 #[.pointer (some ⟨f, 0, none⟩), .agg #[.int .i64 i, .int .i64 g], .string s, .agg #[.int .i64 i2, .int .i64 g2], .string s2] w fun e w' => e = .returned (.int .i64 0) ∧ StepR w w' f mi mg N (movedP r i s i2 s2 x) := by
 subst hpq
 obtain rfl := h.uniq hW hp hrp hq hrq
 obtain rfl : i = i2 := hpi.symm.trans hqi
 obtain ⟨w2, hw2, hB, hz2, hb0, hb1⟩ := box2 w #[.int .i64 i, .int .i64 g] #[.int .i64 i, .int .i64 g2] 37 37
 have t0 : w2.cell? ⟨w.heap.size, 0, none⟩ = some (.int .i64 i) := by rw [cell_at hb0]; rfl
 have t1 : w2.cell? ⟨w.heap.size, 1, none⟩ = some (.int .i64 g) := by rw [cell_at hb0]; rfl
 have t2 : w2.cell? ⟨w.heap.size + 1, 0, none⟩ = some (.int .i64 i) := by rw [cell_at hb1]; rfl
 have t3 : w2.cell? ⟨w.heap.size + 1, 1, none⟩ = some (.int .i64 g2) := by rw [cell_at hb1]; rfl
 have h2 := h.below hW hB
 have HW2 := Lib.hid hw2
 have HB := Lib.hid hB
 have hrp2 := hrp.below (.inr (.inl hkp)) hB
 have hrq2 := hrq.below (.inr (.inl hkq)) hB
 have hpl := places_ok h2 hW i g s hs i g2 s2 hs2 hl hl2 hk hk2 hv hv2 hnp hnq (hrp.id.trans hpi) (hrq.id.trans hqi)
 have HP := Lib.hid hpl
 have HAt := Lib.hid (show ∀ w4, Below w2.heap.size w2 w4 → Calls Tryz.prog 26 #[.agg #[.pointer (some ⟨np.blk, 0, none⟩), .pointer (some ⟨np.b, 0, none⟩), .string s]] w4 fun e w' => e = .returned (.tuple #[.int .i64 (entryP r.nms i s), .bool (decide (entryP r.nms i s ≠ 0))]) ∧ Below w4.heap.size w4 w' from fun w4 hb => by
  have hr4 := hrp2.below (.inr (.inl hkp)) hb
  have := at_any hr4 hkp (hr4.lt (.inr (.inl hkp))) s (some ⟨np.blk, 0, none⟩)
  rw [hpi, hW.entry_some] at this
  exact this)
 have HAt2 := Lib.hid (show ∀ w4, Below w2.heap.size w2 w4 → Calls Tryz.prog 26 #[.agg #[.pointer (some ⟨np.blk, 0, none⟩), .pointer (some ⟨np.b, 0, none⟩), .string s2]] w4 fun e w' => e = .returned (.tuple #[.int .i64 (entryP r.nms i s2), .bool (decide (entryP r.nms i s2 ≠ 0))]) ∧ Below w4.heap.size w4 w' from fun w4 hb => by
  have hr4 := hrq2.below (.inr (.inl hkq)) hb
  have := at_any hr4 hkq (hr4.lt (.inr (.inl hkq))) s2 (some ⟨np.blk, 0, none⟩)
  rw [hqi, hW.entry_some] at this
  exact this)
 have hx0 : x.id ≠ 0 := hW.ne0 hx
 rw [hxi, decide_eq_true hx0] at HAt
 have hrx2 := hrx.below (hW.kind x hx) hB
 have HX := Lib.hid (show ∀ w', Below w2.heap.size w2 w' → w'.cell? ⟨f, 1, none⟩ = some (.map (some mi)) ∧ w'.cell? ⟨nx.blk, 5, none⟩ = some (holdsV x nx) ∧ (Instr.lookup 63 (.map (some mi)) (.int .i64 x.id) false).run Tryz.prog w' = .ok (.pointer (some ⟨nx.blk, 0, none⟩)) w' ∧ w'.cell? ⟨np.blk, 0, none⟩ = some (.int .i64 i) ∧ w'.cell? ⟨np.blk, 4, none⟩ = some (.int .i64 (linksN r p : Int)) from fun w' hb => by
  have h4 := h2.below hW hb
  have hg := h4.get hnx
  rw [hrx.id] at hg
  have hlk := (h4.look x.id).2
  rw [hg] at hlk
  have hq4 := (hrq2.below (.inr (.inl hkq)) hb).cells
  exact ⟨h4.cells.2.1, (hrx2.below (hW.kind x hx) hb).cells.2.2.2.2.2, hlk, by rw [← hqi]; exact hq4.1, hq4.2.2.2.2.1⟩)
 have hta : ∀ w, (Instr.typeAssert (holdsV x nx) 20 68 true).run Tryz.prog w = .ok (.tuple #[.pointer none, .bool false]) w := fun w => by rw [ta_dir, if_neg hkx]
 have hh0 : entryP r.nms i s ≠ 0 := by rw [hxi]; exact hW.ne0 hx
 obtain ⟨n0, hn0, m1, m2, m3⟩ := entry_mem hh0
 rw [hxi] at m3
 rw [← hpi] at m1
 have hxp : x.id ≠ p.id := by rw [← m3, ← m1]; exact hW.self_ne hn0
 have HH := Lib.hid h
 have HWf := Lib.hid hW
 have HR := Lib.hid (And.intro hrx (And.intro hrp hrq))
 have HM := Lib.hid (And.intro hx (And.intro hp hq))
 have HN := Lib.hid (And.intro hnx (And.intro hnp hnq))
 have H0 := Lib.hid (And.intro hn0 (And.intro m1 (And.intro m2 m3)))
 have HK := Lib.hid (And.intro hkp hkq)
 have HI := Lib.hid (And.intro hpi hqi)
 have HXP := Lib.hid hxp
 have HNo := Lib.hid (entry_none hW (l := r.nms) (fun _ hn => hn) ho)
 have HN6 := Lib.hid (show ∀ w', Below w2.heap.size w2 w' → FsN w' f mi mg r N ∧ NodeR w' r p np ∧ NodeR w' r p np ∧ NodeR w' r x nx from fun w' hb => ⟨h2.below hW hb, hrp2.below (.inr (.inl hkp)) hb, hrq2.below (.inr (.inl hkq)) hb, hrx2.below (hW.kind x hx) hb⟩)
 rw [ho] at HAt2
 simp only [ne_eq, not_true_eq_false, decide_false] at HAt2
 have HKX := Lib.hid hkx
 have HXQ := Lib.hid hxq
 have HAg := Lib.hid (show (aget (adel (namesP r.nms p.id) s) s2).isSome = false from by
  have h0 : (aget (namesP r.nms p.id) s2).isSome = false := by rw [hW.entry_some, hqi, ho]; rfl
  have h1 : aget (namesP r.nms p.id) s2 = none := by cases hh : aget (namesP r.nms p.id) s2 with
   | none => rfl
   | some v => rw [hh] at h0; cases h0
  rw [aget_none] at h1
  have h2 : aget (adel (namesP r.nms p.id) s) s2 = none := by
   rw [aget_none]
   intro z hz
   exact h1 z (List.mem_filter.1 hz).1
  rw [h2]; rfl)
 clear hw2 hB hb0 hb1 h h2 hW hrp2 hrq2 hpl hp hkp hnp hrp hq hkq hnq hrq hpi hqi hl hl2 hk hk2 hv hv2 hx hnx hrx hxi hx0 hrx2 ho hkx hxq hh0 hn0 m1 m2 m3 hxp
 go_enter Tryz.func19, Tryz.ntmps19
 go_wp2_with fail
 rw [HW2.out]
 go_upto_region 4 with (go_at_call 44; (with_reducible refine HP.out.mono ?_); rintro e w3 ⟨rfl, hB3⟩; have hs3 := hB3.size; replace hB3 := Lib.hid hB3)
 obtain ⟨w4, hw4, hB4, hs4, hb40, hb41⟩ := box2 w3 #[.pointer (some ⟨np.blk, 0, none⟩), .pointer (some ⟨np.b, 0, none⟩), .string s] #[.pointer (some ⟨np.blk, 0, none⟩), .pointer (some ⟨np.b, 0, none⟩), .string s2] 85 85
 rw [hw4]
 have c0 : w4.cell? ⟨w3.heap.size, 0, none⟩ = some (.pointer (some ⟨np.blk, 0, none⟩)) := by rw [cell_at hb40]; rfl
 have c1 : w4.cell? ⟨w3.heap.size, 1, none⟩ = some (.pointer (some ⟨np.b, 0, none⟩)) := by rw [cell_at hb40]; rfl
 have c2 : w4.cell? ⟨w3.heap.size, 2, none⟩ = some (.string s) := by rw [cell_at hb40]; rfl
 have HQ1 := Lib.hid hb40
 have HQ2 := Lib.hid hb41
 have HB4 := Lib.hid (hB3.out.trans (hB4.mono (by omega)))
 clear hw4 hb40 hb41 hB4
 go_upto_region 22 with (first
  | (go_at_call 26; (with_reducible refine (HAt.out w4 HB4.out).mono ?_); rintro e w5 ⟨rfl, hB5⟩; have hs5 := hB5.size; have hY := (hB5.block _ (by omega)).trans HQ2.out; have d0 : w5.cell? ⟨w3.heap.size + 1, 0, none⟩ = _ := cell_at hY 0; have d1 : w5.cell? ⟨w3.heap.size + 1, 1, none⟩ = _ := cell_at hY 1; have d2 : w5.cell? ⟨w3.heap.size + 1, 2, none⟩ = _ := cell_at hY 2; have HQ25 := Lib.hid hY; have HQ15 := Lib.hid ((hB5.block _ (by omega)).trans HQ1.out); clear hY; have HB5 := Lib.hid (HB4.out.trans (hB5.mono HB4.out.size)); obtain ⟨x1, x2, x3, -, -⟩ := HX.out w5 HB5.out; clear hB5)
  | (go_at_call 26; (with_reducible refine (HAt2.out w5 HB5.out).mono ?_); rintro e w6 ⟨rfl, hB6⟩; have hs6 := hB6.size; have HQ26 := Lib.hid ((hB6.block _ (by omega)).trans HQ25.out); have HQ16 := Lib.hid ((hB6.block _ (by omega)).trans HQ15.out); have e0 : w6.cell? ⟨w3.heap.size, 0, none⟩ = _ := cell_at HQ16.out 0; have g0 : w6.cell? ⟨w3.heap.size + 1, 0, none⟩ = _ := cell_at HQ26.out 0; have HB6 := Lib.hid (HB5.out.trans (hB6.mono HB5.out.size)); obtain ⟨y1, y2, y3, y4, y5⟩ := HX.out w6 HB6.out; clear hB6))
 obtain ⟨F6, P6, Q6, X6⟩ := HN6.out w6 HB6.out
 have a1 : w6.cell? ⟨w3.heap.size, 1, none⟩ = some (.pointer (some ⟨np.b, 0, none⟩)) := by rw [cell_at HQ16.out]; rfl
 have a2 : w6.cell? ⟨np.b, 0, none⟩ = some (.map (some np.m)) := by rw [cell_at (P6.dir HK.out.1).1]; rfl
 have hm6 : MapB w6 np.m strK intK (namesP r.nms p.id) := (P6.dir HK.out.1).2
 obtain ⟨o1, hdel, hmp1⟩ := run_delete (P := Tryz.prog) (ty := 0) (tk := 9) KS (t := 69) Tryz.underlying69 hm6 s
 unfold strK at hdel
 have M1 := Lib.hid hmp1
 have G6 := Lib.hid F6
 have P6' := Lib.hid P6
 have Q6' := Lib.hid Q6
 have X6' := Lib.hid X6
 clear F6 P6 Q6 X6 hm6 hmp1
 go_upto_region 23 with fail
 obtain ⟨w7, hw7⟩ : ∃ w7, putObj w6 np.m o1 = w7 := ⟨_, rfl⟩
 rw [hw7]
 have k7 : ∀ k, k ≠ np.m → w7.heap[k]? = w6.heap[k]? := fun k hk => by rw [← hw7]; exact putObj_other w6 o1 hk
 rw [hw7] at M1
 have W7 := Lib.hid hw7
 have K7 := Lib.hid k7
 have b1 : w7.cell? ⟨w3.heap.size + 1, 1, none⟩ = some (.pointer (some ⟨np.b, 0, none⟩)) := by rw [cell_at ((k7 _ (map_ne (P6'.out.dir HK.out.1).2 HQ26.out).symm).trans HQ26.out)]; rfl
 have b2 : w7.cell? ⟨np.b, 0, none⟩ = some (.map (some np.m)) := by rw [cell_at ((k7 _ (map_ne (P6'.out.dir HK.out.1).2 (Q6'.out.dir HK.out.2).1).symm).trans (Q6'.out.dir HK.out.2).1)]; rfl
 have hm7 : MapB w7 np.m strK intK (adel (namesP r.nms p.id) s) := M1.out
 have hag : (aget (adel (namesP r.nms p.id) s) s2).isSome = false := HAg.out
 obtain ⟨o2, hup, hmp2⟩ := run_update KS (P := Tryz.prog) (t := 69) Tryz.underlying69 hm7 s2 x.id
 rw [aput_new hag] at hmp2
 unfold strK intK at hup
 have M2 := Lib.hid hmp2
 clear hm7 hag hmp2 hw7 k7 hdel a1 a2
 go_upto_region 24 with fail
 obtain ⟨w8, hw8⟩ : ∃ w8, putObj w7 np.m o2 = w8 := ⟨_, rfl⟩
 rw [hw8]
 rw [hw8] at M2
 have W8 := Lib.hid hw8
 have K8 := Lib.hid (show ∀ k, k ≠ np.m → w8.heap[k]? = w7.heap[k]? from fun k hk => by rw [← hw8]; exact putObj_other w7 o2 hk)
 clear hw8 hup b1 b2
 go_wp2
 go_ret
 refine ⟨rfl, ?_⟩
 obtain ⟨ei, -⟩ := HI.out
 subst ei
 obtain ⟨hx, hp, hq⟩ := HM.out
 obtain ⟨hnx, hnp, hnq⟩ := HN.out
 obtain ⟨hrx, hrp, hrq⟩ := HR.out
 obtain ⟨hn0, m1, m2, m3⟩ := H0.out
 have B6 := HB.out.trans (HB6.out.mono (show w.heap.size ≤ w2.heap.size by omega))
 have hlk := fun y => moved_links HWf.out hx hn0 m3 p.id s2 (y := y) (y' := y) rfl rfl
 rw [m1, m2] at hlk
 have hns : ∀ j, namesP (movedP r p.id s p.id s2 x).nms j = _ := fun j => by rw [moved_nms, namesP_named, namesP_unnamed]
 have pm := (P6'.out.dir HK.out.1).2
 have qm := (Q6'.out.dir HK.out.2).2
 have hl : ∀ y, linksN (movedP r p.id s p.id s2 x) y = linksN r y := fun y => by
  have := hlk y
  rw [if_neg (fun e => HKX.out e.2.1)] at this
  exact this
 refine ⟨N, moved_fs HH.out HWf.out hx hnx hrx hp HK.out.1 hnp hrp hq HK.out.2 hnq hrq hn0 m1 m2 m3 HXP.out HXQ.out (fun k hk a b _ _ _ => (K8.out k b).trans ((K7.out k a).trans (B6.block k hk))) ?_ ?_ ?_ ?_ (fun e => absurd e HKX.out), fun k hk => .inl hk, ?_⟩
 ·rw [hns, if_pos rfl, if_pos rfl]
  exact M2.out
 ·rw [hns, if_pos rfl, if_pos rfl]
  exact M2.out
 ·rw [hl]
  exact (K8.out _ (map_ne qm P6'.out.head).symm).trans ((K7.out _ (map_ne pm P6'.out.head).symm).trans P6'.out.head)
 ·rw [hl]
  exact (K8.out _ (map_ne qm Q6'.out.head).symm).trans ((K7.out _ (map_ne pm Q6'.out.head).symm).trans Q6'.out.head)
 ·rw [← W8.out, ← W7.out]
  exact ((Frm.of_below B6).putObj (.inl (fp_node hnp (Nd.m_mem (hrp.ne HK.out.1).1))) o1).putObj (.inl (fp_node hnq (Nd.m_mem (hrq.ne HK.out.2).1))) o2
set_option maxRecDepth 100000 in
set_option maxHeartbeats 8000000 in
theorem rename_mv1d {w : World} {f mi mg K : Nat} {r : RFs} {N : List Nd} (h : FsN w f mi mg r N) (hW : Wf r K) (i g : Int) (s : ByteArray) (hs : s.size ≤ maxLen) (i2 g2 : Int) (s2 : ByteArray) (hs2 : s2.size ≤ maxLen)
  {p q : RIn} {np nq : Nd} (hp : p ∈ r.ins) (hkp : p.kind = 2) (hnp : np ∈ N) (hrp : NodeR w r p np) (hq : q ∈ r.ins) (hkq : q.kind = 2) (hnq : nq ∈ N) (hrq : NodeR w r q nq) (hpi : p.id = i) (hqi : q.id = i2)
  (hl : liveP r (i, g) = true) (hl2 : liveP r (i2, g2) = true) (hk : (byIdP r.ins i).kind = 2) (hk2 : (byIdP r.ins i2).kind = 2) (hv : validP s = true) (hv2 : validP s2 = true)
  {x : RIn} {nx : Nd} (hx : x ∈ r.ins) (hnx : nx ∈ N) (hrx : NodeR w r x nx) (hxi : entryP r.nms i s = x.id) (hxq : x.id ≠ q.id) (ho : entryP r.nms i2 s2 = 0) (hkx : x.kind = 2) (hbl : belowB r i2 x.id = false) (hpq : np.blk ≠ nq.blk) (hlq : linksN r q < 20) :
  Calls Tryz.prog 19 #[.pointer (some ⟨f, 0, none⟩), .agg #[.int .i64 i, .int .i64 g], .string s, .agg #[.int .i64 i2, .int .i64 g2], .string s2] w fun e w' => e = .returned (.int .i64 0) ∧ StepR w w' f mi mg N (movedP r i s i2 s2 x) := by
 obtain ⟨w2, hw2, hB, hz2, hb0, hb1⟩ := box2 w #[.int .i64 i, .int .i64 g] #[.int .i64 i2, .int .i64 g2] 37 37
 have t0 : w2.cell? ⟨w.heap.size, 0, none⟩ = some (.int .i64 i) := by rw [cell_at hb0]; rfl
 have t1 : w2.cell? ⟨w.heap.size, 1, none⟩ = some (.int .i64 g) := by rw [cell_at hb0]; rfl
 have t2 : w2.cell? ⟨w.heap.size + 1, 0, none⟩ = some (.int .i64 i2) := by rw [cell_at hb1]; rfl
 have t3 : w2.cell? ⟨w.heap.size + 1, 1, none⟩ = some (.int .i64 g2) := by rw [cell_at hb1]; rfl
 have h2 := h.below hW hB
 have HW2 := Lib.hid hw2
 have HB := Lib.hid hB
 have hrp2 := hrp.below (.inr (.inl hkp)) hB
 have hrq2 := hrq.below (.inr (.inl hkq)) hB
 have hpl := places_ok h2 hW i g s hs i2 g2 s2 hs2 hl hl2 hk hk2 hv hv2 hnp hnq (hrp.id.trans hpi) (hrq.id.trans hqi)
 have HP := Lib.hid hpl
 have HAt := Lib.hid (show ∀ w4, Below w2.heap.size w2 w4 → Calls Tryz.prog 26 #[.agg #[.pointer (some ⟨np.blk, 0, none⟩), .pointer (some ⟨np.b, 0, none⟩), .string s]] w4 fun e w' => e = .returned (.tuple #[.int .i64 (entryP r.nms i s), .bool (decide (entryP r.nms i s ≠ 0))]) ∧ Below w4.heap.size w4 w' from fun w4 hb => by
  have hr4 := hrp2.below (.inr (.inl hkp)) hb
  have := at_any hr4 hkp (hr4.lt (.inr (.inl hkp))) s (some ⟨np.blk, 0, none⟩)
  rw [hpi, hW.entry_some] at this
  exact this)
 have HAt2 := Lib.hid (show ∀ w4, Below w2.heap.size w2 w4 → Calls Tryz.prog 26 #[.agg #[.pointer (some ⟨nq.blk, 0, none⟩), .pointer (some ⟨nq.b, 0, none⟩), .string s2]] w4 fun e w' => e = .returned (.tuple #[.int .i64 (entryP r.nms i2 s2), .bool (decide (entryP r.nms i2 s2 ≠ 0))]) ∧ Below w4.heap.size w4 w' from fun w4 hb => by
  have hr4 := hrq2.below (.inr (.inl hkq)) hb
  have := at_any hr4 hkq (hr4.lt (.inr (.inl hkq))) s2 (some ⟨nq.blk, 0, none⟩)
  rw [hqi, hW.entry_some] at this
  exact this)
 have hx0 : x.id ≠ 0 := hW.ne0 hx
 rw [hxi, decide_eq_true hx0] at HAt
 have hrx2 := hrx.below (hW.kind x hx) hB
 have HX := Lib.hid (show ∀ w', Below w2.heap.size w2 w' → w'.cell? ⟨f, 1, none⟩ = some (.map (some mi)) ∧ w'.cell? ⟨nx.blk, 5, none⟩ = some (holdsV x nx) ∧ (Instr.lookup 63 (.map (some mi)) (.int .i64 x.id) false).run Tryz.prog w' = .ok (.pointer (some ⟨nx.blk, 0, none⟩)) w' ∧ w'.cell? ⟨nq.blk, 0, none⟩ = some (.int .i64 i2) ∧ w'.cell? ⟨nq.blk, 4, none⟩ = some (.int .i64 (linksN r q : Int)) from fun w' hb => by
  have h4 := h2.below hW hb
  have hg := h4.get hnx
  rw [hrx.id] at hg
  have hlk := (h4.look x.id).2
  rw [hg] at hlk
  have hq4 := (hrq2.below (.inr (.inl hkq)) hb).cells
  exact ⟨h4.cells.2.1, (hrx2.below (hW.kind x hx) hb).cells.2.2.2.2.2, hlk, by rw [← hqi]; exact hq4.1, hq4.2.2.2.2.1⟩)
 have hta : ∀ w, (Instr.typeAssert (holdsV x nx) 20 68 true).run Tryz.prog w = .ok (.tuple #[.pointer (some ⟨nx.b, 0, none⟩), .bool true]) w := fun w => by rw [ta_dir, if_pos hkx]; rfl
 have hh0 : entryP r.nms i s ≠ 0 := by rw [hxi]; exact hW.ne0 hx
 obtain ⟨n0, hn0, m1, m2, m3⟩ := entry_mem hh0
 rw [hxi] at m3
 rw [← hpi] at m1
 have hxp : x.id ≠ p.id := by rw [← m3, ← m1]; exact hW.self_ne hn0
 have HH := Lib.hid h
 have HWf := Lib.hid hW
 have HR := Lib.hid (And.intro hrx (And.intro hrp hrq))
 have HM := Lib.hid (And.intro hx (And.intro hp hq))
 have HN := Lib.hid (And.intro hnx (And.intro hnp hnq))
 have H0 := Lib.hid (And.intro hn0 (And.intro m1 (And.intro m2 m3)))
 have HK := Lib.hid (And.intro hkp hkq)
 have HI := Lib.hid (And.intro hpi hqi)
 have HXP := Lib.hid hxp
 have HNo := Lib.hid (entry_none hW (l := r.nms) (fun _ hn => hn) ho)
 have HN6 := Lib.hid (show ∀ w', Below w2.heap.size w2 w' → FsN w' f mi mg r N ∧ NodeR w' r p np ∧ NodeR w' r q nq ∧ NodeR w' r x nx from fun w' hb => ⟨h2.below hW hb, hrp2.below (.inr (.inl hkp)) hb, hrq2.below (.inr (.inl hkq)) hb, hrx2.below (hW.kind x hx) hb⟩)
 rw [ho] at HAt2
 simp only [ne_eq, not_true_eq_false, decide_false] at HAt2
 have HBl := Lib.hid (show ∀ w', Below w2.heap.size w2 w' → Calls Tryz.prog 45 #[.pointer (some ⟨f, 0, none⟩), .int .i64 i2, .int .i64 x.id] w' fun e w'' => e = .returned (.bool false) ∧ w' = w'' from fun w' hb => by
  have := below_any (h2.below hW hb) hW hq hkq x.id
  rw [hqi, hbl] at this
  exact this)
 have HKX := Lib.hid hkx
 have HXQ := Lib.hid hxq
 have HLp := Lib.hid (show 2 ≤ linksN r p ∧ linksN r p ≤ 20 from ⟨by unfold linksN; rw [if_pos hkp]; omega, hW.lim p hp⟩)
 have HLq := Lib.hid (show linksN r q ≤ 20 from hW.lim q hq)
 have HNq := Lib.hid (show ∀ w', Below w2.heap.size w2 w' → (binOp .neq 67 (.pointer (some ⟨np.blk, 0, none⟩)) (.pointer (some ⟨nq.blk, 0, none⟩))).run Tryz.prog w' = .ok (.bool true) w' from fun w' hb => by
  have := neq_ino (hrp2.below (.inr (.inl hkp)) hb).head (hrq2.below (.inr (.inl hkq)) hb).head
  rw [decide_eq_false hpq] at this
  exact this)
 have HAg := Lib.hid (show (aget (namesP r.nms q.id) s2).isSome = false by rw [hW.entry_some, hqi, ho]; rfl)
 have hmm : nq.m ≠ np.m := fun e => hpq (by
  by_cases c : nq = np
  ·rw [c]
  ·exact absurd (e ▸ Nd.m_mem (hrp.ne hkp).1) (h.apart hnq hnp c _ (Nd.m_mem (hrq.ne hkq).1)))
 have HMm := Lib.hid hmm
 have HPB := Lib.hid hpq
 have HPQ := Lib.hid (show p.id ≠ q.id from fun e => hpq (by rw [nodup_inj h.idU hnp hnq (hrp.id.trans (e.trans hrq.id.symm))]))
 clear hw2 hB hb0 hb1 h h2 hW hrp2 hrq2 hpl hp hkp hnp hrp hq hkq hnq hrq hpi hqi hl hl2 hk hk2 hv hv2 hx hnx hrx hxi hx0 hrx2 ho hkx hpq hmm hxq hbl hh0 hn0 m1 m2 m3 hxp
 go_enter Tryz.func19, Tryz.ntmps19
 go_wp2_with fail
 rw [HW2.out]
 go_upto_region 4 with (go_at_call 44; (with_reducible refine HP.out.mono ?_); rintro e w3 ⟨rfl, hB3⟩; have hs3 := hB3.size; replace hB3 := Lib.hid hB3)
 obtain ⟨w4, hw4, hB4, hs4, hb40, hb41⟩ := box2 w3 #[.pointer (some ⟨np.blk, 0, none⟩), .pointer (some ⟨np.b, 0, none⟩), .string s] #[.pointer (some ⟨nq.blk, 0, none⟩), .pointer (some ⟨nq.b, 0, none⟩), .string s2] 85 85
 rw [hw4]
 have c0 : w4.cell? ⟨w3.heap.size, 0, none⟩ = some (.pointer (some ⟨np.blk, 0, none⟩)) := by rw [cell_at hb40]; rfl
 have c1 : w4.cell? ⟨w3.heap.size, 1, none⟩ = some (.pointer (some ⟨np.b, 0, none⟩)) := by rw [cell_at hb40]; rfl
 have c2 : w4.cell? ⟨w3.heap.size, 2, none⟩ = some (.string s) := by rw [cell_at hb40]; rfl
 have HQ1 := Lib.hid hb40
 have HQ2 := Lib.hid hb41
 have HB4 := Lib.hid (hB3.out.trans (hB4.mono (by omega)))
 clear hw4 hb40 hb41 hB4
 go_upto_region 22 with (first
  | (go_at_call 26; (with_reducible refine (HAt.out w4 HB4.out).mono ?_); rintro e w5 ⟨rfl, hB5⟩; have hs5 := hB5.size; have hY := (hB5.block _ (by omega)).trans HQ2.out; have d0 : w5.cell? ⟨w3.heap.size + 1, 0, none⟩ = _ := cell_at hY 0; have d1 : w5.cell? ⟨w3.heap.size + 1, 1, none⟩ = _ := cell_at hY 1; have d2 : w5.cell? ⟨w3.heap.size + 1, 2, none⟩ = _ := cell_at hY 2; have HQ25 := Lib.hid hY; have HQ15 := Lib.hid ((hB5.block _ (by omega)).trans HQ1.out); clear hY; have HB5 := Lib.hid (HB4.out.trans (hB5.mono HB4.out.size)); obtain ⟨x1, x2, x3, -, -⟩ := HX.out w5 HB5.out; clear hB5)
  | (go_at_call 26; (with_reducible refine (HAt2.out w5 HB5.out).mono ?_); rintro e w6 ⟨rfl, hB6⟩; have hs6 := hB6.size; have HQ26 := Lib.hid ((hB6.block _ (by omega)).trans HQ25.out); have HQ16 := Lib.hid ((hB6.block _ (by omega)).trans HQ15.out); have e0 : w6.cell? ⟨w3.heap.size, 0, none⟩ = _ := cell_at HQ16.out 0; have g0 : w6.cell? ⟨w3.heap.size + 1, 0, none⟩ = _ := cell_at HQ26.out 0; have HB6 := Lib.hid (HB5.out.trans (hB6.mono HB5.out.size)); obtain ⟨y1, y2, y3, y4, y5⟩ := HX.out w6 HB6.out; clear hB6; have y6 := HNq.out w6 HB6.out)
  | (go_at_call 45; (with_reducible refine (HBl.out w6 HB6.out).mono ?_); rintro e w7 ⟨rfl, rfl⟩))
 obtain ⟨F6, P6, Q6, X6⟩ := HN6.out w6 HB6.out
 have a1 : w6.cell? ⟨w3.heap.size, 1, none⟩ = some (.pointer (some ⟨np.b, 0, none⟩)) := by rw [cell_at HQ16.out]; rfl
 have a2 : w6.cell? ⟨np.b, 0, none⟩ = some (.map (some np.m)) := by rw [cell_at (P6.dir HK.out.1).1]; rfl
 have hm6 : MapB w6 np.m strK intK (namesP r.nms p.id) := (P6.dir HK.out.1).2
 obtain ⟨o1, hdel, hmp1⟩ := run_delete (P := Tryz.prog) (ty := 0) (tk := 9) KS (t := 69) Tryz.underlying69 hm6 s
 unfold strK at hdel
 have M1 := Lib.hid hmp1
 have G6 := Lib.hid F6
 have P6' := Lib.hid P6
 have Q6' := Lib.hid Q6
 have X6' := Lib.hid X6
 clear F6 P6 Q6 X6 hm6 hmp1
 go_upto_region 23 with fail
 obtain ⟨w7, hw7⟩ : ∃ w7, putObj w6 np.m o1 = w7 := ⟨_, rfl⟩
 rw [hw7]
 have k7 : ∀ k, k ≠ np.m → w7.heap[k]? = w6.heap[k]? := fun k hk => by rw [← hw7]; exact putObj_other w6 o1 hk
 rw [hw7] at M1
 have W7 := Lib.hid hw7
 have K7 := Lib.hid k7
 have b1 : w7.cell? ⟨w3.heap.size + 1, 1, none⟩ = some (.pointer (some ⟨nq.b, 0, none⟩)) := by rw [cell_at ((k7 _ (map_ne (P6'.out.dir HK.out.1).2 HQ26.out).symm).trans HQ26.out)]; rfl
 have b2 : w7.cell? ⟨nq.b, 0, none⟩ = some (.map (some nq.m)) := by rw [cell_at ((k7 _ (map_ne (P6'.out.dir HK.out.1).2 (Q6'.out.dir HK.out.2).1).symm).trans (Q6'.out.dir HK.out.2).1)]; rfl
 have hm7 : MapB w7 nq.m strK intK (namesP r.nms q.id) := (Q6'.out.dir HK.out.2).2.of_block (k7 _ HMm.out)
 have hag : (aget (namesP r.nms q.id) s2).isSome = false := HAg.out
 obtain ⟨o2, hup, hmp2⟩ := run_update KS (P := Tryz.prog) (t := 69) Tryz.underlying69 hm7 s2 x.id
 rw [aput_new hag] at hmp2
 unfold strK intK at hup
 have M2 := Lib.hid hmp2
 clear hm7 hag hmp2 hw7 k7 hdel a1 a2
 go_upto_region 24 with fail
 obtain ⟨w8, hw8⟩ : ∃ w8, putObj w7 nq.m o2 = w8 := ⟨_, rfl⟩
 rw [hw8]
 rw [hw8] at M2
 have W8 := Lib.hid hw8
 have K8 := Lib.hid (show ∀ k, k ≠ nq.m → w8.heap[k]? = w7.heap[k]? from fun k hk => by rw [← hw8]; exact putObj_other w7 o2 hk)
 clear hw8 hup b1 b2
 have ne : ∀ k, k ≠ np.m → k ≠ nq.m → w8.heap[k]? = w6.heap[k]? := fun k a b => (K8.out k b).trans (K7.out k a)
 have pm := (P6'.out.dir HK.out.1).2
 have qm := (Q6'.out.dir HK.out.2).2
 have xd := (X6'.out.dir HKX.out).1
 have P8 := (ne _ (map_ne pm P6'.out.head).symm (map_ne qm P6'.out.head).symm).trans P6'.out.head
 have Q8 := (ne _ (map_ne pm Q6'.out.head).symm (map_ne qm Q6'.out.head).symm).trans Q6'.out.head
 have X8 := (ne _ (map_ne pm xd).symm (map_ne qm xd).symm).trans xd
 have R8 := (ne _ (map_ne pm HQ16.out).symm (map_ne qm HQ16.out).symm).trans HQ16.out
 have S8 := (ne _ (map_ne pm HQ26.out).symm (map_ne qm HQ26.out).symm).trans HQ26.out
 have f0 : w8.cell? ⟨w3.heap.size, 0, none⟩ = some (.pointer (some ⟨np.blk, 0, none⟩)) := by rw [cell_at R8]; rfl
 have f1 : w8.cell? ⟨w3.heap.size + 1, 0, none⟩ = some (.pointer (some ⟨nq.blk, 0, none⟩)) := by rw [cell_at S8]; rfl
 have f2 : w8.cell? ⟨nq.blk, 0, none⟩ = some (.int .i64 q.id) := by rw [cell_at Q8]; rfl
 have f3 : w8.cell? ⟨np.blk, 4, none⟩ = some (.int .i64 (linksN r p : Int)) := by rw [cell_at P8]; rfl
 have f4 : w8.cell? ⟨nq.blk, 4, none⟩ = some (.int .i64 (linksN r q : Int)) := by rw [cell_at Q8]; rfl
 have f5 : w8.cell? ⟨nx.b, 1, none⟩ = some (.int .i64 x.parent) := by rw [cell_at X8]; rfl
 have f6 : w8.frozen? ⟨np.blk, 4, none⟩ = false := frozen_of_row w8 np.blk 4 _ _ P8
 have f7 : w8.frozen? ⟨nq.blk, 4, none⟩ = false := frozen_of_row w8 nq.blk 4 _ _ Q8
 have f8 : w8.frozen? ⟨nx.b, 1, none⟩ = false := frozen_of_row w8 nx.b 1 _ _ X8
 have n1 : w3.heap.size ≠ nx.b := blk_ne R8 X8 (by decide)
 have n2 : w3.heap.size ≠ np.blk := blk_ne R8 P8 (by decide)
 have n3 : w3.heap.size ≠ nq.blk := blk_ne R8 Q8 (by decide)
 have n4 : w3.heap.size + 1 ≠ nx.b := blk_ne S8 X8 (by decide)
 have n5 : w3.heap.size + 1 ≠ np.blk := blk_ne S8 P8 (by decide)
 have n6 : w3.heap.size + 1 ≠ nq.blk := blk_ne S8 Q8 (by decide)
 have n7 : nx.b ≠ np.blk := blk_ne X8 P8 (by decide)
 have n8 : nx.b ≠ nq.blk := blk_ne X8 Q8 (by decide)
 have P8' := Lib.hid P8
 have Q8' := Lib.hid Q8
 have X8' := Lib.hid X8
 have hlp := HLp.out.1
 have hlp2 := HLp.out.2
 have hlq := HLq.out
 clear P8 Q8 X8 R8 S8 ne pm qm xd
 have n9 : np.blk ≠ nq.blk := HPB.out
 obtain ⟨lp, elp⟩ : ∃ lp, linksN r p = lp := ⟨_, rfl⟩
 obtain ⟨lq, elq⟩ : ∃ lq, linksN r q = lq := ⟨_, rfl⟩
 rw [elp] at f3 P8' hlp hlp2
 rw [elq] at f4 Q8' hlq
 have ELP := Lib.hid elp
 have ELQ := Lib.hid elq
 clear elp elq
 go_wp2
 go_ret
 refine ⟨rfl, ?_⟩
 obtain ⟨ei, eq⟩ := HI.out
 subst ei eq
 obtain ⟨hx, hp, hq⟩ := HM.out
 obtain ⟨hnx, hnp, hnq⟩ := HN.out
 obtain ⟨hrx, hrp, hrq⟩ := HR.out
 obtain ⟨hn0, m1, m2, m3⟩ := H0.out
 have B6 := HB.out.trans (HB6.out.mono (show w.heap.size ≤ w2.heap.size by omega))
 have hlk := fun y => moved_links HWf.out hx hn0 m3 q.id s2 (y := y) (y' := y) rfl rfl
 rw [m1, m2] at hlk
 have hns : ∀ j, namesP (movedP r p.id s q.id s2 x).nms j = _ := fun j => by rw [moved_nms, namesP_named, namesP_unnamed]
 have pm := (P6'.out.dir HK.out.1).2
 have qm := (Q6'.out.dir HK.out.2).2
 have xd := (X6'.out.dir HKX.out).1
 have c1 : ((lp : Int) - 1) = ((lp - 1 : Nat) : Int) := by omega
 have c2 : ((lq : Int) + 1) = ((lq + 1 : Nat) : Int) := by omega
 rw [c1, c2]
 have lP : linksN (movedP r p.id s q.id s2 x) p = lp - 1 := by
  have := hlk p
  rw [if_pos ⟨HK.out.1, HKX.out, rfl⟩, if_neg (fun e => HPQ.out e.2.2.symm), ELP.out] at this
  omega
 have lQ : linksN (movedP r p.id s q.id s2 x) q = lq + 1 := by
  have := hlk q
  rw [if_neg (fun e => HPQ.out e.2.2), if_pos ⟨HK.out.2, HKX.out, rfl⟩, ELQ.out] at this
  omega
 refine ⟨N, moved_fs HH.out HWf.out hx hnx hrx hp HK.out.1 hnp hrp hq HK.out.2 hnq hrq hn0 m1 m2 m3 HXP.out HXQ.out (fun k hk a b c d e => (setCell_far _ _ _ _ _ d).trans ((setCell_far _ _ _ _ _ c).trans ((setCell_far _ _ _ _ _ (e HKX.out)).trans ((K8.out k b).trans ((K7.out k a).trans (B6.block k hk)))))) ?_ ?_ ?_ ?_ (fun _ => ?_), fun k hk => .inl hk, ?_⟩
 ·rw [hns, if_neg HPQ.out, if_pos rfl]
  exact M1.out.of_block ((setCell_far _ _ _ _ _ (map_ne pm Q6'.out.head)).trans ((setCell_far _ _ _ _ _ (map_ne pm P6'.out.head)).trans ((setCell_far _ _ _ _ _ (map_ne pm xd)).trans (K8.out _ (fun e => HMm.out e.symm)))))
 ·rw [hns, if_pos rfl, if_neg (fun e => HPQ.out e.symm)]
  exact M2.out.of_block ((setCell_far _ _ _ _ _ (map_ne qm Q6'.out.head)).trans ((setCell_far _ _ _ _ _ (map_ne qm P6'.out.head)).trans (setCell_far _ _ _ _ _ (map_ne qm xd))))
 ·rw [lP]
  exact (setCell_far _ _ _ _ _ n9).trans (links_set ((setCell_far _ _ _ _ _ n7.symm).trans P8'.out))
 ·rw [lQ]
  exact links_set ((setCell_far _ _ _ _ _ n9.symm).trans ((setCell_far _ _ _ _ _ n8.symm).trans Q8'.out))
 ·exact (setCell_far _ _ _ _ _ n8).trans ((setCell_far _ _ _ _ _ n7).trans (heap_setCell_same w8 nx.b 1 _ _ _ X8'.out))
 ·rw [← W8.out, ← W7.out]
  exact ((((((Frm.of_below B6).putObj (.inl (fp_node hnp (Nd.m_mem (hrp.ne HK.out.1).1))) o1).putObj (.inl (fp_node hnq (Nd.m_mem (hrq.ne HK.out.2).1))) o2).setCell (.inl (fp_node hnx (Nd.b_mem (hrx.ne HKX.out).1))) _).setCell (.inl (fp_node hnp np.blk_mem)) _).setCell (.inl (fp_node hnq nq.blk_mem)) _)
set_option maxRecDepth 100000 in
set_option maxHeartbeats 8000000 in
theorem rename_mv1s {w : World} {f mi mg K : Nat} {r : RFs} {N : List Nd} (h : FsN w f mi mg r N) (hW : Wf r K) (i g : Int) (s : ByteArray) (hs : s.size ≤ maxLen) (i2 g2 : Int) (s2 : ByteArray) (hs2 : s2.size ≤ maxLen)
  {p q : RIn} {np nq : Nd} (hp : p ∈ r.ins) (hkp : p.kind = 2) (hnp : np ∈ N) (hrp : NodeR w r p np) (hq : q ∈ r.ins) (hkq : q.kind = 2) (hnq : nq ∈ N) (hrq : NodeR w r q nq) (hpi : p.id = i) (hqi : q.id = i2)
  (hl : liveP r (i, g) = true) (hl2 : liveP r (i2, g2) = true) (hk : (byIdP r.ins i).kind = 2) (hk2 : (byIdP r.ins i2).kind = 2) (hv : validP s = true) (hv2 : validP s2 = true)
  {x : RIn} {nx : Nd} (hx : x ∈ r.ins) (hnx : nx ∈ N) (hrx : NodeR w r x nx) (hxi : entryP r.nms i s = x.id) (hxq : x.id ≠ q.id) (ho : entryP r.nms i2 s2 = 0) (hkx : x.kind = 2) (hbl : belowB r i2 x.id = false) (hpq : np = nq) :
  Calls Tryz.prog 19 #[.pointer (some ⟨f, 0, none⟩), .agg #[.int .i64 i, .int .i64 g], .string s, .agg #[.int .i64 i2, .int .i64 g2], .string s2] w fun e w' => e = .returned (.int .i64 0) ∧ StepR w w' f mi mg N (movedP r i s i2 s2 x) := by
 subst hpq
 obtain rfl := h.uniq hW hp hrp hq hrq
 obtain rfl : i = i2 := hpi.symm.trans hqi
 obtain ⟨w2, hw2, hB, hz2, hb0, hb1⟩ := box2 w #[.int .i64 i, .int .i64 g] #[.int .i64 i, .int .i64 g2] 37 37
 have t0 : w2.cell? ⟨w.heap.size, 0, none⟩ = some (.int .i64 i) := by rw [cell_at hb0]; rfl
 have t1 : w2.cell? ⟨w.heap.size, 1, none⟩ = some (.int .i64 g) := by rw [cell_at hb0]; rfl
 have t2 : w2.cell? ⟨w.heap.size + 1, 0, none⟩ = some (.int .i64 i) := by rw [cell_at hb1]; rfl
 have t3 : w2.cell? ⟨w.heap.size + 1, 1, none⟩ = some (.int .i64 g2) := by rw [cell_at hb1]; rfl
 have h2 := h.below hW hB
 have HW2 := Lib.hid hw2
 have HB := Lib.hid hB
 have hrp2 := hrp.below (.inr (.inl hkp)) hB
 have hrq2 := hrq.below (.inr (.inl hkq)) hB
 have hpl := places_ok h2 hW i g s hs i g2 s2 hs2 hl hl2 hk hk2 hv hv2 hnp hnq (hrp.id.trans hpi) (hrq.id.trans hqi)
 have HP := Lib.hid hpl
 have HAt := Lib.hid (show ∀ w4, Below w2.heap.size w2 w4 → Calls Tryz.prog 26 #[.agg #[.pointer (some ⟨np.blk, 0, none⟩), .pointer (some ⟨np.b, 0, none⟩), .string s]] w4 fun e w' => e = .returned (.tuple #[.int .i64 (entryP r.nms i s), .bool (decide (entryP r.nms i s ≠ 0))]) ∧ Below w4.heap.size w4 w' from fun w4 hb => by
  have hr4 := hrp2.below (.inr (.inl hkp)) hb
  have := at_any hr4 hkp (hr4.lt (.inr (.inl hkp))) s (some ⟨np.blk, 0, none⟩)
  rw [hpi, hW.entry_some] at this
  exact this)
 have HAt2 := Lib.hid (show ∀ w4, Below w2.heap.size w2 w4 → Calls Tryz.prog 26 #[.agg #[.pointer (some ⟨np.blk, 0, none⟩), .pointer (some ⟨np.b, 0, none⟩), .string s2]] w4 fun e w' => e = .returned (.tuple #[.int .i64 (entryP r.nms i s2), .bool (decide (entryP r.nms i s2 ≠ 0))]) ∧ Below w4.heap.size w4 w' from fun w4 hb => by
  have hr4 := hrq2.below (.inr (.inl hkq)) hb
  have := at_any hr4 hkq (hr4.lt (.inr (.inl hkq))) s2 (some ⟨np.blk, 0, none⟩)
  rw [hqi, hW.entry_some] at this
  exact this)
 have hx0 : x.id ≠ 0 := hW.ne0 hx
 rw [hxi, decide_eq_true hx0] at HAt
 have hrx2 := hrx.below (hW.kind x hx) hB
 have HX := Lib.hid (show ∀ w', Below w2.heap.size w2 w' → w'.cell? ⟨f, 1, none⟩ = some (.map (some mi)) ∧ w'.cell? ⟨nx.blk, 5, none⟩ = some (holdsV x nx) ∧ (Instr.lookup 63 (.map (some mi)) (.int .i64 x.id) false).run Tryz.prog w' = .ok (.pointer (some ⟨nx.blk, 0, none⟩)) w' ∧ w'.cell? ⟨np.blk, 0, none⟩ = some (.int .i64 i) ∧ w'.cell? ⟨np.blk, 4, none⟩ = some (.int .i64 (linksN r p : Int)) from fun w' hb => by
  have h4 := h2.below hW hb
  have hg := h4.get hnx
  rw [hrx.id] at hg
  have hlk := (h4.look x.id).2
  rw [hg] at hlk
  have hq4 := (hrq2.below (.inr (.inl hkq)) hb).cells
  exact ⟨h4.cells.2.1, (hrx2.below (hW.kind x hx) hb).cells.2.2.2.2.2, hlk, by rw [← hqi]; exact hq4.1, hq4.2.2.2.2.1⟩)
 have hta : ∀ w, (Instr.typeAssert (holdsV x nx) 20 68 true).run Tryz.prog w = .ok (.tuple #[.pointer (some ⟨nx.b, 0, none⟩), .bool true]) w := fun w => by rw [ta_dir, if_pos hkx]; rfl
 have hh0 : entryP r.nms i s ≠ 0 := by rw [hxi]; exact hW.ne0 hx
 obtain ⟨n0, hn0, m1, m2, m3⟩ := entry_mem hh0
 rw [hxi] at m3
 rw [← hpi] at m1
 have hxp : x.id ≠ p.id := by rw [← m3, ← m1]; exact hW.self_ne hn0
 have HH := Lib.hid h
 have HWf := Lib.hid hW
 have HR := Lib.hid (And.intro hrx (And.intro hrp hrq))
 have HM := Lib.hid (And.intro hx (And.intro hp hq))
 have HN := Lib.hid (And.intro hnx (And.intro hnp hnq))
 have H0 := Lib.hid (And.intro hn0 (And.intro m1 (And.intro m2 m3)))
 have HK := Lib.hid (And.intro hkp hkq)
 have HI := Lib.hid (And.intro hpi hqi)
 have HXP := Lib.hid hxp
 have HNo := Lib.hid (entry_none hW (l := r.nms) (fun _ hn => hn) ho)
 have HN6 := Lib.hid (show ∀ w', Below w2.heap.size w2 w' → FsN w' f mi mg r N ∧ NodeR w' r p np ∧ NodeR w' r p np ∧ NodeR w' r x nx from fun w' hb => ⟨h2.below hW hb, hrp2.below (.inr (.inl hkp)) hb, hrq2.below (.inr (.inl hkq)) hb, hrx2.below (hW.kind x hx) hb⟩)
 rw [ho] at HAt2
 simp only [ne_eq, not_true_eq_false, decide_false] at HAt2
 have HBl := Lib.hid (show ∀ w', Below w2.heap.size w2 w' → Calls Tryz.prog 45 #[.pointer (some ⟨f, 0, none⟩), .int .i64 i, .int .i64 x.id] w' fun e w'' => e = .returned (.bool false) ∧ w' = w'' from fun w' hb => by
  have := below_any (h2.below hW hb) hW hq hkq x.id
  rw [hqi, hbl] at this
  exact this)
 have HKX := Lib.hid hkx
 have HXQ := Lib.hid hxq
 have HLp := Lib.hid (show 2 ≤ linksN r p ∧ linksN r p ≤ 20 from ⟨by unfold linksN; rw [if_pos hkp]; omega, hW.lim p hp⟩)
 have HLq := Lib.hid (show linksN r p ≤ 20 from hW.lim p hq)
 have HNq := Lib.hid (show ∀ w', Below w2.heap.size w2 w' → (binOp .neq 67 (.pointer (some ⟨np.blk, 0, none⟩)) (.pointer (some ⟨np.blk, 0, none⟩))).run Tryz.prog w' = .ok (.bool false) w' from fun w' hb => by
  have := neq_ino (hrp2.below (.inr (.inl hkp)) hb).head (hrq2.below (.inr (.inl hkq)) hb).head
  rw [show (!decide (np.blk = np.blk)) = false by simp] at this
  exact this)
 have HAg := Lib.hid (show (aget (adel (namesP r.nms p.id) s) s2).isSome = false from by
  have h0 : (aget (namesP r.nms p.id) s2).isSome = false := by rw [hW.entry_some, hqi, ho]; rfl
  have h1 : aget (namesP r.nms p.id) s2 = none := by cases hh : aget (namesP r.nms p.id) s2 with
   | none => rfl
   | some v => rw [hh] at h0; cases h0
  rw [aget_none] at h1
  have h2 : aget (adel (namesP r.nms p.id) s) s2 = none := by
   rw [aget_none]
   intro z hz
   exact h1 z (List.mem_filter.1 hz).1
  rw [h2]; rfl)
 clear hw2 hB hb0 hb1 h h2 hW hrp2 hrq2 hpl hp hkp hnp hrp hq hkq hnq hrq hpi hqi hl hl2 hk hk2 hv hv2 hx hnx hrx hxi hx0 hrx2 ho hkx hxq hbl hh0 hn0 m1 m2 m3 hxp
 go_enter Tryz.func19, Tryz.ntmps19
 go_wp2_with fail
 rw [HW2.out]
 go_upto_region 4 with (go_at_call 44; (with_reducible refine HP.out.mono ?_); rintro e w3 ⟨rfl, hB3⟩; have hs3 := hB3.size; replace hB3 := Lib.hid hB3)
 obtain ⟨w4, hw4, hB4, hs4, hb40, hb41⟩ := box2 w3 #[.pointer (some ⟨np.blk, 0, none⟩), .pointer (some ⟨np.b, 0, none⟩), .string s] #[.pointer (some ⟨np.blk, 0, none⟩), .pointer (some ⟨np.b, 0, none⟩), .string s2] 85 85
 rw [hw4]
 have c0 : w4.cell? ⟨w3.heap.size, 0, none⟩ = some (.pointer (some ⟨np.blk, 0, none⟩)) := by rw [cell_at hb40]; rfl
 have c1 : w4.cell? ⟨w3.heap.size, 1, none⟩ = some (.pointer (some ⟨np.b, 0, none⟩)) := by rw [cell_at hb40]; rfl
 have c2 : w4.cell? ⟨w3.heap.size, 2, none⟩ = some (.string s) := by rw [cell_at hb40]; rfl
 have HQ1 := Lib.hid hb40
 have HQ2 := Lib.hid hb41
 have HB4 := Lib.hid (hB3.out.trans (hB4.mono (by omega)))
 clear hw4 hb40 hb41 hB4
 go_upto_region 22 with (first
  | (go_at_call 26; (with_reducible refine (HAt.out w4 HB4.out).mono ?_); rintro e w5 ⟨rfl, hB5⟩; have hs5 := hB5.size; have hY := (hB5.block _ (by omega)).trans HQ2.out; have d0 : w5.cell? ⟨w3.heap.size + 1, 0, none⟩ = _ := cell_at hY 0; have d1 : w5.cell? ⟨w3.heap.size + 1, 1, none⟩ = _ := cell_at hY 1; have d2 : w5.cell? ⟨w3.heap.size + 1, 2, none⟩ = _ := cell_at hY 2; have HQ25 := Lib.hid hY; have HQ15 := Lib.hid ((hB5.block _ (by omega)).trans HQ1.out); clear hY; have HB5 := Lib.hid (HB4.out.trans (hB5.mono HB4.out.size)); obtain ⟨x1, x2, x3, -, -⟩ := HX.out w5 HB5.out; clear hB5)
  | (go_at_call 26; (with_reducible refine (HAt2.out w5 HB5.out).mono ?_); rintro e w6 ⟨rfl, hB6⟩; have hs6 := hB6.size; have HQ26 := Lib.hid ((hB6.block _ (by omega)).trans HQ25.out); have HQ16 := Lib.hid ((hB6.block _ (by omega)).trans HQ15.out); have e0 : w6.cell? ⟨w3.heap.size, 0, none⟩ = _ := cell_at HQ16.out 0; have g0 : w6.cell? ⟨w3.heap.size + 1, 0, none⟩ = _ := cell_at HQ26.out 0; have HB6 := Lib.hid (HB5.out.trans (hB6.mono HB5.out.size)); obtain ⟨y1, y2, y3, y4, y5⟩ := HX.out w6 HB6.out; clear hB6; have y6 := HNq.out w6 HB6.out)
  | (go_at_call 45; (with_reducible refine (HBl.out w6 HB6.out).mono ?_); rintro e w7 ⟨rfl, rfl⟩))
 obtain ⟨F6, P6, Q6, X6⟩ := HN6.out w6 HB6.out
 have a1 : w6.cell? ⟨w3.heap.size, 1, none⟩ = some (.pointer (some ⟨np.b, 0, none⟩)) := by rw [cell_at HQ16.out]; rfl
 have a2 : w6.cell? ⟨np.b, 0, none⟩ = some (.map (some np.m)) := by rw [cell_at (P6.dir HK.out.1).1]; rfl
 have hm6 : MapB w6 np.m strK intK (namesP r.nms p.id) := (P6.dir HK.out.1).2
 obtain ⟨o1, hdel, hmp1⟩ := run_delete (P := Tryz.prog) (ty := 0) (tk := 9) KS (t := 69) Tryz.underlying69 hm6 s
 unfold strK at hdel
 have M1 := Lib.hid hmp1
 have G6 := Lib.hid F6
 have P6' := Lib.hid P6
 have Q6' := Lib.hid Q6
 have X6' := Lib.hid X6
 clear F6 P6 Q6 X6 hm6 hmp1
 go_upto_region 23 with fail
 obtain ⟨w7, hw7⟩ : ∃ w7, putObj w6 np.m o1 = w7 := ⟨_, rfl⟩
 rw [hw7]
 have k7 : ∀ k, k ≠ np.m → w7.heap[k]? = w6.heap[k]? := fun k hk => by rw [← hw7]; exact putObj_other w6 o1 hk
 rw [hw7] at M1
 have W7 := Lib.hid hw7
 have K7 := Lib.hid k7
 have b1 : w7.cell? ⟨w3.heap.size + 1, 1, none⟩ = some (.pointer (some ⟨np.b, 0, none⟩)) := by rw [cell_at ((k7 _ (map_ne (P6'.out.dir HK.out.1).2 HQ26.out).symm).trans HQ26.out)]; rfl
 have b2 : w7.cell? ⟨np.b, 0, none⟩ = some (.map (some np.m)) := by rw [cell_at ((k7 _ (map_ne (P6'.out.dir HK.out.1).2 (Q6'.out.dir HK.out.2).1).symm).trans (Q6'.out.dir HK.out.2).1)]; rfl
 have hm7 : MapB w7 np.m strK intK (adel (namesP r.nms p.id) s) := M1.out
 have hag : (aget (adel (namesP r.nms p.id) s) s2).isSome = false := HAg.out
 obtain ⟨o2, hup, hmp2⟩ := run_update KS (P := Tryz.prog) (t := 69) Tryz.underlying69 hm7 s2 x.id
 rw [aput_new hag] at hmp2
 unfold strK intK at hup
 have M2 := Lib.hid hmp2
 clear hm7 hag hmp2 hw7 k7 hdel a1 a2
 go_upto_region 24 with fail
 obtain ⟨w8, hw8⟩ : ∃ w8, putObj w7 np.m o2 = w8 := ⟨_, rfl⟩
 rw [hw8]
 rw [hw8] at M2
 have W8 := Lib.hid hw8
 have K8 := Lib.hid (show ∀ k, k ≠ np.m → w8.heap[k]? = w7.heap[k]? from fun k hk => by rw [← hw8]; exact putObj_other w7 o2 hk)
 clear hw8 hup b1 b2
 have ne : ∀ k, k ≠ np.m → k ≠ np.m → w8.heap[k]? = w6.heap[k]? := fun k a b => (K8.out k b).trans (K7.out k a)
 have pm := (P6'.out.dir HK.out.1).2
 have qm := (Q6'.out.dir HK.out.2).2
 have xd := (X6'.out.dir HKX.out).1
 have P8 := (ne _ (map_ne pm P6'.out.head).symm (map_ne qm P6'.out.head).symm).trans P6'.out.head
 have Q8 := (ne _ (map_ne pm Q6'.out.head).symm (map_ne qm Q6'.out.head).symm).trans Q6'.out.head
 have X8 := (ne _ (map_ne pm xd).symm (map_ne qm xd).symm).trans xd
 have R8 := (ne _ (map_ne pm HQ16.out).symm (map_ne qm HQ16.out).symm).trans HQ16.out
 have S8 := (ne _ (map_ne pm HQ26.out).symm (map_ne qm HQ26.out).symm).trans HQ26.out
 have f0 : w8.cell? ⟨w3.heap.size, 0, none⟩ = some (.pointer (some ⟨np.blk, 0, none⟩)) := by rw [cell_at R8]; rfl
 have f1 : w8.cell? ⟨w3.heap.size + 1, 0, none⟩ = some (.pointer (some ⟨np.blk, 0, none⟩)) := by rw [cell_at S8]; rfl
 have f2 : w8.cell? ⟨np.blk, 0, none⟩ = some (.int .i64 p.id) := by rw [cell_at Q8]; rfl
 have f3 : w8.cell? ⟨np.blk, 4, none⟩ = some (.int .i64 (linksN r p : Int)) := by rw [cell_at P8]; rfl
 have f4 : w8.cell? ⟨np.blk, 4, none⟩ = some (.int .i64 (linksN r p : Int)) := by rw [cell_at Q8]; rfl
 have f5 : w8.cell? ⟨nx.b, 1, none⟩ = some (.int .i64 x.parent) := by rw [cell_at X8]; rfl
 have f6 : w8.frozen? ⟨np.blk, 4, none⟩ = false := frozen_of_row w8 np.blk 4 _ _ P8
 have f7 : w8.frozen? ⟨np.blk, 4, none⟩ = false := frozen_of_row w8 np.blk 4 _ _ Q8
 have f8 : w8.frozen? ⟨nx.b, 1, none⟩ = false := frozen_of_row w8 nx.b 1 _ _ X8
 have n1 : w3.heap.size ≠ nx.b := blk_ne R8 X8 (by decide)
 have n2 : w3.heap.size ≠ np.blk := blk_ne R8 P8 (by decide)
 have n3 : w3.heap.size ≠ np.blk := blk_ne R8 Q8 (by decide)
 have n4 : w3.heap.size + 1 ≠ nx.b := blk_ne S8 X8 (by decide)
 have n5 : w3.heap.size + 1 ≠ np.blk := blk_ne S8 P8 (by decide)
 have n6 : w3.heap.size + 1 ≠ np.blk := blk_ne S8 Q8 (by decide)
 have n7 : nx.b ≠ np.blk := blk_ne X8 P8 (by decide)
 have n8 : nx.b ≠ np.blk := blk_ne X8 Q8 (by decide)
 have P8' := Lib.hid P8
 have Q8' := Lib.hid Q8
 have X8' := Lib.hid X8
 have hlp := HLp.out.1
 have hlp2 := HLp.out.2
 have hlq := HLq.out
 clear P8 Q8 X8 R8 S8 ne pm qm xd
 obtain ⟨lp, elp⟩ : ∃ lp, linksN r p = lp := ⟨_, rfl⟩
 obtain ⟨lq, elq⟩ : ∃ lq, linksN r p = lq := ⟨_, rfl⟩
 rw [elp] at f3 P8' hlp hlp2
 rw [elq] at f4 Q8' hlq
 have ELP := Lib.hid elp
 have ELQ := Lib.hid elq
 clear elp elq
 go_wp2
 go_ret
 refine ⟨rfl, ?_⟩
 obtain ⟨ei, -⟩ := HI.out
 subst ei
 obtain ⟨hx, hp, hq⟩ := HM.out
 obtain ⟨hnx, hnp, hnq⟩ := HN.out
 obtain ⟨hrx, hrp, hrq⟩ := HR.out
 obtain ⟨hn0, m1, m2, m3⟩ := H0.out
 have B6 := HB.out.trans (HB6.out.mono (show w.heap.size ≤ w2.heap.size by omega))
 have hlk := fun y => moved_links HWf.out hx hn0 m3 p.id s2 (y := y) (y' := y) rfl rfl
 rw [m1, m2] at hlk
 have hns : ∀ j, namesP (movedP r p.id s p.id s2 x).nms j = _ := fun j => by rw [moved_nms, namesP_named, namesP_unnamed]
 have pm := (P6'.out.dir HK.out.1).2
 have qm := (Q6'.out.dir HK.out.2).2
 have xd := (X6'.out.dir HKX.out).1
 have c1 : ((lp : Int) - 1) = ((lp - 1 : Nat) : Int) := by omega
 have c3 : ((lp : Int) - 1 + 1) = ((lp : Nat) : Int) := by omega
 try rw [c3]
 rw [c1]
 have lP : linksN (movedP r p.id s p.id s2 x) p = lp := by
  have := hlk p
  rw [if_pos ⟨HK.out.1, HKX.out, rfl⟩, ELP.out] at this
  omega
 refine ⟨N, moved_fs HH.out HWf.out hx hnx hrx hp HK.out.1 hnp hrp hq HK.out.2 hnq hrq hn0 m1 m2 m3 HXP.out HXQ.out (fun k hk a b c d e => (setCell_far _ _ _ _ _ d).trans ((setCell_far _ _ _ _ _ c).trans ((setCell_far _ _ _ _ _ (e HKX.out)).trans ((K8.out k b).trans ((K7.out k a).trans (B6.block k hk)))))) ?_ ?_ ?_ ?_ (fun _ => ?_), fun k hk => .inl hk, ?_⟩
 ·rw [hns, if_pos rfl, if_pos rfl]
  exact M2.out.of_block ((setCell_far _ _ _ _ _ (map_ne pm P6'.out.head)).trans ((setCell_far _ _ _ _ _ (map_ne pm P6'.out.head)).trans (setCell_far _ _ _ _ _ (map_ne pm xd))))
 ·rw [hns, if_pos rfl, if_pos rfl]
  exact M2.out.of_block ((setCell_far _ _ _ _ _ (map_ne pm P6'.out.head)).trans ((setCell_far _ _ _ _ _ (map_ne pm P6'.out.head)).trans (setCell_far _ _ _ _ _ (map_ne pm xd))))
 ·rw [lP]
  exact links_set (links_set (lk' := lp - 1) ((setCell_far _ _ _ _ _ n7.symm).trans P8'.out))
 ·rw [lP]
  exact links_set (links_set (lk' := lp - 1) ((setCell_far _ _ _ _ _ n7.symm).trans P8'.out))
 ·exact (setCell_far _ _ _ _ _ n7).trans ((setCell_far _ _ _ _ _ n7).trans (heap_setCell_same w8 nx.b 1 _ _ _ X8'.out))
 ·rw [← W8.out, ← W7.out]
  exact ((((((Frm.of_below B6).putObj (.inl (fp_node hnp (Nd.m_mem (hrp.ne HK.out.1).1))) o1).putObj (.inl (fp_node hnq (Nd.m_mem (hrq.ne HK.out.2).1))) o2).setCell (.inl (fp_node hnx (Nd.b_mem (hrx.ne HKX.out).1))) _).setCell (.inl (fp_node hnp np.blk_mem)) _).setCell (.inl (fp_node hnq np.blk_mem)) _)
end Go.Proofs.YtpcjmefchclhhaaGreat
namespace Go.Proofs.YtpcjmefchclhhaaGreat
open Go.RowKit Go.MapKept
section
variable {r : RFs} {K : Nat} {x p q o : RIn} {s t : ByteArray}
theorem drop_nms (r : RFs) (d : Int) (s : ByteArray) : (dropP r d s).nms = r.nms.filter fun n => !decide (n.dir = d ∧ n.name = s) := by
 unfold dropP
 split <;> rfl
theorem drop_mem {y : RIn} (hy : y ∈ r.ins) {d : Int} (hne : y.id ≠ entryP r.nms d t) : y ∈ (dropP r d t).ins := by
 unfold dropP
 split
 ·exact List.mem_filter.2 ⟨hy, by simpa using hne⟩
 ·exact hy
theorem may_dir {fo : Bool} (h : mayP r o fo = 0) : (o.kind = 2 ↔ fo = true) ∧ (o.kind = 2 → manyP r.nms o.id = 0) := by
 unfold mayP at h
 by_cases k : o.kind = 2
 ·rw [if_pos k] at h
  cases fo
  ·simp at h
  ·simp only [if_true] at h
   refine ⟨by simp [k], fun _ => ?_⟩
   split at h
   ·cases h
   ·omega
 ·rw [if_neg k] at h
  cases fo
  ·exact ⟨by simp [k], fun e => absurd e k⟩
  ·simp at h
theorem drop_ctx (hW : Wf r K) (hx : x ∈ r.ins) (hp : p ∈ r.ins) (hkp : p.kind = 2) (hq : q ∈ r.ins) (ho : o ∈ r.ins) (hoi : entryP r.nms q.id t = o.id) (hox : o.id ≠ x.id) (hem : o.kind = 2 → manyP r.nms o.id = 0)
  {n0 : RNm} (hn0 : n0 ∈ r.nms) (e1 : n0.dir = p.id) (e3 : n0.id = x.id) :
  Wf (dropP r q.id t) K ∧ x ∈ (dropP r q.id t).ins ∧ p ∈ (dropP r q.id t).ins ∧ q ∈ (dropP r q.id t).ins ∧ n0 ∈ (dropP r q.id t).nms ∧ aget (namesP (dropP r q.id t).nms q.id) t = none := by
 have h0 : entryP r.nms q.id t ≠ 0 := by rw [hoi]; exact hW.ne0 ho
 obtain ⟨n1, hn1, a1, a2, a3⟩ := entry_mem h0
 have hb := hW.byId ho
 have hpo : p.id ≠ o.id := fun e => by
  have : p = o := by rw [← hW.byId hp, e, hb]
  subst this
  have := hem hkp
  unfold manyP at this
  rw [List.countP_eq_zero] at this
  have := this n0 hn0
  simp [e1] at this
 have hqo : q.id ≠ o.id := fun e => hW.self_ne hn1 (by rw [a3, hoi, a1, e])
 refine ⟨wf_drop hW h0 (by rw [hoi, hb]; exact hem), drop_mem hx (by rw [hoi]; exact fun e => hox e.symm), drop_mem hp (by rw [hoi]; exact hpo), drop_mem hq (by rw [hoi]; exact hqo), ?_, ?_⟩
 ·rw [drop_nms, List.mem_filter, Bool.not_eq_true', decide_eq_false_iff_not]
  refine ⟨hn0, fun e => ?_⟩
  have := hW.uniq_eq hn0 hn1 (e.1.trans a1.symm) (e.2.trans a2.symm)
  rw [this, a3, hoi] at e3
  exact hox e3
 ·rw [drop_nms, namesP_unnamed, if_pos rfl, aget_del, if_pos rfl]
theorem drop_links (hW : Wf r K) (hq : q ∈ r.ins) (hkq : q.kind = 2) (ho : o ∈ r.ins) (hko : o.kind = 2) (hoi : entryP r.nms q.id t = o.id) : linksN (dropP r q.id t) q < 20 := by
 have h0 : entryP r.nms q.id t ≠ 0 := by rw [hoi]; exact hW.ne0 ho
 obtain ⟨n1, hn1, a1, a2, a3⟩ := entry_mem h0
 have hb := hW.byId ho
 have h1 := linksN_unnamed hW hn1 q
 rw [a1, a2, a3, hoi, hb, if_pos hkq, if_pos ⟨rfl, hko⟩] at h1
 have h2 := hW.lim q hq
 have h3 : linksN (dropP r q.id t) q ≤ linksN (unnamedP r q.id t) q := by
  unfold dropP
  rw [hoi, hb, if_pos (.inl hko)]
  unfold linksN
  rw [if_pos hkq, if_pos hkq]
  refine Nat.add_le_add_right (List.countP_mono_left fun n _ h => ?_) 2
  simp only [decide_eq_true_eq] at h ⊢
  refine ⟨h.1, ?_⟩
  have h4 := h.2
  show (byIdP r.ins n.id).kind = 2
  change (byIdP (r.ins.filter fun x => decide (x.id ≠ o.id)) n.id).kind = 2 at h4
  rw [byIdP_filter] at h4
  split at h4
  ·exact absurd h4 (by decide)
  ·exact h4
 omega
end
end Go.Proofs.YtpcjmefchclhhaaGreat
namespace Go.Proofs.YtpcjmefchclhhaaGreat
open Go.RowKit Go.MapKept
theorem node_sub {w w7 : World} {f mi mg K : Nat} {r rd : RFs} {N N7 : List Nd} (h : FsN w f mi mg r N) (F7 : FsN w7 f mi mg rd N7) (hWd : Wf rd K) (hsub : ∀ n ∈ N7, n ∈ N) {y : RIn} {n : Nd} (hy : y ∈ rd.ins) (hn : n ∈ N) (hi : n.id = y.id) : n ∈ N7 ∧ NodeR w7 rd y n := by
 obtain ⟨m, hm, hr⟩ := F7.at_ hWd hy
 have : m = n := nodup_inj h.idU (hsub m hm) hn (hr.id.trans hi.symm)
 subst this
 exact ⟨hm, hr⟩
theorem fpL_lt {w : World} {f mi mg K : Nat} {r : RFs} {N : List Nd} (h : FsN w f mi mg r N) (hW : Wf r K) : ∀ k ∈ fpL f mi mg N, k < w.heap.size := by
 obtain ⟨l1, l2, l3, l4⟩ := h.lt hW
 intro k hk
 unfold fpL at hk
 simp only [List.mem_cons, List.mem_flatMap] at hk
 rcases hk with rfl | rfl | rfl | ⟨n, hn, hk⟩
 ·exact l1
 ·exact l2
 ·exact l3
 ·exact l4 n hn k hk
set_option maxRecDepth 100000 in
set_option maxHeartbeats 8000000 in
theorem rename_ov0d {w : World} {f mi mg K : Nat} {r : RFs} {N : List Nd} (h : FsN w f mi mg r N) (hW : Wf r K) (i g : Int) (s : ByteArray) (hs : s.size ≤ maxLen) (i2 g2 : Int) (s2 : ByteArray) (hs2 : s2.size ≤ maxLen)
  {p q : RIn} {np nq : Nd} (hp : p ∈ r.ins) (hkp : p.kind = 2) (hnp : np ∈ N) (hrp : NodeR w r p np) (hq : q ∈ r.ins) (hkq : q.kind = 2) (hnq : nq ∈ N) (hrq : NodeR w r q nq) (hpi : p.id = i) (hqi : q.id = i2)
  (hl : liveP r (i, g) = true) (hl2 : liveP r (i2, g2) = true) (hk : (byIdP r.ins i).kind = 2) (hk2 : (byIdP r.ins i2).kind = 2) (hv : validP s = true) (hv2 : validP s2 = true)
  {x : RIn} {nx : Nd} (hx : x ∈ r.ins) (hnx : nx ∈ N) (hrx : NodeR w r x nx) (hxi : entryP r.nms i s = x.id) (hxq : x.id ≠ q.id) {o : RIn} {no : Nd} (ho : o ∈ r.ins) (hno : no ∈ N) (hro : NodeR w r o no) (hoi : entryP r.nms i2 s2 = o.id) (hox : o.id ≠ x.id) (hkx : ¬ x.kind = 2) (hpq : np.blk ≠ nq.blk) (hmy : mayP r o false = 0) :
  Calls Tryz.prog 19 #[.pointer (some ⟨f, 0, none⟩), .agg #[.int .i64 i, .int .i64 g], .string s, .agg #[.int .i64 i2, .int .i64 g2], .string s2] w fun e w' => e = .returned (.int .i64 0) ∧ StepR w w' f mi mg N (movedP (dropP r i2 s2) i s i2 s2 x) := by
 obtain ⟨w2, hw2, hB, hz2, hb0, hb1⟩ := box2 w #[.int .i64 i, .int .i64 g] #[.int .i64 i2, .int .i64 g2] 37 37
 have t0 : w2.cell? ⟨w.heap.size, 0, none⟩ = some (.int .i64 i) := by rw [cell_at hb0]; rfl
 have t1 : w2.cell? ⟨w.heap.size, 1, none⟩ = some (.int .i64 g) := by rw [cell_at hb0]; rfl
 have t2 : w2.cell? ⟨w.heap.size + 1, 0, none⟩ = some (.int .i64 i2) := by rw [cell_at hb1]; rfl
 have t3 : w2.cell? ⟨w.heap.size + 1, 1, none⟩ = some (.int .i64 g2) := by rw [cell_at hb1]; rfl
 have h2 := h.below hW hB
 have HW2 := Lib.hid hw2
 have HB := Lib.hid hB
 have hrp2 := hrp.below (.inr (.inl hkp)) hB
 have hrq2 := hrq.below (.inr (.inl hkq)) hB
 have hpl := places_ok h2 hW i g s hs i2 g2 s2 hs2 hl hl2 hk hk2 hv hv2 hnp hnq (hrp.id.trans hpi) (hrq.id.trans hqi)
 have HP := Lib.hid hpl
 have HAt := Lib.hid (show ∀ w4, Below w2.heap.size w2 w4 → Calls Tryz.prog 26 #[.agg #[.pointer (some ⟨np.blk, 0, none⟩), .pointer (some ⟨np.b, 0, none⟩), .string s]] w4 fun e w' => e = .returned (.tuple #[.int .i64 (entryP r.nms i s), .bool (decide (entryP r.nms i s ≠ 0))]) ∧ Below w4.heap.size w4 w' from fun w4 hb => by
  have hr4 := hrp2.below (.inr (.inl hkp)) hb
  have := at_any hr4 hkp (hr4.lt (.inr (.inl hkp))) s (some ⟨np.blk, 0, none⟩)
  rw [hpi, hW.entry_some] at this
  exact this)
 have HAt2 := Lib.hid (show ∀ w4, Below w2.heap.size w2 w4 → Calls Tryz.prog 26 #[.agg #[.pointer (some ⟨nq.blk, 0, none⟩), .pointer (some ⟨nq.b, 0, none⟩), .string s2]] w4 fun e w' => e = .returned (.tuple #[.int .i64 (entryP r.nms i2 s2), .bool (decide (entryP r.nms i2 s2 ≠ 0))]) ∧ Below w4.heap.size w4 w' from fun w4 hb => by
  have hr4 := hrq2.below (.inr (.inl hkq)) hb
  have := at_any hr4 hkq (hr4.lt (.inr (.inl hkq))) s2 (some ⟨nq.blk, 0, none⟩)
  rw [hqi, hW.entry_some] at this
  exact this)
 have hx0 : x.id ≠ 0 := hW.ne0 hx
 rw [hxi, decide_eq_true hx0] at HAt
 have hrx2 := hrx.below (hW.kind x hx) hB
 have HX := Lib.hid (show ∀ w', Below w2.heap.size w2 w' → w'.cell? ⟨f, 1, none⟩ = some (.map (some mi)) ∧ w'.cell? ⟨nx.blk, 5, none⟩ = some (holdsV x nx) ∧ (Instr.lookup 63 (.map (some mi)) (.int .i64 x.id) false).run Tryz.prog w' = .ok (.pointer (some ⟨nx.blk, 0, none⟩)) w' ∧ w'.cell? ⟨nq.blk, 0, none⟩ = some (.int .i64 i2) ∧ w'.cell? ⟨nq.blk, 4, none⟩ = some (.int .i64 (linksN r q : Int)) from fun w' hb => by
  have h4 := h2.below hW hb
  have hg := h4.get hnx
  rw [hrx.id] at hg
  have hlk := (h4.look x.id).2
  rw [hg] at hlk
  have hq4 := (hrq2.below (.inr (.inl hkq)) hb).cells
  exact ⟨h4.cells.2.1, (hrx2.below (hW.kind x hx) hb).cells.2.2.2.2.2, hlk, by rw [← hqi]; exact hq4.1, hq4.2.2.2.2.1⟩)
 have hta : ∀ w, (Instr.typeAssert (holdsV x nx) 20 68 true).run Tryz.prog w = .ok (.tuple #[.pointer none, .bool false]) w := fun w => by rw [ta_dir, if_neg hkx]
 have hh0 : entryP r.nms i s ≠ 0 := by rw [hxi]; exact hW.ne0 hx
 obtain ⟨n0, hn0, m1, m2, m3⟩ := entry_mem hh0
 rw [hxi] at m3
 rw [← hpi] at m1
 have hxp : x.id ≠ p.id := by rw [← m3, ← m1]; exact hW.self_ne hn0
 have HH := Lib.hid h
 have HWf := Lib.hid hW
 have HR := Lib.hid (And.intro hrx (And.intro hrp hrq))
 have HM := Lib.hid (And.intro hx (And.intro hp hq))
 have HN := Lib.hid (And.intro hnx (And.intro hnp hnq))
 have H0 := Lib.hid (And.intro hn0 (And.intro m1 (And.intro m2 m3)))
 have HK := Lib.hid (And.intro hkp hkq)
 have HI := Lib.hid (And.intro hpi hqi)
 have HXP := Lib.hid hxp
 have HN6 := Lib.hid (show ∀ w', Below w2.heap.size w2 w' → FsN w' f mi mg r N ∧ NodeR w' r p np ∧ NodeR w' r q nq ∧ NodeR w' r x nx from fun w' hb => ⟨h2.below hW hb, hrp2.below (.inr (.inl hkp)) hb, hrq2.below (.inr (.inl hkq)) hb, hrx2.below (hW.kind x hx) hb⟩)
 have ho0 : o.id ≠ 0 := hW.ne0 ho
 rw [hoi, decide_eq_true ho0] at HAt2
 have hbq : (o.id == x.id) = false := by rw [beq_eq_false_iff_ne]; exact hox
 have hro2 := hro.below (hW.kind o ho) hB
 have HO := Lib.hid (show ∀ w', Below w2.heap.size w2 w' → (Instr.lookup 63 (.map (some mi)) (.int .i64 o.id) false).run Tryz.prog w' = .ok (.pointer (some ⟨no.blk, 0, none⟩)) w' from fun w' hb => by
  have h4 := h2.below hW hb
  have hg := h4.get hno
  rw [hro.id] at hg
  have hlk := (h4.look o.id).2
  rw [hg] at hlk
  exact hlk)
 have HMy := Lib.hid (show ∀ w', Below w2.heap.size w2 w' → Calls Tryz.prog 46 #[.pointer (some ⟨f, 0, none⟩), .pointer (some ⟨no.blk, 0, none⟩), .bool false] w' fun e w'' => e = .returned (.int .i64 0) ∧ w' = w'' from fun w' hb => by
  have := may_any (hro2.below (hW.kind o ho) hb) false (some ⟨f, 0, none⟩)
  rw [hmy] at this; exact this)
 have hoi' : entryP r.nms q.id s2 = o.id := by rw [hqi]; exact hoi
 have hctx := drop_ctx hW hx hp hkp hq ho hoi' hox (may_dir hmy).2 hn0 m1 m3
 have HNo := Lib.hid (And.intro hnx (And.intro hnp hnq))
 have HIds := Lib.hid (And.intro hrx.id (And.intro hrp.id hrq.id))
 have HLt := Lib.hid (fpL_lt h hW)
 obtain ⟨rd, erd⟩ : ∃ rd, dropP r q.id s2 = rd := ⟨_, rfl⟩
 have HDr := Lib.hid (show ∀ w', Below w2.heap.size w2 w' → Calls Tryz.prog 47 #[.pointer (some ⟨f, 0, none⟩), .agg #[.pointer (some ⟨nq.blk, 0, none⟩), .pointer (some ⟨nq.b, 0, none⟩), .string s2]] w' fun e w'' => e = .returned (.tuple #[]) ∧ (∃ N', FsN w'' f mi mg rd N' ∧ ∀ n ∈ N', n ∈ N) ∧ Frm (fpL f mi mg N) w' w'' from fun w' hb => by
  have := drop_any (h2.below hW hb) hW hq hkq hnq (hrq2.below (.inr (.inl hkq)) hb) s2 (by rw [hoi']; exact ho0)
  rw [erd] at this
  exact this)
 rw [erd] at hctx
 obtain ⟨hWd, hxd, hpd, hqd, hnd, hag⟩ := hctx
 have HERd := Lib.hid erd
 have HWd := Lib.hid hWd
 have HMd := Lib.hid (And.intro hxd (And.intro hpd hqd))
 have H0d := Lib.hid (And.intro hnd (And.intro m1 (And.intro m2 m3)))
 have HKX := Lib.hid hkx
 have HXQ := Lib.hid hxq
 have HAg := Lib.hid (show (aget (namesP rd.nms q.id) s2).isSome = false by rw [hag]; rfl)
 have hmm : nq.m ≠ np.m := fun e => hpq (by
  by_cases c : nq = np
  ·rw [c]
  ·exact absurd (e ▸ Nd.m_mem (hrp.ne hkp).1) (h.apart hnq hnp c _ (Nd.m_mem (hrq.ne hkq).1)))
 have HMm := Lib.hid hmm
 have HPB := Lib.hid hpq
 have HPQ := Lib.hid (show p.id ≠ q.id from fun e => hpq (by rw [nodup_inj h.idU hnp hnq (hrp.id.trans (e.trans hrq.id.symm))]))
 clear hw2 hB hb0 hb1 h h2 hW hrp2 hrq2 hpl hp hkp hnp hrp hq hkq hnq hrq hpi hqi hl hl2 hk hk2 hv hv2 hx hnx hrx hxi hx0 hrx2 hkx hpq hmm hxq hmy ho hno hro hoi hox ho0 hro2 hoi' hWd hxd hpd hqd hnd hag erd hh0 hn0 m1 m2 m3 hxp
 go_enter Tryz.func19, Tryz.ntmps19
 go_wp2_with fail
 rw [HW2.out]
 go_upto_region 4 with (go_at_call 44; (with_reducible refine HP.out.mono ?_); rintro e w3 ⟨rfl, hB3⟩; have hs3 := hB3.size; replace hB3 := Lib.hid hB3)
 obtain ⟨w4, hw4, hB4, hs4, hb40, hb41⟩ := box2 w3 #[.pointer (some ⟨np.blk, 0, none⟩), .pointer (some ⟨np.b, 0, none⟩), .string s] #[.pointer (some ⟨nq.blk, 0, none⟩), .pointer (some ⟨nq.b, 0, none⟩), .string s2] 85 85
 rw [hw4]
 have c0 : w4.cell? ⟨w3.heap.size, 0, none⟩ = some (.pointer (some ⟨np.blk, 0, none⟩)) := by rw [cell_at hb40]; rfl
 have c1 : w4.cell? ⟨w3.heap.size, 1, none⟩ = some (.pointer (some ⟨np.b, 0, none⟩)) := by rw [cell_at hb40]; rfl
 have c2 : w4.cell? ⟨w3.heap.size, 2, none⟩ = some (.string s) := by rw [cell_at hb40]; rfl
 have HQ1 := Lib.hid hb40
 have HQ2 := Lib.hid hb41
 have HB4 := Lib.hid (hB3.out.trans (hB4.mono (by omega)))
 clear hw4 hb40 hb41 hB4
 go_upto_region 22 with (first
  | (go_at_call 26; (with_reducible refine (HAt.out w4 HB4.out).mono ?_); rintro e w5 ⟨rfl, hB5⟩; have hs5 := hB5.size; have hY := (hB5.block _ (by omega)).trans HQ2.out; have d0 : w5.cell? ⟨w3.heap.size + 1, 0, none⟩ = _ := cell_at hY 0; have d1 : w5.cell? ⟨w3.heap.size + 1, 1, none⟩ = _ := cell_at hY 1; have d2 : w5.cell? ⟨w3.heap.size + 1, 2, none⟩ = _ := cell_at hY 2; have HQ25 := Lib.hid hY; have HQ15 := Lib.hid ((hB5.block _ (by omega)).trans HQ1.out); clear hY; have HB5 := Lib.hid (HB4.out.trans (hB5.mono HB4.out.size)); obtain ⟨x1, x2, x3, -, -⟩ := HX.out w5 HB5.out; clear hB5)
  | (go_at_call 26; (with_reducible refine (HAt2.out w5 HB5.out).mono ?_); rintro e w6 ⟨rfl, hB6⟩; have hs6 := hB6.size; have HQ26 := Lib.hid ((hB6.block _ (by omega)).trans HQ25.out); have HQ16 := Lib.hid ((hB6.block _ (by omega)).trans HQ15.out); have e0 : w6.cell? ⟨w3.heap.size, 0, none⟩ = _ := cell_at HQ16.out 0; have g0 : w6.cell? ⟨w3.heap.size + 1, 0, none⟩ = _ := cell_at HQ26.out 0; have HB6 := Lib.hid (HB5.out.trans (hB6.mono HB5.out.size)); obtain ⟨y1, y2, y3, y4, y5⟩ := HX.out w6 HB6.out; clear hB6; have z1 := HO.out w6 HB6.out; have g1 : w6.cell? ⟨w3.heap.size + 1, 1, none⟩ = _ := cell_at HQ26.out 1; have g2' : w6.cell? ⟨w3.heap.size + 1, 2, none⟩ = _ := cell_at HQ26.out 2)
  | (go_at_call 46; (with_reducible refine (HMy.out w6 HB6.out).mono ?_); rintro e w7 ⟨rfl, rfl⟩)
  | (go_at_call 47; (with_reducible refine (HDr.out w6 HB6.out).mono ?_); rintro e wd ⟨rfl, hd⟩; have HD := Lib.hid hd; clear hd))
 obtain ⟨⟨N7, F7, hsub⟩, Fr7⟩ := HD.out
 have hb6 := HB.out.trans (HB6.out.mono (show w.heap.size ≤ w2.heap.size by omega))
 have hsz := hb6.size
 have hwz : w.heap.size + 2 ≤ w3.heap.size := by omega
 have HQ17 := Lib.hid ((Fr7.block w3.heap.size (heap_lt HQ16.out) (fun hm => by have := HLt.out _ hm; omega)).trans HQ16.out)
 have HQ27 := Lib.hid ((Fr7.block (w3.heap.size + 1) (heap_lt HQ26.out) (fun hm => by have := HLt.out _ hm; omega)).trans HQ26.out)
 obtain ⟨hx7, X6⟩ := node_sub HH.out F7 HWd.out hsub HMd.out.1 HNo.out.1 HIds.out.1
 obtain ⟨hp7, P6⟩ := node_sub HH.out F7 HWd.out hsub HMd.out.2.1 HNo.out.2.1 HIds.out.2.1
 obtain ⟨hq7, Q6⟩ := node_sub HH.out F7 HWd.out hsub HMd.out.2.2 HNo.out.2.2 HIds.out.2.2
 have F6 := F7
 have HSub := Lib.hid hsub
 have HNd := Lib.hid (And.intro hx7 (And.intro hp7 hq7))
 have FB := Lib.hid ((Frm.of_below (S := fpL f mi mg N) hb6).trans Fr7)
 clear F7 hsub Fr7 hx7 hp7 hq7 hb6
 have a1 : wd.cell? ⟨w3.heap.size, 1, none⟩ = some (.pointer (some ⟨np.b, 0, none⟩)) := by rw [cell_at HQ17.out]; rfl
 have a2 : wd.cell? ⟨np.b, 0, none⟩ = some (.map (some np.m)) := by rw [cell_at (P6.dir HK.out.1).1]; rfl
 have hm6 : MapB wd np.m strK intK (namesP rd.nms p.id) := (P6.dir HK.out.1).2
 obtain ⟨o1, hdel, hmp1⟩ := run_delete (P := Tryz.prog) (ty := 0) (tk := 9) KS (t := 69) Tryz.underlying69 hm6 s
 unfold strK at hdel
 have M1 := Lib.hid hmp1
 have G6 := Lib.hid F6
 have P6' := Lib.hid P6
 have Q6' := Lib.hid Q6
 have X6' := Lib.hid X6
 clear F6 P6 Q6 X6 hm6 hmp1
 go_upto_region 23 with fail
 obtain ⟨w7, hw7⟩ : ∃ w7, putObj wd np.m o1 = w7 := ⟨_, rfl⟩
 rw [hw7]
 have k7 : ∀ k, k ≠ np.m → w7.heap[k]? = wd.heap[k]? := fun k hk => by rw [← hw7]; exact putObj_other wd o1 hk
 rw [hw7] at M1
 have W7 := Lib.hid hw7
 have K7 := Lib.hid k7
 have b1 : w7.cell? ⟨w3.heap.size + 1, 1, none⟩ = some (.pointer (some ⟨nq.b, 0, none⟩)) := by rw [cell_at ((k7 _ (map_ne (P6'.out.dir HK.out.1).2 HQ27.out).symm).trans HQ27.out)]; rfl
 have b2 : w7.cell? ⟨nq.b, 0, none⟩ = some (.map (some nq.m)) := by rw [cell_at ((k7 _ (map_ne (P6'.out.dir HK.out.1).2 (Q6'.out.dir HK.out.2).1).symm).trans (Q6'.out.dir HK.out.2).1)]; rfl
 have hm7 : MapB w7 nq.m strK intK (namesP rd.nms q.id) := (Q6'.out.dir HK.out.2).2.of_block (k7 _ HMm.out)
 have hag : (aget (namesP rd.nms q.id) s2).isSome = false := HAg.out
 obtain ⟨o2, hup, hmp2⟩ := run_update KS (P := Tryz.prog) (t := 69) Tryz.underlying69 hm7 s2 x.id
 rw [aput_new hag] at hmp2
 unfold strK intK at hup
 have M2 := Lib.hid hmp2
 clear hm7 hag hmp2 hw7 k7 hdel a1 a2
 go_upto_region 24 with fail
 obtain ⟨w8, hw8⟩ : ∃ w8, putObj w7 nq.m o2 = w8 := ⟨_, rfl⟩
 rw [hw8]
 rw [hw8] at M2
 have W8 := Lib.hid hw8
 have K8 := Lib.hid (show ∀ k, k ≠ nq.m → w8.heap[k]? = w7.heap[k]? from fun k hk => by rw [← hw8]; exact putObj_other w7 o2 hk)
 clear hw8 hup b1 b2
 go_wp2
 go_ret
 refine ⟨rfl, ?_⟩
 obtain ⟨ei, eq⟩ := HI.out
 subst ei eq
 rw [HERd.out]
 obtain ⟨hx, hp, hq⟩ := HMd.out
 obtain ⟨hnx, hnp, hnq⟩ := HNd.out
 obtain ⟨hrx, hrp, hrq⟩ := And.intro X6'.out (And.intro P6'.out Q6'.out)
 obtain ⟨hn0, m1, m2, m3⟩ := H0d.out
 have hlk := fun y => moved_links HWd.out hx hn0 m3 q.id s2 (y := y) (y' := y) rfl rfl
 rw [m1, m2] at hlk
 have hns : ∀ j, namesP (movedP rd p.id s q.id s2 x).nms j = _ := fun j => by rw [moved_nms, namesP_named, namesP_unnamed]
 have pm := (P6'.out.dir HK.out.1).2
 have qm := (Q6'.out.dir HK.out.2).2
 have hl : ∀ y, linksN (movedP rd p.id s q.id s2 x) y = linksN rd y := fun y => by
  have := hlk y
  rw [if_neg (fun e => HKX.out e.2.1), if_neg (fun e => HKX.out e.2.1)] at this
  exact this
 refine ⟨N7, moved_fs G6.out HWd.out hx hnx hrx hp HK.out.1 hnp hrp hq HK.out.2 hnq hrq hn0 m1 m2 m3 HXP.out HXQ.out (fun k hk a b _ _ _ => (K8.out k b).trans (K7.out k a)) ?_ ?_ ?_ ?_ (fun e => absurd e HKX.out), fun k hk => .inl (fp_sub HSub.out k hk), ?_⟩
 ·rw [hns, if_neg HPQ.out, if_pos rfl]
  exact M1.out.of_block (K8.out _ (fun e => HMm.out e.symm))
 ·rw [hns, if_pos rfl, if_neg (fun e => HPQ.out e.symm)]
  exact M2.out
 ·rw [hl]
  exact (K8.out _ (map_ne qm P6'.out.head).symm).trans ((K7.out _ (map_ne pm P6'.out.head).symm).trans P6'.out.head)
 ·rw [hl]
  exact (K8.out _ (map_ne qm Q6'.out.head).symm).trans ((K7.out _ (map_ne pm Q6'.out.head).symm).trans Q6'.out.head)
 ·rw [← W8.out, ← W7.out]
  exact (FB.out.putObj (.inl (fp_node HNo.out.2.1 (Nd.m_mem (hrp.ne HK.out.1).1))) o1).putObj (.inl (fp_node HNo.out.2.2 (Nd.m_mem (hrq.ne HK.out.2).1))) o2
set_option maxRecDepth 100000 in
set_option maxHeartbeats 8000000 in
theorem rename_ov0s {w : World} {f mi mg K : Nat} {r : RFs} {N : List Nd} (h : FsN w f mi mg r N) (hW : Wf r K) (i g : Int) (s : ByteArray) (hs : s.size ≤ maxLen) (i2 g2 : Int) (s2 : ByteArray) (hs2 : s2.size ≤ maxLen)
  {p q : RIn} {np nq : Nd} (hp : p ∈ r.ins) (hkp : p.kind = 2) (hnp : np ∈ N) (hrp : NodeR w r p np) (hq : q ∈ r.ins) (hkq : q.kind = 2) (hnq : nq ∈ N) (hrq : NodeR w r q nq) (hpi : p.id = i) (hqi : q.id = i2)
  (hl : liveP r (i, g) = true) (hl2 : liveP r (i2, g2) = true) (hk : (byIdP r.ins i).kind = 2) (hk2 : (byIdP r.ins i2).kind = 2) (hv : validP s = true) (hv2 : validP s2 = true)
  {x : RIn} {nx : Nd} (hx : x ∈ r.ins) (hnx : nx ∈ N) (hrx : NodeR w r x nx) (hxi : entryP r.nms i s = x.id) (hxq : x.id ≠ q.id) {o : RIn} {no : Nd} (ho : o ∈ r.ins) (hno : no ∈ N) (hro : NodeR w r o no) (hoi : entryP r.nms i2 s2 = o.id) (hox : o.id ≠ x.id) (hkx : ¬ x.kind = 2) (hpq : np = nq) (hmy : mayP r o false = 0) :
  Calls Tryz.prog 19 #[.pointer (some ⟨f, 0, none⟩), .agg #[.int .i64 i, .int .i64 g], .string s, .agg #[.int .i64 i2, .int .i64 g2], .string s2] w fun e w' => e = .returned (.int .i64 0) ∧ StepR w w' f mi mg N (movedP (dropP r i2 s2) i s i2 s2 x) := by
 subst hpq
 obtain rfl := h.uniq hW hp hrp hq hrq
 obtain rfl : i = i2 := hpi.symm.trans hqi
 obtain ⟨w2, hw2, hB, hz2, hb0, hb1⟩ := box2 w #[.int .i64 i, .int .i64 g] #[.int .i64 i, .int .i64 g2] 37 37
 have t0 : w2.cell? ⟨w.heap.size, 0, none⟩ = some (.int .i64 i) := by rw [cell_at hb0]; rfl
 have t1 : w2.cell? ⟨w.heap.size, 1, none⟩ = some (.int .i64 g) := by rw [cell_at hb0]; rfl
 have t2 : w2.cell? ⟨w.heap.size + 1, 0, none⟩ = some (.int .i64 i) := by rw [cell_at hb1]; rfl
 have t3 : w2.cell? ⟨w.heap.size + 1, 1, none⟩ = some (.int .i64 g2) := by rw [cell_at hb1]; rfl
 have h2 := h.below hW hB
 have HW2 := Lib.hid hw2
 have HB := Lib.hid hB
 have hrp2 := hrp.below (.inr (.inl hkp)) hB
 have hrq2 := hrq.below (.inr (.inl hkq)) hB
 have hpl := places_ok h2 hW i g s hs i g2 s2 hs2 hl hl2 hk hk2 hv hv2 hnp hnq (hrp.id.trans hpi) (hrq.id.trans hqi)
 have HP := Lib.hid hpl
 have HAt := Lib.hid (show ∀ w4, Below w2.heap.size w2 w4 → Calls Tryz.prog 26 #[.agg #[.pointer (some ⟨np.blk, 0, none⟩), .pointer (some ⟨np.b, 0, none⟩), .string s]] w4 fun e w' => e = .returned (.tuple #[.int .i64 (entryP r.nms i s), .bool (decide (entryP r.nms i s ≠ 0))]) ∧ Below w4.heap.size w4 w' from fun w4 hb => by
  have hr4 := hrp2.below (.inr (.inl hkp)) hb
  have := at_any hr4 hkp (hr4.lt (.inr (.inl hkp))) s (some ⟨np.blk, 0, none⟩)
  rw [hpi, hW.entry_some] at this
  exact this)
 have HAt2 := Lib.hid (show ∀ w4, Below w2.heap.size w2 w4 → Calls Tryz.prog 26 #[.agg #[.pointer (some ⟨np.blk, 0, none⟩), .pointer (some ⟨np.b, 0, none⟩), .string s2]] w4 fun e w' => e = .returned (.tuple #[.int .i64 (entryP r.nms i s2), .bool (decide (entryP r.nms i s2 ≠ 0))]) ∧ Below w4.heap.size w4 w' from fun w4 hb => by
  have hr4 := hrq2.below (.inr (.inl hkq)) hb
  have := at_any hr4 hkq (hr4.lt (.inr (.inl hkq))) s2 (some ⟨np.blk, 0, none⟩)
  rw [hqi, hW.entry_some] at this
  exact this)
 have hx0 : x.id ≠ 0 := hW.ne0 hx
 rw [hxi, decide_eq_true hx0] at HAt
 have hrx2 := hrx.below (hW.kind x hx) hB
 have HX := Lib.hid (show ∀ w', Below w2.heap.size w2 w' → w'.cell? ⟨f, 1, none⟩ = some (.map (some mi)) ∧ w'.cell? ⟨nx.blk, 5, none⟩ = some (holdsV x nx) ∧ (Instr.lookup 63 (.map (some mi)) (.int .i64 x.id) false).run Tryz.prog w' = .ok (.pointer (some ⟨nx.blk, 0, none⟩)) w' ∧ w'.cell? ⟨np.blk, 0, none⟩ = some (.int .i64 i) ∧ w'.cell? ⟨np.blk, 4, none⟩ = some (.int .i64 (linksN r p : Int)) from fun w' hb => by
  have h4 := h2.below hW hb
  have hg := h4.get hnx
  rw [hrx.id] at hg
  have hlk := (h4.look x.id).2
  rw [hg] at hlk
  have hq4 := (hrq2.below (.inr (.inl hkq)) hb).cells
  exact ⟨h4.cells.2.1, (hrx2.below (hW.kind x hx) hb).cells.2.2.2.2.2, hlk, by rw [← hqi]; exact hq4.1, hq4.2.2.2.2.1⟩)
 have hta : ∀ w, (Instr.typeAssert (holdsV x nx) 20 68 true).run Tryz.prog w = .ok (.tuple #[.pointer none, .bool false]) w := fun w => by rw [ta_dir, if_neg hkx]
 have hh0 : entryP r.nms i s ≠ 0 := by rw [hxi]; exact hW.ne0 hx
 obtain ⟨n0, hn0, m1, m2, m3⟩ := entry_mem hh0
 rw [hxi] at m3
 rw [← hpi] at m1
 have hxp : x.id ≠ p.id := by rw [← m3, ← m1]; exact hW.self_ne hn0
 have HH := Lib.hid h
 have HWf := Lib.hid hW
 have HR := Lib.hid (And.intro hrx (And.intro hrp hrq))
 have HM := Lib.hid (And.intro hx (And.intro hp hq))
 have HN := Lib.hid (And.intro hnx (And.intro hnp hnq))
 have H0 := Lib.hid (And.intro hn0 (And.intro m1 (And.intro m2 m3)))
 have HK := Lib.hid (And.intro hkp hkq)
 have HI := Lib.hid (And.intro hpi hqi)
 have HXP := Lib.hid hxp
 have HN6 := Lib.hid (show ∀ w', Below w2.heap.size w2 w' → FsN w' f mi mg r N ∧ NodeR w' r p np ∧ NodeR w' r p np ∧ NodeR w' r x nx from fun w' hb => ⟨h2.below hW hb, hrp2.below (.inr (.inl hkp)) hb, hrq2.below (.inr (.inl hkq)) hb, hrx2.below (hW.kind x hx) hb⟩)
 have ho0 : o.id ≠ 0 := hW.ne0 ho
 rw [hoi, decide_eq_true ho0] at HAt2
 have hbq : (o.id == x.id) = false := by rw [beq_eq_false_iff_ne]; exact hox
 have hro2 := hro.below (hW.kind o ho) hB
 have HO := Lib.hid (show ∀ w', Below w2.heap.size w2 w' → (Instr.lookup 63 (.map (some mi)) (.int .i64 o.id) false).run Tryz.prog w' = .ok (.pointer (some ⟨no.blk, 0, none⟩)) w' from fun w' hb => by
  have h4 := h2.below hW hb
  have hg := h4.get hno
  rw [hro.id] at hg
  have hlk := (h4.look o.id).2
  rw [hg] at hlk
  exact hlk)
 have HMy := Lib.hid (show ∀ w', Below w2.heap.size w2 w' → Calls Tryz.prog 46 #[.pointer (some ⟨f, 0, none⟩), .pointer (some ⟨no.blk, 0, none⟩), .bool false] w' fun e w'' => e = .returned (.int .i64 0) ∧ w' = w'' from fun w' hb => by
  have := may_any (hro2.below (hW.kind o ho) hb) false (some ⟨f, 0, none⟩)
  rw [hmy] at this; exact this)
 have hoi' : entryP r.nms p.id s2 = o.id := by rw [hqi]; exact hoi
 have hctx := drop_ctx hW hx hp hkp hq ho hoi' hox (may_dir hmy).2 hn0 m1 m3
 have HNo := Lib.hid (And.intro hnx (And.intro hnp hnq))
 have HIds := Lib.hid (And.intro hrx.id (And.intro hrp.id hrq.id))
 have HLt := Lib.hid (fpL_lt h hW)
 obtain ⟨rd, erd⟩ : ∃ rd, dropP r p.id s2 = rd := ⟨_, rfl⟩
 have HDr := Lib.hid (show ∀ w', Below w2.heap.size w2 w' → Calls Tryz.prog 47 #[.pointer (some ⟨f, 0, none⟩), .agg #[.pointer (some ⟨np.blk, 0, none⟩), .pointer (some ⟨np.b, 0, none⟩), .string s2]] w' fun e w'' => e = .returned (.tuple #[]) ∧ (∃ N', FsN w'' f mi mg rd N' ∧ ∀ n ∈ N', n ∈ N) ∧ Frm (fpL f mi mg N) w' w'' from fun w' hb => by
  have := drop_any (h2.below hW hb) hW hq hkq hnq (hrq2.below (.inr (.inl hkq)) hb) s2 (by rw [hoi']; exact ho0)
  rw [erd] at this
  exact this)
 rw [erd] at hctx
 obtain ⟨hWd, hxd, hpd, hqd, hnd, hag⟩ := hctx
 have HERd := Lib.hid erd
 have HWd := Lib.hid hWd
 have HMd := Lib.hid (And.intro hxd (And.intro hpd hqd))
 have H0d := Lib.hid (And.intro hnd (And.intro m1 (And.intro m2 m3)))
 have HKX := Lib.hid hkx
 have HXQ := Lib.hid hxq
 have HAg := Lib.hid (show (aget (adel (namesP rd.nms p.id) s) s2).isSome = false from by
  have h1 : aget (namesP rd.nms p.id) s2 = none := hag
  rw [aget_del, h1]
  split <;> rfl)
 clear hw2 hB hb0 hb1 h h2 hW hrp2 hrq2 hpl hp hkp hnp hrp hq hkq hnq hrq hpi hqi hl hl2 hk hk2 hv hv2 hx hnx hrx hxi hx0 hrx2 hkx hxq hmy ho hno hro hoi hox ho0 hro2 hoi' hWd hxd hpd hqd hnd hag erd hh0 hn0 m1 m2 m3 hxp
 go_enter Tryz.func19, Tryz.ntmps19
 go_wp2_with fail
 rw [HW2.out]
 go_upto_region 4 with (go_at_call 44; (with_reducible refine HP.out.mono ?_); rintro e w3 ⟨rfl, hB3⟩; have hs3 := hB3.size; replace hB3 := Lib.hid hB3)
 obtain ⟨w4, hw4, hB4, hs4, hb40, hb41⟩ := box2 w3 #[.pointer (some ⟨np.blk, 0, none⟩), .pointer (some ⟨np.b, 0, none⟩), .string s] #[.pointer (some ⟨np.blk, 0, none⟩), .pointer (some ⟨np.b, 0, none⟩), .string s2] 85 85
 rw [hw4]
 have c0 : w4.cell? ⟨w3.heap.size, 0, none⟩ = some (.pointer (some ⟨np.blk, 0, none⟩)) := by rw [cell_at hb40]; rfl
 have c1 : w4.cell? ⟨w3.heap.size, 1, none⟩ = some (.pointer (some ⟨np.b, 0, none⟩)) := by rw [cell_at hb40]; rfl
 have c2 : w4.cell? ⟨w3.heap.size, 2, none⟩ = some (.string s) := by rw [cell_at hb40]; rfl
 have HQ1 := Lib.hid hb40
 have HQ2 := Lib.hid hb41
 have HB4 := Lib.hid (hB3.out.trans (hB4.mono (by omega)))
 clear hw4 hb40 hb41 hB4
 go_upto_region 22 with (first
  | (go_at_call 26; (with_reducible refine (HAt.out w4 HB4.out).mono ?_); rintro e w5 ⟨rfl, hB5⟩; have hs5 := hB5.size; have hY := (hB5.block _ (by omega)).trans HQ2.out; have d0 : w5.cell? ⟨w3.heap.size + 1, 0, none⟩ = _ := cell_at hY 0; have d1 : w5.cell? ⟨w3.heap.size + 1, 1, none⟩ = _ := cell_at hY 1; have d2 : w5.cell? ⟨w3.heap.size + 1, 2, none⟩ = _ := cell_at hY 2; have HQ25 := Lib.hid hY; have HQ15 := Lib.hid ((hB5.block _ (by omega)).trans HQ1.out); clear hY; have HB5 := Lib.hid (HB4.out.trans (hB5.mono HB4.out.size)); obtain ⟨x1, x2, x3, -, -⟩ := HX.out w5 HB5.out; clear hB5)
  | (go_at_call 26; (with_reducible refine (HAt2.out w5 HB5.out).mono ?_); rintro e w6 ⟨rfl, hB6⟩; have hs6 := hB6.size; have HQ26 := Lib.hid ((hB6.block _ (by omega)).trans HQ25.out); have HQ16 := Lib.hid ((hB6.block _ (by omega)).trans HQ15.out); have e0 : w6.cell? ⟨w3.heap.size, 0, none⟩ = _ := cell_at HQ16.out 0; have g0 : w6.cell? ⟨w3.heap.size + 1, 0, none⟩ = _ := cell_at HQ26.out 0; have HB6 := Lib.hid (HB5.out.trans (hB6.mono HB5.out.size)); obtain ⟨y1, y2, y3, y4, y5⟩ := HX.out w6 HB6.out; clear hB6; have z1 := HO.out w6 HB6.out; have g1 : w6.cell? ⟨w3.heap.size + 1, 1, none⟩ = _ := cell_at HQ26.out 1; have g2' : w6.cell? ⟨w3.heap.size + 1, 2, none⟩ = _ := cell_at HQ26.out 2)
  | (go_at_call 46; (with_reducible refine (HMy.out w6 HB6.out).mono ?_); rintro e w7 ⟨rfl, rfl⟩)
  | (go_at_call 47; (with_reducible refine (HDr.out w6 HB6.out).mono ?_); rintro e wd ⟨rfl, hd⟩; have HD := Lib.hid hd; clear hd))
 obtain ⟨⟨N7, F7, hsub⟩, Fr7⟩ := HD.out
 have hb6 := HB.out.trans (HB6.out.mono (show w.heap.size ≤ w2.heap.size by omega))
 have hsz := hb6.size
 have hwz : w.heap.size + 2 ≤ w3.heap.size := by omega
 have HQ17 := Lib.hid ((Fr7.block w3.heap.size (heap_lt HQ16.out) (fun hm => by have := HLt.out _ hm; omega)).trans HQ16.out)
 have HQ27 := Lib.hid ((Fr7.block (w3.heap.size + 1) (heap_lt HQ26.out) (fun hm => by have := HLt.out _ hm; omega)).trans HQ26.out)
 obtain ⟨hx7, X6⟩ := node_sub HH.out F7 HWd.out hsub HMd.out.1 HNo.out.1 HIds.out.1
 obtain ⟨hp7, P6⟩ := node_sub HH.out F7 HWd.out hsub HMd.out.2.1 HNo.out.2.1 HIds.out.2.1
 obtain ⟨hq7, Q6⟩ := node_sub HH.out F7 HWd.out hsub HMd.out.2.2 HNo.out.2.2 HIds.out.2.2
 have F6 := F7
 have HSub := Lib.hid hsub
 have HNd := Lib.hid (And.intro hx7 (And.intro hp7 hq7))
 have FB := Lib.hid ((Frm.of_below (S := fpL f mi mg N) hb6).trans Fr7)
 clear F7 hsub Fr7 hx7 hp7 hq7 hb6
 have a1 : wd.cell? ⟨w3.heap.size, 1, none⟩ = some (.pointer (some ⟨np.b, 0, none⟩)) := by rw [cell_at HQ17.out]; rfl
 have a2 : wd.cell? ⟨np.b, 0, none⟩ = some (.map (some np.m)) := by rw [cell_at (P6.dir HK.out.1).1]; rfl
 have hm6 : MapB wd np.m strK intK (namesP rd.nms p.id) := (P6.dir HK.out.1).2
 obtain ⟨o1, hdel, hmp1⟩ := run_delete (P := Tryz.prog) (ty := 0) (tk := 9) KS (t := 69) Tryz.underlying69 hm6 s
 unfold strK at hdel
 have M1 := Lib.hid hmp1
 have G6 := Lib.hid F6
 have P6' := Lib.hid P6
 have Q6' := Lib.hid Q6
 have X6' := Lib.hid X6
 clear F6 P6 Q6 X6 hm6 hmp1
 go_upto_region 23 with fail
 obtain ⟨w7, hw7⟩ : ∃ w7, putObj wd np.m o1 = w7 := ⟨_, rfl⟩
 rw [hw7]
 have k7 : ∀ k, k ≠ np.m → w7.heap[k]? = wd.heap[k]? := fun k hk => by rw [← hw7]; exact putObj_other wd o1 hk
 rw [hw7] at M1
 have W7 := Lib.hid hw7
 have K7 := Lib.hid k7
 have b1 : w7.cell? ⟨w3.heap.size + 1, 1, none⟩ = some (.pointer (some ⟨np.b, 0, none⟩)) := by rw [cell_at ((k7 _ (map_ne (P6'.out.dir HK.out.1).2 HQ27.out).symm).trans HQ27.out)]; rfl
 have b2 : w7.cell? ⟨np.b, 0, none⟩ = some (.map (some np.m)) := by rw [cell_at ((k7 _ (map_ne (P6'.out.dir HK.out.1).2 (Q6'.out.dir HK.out.2).1).symm).trans (Q6'.out.dir HK.out.2).1)]; rfl
 have hm7 : MapB w7 np.m strK intK (adel (namesP rd.nms p.id) s) := M1.out
 have hag : (aget (adel (namesP rd.nms p.id) s) s2).isSome = false := HAg.out
 obtain ⟨o2, hup, hmp2⟩ := run_update KS (P := Tryz.prog) (t := 69) Tryz.underlying69 hm7 s2 x.id
 rw [aput_new hag] at hmp2
 unfold strK intK at hup
 have M2 := Lib.hid hmp2
 clear hm7 hag hmp2 hw7 k7 hdel a1 a2
 go_upto_region 24 with fail
 obtain ⟨w8, hw8⟩ : ∃ w8, putObj w7 np.m o2 = w8 := ⟨_, rfl⟩
 rw [hw8]
 rw [hw8] at M2
 have W8 := Lib.hid hw8
 have K8 := Lib.hid (show ∀ k, k ≠ np.m → w8.heap[k]? = w7.heap[k]? from fun k hk => by rw [← hw8]; exact putObj_other w7 o2 hk)
 clear hw8 hup b1 b2
 go_wp2
 go_ret
 refine ⟨rfl, ?_⟩
 obtain ⟨ei, -⟩ := HI.out
 subst ei
 rw [HERd.out]
 obtain ⟨hx, hp, hq⟩ := HMd.out
 obtain ⟨hnx, hnp, hnq⟩ := HNd.out
 obtain ⟨hrx, hrp, hrq⟩ := And.intro X6'.out (And.intro P6'.out Q6'.out)
 obtain ⟨hn0, m1, m2, m3⟩ := H0d.out
 have hlk := fun y => moved_links HWd.out hx hn0 m3 p.id s2 (y := y) (y' := y) rfl rfl
 rw [m1, m2] at hlk
 have hns : ∀ j, namesP (movedP rd p.id s p.id s2 x).nms j = _ := fun j => by rw [moved_nms, namesP_named, namesP_unnamed]
 have pm := (P6'.out.dir HK.out.1).2
 have qm := (Q6'.out.dir HK.out.2).2
 have hl : ∀ y, linksN (movedP rd p.id s p.id s2 x) y = linksN rd y := fun y => by
  have := hlk y
  rw [if_neg (fun e => HKX.out e.2.1)] at this
  exact this
 refine ⟨N7, moved_fs G6.out HWd.out hx hnx hrx hp HK.out.1 hnp hrp hq HK.out.2 hnq hrq hn0 m1 m2 m3 HXP.out HXQ.out (fun k hk a b _ _ _ => (K8.out k b).trans (K7.out k a)) ?_ ?_ ?_ ?_ (fun e => absurd e HKX.out), fun k hk => .inl (fp_sub HSub.out k hk), ?_⟩
 ·rw [hns, if_pos rfl, if_pos rfl]
  exact M2.out
 ·rw [hns, if_pos rfl, if_pos rfl]
  exact M2.out
 ·rw [hl]
  exact (K8.out _ (map_ne qm P6'.out.head).symm).trans ((K7.out _ (map_ne pm P6'.out.head).symm).trans P6'.out.head)
 ·rw [hl]
  exact (K8.out _ (map_ne qm Q6'.out.head).symm).trans ((K7.out _ (map_ne pm Q6'.out.head).symm).trans Q6'.out.head)
 ·rw [← W8.out, ← W7.out]
  exact (FB.out.putObj (.inl (fp_node HNo.out.2.1 (Nd.m_mem (hrp.ne HK.out.1).1))) o1).putObj (.inl (fp_node HNo.out.2.2 (Nd.m_mem (hrq.ne HK.out.2).1))) o2
set_option maxRecDepth 100000 in
set_option maxHeartbeats 8000000 in
theorem rename_ov1d {w : World} {f mi mg K : Nat} {r : RFs} {N : List Nd} (h : FsN w f mi mg r N) (hW : Wf r K) (i g : Int) (s : ByteArray) (hs : s.size ≤ maxLen) (i2 g2 : Int) (s2 : ByteArray) (hs2 : s2.size ≤ maxLen)
  {p q : RIn} {np nq : Nd} (hp : p ∈ r.ins) (hkp : p.kind = 2) (hnp : np ∈ N) (hrp : NodeR w r p np) (hq : q ∈ r.ins) (hkq : q.kind = 2) (hnq : nq ∈ N) (hrq : NodeR w r q nq) (hpi : p.id = i) (hqi : q.id = i2)
  (hl : liveP r (i, g) = true) (hl2 : liveP r (i2, g2) = true) (hk : (byIdP r.ins i).kind = 2) (hk2 : (byIdP r.ins i2).kind = 2) (hv : validP s = true) (hv2 : validP s2 = true)
  {x : RIn} {nx : Nd} (hx : x ∈ r.ins) (hnx : nx ∈ N) (hrx : NodeR w r x nx) (hxi : entryP r.nms i s = x.id) (hxq : x.id ≠ q.id) {o : RIn} {no : Nd} (ho : o ∈ r.ins) (hno : no ∈ N) (hro : NodeR w r o no) (hoi : entryP r.nms i2 s2 = o.id) (hox : o.id ≠ x.id) (hkx : x.kind = 2) (hbl : belowB r i2 x.id = false) (hpq : np.blk ≠ nq.blk) (hmy : mayP r o true = 0) :
  Calls Tryz.prog 19 #[.pointer (some ⟨f, 0, none⟩), .agg #[.int .i64 i, .int .i64 g], .string s, .agg #[.int .i64 i2, .int .i64 g2], .string s2] w fun e w' => e = .returned (.int .i64 0) ∧ StepR w w' f mi mg N (movedP (dropP r i2 s2) i s i2 s2 x) := by
 obtain ⟨w2, hw2, hB, hz2, hb0, hb1⟩ := box2 w #[.int .i64 i, .int .i64 g] #[.int .i64 i2, .int .i64 g2] 37 37
 have t0 : w2.cell? ⟨w.heap.size, 0, none⟩ = some (.int .i64 i) := by rw [cell_at hb0]; rfl
 have t1 : w2.cell? ⟨w.heap.size, 1, none⟩ = some (.int .i64 g) := by rw [cell_at hb0]; rfl
 have t2 : w2.cell? ⟨w.heap.size + 1, 0, none⟩ = some (.int .i64 i2) := by rw [cell_at hb1]; rfl
 have t3 : w2.cell? ⟨w.heap.size + 1, 1, none⟩ = some (.int .i64 g2) := by rw [cell_at hb1]; rfl
 have h2 := h.below hW hB
 have HW2 := Lib.hid hw2
 have HB := Lib.hid hB
 have hrp2 := hrp.below (.inr (.inl hkp)) hB
 have hrq2 := hrq.below (.inr (.inl hkq)) hB
 have hpl := places_ok h2 hW i g s hs i2 g2 s2 hs2 hl hl2 hk hk2 hv hv2 hnp hnq (hrp.id.trans hpi) (hrq.id.trans hqi)
 have HP := Lib.hid hpl
 have HAt := Lib.hid (show ∀ w4, Below w2.heap.size w2 w4 → Calls Tryz.prog 26 #[.agg #[.pointer (some ⟨np.blk, 0, none⟩), .pointer (some ⟨np.b, 0, none⟩), .string s]] w4 fun e w' => e = .returned (.tuple #[.int .i64 (entryP r.nms i s), .bool (decide (entryP r.nms i s ≠ 0))]) ∧ Below w4.heap.size w4 w' from fun w4 hb => by
  have hr4 := hrp2.below (.inr (.inl hkp)) hb
  have := at_any hr4 hkp (hr4.lt (.inr (.inl hkp))) s (some ⟨np.blk, 0, none⟩)
  rw [hpi, hW.entry_some] at this
  exact this)
 have HAt2 := Lib.hid (show ∀ w4, Below w2.heap.size w2 w4 → Calls Tryz.prog 26 #[.agg #[.pointer (some ⟨nq.blk, 0, none⟩), .pointer (some ⟨nq.b, 0, none⟩), .string s2]] w4 fun e w' => e = .returned (.tuple #[.int .i64 (entryP r.nms i2 s2), .bool (decide (entryP r.nms i2 s2 ≠ 0))]) ∧ Below w4.heap.size w4 w' from fun w4 hb => by
  have hr4 := hrq2.below (.inr (.inl hkq)) hb
  have := at_any hr4 hkq (hr4.lt (.inr (.inl hkq))) s2 (some ⟨nq.blk, 0, none⟩)
  rw [hqi, hW.entry_some] at this
  exact this)
 have hx0 : x.id ≠ 0 := hW.ne0 hx
 rw [hxi, decide_eq_true hx0] at HAt
 have hrx2 := hrx.below (hW.kind x hx) hB
 have HX := Lib.hid (show ∀ w', Below w2.heap.size w2 w' → w'.cell? ⟨f, 1, none⟩ = some (.map (some mi)) ∧ w'.cell? ⟨nx.blk, 5, none⟩ = some (holdsV x nx) ∧ (Instr.lookup 63 (.map (some mi)) (.int .i64 x.id) false).run Tryz.prog w' = .ok (.pointer (some ⟨nx.blk, 0, none⟩)) w' ∧ w'.cell? ⟨nq.blk, 0, none⟩ = some (.int .i64 i2) ∧ w'.cell? ⟨nq.blk, 4, none⟩ = some (.int .i64 (linksN r q : Int)) from fun w' hb => by
  have h4 := h2.below hW hb
  have hg := h4.get hnx
  rw [hrx.id] at hg
  have hlk := (h4.look x.id).2
  rw [hg] at hlk
  have hq4 := (hrq2.below (.inr (.inl hkq)) hb).cells
  exact ⟨h4.cells.2.1, (hrx2.below (hW.kind x hx) hb).cells.2.2.2.2.2, hlk, by rw [← hqi]; exact hq4.1, hq4.2.2.2.2.1⟩)
 have hta : ∀ w, (Instr.typeAssert (holdsV x nx) 20 68 true).run Tryz.prog w = .ok (.tuple #[.pointer (some ⟨nx.b, 0, none⟩), .bool true]) w := fun w => by rw [ta_dir, if_pos hkx]; rfl
 have hh0 : entryP r.nms i s ≠ 0 := by rw [hxi]; exact hW.ne0 hx
 obtain ⟨n0, hn0, m1, m2, m3⟩ := entry_mem hh0
 rw [hxi] at m3
 rw [← hpi] at m1
 have hxp : x.id ≠ p.id := by rw [← m3, ← m1]; exact hW.self_ne hn0
 have HH := Lib.hid h
 have HWf := Lib.hid hW
 have HR := Lib.hid (And.intro hrx (And.intro hrp hrq))
 have HM := Lib.hid (And.intro hx (And.intro hp hq))
 have HN := Lib.hid (And.intro hnx (And.intro hnp hnq))
 have H0 := Lib.hid (And.intro hn0 (And.intro m1 (And.intro m2 m3)))
 have HK := Lib.hid (And.intro hkp hkq)
 have HI := Lib.hid (And.intro hpi hqi)
 have HXP := Lib.hid hxp
 have HN6 := Lib.hid (show ∀ w', Below w2.heap.size w2 w' → FsN w' f mi mg r N ∧ NodeR w' r p np ∧ NodeR w' r q nq ∧ NodeR w' r x nx from fun w' hb => ⟨h2.below hW hb, hrp2.below (.inr (.inl hkp)) hb, hrq2.below (.inr (.inl hkq)) hb, hrx2.below (hW.kind x hx) hb⟩)
 have ho0 : o.id ≠ 0 := hW.ne0 ho
 rw [hoi, decide_eq_true ho0] at HAt2
 have hbq : (o.id == x.id) = false := by rw [beq_eq_false_iff_ne]; exact hox
 have hro2 := hro.below (hW.kind o ho) hB
 have HO := Lib.hid (show ∀ w', Below w2.heap.size w2 w' → (Instr.lookup 63 (.map (some mi)) (.int .i64 o.id) false).run Tryz.prog w' = .ok (.pointer (some ⟨no.blk, 0, none⟩)) w' from fun w' hb => by
  have h4 := h2.below hW hb
  have hg := h4.get hno
  rw [hro.id] at hg
  have hlk := (h4.look o.id).2
  rw [hg] at hlk
  exact hlk)
 have HMy := Lib.hid (show ∀ w', Below w2.heap.size w2 w' → Calls Tryz.prog 46 #[.pointer (some ⟨f, 0, none⟩), .pointer (some ⟨no.blk, 0, none⟩), .bool true] w' fun e w'' => e = .returned (.int .i64 0) ∧ w' = w'' from fun w' hb => by
  have := may_any (hro2.below (hW.kind o ho) hb) true (some ⟨f, 0, none⟩)
  rw [hmy] at this; exact this)
 have HBl := Lib.hid (show ∀ w', Below w2.heap.size w2 w' → Calls Tryz.prog 45 #[.pointer (some ⟨f, 0, none⟩), .int .i64 i2, .int .i64 x.id] w' fun e w'' => e = .returned (.bool false) ∧ w' = w'' from fun w' hb => by
  have := below_any (h2.below hW hb) hW hq hkq x.id
  rw [hqi, hbl] at this
  exact this)
 have hoi' : entryP r.nms q.id s2 = o.id := by rw [hqi]; exact hoi
 have hctx := drop_ctx hW hx hp hkp hq ho hoi' hox (may_dir hmy).2 hn0 m1 m3
 have HNo := Lib.hid (And.intro hnx (And.intro hnp hnq))
 have HIds := Lib.hid (And.intro hrx.id (And.intro hrp.id hrq.id))
 have HLt := Lib.hid (fpL_lt h hW)
 obtain ⟨rd, erd⟩ : ∃ rd, dropP r q.id s2 = rd := ⟨_, rfl⟩
 have HDr := Lib.hid (show ∀ w', Below w2.heap.size w2 w' → Calls Tryz.prog 47 #[.pointer (some ⟨f, 0, none⟩), .agg #[.pointer (some ⟨nq.blk, 0, none⟩), .pointer (some ⟨nq.b, 0, none⟩), .string s2]] w' fun e w'' => e = .returned (.tuple #[]) ∧ (∃ N', FsN w'' f mi mg rd N' ∧ ∀ n ∈ N', n ∈ N) ∧ Frm (fpL f mi mg N) w' w'' from fun w' hb => by
  have := drop_any (h2.below hW hb) hW hq hkq hnq (hrq2.below (.inr (.inl hkq)) hb) s2 (by rw [hoi']; exact ho0)
  rw [erd] at this
  exact this)
 rw [erd] at hctx
 obtain ⟨hWd, hxd, hpd, hqd, hnd, hag⟩ := hctx
 have HERd := Lib.hid erd
 have HWd := Lib.hid hWd
 have HMd := Lib.hid (And.intro hxd (And.intro hpd hqd))
 have H0d := Lib.hid (And.intro hnd (And.intro m1 (And.intro m2 m3)))
 have HKX := Lib.hid hkx
 have HXQ := Lib.hid hxq
 have HLp := Lib.hid (show 2 ≤ linksN rd p ∧ linksN rd p ≤ 20 from ⟨by unfold linksN; rw [if_pos hkp]; omega, hWd.lim p hpd⟩)
 have HLq := Lib.hid (show linksN rd q ≤ 20 from hWd.lim q hqd)
 have HAg := Lib.hid (show (aget (namesP rd.nms q.id) s2).isSome = false by rw [hag]; rfl)
 have hmm : nq.m ≠ np.m := fun e => hpq (by
  by_cases c : nq = np
  ·rw [c]
  ·exact absurd (e ▸ Nd.m_mem (hrp.ne hkp).1) (h.apart hnq hnp c _ (Nd.m_mem (hrq.ne hkq).1)))
 have HMm := Lib.hid hmm
 have HPB := Lib.hid hpq
 have HPQ := Lib.hid (show p.id ≠ q.id from fun e => hpq (by rw [nodup_inj h.idU hnp hnq (hrp.id.trans (e.trans hrq.id.symm))]))
 clear hw2 hB hb0 hb1 h h2 hW hrp2 hrq2 hpl hp hkp hnp hrp hq hkq hnq hrq hpi hqi hl hl2 hk hk2 hv hv2 hx hnx hrx hxi hx0 hrx2 hkx hpq hmm hxq hmy ho hno hro hoi hox ho0 hro2 hoi' hWd hxd hpd hqd hnd hag erd hbl hh0 hn0 m1 m2 m3 hxp
 go_enter Tryz.func19, Tryz.ntmps19
 go_wp2_with fail
 rw [HW2.out]
 go_upto_region 4 with (go_at_call 44; (with_reducible refine HP.out.mono ?_); rintro e w3 ⟨rfl, hB3⟩; have hs3 := hB3.size; replace hB3 := Lib.hid hB3)
 obtain ⟨w4, hw4, hB4, hs4, hb40, hb41⟩ := box2 w3 #[.pointer (some ⟨np.blk, 0, none⟩), .pointer (some ⟨np.b, 0, none⟩), .string s] #[.pointer (some ⟨nq.blk, 0, none⟩), .pointer (some ⟨nq.b, 0, none⟩), .string s2] 85 85
 rw [hw4]
 have c0 : w4.cell? ⟨w3.heap.size, 0, none⟩ = some (.pointer (some ⟨np.blk, 0, none⟩)) := by rw [cell_at hb40]; rfl
 have c1 : w4.cell? ⟨w3.heap.size, 1, none⟩ = some (.pointer (some ⟨np.b, 0, none⟩)) := by rw [cell_at hb40]; rfl
 have c2 : w4.cell? ⟨w3.heap.size, 2, none⟩ = some (.string s) := by rw [cell_at hb40]; rfl
 have HQ1 := Lib.hid hb40
 have HQ2 := Lib.hid hb41
 have HB4 := Lib.hid (hB3.out.trans (hB4.mono (by omega)))
 clear hw4 hb40 hb41 hB4
 go_upto_region 22 with (first
  | (go_at_call 26; (with_reducible refine (HAt.out w4 HB4.out).mono ?_); rintro e w5 ⟨rfl, hB5⟩; have hs5 := hB5.size; have hY := (hB5.block _ (by omega)).trans HQ2.out; have d0 : w5.cell? ⟨w3.heap.size + 1, 0, none⟩ = _ := cell_at hY 0; have d1 : w5.cell? ⟨w3.heap.size + 1, 1, none⟩ = _ := cell_at hY 1; have d2 : w5.cell? ⟨w3.heap.size + 1, 2, none⟩ = _ := cell_at hY 2; have HQ25 := Lib.hid hY; have HQ15 := Lib.hid ((hB5.block _ (by omega)).trans HQ1.out); clear hY; have HB5 := Lib.hid (HB4.out.trans (hB5.mono HB4.out.size)); obtain ⟨x1, x2, x3, -, -⟩ := HX.out w5 HB5.out; clear hB5)
  | (go_at_call 26; (with_reducible refine (HAt2.out w5 HB5.out).mono ?_); rintro e w6 ⟨rfl, hB6⟩; have hs6 := hB6.size; have HQ26 := Lib.hid ((hB6.block _ (by omega)).trans HQ25.out); have HQ16 := Lib.hid ((hB6.block _ (by omega)).trans HQ15.out); have e0 : w6.cell? ⟨w3.heap.size, 0, none⟩ = _ := cell_at HQ16.out 0; have g0 : w6.cell? ⟨w3.heap.size + 1, 0, none⟩ = _ := cell_at HQ26.out 0; have HB6 := Lib.hid (HB5.out.trans (hB6.mono HB5.out.size)); obtain ⟨y1, y2, y3, y4, y5⟩ := HX.out w6 HB6.out; clear hB6; have z1 := HO.out w6 HB6.out; have g1 : w6.cell? ⟨w3.heap.size + 1, 1, none⟩ = _ := cell_at HQ26.out 1; have g2' : w6.cell? ⟨w3.heap.size + 1, 2, none⟩ = _ := cell_at HQ26.out 2)
  | (go_at_call 45; (with_reducible refine (HBl.out w6 HB6.out).mono ?_); rintro e w7 ⟨rfl, rfl⟩)
  | (go_at_call 46; (with_reducible refine (HMy.out w6 HB6.out).mono ?_); rintro e w7 ⟨rfl, rfl⟩)
  | (go_at_call 47; (with_reducible refine (HDr.out w6 HB6.out).mono ?_); rintro e wd ⟨rfl, hd⟩; have HD := Lib.hid hd; clear hd))
 obtain ⟨⟨N7, F7, hsub⟩, Fr7⟩ := HD.out
 have hb6 := HB.out.trans (HB6.out.mono (show w.heap.size ≤ w2.heap.size by omega))
 have hsz := hb6.size
 have hwz : w.heap.size + 2 ≤ w3.heap.size := by omega
 have HQ17 := Lib.hid ((Fr7.block w3.heap.size (heap_lt HQ16.out) (fun hm => by have := HLt.out _ hm; omega)).trans HQ16.out)
 have HQ27 := Lib.hid ((Fr7.block (w3.heap.size + 1) (heap_lt HQ26.out) (fun hm => by have := HLt.out _ hm; omega)).trans HQ26.out)
 obtain ⟨hx7, X6⟩ := node_sub HH.out F7 HWd.out hsub HMd.out.1 HNo.out.1 HIds.out.1
 obtain ⟨hp7, P6⟩ := node_sub HH.out F7 HWd.out hsub HMd.out.2.1 HNo.out.2.1 HIds.out.2.1
 obtain ⟨hq7, Q6⟩ := node_sub HH.out F7 HWd.out hsub HMd.out.2.2 HNo.out.2.2 HIds.out.2.2
 have F6 := F7
 have HSub := Lib.hid hsub
 have HNd := Lib.hid (And.intro hx7 (And.intro hp7 hq7))
 have FB := Lib.hid ((Frm.of_below (S := fpL f mi mg N) hb6).trans Fr7)
 clear F7 hsub Fr7 hx7 hp7 hq7 hb6
 have a1 : wd.cell? ⟨w3.heap.size, 1, none⟩ = some (.pointer (some ⟨np.b, 0, none⟩)) := by rw [cell_at HQ17.out]; rfl
 have a2 : wd.cell? ⟨np.b, 0, none⟩ = some (.map (some np.m)) := by rw [cell_at (P6.dir HK.out.1).1]; rfl
 have hm6 : MapB wd np.m strK intK (namesP rd.nms p.id) := (P6.dir HK.out.1).2
 obtain ⟨o1, hdel, hmp1⟩ := run_delete (P := Tryz.prog) (ty := 0) (tk := 9) KS (t := 69) Tryz.underlying69 hm6 s
 unfold strK at hdel
 have M1 := Lib.hid hmp1
 have G6 := Lib.hid F6
 have P6' := Lib.hid P6
 have Q6' := Lib.hid Q6
 have X6' := Lib.hid X6
 clear F6 P6 Q6 X6 hm6 hmp1
 go_upto_region 23 with fail
 obtain ⟨w7, hw7⟩ : ∃ w7, putObj wd np.m o1 = w7 := ⟨_, rfl⟩
 rw [hw7]
 have k7 : ∀ k, k ≠ np.m → w7.heap[k]? = wd.heap[k]? := fun k hk => by rw [← hw7]; exact putObj_other wd o1 hk
 rw [hw7] at M1
 have W7 := Lib.hid hw7
 have K7 := Lib.hid k7
 have b1 : w7.cell? ⟨w3.heap.size + 1, 1, none⟩ = some (.pointer (some ⟨nq.b, 0, none⟩)) := by rw [cell_at ((k7 _ (map_ne (P6'.out.dir HK.out.1).2 HQ27.out).symm).trans HQ27.out)]; rfl
 have b2 : w7.cell? ⟨nq.b, 0, none⟩ = some (.map (some nq.m)) := by rw [cell_at ((k7 _ (map_ne (P6'.out.dir HK.out.1).2 (Q6'.out.dir HK.out.2).1).symm).trans (Q6'.out.dir HK.out.2).1)]; rfl
 have hm7 : MapB w7 nq.m strK intK (namesP rd.nms q.id) := (Q6'.out.dir HK.out.2).2.of_block (k7 _ HMm.out)
 have hag : (aget (namesP rd.nms q.id) s2).isSome = false := HAg.out
 obtain ⟨o2, hup, hmp2⟩ := run_update KS (P := Tryz.prog) (t := 69) Tryz.underlying69 hm7 s2 x.id
 rw [aput_new hag] at hmp2
 unfold strK intK at hup
 have M2 := Lib.hid hmp2
 clear hm7 hag hmp2 hw7 k7 hdel a1 a2
 go_upto_region 24 with fail
 obtain ⟨w8, hw8⟩ : ∃ w8, putObj w7 nq.m o2 = w8 := ⟨_, rfl⟩
 rw [hw8]
 rw [hw8] at M2
 have W8 := Lib.hid hw8
 have K8 := Lib.hid (show ∀ k, k ≠ nq.m → w8.heap[k]? = w7.heap[k]? from fun k hk => by rw [← hw8]; exact putObj_other w7 o2 hk)
 clear hw8 hup b1 b2
 have ne : ∀ k, k ≠ np.m → k ≠ nq.m → w8.heap[k]? = wd.heap[k]? := fun k a b => (K8.out k b).trans (K7.out k a)
 have pm := (P6'.out.dir HK.out.1).2
 have qm := (Q6'.out.dir HK.out.2).2
 have xd := (X6'.out.dir HKX.out).1
 have P8 := (ne _ (map_ne pm P6'.out.head).symm (map_ne qm P6'.out.head).symm).trans P6'.out.head
 have Q8 := (ne _ (map_ne pm Q6'.out.head).symm (map_ne qm Q6'.out.head).symm).trans Q6'.out.head
 have X8 := (ne _ (map_ne pm xd).symm (map_ne qm xd).symm).trans xd
 have R8 := (ne _ (map_ne pm HQ17.out).symm (map_ne qm HQ17.out).symm).trans HQ17.out
 have S8 := (ne _ (map_ne pm HQ27.out).symm (map_ne qm HQ27.out).symm).trans HQ27.out
 have f0 : w8.cell? ⟨w3.heap.size, 0, none⟩ = some (.pointer (some ⟨np.blk, 0, none⟩)) := by rw [cell_at R8]; rfl
 have f1 : w8.cell? ⟨w3.heap.size + 1, 0, none⟩ = some (.pointer (some ⟨nq.blk, 0, none⟩)) := by rw [cell_at S8]; rfl
 have f2 : w8.cell? ⟨nq.blk, 0, none⟩ = some (.int .i64 q.id) := by rw [cell_at Q8]; rfl
 have f3 : w8.cell? ⟨np.blk, 4, none⟩ = some (.int .i64 (linksN rd p : Int)) := by rw [cell_at P8]; rfl
 have f4 : w8.cell? ⟨nq.blk, 4, none⟩ = some (.int .i64 (linksN rd q : Int)) := by rw [cell_at Q8]; rfl
 have f5 : w8.cell? ⟨nx.b, 1, none⟩ = some (.int .i64 x.parent) := by rw [cell_at X8]; rfl
 have f6 : w8.frozen? ⟨np.blk, 4, none⟩ = false := frozen_of_row w8 np.blk 4 _ _ P8
 have f7 : w8.frozen? ⟨nq.blk, 4, none⟩ = false := frozen_of_row w8 nq.blk 4 _ _ Q8
 have f8 : w8.frozen? ⟨nx.b, 1, none⟩ = false := frozen_of_row w8 nx.b 1 _ _ X8
 have n1 : w3.heap.size ≠ nx.b := blk_ne R8 X8 (by decide)
 have n2 : w3.heap.size ≠ np.blk := blk_ne R8 P8 (by decide)
 have n3 : w3.heap.size ≠ nq.blk := blk_ne R8 Q8 (by decide)
 have n4 : w3.heap.size + 1 ≠ nx.b := blk_ne S8 X8 (by decide)
 have n5 : w3.heap.size + 1 ≠ np.blk := blk_ne S8 P8 (by decide)
 have n6 : w3.heap.size + 1 ≠ nq.blk := blk_ne S8 Q8 (by decide)
 have n7 : nx.b ≠ np.blk := blk_ne X8 P8 (by decide)
 have n8 : nx.b ≠ nq.blk := blk_ne X8 Q8 (by decide)
 have P8' := Lib.hid P8
 have Q8' := Lib.hid Q8
 have X8' := Lib.hid X8
 have hlp := HLp.out.1
 have hlp2 := HLp.out.2
 have hlq := HLq.out
 clear P8 Q8 X8 R8 S8 ne pm qm xd
 have n9 : np.blk ≠ nq.blk := HPB.out
 obtain ⟨lp, elp⟩ : ∃ lp, linksN rd p = lp := ⟨_, rfl⟩
 obtain ⟨lq, elq⟩ : ∃ lq, linksN rd q = lq := ⟨_, rfl⟩
 rw [elp] at f3 P8' hlp hlp2
 rw [elq] at f4 Q8' hlq
 have ELP := Lib.hid elp
 have ELQ := Lib.hid elq
 clear elp elq
 go_wp2
 go_ret
 refine ⟨rfl, ?_⟩
 obtain ⟨ei, eq⟩ := HI.out
 subst ei eq
 rw [HERd.out]
 obtain ⟨hx, hp, hq⟩ := HMd.out
 obtain ⟨hnx, hnp, hnq⟩ := HNd.out
 obtain ⟨hrx, hrp, hrq⟩ := And.intro X6'.out (And.intro P6'.out Q6'.out)
 obtain ⟨hn0, m1, m2, m3⟩ := H0d.out
 have hlk := fun y => moved_links HWd.out hx hn0 m3 q.id s2 (y := y) (y' := y) rfl rfl
 rw [m1, m2] at hlk
 have hns : ∀ j, namesP (movedP rd p.id s q.id s2 x).nms j = _ := fun j => by rw [moved_nms, namesP_named, namesP_unnamed]
 have pm := (P6'.out.dir HK.out.1).2
 have qm := (Q6'.out.dir HK.out.2).2
 have xd := (X6'.out.dir HKX.out).1
 have c1 : ((lp : Int) - 1) = ((lp - 1 : Nat) : Int) := by omega
 have c2 : ((lq : Int) + 1) = ((lq + 1 : Nat) : Int) := by omega
 rw [c1, c2]
 have lP : linksN (movedP rd p.id s q.id s2 x) p = lp - 1 := by
  have := hlk p
  rw [if_pos ⟨HK.out.1, HKX.out, rfl⟩, if_neg (fun e => HPQ.out e.2.2.symm), ELP.out] at this
  omega
 have lQ : linksN (movedP rd p.id s q.id s2 x) q = lq + 1 := by
  have := hlk q
  rw [if_neg (fun e => HPQ.out e.2.2), if_pos ⟨HK.out.2, HKX.out, rfl⟩, ELQ.out] at this
  omega
 refine ⟨N7, moved_fs G6.out HWd.out hx hnx hrx hp HK.out.1 hnp hrp hq HK.out.2 hnq hrq hn0 m1 m2 m3 HXP.out HXQ.out (fun k hk a b c d e => (setCell_far _ _ _ _ _ d).trans ((setCell_far _ _ _ _ _ c).trans ((setCell_far _ _ _ _ _ (e HKX.out)).trans ((K8.out k b).trans (K7.out k a))))) ?_ ?_ ?_ ?_ (fun _ => ?_), fun k hk => .inl (fp_sub HSub.out k hk), ?_⟩
 ·rw [hns, if_neg HPQ.out, if_pos rfl]
  exact M1.out.of_block ((setCell_far _ _ _ _ _ (map_ne pm Q6'.out.head)).trans ((setCell_far _ _ _ _ _ (map_ne pm P6'.out.head)).trans ((setCell_far _ _ _ _ _ (map_ne pm xd)).trans (K8.out _ (fun e => HMm.out e.symm)))))
 ·rw [hns, if_pos rfl, if_neg (fun e => HPQ.out e.symm)]
  exact M2.out.of_block ((setCell_far _ _ _ _ _ (map_ne qm Q6'.out.head)).trans ((setCell_far _ _ _ _ _ (map_ne qm P6'.out.head)).trans (setCell_far _ _ _ _ _ (map_ne qm xd))))
 ·rw [lP]
  exact (setCell_far _ _ _ _ _ n9).trans (links_set ((setCell_far _ _ _ _ _ n7.symm).trans P8'.out))
 ·rw [lQ]
  exact links_set ((setCell_far _ _ _ _ _ n9.symm).trans ((setCell_far _ _ _ _ _ n8.symm).trans Q8'.out))
 ·exact (setCell_far _ _ _ _ _ n8).trans ((setCell_far _ _ _ _ _ n7).trans (heap_setCell_same w8 nx.b 1 _ _ _ X8'.out))
 ·rw [← W8.out, ← W7.out]
  exact (((((FB.out.putObj (.inl (fp_node HNo.out.2.1 (Nd.m_mem (hrp.ne HK.out.1).1))) o1).putObj (.inl (fp_node HNo.out.2.2 (Nd.m_mem (hrq.ne HK.out.2).1))) o2).setCell (.inl (fp_node HNo.out.1 (Nd.b_mem (hrx.ne HKX.out).1))) _).setCell (.inl (fp_node HNo.out.2.1 np.blk_mem)) _).setCell (.inl (fp_node HNo.out.2.2 nq.blk_mem)) _)
set_option maxRecDepth 100000 in
set_option maxHeartbeats 8000000 in
theorem rename_ov1s {w : World} {f mi mg K : Nat} {r : RFs} {N : List Nd} (h : FsN w f mi mg r N) (hW : Wf r K) (i g : Int) (s : ByteArray) (hs : s.size ≤ maxLen) (i2 g2 : Int) (s2 : ByteArray) (hs2 : s2.size ≤ maxLen)
  {p q : RIn} {np nq : Nd} (hp : p ∈ r.ins) (hkp : p.kind = 2) (hnp : np ∈ N) (hrp : NodeR w r p np) (hq : q ∈ r.ins) (hkq : q.kind = 2) (hnq : nq ∈ N) (hrq : NodeR w r q nq) (hpi : p.id = i) (hqi : q.id = i2)
  (hl : liveP r (i, g) = true) (hl2 : liveP r (i2, g2) = true) (hk : (byIdP r.ins i).kind = 2) (hk2 : (byIdP r.ins i2).kind = 2) (hv : validP s = true) (hv2 : validP s2 = true)
  {x : RIn} {nx : Nd} (hx : x ∈ r.ins) (hnx : nx ∈ N) (hrx : NodeR w r x nx) (hxi : entryP r.nms i s = x.id) (hxq : x.id ≠ q.id) {o : RIn} {no : Nd} (ho : o ∈ r.ins) (hno : no ∈ N) (hro : NodeR w r o no) (hoi : entryP r.nms i2 s2 = o.id) (hox : o.id ≠ x.id) (hkx : x.kind = 2) (hbl : belowB r i2 x.id = false) (hpq : np = nq) (hmy : mayP r o true = 0) :
  Calls Tryz.prog 19 #[.pointer (some ⟨f, 0, none⟩), .agg #[.int .i64 i, .int .i64 g], .string s, .agg #[.int .i64 i2, .int .i64 g2], .string s2] w fun e w' => e = .returned (.int .i64 0) ∧ StepR w w' f mi mg N (movedP (dropP r i2 s2) i s i2 s2 x) := by
 subst hpq
 obtain rfl := h.uniq hW hp hrp hq hrq
 obtain rfl : i = i2 := hpi.symm.trans hqi
 obtain ⟨w2, hw2, hB, hz2, hb0, hb1⟩ := box2 w #[.int .i64 i, .int .i64 g] #[.int .i64 i, .int .i64 g2] 37 37
 have t0 : w2.cell? ⟨w.heap.size, 0, none⟩ = some (.int .i64 i) := by rw [cell_at hb0]; rfl
 have t1 : w2.cell? ⟨w.heap.size, 1, none⟩ = some (.int .i64 g) := by rw [cell_at hb0]; rfl
 have t2 : w2.cell? ⟨w.heap.size + 1, 0, none⟩ = some (.int .i64 i) := by rw [cell_at hb1]; rfl
 have t3 : w2.cell? ⟨w.heap.size + 1, 1, none⟩ = some (.int .i64 g2) := by rw [cell_at hb1]; rfl
 have h2 := h.below hW hB
 have HW2 := Lib.hid hw2
 have HB := Lib.hid hB
 have hrp2 := hrp.below (.inr (.inl hkp)) hB
 have hrq2 := hrq.below (.inr (.inl hkq)) hB
 have hpl := places_ok h2 hW i g s hs i g2 s2 hs2 hl hl2 hk hk2 hv hv2 hnp hnq (hrp.id.trans hpi) (hrq.id.trans hqi)
 have HP := Lib.hid hpl
 have HAt := Lib.hid (show ∀ w4, Below w2.heap.size w2 w4 → Calls Tryz.prog 26 #[.agg #[.pointer (some ⟨np.blk, 0, none⟩), .pointer (some ⟨np.b, 0, none⟩), .string s]] w4 fun e w' => e = .returned (.tuple #[.int .i64 (entryP r.nms i s), .bool (decide (entryP r.nms i s ≠ 0))]) ∧ Below w4.heap.size w4 w' from fun w4 hb => by
  have hr4 := hrp2.below (.inr (.inl hkp)) hb
  have := at_any hr4 hkp (hr4.lt (.inr (.inl hkp))) s (some ⟨np.blk, 0, none⟩)
  rw [hpi, hW.entry_some] at this
  exact this)
 have HAt2 := Lib.hid (show ∀ w4, Below w2.heap.size w2 w4 → Calls Tryz.prog 26 #[.agg #[.pointer (some ⟨np.blk, 0, none⟩), .pointer (some ⟨np.b, 0, none⟩), .string s2]] w4 fun e w' => e = .returned (.tuple #[.int .i64 (entryP r.nms i s2), .bool (decide (entryP r.nms i s2 ≠ 0))]) ∧ Below w4.heap.size w4 w' from fun w4 hb => by
  have hr4 := hrq2.below (.inr (.inl hkq)) hb
  have := at_any hr4 hkq (hr4.lt (.inr (.inl hkq))) s2 (some ⟨np.blk, 0, none⟩)
  rw [hqi, hW.entry_some] at this
  exact this)
 have hx0 : x.id ≠ 0 := hW.ne0 hx
 rw [hxi, decide_eq_true hx0] at HAt
 have hrx2 := hrx.below (hW.kind x hx) hB
 have HX := Lib.hid (show ∀ w', Below w2.heap.size w2 w' → w'.cell? ⟨f, 1, none⟩ = some (.map (some mi)) ∧ w'.cell? ⟨nx.blk, 5, none⟩ = some (holdsV x nx) ∧ (Instr.lookup 63 (.map (some mi)) (.int .i64 x.id) false).run Tryz.prog w' = .ok (.pointer (some ⟨nx.blk, 0, none⟩)) w' ∧ w'.cell? ⟨np.blk, 0, none⟩ = some (.int .i64 i) ∧ w'.cell? ⟨np.blk, 4, none⟩ = some (.int .i64 (linksN r p : Int)) from fun w' hb => by
  have h4 := h2.below hW hb
  have hg := h4.get hnx
  rw [hrx.id] at hg
  have hlk := (h4.look x.id).2
  rw [hg] at hlk
  have hq4 := (hrq2.below (.inr (.inl hkq)) hb).cells
  exact ⟨h4.cells.2.1, (hrx2.below (hW.kind x hx) hb).cells.2.2.2.2.2, hlk, by rw [← hqi]; exact hq4.1, hq4.2.2.2.2.1⟩)
 have hta : ∀ w, (Instr.typeAssert (holdsV x nx) 20 68 true).run Tryz.prog w = .ok (.tuple #[.pointer (some ⟨nx.b, 0, none⟩), .bool true]) w := fun w => by rw [ta_dir, if_pos hkx]; rfl
 have hh0 : entryP r.nms i s ≠ 0 := by rw [hxi]; exact hW.ne0 hx
 obtain ⟨n0, hn0, m1, m2, m3⟩ := entry_mem hh0
 rw [hxi] at m3
 rw [← hpi] at m1
 have hxp : x.id ≠ p.id := by rw [← m3, ← m1]; exact hW.self_ne hn0
 have HH := Lib.hid h
 have HWf := Lib.hid hW
 have HR := Lib.hid (And.intro hrx (And.intro hrp hrq))
 have HM := Lib.hid (And.intro hx (And.intro hp hq))
 have HN := Lib.hid (And.intro hnx (And.intro hnp hnq))
 have H0 := Lib.hid (And.intro hn0 (And.intro m1 (And.intro m2 m3)))
 have HK := Lib.hid (And.intro hkp hkq)
 have HI := Lib.hid (And.intro hpi hqi)
 have HXP := Lib.hid hxp
 have HN6 := Lib.hid (show ∀ w', Below w2.heap.size w2 w' → FsN w' f mi mg r N ∧ NodeR w' r p np ∧ NodeR w' r p np ∧ NodeR w' r x nx from fun w' hb => ⟨h2.below hW hb, hrp2.below (.inr (.inl hkp)) hb, hrq2.below (.inr (.inl hkq)) hb, hrx2.below (hW.kind x hx) hb⟩)
 have ho0 : o.id ≠ 0 := hW.ne0 ho
 rw [hoi, decide_eq_true ho0] at HAt2
 have hbq : (o.id == x.id) = false := by rw [beq_eq_false_iff_ne]; exact hox
 have hro2 := hro.below (hW.kind o ho) hB
 have HO := Lib.hid (show ∀ w', Below w2.heap.size w2 w' → (Instr.lookup 63 (.map (some mi)) (.int .i64 o.id) false).run Tryz.prog w' = .ok (.pointer (some ⟨no.blk, 0, none⟩)) w' from fun w' hb => by
  have h4 := h2.below hW hb
  have hg := h4.get hno
  rw [hro.id] at hg
  have hlk := (h4.look o.id).2
  rw [hg] at hlk
  exact hlk)
 have HMy := Lib.hid (show ∀ w', Below w2.heap.size w2 w' → Calls Tryz.prog 46 #[.pointer (some ⟨f, 0, none⟩), .pointer (some ⟨no.blk, 0, none⟩), .bool true] w' fun e w'' => e = .returned (.int .i64 0) ∧ w' = w'' from fun w' hb => by
  have := may_any (hro2.below (hW.kind o ho) hb) true (some ⟨f, 0, none⟩)
  rw [hmy] at this; exact this)
 have HBl := Lib.hid (show ∀ w', Below w2.heap.size w2 w' → Calls Tryz.prog 45 #[.pointer (some ⟨f, 0, none⟩), .int .i64 i, .int .i64 x.id] w' fun e w'' => e = .returned (.bool false) ∧ w' = w'' from fun w' hb => by
  have := below_any (h2.below hW hb) hW hq hkq x.id
  rw [hqi, hbl] at this
  exact this)
 have hoi' : entryP r.nms p.id s2 = o.id := by rw [hqi]; exact hoi
 have hctx := drop_ctx hW hx hp hkp hq ho hoi' hox (may_dir hmy).2 hn0 m1 m3
 have HNo := Lib.hid (And.intro hnx (And.intro hnp hnq))
 have HIds := Lib.hid (And.intro hrx.id (And.intro hrp.id hrq.id))
 have HLt := Lib.hid (fpL_lt h hW)
 obtain ⟨rd, erd⟩ : ∃ rd, dropP r p.id s2 = rd := ⟨_, rfl⟩
 have HDr := Lib.hid (show ∀ w', Below w2.heap.size w2 w' → Calls Tryz.prog 47 #[.pointer (some ⟨f, 0, none⟩), .agg #[.pointer (some ⟨np.blk, 0, none⟩), .pointer (some ⟨np.b, 0, none⟩), .string s2]] w' fun e w'' => e = .returned (.tuple #[]) ∧ (∃ N', FsN w'' f mi mg rd N' ∧ ∀ n ∈ N', n ∈ N) ∧ Frm (fpL f mi mg N) w' w'' from fun w' hb => by
  have := drop_any (h2.below hW hb) hW hq hkq hnq (hrq2.below (.inr (.inl hkq)) hb) s2 (by rw [hoi']; exact ho0)
  rw [erd] at this
  exact this)
 rw [erd] at hctx
 obtain ⟨hWd, hxd, hpd, hqd, hnd, hag⟩ := hctx
 have HERd := Lib.hid erd
 have HWd := Lib.hid hWd
 have HMd := Lib.hid (And.intro hxd (And.intro hpd hqd))
 have H0d := Lib.hid (And.intro hnd (And.intro m1 (And.intro m2 m3)))
 have HKX := Lib.hid hkx
 have HXQ := Lib.hid hxq
 have HLp := Lib.hid (show 2 ≤ linksN rd p ∧ linksN rd p ≤ 20 from ⟨by unfold linksN; rw [if_pos hkp]; omega, hWd.lim p hpd⟩)
 have HLq := Lib.hid (show linksN rd p ≤ 20 from hWd.lim p hqd)
 have HAg := Lib.hid (show (aget (adel (namesP rd.nms p.id) s) s2).isSome = false from by
  have h1 : aget (namesP rd.nms p.id) s2 = none := hag
  rw [aget_del, h1]
  split <;> rfl)
 clear hw2 hB hb0 hb1 h h2 hW hrp2 hrq2 hpl hp hkp hnp hrp hq hkq hnq hrq hpi hqi hl hl2 hk hk2 hv hv2 hx hnx hrx hxi hx0 hrx2 hkx hxq hmy ho hno hro hoi hox ho0 hro2 hoi' hWd hxd hpd hqd hnd hag erd hbl hh0 hn0 m1 m2 m3 hxp
 go_enter Tryz.func19, Tryz.ntmps19
 go_wp2_with fail
 rw [HW2.out]
 go_upto_region 4 with (go_at_call 44; (with_reducible refine HP.out.mono ?_); rintro e w3 ⟨rfl, hB3⟩; have hs3 := hB3.size; replace hB3 := Lib.hid hB3)
 obtain ⟨w4, hw4, hB4, hs4, hb40, hb41⟩ := box2 w3 #[.pointer (some ⟨np.blk, 0, none⟩), .pointer (some ⟨np.b, 0, none⟩), .string s] #[.pointer (some ⟨np.blk, 0, none⟩), .pointer (some ⟨np.b, 0, none⟩), .string s2] 85 85
 rw [hw4]
 have c0 : w4.cell? ⟨w3.heap.size, 0, none⟩ = some (.pointer (some ⟨np.blk, 0, none⟩)) := by rw [cell_at hb40]; rfl
 have c1 : w4.cell? ⟨w3.heap.size, 1, none⟩ = some (.pointer (some ⟨np.b, 0, none⟩)) := by rw [cell_at hb40]; rfl
 have c2 : w4.cell? ⟨w3.heap.size, 2, none⟩ = some (.string s) := by rw [cell_at hb40]; rfl
 have HQ1 := Lib.hid hb40
 have HQ2 := Lib.hid hb41
 have HB4 := Lib.hid (hB3.out.trans (hB4.mono (by omega)))
 clear hw4 hb40 hb41 hB4
 go_upto_region 22 with (first
  | (go_at_call 26; (with_reducible refine (HAt.out w4 HB4.out).mono ?_); rintro e w5 ⟨rfl, hB5⟩; have hs5 := hB5.size; have hY := (hB5.block _ (by omega)).trans HQ2.out; have d0 : w5.cell? ⟨w3.heap.size + 1, 0, none⟩ = _ := cell_at hY 0; have d1 : w5.cell? ⟨w3.heap.size + 1, 1, none⟩ = _ := cell_at hY 1; have d2 : w5.cell? ⟨w3.heap.size + 1, 2, none⟩ = _ := cell_at hY 2; have HQ25 := Lib.hid hY; have HQ15 := Lib.hid ((hB5.block _ (by omega)).trans HQ1.out); clear hY; have HB5 := Lib.hid (HB4.out.trans (hB5.mono HB4.out.size)); obtain ⟨x1, x2, x3, -, -⟩ := HX.out w5 HB5.out; clear hB5)
  | (go_at_call 26; (with_reducible refine (HAt2.out w5 HB5.out).mono ?_); rintro e w6 ⟨rfl, hB6⟩; have hs6 := hB6.size; have HQ26 := Lib.hid ((hB6.block _ (by omega)).trans HQ25.out); have HQ16 := Lib.hid ((hB6.block _ (by omega)).trans HQ15.out); have e0 : w6.cell? ⟨w3.heap.size, 0, none⟩ = _ := cell_at HQ16.out 0; have g0 : w6.cell? ⟨w3.heap.size + 1, 0, none⟩ = _ := cell_at HQ26.out 0; have HB6 := Lib.hid (HB5.out.trans (hB6.mono HB5.out.size)); obtain ⟨y1, y2, y3, y4, y5⟩ := HX.out w6 HB6.out; clear hB6; have z1 := HO.out w6 HB6.out; have g1 : w6.cell? ⟨w3.heap.size + 1, 1, none⟩ = _ := cell_at HQ26.out 1; have g2' : w6.cell? ⟨w3.heap.size + 1, 2, none⟩ = _ := cell_at HQ26.out 2)
  | (go_at_call 45; (with_reducible refine (HBl.out w6 HB6.out).mono ?_); rintro e w7 ⟨rfl, rfl⟩)
  | (go_at_call 46; (with_reducible refine (HMy.out w6 HB6.out).mono ?_); rintro e w7 ⟨rfl, rfl⟩)
  | (go_at_call 47; (with_reducible refine (HDr.out w6 HB6.out).mono ?_); rintro e wd ⟨rfl, hd⟩; have HD := Lib.hid hd; clear hd))
 obtain ⟨⟨N7, F7, hsub⟩, Fr7⟩ := HD.out
 have hb6 := HB.out.trans (HB6.out.mono (show w.heap.size ≤ w2.heap.size by omega))
 have hsz := hb6.size
 have hwz : w.heap.size + 2 ≤ w3.heap.size := by omega
 have HQ17 := Lib.hid ((Fr7.block w3.heap.size (heap_lt HQ16.out) (fun hm => by have := HLt.out _ hm; omega)).trans HQ16.out)
 have HQ27 := Lib.hid ((Fr7.block (w3.heap.size + 1) (heap_lt HQ26.out) (fun hm => by have := HLt.out _ hm; omega)).trans HQ26.out)
 obtain ⟨hx7, X6⟩ := node_sub HH.out F7 HWd.out hsub HMd.out.1 HNo.out.1 HIds.out.1
 obtain ⟨hp7, P6⟩ := node_sub HH.out F7 HWd.out hsub HMd.out.2.1 HNo.out.2.1 HIds.out.2.1
 obtain ⟨hq7, Q6⟩ := node_sub HH.out F7 HWd.out hsub HMd.out.2.2 HNo.out.2.2 HIds.out.2.2
 have F6 := F7
 have HSub := Lib.hid hsub
 have HNd := Lib.hid (And.intro hx7 (And.intro hp7 hq7))
 have FB := Lib.hid ((Frm.of_below (S := fpL f mi mg N) hb6).trans Fr7)
 clear F7 hsub Fr7 hx7 hp7 hq7 hb6
 have a1 : wd.cell? ⟨w3.heap.size, 1, none⟩ = some (.pointer (some ⟨np.b, 0, none⟩)) := by rw [cell_at HQ17.out]; rfl
 have a2 : wd.cell? ⟨np.b, 0, none⟩ = some (.map (some np.m)) := by rw [cell_at (P6.dir HK.out.1).1]; rfl
 have hm6 : MapB wd np.m strK intK (namesP rd.nms p.id) := (P6.dir HK.out.1).2
 obtain ⟨o1, hdel, hmp1⟩ := run_delete (P := Tryz.prog) (ty := 0) (tk := 9) KS (t := 69) Tryz.underlying69 hm6 s
 unfold strK at hdel
 have M1 := Lib.hid hmp1
 have G6 := Lib.hid F6
 have P6' := Lib.hid P6
 have Q6' := Lib.hid Q6
 have X6' := Lib.hid X6
 clear F6 P6 Q6 X6 hm6 hmp1
 go_upto_region 23 with fail
 obtain ⟨w7, hw7⟩ : ∃ w7, putObj wd np.m o1 = w7 := ⟨_, rfl⟩
 rw [hw7]
 have k7 : ∀ k, k ≠ np.m → w7.heap[k]? = wd.heap[k]? := fun k hk => by rw [← hw7]; exact putObj_other wd o1 hk
 rw [hw7] at M1
 have W7 := Lib.hid hw7
 have K7 := Lib.hid k7
 have b1 : w7.cell? ⟨w3.heap.size + 1, 1, none⟩ = some (.pointer (some ⟨np.b, 0, none⟩)) := by rw [cell_at ((k7 _ (map_ne (P6'.out.dir HK.out.1).2 HQ27.out).symm).trans HQ27.out)]; rfl
 have b2 : w7.cell? ⟨np.b, 0, none⟩ = some (.map (some np.m)) := by rw [cell_at ((k7 _ (map_ne (P6'.out.dir HK.out.1).2 (Q6'.out.dir HK.out.2).1).symm).trans (Q6'.out.dir HK.out.2).1)]; rfl
 have hm7 : MapB w7 np.m strK intK (adel (namesP rd.nms p.id) s) := M1.out
 have hag : (aget (adel (namesP rd.nms p.id) s) s2).isSome = false := HAg.out
 obtain ⟨o2, hup, hmp2⟩ := run_update KS (P := Tryz.prog) (t := 69) Tryz.underlying69 hm7 s2 x.id
 rw [aput_new hag] at hmp2
 unfold strK intK at hup
 have M2 := Lib.hid hmp2
 clear hm7 hag hmp2 hw7 k7 hdel a1 a2
 go_upto_region 24 with fail
 obtain ⟨w8, hw8⟩ : ∃ w8, putObj w7 np.m o2 = w8 := ⟨_, rfl⟩
 rw [hw8]
 rw [hw8] at M2
 have W8 := Lib.hid hw8
 have K8 := Lib.hid (show ∀ k, k ≠ np.m → w8.heap[k]? = w7.heap[k]? from fun k hk => by rw [← hw8]; exact putObj_other w7 o2 hk)
 clear hw8 hup b1 b2
 have ne : ∀ k, k ≠ np.m → k ≠ np.m → w8.heap[k]? = wd.heap[k]? := fun k a b => (K8.out k b).trans (K7.out k a)
 have pm := (P6'.out.dir HK.out.1).2
 have qm := (Q6'.out.dir HK.out.2).2
 have xd := (X6'.out.dir HKX.out).1
 have P8 := (ne _ (map_ne pm P6'.out.head).symm (map_ne qm P6'.out.head).symm).trans P6'.out.head
 have Q8 := (ne _ (map_ne pm Q6'.out.head).symm (map_ne qm Q6'.out.head).symm).trans Q6'.out.head
 have X8 := (ne _ (map_ne pm xd).symm (map_ne qm xd).symm).trans xd
 have R8 := (ne _ (map_ne pm HQ17.out).symm (map_ne qm HQ17.out).symm).trans HQ17.out
 have S8 := (ne _ (map_ne pm HQ27.out).symm (map_ne qm HQ27.out).symm).trans HQ27.out
 have f0 : w8.cell? ⟨w3.heap.size, 0, none⟩ = some (.pointer (some ⟨np.blk, 0, none⟩)) := by rw [cell_at R8]; rfl
 have f1 : w8.cell? ⟨w3.heap.size + 1, 0, none⟩ = some (.pointer (some ⟨np.blk, 0, none⟩)) := by rw [cell_at S8]; rfl
 have f2 : w8.cell? ⟨np.blk, 0, none⟩ = some (.int .i64 p.id) := by rw [cell_at Q8]; rfl
 have f3 : w8.cell? ⟨np.blk, 4, none⟩ = some (.int .i64 (linksN rd p : Int)) := by rw [cell_at P8]; rfl
 have f4 : w8.cell? ⟨np.blk, 4, none⟩ = some (.int .i64 (linksN rd p : Int)) := by rw [cell_at Q8]; rfl
 have f5 : w8.cell? ⟨nx.b, 1, none⟩ = some (.int .i64 x.parent) := by rw [cell_at X8]; rfl
 have f6 : w8.frozen? ⟨np.blk, 4, none⟩ = false := frozen_of_row w8 np.blk 4 _ _ P8
 have f7 : w8.frozen? ⟨np.blk, 4, none⟩ = false := frozen_of_row w8 np.blk 4 _ _ Q8
 have f8 : w8.frozen? ⟨nx.b, 1, none⟩ = false := frozen_of_row w8 nx.b 1 _ _ X8
 have n1 : w3.heap.size ≠ nx.b := blk_ne R8 X8 (by decide)
 have n2 : w3.heap.size ≠ np.blk := blk_ne R8 P8 (by decide)
 have n3 : w3.heap.size ≠ np.blk := blk_ne R8 Q8 (by decide)
 have n4 : w3.heap.size + 1 ≠ nx.b := blk_ne S8 X8 (by decide)
 have n5 : w3.heap.size + 1 ≠ np.blk := blk_ne S8 P8 (by decide)
 have n6 : w3.heap.size + 1 ≠ np.blk := blk_ne S8 Q8 (by decide)
 have n7 : nx.b ≠ np.blk := blk_ne X8 P8 (by decide)
 have n8 : nx.b ≠ np.blk := blk_ne X8 Q8 (by decide)
 have P8' := Lib.hid P8
 have Q8' := Lib.hid Q8
 have X8' := Lib.hid X8
 have hlp := HLp.out.1
 have hlp2 := HLp.out.2
 have hlq := HLq.out
 clear P8 Q8 X8 R8 S8 ne pm qm xd
 obtain ⟨lp, elp⟩ : ∃ lp, linksN rd p = lp := ⟨_, rfl⟩
 obtain ⟨lq, elq⟩ : ∃ lq, linksN rd p = lq := ⟨_, rfl⟩
 rw [elp] at f3 P8' hlp hlp2
 rw [elq] at f4 Q8' hlq
 have ELP := Lib.hid elp
 have ELQ := Lib.hid elq
 clear elp elq
 go_wp2
 go_ret
 refine ⟨rfl, ?_⟩
 obtain ⟨ei, -⟩ := HI.out
 subst ei
 rw [HERd.out]
 obtain ⟨hx, hp, hq⟩ := HMd.out
 obtain ⟨hnx, hnp, hnq⟩ := HNd.out
 obtain ⟨hrx, hrp, hrq⟩ := And.intro X6'.out (And.intro P6'.out Q6'.out)
 obtain ⟨hn0, m1, m2, m3⟩ := H0d.out
 have hlk := fun y => moved_links HWd.out hx hn0 m3 p.id s2 (y := y) (y' := y) rfl rfl
 rw [m1, m2] at hlk
 have hns : ∀ j, namesP (movedP rd p.id s p.id s2 x).nms j = _ := fun j => by rw [moved_nms, namesP_named, namesP_unnamed]
 have pm := (P6'.out.dir HK.out.1).2
 have qm := (Q6'.out.dir HK.out.2).2
 have xd := (X6'.out.dir HKX.out).1
 have c1 : ((lp : Int) - 1) = ((lp - 1 : Nat) : Int) := by omega
 have c3 : ((lp : Int) - 1 + 1) = ((lp : Nat) : Int) := by omega
 try rw [c3]
 rw [c1]
 have lP : linksN (movedP rd p.id s p.id s2 x) p = lp := by
  have := hlk p
  rw [if_pos ⟨HK.out.1, HKX.out, rfl⟩, ELP.out] at this
  omega
 refine ⟨N7, moved_fs G6.out HWd.out hx hnx hrx hp HK.out.1 hnp hrp hq HK.out.2 hnq hrq hn0 m1 m2 m3 HXP.out HXQ.out (fun k hk a b c d e => (setCell_far _ _ _ _ _ d).trans ((setCell_far _ _ _ _ _ c).trans ((setCell_far _ _ _ _ _ (e HKX.out)).trans ((K8.out k b).trans (K7.out k a))))) ?_ ?_ ?_ ?_ (fun _ => ?_), fun k hk => .inl (fp_sub HSub.out k hk), ?_⟩
 ·rw [hns, if_pos rfl, if_pos rfl]
  exact M2.out.of_block ((setCell_far _ _ _ _ _ (map_ne pm P6'.out.head)).trans ((setCell_far _ _ _ _ _ (map_ne pm P6'.out.head)).trans (setCell_far _ _ _ _ _ (map_ne pm xd))))
 ·rw [hns, if_pos rfl, if_pos rfl]
  exact M2.out.of_block ((setCell_far _ _ _ _ _ (map_ne pm P6'.out.head)).trans ((setCell_far _ _ _ _ _ (map_ne pm P6'.out.head)).trans (setCell_far _ _ _ _ _ (map_ne pm xd))))
 ·rw [lP]
  exact links_set (links_set (lk' := lp - 1) ((setCell_far _ _ _ _ _ n7.symm).trans P8'.out))
 ·rw [lP]
  exact links_set (links_set (lk' := lp - 1) ((setCell_far _ _ _ _ _ n7.symm).trans P8'.out))
 ·exact (setCell_far _ _ _ _ _ n7).trans ((setCell_far _ _ _ _ _ n7).trans (heap_setCell_same w8 nx.b 1 _ _ _ X8'.out))
 ·rw [← W8.out, ← W7.out]
  exact (((((FB.out.putObj (.inl (fp_node HNo.out.2.1 (Nd.m_mem (hrp.ne HK.out.1).1))) o1).putObj (.inl (fp_node HNo.out.2.2 (Nd.m_mem (hrq.ne HK.out.2).1))) o2).setCell (.inl (fp_node HNo.out.1 (Nd.b_mem (hrx.ne HKX.out).1))) _).setCell (.inl (fp_node HNo.out.2.1 np.blk_mem)) _).setCell (.inl (fp_node HNo.out.2.2 np.blk_mem)) _)
end Go.Proofs.YtpcjmefchclhhaaGreat
namespace Go.Proofs.YtpcjmefchclhhaaGreat
open Go.RowKit Go.MapKept
set_option maxHeartbeats 2000000 in
theorem rename_any {w : World} {f mi mg K : Nat} {r : RFs} {N : List Nd} (h : FsN w f mi mg r N) (hW : Wf r K) (i g : Int) (s : ByteArray) (hs : s.size ≤ maxLen) (i2 g2 : Int) (s2 : ByteArray) (hs2 : s2.size ≤ maxLen) :
  Calls Tryz.prog 19 #[.pointer (some ⟨f, 0, none⟩), .agg #[.int .i64 i, .int .i64 g], .string s, .agg #[.int .i64 i2, .int .i64 g2], .string s2] w
   fun e w' => e = .returned (.int .i64 (renameP r (i, g) s (i2, g2) s2).2) ∧ StepR w w' f mi mg N (renameP r (i, g) s (i2, g2) s2).1 := by
 have st : ∀ {v : Value} {e : Ending} {w' : World}, e = .returned v ∧ Below w.heap.size w w' → e = .returned v ∧ StepR w w' f mi mg N r := fun ⟨a, b⟩ => ⟨a, stepR_below h hW b⟩
 unfold renameP
 by_cases he : placesE r (i, g) s (i2, g2) s2 ≠ 0
 ·rw [if_pos he]
  exact (rename_bad h hW i g s hs i2 g2 s2 hs2 he).mono fun e w' hh => st hh
 ·rw [if_neg he]
  obtain ⟨hl, hl2, hk, hk2, hv, hv2⟩ := placesE_ok (Decidable.not_not.1 he)
  dsimp only at hk hk2 ⊢
  obtain ⟨hp, hpi, _⟩ := live_mem hl
  obtain ⟨hq, hqi, _⟩ := live_mem hl2
  dsimp only at hp hpi hq hqi
  obtain ⟨np, hnp, hrp⟩ := h.at_ hW hp
  obtain ⟨nq, hnq, hrq⟩ := h.at_ hW hq
  by_cases h0 : entryP r.nms i s = 0
  ·rw [if_pos h0]
   exact (rename_none h hW i g s hs i2 g2 s2 hs2 hp hk hnp hrp hq hk2 hnq hrq hpi hqi hl hl2 hk hk2 hv hv2 h0).mono fun e w' hh => st hh
  ·rw [if_neg h0]
   obtain ⟨n0, hn0, m1, m2, m3⟩ := entry_mem h0
   obtain ⟨hx1, x, hx, ex⟩ := hW.nmI n0 hn0
   have hxi : entryP r.nms i s = x.id := by rw [← m3, ← ex]
   obtain ⟨nx, hnx, hrx⟩ := h.at_ hW hx
   have hbx : byIdP r.ins x.id = x := hW.byId hx
   rw [hxi, hbx]
   by_cases hox : x.id = entryP r.nms i2 s2
   ·rw [if_pos hox]
    exact (rename_same h hW i g s hs i2 g2 s2 hs2 hp hk hnp hrp hq hk2 hnq hrq hpi hqi hl hl2 hk hk2 hv hv2 hx hnx hrx hxi hox.symm).mono fun e w' hh => st hh
   ·rw [if_neg hox]
    by_cases hlp : x.kind = 2 ∧ belowB r i2 x.id = true
    ·rw [if_pos hlp]
     by_cases ho : entryP r.nms i2 s2 = 0
     ·exact (rename_loop0 h hW i g s hs i2 g2 s2 hs2 hp hk hnp hrp hq hk2 hnq hrq hpi hqi hl hl2 hk hk2 hv hv2 hx hnx hrx hxi hlp.1 hlp.2 ho).mono fun e w' hh => st hh
     ·exact (rename_loop1 h hW i g s hs i2 g2 s2 hs2 hp hk hnp hrp hq hk2 hnq hrq hpi hqi hl hl2 hk hk2 hv hv2 hx hnx hrx hxi hlp.1 hlp.2 ho (fun e => hox e.symm)).mono fun e w' hh => st hh
    ·rw [if_neg hlp]
     have hbl : x.kind = 2 → belowB r i2 x.id = false := fun k => by
      cases hh : belowB r i2 x.id
      ·rfl
      ·exact absurd ⟨k, hh⟩ hlp
     have hxq : x.id ≠ (byIdP r.ins i2).id := fun e => by
      have k : x.kind = 2 := by rw [← hW.byId hx, e, hqi]; exact hk2
      have := hbl k
      rw [e, hqi, below_eq] at this
      cases this
     have hpn : np ≠ nq → np.blk ≠ nq.blk := fun hne e => h.apart hnp hnq hne _ np.blk_mem (by rw [e]; exact nq.blk_mem)
     by_cases ho : entryP r.nms i2 s2 = 0
     ·rw [if_neg (by simp [ho])]
      by_cases hk3 : x.kind = 2 ∧ i ≠ i2 ∧ 20 ≤ linksN r (byIdP r.ins i2)
      ·rw [if_pos hk3]
       have hne : np ≠ nq := fun e => hk3.2.1 (by rw [← hpi, ← hqi, ← hrp.id, ← hrq.id, e])
       exact (rename_links h hW i g s hs i2 g2 s2 hs2 hp hk hnp hrp hq hk2 hnq hrq hpi hqi hl hl2 hk hk2 hv hv2 hx hnx hrx hxi hk3.1 (hbl hk3.1) ho (hpn hne) hk3.2.2).mono fun e w' hh => st hh
      ·rw [if_neg hk3]
       by_cases kx : x.kind = 2
       ·by_cases hs' : np = nq
        ·exact rename_mv1s h hW i g s hs i2 g2 s2 hs2 hp hk hnp hrp hq hk2 hnq hrq hpi hqi hl hl2 hk hk2 hv hv2 hx hnx hrx hxi hxq ho kx (hbl kx) hs'
        ·refine rename_mv1d h hW i g s hs i2 g2 s2 hs2 hp hk hnp hrp hq hk2 hnq hrq hpi hqi hl hl2 hk hk2 hv hv2 hx hnx hrx hxi hxq ho kx (hbl kx) (hpn hs') ?_
         refine Nat.lt_of_not_le fun e => hk3 ⟨kx, fun e2 => hs' ?_, e⟩
         exact nodup_inj h.idU hnp hnq (by rw [hrp.id, hrq.id, hpi, hqi, e2])
       ·by_cases hs' : np = nq
        ·exact rename_mv0s h hW i g s hs i2 g2 s2 hs2 hp hk hnp hrp hq hk2 hnq hrq hpi hqi hl hl2 hk hk2 hv hv2 hx hnx hrx hxi hxq ho kx hs'
        ·exact rename_mv0d h hW i g s hs i2 g2 s2 hs2 hp hk hnp hrp hq hk2 hnq hrq hpi hqi hl hl2 hk hk2 hv hv2 hx hnx hrx hxi hxq ho kx (hpn hs')
     ·rw [if_pos ho]
      obtain ⟨n1, hn1, a1, a2, a3⟩ := entry_mem ho
      obtain ⟨_, o, hO, eo⟩ := hW.nmI n1 hn1
      have hoi : entryP r.nms i2 s2 = o.id := by rw [← a3, ← eo]
      obtain ⟨no, hno, hro⟩ := h.at_ hW hO
      have hox' : o.id ≠ x.id := fun e => hox (by rw [hoi, e])
      rw [hoi, hW.byId hO]
      by_cases kx : x.kind = 2
      ·rw [decide_eq_true kx]
       by_cases hmy : mayP r o true ≠ 0
       ·rw [if_pos hmy]
        exact (rename_may1 h hW i g s hs i2 g2 s2 hs2 hp hk hnp hrp hq hk2 hnq hrq hpi hqi hl hl2 hk hk2 hv hv2 hx hnx hrx hxi hO hno hro hoi hox' kx (hbl kx) hmy).mono fun e w' hh => st hh
       ·rw [if_neg hmy]
        by_cases hs' : np = nq
        ·exact rename_ov1s h hW i g s hs i2 g2 s2 hs2 hp hk hnp hrp hq hk2 hnq hrq hpi hqi hl hl2 hk hk2 hv hv2 hx hnx hrx hxi hxq hO hno hro hoi hox' kx (hbl kx) hs' (Decidable.not_not.1 hmy)
        ·exact rename_ov1d h hW i g s hs i2 g2 s2 hs2 hp hk hnp hrp hq hk2 hnq hrq hpi hqi hl hl2 hk hk2 hv hv2 hx hnx hrx hxi hxq hO hno hro hoi hox' kx (hbl kx) (hpn hs') (Decidable.not_not.1 hmy)
      ·rw [decide_eq_false kx]
       by_cases hmy : mayP r o false ≠ 0
       ·rw [if_pos hmy]
        exact (rename_may0 h hW i g s hs i2 g2 s2 hs2 hp hk hnp hrp hq hk2 hnq hrq hpi hqi hl hl2 hk hk2 hv hv2 hx hnx hrx hxi hO hno hro hoi hox' kx hmy).mono fun e w' hh => st hh
       ·rw [if_neg hmy]
        by_cases hs' : np = nq
        ·exact rename_ov0s h hW i g s hs i2 g2 s2 hs2 hp hk hnp hrp hq hk2 hnq hrq hpi hqi hl hl2 hk hk2 hv hv2 hx hnx hrx hxi hxq hO hno hro hoi hox' kx hs' (Decidable.not_not.1 hmy)
        ·exact rename_ov0d h hW i g s hs i2 g2 s2 hs2 hp hk hnp hrp hq hk2 hnq hrq hpi hqi hl hl2 hk hk2 hv hv2 hx hnx hrx hxi hxq hO hno hro hoi hox' kx (hpn hs') (Decidable.not_not.1 hmy)
end Go.Proofs.YtpcjmefchclhhaaGreat
namespace Go.Proofs.YtpcjmefchclhhaaGreat
open Go.RowKit Go.MapKept
theorem drop_sub {r : RFs} {d : Int} {t : ByteArray} : ∀ y ∈ (dropP r d t).ins, y ∈ r.ins := by
 intro y hy
 unfold dropP at hy
 split at hy
 ·exact (List.mem_filter.1 hy).1
 ·exact hy
theorem under_sub {r rd : RFs} {K : Nat} {top : Int} (hW : Wf r K) (hWd : Wf rd K) (hs : ∀ y ∈ rd.ins, y ∈ r.ins) {id : Int} (hu : Under rd top id) : ∀ y ∈ rd.ins, y.id = id → y.kind = 2 → Under r top id := by
 induction hu with
 | refl => exact fun _ _ _ _ => Under.refl
 | step h1 _ ih =>
  intro y hy e k
  subst e
  rw [hWd.byId hy] at ih
  obtain ⟨p, hp, a, b⟩ := hWd.par y hy k
  have := ih p hp a b
  refine Under.step h1 ?_
  rw [hW.byId (hs y hy)]
  exact this
theorem wf_rename {r : RFs} {K : Nat} (hW : Wf r K) (h g : Int × Int) (s t : ByteArray) : Wf (renameP r h s g t).1 K := by
 unfold renameP
 by_cases he : placesE r h s g t ≠ 0
 ·rw [if_pos he]; exact hW
 ·rw [if_neg he]
  obtain ⟨hl, hl2, hk, hk2, hv, hv2⟩ := placesE_ok (Decidable.not_not.1 he)
  obtain ⟨hp, hpi, _⟩ := live_mem hl
  obtain ⟨hq, hqi, _⟩ := live_mem hl2
  by_cases h0 : entryP r.nms h.1 s = 0
  ·rw [if_pos h0]; exact hW
  ·rw [if_neg h0]
   obtain ⟨n0, hn0, m1, m2, m3⟩ := entry_mem h0
   obtain ⟨hx1, x, hx, ex⟩ := hW.nmI n0 hn0
   have hxi : entryP r.nms h.1 s = x.id := by rw [← m3, ← ex]
   have hbx : byIdP r.ins x.id = x := hW.byId hx
   rw [hxi, hbx]
   by_cases hox : x.id = entryP r.nms g.1 t
   ·rw [if_pos hox]; exact hW
   ·rw [if_neg hox]
    by_cases hlp : x.kind = 2 ∧ belowB r g.1 x.id = true
    ·rw [if_pos hlp]; exact hW
    ·rw [if_neg hlp]
     have hbl : x.kind = 2 → ¬ Under r x.id g.1 := fun k hu => hlp ⟨k, by unfold belowB; exact @decide_eq_true _ (Classical.propDecidable _) hu⟩
     generalize hpp : byIdP r.ins h.1 = p at *
     generalize hqq : byIdP r.ins g.1 = q at *
     rw [← hpi] at m1 ⊢
     rw [hxi] at m3
     rw [← hqi] at hbl hox ⊢
     by_cases ho : entryP r.nms q.id t = 0
     ·rw [if_neg (by simp [ho])]
      by_cases hk3 : x.kind = 2 ∧ p.id ≠ q.id ∧ 20 ≤ linksN r q
      ·rw [if_pos hk3]; exact hW
      ·rw [if_neg hk3]
       exact wf_moved hW hx hq hk2 hn0 m1 m2 m3 hv2 ho hbl (fun a b => Nat.lt_of_not_le fun c => hk3 ⟨a, b, c⟩)
     ·rw [if_pos ho]
      obtain ⟨n1, hn1, a1, a2, a3⟩ := entry_mem ho
      obtain ⟨_, o, hO, eo⟩ := hW.nmI n1 hn1
      have hoi : entryP r.nms q.id t = o.id := by rw [← a3, ← eo]
      rw [hoi, hW.byId hO]
      split
      ·exact hW
      ·rename_i hmy
       have hmy := Decidable.not_not.1 hmy
       have hmd := may_dir hmy
       obtain ⟨hWd, hxd, hpd, hqd, hnd, hag⟩ := drop_ctx hW hx hp hk hq hO hoi (fun e => hox (by rw [hoi, e])) hmd.2 hn0 m1 m3
       refine wf_moved hWd hxd hqd hk2 hnd m1 m2 m3 hv2 (by rw [← entry_get, hag]; rfl) (fun a hu => hbl a (under_sub hW hWd drop_sub hu q hqd rfl hk2)) (fun a _ => drop_links hW hq hk2 hO (hmd.1.2 (by simp [a])) hoi)
end Go.Proofs.YtpcjmefchclhhaaGreat
namespace Go.Proofs.YtpcjmefchclhhaaGreat
open Go.RowKit Go.MapKept
theorem placeE_ok {r : RFs} {h : Int × Int} {s : ByteArray} (he : placeE r h s false = 0) : folderE r h = 0 ∧ validP s = true := by
 unfold placeE at he
 split at he
 ·rename_i a; exact absurd he a
 ·rename_i a
  refine ⟨Decidable.not_not.1 a, ?_⟩
  rw [if_neg (by simp)] at he
  split at he
  ·assumption
  ·cases he
theorem wf_link {r : RFs} {K : Nat} (hW : Wf r K) (h d : Int × Int) (s : ByteArray) : Wf (linkP r h d s).1 (K + 1) := by
 have h1 := hW.up (Nat.le_succ K)
 unfold linkP
 split
 ·exact h1
 ·rename_i a
  split
  ·exact h1
  ·rename_i b
   split
   ·exact h1
   ·rename_i c
    split
    ·exact h1
    ·rename_i e
     split
     ·exact h1
     ·rename_i q
      obtain ⟨hf, hv⟩ := placeE_ok (Decidable.not_not.1 b)
      obtain ⟨hl, hk⟩ := folder_live hf
      obtain ⟨m1, m2, _⟩ := live_mem hl
      obtain ⟨x1, x2, _⟩ := live_mem (by simpa using a : liveP r h = true)
      have := wf_named hW m1 hk x1 c hv (by rw [m2]; exact Decidable.not_not.1 e) (by omega)
      rw [m2, x2] at this
      exact this
theorem wf_remove {r : RFs} {K : Nat} (hW : Wf r K) (h : Int × Int) (s : ByteArray) (fo : Bool) : Wf (removeP r h s fo).1 K := by
 unfold removeP
 split
 ·exact hW
 ·rename_i b
  split
  ·exact hW
  ·rename_i e
   split
   ·exact hW
   ·rename_i c
    obtain ⟨hf, _⟩ := placeE_ok (Decidable.not_not.1 b)
    obtain ⟨hl, hk⟩ := folder_live hf
    obtain ⟨m1, m2, _⟩ := live_mem hl
    have := wf_drop (d := byIdP r.ins h.1) (s := s) hW (by rw [m2]; exact e) (by rw [m2]; exact (may_dir (Decidable.not_not.1 c)).2)
    rw [m2] at this
    exact this
theorem wf_make_all {r : RFs} {K : Nat} (hW : Wf r K) (h : Int × Int) (s : ByteArray) (m : RMk) : Wf (makeP r h s m).1 (K + 1) := by
 have h1 := hW.up (Nat.le_succ K)
 unfold makeP
 split
 ·exact h1
 ·rename_i a
  split
  ·exact h1
  ·rename_i b
   split
   ·exact h1
   ·rename_i c
    split
    ·exact h1
    ·rename_i d
     split
     ·exact h1
     ·rename_i e
      obtain ⟨hf, hv⟩ := placeE_ok (Decidable.not_not.1 a)
      obtain ⟨hl, hk⟩ := folder_live hf
      obtain ⟨m1, m2, _⟩ := live_mem hl
      have := wf_make (g := h.2) hW m1 hk hv (by simpa using b) (by rw [m2]; exact Decidable.not_not.1 c) (fun q => by omega) (by omega)
      rw [m2] at this
      exact this
end Go.Proofs.YtpcjmefchclhhaaGreat
namespace Go.Proofs.YtpcjmefchclhhaaGreat
open Go.RowKit Go.MapKept
theorem sheet_mem {r : RFs} {h : Int × Int} (he : sheetE r h = 0) : byIdP r.ins h.1 ∈ r.ins ∧ (byIdP r.ins h.1).kind = 1 := by
 unfold sheetE at he
 split at he
 ·rename_i a
  split at he
  ·rename_i b
   exact ⟨(live_mem a).1, b⟩
  ·split at he <;> cases he
 ·cases he
theorem wf_write {w : World} {f mi mg K : Nat} {r : RFs} {N : List Nd} (h : FsN w f mi mg r N) (hW : Wf r K) (hd : Int × Int) (a : Int) (b : List UInt8) (t : Int) : Wf (fwriteP r hd a b t).1 K := by
 unfold fwriteP
 split
 ·exact hW
 ·rename_i a1
  split
  ·exact hW
  ·split
   ·exact hW
   ·rename_i a3
    obtain ⟨m1, m2⟩ := sheet_mem (Decidable.not_not.1 a1)
    obtain ⟨n, hn, hr⟩ := h.at_ hW m1
    obtain ⟨sz, bl, _, hS⟩ := hr.file m2
    refine wf_file hW m1 m2 _ _ _ ?_
    have h1 := same_blocks (same_write hS a b)
    have h2 := same_blocks hS
    have h3 := same_need hS a b.length
    have h4 := room_write (bl := bl) a b
    have h5 : ¬ roomP r < (rneed (byIdP r.ins hd.1).On a b.length : Int) := fun e => a3 (.inl e)
    unfold roomP at h5
    omega
theorem wf_cut {r : RFs} {K : Nat} (hW : Wf r K) (hd : Int × Int) (n t : Int) : Wf (fcutP r hd n t).1 K := by
 unfold fcutP
 split
 ·exact hW
 ·rename_i a1
  split
  ·exact hW
  ·split
   ·exact hW
   ·obtain ⟨m1, m2⟩ := sheet_mem (Decidable.not_not.1 a1)
    refine wf_file hW m1 m2 _ _ _ ?_
    have h1 : (rcOn (byIdP r.ins hd.1).B (byIdP r.ins hd.1).On n).length ≤ (byIdP r.ins hd.1).On.length := by
     unfold rcOn
     split
     ·exact List.length_filter_le _ _
     ·exact Nat.le_refl _
    have h2 := hW.sp
    unfold usedN
    omega
end Go.Proofs.YtpcjmefchclhhaaGreat
namespace Go.Proofs.YtpcjmefchclhhaaGreat
open Go.RowKit Go.MapKept
structure OpF where
 kind : Int
 h : Int × Int
 g : Int × Int
 name : ByteArray
 other : ByteArray
 m : RMk
 fo : Bool
 pos : Int
 n : Int
 time : Int
 b : List UInt8
noncomputable def doP (r : RFs) (o : OpF) : RFs × (Int × Int) × Int × List UInt8 :=
 if o.kind = 0 then ((makeP r o.h o.name o.m).1, (makeP r o.h o.name o.m).2.1, (makeP r o.h o.name o.m).2.2, [])
 else if o.kind = 1 then ((linkP r o.h o.g o.name).1, (0, 0), (linkP r o.h o.g o.name).2, [])
 else if o.kind = 2 then ((removeP r o.h o.name o.fo).1, (0, 0), (removeP r o.h o.name o.fo).2, [])
 else if o.kind = 3 then ((renameP r o.h o.name o.g o.other).1, (0, 0), (renameP r o.h o.name o.g o.other).2, [])
 else if o.kind = 4 then ((fwriteP r o.h o.pos o.b o.time).1, (0, 0), (fwriteP r o.h o.pos o.b o.time).2, [])
 else if o.kind = 5 then ((fcutP r o.h o.n o.time).1, (0, 0), (fcutP r o.h o.n o.time).2, [])
 else if o.kind = 6 then (r, (lookP r o.h o.name).1, (lookP r o.h o.name).2, [])
 else if o.kind = 7 then (r, (0, 0), (freadP r o.h o.pos o.n).2, (freadP r o.h o.pos o.n).1)
 else (r, (0, 0), 0, [])
end Go.Proofs.YtpcjmefchclhhaaGreat

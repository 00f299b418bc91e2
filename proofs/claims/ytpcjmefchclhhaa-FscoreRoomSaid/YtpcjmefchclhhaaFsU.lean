/- What is always true of a file system stays true: Make. -/
import Derived.Test.YtpcjmefchclhhaaFsT
namespace Go.Proofs.Ytpcjmefchclhhaa
open Go.RowKit Go.MapKept

section
variable {r : RFs} {K : Nat} {x d : RIn}
theorem freeP_ok (h : Wf r K) (hc : r.ins.length < 200) : 1 ≤ freeP r.ins ∧ freeP r.ins ≤ 200 ∧ ∀ y ∈ r.ins, y.id ≠ freeP r.ins := by
  have hex : ∃ j : Nat, j < 201 ∧ (byIdP r.ins ((j : Int) + 1)).id = 0 := Classical.byContradiction fun hn => by
    have := ids_le h (j := 201) (fun k hk e => hn ⟨k, hk, e⟩)
    omega
  have hmin : ∃ j : Nat, (j < 201 ∧ (byIdP r.ins ((j : Int) + 1)).id = 0) ∧ ∀ k, k < j → (byIdP r.ins ((k : Int) + 1)).id ≠ 0 := by
    obtain ⟨j, hj⟩ := hex
    induction j using Nat.strongRecOn with
    | ind j ih =>
      by_cases q : ∃ k, k < j ∧ (byIdP r.ins ((k : Int) + 1)).id = 0
      · obtain ⟨k, hk, e⟩ := q
        exact ih k hk ⟨by omega, e⟩
      · exact ⟨j, hj, fun k hk e => q ⟨k, hk, e⟩⟩
  obtain ⟨j, ⟨hj, h0⟩, hl⟩ := hmin
  have hle := ids_le h hl
  rw [freeP_of hj h0 hl]
  refine ⟨by omega, by omega, fun y hy e => ?_⟩
  have := h.byId hy
  rw [e] at this
  rw [this] at h0
  exact h.ne0 hy h0
theorem gensAt_mem (l : List Int) (id : Int) : gensAt l id = 0 ∨ gensAt l id ∈ l := by
  unfold gensAt
  split
  · rw [List.getD_eq_getElem?_getD]
    cases hh : l[id.toNat]? with
    | none => exact .inl rfl
    | some v => exact .inr (List.mem_of_getElem? hh)
  · exact .inl rfl
theorem size0 {s : ByteArray} (h : s.size = 0) : s = noStr := by
  obtain ⟨a⟩ := s
  have : a = #[] := Array.eq_empty_of_size_eq_zero h
  rw [this]
  rfl
theorem wf_make (h : Wf r K) (hd : d ∈ r.ins) (hk : d.kind = 2) {s : ByteArray} {m : RMk} {g : Int} (hv : validP s = true) (hr : rightB m = true) (he : entryP r.nms d.id s = 0) (hl : m.kind = 2 → linksN r d < 20) (hc : r.ins.length < 200) :
    Wf (namedP (addP r (newIn r (d.id, g) m)) d.id s (freeP r.ins)) (K + 1) := by
  obtain ⟨f1, f2, f3⟩ := freeP_ok h hc
  unfold rightB at hr
  obtain ⟨r1, r2, r3, r4, r5, r6, r7, r8⟩ := of_decide_eq_true hr
  obtain ⟨x, hx⟩ : ∃ x, newIn r (d.id, g) m = x := ⟨_, rfl⟩
  have xi : x.id = freeP r.ins := by rw [← hx]; rfl
  have xg : x.gen = gensAt r.gens x.id + 1 := by rw [xi, ← hx]; rfl
  have xk : x.kind = m.kind := by rw [← hx]; rfl
  have xp : x.parent = d.id := by rw [← hx]; rfl
  have xo : x.B = [] ∧ x.On = [] := by rw [← hx]; exact ⟨rfl, rfl⟩
  have xt : x.target = m.target := by rw [← hx]; rfl
  rw [hx, ← xi]
  rw [← xi] at f1 f2 f3
  clear hx
  have hrt : x.id ≠ 1 := fun e => by
    obtain ⟨z, hz, a, _⟩ := h.root
    exact f3 z hz (a.trans e.symm)
  have hm : ∀ y, y ∈ (namedP (addP r x) d.id s x.id).ins ↔ y ∈ r.ins ∨ y = x := fun y => by unfold namedP addP; simp
  have hn : ∀ n, n ∈ (namedP (addP r x) d.id s x.id).nms ↔ n ∈ r.nms ∨ n = ⟨d.id, s, x.id⟩ := fun n => by unfold namedP addP; simp
  have hg : ∀ j, gensAt (namedP (addP r x) d.id s x.id).gens j = if j = x.id then gensAt r.gens x.id + 1 else gensAt r.gens j := gensAt_up r.gens (by omega)
  have hnone : ∀ n ∈ r.nms, n.id ≠ x.id := fun n hn e => by
    obtain ⟨_, z, hz, a⟩ := h.nmI n hn
    exact f3 z hz (a.trans e)
  have hbd := gens_bd h x.id
  refine { ids := ?_, rng := fun y hy => ?_, gen := fun y hy => ?_, genK := fun g hg => ?_, genL := ?_, kind := fun y hy => ?_, root := ?_, nmD := fun n hn' => ?_, nmI := fun n hn' => ?_, nmV := fun n hn' => ?_, uniq := ?_, one := fun y hy q1 q2 => ?_, some := fun y hy q => ?_, par := fun y hy q => ?_, tree := ?_, nmK := ?_, lim := fun y hy => ?_, file := fun y hy q => ?_, link := fun y hy q => ?_, rm := h.rm, sp := ?_ }
  · unfold namedP addP
    dsimp only
    rw [List.map_append, List.nodup_append]
    refine ⟨h.ids, by simp, fun a ha b hb => ?_⟩
    obtain ⟨y, hy, rfl⟩ := List.mem_map.1 ha
    simp at hb
    rw [hb]
    exact f3 y hy
  · rcases (hm y).1 hy with h1 | rfl
    · exact h.rng y h1
    · exact ⟨f1, f2⟩
  · rw [hg]
    rcases (hm y).1 hy with h1 | rfl
    · rw [if_neg (f3 y h1)]; exact h.gen y h1
    · rw [if_pos rfl]; exact ⟨xg, by omega⟩
  · have hg : g ∈ gensUp r.gens x.id := hg
    unfold gensUp at hg
    rcases List.mem_or_eq_of_mem_set hg with h1 | h1
    · rcases List.mem_append.1 h1 with h2 | h2
      · have := h.genK g h2; omega
      · have := (List.mem_replicate.1 h2).2; omega
    · omega
  · show (gensUp r.gens x.id).length ≤ 201
    unfold gensUp
    have := h.genL
    simp
    omega
  · rcases (hm y).1 hy with h1 | rfl
    · exact h.kind y h1
    · omega
  · obtain ⟨z, hz, a⟩ := h.root
    exact ⟨z, (hm z).2 (.inl hz), a⟩
  · rcases (hn n).1 hn' with h1 | rfl
    · obtain ⟨p, hp, a⟩ := h.nmD n h1
      exact ⟨p, (hm p).2 (.inl hp), a⟩
    · exact ⟨d, (hm d).2 (.inl hd), rfl, hk⟩
  · rcases (hn n).1 hn' with h1 | rfl
    · obtain ⟨a0, p, hp, a⟩ := h.nmI n h1
      exact ⟨a0, p, (hm p).2 (.inl hp), a⟩
    · exact ⟨hrt, x, (hm x).2 (.inr rfl), rfl⟩
  · rcases (hn n).1 hn' with h1 | rfl
    · exact h.nmV n h1
    · exact hv
  · exact uniq_add h.uniq (entry_none h (fun _ hn => hn) he)
  · show ((r.nms ++ [(⟨d.id, s, x.id⟩ : RNm)]).filter fun n : RNm => decide (n.id = y.id)).map (fun n : RNm => n.dir) = _
    rw [List.filter_append, List.map_append]
    rcases (hm y).1 hy with h1 | rfl
    · rw [h.one y h1 q1 q2]
      have : ¬ x.id = y.id := fun e => f3 y h1 e.symm
      simp [this]
    · rw [List.filter_eq_nil_iff.2 (fun n hn' => by simpa using hnone n hn')]
      simp [xp]
  · rcases (hm y).1 hy with h1 | rfl
    · obtain ⟨n, hn', e⟩ := h.some y h1 q
      exact ⟨n, (hn n).2 (.inl hn'), e⟩
    · exact ⟨_, (hn _).2 (.inr rfl), rfl⟩
  · rcases (hm y).1 hy with h1 | rfl
    · obtain ⟨p, hp, a⟩ := h.par y h1 q
      exact ⟨p, (hm p).2 (.inl hp), a⟩
    · exact ⟨d, (hm d).2 (.inl hd), xp.symm, hk⟩
  · obtain ⟨ρ, hρ⟩ := h.tree
    refine ⟨fun j => if j = x.id then ρ d.id + 1 else ρ j, fun y hy q1 q2 => ?_⟩
    dsimp only
    rcases (hm y).1 hy with h1 | rfl
    · obtain ⟨p, hp, a, _⟩ := h.par y h1 q1
      rw [if_neg (f3 y h1), ← a, if_neg (f3 p hp), a]
      exact hρ y h1 q1 q2
    · rw [if_pos rfl, xp, if_neg (f3 d hd)]
      omega
  · have := h.nmK
    show (r.nms ++ [_]).length ≤ _
    simp
    omega
  · rcases (hm y).1 hy with h1 | rfl
    · rw [linksN_make h f3 s h1]
      have := h.lim y h1
      split
      · rename_i q
        have e : d = y := by rw [← h.byId hd, q.2.1, h.byId h1]
        have := hl (xk.symm.trans q.2.2)
        rw [e] at this
        omega
      · omega
    · rw [linksN_new h f3 hd s]
      split <;> omega
  · rcases (hm y).1 hy with h1 | rfl
    · exact h.file y h1 q
    · exact xo
  · rcases (hm y).1 hy with h1 | rfl
    · exact h.link y h1 q
    · rw [xt]; exact size0 (r8 (fun e => q (xk.trans e)))
  · have := h.sp
    show ((((r.ins ++ [x]).map fun y => y.On.length).sum : Nat) : Int) ≤ r.room
    rw [List.map_append, List.sum_append]
    simp [xo.2]
    exact this
end
end Go.Proofs.Ytpcjmefchclhhaa

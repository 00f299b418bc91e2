/- A part of the proof. -/
import Derived.Test.YtalfffamppmooaaGreatDoorZId
import Derived.Test.YtalfffamppmooaaGreatDoorSxMc
namespace Go.Proofs.YtalfffamppmooaaGreatDoor
open Go.RowKit Go.Shelf
set_option maxRecDepth 100000
theorem ins_len {l : List RL} {i : Nat} (x : RL) (hi : i ≤ l.length) : (l.take i ++ x :: l.drop i).length = l.length + 1 := by
 rw [List.length_append, List.length_cons, List.length_take, List.length_drop]; omega
theorem ins_fL {l : List RL} {i : Nat} (x : RL) : fL (l.take i ++ x :: l.drop i) = (fL l).take (i * 3) ++ fL [x] ++ (fL l).drop (i * 3) := by
 rw [fL_app, show x :: l.drop i = [x] ++ l.drop i from rfl, fL_app, fL_take, fL_drop, List.append_assoc]
theorem ins_raw {v : Value} {l : List RL} {w : World} (i u uc : Nat) (ucur : Array Value) (x : RL) (hi : i ≤ l.length) (hl : l.length ≤ 100000) (hv : LR w v l) (hu : w.heap[u]? = some (.cells ucur tLe (0, 0))) (hux : ucur.toList.take 3 = fL [x]) (hne : v.ownBlock ≠ some u) :
  Calls Tryz.prog fIns #[v, .int .i64 i, .slice (some ⟨u, 0, none⟩) 1 uc] w (Moved w v (l.take i ++ x :: l.drop i)) := by
 by_cases he : i = l.length
 ·subst he
  rw [List.take_length, List.drop_length]
  exact ins_end u uc ucur x hl hv hu hux
 ·rcases hv.2 with ⟨rfl, hn0⟩ | ⟨g, c, cur, rfl, -, hg, hnc, hcm, hcs, hx⟩
  ·omega
  have hcm' : c ≤ 9223372036854775807 := by unfold maxLen at hcm; omega
  by_cases hroom : l.length + 1 ≤ c
  ·refine (ins_shift g u l.length c i uc cur ucur (fL l) x w (by omega) hroom hcm' (fun e => hne (by rw [e]; rfl)) hg hu hcs hx (fL_len l) hux (fL_one l)).mono fun e w' ⟨h1, r, h2, h3, h4, h5⟩ => ⟨_, h1, ⟨fL_len _, .inr ⟨g, c, r, by rw [ins_len x hi], Nat.zero_le _, h2, by rw [ins_len x hi]; exact hroom, hcm, h3, by rw [ins_len x hi, ins_fL]; exact h4⟩⟩, h5, .inl rfl⟩
  ·refine (ins_grow g u l.length c i uc cur ucur (fL l) x w (by omega) hnc (by omega) hl hg hu hx (fL_len l) hux (fL_one l)).mono fun e w' ⟨G, h1, hG1, hG2, r, h2, h3, h4, h5, h6⟩ => ⟨_, h1, ⟨fL_len _, .inr ⟨w.heap.size, G, r, by rw [ins_len x hi], Nat.zero_le _, h2, by rw [ins_len x hi]; exact hG1, hG2, h3, by rw [ins_len x hi, ins_fL]; exact h4⟩⟩, ⟨h5.os, h5.tape, h5.output, h5.size, fun k hk _ => h5.block k hk (by simp)⟩, .inr ⟨w.heap.size, rfl, Nat.le_refl _, h6⟩⟩
abbrev slL (l : List RL) : R := .slc (l.map enL) tLe 3
theorem gone_look {m : Nat} {r : R} {k : Nat} {r' : R} (h : look k (objs (List.replicate m .gone ++ [r]) 0) = some r') : (k < m ∧ r' = .gone) ∨ (k = m ∧ r' = r) := by
 rw [look_objs0] at h
 by_cases hk : k < m
 ·rw [List.getElem?_append_left (by simpa using hk), List.getElem?_replicate, if_pos hk] at h
  exact .inl ⟨hk, (Option.some.inj h).symm⟩
 ·rw [List.getElem?_append_right (by simpa using hk), List.length_replicate] at h
  have : k - m = 0 := by
   have := (List.getElem?_eq_some_iff.1 h).1
   simp at this; omega
  rw [this] at h
  exact .inr ⟨by omega, (Option.some.inj h).symm⟩
theorem mov_fin {I : Imm} {V : Va} {w w' : World} {rest : List R} {l l' : List RL} {e : Ending} (hH : Has I V (objs (slL l :: rest) 0) w) (hn : V.n = rest.length + 1) (hm : Moved w (V.s 0) l' e w') :
  ∃ x g rs' I' V', e = .returned x ∧ (g = .osl (rest.length + 1) ∧ rs' = List.replicate (rest.length + 1) .gone ++ [slL l']) ∧ V'.n = rs'.length ∧ Has I' V' (objs rs' 0) w' ∧ PRes I' V' g x ∧ Fro (objs (slL l :: rest) 0) I V w (objs rs' 0) I' V' w' ∧ V.le V' := by
 obtain ⟨v', he, hl', hg, hb⟩ := hm
 obtain ⟨hf, hlr⟩ := lr_of (hH.each 0 (slL l) rfl)
 have hfoot := fun b hb => hH.foot 0 (slL l) b rfl hb
 have hI : ∀ b o y, I b o = some y → w'.heap[b]? = w.heap[b]? := fun b o y hy => hg.block b (hH.mem.lt hy) fun e => by
  have := (hfoot b ((hf b).2 e.symm)).2 o
  rw [hy] at this; cases this
 let V' : Va := ⟨rest.length + 2, V.b, fun k => if k < rest.length + 1 then V.s k else v', fun k => if k < rest.length + 1 then fun _ => False else fun b => v'.ownBlock = some b⟩
 have hs : V'.s (rest.length + 1) = v' := if_neg (by omega)
 have hff : V'.f (rest.length + 1) = fun b => v'.ownBlock = some b := if_neg (by omega)
 have hfl : ∀ k, k < rest.length + 1 → V'.f k = fun _ => False := fun k hk => if_pos hk
 refine ⟨v', .osl (rest.length + 1), _, I, V', he, ⟨rfl, rfl⟩, by simp [V'], ⟨hH.mem.keep hI, fun k r hk => ?_, fun k r hk => ?_, fun k r b hk hb' => ?_, fun k k' r r' b hk hk' hb1 hb2 => ?_⟩, ⟨Nat.lt_succ_self _, hs.symm⟩, ⟨hg.os, hg.tape, hg.output, hg.size, fun b hlt hno => ⟨hg.block b hlt fun e => hno 0 _ rfl ((hf b).2 e.symm), fun _ => rfl⟩, fun _ _ _ h => h, fun k r b hk hb' hlt => ?_⟩, ⟨by rw [hn]; exact Nat.le_succ _, fun k hk => ⟨rfl, if_pos (by omega)⟩⟩⟩
 ·rcases gone_look hk with ⟨h, -⟩ | ⟨h, -⟩
  ·exact Nat.lt_of_lt_of_le h (Nat.le_succ _)
  ·rw [h]; exact Nat.lt_succ_self _
 ·rcases gone_look hk with ⟨h, rfl⟩ | ⟨rfl, rfl⟩
  ·exact fun b hb => by rw [hfl k h] at hb; exact hb
  ·exact of_lr (fun b => by rw [hff, hs]) (by rw [hs]; exact hl')
 ·rcases gone_look hk with ⟨h, -⟩ | ⟨rfl, -⟩
  ·rw [hfl k h] at hb'; exact hb'.elim
  ·rw [hff] at hb'
   rcases hb with hb | ⟨g, h1, h2, h3⟩
   ·rw [hb] at hb'
    obtain ⟨h1, h2⟩ := hfoot b ((hf b).2 hb')
    exact ⟨Nat.lt_of_lt_of_le h1 hg.size, h2⟩
   ·rw [h1] at hb'
    obtain rfl : g = b := Option.some.inj hb'
    refine ⟨h3, fun o => ?_⟩
    cases hy : I g o with
    | none => rfl
    | some y => have := hH.mem.lt hy; omega
 ·rcases gone_look hk with ⟨h, -⟩ | ⟨rfl, -⟩
  ·rw [hfl k h] at hb1; exact hb1.elim
  ·rcases gone_look hk' with ⟨h, -⟩ | ⟨rfl, -⟩
   ·rw [hfl k' h] at hb2; exact hb2.elim
   ·rfl
 ·rcases gone_look hk with ⟨h, -⟩ | ⟨rfl, -⟩
  ·rw [hfl k h] at hb'; exact hb'.elim
  ·rw [hff] at hb'
   rcases hb with hb | ⟨g, h1, h2, h3⟩
   ·rw [hb] at hb'
    exact ⟨0, _, rfl, (hf b).2 hb'⟩
   ·rw [h1] at hb'
    obtain rfl : g = b := Option.some.inj hb'
    omega
theorem del_o {l : List RL} (i : Nat) (hi : i < l.length) (hl : l.length ≤ 100000) : FnO Tryz.prog fDel [.osl 0, gI i, gI ((i : Int) + 1)] [slL l] fun g rs => g = .osl 1 ∧ rs = [.gone, slL (l.take i ++ l.drop (i + 1))] :=
 ⟨⟨_, Tryz.func124, by kernel_rfl, by kernel_rfl⟩, fun I V w vs hH hn hp => by
  obtain ⟨a, us, rfl, ha, hp⟩ := hp.uncons
  obtain ⟨b, us, rfl, hb, hp⟩ := hp.uncons
  obtain ⟨c, us, rfl, hc, hp⟩ := hp.uncons
  obtain rfl := hp.of_nil
  obtain ⟨-, rfl⟩ := (show 0 < V.n ∧ a = V.s 0 from ha)
  obtain rfl := vrep_v hb
  obtain rfl := vrep_v hc
  exact (del_raw i hi hl (lr_of (hH.each 0 (slL l) rfl)).2).mono fun e w' hm => mov_fin hH hn hm⟩
theorem ins_o {l : List RL} (i : Nat) (x : RL) (hi : i ≤ l.length) (hl : l.length ≤ 100000) : FnO Tryz.prog fIns [.osl 0, gI i, .osl 1] [slL l, slL [x]] fun g rs => g = .osl 2 ∧ rs = [.gone, .gone, slL (l.take i ++ x :: l.drop i)] :=
 ⟨⟨_, Tryz.func60, by kernel_rfl, by kernel_rfl⟩, fun I V w vs hH hn hp => by
  obtain ⟨a, us, rfl, ha, hp⟩ := hp.uncons
  obtain ⟨b, us, rfl, hb, hp⟩ := hp.uncons
  obtain ⟨c, us, rfl, hc, hp⟩ := hp.uncons
  obtain rfl := hp.of_nil
  obtain ⟨-, rfl⟩ := (show 0 < V.n ∧ a = V.s 0 from ha)
  obtain rfl := vrep_v hb
  obtain ⟨-, rfl⟩ := (show 1 < V.n ∧ c = V.s 1 from hc)
  obtain ⟨hf0, h0⟩ := lr_of (hH.each 0 (slL l) rfl)
  obtain ⟨hf1, h1⟩ := lr_of (hH.each 1 (slL [x]) rfl)
  rcases h1.2 with ⟨-, hn0⟩ | ⟨u, uc, ucur, hv, -, hu, -, -, -, hux⟩
  ·cases hn0
  have hv : V.s 1 = .slice (some ⟨u, 0, none⟩) 1 uc := hv
  have hne : (V.s 0).ownBlock ≠ some u := fun e => by
   have := hH.disj 0 1 _ _ u rfl rfl ((hf0 u).2 e) ((hf1 u).2 (by rw [hv]; rfl))
   omega
  rw [hv]
  exact (ins_raw i u uc ucur x hi hl h0 hu hux hne).mono fun e w' hm => mov_fin hH hn hm⟩
theorem Has.of_look {I : Imm} {V : Va} {own own' : Os} {w : World} (h : Has I V own w) (hl : ∀ k r, look k own' = some r → look k own = some r) : Has I V own' w :=
 ⟨h.mem, fun k r hk => h.num k r (hl k r hk), fun k r hk => h.each k r (hl k r hk), fun k r b hk => h.foot k r b (hl k r hk), fun k k' r r' b hk hk' => h.disj k k' r r' b (hl k r hk) (hl k' r' hk')⟩
theorem clo_o {l : List RL} (hl : l.length ≤ 100000) : FnO Tryz.prog fClo [.osl 0] [slL l] fun g rs => g = .osl 1 ∧ rs = [slL l, slL l] :=
 ⟨⟨_, Tryz.func92, by kernel_rfl, by kernel_rfl⟩, fun I V w vs hH hn hp => by
  obtain ⟨a, us, rfl, ha, hp⟩ := hp.uncons
  obtain rfl := hp.of_nil
  obtain ⟨-, rfl⟩ := (show 0 < V.n ∧ a = V.s 0 from ha)
  have hn : V.n = 1 := hn
  refine (clo_raw hl (lr_of (hH.each 0 (slL l) rfl)).2).mono fun e w' ⟨v', he, hl', hb, hnew⟩ => ?_
  have hL := later_new (r := slL l) hH hb 0 v' (fun b => v'.ownBlock = some b) (fun b hb' => hnew b hb') (of_lr (fun b => by simp [Va.push]) (by show LR w' ((V.push 0 v' _).s V.n) l; simp only [Va.push, if_pos]; exact hl'))
  have hlk : ∀ k r, look k (objs [slL l, slL l] 0) = some r → look k ((V.n, slL l) :: objs [slL l] 0) = some r := fun k r hk => by
   rw [look_objs0] at hk
   rw [hn]
   rcases k with _ | _ | k
   ·exact hk
   ·exact hk
   ·simp at hk
  exact ⟨v', .osl 1, _, I, V.push 0 v' fun b => v'.ownBlock = some b, he, ⟨rfl, rfl⟩, by show V.n + 1 = _; rw [hn]; rfl, hL.has.of_look hlk, ⟨by show 1 < V.n + 1; omega, by simp [Va.push, hn]⟩, hL.fro.right fun k r hk => ⟨_, hlk k r hk⟩, hL.va⟩⟩
end Go.Proofs.YtalfffamppmooaaGreatDoor

/- A part of the proof, merged from several texts. -/
import Derived.Test.YtalfffamppmooaaGreatDoorSxMc
import Derived.Test.YtalfffamppmooaaGreatDoorZM1
import Derived.Test.YtalfffamppmooaaGreatDoorZKeyz
namespace Go.Proofs.YtalfffamppmooaaGreatDoor
open Go.RowKit
set_option maxRecDepth 100000
def maxZ : Nat := 2000000
theorem bool_eq {a b : Bool} (h : a = true ↔ b = true) : G.v (.bool a) = .v (.bool b) := by rw [Bool.eq_iff_iff.2 h]
theorem letter_p (n : Int) : FnV Tryz.prog 176 [.v (.int .i32 n)] fun g => g = .v (.bool (letN n)) := by
 refine fnG Tryz.func176 (by kernel_rfl) rfl (Nat.le_of_ble_eq_true (by kernel_rfl)) (by kernel_rfl) ?_
 repeat' first
  | refine EvIf.dec (fun _ => ?_) (fun _ => ?_)
  | refine EvIf.beq (fun _ => ?_) (fun _ => ?_)
 all_goals (refine bool_eq (b := letN n) ?_; unfold letN; simp; try omega)
theorem letter_r (c : UInt8) : FnV Tryz.prog 155 [.v (.int .u8 c.toNat)] fun g => g = .v (.bool (letB c)) := by
 refine fnG Tryz.func155 (by kernel_rfl) rfl (Nat.le_of_ble_eq_true (by kernel_rfl)) (by kernel_rfl) ?_
 repeat' first
  | refine EvIf.dec (fun _ => ?_) (fun _ => ?_)
  | refine EvIf.beq (fun _ => ?_) (fun _ => ?_)
 all_goals (refine bool_eq (b := letB c) ?_; unfold letB letN; simp; try omega)
theorem name_no {s : ByteArray} (h : ¬ (1 ≤ s.size ∧ s.size ≤ 60 ∧ s ≠ dot1 ∧ s ≠ dot2)) : nameZ s = false := by unfold nameZ; rw [decide_eq_false h, Bool.and_false]
theorem name_yes {s : ByteArray} (h : 1 ≤ s.size ∧ s.size ≤ 60 ∧ s ≠ dot1 ∧ s ≠ dot2) (ha : ∀ c ∈ s.data.toList, letB c = true) : nameZ s = true := by unfold nameZ; rw [decide_eq_true h, Bool.and_true]; exact List.all_eq_true.2 ha
theorem name_bad {s : ByteArray} {c : UInt8} (hc : c ∈ s.data.toList) (h : letB c = false) : nameZ s = false := by
 have : s.data.toList.all letB = false := by rw [List.all_eq_false]; exact ⟨c, hc, by rw [h]; simp⟩
 unfold nameZ; rw [this, Bool.false_and]
theorem at_data (s : ByteArray) {i : Nat} (h : i < s.size) : s.data.toList[i]? = some (s[i]'h) := by
 have hl : i < s.data.toList.length := by simpa using h
 rw [List.getElem?_eq_getElem hl]; simp [ByteArray.getElem_eq_getElem_data]
theorem name_p (s : ByteArray) : FnV Tryz.prog 150 [.v (.string s)] fun g => g = .v (.bool (nameZ s)) := by
 refine fnG Tryz.func150 (by kernel_rfl) rfl (Nat.le_of_ble_eq_true (by kernel_rfl)) (by kernel_rfl) ?_
 have no : ¬ (1 ≤ s.size ∧ s.size ≤ 60 ∧ s ≠ dot1 ∧ s ≠ dot2) → G.v (.bool false) = .v (.bool (nameZ s)) := fun h => by rw [name_no h]
 refine EvIf.beqS (fun h1 => no fun h => ?_) (fun h1 => EvIf.dec (fun h2 => no fun h => ?_) (fun h2 => EvIf.beqS (fun h3 => no fun h => h.2.2.1 h3) (fun h3 => EvIf.beqS (fun h4 => no fun h => h.2.2.2 h4) (fun h4 => ?_))))
 ·subst h1; exact absurd h.1 (by decide)
 ·have := h.2.1; omega
 have ok : 1 ≤ s.size ∧ s.size ≤ 60 ∧ s ≠ dot1 ∧ s ≠ dot2 := ⟨Nat.pos_of_ne_zero fun e => h1 (data_inj (show s.data.toList = [] from List.eq_nil_of_length_eq_zero (by simpa using e))), by omega, h3, h4⟩
 refine sx_loop [0, 21] [] (fun _ : Nat => []) (fun pos => [(0, .sit s pos)]) (fun pos => pos ≤ s.size ∧ ∀ c ∈ s.data.toList.take pos, letB c = true) (fun pos => s.size - pos) 0 ⟨by omega, by simp⟩ trivial ⟨⟨rfl, rfl, rfl⟩, trivial⟩ rfl fun pos ⟨hp, hall⟩ => ?_
 refine EvIf.dec (fun h => ?_) (fun h => ?_)
 ·obtain ⟨hd, hw⟩ := dec_let s pos h
  have hat := at_data s h
  refine (letter_p _).cal fun q hq => ?_
  subst hq
  rw [hd]
  cases hl : letB (s[pos]'h) with
  | false =>
   refine EvIf.mk (fun _ => ?_) fun hh => by cases hh
   rw [name_bad (List.mem_of_getElem? hat) hl]; exact rfl
  | true =>
   refine EvIf.mk (fun hh => by cases hh) fun _ => ?_
   rw [hw hl]
   refine ⟨pos + 1, ⟨by omega, fun c hc => ?_⟩, (by dsimp only; omega), ?_⟩
   ·rw [take_more hat] at hc
    rcases List.mem_append.1 hc with hc | hc
    ·exact hall c hc
    ·rw [List.mem_singleton.1 hc]; exact hl
   ·refine ⟨?_, ?_, rfl⟩ <;> repeat' (first | exact True.intro | with_reducible rfl | exact rfl | refine And.intro ?_ ?_)
 ·rw [name_yes ok fun c hc => hall c (by rw [List.take_of_length_le (by simp; omega)]; exact hc)]
  exact rfl
theorem name_r (s : ByteArray) (hs : s.size ≤ maxZ) : FnV Tryz.prog 140 [.v (.string s)] fun g => g = .v (.bool (nameZ s)) := by
 refine fnG Tryz.func140 (by kernel_rfl) rfl (Nat.le_of_ble_eq_true (by kernel_rfl)) (by kernel_rfl) ?_
 unfold maxZ at hs
 refine sx_loop [0] [] (fun i : Nat => [(3, .v (.int .i64 i))]) (fun _ => []) (fun i => i ≤ s.size ∧ ∀ c ∈ s.data.toList.take i, letB c = true) (fun i => s.size - i) 0 ⟨by omega, by simp⟩ ⟨⟨rfl, rfl⟩, trivial⟩ trivial rfl fun i ⟨hi, hall⟩ => ?_
 refine EvIf.dec (fun h => ?_) (fun h => ?_)
 ·have hlen : (s.data.toList.length : Int) = s.size := by simp
  refine ⟨⟨by omega, by omega⟩, fun c hc => ?_⟩
  have hc : s.data.toList[i]? = some c := by simpa using hc
  refine (letter_r c).cal fun q hq => ?_
  subst hq
  cases hl : letB c with
  | false =>
   refine EvIf.mk (fun _ => ?_) fun hh => by cases hh
   rw [name_bad (List.mem_of_getElem? hc) hl]; exact rfl
  | true =>
   refine EvIf.mk (fun hh => by cases hh) fun _ => ⟨by omega, i + 1, ⟨by omega, fun c' hc' => ?_⟩, (by dsimp only; omega), ?_⟩
   ·rw [take_more hc] at hc'
    rcases List.mem_append.1 hc' with hc' | hc'
    ·exact hall c' hc'
    ·rw [List.mem_singleton.1 hc']; exact hl
   ·refine ⟨?_, ?_, rfl⟩ <;> repeat' (first | exact True.intro | with_reducible rfl | exact rfl | refine And.intro ?_ ?_)
 ·have ha : ∀ c ∈ s.data.toList, letB c = true := fun c hc => hall c (by rw [List.take_of_length_le (by simp; omega)]; exact hc)
  refine EvIf.dec (fun h1 => EvIf.dec (fun h2 => EvIf.bneS (fun h3 => ?_) (fun h3 => ?_)) (fun h2 => ?_)) (fun h1 => ?_)
  ·show G.v (.bool (!(s.toList == dot2.toList))) = _
   rw [bytes_eq]
   refine bool_eq (b := nameZ s) ⟨fun h4 => name_yes ⟨by omega, by omega, h3, by simpa using h4⟩ ha, fun h4 => ?_⟩
   unfold nameZ at h4
   simp at h4
   simp [h4]
  ·rw [name_no fun h => h.2.2.1 h3]; exact rfl
  ·rw [name_no fun h => h2 (by have := h.2.1; omega)]; exact rfl
  ·rw [name_no fun h => h1 (by have := h.1; show (s.size : Int) ≥ 1; omega)]; exact rfl
end Go.Proofs.YtalfffamppmooaaGreatDoor
namespace Go.Proofs.YtalfffamppmooaaGreatDoor
open Go.RowKit
set_option maxRecDepth 100000
theorem fnv_val {P : Program} {f : FuncId} {gs : List G} {Q : G → Prop} (hE : Ent P f) (h : ∀ I w vs, Mem I w → PW (VRep I) gs vs → Calls P f vs.toArray w fun e w' => ∃ x g, e = .returned x ∧ Q g ∧ VR (I.new w w') g x ∧ Below w.heap.size w w') : FnV P f gs Q :=
 ⟨hE, fun I w vs hM hp => (h I w vs hM hp).mono fun _ w' ⟨x, g, he, hq, hx, hb⟩ => ⟨x, g, I.new w w', he, hq, Imm.new_mem hM hb, hx, Imm.new_le hM, fun _ _ hlt => Imm.new_old hlt, hb⟩⟩
theorem cut_v (s : ByteArray) : FnV Tryz.prog 148 [gS s, gS rootS] fun g => g = .tup [gS ⟨(Lib.trimPrefix s.data.toList [47]).toArray⟩, .v (.bool (Lib.hasPrefix s.data.toList [47]))] :=
 fnv_val ⟨_, Tryz.func148, by kernel_rfl, by kernel_rfl⟩ fun _ w vs _ hp => by
  obtain ⟨x1, vs, rfl, h1, hp⟩ := hp.uncons
  obtain ⟨x2, vs, rfl, h2, hp⟩ := hp.uncons
  obtain rfl := hp.of_nil
  rw [vrep_v h1, vrep_v h2]
  exact (Any.strings_CutPrefix Tryz.lays103 s rootS w).mono fun e w' ⟨he, hw⟩ => ⟨_, _, he, rfl, vr_tup2 (.v _) (.v _), hw ▸ Below.refl _ _⟩
theorem strs_new {I : Imm} {w w' : World} (_ : Mem I w) {ss : List ByteArray} {t : TypeId} (hw : w' = w.alloc (.cells (ss.map Value.string).toArray t)) : VRep (I.new w w') (.sl (ss.map gSt)) (.slice (some ⟨w.heap.size, 0, none⟩) ss.length ss.length) := by
 subst hw
 refine vrep_new (B := w.heap.size + 1) (sz := 1) (fv := fun x => [.string x]) (fun i x hx => ⟨_, rfl, Nat.lt_succ_self _, fun j v hj => ?_⟩) (fun a e => by cases e; exact Nat.le_refl _) (fun a e => by cases e; rfl) (Nat.le_refl _) (fun e => by cases e) (fun _ => rfl) (fun x => .cons (.v _) .nil)
 cases j with
 | succ j => simp at hj
 | zero =>
  simp at hj
  subst hj
  rw [add_off, add_off]
  have e : (0 + i * 1 + 0 : Nat) = i := by omega
  rw [e, World.cell?_alloc_new]
  simp [hx]
theorem genSplit_v (s : ByteArray) (hs : s.size ≤ 2000000) : FnV Tryz.prog 175 [gS s, gS rootS, gI 0, gI (-1)] fun g => g = .sl ((splitZ s.data.toList).map gSt) :=
 fnv_val ⟨_, Tryz.func175, by kernel_rfl, by kernel_rfl⟩ fun I w vs hM hp => by
  obtain ⟨x1, vs, rfl, h1, hp⟩ := hp.uncons
  obtain ⟨x2, vs, rfl, h2, hp⟩ := hp.uncons
  obtain ⟨x3, vs, rfl, h3, hp⟩ := hp.uncons
  obtain ⟨x4, vs, rfl, h4, hp⟩ := hp.uncons
  obtain rfl := hp.of_nil
  rw [vrep_v h1, vrep_v h2, vrep_v h3, vrep_v h4]
  have hle := Lib.countB_le rootS (by decide) s.size s (Nat.le_refl _)
  have hlen := Lib.splitB_all rootS (by decide) 0 _ s rfl
  have c := Any.strings_genSplit_core Tryz.lays221 (by kernel_rfl) s rootS 0 (-1) (Lib.countB s rootS + 1) w (by omega) (by decide) (Nat.zero_le _) (fun x c _ => (Any.strings_Index_one Tryz.lays143 x 47 _).mono fun e w' ⟨he, hw⟩ => ⟨by rw [he, ← Lib.index_one]; rfl, hw⟩)
   ((Any.strings_Count_one Tryz.lays138 s 47 w).mono fun e w' ⟨he, hw⟩ => ⟨by
    rw [he]
    show Ending.returned (Value.int .i64 (s.data.toList.count 47 : Nat)) = .returned (.int .i64 (Lib.count s.data.toList [47] : Nat))
    rw [Lib.count_one], hw⟩) (by decide) (by decide) (by rw [if_pos (by decide)]; omega)
  rw [Nat.add_sub_cancel, hlen] at c
  have e2 : Lib.cellsOf (Lib.splitB rootS 0 (Lib.countB s rootS) s) (Lib.countB s rootS + 1) = ((Lib.splitB rootS 0 (Lib.countB s rootS) s).map Value.string).toArray := by rw [← hlen]; exact Lib.cellsOf_full _
  rw [e2, splitB_eq _ s rfl] at c
  rw [splitB_eq _ s rfl] at hlen
  refine c.mono fun e w' ⟨he, hw⟩ => ⟨_, _, he, rfl, ?_, hw ▸ (Below.refl _ _).alloc (Nat.le_refl _) _⟩
  rw [← hlen]
  exact strs_new hM hw
theorem split_v (s : ByteArray) (hs : s.size ≤ 2000000) : FnV Tryz.prog 149 [gS s, gS rootS] fun g => g = .sl ((splitZ s.data.toList).map gSt) := by
 refine fnG Tryz.func149 (by kernel_rfl) rfl (Nat.le_of_ble_eq_true (by kernel_rfl)) (by kernel_rfl) ?_
 refine (genSplit_v s hs).cal fun q hq => ?_
 subst hq
 exact rfl
theorem join_v (l : List ByteArray) (hl : l.length ≤ 2000000) (hs : (Lib.join (l.map (·.data.toList)) [47]).length ≤ 140737488355328) : FnV Tryz.prog 151 [.sl (l.map gSt), gS rootS] fun g => g = gS ⟨(Lib.join (l.map (·.data.toList)) [47]).toArray⟩ :=
 fnv_val ⟨_, Tryz.func151, by kernel_rfl, by kernel_rfl⟩ fun I w vs hM hp => by
  obtain ⟨x1, vs, rfl, h1, hp⟩ := hp.uncons
  obtain ⟨x2, vs, rfl, h2, hp⟩ := hp.uncons
  obtain rfl := hp.of_nil
  rw [vrep_v h2]
  cases hnil : l with
  | nil =>
   subst hnil
   cases h1 with
   | sl rows A c sz u hc hA hz h hu =>
    exact (Any.strings_Join_none Tryz.lays156 Tryz.Builder_Extra_156 A c rootS w).mono fun e w' ⟨he, hw⟩ => ⟨_, _, he, rfl, .v _, hw ▸ Below.refl _ _⟩
  | cons x0 l0 =>
   rw [← hnil]
   obtain ⟨A, c, rs, e, hc, hA, k1, k2, k3, k4⟩ := sl_rows (sz := 1) h1 hM (fun r hr => by obtain ⟨b, -, rfl⟩ := List.mem_map.1 hr; rfl)
   obtain ⟨a, rfl⟩ : ∃ a, A = some a := by
    cases A with
    | some a => exact ⟨a, rfl⟩
    | none => have := (hA rfl).1; rw [hnil] at this; simp at this
   have hcell : ∀ (j : Nat) y, l[j]? = some y → w.cell? (a.add j) = some (.string y) := fun j y hy => by
    have hi : (l.map gSt)[j]? = some (gSt y) := by rw [List.getElem?_map, hy]; rfl
    have hil := (List.getElem?_eq_some_iff.1 hi).1
    have hi' : j < rs.length := by omega
    have hp := k2 j _ _ hi (List.getElem?_eq_getElem hi')
    have hlen : rs[j].length = 1 := k3 _ (List.getElem_mem hi')
    have hv := hp.2 0 _ rs[j][0] (by rfl : (gSt y)[0]? = _) (List.getElem?_eq_getElem (by omega))
    have hc2 := (k4 a rfl (j * 1 + 0) _ (flat_get' k3 (List.getElem?_eq_getElem hi') (List.getElem?_eq_getElem (by omega : 0 < rs[j].length)))).2
    rw [vrep_v hv] at hc2
    simpa using hc2
   have hc0 := hcell 0 x0 (by rw [hnil]; rfl)
   have hsp := World.cell?_spot hc0
   have ha : a = ⟨a.block, a.off, none⟩ := by
    simp only [Addr.add, if_true] at hsp
    cases a; simp at hsp; subst hsp; rfl
   have hlt := World.block_lt_of_cell? w _ hc0
   rw [add_block] at hlt
   rw [e]
   have e3 : (l.map gSt).length = l.length := by simp
   rw [e3] at e hc ⊢
   rw [ha]
   exact (Any.strings_Join Tryz.lays156 Tryz.Builder_Extra_156 a.block a.off c l rootS w (fun j y hy => by
    have := hcell j y hy
    rw [ha, add_off] at this
    exact this) hlt (by omega) (by simpa using hc) hs).mono fun e w' ⟨he, hb⟩ => ⟨_, _, he, rfl, .v _, hb⟩
end Go.Proofs.YtalfffamppmooaaGreatDoor
namespace Go.Proofs.YtalfffamppmooaaGreatDoor
open Go.RowKit
set_option maxRecDepth 100000
theorem names_is {s : ByteArray} {r : List UInt8} (hd : s.data.toList = 47 :: r) (hs : s ≠ rootS) : namesZ s = if (splitZ r).all nameZ = true ∧ (splitZ r).length ≤ 8 then some (splitZ r) else none := by
 unfold namesZ namesR
 rw [if_neg hs, hd]
 show (if (if (splitZ r).all nameZ = true then splitZ r else []) ≠ [] ∧ (if (splitZ r).all nameZ = true then splitZ r else []).length ≤ 8 then some (if (splitZ r).all nameZ = true then splitZ r else []) else none) = _
 by_cases h : (splitZ r).all nameZ = true
 ·rw [if_pos h]
  by_cases h8 : (splitZ r).length ≤ 8
  ·rw [if_pos ⟨splitZ_ne r, h8⟩, if_pos ⟨h, h8⟩]
  ·rw [if_neg (fun e => h8 e.2), if_neg (fun e => h8 e.2)]
 ·rw [if_neg h, if_neg (fun e => e.1 rfl), if_neg (fun e => h e.1)]
theorem names_yes {s : ByteArray} {r : List UInt8} (hd : s.data.toList = 47 :: r) (hs : s ≠ rootS) (ha : ∀ x ∈ splitZ r, nameZ x = true) (h8 : (splitZ r).length ≤ 8) : nmZ s = splitZ r ∧ validZ s = true := by
 unfold nmZ validZ
 rw [names_is hd hs, if_pos ⟨List.all_eq_true.2 ha, h8⟩]
 exact ⟨rfl, rfl⟩
theorem names_not {s : ByteArray} (h : namesZ s = none) : nmZ s = [] ∧ validZ s = false := by unfold nmZ validZ; rw [h]; exact ⟨rfl, rfl⟩
theorem names_pre {s : ByteArray} (hs : s ≠ rootS) (h : ∀ r, s.data.toList ≠ 47 :: r) : namesR s = [] ∧ namesZ s = none := by
 have e : namesR s = [] := by
  unfold namesR
  split
  ·next r hr => exact absurd hr (h r)
  ·rfl
 exact ⟨e, by unfold namesZ; rw [if_neg hs, e, if_neg (fun e => e.1 rfl)]⟩
theorem names_root : namesR rootS = [] := by decide
theorem splF_small (r : List UInt8) : (∀ x ∈ (splF r).1, x.size ≤ r.length) ∧ (splF r).1.length + (splF r).2.length ≤ r.length ∧ ∃ p, r = p ++ (splF r).2 := by
 induction h : r.length generalizing r with
 | zero => rw [List.eq_nil_of_length_eq_zero h]; exact ⟨fun x hx => (by cases hx), Nat.le_refl _, [], rfl⟩
 | succ n ih =>
  have hne : r ≠ [] := fun e => by rw [e] at h; cases h
  have e := (List.dropLast_concat_getLast hne).symm
  obtain ⟨h1, h2, p, h3⟩ := ih r.dropLast (by simp [h])
  have hl : r.dropLast.length = n := by simp [h]
  rw [e, splF_more]
  revert h1 h2 h3
  rw [← hl]
  generalize r.getLast hne = c
  generalize hq : r.dropLast = q
  intro h1 h2 h3
  unfold spl
  split
  ·next hc =>
   refine ⟨fun x hx => ?_, by simp; omega, q ++ [c], by simp⟩
   rcases List.mem_append.1 hx with hx | hx
   ·have := h1 x hx; omega
   ·rw [List.mem_singleton.1 hx]
    show (splF q).2.toArray.size ≤ _
    simp; omega
  ·exact ⟨fun x hx => Nat.le_succ_of_le (h1 x hx), by simp; omega, p, by rw [← List.append_assoc, ← h3]⟩
theorem splitZ_small (r : List UInt8) : (splitZ r).length ≤ r.length + 1 ∧ ∀ x ∈ splitZ r, x.size ≤ r.length := by
 obtain ⟨h1, h2, -⟩ := splF_small r
 unfold splitZ
 refine ⟨by simp; omega, fun x hx => ?_⟩
 rcases List.mem_append.1 hx with hx | hx
 ·exact h1 x hx
 ·rw [List.mem_singleton.1 hx]
  show (splF r).2.toArray.size ≤ _
  simp; omega
theorem pre_iff (l : List UInt8) : Lib.hasPrefix l [47] = true ↔ ∃ r, l = 47 :: r ∧ Lib.trimPrefix l [47] = r := by
 unfold Lib.trimPrefix Lib.hasPrefix
 cases l with
 | nil => simp
 | cons c l =>
  by_cases h : c = 47
  ·subst h; simp
  ·have h2 : ¬ 47 = c := fun e => h e.symm
   simp [h, h2]
theorem size_len (s : ByteArray) : s.data.toList.length = s.size := by simp
theorem names_p (s : ByteArray) (hs : s.size ≤ maxZ) : FnV Tryz.prog 126 [gS s] fun g => g = .tup [.sl ((nmZ s).map gSt), .v (.bool (validZ s))] := by
 refine fnG Tryz.func126 (by kernel_rfl) rfl (Nat.le_of_ble_eq_true (by kernel_rfl)) (by kernel_rfl) ?_
 unfold maxZ at hs
 have hl := size_len s
 refine EvIf.beqS (fun (h : s = rootS) => ?_) (fun (h : s ≠ rootS) => (cut_v s).cal fun q hq => ?_)
 ·subst h; rw [nm_root, valid_root]; exact rfl
 subst hq
 refine (split_v _ (by
  show (Lib.trimPrefix s.data.toList [47]).toArray.size ≤ _
  unfold Lib.trimPrefix
  split <;> simp <;> omega)).cal fun q hq => ?_
 subst hq
 cases hb : Lib.hasPrefix s.data.toList [47] with
 | false =>
  refine EvIf.mk (fun _ => ?_) fun hh => by cases hh
  obtain ⟨e1, e2⟩ := names_not (names_pre h fun r hr => by rw [(pre_iff _).2 ⟨r, hr, by rw [hr]; rfl⟩] at hb; cases hb).2
  rw [e1, e2]; exact rfl
 | true =>
  refine EvIf.mk (fun hh => by cases hh) fun _ => ?_
  obtain ⟨r, hd, ht⟩ := (pre_iff _).1 hb
  rw [ht, ba_data]
  have hr : r.length + 1 = s.size := by rw [← hl, hd]; rfl
  obtain ⟨k1, k2⟩ := splitZ_small r
  have no : ¬ ((splitZ r).all nameZ = true ∧ (splitZ r).length ≤ 8) → G.tup [.sl [], .v (.bool false)] = .tup [.sl ((nmZ s).map gSt), .v (.bool (validZ s))] := fun hn => by
   obtain ⟨e1, e2⟩ := names_not (s := s) (by rw [names_is hd h, if_neg hn])
   rw [e1, e2]; rfl
  refine EvIf.dec (fun h8 => no fun e => ?_) (fun h8 => ?_)
  ·have := e.2; simp at h8; omega
  refine sx_loop [6, 25, 26] [] (fun i : Nat => [(27, .v (.int .i64 i))]) (fun _ => []) (fun i => i ≤ (splitZ r).length ∧ ∀ x ∈ (splitZ r).take i, nameZ x = true) (fun i => (splitZ r).length - i) 0 ⟨by omega, by simp⟩ ⟨⟨rfl, rfl⟩, trivial⟩ trivial rfl fun i ⟨hi, hall⟩ => ?_
  refine EvIf.dec (fun h9 => ?_) (fun h9 => ?_)
  ·refine EvIdx.of (by simpa using h9) fun x hx => ?_
   have hlt := lt_of_at hx
   refine (name_p x).cal fun q hq => ?_
   subst hq
   cases hn : nameZ x with
   | false =>
    refine EvIf.mk (fun _ => no fun e => ?_) fun hh => by cases hh
    have := List.all_eq_true.1 e.1 x (List.mem_of_getElem? hx)
    rw [hn] at this; cases this
   | true =>
    refine EvIf.mk (fun hh => by cases hh) fun _ => ⟨by omega, i + 1, ⟨by omega, fun y hy => ?_⟩, (by dsimp only; omega), ?_⟩
    ·rw [take_more hx] at hy
     rcases List.mem_append.1 hy with hy | hy
     ·exact hall y hy
     ·rw [List.mem_singleton.1 hy]; exact hn
    ·refine ⟨?_, ?_, rfl⟩ <;> repeat' (first | exact True.intro | with_reducible rfl | exact rfl | refine And.intro ?_ ?_)
  ·obtain ⟨e1, e2⟩ := names_yes hd h (fun x hx => hall x (by rw [List.take_of_length_le (by simp at h9; omega)]; exact hx)) (by simp at h8; omega)
   rw [e1, e2]; exact rfl
theorem base_p (s : ByteArray) (hs : s.size ≤ maxZ) : FnV Tryz.prog 132 [gS s] fun g => g = gS (baseZ s) := by
 refine fnG Tryz.func132 (by kernel_rfl) rfl (Nat.le_of_ble_eq_true (by kernel_rfl)) (by kernel_rfl) ?_
 refine (names_p s hs).cal fun q hq => ?_
 subst hq
 unfold baseZ
 refine EvIf.beq (fun h => ?_) (fun h => ?_)
 ·rw [List.eq_nil_of_length_eq_zero (by simpa using h : (nmZ s).length = 0)]; exact rfl
 ·have hne : nmZ s ≠ [] := fun e => h (by rw [e]; rfl)
  have hp := List.length_pos_iff.2 hne
  have hsm : (nmZ s).length ≤ 2000000 := by
   unfold nmZ
   cases hz : namesZ s with
   | none => simp
   | some l =>
    rcases namesZ_some hz with ⟨-, e⟩ | ⟨-, -, -, e⟩
    ·rw [e]; simp
    ·show l.length ≤ _; omega
  refine ⟨by simp; omega, EvIdx.atI (x := (nmZ s).getLast hne) (by simp; omega) (by
   rw [List.length_map, show ((nmZ s).length - 1 : Int).toNat = (nmZ s).length - 1 by omega, List.getElem?_eq_getElem (by omega), List.getLast_eq_getElem]) ?_⟩
  rw [List.getLast?_eq_some_getLast hne]; exact rfl
theorem valid_p (s : ByteArray) (hs : s.size ≤ maxZ) : FnV Tryz.prog 95 [gS s] fun g => g = .v (.bool (validZ s)) := by
 refine fnG Tryz.func95 (by kernel_rfl) rfl (Nat.le_of_ble_eq_true (by kernel_rfl)) (by kernel_rfl) ?_
 refine (names_p s hs).cal fun q hq => ?_
 subst hq
 exact rfl
theorem nm_small (s : ByteArray) : (nmZ s).length ≤ 8 := by
 unfold nmZ
 cases hz : namesZ s with
 | none => simp
 | some l =>
  rcases namesZ_some hz with ⟨-, e⟩ | ⟨-, -, -, e⟩
  ·rw [e]; simp
  ·exact e
theorem joinT (l : List ByteArray) : (joinZ l).data.toList = Lib.joinTail [47] (l.map (·.data.toList)) := by
 induction h : l.length generalizing l with
 | zero => rw [List.eq_nil_of_length_eq_zero h]; rfl
 | succ n ih =>
  have hne : l ≠ [] := fun e => by rw [e] at h; cases h
  rw [← List.dropLast_concat_getLast hne, join_more, ba_app, ba_app, ih _ (by simp [h])]
  unfold Lib.joinTail
  simp [rootS]
theorem path_join (l : List ByteArray) : pathZ l = rootS ++ ⟨(Lib.join (l.map (·.data.toList)) [47]).toArray⟩ := by
 refine data_inj ?_
 rw [ba_app, ba_data]
 unfold pathZ
 cases l with
 | nil => simp [Lib.join_nil]
 | cons x l =>
  rw [if_neg (by simp), joinT, List.map_cons, Lib.join_cons]
  unfold Lib.joinTail
  simp [rootS]
theorem nm_size {s : ByteArray} {x : ByteArray} (h : x ∈ nmZ s) : x.size ≤ 60 := by
 unfold nmZ at h
 cases hz : namesZ s with
 | none => rw [hz] at h; cases h
 | some l =>
  rw [hz] at h
  have h : x ∈ l := h
  rcases namesZ_some hz with ⟨-, e⟩ | ⟨-, e, hne, -⟩
  ·rw [e] at h; cases h
  ·have : nameZ x = true := by
    unfold namesR at e
    split at e
    ·split at e
     ·next ha => rw [e] at h; exact List.all_eq_true.1 ha x h
     ·exact absurd e hne
    ·exact absurd e hne
   unfold nameZ at this
   simp only [Bool.and_eq_true, decide_eq_true_eq] at this
   exact this.2.2.1
theorem tail_len {l : List ByteArray} (h : ∀ x ∈ l, x.size ≤ 60) : (Lib.joinTail [47] (l.map (·.data.toList))).length ≤ 61 * l.length := by
 induction l with
 | nil => simp [Lib.joinTail]
 | cons x l ih =>
  have h1 := ih fun y hy => h y (by simp [hy])
  have h2 := h x (by simp)
  have h3 := size_len x
  unfold Lib.joinTail at h1 ⊢
  simp only [List.map_cons, List.flatten_cons, List.length_append, List.length_cons, List.length_nil] at h1 ⊢
  omega
theorem join_len {l : List ByteArray} (h : ∀ x ∈ l, x.size ≤ 60) : (Lib.join (l.map (·.data.toList)) [47]).length ≤ 61 * l.length := by
 cases l with
 | nil => simp [Lib.join_nil]
 | cons x l =>
  rw [List.map_cons, Lib.join_cons, List.length_append]
  have h1 := tail_len (l := l) fun y hy => h y (by simp [hy])
  have h2 := h x (by simp)
  have h3 := size_len x
  simp only [List.length_cons]
  omega
theorem map_take' {α β : Type} (f : α → β) (l : List α) (n : Nat) : (l.map f).take n = (l.take n).map f := by simp [List.map_take]
theorem parent_p (s : ByteArray) (hs : s.size ≤ maxZ) : FnV Tryz.prog 127 [gS s] fun g => g = .tup [gS (parentZ s).1, .v (.bool (parentZ s).2)] := by
 refine fnG Tryz.func127 (by kernel_rfl) rfl (Nat.le_of_ble_eq_true (by kernel_rfl)) (by kernel_rfl) ?_
 refine (names_p s hs).cal fun q hq => ?_
 subst hq
 have h8 := nm_small s
 unfold parentZ
 refine EvIf.beq (fun h => ?_) (fun h => ?_)
 ·rw [if_pos (List.eq_nil_of_length_eq_zero (by simpa using h : (nmZ s).length = 0))]; exact rfl
 ·have hne : nmZ s ≠ [] := fun e => h (by rw [e]; rfl)
  have hp := List.length_pos_iff.2 hne
  rw [if_neg hne]
  refine ⟨by simp; omega, ⟨by simp; omega, ⟨fun r hr => by obtain ⟨b, -, rfl⟩ := List.mem_map.1 hr; rfl, ?_⟩⟩⟩
  have e : subL ((nmZ s).map gSt) (0 : Int).toNat ((((nmZ s).map gSt).length : Int) - 1).toNat = (nmZ s).dropLast.map gSt := by
   unfold subL
   rw [show (0 : Int).toNat = 0 from rfl, List.drop_zero, map_take', List.dropLast_eq_take, List.length_map, show ((nmZ s).length - 1 : Int).toNat = (nmZ s).length - 1 by omega]
  rw [e]
  have h60 : ∀ x ∈ (nmZ s).dropLast, x.size ≤ 60 := fun x hx => nm_size (List.dropLast_subset _ hx)
  have hj := join_len h60
  have hd : (nmZ s).dropLast.length ≤ 8 := by simp; omega
  refine (join_v _ (by omega) (by omega)).cal fun q hq => ?_
  subst hq
  rw [path_join]
  refine ⟨?_, rfl⟩
  have e2 : (⟨(Lib.join ((nmZ s).dropLast.map (·.data.toList)) [47]).toArray⟩ : ByteArray).size = (Lib.join ((nmZ s).dropLast.map (·.data.toList)) [47]).length := rfl
  rw [e2]
  have e3 : (⟨#[47]⟩ : ByteArray).size = 1 := rfl
  rw [e3]
  omega
end Go.Proofs.YtalfffamppmooaaGreatDoor
namespace Go.Proofs.YtalfffamppmooaaGreatDoor
open Go.RowKit
set_option maxRecDepth 100000
structure NmAt (r : List UInt8) (i from' : Nat) (out : List ByteArray) : Prop where
 i1 : 1 ≤ i
 in' : i ≤ r.length + 1
 f1 : 1 ≤ from'
 out : out = (splF (r.take (i - 1))).1
 len : from' + (splF (r.take (i - 1))).2.length = i
structure NmInv (r : List UInt8) (x : Nat × Nat × List ByteArray) : Prop where
 run : NmAt r x.1 x.2.1 x.2.2 ∨ (x.1 = r.length + 2 ∧ x.2.2 = splitZ r)
theorem NmAt.piece {r : List UInt8} {i f : Nat} {out : List ByteArray} (h : NmAt r i f out) {s : ByteArray} (hd : s.data.toList = 47 :: r) : s.extract f i = ⟨(splF (r.take (i - 1))).2.toArray⟩ := by
 refine data_inj ?_
 rw [Lib.extract_data, hd, ba_data]
 obtain ⟨-, -, p, hp⟩ := splF_small (r.take (i - 1))
 have hl : (r.take (i - 1)).length = i - 1 := by have := h.in'; rw [List.length_take]; omega
 have h1 := h.i1
 have h2 := h.f1
 have h3 := h.len
 have e : r = r.take (i - 1) ++ r.drop (i - 1) := (List.take_append_drop _ _).symm
 generalize hc : (splF (r.take (i - 1))).2 = c at *
 have hpl : p.length + c.length = i - 1 := by rw [← hl, hp]; simp
 rw [e, hp]
 obtain ⟨f', rfl⟩ : ∃ f', f = f' + 1 := ⟨f - 1, by omega⟩
 rw [List.drop_succ_cons, List.append_assoc, List.drop_append, show f' = p.length by omega, List.drop_length, List.nil_append, Nat.sub_self, List.drop_zero, List.take_append, List.take_of_length_le (by omega), show i - (p.length + 1) - c.length = 0 by omega]
 simp
theorem NmAt.small {r : List UInt8} {i f : Nat} {out : List ByteArray} (h : NmAt r i f out) : out.length ≤ i := by
 have := (splF_small (r.take (i - 1))).2.1
 rw [← h.out, List.length_take] at this
 have := h.i1
 omega
theorem NmAt.step {r : List UInt8} {i f : Nat} {out : List ByteArray} (h : NmAt r i f out) {c : UInt8} (hc : r[i - 1]? = some c) : (c = 47 → NmAt r (i + 1) (i + 1) (out ++ [⟨(splF (r.take (i - 1))).2.toArray⟩])) ∧ (c ≠ 47 → NmAt r (i + 1) f out) := by
 have hi := (List.getElem?_eq_some_iff.1 hc).1
 have h1 := h.i1
 have e : r.take (i + 1 - 1) = r.take (i - 1) ++ [c] := by
  have := take_more hc
  rwa [show i - 1 + 1 = i + 1 - 1 by omega] at this
 have h3 := h.len
 refine ⟨fun h47 => ⟨by omega, by omega, by omega, ?_, ?_⟩, fun h47 => ⟨by omega, by omega, h.f1, ?_, ?_⟩⟩
 ·rw [e, splF_more]; unfold spl; rw [if_pos h47, h.out]
 ·rw [e, splF_more]; unfold spl; rw [if_pos h47]; rfl
 ·rw [e, splF_more]; unfold spl; rw [if_neg h47, h.out]
 ·rw [e, splF_more]; unfold spl; rw [if_neg h47]; simp; omega
theorem NmAt.last {r : List UInt8} {f : Nat} {out : List ByteArray} (h : NmAt r (r.length + 1) f out) : out ++ [⟨(splF (r.take (r.length + 1 - 1))).2.toArray⟩] = splitZ r := by
 rw [h.out, show r.length + 1 - 1 = r.length by omega, List.take_length]; rfl
set_option maxHeartbeats 1000000 in
theorem names_r (s : ByteArray) (hs : s.size ≤ maxZ) : FnV Tryz.prog 115 [gS s] fun g => g = .tup [.sl ((namesR s).map gSt), .v (.bool (validZ s))] := by
 refine fnG Tryz.func115 (by kernel_rfl) rfl (Nat.le_of_ble_eq_true (by kernel_rfl)) (by kernel_rfl) ?_
 unfold maxZ at hs
 have hl := size_len s
 refine EvIf.beqS (fun (h : s = rootS) => ?_) (fun (h : s ≠ rootS) => ?_)
 ·subst h; rw [names_root, valid_root]; exact rfl
 have no : (∀ r, s.data.toList ≠ 47 :: r) → G.tup [.sl [], .v (.bool false)] = .tup [.sl ((namesR s).map gSt), .v (.bool (validZ s))] := fun hn => by
  obtain ⟨e1, e2⟩ := names_pre h hn
  rw [e1, (names_not e2).2]; rfl
 refine EvIf.beqS (fun h0 => no fun r hr => ?_) (fun h0 => ?_)
 ·rw [h0] at hr; cases hr
 have hpos : 0 < s.size := Nat.pos_of_ne_zero fun e => h0 (data_inj (show s.data.toList = [] from List.eq_nil_of_length_eq_zero (by simpa using e)))
 refine ⟨⟨by omega, by omega⟩, fun c hc => EvIf.bne (fun h1 => no fun r hr => ?_) (fun h1 => ?_)⟩
 ·have hc : s.data.toList[0]? = some c := hc
  rw [hr] at hc
  cases hc
  exact h1 rfl
 have hc : s.data.toList[0]? = some c := hc
 obtain ⟨r, hd⟩ : ∃ r, s.data.toList = 47 :: r := by
  cases hq : s.data.toList with
  | nil => rw [hq] at hc; cases hc
  | cons c' r =>
   rw [hq] at hc
   cases hc
   have : c = 47 := UInt8.toNat_inj.1 (by have : (c.toNat : Int) = 47 := h1; show c.toNat = 47; omega)
   exact ⟨r, by rw [this]⟩
 have hr : r.length + 1 = s.size := by rw [← hl, hd]; rfl
 obtain ⟨k1, k2⟩ := splitZ_small r
 refine sx_loop [0] [] (fun x : Nat × Nat × List ByteArray => [(6, .v (.int .i64 x.1)), (5, .v (.int .i64 x.2.1)), (4, .osl 1)]) (fun x => [(1, .slc (x.2.2.map gSt) 9 1)]) (NmInv r) (fun x => r.length + 2 - x.1) (1, 1, []) ⟨.inl (show NmAt r 1 1 [] from ⟨by omega, by omega, by omega, rfl, rfl⟩)⟩ ⟨⟨rfl, rfl⟩, ⟨rfl, rfl⟩, ⟨rfl, rfl⟩, trivial⟩ ⟨⟨rfl, rfl, rfl⟩, trivial⟩ rfl fun ⟨i, f, out⟩ ⟨hI⟩ => ?_
 dsimp only at hI
 refine EvIf.dec (fun h2 => ?_) (fun h2 => ?_)
 ·rcases hI with hI | ⟨hI, -⟩
  ·have hsm := hI.small
   have i1 := hI.i1
   have f1 := hI.f1
   have hlen := hI.len
   have hpc := hI.piece hd
   refine EvIf.beq (fun h3 => ?_) (fun h3 => ?_)
   ·refine ⟨⟨by dsimp only; omega, by dsimp only; omega, by dsimp only; omega⟩, ⟨by simp; omega, ⟨by dsimp only; omega, ⟨by dsimp only; omega, (i + 1, i + 1, splitZ r), ⟨.inr ⟨by dsimp only; omega, rfl⟩⟩, (by dsimp only; omega), ?_⟩⟩⟩⟩
    obtain rfl : i = r.length + 1 := by omega
    refine ⟨?_, ?_, rfl⟩ <;> repeat' (first | exact True.intro | with_reducible rfl | exact rfl | refine And.intro ?_ ?_)
    refine eqR ?_
    have e := hI.last
    rw [← hpc] at e
    rw [← e, List.map_append]; rfl
   ·refine ⟨⟨by omega, by omega⟩, fun c2 hc2 => ?_⟩
    have hc2 : s.data.toList[i]? = some c2 := by simpa using hc2
    have hc3 : r[i - 1]? = some c2 := by
     rw [hd] at hc2
     obtain ⟨j, rfl⟩ : ∃ j, i = j + 1 := ⟨i - 1, by omega⟩
     simpa using hc2
    obtain ⟨s1, s2⟩ := hI.step hc3
    refine EvIf.beq (fun h4 => ?_) (fun h4 => ?_)
    ·have h47 : c2 = 47 := UInt8.toNat_inj.1 (by have : (c2.toNat : Int) = 47 := h4; show c2.toNat = 47; omega)
     have hn := s1 h47
     rw [← hpc] at hn
     refine ⟨⟨by dsimp only; omega, by dsimp only; omega, by dsimp only; omega⟩, ⟨by simp; omega, ⟨by dsimp only; omega, ⟨by dsimp only; omega, (i + 1, i + 1, out ++ [s.extract f i]), ⟨.inl hn⟩, (by dsimp only; omega), ?_⟩⟩⟩⟩
     refine ⟨?_, ?_, rfl⟩ <;> repeat' (first | exact True.intro | with_reducible rfl | exact rfl | refine And.intro ?_ ?_)
     exact eqR (by simp [gSt])
    ·have h47 : c2 ≠ 47 := fun e => h4 (by rw [e]; rfl)
     refine ⟨by omega, (i + 1, f, out), ⟨.inl (s2 h47)⟩, (by dsimp only; omega), ?_⟩
     refine ⟨?_, ?_, rfl⟩ <;> repeat' (first | exact True.intro | with_reducible rfl | exact rfl | refine And.intro ?_ ?_)
  ·exact absurd h2 (by omega)
 ·have he : out = splitZ r := by
   rcases hI with hI | ⟨-, hI⟩
   ·have := hI.in'; exact absurd h2 (by omega)
   ·exact hI
  subst he
  refine sx_loop [4] [1] (fun i : Nat => [(7, .v (.int .i64 i))]) (fun _ => []) (fun i => i ≤ (splitZ r).length ∧ ∀ x ∈ (splitZ r).take i, nameZ x = true) (fun i => (splitZ r).length - i) 0 ⟨by omega, by simp⟩ ⟨⟨rfl, rfl⟩, trivial⟩ trivial rfl fun i ⟨hi, hall⟩ => ?_
  refine EvIf.dec (fun h9 => ?_) (fun h9 => ?_)
  ·obtain ⟨x, hx⟩ : ∃ x, (splitZ r)[i]? = some x := ⟨_, List.getElem?_eq_getElem (by simpa using h9)⟩
   have hlt := lt_of_at hx
   refine ⟨⟨by omega, by simpa using h9⟩, EvIdx.at hx ?_⟩
   refine (name_r x (by have := k2 x (List.mem_of_getElem? hx); unfold maxZ; omega)).cal fun q hq => ?_
   subst hq
   cases hn : nameZ x with
   | false =>
    refine EvIf.mk (fun _ => ?_) fun hh => by cases hh
    have hna : ¬ (splitZ r).all nameZ = true := fun e => by rw [List.all_eq_true.1 e x (List.mem_of_getElem? hx)] at hn; cases hn
    have e1 : namesR s = [] := by unfold namesR; rw [hd]; exact if_neg hna
    have e2 : validZ s = false := (names_not (by rw [names_is hd h, if_neg fun e => hna e.1])).2
    rw [e1, e2]; exact rfl
   | true =>
    refine EvIf.mk (fun hh => by cases hh) fun _ => ⟨by omega, i + 1, ⟨by omega, fun y hy => ?_⟩, (by dsimp only; omega), ?_⟩
    ·rw [take_more hx] at hy
     rcases List.mem_append.1 hy with hy | hy
     ·exact hall y hy
     ·rw [List.mem_singleton.1 hy]; exact hn
    ·refine ⟨?_, ?_, rfl⟩ <;> repeat' (first | exact True.intro | with_reducible rfl | exact rfl | refine And.intro ?_ ?_)
  ·have ha : (splitZ r).all nameZ = true := List.all_eq_true.2 fun x hx => hall x (by rw [List.take_of_length_le (by simp at h9; omega)]; exact hx)
   have e1 : namesR s = splitZ r := by unfold namesR; rw [hd]; exact if_pos ha
   rw [e1]
   have e2 : validZ s = decide ((splitZ r).length ≤ 8) := by
    unfold validZ
    rw [names_is hd h]
    by_cases h8 : (splitZ r).length ≤ 8
    ·rw [if_pos ⟨ha, h8⟩, decide_eq_true h8]; rfl
    ·rw [if_neg fun e => h8 e.2, decide_eq_false h8]; rfl
   rw [e2]
   show G.tup [_, .v (.bool (decide _))] = _
   have e3 : decide ((((splitZ r).map gSt).length : Int) ≤ 8) = decide ((splitZ r).length ≤ 8) := by
    rw [List.length_map]
    exact decide_eq_decide.2 (by omega)
   rw [e3]
theorem names_nm {s : ByteArray} (h : validZ s = true) : namesR s = nmZ s := by
 unfold validZ at h
 obtain ⟨l, hl⟩ := Option.isSome_iff_exists.1 h
 unfold nmZ
 rw [hl]
 rcases namesZ_some hl with ⟨e1, e2⟩ | ⟨-, e2, -⟩
 ·rw [e1, e2, names_root]; rfl
 ·exact e2.symm
theorem nm_not {s : ByteArray} (h : validZ s = false) : nmZ s = [] := by
 unfold validZ at h
 unfold nmZ
 cases hz : namesZ s with
 | none => rfl
 | some l => rw [hz] at h; cases h
theorem valid_r (s : ByteArray) (hs : s.size ≤ maxZ) : FnV Tryz.prog 77 [gS s] fun g => g = .v (.bool (validZ s)) := by
 refine fnG Tryz.func77 (by kernel_rfl) rfl (Nat.le_of_ble_eq_true (by kernel_rfl)) (by kernel_rfl) ?_
 refine (names_r s hs).cal fun q hq => ?_
 subst hq
 exact rfl
theorem base_r (s : ByteArray) (hs : s.size ≤ maxZ) : FnV Tryz.prog 183 [gS s] fun g => g = gS (baseZ s) := by
 refine fnG Tryz.func183 (by kernel_rfl) rfl (Nat.le_of_ble_eq_true (by kernel_rfl)) (by kernel_rfl) ?_
 refine (names_r s hs).cal fun q hq => ?_
 subst hq
 unfold baseZ
 have h8 := nm_small s
 cases hv : validZ s with
 | false =>
  refine EvIf.mk (fun _ => ?_) fun hh => by cases hh
  rw [nm_not hv]; exact rfl
 | true =>
  refine EvIf.mk (fun hh => by cases hh) fun _ => ?_
  rw [names_nm hv]
  refine EvIf.beq (fun h => ?_) (fun h => ?_)
  ·rw [List.eq_nil_of_length_eq_zero (by simpa using h : (nmZ s).length = 0)]; exact rfl
  ·have hne : nmZ s ≠ [] := fun e => h (by rw [e]; rfl)
   have hp := List.length_pos_iff.2 hne
   refine ⟨by simp; omega, EvIdx.atI (x := (nmZ s).getLast hne) (by simp; omega) (by
    rw [List.length_map, show ((nmZ s).length - 1 : Int).toNat = (nmZ s).length - 1 by omega, List.getElem?_eq_getElem (by omega), List.getLast_eq_getElem]) ?_⟩
   rw [List.getLast?_eq_some_getLast hne]; exact rfl
theorem join_take (l : List ByteArray) (h : ∀ x ∈ l, x.size ≤ 60) : (joinZ l).size ≤ 61 * l.length := by
 rw [← size_len, joinT]; exact tail_len h
theorem path_r (l : List ByteArray) (h60 : ∀ x ∈ l, x.size ≤ 60) (hl : l.length ≤ 1000) : FnV Tryz.prog 116 [.sl (l.map gSt)] fun g => g = gS (pathZ l) := by
 refine fnG Tryz.func116 (by kernel_rfl) rfl (Nat.le_of_ble_eq_true (by kernel_rfl)) (by kernel_rfl) ?_
 refine EvIf.beq (fun h => ?_) (fun h => ?_)
 ·rw [List.eq_nil_of_length_eq_zero (by simpa using h : l.length = 0)]; exact rfl
 have hne : l ≠ [] := fun e => h (by rw [e]; rfl)
 unfold pathZ
 rw [if_neg hne]
 refine sx_loop [0] [] (fun i : Nat => [(4, .v (.int .i64 i)), (3, gS (joinZ (l.take i)))]) (fun _ => []) (fun i => i ≤ l.length) (fun i => l.length - i) 0 (by omega) ⟨⟨rfl, rfl⟩, ⟨rfl, rfl⟩, trivial⟩ trivial rfl fun i hi => ?_
 have hj := join_take (l.take i) fun x hx => h60 x (List.take_subset _ _ hx)
 have hjl : (l.take i).length ≤ 1000 := by simp; omega
 refine EvIf.dec (fun h1 => ?_) (fun h1 => ?_)
 ·refine ⟨?_, EvIdx.of (by simpa using h1) fun x hx => ?_⟩
  ·have e3 : (⟨#[47]⟩ : ByteArray).size = 1 := rfl
   rw [e3]; omega
  ·have hx60 := h60 x (List.mem_of_getElem? hx)
   refine ⟨?_, ⟨by omega, i + 1, by have := lt_of_at hx; omega, (by have := lt_of_at hx; dsimp only; omega), ?_⟩⟩
   ·rw [ByteArray.size_append]
    have e3 : (⟨#[47]⟩ : ByteArray).size = 1 := rfl
    rw [e3]; omega
   ·refine ⟨?_, ?_, rfl⟩ <;> repeat' (first | exact True.intro | with_reducible rfl | exact rfl | refine And.intro ?_ ?_)
    have e : joinZ (l.take (i + 1)) = joinZ (l.take i) ++ rootS ++ x := by rw [take_more hx, join_more]
    exact congrArg (fun b => some (gS b)) e.symm
 ·rw [List.take_of_length_le (by simp at h1; omega)]; exact rfl
theorem parent_r (s : ByteArray) (hs : s.size ≤ maxZ) : FnV Tryz.prog 78 [gS s] fun g => g = .tup [gS (parentZ s).1, .v (.bool (parentZ s).2)] := by
 refine fnG Tryz.func78 (by kernel_rfl) rfl (Nat.le_of_ble_eq_true (by kernel_rfl)) (by kernel_rfl) ?_
 refine (names_r s hs).cal fun q hq => ?_
 subst hq
 have h8 := nm_small s
 unfold parentZ
 cases hv : validZ s with
 | false =>
  refine EvIf.mk (fun _ => ?_) fun hh => by cases hh
  rw [nm_not hv, if_pos rfl]; exact rfl
 | true =>
  refine EvIf.mk (fun hh => by cases hh) fun _ => ?_
  rw [names_nm hv]
  refine EvIf.beq (fun h => ?_) (fun h => ?_)
  ·rw [if_pos (List.eq_nil_of_length_eq_zero (by simpa using h : (nmZ s).length = 0))]; exact rfl
  ·have hne : nmZ s ≠ [] := fun e => h (by rw [e]; rfl)
   have hp := List.length_pos_iff.2 hne
   rw [if_neg hne]
   refine ⟨by simp; omega, ⟨by simp; omega, ⟨fun r hr => by obtain ⟨b, -, rfl⟩ := List.mem_map.1 hr; rfl, ?_⟩⟩⟩
   have e : subL ((nmZ s).map gSt) (0 : Int).toNat ((((nmZ s).map gSt).length : Int) - 1).toNat = (nmZ s).dropLast.map gSt := by
    unfold subL
    rw [show (0 : Int).toNat = 0 from rfl, List.drop_zero, map_take', List.dropLast_eq_take, List.length_map, show ((nmZ s).length - 1 : Int).toNat = (nmZ s).length - 1 by omega]
   rw [e]
   refine (path_r _ (fun x hx => nm_size (List.dropLast_subset _ hx)) (by simp; omega)).cal fun q hq => ?_
   subst hq
   exact rfl
end Go.Proofs.YtalfffamppmooaaGreatDoor
namespace Go.Proofs.YtalfffamppmooaaGreatDoor
open Go.RowKit
set_option maxRecDepth 100000
def cD (n : Int) (k j : Nat) : G := .v (.int .u8 (if 10 ≤ k + j then ((digZ n j).toNat : Int) else 0))
def cDs (n : Int) (k : Nat) : List G := [cD n k 0, cD n k 1, cD n k 2, cD n k 3, cD n k 4, cD n k 5, cD n k 6, cD n k 7, cD n k 8, cD n k 9]
def rDs (n : Int) (k : Nat) : List (List G) := [[cD n k 0], [cD n k 1], [cD n k 2], [cD n k 3], [cD n k 4], [cD n k 5], [cD n k 6], [cD n k 7], [cD n k 8], [cD n k 9]]
theorem dig_eq (m k : Nat) (hk : k ≤ 9) : (48 + ((m / 10 ^ k : Nat) : Int).tmod 10) % 256 = ((digZ m (9 - k)).toNat : Int) := by
 unfold digZ
 rw [show 9 - (9 - k) = k by omega, UInt8.toNat_ofNat', Int.tmod_eq_emod_of_nonneg (Int.natCast_nonneg _), Int.toNat_natCast]
 generalize m / 10 ^ k = a
 omega
theorem dig_next (m k : Nat) : ((m / 10 ^ k : Nat) : Int).tdiv 10 = ((m / 10 ^ (k + 1) : Nat) : Int) := by
 rw [Int.tdiv_eq_ediv_of_nonneg (Int.natCast_nonneg _), Nat.pow_succ, ← Nat.div_div_eq_div_mul]
 generalize m / 10 ^ k = a
 omega
theorem dig_rng (m k : Nat) : 0 ≤ ((m / 10 ^ k : Nat) : Int).tmod 10 ∧ ((m / 10 ^ k : Nat) : Int).tmod 10 < 10 := by
 rw [Int.tmod_eq_emod_of_nonneg (Int.natCast_nonneg _)]
 generalize m / 10 ^ k = a
 omega
theorem dig_le (m k : Nat) : m / 10 ^ k ≤ m := Nat.div_le_self _ _
theorem dig_all (n : Int) : rDs n 10 = (tenZ n).data.toList.map gBy := rfl
theorem ten_r (m : Nat) (hm : m ≤ 9999999999) : FnV Tryz.prog 196 [gI m] fun g => g = gS (tenZ m) := by
 refine fnG Tryz.func196 (by kernel_rfl) rfl (Nat.le_of_ble_eq_true (by kernel_rfl)) (by kernel_rfl) ?_
 refine ⟨⟨by omega, by omega, rfl⟩, ?_⟩
 refine sx_loop [3] [] (fun k : Nat => [(4, gI (9 - k)), (0, gI (m / 10 ^ k : Nat))]) (fun k => [(0, .slc (rDs m k) 5 1)]) (fun k => k ≤ 10) (fun k => 10 - k) 0 (by omega) ⟨⟨rfl, rfl⟩, ⟨rfl, by rw [Nat.pow_zero, Nat.div_one]; rfl⟩, trivial⟩ ⟨⟨rfl, rfl, rfl⟩, trivial⟩ rfl fun k hk => ?_
 refine EvIf.dec (fun h => ?_) (fun h => ?_)
 ·have h1 := dig_rng m k
  have h2 := dig_le m k
  have h3 := dig_next m k
  have hk9 : k ≤ 9 := by omega
  refine ⟨by decide, ?_⟩
  refine ⟨by omega, ?_⟩
  have h4 := dig_eq m k hk9
  have hq : -9223372036854775808 ≤ ((m / 10 ^ k : Nat) : Int).tdiv 10 ∧ ((m / 10 ^ k : Nat) : Int).tdiv 10 ≤ 9223372036854775807 := by have h5 := dig_le m (k + 1); have h6 : (0 : Int) ≤ ((m / 10 ^ (k + 1) : Nat) : Int) := Int.natCast_nonneg _; rw [h3]; revert h5 h6; generalize m / 10 ^ (k + 1) = u; omega
  have hk1 : k + 1 ≤ 10 := by omega
  have hk2 : 10 - (k + 1) < 10 - k := by omega
  refine ⟨⟨by omega, by show (9 - (k : Int)) < 10; omega⟩, ?_⟩
  rcases (by omega : k = 0 ∨ k = 1 ∨ k = 2 ∨ k = 3 ∨ k = 4 ∨ k = 5 ∨ k = 6 ∨ k = 7 ∨ k = 8 ∨ k = 9) with rfl | rfl | rfl | rfl | rfl | rfl | rfl | rfl | rfl | rfl
  all_goals
   refine ⟨by show Int.toNat _ < 10; omega, fun x hx => ?_⟩
   cases hx
   refine ⟨by decide, ⟨hq, ⟨by omega, _, hk1, hk2, ?_⟩⟩⟩
   refine ⟨?_, ?_, rfl⟩ <;> repeat' (first | exact True.intro | with_reducible rfl | exact rfl | refine And.intro ?_ ?_)
   all_goals first
    | exact eqI h3
    | (refine eqR ?_; rw [h4]; rfl)
 ·have : k = 10 := by omega
  subst this
  refine ⟨⟨_, dig_all m, ?_⟩⟩
  exact congrArg (fun b => gS b) (ba_eta (tenZ m))
theorem num_no {s : ByteArray} {n : Int} (h : ¬ (s ≠ rootS ∧ validZ s = true ∧ 0 ≤ n ∧ n ≤ 9999999999 ∧ validZ (s ++ tenZ n) = true)) : G.tup [gS ⟨#[]⟩, .v (.bool false)] = .tup [gS (numZ s n).1, .v (.bool (numZ s n).2)] := by unfold numZ; rw [if_neg h]; rfl
theorem num_yes {s : ByteArray} {n : Int} (h : s ≠ rootS ∧ validZ s = true ∧ 0 ≤ n ∧ n ≤ 9999999999 ∧ validZ (s ++ tenZ n) = true) : G.tup [gS (s ++ tenZ n), .v (.bool true)] = .tup [gS (numZ s n).1, .v (.bool (numZ s n).2)] := by unfold numZ; rw [if_pos h]
theorem ten_size (n : Int) : (tenZ n).size = 10 := rfl
theorem eqB {a b : List G} {t : TypeId} (h : a = b) : (some (R.blk a t) : Option R) = some (R.blk b t) := by rw [h]
theorem number_p (s : ByteArray) (hs : s.size ≤ 1999990) (n : Int) : FnV Tryz.prog 128 [gS s, gI n] fun g => g = .tup [gS (numZ s n).1, .v (.bool (numZ s n).2)] := by
 refine fnG Tryz.func128 (by kernel_rfl) rfl (Nat.le_of_ble_eq_true (by kernel_rfl)) (by kernel_rfl) ?_
 refine EvIf.beqS (fun (h : s = rootS) => num_no fun e => e.1 h) (fun (h : s ≠ rootS) => (valid_p s (by unfold maxZ; omega)).cal fun q hq => ?_)
 subst hq
 cases hv : validZ s with
 | false =>
  refine EvIf.mk (fun _ => num_no fun e => ?_) fun hh => by cases hh
  rw [hv] at e; cases e.2.1
 | true =>
  refine EvIf.mk (fun hh => by cases hh) fun _ => EvIf.dec (fun h1 => num_no fun e => absurd h1 (by have := e.2.2.1; omega)) (fun h1 => EvIf.dec (fun h2 => num_no fun e => absurd h2 (by have := e.2.2.2.1; omega)) (fun h2 => ?_))
  obtain ⟨m, rfl⟩ := Int.eq_ofNat_of_zero_le (by omega : 0 ≤ n)
  refine sx_loop [0, 6] [] (fun k : Nat => [(24, gI k), (1, gI (m / 10 ^ k : Nat))]) (fun k => [(0, .blk (cDs m k) 227)]) (fun k => k ≤ 10) (fun k => 10 - k) 0 (by omega) ⟨⟨rfl, rfl⟩, ⟨rfl, by rw [Nat.pow_zero, Nat.div_one]; rfl⟩, trivial⟩ ⟨⟨rfl, rfl, rfl⟩, trivial⟩ rfl fun k hk => ?_
  refine EvIf.dec (fun hk0 => ?_) (fun hk0 => ?_)
  ·have h1 := dig_rng m k
   have h2 := dig_le m k
   have h3 := dig_next m k
   have hk9 : k ≤ 9 := by omega
   have h4 := dig_eq m k hk9
   have hq : -9223372036854775808 ≤ ((m / 10 ^ k : Nat) : Int).tdiv 10 ∧ ((m / 10 ^ k : Nat) : Int).tdiv 10 ≤ 9223372036854775807 := by have h5 := dig_le m (k + 1); have h6 : (0 : Int) ≤ ((m / 10 ^ (k + 1) : Nat) : Int) := Int.natCast_nonneg _; rw [h3]; revert h5 h6; generalize m / 10 ^ (k + 1) = u; omega
   have hk1 : k + 1 ≤ 10 := by omega
   have hk2 : 10 - (k + 1) < 10 - k := by omega
   refine ⟨by omega, ⟨by decide, ⟨by omega, ?_⟩⟩⟩
   refine ⟨⟨by omega, by omega⟩, ?_⟩
   rcases (by omega : k = 0 ∨ k = 1 ∨ k = 2 ∨ k = 3 ∨ k = 4 ∨ k = 5 ∨ k = 6 ∨ k = 7 ∨ k = 8 ∨ k = 9) with rfl | rfl | rfl | rfl | rfl | rfl | rfl | rfl | rfl | rfl
   all_goals
    refine ⟨by decide, ⟨hq, ⟨by omega, _, hk1, hk2, ?_⟩⟩⟩
    refine ⟨?_, ?_, rfl⟩ <;> repeat' (first | exact True.intro | with_reducible rfl | exact rfl | refine And.intro ?_ ?_)
    all_goals first
     | exact eqI h3
     | (refine eqB ?_; rw [h4]; rfl)
  ·have : k = 10 := by omega
   subst this
   refine ⟨⟨_, (dig_all m : rDs m 10 = _), ?_⟩⟩
   rw [ba_eta]
   have e1 : ((s.size : Int) + 10) ≤ 2000000 := by omega
   refine ⟨by have := ten_size m; show _ ∧ ((s.size + (tenZ m).size : Nat) : Int) ≤ _; omega, (valid_p (s ++ tenZ m) (by rw [ByteArray.size_append, ten_size]; unfold maxZ; omega)).cal fun q hq => ?_⟩
   subst hq
   cases hv2 : validZ (s ++ tenZ m) with
   | false =>
    refine EvIf.mk (fun _ => num_no fun e => ?_) fun hh => by cases hh
    rw [hv2] at e; cases e.2.2.2.2
   | true => exact EvIf.mk (fun hh => by cases hh) fun _ => num_yes ⟨h, hv, by omega, by omega, hv2⟩
theorem number_r (s : ByteArray) (hs : s.size ≤ 1999990) (n : Int) : FnV Tryz.prog 182 [gS s, gI n] fun g => g = .tup [gS (numZ s n).1, .v (.bool (numZ s n).2)] := by
 refine fnG Tryz.func182 (by kernel_rfl) rfl (Nat.le_of_ble_eq_true (by kernel_rfl)) (by kernel_rfl) ?_
 refine EvIf.beqS (fun (h : s = rootS) => num_no fun e => e.1 h) (fun (h : s ≠ rootS) => (valid_r s (by unfold maxZ; omega)).cal fun q hq => ?_)
 subst hq
 cases hv : validZ s with
 | false =>
  refine EvIf.mk (fun _ => num_no fun e => ?_) fun hh => by cases hh
  rw [hv] at e; cases e.2.1
 | true =>
  refine EvIf.mk (fun hh => by cases hh) fun _ => EvIf.dec (fun h1 => num_no fun e => absurd h1 (by have := e.2.2.1; omega)) (fun h1 => EvIf.dec (fun h2 => num_no fun e => absurd h2 (by have := e.2.2.2.1; omega)) (fun h2 => ?_))
  obtain ⟨m, rfl⟩ := Int.eq_ofNat_of_zero_le (by omega : 0 ≤ n)
  refine (ten_r m (by omega)).cal fun q hq => ?_
  subst hq
  have hsz : -9223372036854775808 ≤ ((s.size + (tenZ m).size : Nat) : Int) ∧ ((s.size + (tenZ m).size : Nat) : Int) ≤ 9223372036854775807 := by have := ten_size m; omega
  refine ⟨hsz, (valid_r (s ++ tenZ m) (by rw [ByteArray.size_append, ten_size]; unfold maxZ; omega)).cal fun q hq => ?_⟩
  subst hq
  cases hv2 : validZ (s ++ tenZ m) with
  | false =>
   refine EvIf.mk (fun _ => num_no fun e => ?_) fun hh => by cases hh
   rw [hv2] at e; cases e.2.2.2.2
  | true =>
   refine EvIf.mk (fun hh => by cases hh) fun _ => (ten_r m (by omega)).cal fun q hq => ?_
   subst hq
   exact ⟨hsz, num_yes ⟨h, hv, by omega, by omega, hv2⟩⟩
end Go.Proofs.YtalfffamppmooaaGreatDoor

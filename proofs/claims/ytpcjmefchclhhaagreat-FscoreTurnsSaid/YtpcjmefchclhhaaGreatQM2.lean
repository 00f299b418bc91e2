/- A part of the proof, merged from several texts. -/
import Derived.Test.YtpcjmefchclhhaaGreatQM1
import Derived.Test.YtpcjmefchclhhaaGreatFsXW
import Derived.Test.YtpcjmefchclhhaaGreatZFsQ
import Derived.Test.YtpcjmefchclhhaaGreatZFtL
import Derived.Test.YtpcjmefchclhhaaGreatSxMc
import Derived.Test.YtpcjmefchclhhaaGreatZFtT
namespace Go.Proofs.YtpcjmefchclhhaaGreat
open Go.RowKit
def fsP (r : RFs) (K : Nat) : Ob := fun _ b S w => ∃ mi mg N, FsN w b mi mg r N ∧ Wf r K ∧ ∀ k, S k ↔ k ∈ fpL b mi mg N
theorem mem_fpL {b mi mg k : Nat} {N : List Nd} : k ∈ fpL b mi mg N ↔ (k = b ∨ k = mi ∨ k = mg ∨ ∃ n ∈ N, k ∈ n.foot) := by
 unfold fpL
 simp only [List.mem_cons, List.mem_flatMap]
theorem fsP_loc (r : RFs) (K : Nat) : Loc (fsP r K) := fun _ _ _ _ _ _ ⟨mi, mg, N, h, hW, hS⟩ _ _ _ hb => by
 have hb' : ∀ k, k ∈ fpL _ mi mg N → _ := fun k hk => hb k ((hS k).2 hk)
 exact ⟨mi, mg, N, h.keep (hb' _ (mem_fpL.2 (.inl rfl))) (hb' _ (mem_fpL.2 (.inr (.inl rfl)))) (hb' _ (mem_fpL.2 (.inr (.inr (.inl rfl))))) (fun n hn k hk => hb' k (mem_fpL.2 (.inr (.inr (.inr ⟨n, hn, hk⟩))))), hW, hS⟩
structure Gd (r : RFs) (K : Nat) : Prop where
 wf : Wf r K
 shs : Shs r
theorem few_of {r : RFs} {K : Nat} (hW : Wf r K) (hK : K ≤ 1000000) : Few r := ⟨by have := hW.cnt; omega, Nat.le_trans hW.nmK hK, by have := hW.genL; omega⟩
def valB : G → Bool
 | .v _ | .agg _ | .sl _ => true
 | _ => false
theorem prep_val {I : Imm} {V : Va} {g : G} {x : Value} (hv : valB g = true) (h : PRep I V g x) : VRep I g x := by cases g <;> first | exact h | cases hv
theorem pw_val {I : Imm} {V : Va} {gs : List G} {vs : List Value} (hv : allB valB gs = true) (h : PW (PRep I V) gs vs) : PW (VRep I) gs vs :=
 ⟨h.1, fun j g u hg hu => prep_val (allB_mem hv g (List.mem_of_getElem? hg)) (h.2 j g u hg hu)⟩
theorem one_has {I : Imm} {V : Va} {w : World} {p : Ob} (hn : V.n = 1) (hM : Mem I w) (hp : Loc p ∧ p I (V.b 0) (V.f 0) w) (hf : ∀ b, V.f 0 b → b < w.heap.size ∧ ∀ o, I b o = none) : Has I V (objs [.abs p] 0) w := by
 have lk : ∀ k r, look k (objs [.abs p] 0) = some r → k = 0 ∧ r = .abs p := fun k r h => by
  rw [look_objs0] at h
  cases k with
  | zero => simp at h; exact ⟨rfl, h.symm⟩
  | succ k => simp at h
 refine ⟨hM, fun k r h => ?_, fun k r h => ?_, fun k r b h hb => ?_, fun k k' r r' b h h' _ _ => ?_⟩
 ·rw [(lk k r h).1]; omega
 ·obtain ⟨rfl, rfl⟩ := lk k r h; exact hp
 ·obtain ⟨rfl, rfl⟩ := lk k r h; exact hf b hb
 ·rw [(lk k r h).1, (lk k' r' h').1]
def Va.setF (V : Va) (k : Nat) (S : Nat → Prop) : Va := { V with f := fun j => if j = k then S else V.f j }
theorem VR.res {I : Imm} {V : Va} {g : G} {x : Value} (h : VR I g x) : PRes I V g x := by
 cases g with
 | tup l => obtain ⟨cs, e, hp⟩ := h; exact ⟨cs, e, hp.mono fun _ _ h => .of_v h⟩
 | _ => exact PRep.of_v (V := V) h
theorem keys_len : ∀ {l : List Nat} {n : Nat}, l.Nodup → (∀ x ∈ l, x < n) → l.length ≤ n := fun {l n} hn hl => by
 have := nodup_sub_len (l := l) (m := List.range n) hn fun x hx => List.mem_range.2 (hl x hx)
 simpa using this
theorem map_inj {α β : Type} {f : α → β} : ∀ {l : List α}, (l.map f).Nodup → ∀ {a b}, a ∈ l → b ∈ l → f a = f b → a = b
 | [], _, a, b, h, _, _ => by simp at h
 | x :: l, hn, a, b, ha, hb, e => by
  rw [List.map_cons, List.nodup_cons] at hn
  obtain ⟨h1, h2⟩ := hn
  rcases List.mem_cons.1 ha with ha | ha <;> rcases List.mem_cons.1 hb with hb | hb
  ·rw [ha, hb]
  ·exact absurd (List.mem_map.2 ⟨b, hb, by rw [← e, ha]⟩) h1
  ·exact absurd (List.mem_map.2 ⟨a, ha, by rw [e, hb]⟩) h1
  ·exact map_inj h2 ha hb e
theorem shs_of {w : World} {b mi mg K : Nat} {r : RFs} {N : List Nd} (h : FsN w b mi mg r N) (hW : Wf r K) : Shs r := fun x hx => by
 by_cases hk : x.kind = 1
 ·obtain ⟨n, hn, hid⟩ := h.all x hx
  obtain ⟨y, hy, hR⟩ := h.node n hn
  have hyx : y = x := by
   have e : y.id = x.id := hR.id.symm.trans hid
   exact map_inj hW.ids hy hx e
  subst hyx
  obtain ⟨size, bl, hraw, hs⟩ := hR.file hk
  have hon : ∀ k ∈ y.On, k < 65536 := fun k hk => by
   rw [hs.on] at hk
   obtain ⟨p, hp, rfl⟩ := List.mem_map.1 ((keysS_perm bl).mem_iff.1 hk)
   exact hraw.keys p hp
  refine ⟨⟨by rw [hs.len]; exact hraw.small, ?_⟩, hon⟩
  rw [hs.on]
  have : (keysS bl).Nodup := ((keysS_perm bl).nodup_iff).2 hs.nodup
  exact keys_len this (fun k hk => hon k (by rw [hs.on]; exact hk))
 ·obtain ⟨e1, e2⟩ := hW.file x hx hk
  rw [e1, e2]
  exact ⟨⟨by simp, by simp⟩, by simp⟩
theorem fs_step {P : Program} {f : FuncId} {gs : List G} {r r' : RFs} {K K' : Nat} {gv : G} (hE : Ent P f) (hv : allB valB gs = true)
  (h : ∀ (I : Imm) (w : World) b mi mg N (vs : List Value), Mem I w → FsN w b mi mg r N → Wf r K → PW (VRep I) gs vs → Wf r' K' ∧ Calls P f (.pointer (some ⟨b, 0, none⟩) :: vs).toArray w fun e w' => ∃ x, e = .returned x ∧ VR I gv x ∧ StepR w w' b mi mg N r') : FnO P f (.ptr 0 0 :: gs) [.abs (fsP r K)] fun g rs => g = gv ∧ rs = [.abs (fsP r' K')] ∧ Gd r' K' :=
 ⟨hE, fun I V w vs hH hn hp => by
  obtain ⟨x, us, rfl, hx, hq⟩ := hp.uncons
  obtain ⟨-, rfl⟩ := (show 0 < V.n ∧ x = .pointer (some ⟨V.b 0, 0, none⟩) from hx)
  obtain ⟨-, mi, mg, N, hN, hW, hS⟩ := hH.each 0 (.abs (fsP r K)) rfl
  have hfoot := fun b hb => hH.foot 0 (.abs (fsP r K)) b rfl hb
  obtain ⟨hW', hc⟩ := h I w _ mi mg N us hH.mem hN hW (pw_val hv hq)
  refine hc.mono fun e w' ⟨x, he, hx, N', h1, h2, h3⟩ => ⟨x, gv, [.abs (fsP r' K')], I, V.setF 0 (fun k => k ∈ fpL (V.b 0) mi mg N'), he, ⟨rfl, rfl, hW', shs_of h1 hW'⟩, hn, ?_, ?_, ⟨h3.os, h3.tape, h3.output, h3.size, fun b hb hno => ⟨h3.block b hb fun hm => hno 0 _ rfl ((hS b).2 hm), fun _ => rfl⟩, fun _ _ _ h => h, fun k r b hk hb hlt => ?_⟩, ⟨Nat.le_refl _, fun _ _ => ⟨rfl, rfl⟩⟩⟩
  ·have hM : Mem I w' := hH.mem.keep fun b o x hx => h3.block b (hH.mem.lt hx) fun hm => by
    have := (hfoot b ((hS b).2 hm)).2 o
    rw [hx] at this
    cases this
   refine one_has hn hM ⟨fsP_loc _ _, mi, mg, N', h1, hW', fun k => Iff.rfl⟩ fun b hb => ?_
   have hb : b ∈ fpL (V.b 0) mi mg N' := hb
   refine ⟨?_, fun o => ?_⟩
   ·obtain ⟨l1, l2, l3, l4⟩ := h1.lt hW'
    rcases mem_fpL.1 hb with rfl | rfl | rfl | ⟨n, hn, hk⟩
    ·exact l1
    ·exact l2
    ·exact l3
    ·exact l4 n hn b hk
   ·rcases h2 b hb with hb | hb
    ·exact (hfoot b ((hS b).2 hb)).2 o
    ·cases hI : I b o with
     | none => rfl
     | some x => exact absurd (hH.mem.lt hI) (by omega)
  ·exact hx.res
  ·have hk0 : k = 0 := by
    rw [look_objs0] at hk
    cases k with
    | zero => rfl
    | succ k => simp at hk
   subst hk0
   have hb : b ∈ fpL (V.b 0) mi mg N' := hb
   rcases h2 b hb with hb | hb
   ·exact ⟨0, _, rfl, (hS b).2 hb⟩
   ·omega⟩
def Imm.new (I : Imm) (w w' : World) : Imm := fun b o => if w.heap.size ≤ b then w'.cell? ⟨b, o, none⟩ else I b o
theorem Imm.new_le {I : Imm} {w w' : World} (hM : Mem I w) : I.le (I.new w w') := fun b o x hx => by
 unfold Imm.new
 rw [if_neg (by have := hM.lt hx; omega)]
 exact hx
theorem Imm.new_old {I : Imm} {w w' : World} {b o : Nat} (hb : b < w.heap.size) : I.new w w' b o = I b o := if_neg (by omega)
theorem Imm.new_mem {I : Imm} {w w' : World} (hM : Mem I w) (hb : Below w.heap.size w w') : Mem (I.new w w') w' := fun b o x hx => by
 unfold Imm.new at hx
 split at hx
 ·exact hx
 ·exact (hM.keep fun b o x hx => hb.block b (hM.lt hx)) b o x hx
theorem fs_read {P : Program} {f : FuncId} {gs : List G} {r : RFs} {K : Nat} {gv : G} (hE : Ent P f) (hv : allB valB gs = true)
  (h : ∀ (I : Imm) (w : World) b mi mg N (vs : List Value), Mem I w → FsN w b mi mg r N → Wf r K → PW (VRep I) gs vs → Calls P f (.pointer (some ⟨b, 0, none⟩) :: vs).toArray w fun e w' => ∃ x, e = .returned x ∧ VR (I.new w w') gv x ∧ Below w.heap.size w w') : FnO P f (.ptr 0 0 :: gs) [.abs (fsP r K)] fun g rs => g = gv ∧ rs = [.abs (fsP r K)] :=
 ⟨hE, fun I V w vs hH hn hp => by
  obtain ⟨x, us, rfl, hx, hq⟩ := hp.uncons
  obtain ⟨-, rfl⟩ := (show 0 < V.n ∧ x = .pointer (some ⟨V.b 0, 0, none⟩) from hx)
  obtain ⟨-, mi, mg, N, hN, hW, hS⟩ := hH.each 0 (.abs (fsP r K)) rfl
  have hfoot := fun b hb => hH.foot 0 (.abs (fsP r K)) b rfl hb
  refine (h I w _ mi mg N us hH.mem hN hW (pw_val hv hq)).mono fun e w' ⟨x, he, hx, hb⟩ => ⟨x, gv, [.abs (fsP r K)], I.new w w', V, he, ⟨rfl, rfl⟩, hn, ?_, ?_, ⟨hb.os, hb.tape, hb.output, hb.size, fun b hlt _ => ⟨hb.block b hlt, fun o => Imm.new_old hlt⟩, Imm.new_le hH.mem, fun k r b hk hf _ => ⟨k, r, hk, hf⟩⟩, .refl _⟩
  ·refine one_has hn (Imm.new_mem hH.mem hb) ⟨fsP_loc _ _, fsP_loc r K _ _ _ _ _ _ ⟨mi, mg, N, hN, hW, hS⟩ (Imm.new_le hH.mem) hb.os hb.size fun k hk => hb.block k (hfoot k hk).1⟩ fun b hf => ⟨Nat.lt_of_lt_of_le (hfoot b hf).1 hb.size, fun o => ?_⟩
   rw [Imm.new_old (hfoot b hf).1]
   exact (hfoot b hf).2 o
  ·exact hx.res⟩
theorem vrep_agg {I : Imm} (cs : List Value) : VRep I (.agg (cs.map .v)) (.agg cs.toArray) := .agg _ cs (by simp) fun j g u hg hu => by
 rw [List.getElem?_map, hu] at hg
 cases hg
 exact .v u
theorem vrep_agg_inv {I : Imm} {cs : List Value} {x : Value} (h : VRep I (.agg (cs.map .v)) x) : x = .agg cs.toArray := by
 generalize hl : cs.map G.v = l at h
 cases h with
 | agg l us hlen hh =>
  subst hl
  congr 2
  apply List.ext_getElem?
  intro j
  have hlen : cs.length = us.length := by simpa using hlen
  by_cases hj : j < cs.length
  ·have hj' : j < us.length := by omega
   have := hh j (.v cs[j]) us[j] (by rw [List.getElem?_map, List.getElem?_eq_getElem hj]; rfl) (List.getElem?_eq_getElem hj')
   rw [List.getElem?_eq_getElem hj, List.getElem?_eq_getElem hj']
   generalize us[j] = u at this
   cases this
   rfl
  ·rw [List.getElem?_eq_none (by omega), List.getElem?_eq_none (by omega)]
theorem vrep_v {I : Imm} {z x : Value} (h : VRep I (.v z) x) : x = z := by cases h; rfl
theorem vrep_bytes {I : Imm} {w : World} {l : List UInt8} {x : Value} (hM : Mem I w) (h : VRep I (.sl (l.map gBy)) x) : ∃ A c, x = .slice A l.length c ∧ l.length ≤ c ∧ Rd w w.heap.size 1 byteC A l := by
 obtain ⟨A, c, rs, e, hc, hA, h1, h2, h3, h4⟩ := sl_rows (sz := 1) h hM (fun r hr => by obtain ⟨b, -, rfl⟩ := List.mem_map.1 hr; rfl)
 refine ⟨A, c, by simpa using e, by simpa using hc, fun i b hb => ?_⟩
 have hi : (l.map gBy)[i]? = some (gBy b) := by rw [List.getElem?_map, hb]; rfl
 have hil := (List.getElem?_eq_some_iff.1 hi).1
 have hi' : i < rs.length := by omega
 obtain ⟨a, rfl⟩ : ∃ a, A = some a := by
  cases A with
  | some a => exact ⟨a, rfl⟩
  | none => rw [(hA rfl).1] at hi; simp at hi
 have hp := h2 i _ _ hi (List.getElem?_eq_getElem hi')
 have hlen : rs[i].length = 1 := h3 _ (List.getElem_mem hi')
 have hv := hp.2 0 _ rs[i][0] (by rfl : (gBy b)[0]? = _) (List.getElem?_eq_getElem (by omega))
 have hcell := (h4 a rfl (i * 1 + 0) _ (flat_get' h3 (List.getElem?_eq_getElem hi') (List.getElem?_eq_getElem (by omega : 0 < rs[i].length)))).2
 have hlt := World.block_lt_of_cell? w _ hcell
 have hlt' : a.block < w.heap.size := by
  have h9 := hlt
  unfold Addr.add at h9
  split at h9 <;> exact h9
 refine ⟨a, rfl, hlt', fun j v hj => ?_⟩
 cases j with
 | succ j => simp [byteC] at hj
 | zero =>
  simp [byteC] at hj
  subst hj
  rw [vrep_v hv] at hcell
  have e0 : (a.add (i * 1)).add 0 = a.add (i * 1 + 0) := by simp [Addr.add]
  rw [e0]
  exact hcell
abbrev gH (h : Int × Int) : G := .agg [.v (.int .i64 h.1), .v (.int .i64 h.2)]
abbrev gI (n : Int) : G := .v (.int .i64 n)
abbrev gS (s : ByteArray) : G := .v (.string s)
abbrev fP (r : RFs) (K : Nat) : List R := [.abs (fsP r K)]
theorem vrep_h {I : Imm} {h : Int × Int} {x : Value} (hx : VRep I (gH h) x) : x = .agg #[.int .i64 h.1, .int .i64 h.2] := vrep_agg_inv (cs := [.int .i64 h.1, .int .i64 h.2]) hx
theorem vr_h {I : Imm} (h : Int × Int) : VRep I (gH h) (.agg #[.int .i64 h.1, .int .i64 h.2]) := vrep_agg [.int .i64 h.1, .int .i64 h.2]
theorem vr_tup2 {I : Imm} {a b : G} {x y : Value} (h : VRep I a x) (h' : VRep I b y) : VR I (.tup [a, b]) (.tuple #[x, y]) := ⟨[x, y], rfl, .cons h (.cons h' .nil)⟩
section
variable {r : RFs} {K : Nat}
theorem link_o (h d : Int × Int) (s : ByteArray) (hs : s.size ≤ maxLen) : FnO Tryz.prog 41 [.ptr 0 0, gH h, gH d, gS s] (fP r K) fun g rs => g = gI (linkP r h d s).2 ∧ rs = fP (linkP r h d s).1 (K + 1) ∧ Gd (linkP r h d s).1 (K + 1) :=
 fs_step ⟨_, Tryz.func41, by kernel_rfl, by kernel_rfl⟩ rfl fun I w b mi mg N vs hM hN hW hp => ⟨wf_link hW _ _ _, by
  obtain ⟨x1, vs, rfl, h1, hp⟩ := hp.uncons
  obtain ⟨x2, vs, rfl, h2, hp⟩ := hp.uncons
  obtain ⟨x3, vs, rfl, h3, hp⟩ := hp.uncons
  obtain rfl := hp.of_nil
  rw [vrep_h h1, vrep_h h2, vrep_v h3]
  exact (link_any hN hW h.1 h.2 d.1 d.2 s hs).mono fun e w' ⟨he, hS⟩ => ⟨_, he, .v _, hS⟩⟩
theorem remove_o (h : Int × Int) (s : ByteArray) (hs : s.size ≤ maxLen) (fo : Bool) : FnO Tryz.prog 23 [.ptr 0 0, gH h, gS s, .v (.bool fo)] (fP r K) fun g rs => g = gI (removeP r h s fo).2 ∧ rs = fP (removeP r h s fo).1 K ∧ Gd (removeP r h s fo).1 K :=
 fs_step ⟨_, Tryz.func23, by kernel_rfl, by kernel_rfl⟩ rfl fun I w b mi mg N vs hM hN hW hp => ⟨wf_remove hW _ _ _, by
  obtain ⟨x1, vs, rfl, h1, hp⟩ := hp.uncons
  obtain ⟨x2, vs, rfl, h2, hp⟩ := hp.uncons
  obtain ⟨x3, vs, rfl, h3, hp⟩ := hp.uncons
  obtain rfl := hp.of_nil
  rw [vrep_h h1, vrep_v h2, vrep_v h3]
  exact (remove_any hN hW h.1 h.2 s hs fo).mono fun e w' ⟨he, hS⟩ => ⟨_, he, .v _, hS⟩⟩
theorem rename_o (h : Int × Int) (s : ByteArray) (hs : s.size ≤ maxLen) (d : Int × Int) (t : ByteArray) (ht : t.size ≤ maxLen) : FnO Tryz.prog 19 [.ptr 0 0, gH h, gS s, gH d, gS t] (fP r K) fun g rs => g = gI (renameP r h s d t).2 ∧ rs = fP (renameP r h s d t).1 K ∧ Gd (renameP r h s d t).1 K :=
 fs_step ⟨_, Tryz.func19, by kernel_rfl, by kernel_rfl⟩ rfl fun I w b mi mg N vs hM hN hW hp => ⟨wf_rename hW _ _ _ _, by
  obtain ⟨x1, vs, rfl, h1, hp⟩ := hp.uncons
  obtain ⟨x2, vs, rfl, h2, hp⟩ := hp.uncons
  obtain ⟨x3, vs, rfl, h3, hp⟩ := hp.uncons
  obtain ⟨x4, vs, rfl, h4, hp⟩ := hp.uncons
  obtain rfl := hp.of_nil
  rw [vrep_h h1, vrep_v h2, vrep_h h3, vrep_v h4]
  exact (rename_any hN hW h.1 h.2 s hs d.1 d.2 t ht).mono fun e w' ⟨he, hS⟩ => ⟨_, he, .v _, hS⟩⟩
theorem cut_o (h : Int × Int) (n t : Int) : FnO Tryz.prog 43 [.ptr 0 0, gH h, gI n, gI t] (fP r K) fun g rs => g = gI (fcutP r h n t).2 ∧ rs = fP (fcutP r h n t).1 K ∧ Gd (fcutP r h n t).1 K :=
 fs_step ⟨_, Tryz.func43, by kernel_rfl, by kernel_rfl⟩ rfl fun I w b mi mg N vs hM hN hW hp => ⟨wf_cut hW _ _ _, by
  obtain ⟨x1, vs, rfl, h1, hp⟩ := hp.uncons
  obtain ⟨x2, vs, rfl, h2, hp⟩ := hp.uncons
  obtain ⟨x3, vs, rfl, h3, hp⟩ := hp.uncons
  obtain rfl := hp.of_nil
  rw [vrep_h h1, vrep_v h2, vrep_v h3]
  exact (fcut_any hN hW h.1 h.2 n t).mono fun e w' ⟨he, hS⟩ => ⟨_, he, .v _, hS⟩⟩
theorem write_o (h : Int × Int) (a : Int) (l : List UInt8) (hl : l.length ≤ maxLen) (t : Int) : FnO Tryz.prog 42 [.ptr 0 0, gH h, gI a, .sl (l.map gBy), gI t] (fP r K) fun g rs => g = gI (fwriteP r h a l t).2 ∧ rs = fP (fwriteP r h a l t).1 K ∧ Gd (fwriteP r h a l t).1 K :=
 fs_step ⟨_, Tryz.func42, by kernel_rfl, by kernel_rfl⟩ rfl fun I w b mi mg N vs hM hN hW hp => ⟨wf_write hN hW _ _ _ _, by
  obtain ⟨x1, vs, rfl, h1, hp⟩ := hp.uncons
  obtain ⟨x2, vs, rfl, h2, hp⟩ := hp.uncons
  obtain ⟨x3, vs, rfl, h3, hp⟩ := hp.uncons
  obtain ⟨x4, vs, rfl, h4, hp⟩ := hp.uncons
  obtain rfl := hp.of_nil
  obtain ⟨A, c, rfl, hc, hrd⟩ := vrep_bytes hM h3
  rw [vrep_h h1, vrep_v h2, vrep_v h4]
  exact (fwrite_any hN hW h.1 h.2 a A c l hl hc hrd t).mono fun e w' ⟨he, hS⟩ => ⟨_, he, .v _, hS⟩⟩
theorem make_o (hK : K ≤ 1000000) (h : Int × Int) (s : ByteArray) (hs : s.size ≤ maxLen) (m : RMk) (hm : m.target.size ≤ maxLen) : FnO Tryz.prog 21 [.ptr 0 0, gH h, gS s, .agg [gI m.kind, gI m.mode, gI m.time, gS m.target]] (fP r K) fun g rs => g = .tup [gH (makeP r h s m).2.1, gI (makeP r h s m).2.2] ∧ rs = fP (makeP r h s m).1 (K + 1) ∧ Gd (makeP r h s m).1 (K + 1) :=
 fs_step ⟨_, Tryz.func21, by kernel_rfl, by kernel_rfl⟩ rfl fun I w b mi mg N vs hM hN hW hp => ⟨wf_make_all hW _ _ _, by
  obtain ⟨x1, vs, rfl, h1, hp⟩ := hp.uncons
  obtain ⟨x2, vs, rfl, h2, hp⟩ := hp.uncons
  obtain ⟨x3, vs, rfl, h3, hp⟩ := hp.uncons
  obtain rfl := hp.of_nil
  have h3 := vrep_agg_inv (cs := [.int .i64 m.kind, .int .i64 m.mode, .int .i64 m.time, .string m.target]) h3
  rw [vrep_h h1, vrep_v h2, h3]
  exact (make_any hN hW hK h.1 h.2 s hs m.kind m.mode m.time m.target hm).mono fun e w' ⟨he, hS⟩ => ⟨_, he, vr_tup2 (vr_h _) (.v _), hS⟩⟩
theorem look_o (h : Int × Int) (s : ByteArray) (hs : s.size ≤ maxLen) : FnO Tryz.prog 13 [.ptr 0 0, gH h, gS s] (fP r K) fun g rs => g = .tup [gH (lookP r h s).1, gI (lookP r h s).2] ∧ rs = fP r K :=
 fs_read ⟨_, Tryz.func13, by kernel_rfl, by kernel_rfl⟩ rfl fun I w b mi mg N vs hM hN hW hp => by
  obtain ⟨x1, vs, rfl, h1, hp⟩ := hp.uncons
  obtain ⟨x2, vs, rfl, h2, hp⟩ := hp.uncons
  obtain rfl := hp.of_nil
  rw [vrep_h h1, vrep_v h2]
  exact (look_any hN hW h.1 h.2 s hs).mono fun e w' ⟨he, hb⟩ => ⟨_, he, vr_tup2 (vr_h _) (.v _), hb⟩
theorem root_o : FnO Tryz.prog 22 [.ptr 0 0] (fP r K) fun g rs => g = gH (1, 1) ∧ rs = fP r K := by
 refine fnoG Tryz.func22 (by kernel_rfl) rfl (Nat.le_of_ble_eq_true (by kernel_rfl)) (by kernel_rfl) (lent1 _ _) ?_
 exact end_abs rfl rfl ⟨rfl, rfl⟩
theorem free_o : FnO Tryz.prog 39 [.ptr 0 0] (fP r K) fun g rs => g = .tup [gI (roomP r), gI (200 - (r.ins.length : Int))] ∧ rs = fP r K :=
 fs_read ⟨_, Tryz.func39, by kernel_rfl, by kernel_rfl⟩ rfl fun I w b mi mg N vs hM hN hW hp => by
  obtain rfl := hp.of_nil
  exact (free_any hN hW).mono fun e w' ⟨he, hb⟩ => ⟨_, he, vr_tup2 (.v _) (.v _), hb⟩
theorem stat_o (h : Int × Int) : FnO Tryz.prog 31 [.ptr 0 0, gH h] (fP r K) fun g rs => g = statE r h ∧ rs = fP r K :=
 fs_read ⟨_, Tryz.func31, by kernel_rfl, by kernel_rfl⟩ rfl fun I w b mi mg N vs hM hN hW hp => by
  obtain ⟨x1, vs, rfl, h1, hp⟩ := hp.uncons
  obtain rfl := hp.of_nil
  rw [vrep_h h1]
  refine (stat_any hN hW h.1 h.2).mono fun e w' ⟨he, hb⟩ => ⟨_, he, ?_, hb⟩
  unfold statE statV
  split
  ·exact vr_tup2 (vrep_agg [_, _, _, _, _, _, _, _]) (.v _)
  ·exact vr_tup2 (vrep_agg [_, _, _, _, _, _, _, _]) (.v _)
theorem fread_o (h : Int × Int) (a n : Int) : FnO Tryz.prog 37 [.ptr 0 0, gH h, gI a, gI n] (fP r K) fun g rs => g = .tup [.sl ((freadP r h a n).1.map gBy), gI (freadP r h a n).2] ∧ rs = fP r K :=
 fs_read ⟨_, Tryz.func37, by kernel_rfl, by kernel_rfl⟩ rfl fun I w b mi mg N vs hM hN hW hp => by
  obtain ⟨x1, vs, rfl, h1, hp⟩ := hp.uncons
  obtain ⟨x2, vs, rfl, h2, hp⟩ := hp.uncons
  obtain ⟨x3, vs, rfl, h3, hp⟩ := hp.uncons
  obtain rfl := hp.of_nil
  rw [vrep_h h1, vrep_v h2, vrep_v h3]
  refine (fread_any hN hW h.1 h.2 a n).mono fun e w' ⟨A, he, ho, hb⟩ => ⟨_, he, vr_tup2 ?_ (.v _), hb⟩
  generalize (freadP r (h.1, h.2) a n).1 = l at ho
  rcases ho with ⟨rfl, rfl⟩ | ⟨q, hq, rfl, hcell⟩
  ·exact .sl [] none 0 1 (fun _ _ => undef) (Nat.le_refl _) (fun _ => rfl) (by simp) (fun i r h => by simp at h) (fun i r j g h => by simp at h)
  ·have key := VRep.sl (I := I.new w w') (l.map gBy) (some ⟨q, 0, none⟩) l.length 1 (fun i _ => ((l[i]?).map byteV).getD undef) (by simp) (fun e => by cases e) (fun r hr => by obtain ⟨b, -, rfl⟩ := List.mem_map.1 hr; rfl) (fun i r hr => ⟨q, 0, rfl, fun j hj => ?_⟩) (fun i r j g hr hg => ?_)
   ·simpa using key
   ·rw [List.getElem?_map] at hr
    obtain ⟨b, h1, -⟩ := Option.map_eq_some_iff.1 hr
    obtain rfl : j = 0 := by omega
    unfold Imm.new
    rw [if_pos hq, cell_of_row w' q _ _ _ (0, 0) hcell, h1]
    simp [h1]
   ·rw [List.getElem?_map] at hr
    obtain ⟨b, h1, rfl⟩ := Option.map_eq_some_iff.1 hr
    cases j with
    | succ j => simp [gBy] at hg
    | zero =>
     simp [gBy] at hg
     subst hg
     rw [h1]
     exact .v _
theorem vrep_new {α : Type} {I : Imm} {w w' : World} {sz c B : Nat} {f : α → List G} {fv : α → List Value} {l : List α} {A : Option Addr} (hrd : Rd w' B sz fv A l) (hn : ∀ a, A = some a → w.heap.size ≤ a.block) (hs : ∀ a, A = some a → a = ⟨a.block, 0, none⟩) (hc : l.length ≤ c) (hA : A = none → c = 0) (hz : ∀ x, (fv x).length = sz) (hf : ∀ x, PW (VRep (I.new w w')) (f x) (fv x)) : VRep (I.new w w') (.sl (l.map f)) (.slice A l.length c) := by
 have key := VRep.sl (I := I.new w w') (l.map f) A c sz (fun i j => ((l[i]?).bind fun x => (fv x)[j]?).getD undef) (by simpa using hc) hA (fun r hr => by obtain ⟨x, -, rfl⟩ := List.mem_map.1 hr; rw [(hf x).1, hz]) (fun i r hr => ?_) (fun i r j g hr hg => ?_)
 ·simpa using key
 ·rw [List.getElem?_map] at hr
  obtain ⟨x, h1, -⟩ := Option.map_eq_some_iff.1 hr
  obtain ⟨a, rfl, -, hcell⟩ := hrd i x h1
  refine ⟨a.block, 0, congrArg some (hs a rfl), fun j hj => ?_⟩
  have hj' : j < (fv x).length := by rw [hz]; exact hj
  have h2 := hcell j _ (List.getElem?_eq_getElem hj')
  unfold Imm.new
  rw [if_pos (hn a rfl), h1]
  simp only [Option.bind_some, List.getElem?_eq_getElem hj', Option.getD_some]
  rw [← h2]
  have e := hs a rfl
  generalize a.block = b at e
  subst e
  rw [add_off, add_off, Nat.zero_add]
 ·rw [List.getElem?_map] at hr
  obtain ⟨x, h1, rfl⟩ := Option.map_eq_some_iff.1 hr
  obtain ⟨u, h2, h3⟩ := (hf x).get hg
  rw [h1]
  simp only [Option.bind_some, h2, Option.getD_some]
  exact h3
theorem list_o (hK : K ≤ 1000000) (h : Int × Int) : FnO Tryz.prog 33 [.ptr 0 0, gH h] (fP r K) fun g rs => g = .tup [.sl ((listP r h).map gSt), gI (folderE r h)] ∧ rs = fP r K :=
 fs_read ⟨_, Tryz.func33, by kernel_rfl, by kernel_rfl⟩ rfl fun I w b mi mg N vs hM hN hW hp => by
  obtain ⟨x1, vs, rfl, h1, hp⟩ := hp.uncons
  obtain rfl := hp.of_nil
  rw [vrep_h h1]
  refine (list_any hN hW hK h.1 h.2).mono fun e w' ⟨hR, hb⟩ => ?_
  unfold ListR at hR
  split at hR
  ·next hf =>
   refine ⟨_, hR, vr_tup2 ?_ (.v _), hb⟩
   have : listP r h = [] := if_neg hf
   rw [this]
   exact .sl [] none 0 1 (fun _ _ => undef) (Nat.le_refl _) (fun _ => rfl) (by simp) (fun i r h => by simp at h) (fun i r j g h => by simp at h)
  ·next hf =>
   have hf : folderE r h = 0 := by simpa using hf
   obtain ⟨A, c, he, hrd, hn, hs, hc, hA⟩ := hR
   rw [hf]
   refine ⟨_, he, vr_tup2 ?_ (.v _), hb⟩
   have e := listP_sorted r h hf
   have ei : ((fun s : List UInt8 => (⟨s.toArray⟩ : ByteArray)) ∘ fun c : ByteArray => c.data.toList) = id := by funext c; cases c; rfl
   have e2 : listP r h = (sortedN (namesP r.nms h.1)).map fun s => ⟨s.toArray⟩ := by rw [← e, List.map_map, ei, List.map_id]
   rw [e2, List.map_map]
   exact vrep_new (f := gSt ∘ fun s => ⟨s.toArray⟩) hrd hn hs hc hA (fun _ => rfl) (fun x => .cons (.v _) .nil)
theorem new_o (room : Int) (hr : room ≤ 9223372036854775807) : FnO Tryz.prog 8 [gI room] [] fun g rs => g = .ptr 0 0 ∧ rs = fP (newP room) 0 ∧ Gd (newP room) 0 :=
 ⟨⟨_, Tryz.func8, by kernel_rfl, by kernel_rfl⟩, fun I V w vs hH hn hp => by
  obtain ⟨x1, vs, rfl, h1, hp⟩ := hp.uncons
  obtain rfl := hp.of_nil
  have hn : V.n = 0 := hn
  rw [vrep_v h1]
  refine (fnew_any room w).mono fun e w' ⟨f, mi, mg, N, he, hF, h1, h2, h3, h4, hB⟩ => ?_
  have hnew : ∀ k ∈ fpL f mi mg N, w.heap.size ≤ k := fun k hk => by
   rcases mem_fpL.1 hk with rfl | rfl | rfl | ⟨n, hn, hk⟩
   ·exact h1
   ·exact h2
   ·exact h3
   ·exact h4 n hn k hk
  have hM : Mem I w' := hH.mem.keep fun b o x hx => hB.block b (hH.mem.lt hx)
  refine ⟨_, .ptr 0 0, _, I, ⟨1, fun _ => f, fun _ => undef, fun _ k => k ∈ fpL f mi mg N⟩, he, ⟨rfl, rfl, wf_new hr, shs_of hF (wf_new hr)⟩, rfl, one_has rfl hM ⟨fsP_loc _ _, mi, mg, N, hF, wf_new hr, fun k => Iff.rfl⟩ fun b hb => ⟨?_, fun o => ?_⟩, ⟨Nat.lt_succ_self _, rfl⟩, ⟨hB.os, hB.tape, hB.output, hB.size, fun b hb _ => ⟨hB.block b hb, fun _ => rfl⟩, fun _ _ _ h => h, fun k r b hk hb hlt => ?_⟩, ⟨by show V.n ≤ 1; omega, fun k hk => by omega⟩⟩
  ·obtain ⟨l1, l2, l3, l4⟩ := hF.lt (wf_new hr)
   rcases mem_fpL.1 hb with rfl | rfl | rfl | ⟨n, hn, hk⟩
   ·exact l1
   ·exact l2
   ·exact l3
   ·exact l4 n hn b hk
  ·cases hI : I b o with
   | none => rfl
   | some x => exact absurd (hH.mem.lt hI) (by have := hnew b hb; omega)
  ·have := hnew b hb
   omega⟩
end
end Go.Proofs.YtpcjmefchclhhaaGreat
namespace Go.Proofs.YtpcjmefchclhhaaGreat
open Go.RowKit
set_option maxRecDepth 100000
def ansG (p : RFs × (Int × Int) × Int × List UInt8) : G := .agg [.v (.int .i64 p.2.1.1), .v (.int .i64 p.2.1.2), .v (.string ⟨p.2.2.2.toArray⟩), .v (.int .i64 p.2.2.1)]
def DoesP (r : RFs) (K : Nat) (o : OpF) (g : G) (rs : List R) : Prop := g = ansG (doP r o) ∧ ∃ K', K' ≤ K + 1 ∧ rs = fP (doP r o).1 K' ∧ Gd (doP r o).1 K'
set_option maxHeartbeats 4000000 in
theorem does_o (r : RFs) {K : Nat} (hG : Gd r K) (hK : K ≤ 1000000) (o : OpF) (hO : SmallO o) : FnO Tryz.prog 18 [.ptr 0 0, enO o] (fP r K) (DoesP r K o) := by
 refine fnoG Tryz.func18 (by kernel_rfl) rfl (Nat.le_of_ble_eq_true (by kernel_rfl)) (by kernel_rfl) (lent1 _ _) ?_
 have hX : ∀ r' h e b K', doP r o = (r', h, e, b) → K' ≤ K + 1 → Gd r' K' → DoesP r K o (.agg [.v (.int .i64 h.1), .v (.int .i64 h.2), .v (.string ⟨b.toArray⟩), .v (.int .i64 e)]) (fP r' K') := fun r' h e b K' hd hK' hg => by unfold DoesP; rw [hd]; exact ⟨rfl, K', hK', rfl, hg⟩
 generalize DoesP r K o = X at hX
 have up : ∀ {r'}, Gd r' K → K ≤ K + 1 := fun _ => Nat.le_succ K
 refine EvIf.beq (fun (h0 : o.kind = 0) => ?_) (fun (h0 : ¬ o.kind = 0) => ?_)
 ·repeat' first
   | refine (own_q _ _).cal fun q hq => ?_; subst hq
   | refine (make_o hK o.h o.name hO.nm o.m hO.tg).cal fun q rs hq => ?_; obtain ⟨rfl, rfl, hG'⟩ := hq
   | refine And.intro ?_ ?_
  all_goals exact end_abs rfl rfl (hX _ _ _ _ _ (by unfold doP; rw [if_pos h0]) (Nat.le_refl _) hG')
 refine EvIf.beq (fun (h1 : o.kind = 1) => ?_) (fun (h1 : ¬ o.kind = 1) => ?_)
 ·repeat' first
   | refine (own_q _ _).cal fun q hq => ?_; subst hq
   | refine (link_o o.h o.g o.name hO.nm).cal fun q rs hq => ?_; obtain ⟨rfl, rfl, hG'⟩ := hq
   | refine And.intro ?_ ?_
  all_goals exact end_abs rfl rfl (hX _ _ _ _ _ (by unfold doP; rw [if_neg h0]; rw [if_pos h1]) (Nat.le_refl _) hG')
 refine EvIf.beq (fun (h2 : o.kind = 2) => ?_) (fun (h2 : ¬ o.kind = 2) => ?_)
 ·repeat' first
   | refine (own_q _ _).cal fun q hq => ?_; subst hq
   | refine (remove_o o.h o.name hO.nm o.fo).cal fun q rs hq => ?_; obtain ⟨rfl, rfl, hG'⟩ := hq
   | refine And.intro ?_ ?_
  all_goals exact end_abs rfl rfl (hX _ _ _ _ _ (by unfold doP; rw [if_neg h0]; rw [if_neg h1]; rw [if_pos h2]) (Nat.le_succ _) hG')
 refine EvIf.beq (fun (h3 : o.kind = 3) => ?_) (fun (h3 : ¬ o.kind = 3) => ?_)
 ·repeat' first
   | refine (own_q _ _).cal fun q hq => ?_; subst hq
   | refine (rename_o o.h o.name hO.nm o.g o.other hO.ot).cal fun q rs hq => ?_; obtain ⟨rfl, rfl, hG'⟩ := hq
   | refine And.intro ?_ ?_
  all_goals exact end_abs rfl rfl (hX _ _ _ _ _ (by unfold doP; rw [if_neg h0]; rw [if_neg h1]; rw [if_neg h2]; rw [if_pos h3]) (Nat.le_succ _) hG')
 refine EvIf.beq (fun (h4 : o.kind = 4) => ?_) (fun (h4 : ¬ o.kind = 4) => ?_)
 ·repeat' first
   | refine (own_q _ _).cal fun q hq => ?_; subst hq
   | refine (write_o o.h o.pos o.b hO.bl o.time).cal fun q rs hq => ?_; obtain ⟨rfl, rfl, hG'⟩ := hq
   | refine And.intro ?_ ?_
  all_goals exact end_abs rfl rfl (hX _ _ _ _ _ (by unfold doP; rw [if_neg h0]; rw [if_neg h1]; rw [if_neg h2]; rw [if_neg h3]; rw [if_pos h4]) (Nat.le_succ _) hG')
 refine EvIf.beq (fun (h5 : o.kind = 5) => ?_) (fun (h5 : ¬ o.kind = 5) => ?_)
 ·repeat' first
   | refine (own_q _ _).cal fun q hq => ?_; subst hq
   | refine (cut_o o.h o.n o.time).cal fun q rs hq => ?_; obtain ⟨rfl, rfl, hG'⟩ := hq
   | refine And.intro ?_ ?_
  all_goals exact end_abs rfl rfl (hX _ _ _ _ _ (by unfold doP; rw [if_neg h0]; rw [if_neg h1]; rw [if_neg h2]; rw [if_neg h3]; rw [if_neg h4]; rw [if_pos h5]) (Nat.le_succ _) hG')
 refine EvIf.beq (fun (h6 : o.kind = 6) => ?_) (fun (h6 : ¬ o.kind = 6) => ?_)
 ·repeat' first
   | refine (own_q _ _).cal fun q hq => ?_; subst hq
   | refine (look_o o.h o.name hO.nm).cal fun q rs hq => ?_; obtain ⟨rfl, rfl⟩ := hq
   | refine And.intro ?_ ?_
  all_goals exact end_abs rfl rfl (hX _ _ _ _ _ (by unfold doP; rw [if_neg h0]; rw [if_neg h1]; rw [if_neg h2]; rw [if_neg h3]; rw [if_neg h4]; rw [if_neg h5]; rw [if_pos h6]) (Nat.le_succ _) hG)
 refine EvIf.beq (fun (h7 : o.kind = 7) => ?_) (fun (h7 : ¬ o.kind = 7) => ?_)
 ·repeat' first
   | refine (own_q _ _).cal fun q hq => ?_; subst hq
   | refine (fread_o o.h o.pos o.n).cal fun q rs hq => ?_; obtain ⟨rfl, rfl⟩ := hq
   | refine And.intro ?_ ?_
  all_goals exact ⟨⟨_, rfl, end_abs rfl rfl (hX _ _ _ _ _ (by unfold doP; rw [if_neg h0]; rw [if_neg h1]; rw [if_neg h2]; rw [if_neg h3]; rw [if_neg h4]; rw [if_neg h5]; rw [if_neg h6]; rw [if_pos h7]) (Nat.le_succ _) hG)⟩⟩
 exact end_abs rfl rfl (hX _ _ _ _ _ (by unfold doP; rw [if_neg h0]; rw [if_neg h1]; rw [if_neg h2]; rw [if_neg h3]; rw [if_neg h4]; rw [if_neg h5]; rw [if_neg h6]; rw [if_neg h7]) (Nat.le_succ _) hG)
end Go.Proofs.YtpcjmefchclhhaaGreat
namespace Go.Proofs.YtpcjmefchclhhaaGreat
open Go.RowKit
set_option maxRecDepth 100000
noncomputable def runF (r : RFs) (l : List OpF) : RFs := l.foldl (fun r o => (doP r o).1) r
theorem runF_take {r : RFs} {l : List OpF} {i : Nat} {o : OpF} (h : l[i]? = some o) : runF r (l.take (i + 1)) = (doP (runF r (l.take i)) o).1 := by
 unfold runF
 rw [take_more h, List.foldl_append]; rfl
def fC (r : RFs) : List G := [.v (.int .i64 r.room), .sl (r.ins.map enI), .sl (r.nms.map enN), .sl (r.gens.map enG)]
def PlaysP (r : RFs) (K : Nat) (l : List OpF) (g : G) (rs : List R) : Prop := g = .tup [enF (runF r l), .v (.bool true)] ∧ ∃ K', K' ≤ K + l.length ∧ rs = fP (runF r l) K' ∧ Gd (runF r l) K'
theorem eqRf {r r' : RFs} {K : Nat} (h : r = r') : (some (R.abs (fsP r K)) : Option R) = some (R.abs (fsP r' K)) := by rw [h]
theorem eqRb {r r' : RFs} {t : TypeId} (h : r = r') : (some (R.blk (fC r) t) : Option R) = some (R.blk (fC r') t) := by rw [h]
set_option maxHeartbeats 4000000 in
theorem plays_o (r : RFs) {K : Nat} (hG : Gd r K) (l : List OpF) (hK : K + l.length ≤ 999999) (hO : ∀ o ∈ l, SmallO o) : FnO Tryz.prog 11 [.ptr 0 0, enF r, .sl (l.map cellO)] (fP r K) (PlaysP r K l) := by
 refine fnoG Tryz.func11 (by kernel_rfl) rfl (Nat.le_of_ble_eq_true (by kernel_rfl)) (by kernel_rfl) (lent1 _ _) ?_
 refine sx_loop [0, 4, 6, 12, 13] [2] (fun x : Nat × Nat => [(14, .v (.int .i64 x.1))]) (fun x => [(0, .abs (fsP (runF r (l.take x.1)) x.2)), (1, .blk (fC (runF r (l.take x.1))) 33)]) (fun x => x.1 ≤ l.length ∧ x.2 ≤ K + x.1 ∧ Gd (runF r (l.take x.1)) x.2) (fun x => l.length - x.1) (0, K) ⟨by omega, by omega, hG⟩ ⟨⟨rfl, rfl⟩, trivial⟩ ⟨⟨rfl, rfl, rfl⟩, ⟨rfl, rfl, rfl⟩, trivial⟩ rfl fun ⟨i, K'⟩ ⟨hi, hK', hg⟩ => ?_
 dsimp only at hi hK' hg
 refine EvIf.dec (fun h => ?_) (fun h => ?_)
 ·refine EvIdx.of (by simpa using h) fun o ho => ?_
  have hlt := lt_of_at ho
  have hOo := hO o (List.mem_of_getElem? ho)
  have ht := runF_take (r := r) ho
  have hF : Few (runF r (l.take i)) := few_of hg.wf (by omega)
  refine (do_q (runF r (l.take i)) hF hg.wf (by omega) hg.shs o hOo).cal fun q hq => ?_
  subst hq
  refine (does_o (runF r (l.take i)) hg (by omega) o hOo).cal fun q rs hq => ?_
  obtain ⟨rfl, K2, hK2, rfl, hg2⟩ := hq
  refine EvEq.flat [.i .i64, .i .i64, .s, .i .i64] [_, _, _, _] [_, _, _, _] (by kernel_rfl) (by kernel_rfl) (by kernel_rfl) rfl rfl rfl rfl (fun _ => ?_) (fun h => absurd rfl h)
  refine ⟨fun h => (by cases h), fun _ => ⟨by omega, (i + 1, K2), ⟨by dsimp only; omega, by dsimp only; omega, ?_⟩, (by dsimp only; omega), ?_⟩⟩
  ·rw [ht]; exact hg2
  ·refine ⟨?_, ?_, rfl⟩ <;> repeat' (first | exact True.intro | with_reducible rfl | exact rfl | refine And.intro ?_ ?_)
   ·exact eqRf ht.symm
   ·exact eqRb ht.symm
 ·have hil : i = l.length := by simp at h; omega
  subst hil
  refine end_abs rfl rfl ?_
  rw [List.take_length] at hg ⊢
  exact ⟨rfl, K', by omega, rfl, hg⟩
end Go.Proofs.YtpcjmefchclhhaaGreat
namespace Go.Proofs.YtpcjmefchclhhaaGreat
structure Alike (r r2 : RFs) : Prop where
 room : r2.room = r.room
 ids : (r.ins.map (·.id)).Nodup
 ins : r2.ins.Perm r.ins
 nms : r2.nms.Perm r.nms
section
variable {r r2 : RFs}
theorem Alike.refl {K : Nat} (h : Wf r K) : Alike r r := ⟨rfl, h.ids, .refl _, .refl _⟩
theorem Alike.byId (h : Alike r r2) (j : Int) : byIdP r2.ins j = byIdP r.ins j := by
 by_cases hj : ∃ x ∈ r.ins, x.id = j
 ·obtain ⟨x, hx, rfl⟩ := hj
  rw [byIdP_of h.ids hx, byIdP_of ((h.ins.map (·.id)).nodup_iff.2 h.ids) (h.ins.mem_iff.2 hx)]
 ·rw [byIdP_none fun x hx e => hj ⟨x, hx, e⟩, byIdP_none fun x hx e => hj ⟨x, h.ins.mem_iff.1 hx, e⟩]
theorem Alike.live (h : Alike r r2) (k : Int × Int) : liveP r2 k = liveP r k := by unfold liveP; rw [h.byId]
theorem Alike.folder (h : Alike r r2) (k : Int × Int) : folderE r2 k = folderE r k := by unfold folderE; rw [h.live, h.byId]
theorem Alike.sheet (h : Alike r r2) (k : Int × Int) : sheetE r2 k = sheetE r k := by unfold sheetE; rw [h.live, h.byId]
theorem Alike.links (h : Alike r r2) (x : RIn) : linksN r2 x = linksN r x := by
 unfold linksN
 simp only [h.byId]
 rw [h.nms.countP_eq, h.nms.countP_eq]
theorem Alike.size (h : Alike r r2) (x : RIn) : sizeN r2 x = sizeN r x := by
 unfold sizeN manyP
 rw [h.nms.countP_eq]
theorem Alike.stat (h : Alike r r2) (k : Int × Int) : statE r2 k = statE r k := by unfold statE; rw [h.live, h.byId, h.links, h.size]
theorem Alike.target (h : Alike r r2) (k : Int × Int) : targetP r2 k = targetP r k := by unfold targetP; rw [h.live, h.byId]
theorem Alike.read (h : Alike r r2) (k : Int × Int) (a n : Int) : freadP r2 k a n = freadP r k a n := by unfold freadP; rw [h.sheet, h.byId]
theorem Alike.free (h : Alike r r2) : roomP r2 = roomP r := by
 unfold roomP usedN
 rw [h.room, (h.ins.map _).sum_nat]
theorem Alike.len (h : Alike r r2) : r2.ins.length = r.ins.length := h.ins.length_eq
theorem map_data_inj : ∀ {l m : List ByteArray}, l.map (fun c => c.data.toList) = m.map (fun c => c.data.toList) → l = m
 | [], [], _ => rfl
 | a :: l, b :: m, h => by
  obtain ⟨h1, h2⟩ := List.cons.inj h
  rw [map_data_inj h2]
  cases a; cases b
  rw [ByteArray.mk.injEq _ _ |>.mpr (Array.toList_inj.1 h1)]
theorem Alike.list (h : Alike r r2) (k : Int × Int) : listP r2 k = listP r k := by
 by_cases hf : folderE r k = 0
 ·refine map_data_inj ?_
  rw [listP_sorted r2 k ((h.folder k).trans hf), listP_sorted r k hf]
  refine List.Perm.eq_of_pairwise (le := fun a b : List UInt8 => a ≤ b) (fun a b _ _ h1 h2 => List.le_antisymm h1 h2) ?_ ?_ (?_ : List.Perm _ _)
  ·exact (List.pairwise_mergeSort leB_trans leB_total _).imp (fun h => by simpa using h)
  ·exact (List.pairwise_mergeSort leB_trans leB_total _).imp (fun h => by simpa using h)
  ·refine (sortedN_perm _).trans (List.Perm.trans ?_ (sortedN_perm _).symm)
   unfold namesP
   exact ((h.nms.filter _).map _).map _
 ·rw [show listP r2 k = [] from if_neg (by rw [h.folder]; exact hf), show listP r k = [] from if_neg hf]
end
end Go.Proofs.YtpcjmefchclhhaaGreat
namespace Go.Proofs.YtpcjmefchclhhaaGreat
open Go.RowKit
set_option maxRecDepth 100000
theorem target_o {r : RFs} {K : Nat} (h : Int × Int) : FnO Tryz.prog 35 [.ptr 0 0, gH h] (fP r K) fun g rs => g = .tup [gS (targetP r h).1, gI (targetP r h).2] ∧ rs = fP r K :=
 fs_read ⟨_, Tryz.func35, by kernel_rfl, by kernel_rfl⟩ rfl fun I w b mi mg N vs hM hN hW hp => by
  obtain ⟨x1, vs, rfl, h1, hp⟩ := hp.uncons
  obtain rfl := hp.of_nil
  rw [vrep_h h1]
  exact (target_any hN hW h.1 h.2).mono fun e w' ⟨he, hb⟩ => ⟨_, he, vr_tup2 (.v _) (.v _), hb⟩
def aS : ByteArray := ⟨#[97]⟩
def bS : ByteArray := ⟨#[98]⟩
def alive1 : RFs := (makeP (newP 9) (1, 1) aS ⟨2, 0, 0, noStr⟩).1
def alive2 : RFs := (makeP alive1 (2, 1) bS ⟨1, 0, 0, noStr⟩).1
theorem alive_m1 : (makeP (newP 9) (1, 1) aS ⟨2, 0, 0, noStr⟩).2 = ((2, 1), 0) := by decide +kernel
theorem alive_m2 : (makeP alive1 (2, 1) bS ⟨1, 0, 0, noStr⟩).2 = ((3, 1), 0) := by decide +kernel
theorem alive_m3 : (removeP alive2 (1, 1) aS true).2 = 174 := by decide +kernel
set_option maxHeartbeats 4000000 in
theorem alive_v : FnV Tryz.prog 10 [] fun q => q = .v (.bool true) := by
 refine fnG Tryz.func10 (by kernel_rfl) rfl (Nat.le_of_ble_eq_true (by kernel_rfl)) (by kernel_rfl) ?_
 refine (new_o 9 (by decide)).cal fun q rs hq => ?_
 obtain ⟨rfl, rfl, hG⟩ := hq
 refine (root_o).cal fun q rs hq => ?_
 obtain ⟨rfl, rfl⟩ := hq
 refine (make_o (by decide) (1, 1) aS (by decide) ⟨2, 0, 0, noStr⟩ (by decide)).cal fun q rs hq => ?_
 rw [alive_m1] at hq
 obtain ⟨rfl, rfl, hG⟩ := hq
 refine (make_o (r := alive1) (by decide) (2, 1) bS (by decide) ⟨1, 0, 0, noStr⟩ (by decide)).cal fun q rs hq => ?_
 rw [alive_m2] at hq
 obtain ⟨rfl, rfl, hG⟩ := hq
 refine EvIf.beq (fun _ => ?_) fun hh => absurd rfl hh
 refine EvIf.beq (fun _ => ?_) fun hh => absurd rfl hh
 refine EvEq.flat [.i .i64, .i .i64] [_, _] [_, _] (by kernel_rfl) (by kernel_rfl) (by kernel_rfl) rfl rfl rfl rfl (fun _ => ?_) (fun h => absurd rfl h)
 refine EvIf.mk (fun _ => ?_) fun hh => by cases hh
 refine EvIf.beq (fun _ => ?_) fun hh => absurd rfl hh
 refine (root_o).cal fun q rs hq => ?_
 obtain ⟨rfl, rfl⟩ := hq
 refine (remove_o (r := alive2) (1, 1) aS (by decide) true).cal fun q rs hq => ?_
 rw [alive_m3] at hq
 obtain ⟨rfl, rfl, hG⟩ := hq
 exact rfl
theorem listP_len (r : RFs) (h : Int × Int) : (listP r h).length ≤ r.nms.length := by
 by_cases hf : folderE r h = 0
 ·have e : listP r h = r.nms.foldl (listT h.1) [] := if_pos hf
  obtain ⟨-, h2⟩ := listT_ok h.1 r.nms [] .nil
  rw [e, h2.length_eq, List.append_nil, List.length_map]
  exact List.length_filter_le _ _
 ·rw [show listP r h = [] from if_neg hf]; simp
set_option maxHeartbeats 4000000 in
theorem same_o (r r2 : RFs) {K K2 : Nat} (hG : Gd r K) (hK : K ≤ 1000000) (hK2 : K2 ≤ 1000000) (hA : Alike r r2) (h : Int × Int) : FnO Tryz.prog 16 [.ptr 0 0, enF r, gH h] (fP r2 K2) fun g rs => g = .v (.bool true) ∧ rs = fP r2 K2 := by
 refine fnoG Tryz.func16 (by kernel_rfl) rfl (Nat.le_of_ble_eq_true (by kernel_rfl)) (by kernel_rfl) (lent1 _ _) ?_
 have hF := few_of hG.wf hK
 refine (own_q _ _).cal fun q hq => ?_; subst hq
 refine (stat_o h).cal fun q rs hq => ?_
 rw [hA.stat] at hq
 obtain ⟨rfl, rfl⟩ := hq
 have hsq := stat_q r hF hG.wf h.1 h.2
 have hs : ∃ a b c d e f i j k, statE r h = .tup [.agg [gI a, gI b, gI c, gI d, gI e, gI f, gI i, gI j], gI k] := by
  unfold statE
  split
  ·exact ⟨_, _, _, _, _, _, _, _, _, rfl⟩
  ·exact ⟨_, _, _, _, _, _, _, _, _, rfl⟩
 rw [show statE r (h.1, h.2) = statE r h from rfl] at hsq
 obtain ⟨a, b, c, d, e, f, i, j, k, hs⟩ := hs
 rw [hs] at hsq ⊢
 refine hsq.cal fun q hq => ?_
 subst hq
 repeat' first
  | refine EvIf.bne (fun hh => absurd rfl hh) fun _ => ?_
  | refine EvIf.mk (fun hh => by cases hh) fun _ => ?_
 refine (own_q _ _).cal fun q hq => ?_; subst hq
 refine (list_o hK2 h).cal fun q rs hq => ?_
 rw [hA.list, hA.folder] at hq
 obtain ⟨rfl, rfl⟩ := hq
 refine (list_q r hF h.1 h.2).cal fun q hq => ?_; subst hq
 repeat' first
  | refine EvIf.bne (fun hh => absurd rfl hh) fun _ => ?_
  | refine EvIf.mk (fun hh => by cases hh) fun _ => ?_
 refine sx_loop [0, 4, 5, 11, 12, 118] [0, 1, 2] (fun n : Nat => [(119, .v (.int .i64 n))]) (fun _ => []) (fun n => n ≤ (listP r h).length) (fun n => (listP r h).length - n) 0 (by omega) ⟨⟨rfl, rfl⟩, trivial⟩ trivial rfl fun n hn => ?_
 refine EvIf.dec (fun hlt => ?_) (fun hlt => ?_)
 ·refine EvIdx.of (by simpa using hlt) fun x hx => ?_
  refine EvIdx.at hx ?_
  have := lt_of_at hx
  refine EvIf.bneS (fun hh => absurd rfl hh) fun _ => ⟨by have := hF.n; have := listP_len r h; omega, n + 1, by omega, (by dsimp only; omega), ?_⟩
  refine ⟨?_, ?_, rfl⟩ <;> repeat' (first | exact True.intro | with_reducible rfl | exact rfl | refine And.intro ?_ ?_)
 refine (own_q _ _).cal fun q hq => ?_; subst hq
 refine (target_o h).cal fun q rs hq => ?_
 rw [hA.target] at hq
 obtain ⟨rfl, rfl⟩ := hq
 refine (target_q r hF h.1 h.2).cal fun q hq => ?_; subst hq
 refine (own_q _ _).cal fun q hq => ?_; subst hq
 refine (fread_o h 0 1048576).cal fun q rs hq => ?_
 rw [hA.read] at hq
 obtain ⟨rfl, rfl⟩ := hq
 refine (readf_q r hF hG.wf hG.shs h.1 h.2 0 1048576).cal fun q hq => ?_; subst hq
 repeat' first
  | refine EvIf.beq (fun _ => ?_) fun hh => absurd rfl hh
  | refine EvIf.beqS (fun _ => ?_) fun hh => absurd rfl hh
  | refine EvIf.mk (fun _ => ?_) fun hh => by cases hh
  | refine EvBytes.mk ⟨_, rfl, ?_⟩
 exact end_abs rfl rfl ⟨by simp, rfl⟩
set_option maxHeartbeats 4000000 in
theorem stands_o (r r2 : RFs) {K K2 : Nat} (hG : Gd r K) (hK : K ≤ 1000000) (hK2 : K2 ≤ 1000000) (hA : Alike r r2) : FnO Tryz.prog 17 [.ptr 0 0, enF r] (fP r2 K2) fun g rs => g = .v (.bool true) ∧ rs = fP r2 K2 := by
 refine fnoG Tryz.func17 (by kernel_rfl) rfl (Nat.le_of_ble_eq_true (by kernel_rfl)) (by kernel_rfl) (lent1 _ _) ?_
 have hF := few_of hG.wf hK
 have hi := hF.i
 refine sx_loop [0, 3, 10, 11] [0, 1] (fun n : Nat => [(12, .v (.int .i64 n))]) (fun _ => []) (fun n => n ≤ r.ins.length) (fun n => r.ins.length - n) 0 (by omega) ⟨⟨rfl, rfl⟩, trivial⟩ trivial rfl fun n hn => ?_
 refine EvIf.dec (fun hlt => ?_) (fun hlt => ?_)
 ·refine EvIdx.of (by simpa using hlt) fun x hx => ?_
  have := lt_of_at hx
  refine (same_o r r2 hG hK hK2 hA (x.id, x.gen)).cal fun q rs hq => ?_
  obtain ⟨rfl, rfl⟩ := hq
  refine EvIf.mk (fun hh => by cases hh) fun _ => ⟨by omega, n + 1, by omega, (by dsimp only; omega), ?_⟩
  refine ⟨?_, ?_, rfl⟩ <;> repeat' (first | exact True.intro | with_reducible rfl | exact rfl | refine And.intro ?_ ?_)
 refine (free_o).cal fun q rs hq => ?_
 rw [hA.free, hA.len] at hq
 obtain ⟨rfl, rfl⟩ := hq
 refine (free_q r hF hG.wf).cal fun q hq => ?_; subst hq
 refine EvIf.beq (fun _ => ?_) fun hh => absurd rfl hh
 refine ⟨by simp; omega, ?_⟩
 exact end_abs rfl rfl ⟨by simp, rfl⟩
end Go.Proofs.YtpcjmefchclhhaaGreat
namespace Go.Proofs.YtpcjmefchclhhaaGreat
open Go.RowKit
set_option maxRecDepth 100000
theorem fewFO_len {l : List OpF} (h : (decide (l.length ≤ 250) && l.all fewFO) = true) : l.length ≤ 250 := by simp at h; exact h.1
end Go.Proofs.YtpcjmefchclhhaaGreat
namespace Go.Proofs.YtpcjmefchclhhaaGreat
open Go.RowKit
def opSp : List Sp := [.i .i64, .i .i64, .i .i64, .i .i64, .i .i64, .s, .s, .i .i64, .i .i64, .i .i64, .s, .b, .i .i64, .i .i64, .i .i64, .sl [.i .u8]]
theorem op_of {r : List G} (h : TyL opSp r) : ∃ o : OpF, r = cellO o ∧ SmallO o := by
 obtain ⟨a0, r, rfl, -, h⟩ := h.i_inv
 obtain ⟨a1, r, rfl, -, h⟩ := h.i_inv
 obtain ⟨a2, r, rfl, -, h⟩ := h.i_inv
 obtain ⟨a3, r, rfl, -, h⟩ := h.i_inv
 obtain ⟨a4, r, rfl, -, h⟩ := h.i_inv
 obtain ⟨a5, r, rfl, h5, h⟩ := h.s_inv
 obtain ⟨a6, r, rfl, h6, h⟩ := h.s_inv
 obtain ⟨a7, r, rfl, -, h⟩ := h.i_inv
 obtain ⟨a8, r, rfl, -, h⟩ := h.i_inv
 obtain ⟨a9, r, rfl, -, h⟩ := h.i_inv
 obtain ⟨a10, r, rfl, h10, h⟩ := h.s_inv
 obtain ⟨a11, r, rfl, -, h⟩ := h.b_inv
 obtain ⟨a12, r, rfl, -, h⟩ := h.i_inv
 obtain ⟨a13, r, rfl, -, h⟩ := h.i_inv
 obtain ⟨a14, r, rfl, -, h⟩ := h.i_inv
 obtain ⟨a15, r, rfl, hl, hr, h⟩ := h.sl_inv
 obtain rfl := h.nil_inv
 obtain ⟨bs, rfl, -⟩ := rows_of (f := gBy) (Q := fun _ => True) fun r h => byte_of (hr r h)
 exact ⟨⟨a0, (a1, a2), (a3, a4), a5, a6, ⟨a7, a8, a9, a10⟩, a11, a12, a13, a14, bs⟩, rfl, h5, h6, h10, by simpa using hl⟩
theorem ops_of {g : G} (h : TyL [.sl opSp] [g]) : ∃ l : List OpF, g = .sl (l.map cellO) ∧ ∀ o ∈ l, SmallO o := by
 obtain ⟨rows, r, e, hl, hr, h⟩ := h.sl_inv
 obtain rfl := h.nil_inv
 obtain ⟨l, rfl, hq⟩ := rows_of (f := cellO) (Q := SmallO) fun r h => op_of (hr r h)
 exact ⟨l, by simpa using e, hq⟩
end Go.Proofs.YtpcjmefchclhhaaGreat

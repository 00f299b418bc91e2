/- A part of the proof. -/
import Derived.Test.YtalfffamppmooaaGreatDoorZZSj
namespace Go.Proofs.YtalfffamppmooaaGreatDoor
open Go.RowKit
set_option maxRecDepth 100000
structure ROS where
 zx : Int
 t : RT
def enOS (o : ROS) : List G := gI o.zx :: enT o.t
structure SmT11 (t : RT) : Prop where
 len : t.l.length ≤ 2000000
 path : ∀ c ∈ t.l, c.path.size ≤ maxZ
def playS (s : RSt) (l : List ROS) : RSt := l.foldl (fun s o => (applyS s o.zx o.t).s) s
theorem playS_step {s : RSt} {l : List ROS} {i : Nat} {o : ROS} (h : l[i]? = some o) : playS s (l.drop i) = playS (applyS s o.zx o.t).s (l.drop (i + 1)) := by
 rw [List.drop_eq_getElem_cons (List.getElem?_eq_some_iff.1 h).1, (List.getElem?_eq_some_iff.1 h).2]; rfl
theorem ws_play : ∀ {l : List ROS} {s : RSt}, WS s → WS (playS s l)
 | [], _, h => h
 | o :: l, _, h => ws_play (l := l) (ws_apply h o.zx o.t)
theorem forg_len (l : List RLa) (id : Int) : (forgA l id).length ≤ l.length := List.length_filter_le _ _
theorem change_la (s : RSt) (t : RT) : (changeS s t).s.la.length ≤ s.la.length + 1 := by
 have := forg_len s.la t.se
 unfold changeS
 split
 ·exact Nat.le_succ _
 ·split
  ·exact Nat.le_succ _
  ·show (forgA s.la t.se ++ _).length ≤ _
   rw [List.length_append, List.length_singleton]; omega
theorem step_la (s : RSt) (t : RT) : (stepS s t).s.la.length ≤ s.la.length + 1 := by
 have := forg_len s.la t.se
 have := change_la s t
 unfold stepS
 split
 ·exact Nat.le_succ _
 split
 ·exact Nat.le_succ _
 split
 ·exact Nat.le_succ _
 split
 ·exact Nat.le_succ _
 split
 ·exact this
 split
 ·exact Nat.le_succ _
 ·show (forgA s.la t.se).length ≤ _; omega
theorem apply_la (s : RSt) (zx : Int) (t : RT) : (applyS s zx t).s.la.length ≤ s.la.length + 1 := by
 unfold applyS
 split
 ·exact Nat.le_succ _
 ·exact step_la _ t
theorem play_la : ∀ (l : List ROS) (s : RSt), (playS s l).la.length ≤ s.la.length + l.length
 | [], s => Nat.le_refl _
 | o :: l, s => by
  have h1 := apply_la s o.zx o.t
  have h2 := play_la l (applyS s o.zx o.t).s
  show (playS (applyS s o.zx o.t).s l).la.length ≤ _
  rw [List.length_cons]; omega
structure ShA (a : RSA) : Prop where
 ps : a.r.ps.length ≤ 6
 ev : a.ev.length ≤ 1000
theorem find_ps {s : RSt} (h : WS s) (id : Int) : (findS s id).r.ps.length ≤ 6 := by
 unfold findS
 cases hf : findA s.la id with
 | none => exact Nat.zero_le _
 | some y => exact h.la.ps y (findA_se hf).1
theorem change_sh {s : RSt} (h : WS s) (t : RT) : ShA (changeS s t) := by
 unfold changeS
 split
 ·exact ⟨Nat.zero_le _, Nat.zero_le _⟩
 ·next h1 =>
  have h1 : ¬ (t.nu < 1 ∨ t.nu > big ∨ t.nu < (findS s t.se).nu ∨ t.l.length > 6) := fun hh => h1 (decide_eq_true hh)
  obtain ⟨d1, d2⟩ := do_lens s.t s.zx t.se t.l
  split
  ·exact ⟨find_ps h t.se, Nat.zero_le _⟩
  ·exact ⟨by show (doZ s.t s.zx t.se t.l).ps.length ≤ 6; omega, by show (doZ s.t s.zx t.se t.l).ev.length ≤ 1000; omega⟩
theorem step_sh {s : RSt} (h : WS s) (t : RT) : ShA (stepS s t) := by
 unfold stepS
 split
 ·refine ⟨?_, Nat.zero_le _⟩
  show (if _ then _ else _ : RRp).ps.length ≤ 6
  split <;> exact Nat.zero_le _
 split
 ·exact ⟨Nat.zero_le _, Nat.zero_le _⟩
 split
 ·exact ⟨Nat.zero_le _, Nat.zero_le _⟩
 split
 ·exact ⟨Nat.zero_le _, Nat.zero_le _⟩
 split
 ·exact change_sh h t
 split
 ·exact ⟨Nat.zero_le _, Nat.zero_le _⟩
 ·exact ⟨Nat.zero_le _, by have := end_len h.t s.zx t.se; show (endZ s.t s.zx t.se).2.length ≤ 1000; omega⟩
theorem apply_sh {s : RSt} (h : WS s) (zx : Int) (t : RT) : ShA (applyS s zx t) := by
 unfold applyS
 split
 ·exact ⟨Nat.zero_le _, Nat.zero_le _⟩
 ·next hc =>
  have h0 := h.zx
  exact step_sh (s := ⟨zx, s.t, s.ls, s.la⟩) ⟨by show 0 ≤ zx ∧ zx ≤ big; omega, h.t, h.ls, h.la⟩ t
theorem jn2 {α β : Type} {P T : α → β → Prop} {G : Prop} (f : (∀ a b, P a b → T a b) → G) (x : ∀ a b, P a b → T a b) : G := f x
structure PlyI (s0 : RSt) (l : List ROS) (x : Nat × RSt × Mp × List (Int × G)) : Prop where
 le : x.1 ≤ l.length
 ws : WS x.2.1
 sm : SM x.2.1 x.2.2.1 x.2.2.2
 run : playS s0 l = playS x.2.1 (l.drop x.1)
 la : x.2.1.la.length ≤ s0.la.length + x.1
set_option maxHeartbeats 2000000 in
theorem plays11_o {s : RSt} (h : WS s) {m : Mp} {L : List (Int × G)} (hm : SM s m L) (l : List ROS) (hl : l.length ≤ 1000000) (hla : s.la.length ≤ 50000000) (hO : ∀ o ∈ l, SmT11 o.t) : FnO Tryz.prog 13 [.ptr 0 0, .agg (enSt s), .sl (l.map enOS)] (oS s.zx m s.ls L) fun g rs => g = .tup [.agg (enSt (playS s l)), .v (.bool true)] ∧ StP (playS s l) rs := by
 refine fnoG Tryz.func13 (by kernel_rfl) rfl (Nat.le_of_ble_eq_true (by kernel_rfl)) (by kernel_rfl) (lent_id _ _) ?_
 refine sx_loop [0, 4, 6, 15, 16] [5] (fun x : Nat × RSt × Mp × List (Int × G) => [(17, gI x.1)]) (fun x => [(0, .blk [gI x.2.1.zx, .ptr 1 0, .ptr 2 0, .mp 3] tSta), (1, .abs (cl (oO x.2.2.1))), (2, .abs (cl (oTs x.2.1.ls))), (3, .mpI x.2.2.2), (4, .blk (enSt x.2.1) tR11)]) (PlyI s l) (fun x => l.length - x.1) (0, s, m, L) ⟨by simp, h, hm, rfl, by simp⟩ ⟨⟨rfl, rfl⟩, trivial⟩ ⟨⟨rfl, rfl, rfl⟩, ⟨rfl, rfl, rfl⟩, ⟨rfl, rfl, rfl⟩, ⟨rfl, rfl, rfl⟩, ⟨rfl, rfl, rfl⟩, trivial⟩ rfl fun ⟨i, t, m', L'⟩ hI => ?_
 have hle : i ≤ l.length := hI.le
 have hw' : WS t := hI.ws
 have hM : SM t m' L' := hI.sm
 have hrun : playS s l = playS t (l.drop i) := hI.run
 have hla' : t.la.length ≤ s.la.length + i := hI.la
 refine EvIf.dec (fun h1 => ?_) (fun h1 => ?_)
 ·refine EvIdx.of (by simpa using h1) fun o ho => ?_
  have hlt := lt_of_at ho
  have hs := hO o (List.mem_of_getElem? ho)
  rw [playS_step ho] at hrun
  have hws := ws_apply hw' o.zx o.t
  have hla2 := apply_la t o.zx o.t
  refine (apply_r hw' (by omega) o.zx o.t hs.len hs.path).cal fun q hq => ?_
  subst hq
  refine jn2 (P := fun m2 L2 => SM (applyS t o.zx o.t).s m2 L2) (T := ?T1) (fun hj => ?a1) ?b1
  case a1 =>
   refine And.intro ?_ ?_
   all_goals refine (ownT_v o.t).cal fun q hq => ?_; subst hq
   refine And.intro ?_ ?_
   all_goals refine (apply_o hw' hM o.zx o.t hs.len hs.path).cal fun q rs hq => ?_; obtain ⟨rfl, m2, L2, q1, rfl⟩ := hq
   all_goals (conv => whnf)
   exact hj m2 L2 q1
   all_goals exact hj m2 L2 q1
  intro m2 L2 q1
  refine (plain_v (applyS t o.zx o.t).r).cal fun q hq => ?_
  subst hq
  obtain ⟨hp6, hev⟩ := apply_sh hw' o.zx o.t
  refine (reply_r (applyS t o.zx o.t).r (by omega)).cal fun q hq => ?_
  subst hq
  refine EvIf.mk (fun hh => by cases hh) fun _ => ?_
  refine (events_r (applyS t o.zx o.t).ev (by omega)).cal fun q hq => ?_
  subst hq
  refine EvIf.mk (fun hh => by cases hh) fun _ => ?_
  refine (zxid_o (applyS t o.zx o.t).s.zx m2 (applyS t o.zx o.t).s.ls L2).cal fun q rs hq => ?_
  obtain ⟨rfl, rfl⟩ := hq
  refine EvIf.bne (fun hh => absurd rfl hh) fun _ => ⟨by dsimp only; omega, (i + 1, (applyS t o.zx o.t).s, m2, L2), ⟨by dsimp only; omega, hws, q1, hrun, by dsimp only; omega⟩, (by dsimp only; omega), ?_⟩
  refine ⟨?_, ?_, rfl⟩ <;> repeat' (first | exact True.intro | with_reducible rfl | exact rfl | refine And.intro ?_ ?_)
 ·have hk : i = l.length := by simp at h1; omega
  subst hk
  rw [List.drop_length] at hrun
  have hrun : playS s l = t := hrun
  rw [hrun]
  exact end_st t.zx m' t.ls L' rfl rfl rfl rfl rfl ⟨rfl, m', L', hM, rfl⟩
theorem stands11_o {s : RSt} (h : WS s) (hla : s.la.length ≤ 100000000) {m : Mp} {L : List (Int × G)} (hm : SM s m L) : FnO Tryz.prog 15 [.ptr 0 0, .agg (enSt s)] (oS s.zx m s.ls L) fun g rs => g = .v (.bool true) ∧ rs = oS s.zx m s.ls L := by
 refine fnoG Tryz.func15 (by kernel_rfl) rfl (Nat.le_of_ble_eq_true (by kernel_rfl)) (by kernel_rfl) (lent_id _ _) ?_
 have h1 := h.t.len
 have h2 := h.ls.len
 have h3 : (seenS s).la.length ≤ 100000000 := Nat.le_trans (List.length_filterMap_le _ _) (by omega)
 refine (seen_o h hm).cal fun q rs hq => ?_
 obtain ⟨rfl, rfl⟩ := hq
 refine EvIf.mk (fun _ => ?_) fun hh => by cases hh
 refine (same11_r (a := seenS s) (b := s) rfl rfl rfl (fun x hx => by rw [seen_find h hx]; exact ⟨rfl, rfl⟩) (fun x hx => by rw [seen_find h hx]; have := find_ps h x.id; omega) (by show s.t.length ≤ _; omega) (by show s.ls.length ≤ _; omega) h3 hla).cal fun q hq => ?_
 subst hq
 refine EvIf.mk (fun _ => ?_) fun hh => by cases hh
 refine (same11_r (a := s) (b := seenS s) rfl rfl rfl (fun x hx => by rw [seen_find h hx]; exact ⟨rfl, rfl⟩) (fun x hx => by have := find_ps h x.id; omega) (by omega) (by omega) hla h3).cal fun q hq => ?_
 subst hq
 exact end_st s.zx m s.ls L rfl rfl rfl rfl rfl ⟨rfl, rfl⟩
def fewS (l : List ROS) : Bool := (l.all fun o => decide (o.t.l.length ≤ 20)) && decide (l.length ≤ 150)
theorem few11_v (l : List ROS) (hl : l.length ≤ 10000000) : FnV Tryz.prog 11 [.sl (l.map enOS)] fun g => g = .v (.bool (fewS l)) := by
 refine fnG Tryz.func11 (by kernel_rfl) rfl (Nat.le_of_ble_eq_true (by kernel_rfl)) (by kernel_rfl) ?_
 refine sx_loop [0, 5, 6] [] (fun i : Nat => [(7, gI i)]) (fun _ => []) (fun i => i ≤ l.length ∧ ∀ o ∈ l.take i, o.t.l.length ≤ 20) (fun i => l.length - i) 0 ⟨by omega, by simp⟩ ⟨⟨rfl, rfl⟩, trivial⟩ trivial rfl fun i ⟨hi, hno⟩ => ?_
 refine EvIf.dec (fun h => ?_) (fun h => ?_)
 ·refine EvIdx.of (by simpa using h) fun o ho => ?_
  have hlt := lt_of_at ho
  refine EvIf.dec (fun h2 => ?_) (fun h2 => ?_)
  ·have h2 : o.t.l.length > 20 := by rw [List.length_map] at h2; omega
   have e : fewS l = false := by
    unfold fewS
    rw [Bool.and_eq_false_iff]
    refine .inl ?_
    rw [List.all_eq_false]
    exact ⟨o, List.mem_of_getElem? ho, by simp; omega⟩
   rw [e]; exact rfl
  ·have h2 : o.t.l.length ≤ 20 := by rw [List.length_map] at h2; omega
   refine ⟨by omega, i + 1, ⟨by omega, fun y hy => ?_⟩, (by dsimp only; omega), ?_⟩
   ·rw [take_more ho] at hy
    rcases List.mem_append.1 hy with hy | hy
    ·exact hno y hy
    ·obtain rfl := List.mem_singleton.1 hy; exact h2
   refine ⟨?_, ?_, rfl⟩ <;> repeat' (first | exact True.intro | with_reducible rfl | exact rfl | refine And.intro ?_ ?_)
 ·have hk : i = l.length := by simp at h; omega
  subst hk
  rw [List.take_length] at hno
  have e : fewS l = decide (l.length ≤ 150) := by
   unfold fewS
   rw [List.all_eq_true.2 (fun o ho => decide_eq_true (hno o ho)), Bool.true_and]
  rw [e]
  show G.v (Value.bool (decide (((l.map enOS).length : Int) ≤ 150))) = _
  rw [List.length_map]
  exact bool_eq (by simp only [decide_eq_true_eq]; omega)
def tA11 : RT := ⟨1, 0, 0, 10, 0, []⟩
def tB11 : RT := ⟨4, 1, 1, 0, 0, [⟨1, aS, noS, 0, false, false⟩]⟩
def ap1 : RSA := applyS newSt 1 tA11
def ap2 : RSA := applyS ap1.s 2 tB11
theorem ap1_e : ap1.r.se = 1 := by decide +kernel
theorem ap2_e : ap2.r.code = 0 ∧ ap2.r.ps.length = 1 ∧ ap2.ev.length = 2 ∧ ap2.s.zx = 2 := by decide +kernel
set_option maxHeartbeats 1000000 in
theorem alive11_v : FnV Tryz.prog 12 [] fun g => g = .v (.bool true) := by
 refine fnG Tryz.func12 (by kernel_rfl) rfl (Nat.le_of_ble_eq_true (by kernel_rfl)) (by kernel_rfl) ?_
 have w1 : WS ap1.s := ws_apply ws_new 1 tA11
 refine (newS_o).cal fun q rs hq => ?_
 obtain ⟨rfl, m, L, hm, rfl⟩ := hq
 refine (apply_o ws_new hm 1 tA11 (Nat.zero_le _) (fun c hc => by cases hc)).cal fun q rs hq => ?_
 obtain ⟨rfl, m1, L1, q1, rfl⟩ := hq
 refine (apply_o (s := ap1.s) w1 q1 2 tB11 (by decide) (by intro c hc; rw [List.mem_singleton.1 hc]; decide)).cal fun q rs hq => ?_
 obtain ⟨rfl, m2, L2, q2, rfl⟩ := hq
 refine EvIf.beq (fun _ => ?_) fun hh => absurd ap1_e hh
 refine EvIf.beq (fun _ => ?_) fun hh => absurd ap2_e.1 hh
 refine EvIf.beq (fun _ => ?_) fun hh => absurd (by rw [List.length_map]; exact congrArg Nat.cast ap2_e.2.1) hh
 refine EvIf.beq (fun _ => ?_) fun hh => absurd (by rw [List.length_map]; exact congrArg Nat.cast ap2_e.2.2.1) hh
 refine (zxid_o ap2.s.zx m2 ap2.s.ls L2).cal fun q rs hq => ?_
 obtain ⟨rfl, rfl⟩ := hq
 exact bool_eq (b := true) (by rw [ap2_e.2.2.2]; simp)
end Go.Proofs.YtalfffamppmooaaGreatDoor

/- A part of the proof, merged from several texts. -/
import Derived.Test.YtifdeajdlhgglaaGreatDoorPM
import Derived.Test.YtifdeajdlhgglaaGreatDoorRM
import Derived.Test.YtifdeajdlhgglaaGreatDoorSxMc
namespace Go.Proofs.YtifdeajdlhgglaaGreatDoor
open Go.RowKit
set_option maxRecDepth 100000
def aS : ByteArray := ⟨#[47, 97]⟩
def anS : ByteArray := ⟨#[47, 97, 47, 110, 45]⟩
def an0S : ByteArray := ⟨#[47, 97, 47, 110, 45, 48, 48, 48, 48, 48, 48, 48, 48, 48, 48]⟩
def al1 : RAns := doZ [zRoot] 1 0 [⟨1, aS, noS, 0, false, false⟩]
def al2 : RAns := doZ al1.t 2 5 [⟨1, anS, noS, 0, true, true⟩]
theorem al1_e : al1.e = 0 := by decide +kernel
theorem al2_e : al2.e = 0 ∧ al2.ps = [an0S] := by decide +kernel
theorem al3_e : (endZ al2.t 3 5).2.length = 2 ∧ (endZ al2.t 3 5).1.length = 2 := by decide +kernel
theorem getC {m : Mp} {T : List RZ} (h : TM m T) (p : ByteArray) : FnO Tryz.prog 15 [.ptr 0 0, gS p] (cP m) fun g rs => ∃ l', (l' = m ∧ g = .tup [gz ((getZ T p).getD rz0), .v (.bool (getZ T p).isSome)]) ∧ rs = cP l' :=
 tree_lift (get_o h p) rfl rfl fun g l' hq => by rw [hq.2]; rfl
theorem kidsC {m : Mp} {T : List RZ} (h : TM m T) (hw : Wz T) (p : ByteArray) : FnO Tryz.prog 17 [.ptr 0 0, gS p] (cP m) fun g rs => ∃ l', (l' = m ∧ g = .tup [.sl ((kidsZ T p).map gSt), .v (.bool (getZ T p).isSome)]) ∧ rs = cP l' :=
 tree_lift (kids_o h hw p) rfl rfl fun g l' hq => by rw [hq.2]; rfl
theorem ownedC {m : Mp} {T : List RZ} (h : TM m T) (hw : Wz T) (s : Int) : FnO Tryz.prog 20 [.ptr 0 0, gI s] (cP m) fun g rs => ∃ l', (l' = m ∧ g = .sl ((ownedZ T s).map gSt)) ∧ rs = cP l' :=
 tree_lift (owned_o h hw s) rfl rfl fun g l' hq => by rw [hq.2]; rfl
theorem allC {m : Mp} {T : List RZ} (h : TM m T) (hw : Wz T) : FnO Tryz.prog 25 [.ptr 0 0] (cP m) fun g rs => ∃ l', (l' = m ∧ g = gT T) ∧ rs = cP l' :=
 tree_lift (all_o h hw) rfl rfl fun g l' hq => by rw [hq.2]; rfl
structure ROp where
 kind : Int
 zx : Int
 se : Int
 l : List RC
def enOp (o : ROp) : List G := [gI o.kind, gI o.zx, gI o.se, .sl (o.l.map enC)]
structure SmO (o : ROp) : Prop where
 len : o.l.length ≤ 2000000
 path : ∀ c ∈ o.l, c.path.size ≤ maxZ
def stepZ (T : List RZ) (o : ROp) : List RZ := if o.kind = 1 then (endZ T o.zx o.se).1 else (doZ T o.zx o.se o.l).t
def playZ (T : List RZ) (l : List ROp) : List RZ := l.foldl stepZ T
theorem wz_step {T : List RZ} (h : Wz T) (o : ROp) : Wz (stepZ T o) := by
 unfold stepZ
 split
 ·exact wz_end h _ _
 ·exact wz_do h _ _ _
theorem wz_play {T : List RZ} (h : Wz T) (l : List ROp) : Wz (playZ T l) := by
 induction l generalizing T with
 | nil => exact h
 | cons o l ih => exact ih (wz_step h o)
theorem run_lens {zx se : Int} : ∀ (l : List RC) (a : RAns), (runZ zx se l a).ps.length ≤ a.ps.length + l.length ∧ (runZ zx se l a).ev.length ≤ a.ev.length + 2 * l.length
 | [], a => by simp [runZ]
 | c :: l, a => by
  unfold runZ
  split
  ·obtain ⟨h1, h2⟩ := run_lens (zx := zx) (se := se) l ⟨(oneZ a.t zx se c).t, a.ps ++ [(oneZ a.t zx se c).path], a.ev ++ (oneZ a.t zx se c).ev, 0⟩
   have h3 := one_ev a.t zx se c
   simp only [List.length_append, List.length_cons, List.length_nil] at h1 h2 ⊢
   omega
  ·simp
theorem do_lens (T : List RZ) (zx se : Int) (l : List RC) : (doZ T zx se l).ps.length ≤ l.length ∧ (doZ T zx se l).ev.length ≤ 2 * l.length := by
 unfold doZ
 split
 ·split
  ·have := run_lens (zx := zx) (se := se) l ⟨T, [], [], 0⟩
   simpa using this
  ·simp
 ·simp
theorem endL_len (zx : Int) : ∀ (l : List ByteArray) (a : List RZ × List RE), (endL zx l a).2.length = a.2.length + 2 * l.length
 | [], a => by simp [endL]
 | p :: l, a => by
  unfold endL
  rw [endL_len zx l]
  have : (removeZ a.1 zx p).ev.length = 2 := rfl
  simp only [List.length_append, List.length_cons]
  omega
theorem end_len {T : List RZ} (h : Wz T) (zx se : Int) : (endZ T zx se).2.length ≤ 400 := by
 unfold endZ
 split
 ·rw [endL_len]
  have := owned_len h se
  simp; omega
 ·simp
def PlP (T : List RZ) (l : List ROp) (g : G) (rs : List R) : Prop := ∃ m, TM m (playZ T l) ∧ g = .tup [gT (playZ T l), .v (.bool true)] ∧ rs = cP m
structure PlI (T : List RZ) (l : List ROp) (x : Nat × List RZ × Mp) : Prop where
 le : x.1 ≤ l.length
 wz : Wz x.2.1
 tm : TM x.2.2 x.2.1
 run : playZ T l = playZ x.2.1 (l.drop x.1)
theorem play_step {T : List RZ} {l : List ROp} {i : Nat} {o : ROp} (h : l[i]? = some o) : playZ T (l.drop i) = playZ (stepZ T o) (l.drop (i + 1)) := by
 rw [List.drop_eq_getElem_cons (List.getElem?_eq_some_iff.1 h).1, (List.getElem?_eq_some_iff.1 h).2]; rfl
set_option maxHeartbeats 2000000 in
theorem plays_o {m : Mp} {T : List RZ} (h : TM m T) (hw : Wz T) (l : List ROp) (hl : l.length ≤ 1000000) (hO : ∀ o ∈ l, SmO o) : FnO Tryz.prog 12 [.ptr 0 0, gT T, .sl (l.map enOp)] (cP m) (PlP T l) := by
 refine fnoG Tryz.func12 (by kernel_rfl) rfl (Nat.le_of_ble_eq_true (by kernel_rfl)) (by kernel_rfl) (lent1 _ _) ?_
 refine sx_loop [0, 19, 20] [] (fun x : Nat × List RZ × Mp => [(21, gI x.1), (1, gT x.2.1)]) (fun x => [(0, .abs (cl (oO x.2.2)))]) (PlI T l) (fun x => l.length - x.1) (0, T, m) ⟨by simp, hw, h, rfl⟩ ⟨⟨rfl, rfl⟩, ⟨rfl, rfl⟩, trivial⟩ ⟨⟨rfl, rfl, rfl⟩, trivial⟩ rfl fun ⟨i, t, m'⟩ hI => ?_
 have hle : i ≤ l.length := hI.le
 have hw' : Wz t := hI.wz
 have hM : TM m' t := hI.tm
 have hrun : playZ T l = playZ t (l.drop i) := hI.run
 refine EvIf.dec (fun h1 => ?_) (fun h1 => ?_)
 ·refine EvIdx.of (by simpa using h1) fun o ho => ?_
  have hlt := lt_of_at ho
  have hs := hO o (List.mem_of_getElem? ho)
  rw [play_step ho] at hrun
  have hws := wz_step hw' o
  have hsl := hs.len
  refine EvIf.beq (fun (hk : o.kind = 1) => ?_) (fun (hk : ¬ o.kind = 1) => ?_)
  ·have e : stepZ t o = (endZ t o.zx o.se).1 := by unfold stepZ; rw [if_pos hk]
   have hel := end_len hw' o.zx o.se
   refine (end_r hw' o.zx o.se).cal fun q hq => ?_
   subst hq
   refine (end_o hM hw' o.zx o.se).cal fun q rs hq => ?_
   obtain ⟨m2, q1, rfl, rfl⟩ := hq
   refine (events_r _ (by omega)).cal fun q hq => ?_
   subst hq
   refine EvIf.mk (fun hh => by cases hh) fun _ => ?_
   rw [e] at hrun hws
   refine ⟨by dsimp only; omega, (i + 1, (endZ t o.zx o.se).1, m2), ⟨by dsimp only; omega, hws, q1, hrun⟩, (by dsimp only; omega), ?_⟩
   refine ⟨?_, ?_, rfl⟩ <;> repeat' (first | exact True.intro | with_reducible rfl | exact rfl | refine And.intro ?_ ?_)
  ·have e : stepZ t o = (doZ t o.zx o.se o.l).t := by unfold stepZ; rw [if_neg hk]
   obtain ⟨dl1, dl2⟩ := do_lens t o.zx o.se o.l
   refine (do_r hw' o.zx o.se o.l hs.len hs.path).cal fun q hq => ?_
   subst hq
   refine (do_o hM hw' o.zx o.se o.l hs.len hs.path).cal fun q rs hq => ?_
   obtain ⟨m2, q1, rfl, rfl⟩ := hq
   refine EvIf.bne (fun hh => absurd rfl hh) fun _ => ?_
   refine (texts_r _ (by omega)).cal fun q hq => ?_
   subst hq
   refine EvIf.mk (fun hh => by cases hh) fun _ => ?_
   refine (events_r _ (by omega)).cal fun q hq => ?_
   subst hq
   refine EvIf.mk (fun hh => by cases hh) fun _ => ?_
   rw [e] at hrun hws
   refine ⟨by dsimp only; omega, (i + 1, (doZ t o.zx o.se o.l).t, m2), ⟨by dsimp only; omega, hws, q1, hrun⟩, (by dsimp only; omega), ?_⟩
   refine ⟨?_, ?_, rfl⟩ <;> repeat' (first | exact True.intro | with_reducible rfl | exact rfl | refine And.intro ?_ ?_)
 ·have hk : i = l.length := by simp at h1; omega
  subst hk
  rw [List.drop_length] at hrun
  have hrun : playZ T l = t := hrun
  exact end_abs rfl rfl ⟨m', by rw [hrun]; exact hM, by rw [hrun], rfl⟩
theorem kids_len {T : List RZ} (h : Wz T) (p : ByteArray) : (kidsZ T p).length ≤ 200 := by
 unfold kidsZ
 split
 ·rw [List.length_map]; exact Nat.le_trans (List.length_filter_le _ _) h.len
 ·simp
set_option maxHeartbeats 2000000 in
theorem stands_o {m : Mp} {T : List RZ} (h : TM m T) (hw : Wz T) : FnO Tryz.prog 14 [.ptr 0 0, gT T] (cP m) fun g rs => g = .v (.bool true) ∧ rs = cP m := by
 refine fnoG Tryz.func14 (by kernel_rfl) rfl (Nat.le_of_ble_eq_true (by kernel_rfl)) (by kernel_rfl) (lent1 _ _) ?_
 have hl := hw.len
 refine (allC h hw).cal fun q rs hq => ?_
 obtain ⟨_, ⟨rfl, rfl⟩, rfl⟩ := hq
 refine (same_r T (by omega)).cal fun q hq => ?_
 subst hq
 refine EvIf.mk (fun hh => by cases hh) fun _ => ?_
 refine sx_loop [0, 1, 18, 19] [0] (fun i : Nat => [(20, gI i)]) (fun _ => []) (fun i => i ≤ T.length) (fun i => T.length - i) 0 (by omega) ⟨⟨rfl, rfl⟩, trivial⟩ trivial rfl fun i hi => ?_
 refine EvIf.dec (fun h1 => ?_) (fun h1 => ?_)
 ·refine EvIdx.of (by simpa using h1) fun z hz => ?_
  have hlt := lt_of_at hz
  have hg : getZ T z.path = some z := (get_iff hw.srt).2 ⟨List.mem_of_getElem? hz, rfl⟩
  refine (getC h z.path).cal fun q rs hq => ?_
  obtain ⟨_, ⟨rfl, rfl⟩, rfl⟩ := hq
  refine (kidsC h hw z.path).cal fun q rs hq => ?_
  obtain ⟨_, ⟨rfl, rfl⟩, rfl⟩ := hq
  refine (kids_r (wz_sm hw) z.path).cal fun q hq => ?_
  subst hq
  rw [hg]
  refine EvIf.mk (fun hh => by cases hh) fun _ => EvIf.mk (fun hh => by cases hh) fun _ => ?_
  refine EvEq.flat [.s, .s, .i .i64, .i .i64, .i .i64, .i .i64, .i .i64, .i .i64, .i .i64] [_, _, _, _, _, _, _, _, _] [_, _, _, _, _, _, _, _, _] (by kernel_rfl) (by kernel_rfl) (by kernel_rfl) rfl rfl rfl rfl (fun _ => ?_) (fun h => absurd rfl h)
  refine EvIf.mk (fun hh => by cases hh) fun _ => ?_
  refine (texts_r _ (by have := kids_len hw z.path; omega)).cal fun q hq => ?_
  subst hq
  refine EvIf.mk (fun hh => by cases hh) fun _ => ⟨by omega, i + 1, by omega, (by dsimp only; omega), ?_⟩
  refine ⟨?_, ?_, rfl⟩ <;> repeat' (first | exact True.intro | with_reducible rfl | exact rfl | refine And.intro ?_ ?_)
 ·exact end_abs rfl rfl ⟨rfl, rfl⟩
def fewN (l : List ROp) : Nat := (l.map fun o => o.l.length + 1).sum
theorem few_le : ∀ {l : List ROp}, ∀ o ∈ l, o.l.length + 1 ≤ fewN l
 | o' :: l, o, h => by
  unfold fewN
  rw [List.map_cons, List.sum_cons]
  rcases List.mem_cons.1 h with rfl | h
  ·omega
  ·have := few_le o h
   unfold fewN at this
   omega
theorem few_len : ∀ (l : List ROp), l.length ≤ fewN l
 | [] => by simp
 | o :: l => by
  have := few_len l
  unfold fewN at *
  rw [List.map_cons, List.sum_cons, List.length_cons]; omega
theorem few_take {l : List ROp} {i : Nat} {o : ROp} (h : l[i]? = some o) : fewN (l.take (i + 1)) = fewN (l.take i) + (o.l.length + 1) := by
 unfold fewN
 rw [take_more h, List.map_append, List.sum_append]; simp
theorem few_mono (l : List ROp) (i : Nat) : fewN (l.take i) ≤ fewN l := by
 have : fewN l = fewN (l.take i) + fewN (l.drop i) := by
  unfold fewN
  rw [← List.sum_append, ← List.map_append, List.take_append_drop]
 omega
theorem few_q (l : List ROp) (hb : fewN l ≤ 2000000) : FnV Tryz.prog 10 [.sl (l.map enOp)] fun g => g = .v (.bool (decide (fewN l ≤ 300))) := by
 refine fnG Tryz.func10 (by kernel_rfl) rfl (Nat.le_of_ble_eq_true (by kernel_rfl)) (by kernel_rfl) ?_
 refine sx_loop [6, 7] [] (fun i : Nat => [(8, gI i), (3, gI (fewN (l.take i) : Nat))]) (fun _ => []) (fun i => i ≤ l.length) (fun i => l.length - i) 0 (by omega) ⟨⟨rfl, rfl⟩, ⟨rfl, rfl⟩, trivial⟩ trivial rfl fun i hi => ?_
 have hm := few_mono l i
 refine EvIf.dec (fun h => ?_) (fun h => ?_)
 ·refine EvIdx.of (by simpa using h) fun o ho => ?_
  have hlt := lt_of_at ho
  have h1 := few_le o (List.mem_of_getElem? ho)
  have h2 := few_len l
  refine ⟨by simp; omega, ⟨by simp; omega, ⟨by omega, i + 1, by omega, (by dsimp only; omega), ?_⟩⟩⟩
  refine ⟨?_, ?_, rfl⟩ <;> repeat' (first | exact True.intro | with_reducible rfl | exact rfl | refine And.intro ?_ ?_)
  exact eqI (by rw [few_take ho]; simp)
 ·rw [List.take_of_length_le (by simp at h; omega)]
  exact bool_eq (b := decide (fewN l ≤ 300)) (by simp; omega)
set_option maxHeartbeats 2000000 in
theorem alive_v : FnV Tryz.prog 11 [] fun g => g = .v (.bool true) := by
 refine fnG Tryz.func11 (by kernel_rfl) rfl (Nat.le_of_ble_eq_true (by kernel_rfl)) (by kernel_rfl) ?_
 have w1 : Wz al1.t := wz_do wz_new _ _ _
 have w2 : Wz al2.t := wz_do w1 _ _ _
 refine (new_o).cal fun q rs hq => ?_
 obtain ⟨rfl, rfl⟩ := hq
 refine (do_o tm_new wz_new 1 0 [⟨1, aS, noS, 0, false, false⟩] (by simp) (by intro c hc; rw [List.mem_singleton.1 hc]; decide)).cal fun q rs hq => ?_
 obtain ⟨m1, q1, rfl, rfl⟩ := hq
 refine (do_o (T := al1.t) q1 w1 2 5 [⟨1, anS, noS, 0, true, true⟩] (by simp) (by intro c hc; rw [List.mem_singleton.1 hc]; decide)).cal fun q rs hq => ?_
 obtain ⟨m2, q2, rfl, rfl⟩ := hq
 refine EvIf.beq (fun _ => ?_) fun hh => absurd al1_e hh
 refine EvIf.beq (fun _ => ?_) fun hh => absurd al2_e.1 hh
 have hps : (doZ al1.t 2 5 [⟨1, anS, noS, 0, true, true⟩]).ps = [an0S] := al2_e.2
 rw [hps]
 refine EvIf.beq (fun _ => ?_) fun hh => absurd rfl hh
 refine EvIdx.atI (x := an0S) (by decide) rfl (EvIf.beqS (fun _ => ?_) fun hh => absurd rfl hh)
 refine (end_o (T := al2.t) q2 w2 3 5).cal fun q rs hq => ?_
 obtain ⟨m3, q3, rfl, rfl⟩ := hq
 refine EvIf.beq (fun _ => ?_) fun hh => absurd (by rw [List.length_map, al3_e.1]; rfl) hh
 refine (allC q3 (wz_end w2 3 5)).cal fun q rs hq => ?_
 obtain ⟨_, ⟨rfl, rfl⟩, rfl⟩ := hq
 exact bool_eq (b := true) (by rw [List.length_map, al3_e.2]; simp)
end Go.Proofs.YtifdeajdlhgglaaGreatDoor
namespace Go.Proofs.YtifdeajdlhgglaaGreatDoor
open Go.RowKit
set_option maxRecDepth 100000
structure SmS (l : List ROp) : Prop where
 few : fewN l ≤ 2000000
 ops : ∀ o ∈ l, SmO o
theorem SmS.len {l : List ROp} (_ : SmS l) (hf : fewN l ≤ 300) : l.length ≤ 1000000 := by have := few_len l; omega
set_option maxHeartbeats 2000000 in
theorem ztreeAll_v (l : List ROp) (hO : SmS l) : FnV Tryz.prog 3 [.sl (l.map enOp)] fun q => q = .v (.bool true) := by
 refine fnG Tryz.func3 (by kernel_rfl) rfl (Nat.le_of_ble_eq_true (by kernel_rfl)) (by kernel_rfl) ?_
 refine (new_o).cal fun q rs hq => ?_
 obtain ⟨rfl, rfl⟩ := hq
 refine (few_q l hO.few).cal fun q hq => ?_
 subst hq
 by_cases hb : fewN l ≤ 300
 ·rw [decide_eq_true hb]
  refine EvIf.mk (fun hh => by cases hh) fun _ => (new_r).cal fun q hq => ?_
  subst hq
  refine (plays_o tm_new wz_new l (hO.len hb) hO.ops).cal fun q rs hq => ?_
  obtain ⟨m, hM, rfl, rfl⟩ := hq
  refine (alive_v).cal fun q hq => ?_
  subst hq
  refine EvIf.mk (fun _ => EvIf.mk (fun _ => ?_) fun hh => by cases hh) fun hh => by cases hh
  refine (stands_o hM (wz_play wz_new l)).cal fun q rs hq => ?_
  obtain ⟨rfl, rfl⟩ := hq
  exact rfl
 ·rw [decide_eq_false hb]
  refine EvIf.mk (fun _ => (alive_v).cal fun q hq => ?_) fun hh => by cases hh
  subst hq
  exact rfl
end Go.Proofs.YtifdeajdlhgglaaGreatDoor
namespace Go.Proofs.YtifdeajdlhgglaaGreatDoor
open Go.RowKit
def chSp : List Sp := [.i .i64, .s, .s, .i .i64, .b, .b]
def zopSp : List Sp := [.i .i64, .i .i64, .i .i64, .sl chSp]
def znSp : List Sp := [.s, .s, .i .i64, .i .i64, .i .i64, .i .i64, .i .i64, .i .i64, .i .i64]
theorem ch_of {r : List G} (h : TyL chSp r) : ∃ c : RC, r = enC c ∧ c.path.size + 1 ≤ bulkR r := by
 obtain ⟨a0, r, rfl, -, h⟩ := h.i_inv
 obtain ⟨a1, r, rfl, -, h⟩ := h.s_inv
 obtain ⟨a2, r, rfl, -, h⟩ := h.s_inv
 obtain ⟨a3, r, rfl, -, h⟩ := h.i_inv
 obtain ⟨a4, r, rfl, -, h⟩ := h.b_inv
 obtain ⟨a5, r, rfl, -, h⟩ := h.b_inv
 obtain rfl := h.nil_inv
 exact ⟨⟨a0, a1, a2, a3, a4, a5⟩, rfl, by simp only [bulkR, bulkG]; omega⟩
theorem rows_len {rows : List (List G)} (h : ∀ r ∈ rows, 1 ≤ bulkR r) : rows.length ≤ bulkRs rows := by
 induction rows with
 | nil => simp
 | cons r rows ih =>
  have h1 := h r (by simp)
  have h2 := ih fun x hx => h x (by simp [hx])
  simp only [bulkRs, List.length_cons]
  omega
theorem chs_of {rows : List (List G)} (h : ∀ r ∈ rows, TyL chSp r) : ∃ l : List RC, rows = l.map enC ∧ l.length ≤ bulkRs rows ∧ ∀ c ∈ l, c.path.size ≤ bulkRs rows := by
 obtain ⟨l, rfl, hq⟩ := rows_of (f := enC) (Q := fun c => c.path.size + 1 ≤ bulkR (enC c)) fun r hr => by
  obtain ⟨c, rfl, hc⟩ := ch_of (h r hr)
  exact ⟨c, rfl, hc⟩
 refine ⟨l, rfl, ?_, fun c hc => ?_⟩
 ·have := rows_len (rows := l.map enC) fun r hr => by
   obtain ⟨c, hc, rfl⟩ := List.mem_map.1 hr
   have := hq c hc; omega
  simpa using this
 ·have h1 := hq c hc
  have h2 := bulkRs_le (List.mem_map_of_mem (f := enC) hc)
  omega
theorem zop_of {r : List G} (h : TyL zopSp r) (hb : bulkR r ≤ 1048576) : ∃ o : ROp, r = enOp o ∧ (SmO o ∧ o.l.length + 1 ≤ bulkR r) := by
 obtain ⟨a0, r, rfl, -, h⟩ := h.i_inv
 obtain ⟨a1, r, rfl, -, h⟩ := h.i_inv
 obtain ⟨a2, r, rfl, -, h⟩ := h.i_inv
 obtain ⟨rows, r, rfl, -, hr, h⟩ := h.sl_inv
 obtain rfl := h.nil_inv
 obtain ⟨l, rfl, h1, h2⟩ := chs_of hr
 simp only [bulkR, bulkG] at hb
 refine ⟨⟨a0, a1, a2, l⟩, rfl, ⟨by show l.length ≤ _; omega, fun c hc => by have := h2 c hc; unfold maxZ; omega⟩, ?_⟩
 simp only [bulkR, bulkG]
 show l.length + 1 ≤ _
 omega
theorem few_bulk : ∀ {l : List ROp}, (∀ o ∈ l, o.l.length + 1 ≤ bulkR (enOp o)) → fewN l ≤ bulkRs (l.map enOp)
 | [], _ => by simp [fewN]
 | o :: l, h => by
  have h1 := h o (by simp)
  have h2 := few_bulk fun x hx => h x (List.mem_cons_of_mem _ hx)
  unfold fewN at *
  simp only [List.map_cons, List.sum_cons, bulkRs]
  omega
theorem zops_of {g : G} (h : TyL [.sl zopSp] [g]) (hb : bulkG g ≤ 1048576) : ∃ l : List ROp, g = .sl (l.map enOp) ∧ SmS l := by
 obtain ⟨rows, r, e, -, hr, h⟩ := h.sl_inv
 obtain rfl := h.nil_inv
 have e : g = .sl rows := by simpa using e
 subst e
 simp only [bulkG] at hb
 obtain ⟨l, rfl, hq⟩ := rows_of (f := enOp) (Q := fun o => SmO o ∧ o.l.length + 1 ≤ bulkR (enOp o)) fun r h => by
  obtain ⟨o, rfl, ho⟩ := zop_of (hr r h) (by have := bulkRs_le h; omega)
  exact ⟨o, rfl, ho⟩
 refine ⟨l, rfl, ?_, fun o ho => (hq o ho).1⟩
 have := few_bulk fun o ho => (hq o ho).2
 omega
theorem zns_of {g : G} (h : TyL [.sl znSp] [g]) (hb : bulkG g ≤ 1048576) : ∃ l : List RZ, g = gT l ∧ l.length ≤ 1048576 ∧ ∀ z ∈ l, z.path.size ≤ 1048576 := by
 obtain ⟨rows, r, e, -, hr, h⟩ := h.sl_inv
 obtain rfl := h.nil_inv
 have e : g = .sl rows := by simpa using e
 subst e
 simp only [bulkG] at hb
 obtain ⟨l, rfl, hq⟩ := rows_of (f := enZ) (Q := fun z => z.path.size + 1 ≤ bulkR (enZ z)) fun r h => by
  have h := hr r h
  obtain ⟨a0, r, rfl, -, h⟩ := h.s_inv
  obtain ⟨a1, r, rfl, -, h⟩ := h.s_inv
  obtain ⟨a2, r, rfl, -, h⟩ := h.i_inv
  obtain ⟨a3, r, rfl, -, h⟩ := h.i_inv
  obtain ⟨a4, r, rfl, -, h⟩ := h.i_inv
  obtain ⟨a5, r, rfl, -, h⟩ := h.i_inv
  obtain ⟨a6, r, rfl, -, h⟩ := h.i_inv
  obtain ⟨a7, r, rfl, -, h⟩ := h.i_inv
  obtain ⟨a8, r, rfl, -, h⟩ := h.i_inv
  obtain rfl := h.nil_inv
  exact ⟨⟨a0, a1, a2, a3, a4, a5, a6, a7, a8⟩, rfl, by simp only [enZ, bulkR, bulkG]; omega⟩
 refine ⟨l, rfl, ?_, fun z hz => ?_⟩
 ·have := rows_len (rows := l.map enZ) fun r hr => by
   obtain ⟨c, hc, rfl⟩ := List.mem_map.1 hr
   have := hq c hc; omega
  rw [List.length_map] at this
  omega
 ·have h1 := hq z hz
  have h2 := bulkRs_le (List.mem_map_of_mem (f := enZ) hz)
  omega
theorem chl_of {g : G} (h : TyL [.sl chSp] [g]) (hb : bulkG g ≤ 1048576) : ∃ l : List RC, g = .sl (l.map enC) ∧ l.length ≤ 1048576 ∧ ∀ c ∈ l, c.path.size ≤ maxZ := by
 obtain ⟨rows, r, e, -, hr, h⟩ := h.sl_inv
 obtain rfl := h.nil_inv
 have e : g = .sl rows := by simpa using e
 subst e
 simp only [bulkG] at hb
 obtain ⟨l, rfl, h1, h2⟩ := chs_of hr
 exact ⟨l, rfl, by omega, fun c hc => by have := h2 c hc; unfold maxZ; omega⟩
theorem zint_of {g : G} (h : TyL [.i .i64] [g]) : ∃ n : Int, g = .v (.int .i64 n) := by
 obtain ⟨n, r, e, -, h⟩ := h.i_inv
 obtain rfl := h.nil_inv
 exact ⟨n, by simpa using e⟩
theorem zstr_of {g : G} (h : TyL [.s] [g]) (hb : bulkG g ≤ 1048576) : ∃ s : ByteArray, g = .v (.string s) ∧ s.size ≤ 1048576 := by
 obtain ⟨s, r, e, -, h⟩ := h.s_inv
 obtain rfl := h.nil_inv
 have e : g = .v (.string s) := by simpa using e
 subst e
 simp only [bulkG] at hb
 exact ⟨s, rfl, by omega⟩
theorem zwho_of {gs : List G} (h : TyL [.i .i64, .i .i64] gs) : ∃ a b : Int, gs = [.v (.int .i64 a), .v (.int .i64 b)] := by
 obtain ⟨a, r, rfl, -, h⟩ := h.i_inv
 obtain ⟨b, r, rfl, -, h⟩ := h.i_inv
 obtain rfl := h.nil_inv
 exact ⟨a, b, rfl⟩
end Go.Proofs.YtifdeajdlhgglaaGreatDoor

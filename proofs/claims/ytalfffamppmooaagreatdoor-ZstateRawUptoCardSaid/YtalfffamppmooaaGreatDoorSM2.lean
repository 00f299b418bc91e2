/- A part of the proof, merged from several texts. -/
import Derived.Test.YtalfffamppmooaaGreatDoorSM1
import Derived.Test.YtalfffamppmooaaGreatDoorZM1
import Derived.Test.YtalfffamppmooaaGreatDoorSxMc
import Derived.Test.YtalfffamppmooaaGreatDoorRM
import Derived.Test.YtalfffamppmooaaGreatDoorZFnu
namespace Go.Proofs.YtalfffamppmooaaGreatDoor
open Go.RowKit
set_option maxRecDepth 100000
theorem clock_r (n : Int) : FnV Tryz.prog 117 [gI n] fun g => g = .v (.bool (clockL n)) := by
 refine fnG Tryz.func117 (by kernel_rfl) rfl (Nat.le_of_ble_eq_true (by kernel_rfl)) (by kernel_rfl) ?_
 repeat' first
  | refine EvIf.dec (fun _ => ?_) (fun _ => ?_)
 all_goals (refine bool_eq' (b := clockL n) ?_; unfold clockL; simp; try omega)
theorem right10_r (x : RL) : FnV Tryz.prog 81 [gL x] fun g => g = .v (.bool (okL x)) := by
 refine fnG Tryz.func81 (by kernel_rfl) rfl (Nat.le_of_ble_eq_true (by kernel_rfl)) (by kernel_rfl) ?_
 repeat' first
  | refine EvIf.dec (fun _ => ?_) (fun _ => ?_)
  | (refine (clock_r x.last).cal fun q hq => ?_; subst hq)
 all_goals (refine bool_eq' (b := okL x) ?_; unfold okL big; simp; try omega)
theorem take_noL {l : List RL} {i : Nat} {x : RL} {id : Int} (hx : l[i]? = some x) (h : ∀ y ∈ l.take i, ¬ y.id = id) (h2 : ¬ x.id = id) : ∀ y ∈ l.take (i + 1), ¬ y.id = id := by
 rw [take_more hx]
 intro y hy
 rcases List.mem_append.1 hy with hy | hy
 ·exact h y hy
 ·obtain rfl := List.mem_singleton.1 hy; exact h2
theorem get10_r {l : List RL} (hl : l.length ≤ 100000) (id : Int) : FnV Tryz.prog 84 [gLs l, gI id] fun g => g = .tup [gL ((getL l id).getD rl0), .v (.bool (getL l id).isSome)] := by
 refine fnG Tryz.func84 (by kernel_rfl) rfl (Nat.le_of_ble_eq_true (by kernel_rfl)) (by kernel_rfl) ?_
 refine sx_loop [0, 1, 4] [0] (fun i : Nat => [(6, gI i)]) (fun _ => []) (fun i => i ≤ l.length ∧ ∀ x ∈ l.take i, ¬ x.id = id) (fun i => l.length - i) 0 ⟨by omega, by simp⟩ ⟨⟨rfl, rfl⟩, trivial⟩ trivial rfl fun i ⟨hi, hno⟩ => ?_
 refine EvIf.dec (fun h => ?_) (fun h => ?_)
 ·refine EvIdx.of (by simpa using h) fun x hx => EvIf.beq (fun h2 => ?_) (fun h2 => ?_)
  ·refine EvIdx.at hx ?_
   have e : getL l id = some x := by
    unfold getL
    rw [find_at hx (fun y hy => decide_eq_false (hno y hy)) (decide_eq_true h2)]
   rw [e]; exact rfl
  ·have := lt_of_at hx
   refine ⟨by omega, i + 1, ⟨by omega, take_noL hx hno h2⟩, (by dsimp only; omega), ?_⟩
   refine ⟨?_, ?_, rfl⟩ <;> repeat' (first | exact True.intro | with_reducible rfl | exact rfl | refine And.intro ?_ ?_)
 ·have e : getL l id = none := by
   rw [getL_none]
   intro x hx
   refine hno x ?_
   rw [List.take_of_length_le (by simp at h; omega)]; exact hx
  rw [e]; exact rfl
theorem sub10_r {l : List RL} (hl : l.length ≤ 100000) (id : Int) : FnV Tryz.prog 144 [gLs l, gI id] fun g => g = gLs (delL l id) := by
 refine fnG Tryz.func144 (by kernel_rfl) rfl (Nat.le_of_ble_eq_true (by kernel_rfl)) (by kernel_rfl) ?_
 refine sx_loop [0, 1] [] (fun x : Nat => [(6, gI x), (5, .osl 1)]) (fun x => [(1, .slc ((delL (l.take x) id).map enL) 68 3)]) (fun x => x ≤ l.length) (fun x => l.length - x) 0 (by omega) ⟨⟨rfl, rfl⟩, ⟨rfl, rfl⟩, trivial⟩ ⟨⟨rfl, rfl, rfl⟩, trivial⟩ rfl fun i hi => ?_
 refine EvIf.dec (fun h => ?_) (fun h => ?_)
 ·refine EvIdx.of (by simpa using h) fun x hx => ?_
  have hlt := lt_of_at hx
  have hll : (delL (l.take i) id).length ≤ i := Nat.le_trans (List.length_filter_le _ _) (List.length_take_le _ _)
  have e : delL (l.take (i + 1)) id = delL (l.take i) id ++ delL [x] id := by unfold delL; rw [take_more hx, List.filter_append]
  refine EvIf.bne (fun h2 => EvIdx.at hx ⟨by simp; omega, ⟨by omega, i + 1, by omega, (by dsimp only; omega), ?_⟩⟩) (fun h2 => ⟨by omega, i + 1, by omega, (by dsimp only; omega), ?_⟩)
  ·refine ⟨?_, ?_, rfl⟩ <;> repeat' (first | exact True.intro | with_reducible rfl | exact rfl | refine And.intro ?_ ?_)
   have e2 : delL [x] id = [x] := by unfold delL; rw [List.filter_cons, if_pos (by simpa using h2)]; rfl
   exact eqR (by rw [e, e2, List.map_append]; rfl)
  ·refine ⟨?_, ?_, rfl⟩ <;> repeat' (first | exact True.intro | with_reducible rfl | exact rfl | refine And.intro ?_ ?_)
   have e2 : delL [x] id = [] := by unfold delL; rw [List.filter_cons, if_neg (by simpa using h2)]; rfl
   exact eqR (by rw [e, e2, List.append_nil])
 ·rw [List.take_of_length_le (by simp at h; omega)]; exact rfl
def putFL (z : RL) (a : List RL × Bool) (x : RL) : List RL × Bool := (a.1 ++ (if a.2 = false ∧ z.id ≤ x.id then [z] else []) ++ (if x.id ≠ z.id then [x] else []), a.2 || decide (z.id ≤ x.id))
def putEL (z : RL) (a : List RL × Bool) : List RL := if a.2 = true then a.1 else a.1 ++ [z]
theorem putFL_done (z : RL) : ∀ (l acc : List RL), l.foldl (putFL z) (acc, true) = (acc ++ l.filter (fun y => decide (y.id ≠ z.id)), true)
 | [], acc => by simp
 | x :: l, acc => by
  rw [List.foldl_cons]
  show l.foldl (putFL z) (acc ++ (if true = false ∧ z.id ≤ x.id then [z] else []) ++ (if x.id ≠ z.id then [x] else []), true || decide (z.id ≤ x.id)) = _
  rw [if_neg (by simp), Bool.true_or, putFL_done z l, List.filter_cons]
  by_cases h : x.id = z.id <;> simp [h]
theorem putFL_put (z : RL) : ∀ (l acc : List RL), putEL z (l.foldl (putFL z) (acc, false)) = acc ++ putL l z
 | [], acc => by simp [putEL, putL]
 | x :: l, acc => by
  rw [List.foldl_cons]
  show putEL z (l.foldl (putFL z) (acc ++ (if false = false ∧ z.id ≤ x.id then [z] else []) ++ (if x.id ≠ z.id then [x] else []), false || decide (z.id ≤ x.id))) = _
  by_cases h : x.id < z.id
  ·rw [if_neg (by omega), if_pos (by omega), decide_eq_false (by omega)]
   show putEL z (l.foldl (putFL z) (acc ++ [] ++ [x], false)) = _
   rw [putFL_put z l, putL, if_pos h]
   simp
  ·rw [if_pos ⟨rfl, by omega⟩, decide_eq_true (by omega)]
   show putEL z (l.foldl (putFL z) (acc ++ [z] ++ (if x.id ≠ z.id then [x] else []), true)) = _
   rw [putFL_done]
   have e : putL (x :: l) z = z :: (x :: l).filter fun y => decide (y.id ≠ z.id) := by unfold putL; rw [if_neg h]
   rw [e, List.filter_cons]
   unfold putEL
   by_cases h2 : x.id = z.id <;> simp [h2]
theorem putFL_len (z : RL) : ∀ (l : List RL) (a : List RL × Bool), (l.foldl (putFL z) a).1.length ≤ a.1.length + 2 * l.length
 | [], a => by simp
 | x :: l, a => by
  rw [List.foldl_cons]
  have := putFL_len z l (putFL z a x)
  have h2 : (putFL z a x).1.length ≤ a.1.length + 2 := by unfold putFL; simp only [List.length_append]; split <;> split <;> simp
  rw [List.length_cons]; omega
set_option maxHeartbeats 1000000 in
theorem put10_r {l : List RL} (hl0 : l.length ≤ 100000) (z : RL) : FnV Tryz.prog 118 [gLs l, gL z] fun g => g = gLs (putL l z) := by
 refine fnG Tryz.func118 (by kernel_rfl) rfl (Nat.le_of_ble_eq_true (by kernel_rfl)) (by kernel_rfl) ?_
 refine sx_loop [0, 3] [0] (fun x : Nat × List RL × Bool => [(7, gI x.1), (6, gB x.2.2), (5, .osl 2)]) (fun x => [(2, .slc (x.2.1.map enL) 68 3)]) (fun x => x.1 ≤ l.length ∧ (l.take x.1).foldl (putFL z) ([], false) = x.2) (fun x => l.length - x.1) (0, [], false) ⟨by simp, rfl⟩ ⟨⟨rfl, rfl⟩, ⟨rfl, rfl⟩, ⟨rfl, rfl⟩, trivial⟩ ⟨⟨rfl, rfl, rfl⟩, trivial⟩ rfl fun ⟨i, out, d⟩ ⟨hi, ho⟩ => ?_
 dsimp only at hi ho
 have hl := putFL_len z (l.take i) ([], false)
 rw [ho] at hl
 have hti : (l.take i).length ≤ i := List.length_take_le _ _
 simp only [List.length_nil, Nat.zero_add] at hl
 refine EvIf.dec (fun h => ?_) (fun h => ?_)
 ·have hlt : i < l.length := by simpa using h
  obtain ⟨x, hx⟩ : ∃ x, l[i]? = some x := ⟨_, List.getElem?_eq_getElem hlt⟩
  have hst := foldl_take (putFL z) ([], false) hx
  rw [ho] at hst
  have done : ∀ (o : List RL) (d' : Bool), (l.take (i + 1)).foldl (putFL z) ([], false) = (o, d') → (fun x : Nat × List RL × Bool => x.1 ≤ l.length ∧ (l.take x.1).foldl (putFL z) ([], false) = x.2) (i + 1, o, d') := fun o d' e => ⟨by dsimp only; omega, e⟩
  have mu : l.length - (i + 1) < l.length - i := by omega
  cases d with
  | true =>
   have e0 : putFL z (out, true) x = (out ++ (if x.id ≠ z.id then [x] else []), true) := by unfold putFL; simp
   rw [e0] at hst
   refine EvIdx.at hx (EvIf.bne (fun h2 => EvIdx.at hx ⟨by simp; omega, ⟨by dsimp only; omega, _, done _ _ hst, mu, ?_⟩⟩) (fun h2 => ⟨by dsimp only; omega, _, done _ _ hst, mu, ?_⟩))
   ·refine ⟨?_, ?_, rfl⟩ <;> repeat' (first | exact True.intro | with_reducible rfl | exact rfl | refine And.intro ?_ ?_)
    exact eqR (by rw [if_pos h2, List.map_append]; rfl)
   ·refine ⟨?_, ?_, rfl⟩ <;> repeat' (first | exact True.intro | with_reducible rfl | exact rfl | refine And.intro ?_ ?_)
    exact eqR (by rw [if_neg (fun h => h h2), List.append_nil])
  | false =>
   refine EvIdx.at hx (EvIf.dec (fun h2 => ?_) (fun h2 => ?_))
   ·have h2 : z.id ≤ x.id := by omega
    have e0 : putFL z (out, false) x = (out ++ [z] ++ (if x.id ≠ z.id then [x] else []), true) := by unfold putFL; rw [if_pos ⟨rfl, h2⟩, decide_eq_true h2]; rfl
    rw [e0] at hst
    refine ⟨by simp; omega, EvIdx.at hx (EvIf.bne (fun h3 => EvIdx.at hx ⟨by simp; omega, ⟨by dsimp only; omega, _, done _ _ hst, mu, ?_⟩⟩) (fun h3 => ⟨by dsimp only; omega, _, done _ _ hst, mu, ?_⟩))⟩
    ·refine ⟨?_, ?_, rfl⟩ <;> repeat' (first | exact True.intro | with_reducible rfl | exact rfl | refine And.intro ?_ ?_)
     exact eqR (by rw [if_pos h3, List.map_append, List.map_append]; rfl)
    ·refine ⟨?_, ?_, rfl⟩ <;> repeat' (first | exact True.intro | with_reducible rfl | exact rfl | refine And.intro ?_ ?_)
     exact eqR (by rw [if_neg (fun h => h h3), List.append_nil, List.map_append]; rfl)
   ·have h2 : ¬ z.id ≤ x.id := by omega
    have hne : x.id ≠ z.id := by omega
    have e0 : putFL z (out, false) x = (out ++ [x], false) := by unfold putFL; rw [if_neg (by simp; omega), if_pos hne, decide_eq_false h2]; simp
    rw [e0] at hst
    refine EvIdx.at hx (EvIf.bne (fun h3 => EvIdx.at hx ⟨by simp; omega, ⟨by dsimp only; omega, _, done _ _ hst, mu, ?_⟩⟩) (fun h3 => absurd h3 hne))
    refine ⟨?_, ?_, rfl⟩ <;> repeat' (first | exact True.intro | with_reducible rfl | exact rfl | refine And.intro ?_ ?_)
    exact eqR (by rw [List.map_append]; rfl)
 ·have hk : i = l.length := by simp at h; omega
  rw [hk, List.take_length] at ho
  have e := putFL_put z l []
  rw [ho] at e
  have e : putEL z (out, d) = putL l z := e
  rw [← e]
  cases d with
  | true => exact rfl
  | false =>
   refine ⟨by simp; omega, ?_⟩
   show G.sl _ = gLs (out ++ [z])
   rw [gLs, List.map_append]; rfl
theorem open_r {l : List RL} (hl : l.length ≤ 100000) (id span now : Int) : FnV Tryz.prog 82 [gLs l, gI id, gI span, gI now] fun g => g = .tup [gLs (openL l ⟨id, span, now⟩), gI (openE l ⟨id, span, now⟩)] := by
 refine fnG Tryz.func82 (by kernel_rfl) rfl (Nat.le_of_ble_eq_true (by kernel_rfl)) (by kernel_rfl) ?_
 refine (get10_r hl id).cal fun q hq => ?_
 subst hq
 refine (right10_r ⟨id, span, now⟩).cal fun q hq => ?_
 subst hq
 have bad : openE l ⟨id, span, now⟩ = 1 → G.tup [gLs l, gI 1] = .tup [gLs (openL l ⟨id, span, now⟩), gI (openE l ⟨id, span, now⟩)] := fun h => by unfold openL; rw [if_neg (by rw [h]; decide), h]
 cases ho : okL ⟨id, span, now⟩ with
 | false =>
  refine EvIf.mk (fun _ => ?_) fun hh => by cases hh
  exact bad (if_pos (.inl ho))
 | true =>
  refine EvIf.mk (fun hh => by cases hh) fun _ => ?_
  cases hg : (getL l id).isSome with
  | true =>
   refine EvIf.mk (fun _ => ?_) fun hh => by cases hh
   exact bad (if_pos (.inr (.inl hg)))
  | false =>
   refine EvIf.mk (fun hh => by cases hh) fun _ => ?_
   refine EvIf.dec (fun h => ?_) (fun h => ?_)
   ·exact bad (if_pos (.inr (.inr (by simp at h; omega))))
   ·refine (put10_r hl ⟨id, span, now⟩).cal fun q hq => ?_
    subst hq
    have e : openE l ⟨id, span, now⟩ = 0 := by
     unfold openE
     rw [if_neg (by rw [ho, show (getL l (RL.mk id span now).id) = getL l id from rfl, hg]; simp at h ⊢; omega)]
    show G.tup [gLs (putL l ⟨id, span, now⟩), gI 0] = _
    unfold openL
    rw [e, if_pos rfl]
theorem renew_r {l : List RL} (hl : l.length ≤ 100000) (id now : Int) : FnV Tryz.prog 83 [gLs l, gI id, gI now] fun g => g = .tup [gLs (renewL l id now), gI (renewE l id now)] := by
 refine fnG Tryz.func83 (by kernel_rfl) rfl (Nat.le_of_ble_eq_true (by kernel_rfl)) (by kernel_rfl) ?_
 refine (clock_r now).cal fun q hq => ?_
 subst hq
 unfold renewL renewE
 cases hc : clockL now with
 | false =>
  refine EvIf.mk (fun _ => ?_) fun hh => by cases hh
  exact rfl
 | true =>
  refine EvIf.mk (fun hh => by cases hh) fun _ => ?_
  refine (get10_r hl id).cal fun q hq => ?_
  subst hq
  cases hg : getL l id with
  | none =>
   refine EvIf.mk (fun _ => ?_) fun hh => by cases hh
   exact rfl
  | some x =>
   refine EvIf.mk (fun hh => by cases hh) fun _ => ?_
   refine (put10_r hl { x with last := max x.last now }).cal fun q hq => ?_
   subst hq
   exact rfl
theorem close_r {l : List RL} (hl : l.length ≤ 100000) (id : Int) : FnV Tryz.prog 122 [gLs l, gI id] fun g => g = .tup [gLs (closeL l id), gI (closeE l id)] := by
 refine fnG Tryz.func122 (by kernel_rfl) rfl (Nat.le_of_ble_eq_true (by kernel_rfl)) (by kernel_rfl) ?_
 refine (get10_r hl id).cal fun q hq => ?_
 subst hq
 unfold closeL closeE
 cases hg : getL l id with
 | none =>
  refine EvIf.mk (fun _ => ?_) fun hh => by cases hh
  exact rfl
 | some x =>
  refine EvIf.mk (fun hh => by cases hh) fun _ => ?_
  refine (sub10_r hl id).cal fun q hq => ?_
  subst hq
  exact rfl
theorem same10_r (l : List RL) (hl : l.length ≤ 100000000) : FnV Tryz.prog 51 [gLs l, gLs l] fun g => g = .v (.bool true) := by
 refine fnG Tryz.func51 (by kernel_rfl) rfl (Nat.le_of_ble_eq_true (by kernel_rfl)) (by kernel_rfl) ?_
 refine EvIf.bne (fun h => absurd rfl h) (fun _ => ?_)
 refine sx_loop [0, 1] [] (fun i : Nat => [(5, gI i)]) (fun _ => []) (fun i => i ≤ l.length) (fun i => l.length - i) 0 (by omega) ⟨⟨rfl, rfl⟩, trivial⟩ trivial rfl fun i hi => ?_
 refine EvIf.dec (fun h => ?_) (fun _ => by exact rfl)
 refine EvIdx.of (by simpa using h) fun x hx => EvIdx.at hx ?_
 have := lt_of_at hx
 refine EvEq.flat [.i .i64, .i .i64, .i .i64] [_, _, _] [_, _, _] (by kernel_rfl) (by kernel_rfl) (by kernel_rfl) rfl rfl rfl rfl (fun _ => ?_) (fun h => absurd rfl h)
 refine ⟨fun hh => (by cases hh), fun _ => ⟨by omega, i + 1, by omega, (by dsimp only; omega), ?_⟩⟩
 refine ⟨?_, ?_, rfl⟩ <;> repeat' (first | exact True.intro | with_reducible rfl | exact rfl | refine And.intro ?_ ?_)
end Go.Proofs.YtalfffamppmooaaGreatDoor
namespace Go.Proofs.YtalfffamppmooaaGreatDoor
open Go.RowKit
set_option maxRecDepth 100000
def enRp (r : RRp) : List G := [gI r.code, gI r.se, .sl (r.ps.map gSt)]
def enLa (x : RLa) : List G := [gI x.se, gI x.nu, gI x.r.code, gI x.r.se, .sl (x.r.ps.map gSt)]
def enSt (s : RSt) : List G := [gI s.zx, gT s.t, gLs s.ls, .sl (s.la.map enLa)]
def enT (t : RT) : List G := [gI t.kind, gI t.se, gI t.nu, gI t.sp, gI t.no, .sl (t.l.map enC)]
def gAn (a : RSA) : G := .tup [.agg (enSt a.s), .agg (enRp a.r), .sl (a.ev.map enE)]
theorem find11_r (s : RSt) (hl : s.la.length ≤ 100000000) (id : Int) : FnV Tryz.prog 52 [.agg (enSt s), gI id] fun g => g = .agg (enLa (findS s id)) := by
 refine fnG Tryz.func52 (by kernel_rfl) rfl (Nat.le_of_ble_eq_true (by kernel_rfl)) (by kernel_rfl) ?_
 refine sx_loop [1, 2, 4] [0, 1] (fun i : Nat => [(5, gI i)]) (fun _ => []) (fun i => i ≤ s.la.length ∧ ∀ x ∈ s.la.take i, ¬ x.se = id) (fun i => s.la.length - i) 0 ⟨by omega, by simp⟩ ⟨⟨rfl, rfl⟩, trivial⟩ trivial rfl fun i ⟨hi, hno⟩ => ?_
 refine EvIf.dec (fun h => ?_) (fun h => ?_)
 ·refine EvIdx.of (by simpa using h) fun x hx => EvIf.beq (fun h2 => ?_) (fun h2 => ?_)
  ·refine EvIdx.at hx ?_
   have e : findA s.la id = some x := by
    unfold findA
    rw [find_at hx (fun y hy => decide_eq_false (hno y hy)) (decide_eq_true h2)]
   unfold findS
   rw [e]; exact rfl
  ·have := lt_of_at hx
   refine ⟨by omega, i + 1, ⟨by omega, fun y hy => ?_⟩, (by dsimp only; omega), ?_⟩
   ·rw [take_more hx] at hy
    rcases List.mem_append.1 hy with hy | hy
    ·exact hno y hy
    ·obtain rfl := List.mem_singleton.1 hy; exact h2
   refine ⟨?_, ?_, rfl⟩ <;> repeat' (first | exact True.intro | with_reducible rfl | exact rfl | refine And.intro ?_ ?_)
 ·have e : findA s.la id = none := by
   unfold findA
   rw [List.find?_eq_none]
   intro x hx
   have := hno x (by rw [List.take_of_length_le (by simp at h; omega)]; exact hx)
   simpa using this
  unfold findS
  rw [e]; exact rfl
theorem forg_r (s : RSt) (hl : s.la.length ≤ 100000000) (id : Int) : FnV Tryz.prog 120 [.agg (enSt s), gI id] fun g => g = .agg (enSt ⟨s.zx, s.t, s.ls, forgA s.la id⟩) := by
 refine fnG Tryz.func120 (by kernel_rfl) rfl (Nat.le_of_ble_eq_true (by kernel_rfl)) (by kernel_rfl) ?_
 refine sx_loop [1, 2, 4] [0, 1] (fun x : Nat => [(6, gI x), (5, .osl 2)]) (fun x => [(2, .slc ((forgA (s.la.take x) id).map enLa) 105 5)]) (fun x => x ≤ s.la.length) (fun x => s.la.length - x) 0 (by omega) ⟨⟨rfl, rfl⟩, ⟨rfl, rfl⟩, trivial⟩ ⟨⟨rfl, rfl, rfl⟩, trivial⟩ rfl fun i hi => ?_
 refine EvIf.dec (fun h => ?_) (fun h => ?_)
 ·refine EvIdx.of (by simpa using h) fun x hx => ?_
  have hlt := lt_of_at hx
  have hll : (forgA (s.la.take i) id).length ≤ i := Nat.le_trans (List.length_filter_le _ _) (List.length_take_le _ _)
  have e : forgA (s.la.take (i + 1)) id = forgA (s.la.take i) id ++ forgA [x] id := by unfold forgA; rw [take_more hx, List.filter_append]
  refine EvIf.bne (fun h2 => EvIdx.at hx ⟨by simp; omega, ⟨by omega, i + 1, by omega, (by dsimp only; omega), ?_⟩⟩) (fun h2 => ⟨by omega, i + 1, by omega, (by dsimp only; omega), ?_⟩)
  ·refine ⟨?_, ?_, rfl⟩ <;> repeat' (first | exact True.intro | with_reducible rfl | exact rfl | refine And.intro ?_ ?_)
   have e2 : forgA [x] id = [x] := by unfold forgA; rw [List.filter_cons, if_pos (by simpa using h2)]; rfl
   exact eqR (by rw [e, e2, List.map_append]; rfl)
  ·refine ⟨?_, ?_, rfl⟩ <;> repeat' (first | exact True.intro | with_reducible rfl | exact rfl | refine And.intro ?_ ?_)
   have e2 : forgA [x] id = [] := by unfold forgA; rw [List.filter_cons, if_neg (by simpa using h2)]; rfl
   exact eqR (by rw [e, e2, List.append_nil])
 ·rw [List.take_of_length_le (by simp at h; omega)]
  exact rfl
abbrev tLa : Nat := 105
theorem forg_o (s : RSt) (hl : s.la.length ≤ 100000000) (id : Int) : FnO Tryz.prog 120 [.agg (enSt s), gI id] [] fun g rs => g = .oag [gI s.zx, gT s.t, gLs s.ls, .osl 0] ∧ rs = [.slc ((forgA s.la id).map enLa) tLa 5] := by
 refine fnuG Tryz.func120 (by kernel_rfl) rfl (Nat.le_of_ble_eq_true (by kernel_rfl)) (by kernel_rfl) (lent0 _) ?_
 refine sx_loop [1, 2, 4] [0, 1] (fun x : Nat => [(6, gI x), (5, .osl 2)]) (fun x => [(2, .slc ((forgA (s.la.take x) id).map enLa) 105 5)]) (fun x => x ≤ s.la.length) (fun x => s.la.length - x) 0 (by omega) ⟨⟨rfl, rfl⟩, ⟨rfl, rfl⟩, trivial⟩ ⟨⟨rfl, rfl, rfl⟩, trivial⟩ rfl fun i hi => ?_
 refine EvIf.dec (fun h => ?_) (fun h => ?_)
 ·refine EvIdx.of (by simpa using h) fun x hx => ?_
  have hlt := lt_of_at hx
  have hll : (forgA (s.la.take i) id).length ≤ i := Nat.le_trans (List.length_filter_le _ _) (List.length_take_le _ _)
  have e : forgA (s.la.take (i + 1)) id = forgA (s.la.take i) id ++ forgA [x] id := by unfold forgA; rw [take_more hx, List.filter_append]
  refine EvIf.bne (fun h2 => EvIdx.at hx ⟨by simp; omega, ⟨by omega, i + 1, by omega, (by dsimp only; omega), ?_⟩⟩) (fun h2 => ⟨by omega, i + 1, by omega, (by dsimp only; omega), ?_⟩)
  ·refine ⟨?_, ?_, rfl⟩ <;> repeat' (first | exact True.intro | with_reducible rfl | exact rfl | refine And.intro ?_ ?_)
   have e2 : forgA [x] id = [x] := by unfold forgA; rw [List.filter_cons, if_pos (by simpa using h2)]; rfl
   exact eqR (by rw [e, e2, List.map_append]; rfl)
  ·refine ⟨?_, ?_, rfl⟩ <;> repeat' (first | exact True.intro | with_reducible rfl | exact rfl | refine And.intro ?_ ?_)
   have e2 : forgA [x] id = [] := by unfold forgA; rw [List.filter_cons, if_neg (by simpa using h2)]; rfl
   exact eqR (by rw [e, e2, List.append_nil])
 ·rw [List.take_of_length_le (by simp at h; omega)]
  exact .inl ⟨[⟨[(0, .slc ((forgA s.la id).map enLa) tLa 5)], [(0, 2)], false⟩], .oag [gI s.zx, gT s.t, gLs s.ls, .osl 0], ⟨⟨⟨_, rfl, rfl, rfl⟩, trivial⟩, rfl, ⟨_, rfl⟩, rfl, rfl, ⟨rfl, rfl⟩⟩⟩
theorem end11_r {s : RSt} (h : WS s) (hl : s.la.length ≤ 100000000) (id : Int) : FnV Tryz.prog 86 [.agg (enSt s), gI id] fun g => g = gAn (endS s id) := by
 refine fnG Tryz.func86 (by kernel_rfl) rfl (Nat.le_of_ble_eq_true (by kernel_rfl)) (by kernel_rfl) ?_
 refine (end_r h.t s.zx id).cal fun q hq => ?_
 subst hq
 refine (close_r (by have := h.ls.len; omega) id).cal fun q hq => ?_
 subst hq
 refine (forg_r ⟨s.zx, (endZ s.t s.zx id).1, closeL s.ls id, s.la⟩ hl id).cal fun q hq => ?_
 subst hq
 exact rfl
theorem change_r {s : RSt} (h : WS s) (hl : s.la.length ≤ 100000000) (t : RT) (ht : t.l.length ≤ 2000000) (hp : ∀ c ∈ t.l, c.path.size ≤ maxZ) : FnV Tryz.prog 85 [.agg (enSt s), .agg (enT t)] fun g => g = gAn (changeS s t) := by
 refine fnG Tryz.func85 (by kernel_rfl) rfl (Nat.le_of_ble_eq_true (by kernel_rfl)) (by kernel_rfl) ?_
 refine (find11_r s hl t.se).cal fun q hq => ?_
 subst hq
 have hbd : badN s t = true ↔ (t.nu < 1 ∨ t.nu > big ∨ t.nu < (findS s t.se).nu ∨ t.l.length > 6) := by unfold badN; exact decide_eq_true_iff
 by_cases hb : badN s t = true
 ·have e : changeS s t = ⟨s, rp 1, []⟩ := by unfold changeS; rw [if_pos hb]
  rw [e]
  rw [hbd] at hb
  unfold big at hb
  refine EvIf.dec (fun h1 => ?_) (fun h1 => EvIf.dec (fun h2 => ?_) (fun h2 => EvIf.dec (fun h3 => ?_) (fun h3 => EvIf.dec (fun h4 => ?_) (fun h4 => ?_))))
  ·exact rfl
  ·exact rfl
  ·exact rfl
  ·exact rfl
  ·simp at h4; omega
 ·have hb' := hb
  rw [hbd] at hb'
  unfold big at hb'
  refine EvIf.dec (fun h1 => absurd (.inl h1) hb') (fun h1 => EvIf.dec (fun h2 => absurd (.inr (.inl h2)) hb') (fun h2 => EvIf.dec (fun h3 => absurd (.inr (.inr (.inl h3))) hb') (fun h3 => EvIf.dec (fun h4 => absurd (.inr (.inr (.inr (by simp at h4; omega)))) hb') (fun h4 => ?_))))
  refine EvIf.beq (fun (h5 : t.nu = (findS s t.se).nu) => ?_) (fun (h5 : ¬ t.nu = (findS s t.se).nu) => ?_)
  ·have e : changeS s t = ⟨s, (findS s t.se).r, []⟩ := by unfold changeS; rw [if_neg hb, if_pos h5]
   rw [e]; exact rfl
  ·have hps := do_psS s.t s.zx t.se t.l
   refine (do_r h.t s.zx t.se t.l ht hp).cal fun q hq => ?_
   subst hq
   refine (forg_o ⟨s.zx, (doZ s.t s.zx t.se t.l).t, s.ls, s.la⟩ hl t.se).cal fun q rs hq => ?_
   obtain ⟨rfl, rfl⟩ := hq
   have hfl : (forgA s.la t.se).length ≤ s.la.length := List.length_filter_le _ _
   refine ⟨by rw [List.length_map]; show (forgA s.la t.se).length + 1 ≤ _; omega, ?_⟩
   have e : changeS s t = ⟨⟨s.zx, (doZ s.t s.zx t.se t.l).t, s.ls, forgA s.la t.se ++ [⟨t.se, t.nu, ⟨(doZ s.t s.zx t.se t.l).e, 0, (doZ s.t s.zx t.se t.l).ps⟩⟩]⟩, ⟨(doZ s.t s.zx t.se t.l).e, 0, (doZ s.t s.zx t.se t.l).ps⟩, (doZ s.t s.zx t.se t.l).ev⟩ := by unfold changeS; rw [if_neg hb, if_neg h5]
   rw [e]
   show G.tup [G.agg [gI s.zx, gT (doZ s.t s.zx t.se t.l).t, gLs s.ls, G.sl (List.map enLa (forgA s.la t.se) ++ [enLa ⟨t.se, t.nu, ⟨(doZ s.t s.zx t.se t.l).e, 0, (doZ s.t s.zx t.se t.l).ps⟩⟩])], _, _] = gAn _
   unfold gAn enSt
   rw [List.map_append]; rfl
theorem apply_r {s : RSt} (h : WS s) (hl : s.la.length ≤ 100000000) (zx : Int) (t : RT) (ht : t.l.length ≤ 2000000) (hp : ∀ c ∈ t.l, c.path.size ≤ maxZ) : FnV Tryz.prog 37 [.agg (enSt s), gI zx, .agg (enT t)] fun g => g = gAn (applyS s zx t) := by
 refine fnG Tryz.func37 (by kernel_rfl) rfl (Nat.le_of_ble_eq_true (by kernel_rfl)) (by kernel_rfl) ?_
 unfold applyS
 refine EvIf.dec (fun h1 => ?_) (fun h1 => EvIf.dec (fun h2 => ?_) (fun h2 => ?_))
 ·rw [if_pos (.inl h1)]; exact rfl
 ·rw [if_pos (.inr (by unfold big; omega))]; exact rfl
 rw [if_neg (by unfold big; omega)]
 have h2' : zx ≤ big := by unfold big; omega
 have h0 := h.zx
 have hS : WS ⟨zx, s.t, s.ls, s.la⟩ := ⟨by show 0 ≤ zx ∧ zx ≤ big; omega, h.t, h.ls, h.la⟩
 have hll := h.ls.len
 unfold stepS
 refine EvIf.beq (fun (k1 : t.kind = 1) => ?_) (fun (k1 : ¬ t.kind = 1) => ?_)
 ·rw [if_pos k1]
  refine (open_r (by omega) zx t.sp t.no).cal fun q hq => ?_
  subst hq
  refine EvIf.bne (fun (k2 : openE s.ls ⟨zx, t.sp, t.no⟩ ≠ 0) => ?_) (fun (k2 : openE s.ls ⟨zx, t.sp, t.no⟩ = 0) => ?_)
  ·show _ = gAn ⟨_, if openE s.ls ⟨zx, t.sp, t.no⟩ = 0 then _ else _, _⟩
   rw [if_neg k2]; exact rfl
  ·show _ = gAn ⟨_, if openE s.ls ⟨zx, t.sp, t.no⟩ = 0 then _ else _, _⟩
   rw [if_pos k2]; exact rfl
 rw [if_neg k1]
 refine EvIf.beq (fun (k2 : t.kind = 2) => ?_) (fun (k2 : ¬ t.kind = 2) => ?_)
 ·rw [if_pos k2]
  refine (renew_r (by omega) t.se t.no).cal fun q hq => ?_
  subst hq
  exact rfl
 rw [if_neg k2]
 refine EvIf.dec (fun k3 => ?_) (fun k3 => EvIf.dec (fun k4 => ?_) (fun k4 => ?_))
 ·rw [if_pos (.inl k3)]; exact rfl
 ·rw [if_pos (.inr k4)]; exact rfl
 rw [if_neg (by omega)]
 refine (get10_r (by omega) t.se).cal fun q hq => ?_
 subst hq
 show _
 cases hg : getL s.ls t.se with
 | none =>
  refine EvIf.mk (fun _ => ?_) fun hh => by cases hh
  exact rfl
 | some x =>
  refine EvIf.mk (fun hh => by cases hh) fun _ => ?_
  dsimp only
  refine EvIf.beq (fun (k5 : t.kind = 4) => ?_) (fun (k5 : ¬ t.kind = 4) => ?_)
  ·rw [if_pos k5]
   refine (change_r hS hl t ht hp).cal fun q hq => ?_
   subst hq
   exact rfl
  rw [if_neg k5]
  refine EvIf.beq (fun (k6 : t.kind = 5) => ?_) (fun (k6 : ¬ t.kind = 5) => ?_)
  ·refine EvIf.bne (fun (k7 : x.last ≠ t.no) => ?_) (fun (k7 : x.last = t.no) => ?_)
   ·rw [if_pos ⟨k6, k7⟩]; exact rfl
   ·rw [if_neg fun hh => hh.2 k7]
    refine (end11_r hS hl t.se).cal fun q hq => ?_
    subst hq
    exact rfl
  ·rw [if_neg fun hh => k6 hh.1]
   refine (end11_r hS hl t.se).cal fun q hq => ?_
   subst hq
   exact rfl
theorem reply_r (r : RRp) (hl : r.ps.length ≤ 100000000) : FnV Tryz.prog 19 [.agg (enRp r), .agg (enRp r)] fun g => g = .v (.bool true) := by
 refine fnG Tryz.func19 (by kernel_rfl) rfl (Nat.le_of_ble_eq_true (by kernel_rfl)) (by kernel_rfl) ?_
 refine EvIf.beq (fun _ => ?_) (fun hh => absurd rfl hh)
 refine EvIf.beq (fun _ => ?_) (fun hh => absurd rfl hh)
 refine (texts_r r.ps hl).cal fun q hq => ?_
 subst hq
 exact rfl
theorem same11_r {a b : RSt} (hz : a.zx = b.zx) (ht : a.t = b.t) (hs : a.ls = b.ls) (hf : ∀ x ∈ a.ls, (findS a x.id).nu = (findS b x.id).nu ∧ (findS a x.id).r = (findS b x.id).r) (hps : ∀ x ∈ a.ls, (findS a x.id).r.ps.length ≤ 100000000) (h1 : a.t.length ≤ 100000000) (h2 : a.ls.length ≤ 100000000) (h3 : a.la.length ≤ 100000000) (h4 : b.la.length ≤ 100000000) : FnV Tryz.prog 21 [.agg (enSt a), .agg (enSt b)] fun g => g = .v (.bool true) := by
 obtain ⟨zx, t, ls, la⟩ := a
 obtain ⟨zx', t', ls', lb⟩ := b
 dsimp only at hz ht hs h1 h2 h3 h4
 subst hz ht hs
 refine fnG Tryz.func21 (by kernel_rfl) rfl (Nat.le_of_ble_eq_true (by kernel_rfl)) (by kernel_rfl) ?_
 refine EvIf.bne (fun hh => absurd rfl hh) fun _ => ?_
 refine (same_r t h1).cal fun q hq => ?_
 subst hq
 refine EvIf.mk (fun hh => by cases hh) fun _ => ?_
 refine (same10_r ls h2).cal fun q hq => ?_
 subst hq
 refine EvIf.mk (fun hh => by cases hh) fun _ => ?_
 refine sx_loop [0, 1, 2, 3, 4] [0, 1] (fun i : Nat => [(5, gI i)]) (fun _ => []) (fun i => i ≤ ls.length) (fun i => ls.length - i) 0 (by omega) ⟨⟨rfl, rfl⟩, trivial⟩ trivial rfl fun i hi => ?_
 refine EvIf.dec (fun h => ?_) (fun h => ?_)
 ·refine EvIdx.of (by simpa using h) fun x hx => ?_
  have hm := List.mem_of_getElem? hx
  have hlt : i < ls.length := lt_of_at hx
  have eB : findS ⟨zx, t, ls, lb⟩ x.id = ⟨(findS ⟨zx, t, ls, lb⟩ x.id).se, (findS ⟨zx, t, ls, la⟩ x.id).nu, (findS ⟨zx, t, ls, la⟩ x.id).r⟩ := by
   rw [(hf x hm).1, (hf x hm).2]
  have hB := find11_r ⟨zx, t, ls, lb⟩ h4 x.id
  rw [eB] at hB
  refine jn (T := ?T1) (fun hj => ?a1) ?b1
  case a1 =>
   refine And.intro ?_ ?_
   all_goals refine (find11_r ⟨zx, t, ls, la⟩ h3 x.id).cal fun q hq => ?_; subst hq
   all_goals (conv => whnf)
   exact hj
   all_goals exact hj
  refine EvIdx.at hx ?_
  refine jn (T := ?T2) (fun hj => ?a2) ?b2
  case a2 =>
   refine And.intro ?_ ?_
   all_goals refine hB.cal fun q hq => ?_; subst hq
   all_goals (conv => whnf)
   exact hj
   all_goals exact hj
  refine EvIf.bne (fun hh => absurd rfl hh) fun _ => ?_
  refine (reply_r (findS ⟨zx, t, ls, la⟩ x.id).r (hps x hm)).cal fun q hq => ?_
  subst hq
  refine EvIf.mk (fun hh => by cases hh) fun _ => ⟨by omega, i + 1, by omega, (by dsimp only; omega), ?_⟩
  refine ⟨?_, ?_, rfl⟩ <;> repeat' (first | exact True.intro | with_reducible rfl | exact rfl | refine And.intro ?_ ?_)
 ·exact rfl
end Go.Proofs.YtalfffamppmooaaGreatDoor

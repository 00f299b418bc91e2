/- A part of the proof, merged from several texts. -/
import Derived.Test.YtalfffamppmooaaGreatDoorZM2
import Derived.Test.YtalfffamppmooaaGreatDoorZM1
import Derived.Test.YtalfffamppmooaaGreatDoorSxMc
namespace Go.Proofs.YtalfffamppmooaaGreatDoor
open Go.RowKit
set_option maxRecDepth 100000
structure SmT (T : List RZ) : Prop where
 len : T.length ≤ 100000
 path : ∀ z ∈ T, z.path.size ≤ 1500000
abbrev gT (T : List RZ) : G := .sl (T.map enZ)
theorem in_r (n : Int) : FnV Tryz.prog 80 [gI n] fun g => g = .v (.bool (inZ n)) := by
 refine fnG Tryz.func80 (by kernel_rfl) rfl (Nat.le_of_ble_eq_true (by kernel_rfl)) (by kernel_rfl) ?_
 repeat' first
  | refine EvIf.dec (fun _ => ?_) (fun _ => ?_)
 all_goals (refine bool_eq (b := inZ n) ?_; unfold inZ big; simp; try omega)
theorem up_r (n : Int) (h : n ≤ big) (h0 : 0 ≤ n) : FnV Tryz.prog 159 [gI n] fun g => g = gI (upZ n) := by
 refine fnG Tryz.func159 (by kernel_rfl) rfl (Nat.le_of_ble_eq_true (by kernel_rfl)) (by kernel_rfl) ?_
 unfold big at h
 unfold upZ
 refine EvIf.beq (fun h1 => ?_) (fun h1 => ⟨by omega, ?_⟩)
 ·rw [if_pos (show n = big from h1)]; exact rfl
 ·rw [if_neg (show ¬ n = big from h1)]; exact rfl
theorem fails_r (e : Int) : FnV Tryz.prog 156 [gI e] fun g => g = .agg (enS (failZ e)) := by
 refine fnG Tryz.func156 (by kernel_rfl) rfl (Nat.le_of_ble_eq_true (by kernel_rfl)) (by kernel_rfl) ?_
 exact rfl
def getO (T : List RZ) (p : ByteArray) : RZ := (getZ T p).getD rz0
theorem get_r {T : List RZ} (hT : T.length ≤ 100000) (p : ByteArray) : FnV Tryz.prog 79 [gT T, gS p] fun g => g = .tup [gz (getO T p), .v (.bool (getZ T p).isSome)] := by
 refine fnG Tryz.func79 (by kernel_rfl) rfl (Nat.le_of_ble_eq_true (by kernel_rfl)) (by kernel_rfl) ?_
 refine sx_loop [0, 1, 4] [0] (fun i : Nat => [(6, .v (.int .i64 i))]) (fun _ => []) (fun i => i ≤ T.length ∧ ∀ x ∈ T.take i, ¬ x.path = p) (fun i => T.length - i) 0 ⟨by omega, by simp⟩ ⟨⟨rfl, rfl⟩, trivial⟩ trivial rfl fun i ⟨hi, hno⟩ => ?_
 refine EvIf.dec (fun h => ?_) (fun h => ?_)
 ·refine EvIdx.of (by simpa using h) fun x hx => EvIf.beqS (fun h2 => ?_) (fun h2 => ?_)
  ·refine EvIdx.at hx ?_
   have e : getZ T p = some x := by
    unfold getZ
    rw [find_at hx (fun y hy => decide_eq_false (hno y hy)) (decide_eq_true h2)]
   unfold getO
   rw [e]; exact rfl
  ·have := lt_of_at hx
   refine ⟨by omega, i + 1, ⟨by omega, take_no hx hno h2⟩, (by dsimp only; omega), ?_⟩
   refine ⟨?_, ?_, rfl⟩ <;> repeat' (first | exact True.intro | with_reducible rfl | exact rfl | refine And.intro ?_ ?_)
 ·have e : getZ T p = none := get_none.2 (take_all (by simpa using h) hno)
  unfold getO
  rw [e]; exact rfl
theorem sub_r {T : List RZ} (hT : T.length ≤ 100000) (p : ByteArray) : FnV Tryz.prog 162 [gT T, gS p] fun g => g = gT (delZ T p) := by
 refine fnG Tryz.func162 (by kernel_rfl) rfl (Nat.le_of_ble_eq_true (by kernel_rfl)) (by kernel_rfl) ?_
 refine sx_loop [0, 1] [] (fun x : Nat => [(6, .v (.int .i64 x)), (5, .osl 1)]) (fun x => [(1, .slc ((delZ (T.take x) p).map enZ) 154 9)]) (fun x => x ≤ T.length) (fun x => T.length - x) 0 (by omega) ⟨⟨rfl, rfl⟩, ⟨rfl, rfl⟩, trivial⟩ ⟨⟨rfl, rfl, rfl⟩, trivial⟩ rfl fun i hi => ?_
 refine EvIf.dec (fun h => ?_) (fun h => ?_)
 ·refine EvIdx.of (by simpa using h) fun x hx => ?_
  have hlt := lt_of_at hx
  have hl : (delZ (T.take i) p).length ≤ i := Nat.le_trans (List.length_filter_le _ _) (List.length_take_le _ _)
  have e : delZ (T.take (i + 1)) p = delZ (T.take i) p ++ delZ [x] p := by unfold delZ; rw [take_more hx, List.filter_append]
  refine EvIf.bneS (fun h2 => EvIdx.at hx ⟨by simp; omega, ⟨by omega, i + 1, by omega, (by dsimp only; omega), ?_⟩⟩) (fun h2 => ⟨by omega, i + 1, by omega, (by dsimp only; omega), ?_⟩)
  ·refine ⟨?_, ?_, rfl⟩ <;> repeat' (first | exact True.intro | with_reducible rfl | exact rfl | refine And.intro ?_ ?_)
   have e2 : delZ [x] p = [x] := by unfold delZ; rw [List.filter_cons, if_pos (by simpa using h2)]; rfl
   exact eqR (by rw [e, e2, List.map_append]; rfl)
  ·refine ⟨?_, ?_, rfl⟩ <;> repeat' (first | exact True.intro | with_reducible rfl | exact rfl | refine And.intro ?_ ?_)
   have e2 : delZ [x] p = [] := by unfold delZ; rw [List.filter_cons, if_neg (by simpa using h2)]; rfl
   exact eqR (by rw [e, e2, List.append_nil])
 ·rw [List.take_of_length_le (by simp at h; omega)]; exact rfl
def putF (z : RZ) (a : List RZ × Bool) (x : RZ) : List RZ × Bool := (a.1 ++ (if a.2 = false ∧ ltS x.path z.path = false then [z] else []) ++ (if x.path ≠ z.path then [x] else []), a.2 || !ltS x.path z.path)
def putE (z : RZ) (a : List RZ × Bool) : List RZ := if a.2 = true then a.1 else a.1 ++ [z]
theorem putF_done (z : RZ) : ∀ (l acc : List RZ), l.foldl (putF z) (acc, true) = (acc ++ l.filter (fun y => decide (y.path ≠ z.path)), true)
 | [], acc => by simp
 | x :: l, acc => by
  rw [List.foldl_cons]
  show l.foldl (putF z) (acc ++ (if true = false ∧ ltS x.path z.path = false then [z] else []) ++ (if x.path ≠ z.path then [x] else []), true || !ltS x.path z.path) = _
  rw [if_neg (by simp), Bool.true_or, putF_done z l, List.filter_cons]
  by_cases h : x.path = z.path <;> simp [h]
theorem putF_put (z : RZ) : ∀ (l acc : List RZ), putE z (l.foldl (putF z) (acc, false)) = acc ++ putZ l z
 | [], acc => by simp [putE, putZ]
 | x :: l, acc => by
  rw [List.foldl_cons]
  show putE z (l.foldl (putF z) (acc ++ (if false = false ∧ ltS x.path z.path = false then [z] else []) ++ (if x.path ≠ z.path then [x] else []), false || !ltS x.path z.path)) = _
  cases h : ltS x.path z.path with
  | true =>
   rw [if_neg (by simp), if_pos (ltS_ne h)]
   show putE z (l.foldl (putF z) (acc ++ [] ++ [x], false)) = _
   rw [putF_put z l, putZ, if_pos h]
   simp
  | false =>
   rw [if_pos ⟨rfl, rfl⟩]
   show putE z (l.foldl (putF z) (acc ++ [z] ++ (if x.path ≠ z.path then [x] else []), true)) = _
   rw [putF_done]
   have e : putZ (x :: l) z = z :: (x :: l).filter fun y => decide (y.path ≠ z.path) := by unfold putZ; rw [if_neg (by rw [h]; simp)]
   rw [e, List.filter_cons]
   unfold putE
   by_cases h2 : x.path = z.path <;> simp [h2]
theorem putF_len (z : RZ) : ∀ (l : List RZ) (a : List RZ × Bool), (l.foldl (putF z) a).1.length ≤ a.1.length + 2 * l.length
 | [], a => by simp
 | x :: l, a => by
  rw [List.foldl_cons]
  have := putF_len z l (putF z a x)
  have h2 : (putF z a x).1.length ≤ a.1.length + 2 := by unfold putF; simp only [List.length_append]; split <;> split <;> simp
  rw [List.length_cons]; omega
set_option maxHeartbeats 1000000 in
theorem put_r {T : List RZ} (hT : T.length ≤ 100000) (z : RZ) : FnV Tryz.prog 160 [gT T, gz z] fun g => g = gT (putZ T z) := by
 refine fnG Tryz.func160 (by kernel_rfl) rfl (Nat.le_of_ble_eq_true (by kernel_rfl)) (by kernel_rfl) ?_
 refine sx_loop [0, 3] [0] (fun x : Nat × List RZ × Bool => [(7, .v (.int .i64 x.1)), (6, gB x.2.2), (5, .osl 2)]) (fun x => [(2, .slc (x.2.1.map enZ) 154 9)]) (fun x => x.1 ≤ T.length ∧ (T.take x.1).foldl (putF z) ([], false) = x.2) (fun x => T.length - x.1) (0, [], false) ⟨by simp, rfl⟩ ⟨⟨rfl, rfl⟩, ⟨rfl, rfl⟩, ⟨rfl, rfl⟩, trivial⟩ ⟨⟨rfl, rfl, rfl⟩, trivial⟩ rfl fun ⟨i, out, d⟩ ⟨hi, ho⟩ => ?_
 dsimp only at hi ho
 have hl := putF_len z (T.take i) ([], false)
 rw [ho] at hl
 have hti : (T.take i).length ≤ i := List.length_take_le _ _
 simp only [List.length_nil, Nat.zero_add] at hl
 refine EvIf.dec (fun h => ?_) (fun h => ?_)
 ·have hlt : i < T.length := by simpa using h
  obtain ⟨x, hx⟩ : ∃ x, T[i]? = some x := ⟨_, List.getElem?_eq_getElem hlt⟩
  have hst := foldl_take (putF z) ([], false) hx
  rw [ho] at hst
  have rg : 0 ≤ (i : Int) ∧ (i : Int) < (T.map enZ).length := ⟨by omega, by simp; omega⟩
  have done : ∀ (o : List RZ) (d' : Bool), (T.take (i + 1)).foldl (putF z) ([], false) = (o, d') → (fun x : Nat × List RZ × Bool => x.1 ≤ T.length ∧ (T.take x.1).foldl (putF z) ([], false) = x.2) (i + 1, o, d') := fun o d' e => ⟨by dsimp only; omega, e⟩
  have mu : T.length - (i + 1) < T.length - i := by omega
  cases d with
  | true =>
   have e0 : putF z (out, true) x = (out ++ (if x.path ≠ z.path then [x] else []), true) := by unfold putF; simp
   rw [e0] at hst
   refine EvIdx.at hx (EvIf.bneS (fun h2 => EvIdx.at hx ⟨by simp; omega, ⟨by dsimp only; omega, _, done _ _ hst, mu, ?_⟩⟩) (fun h2 => ⟨by dsimp only; omega, _, done _ _ hst, mu, ?_⟩))
   ·refine ⟨?_, ?_, rfl⟩ <;> repeat' (first | exact True.intro | with_reducible rfl | exact rfl | refine And.intro ?_ ?_)
    exact eqR (by rw [if_pos h2, List.map_append]; rfl)
   ·refine ⟨?_, ?_, rfl⟩ <;> repeat' (first | exact True.intro | with_reducible rfl | exact rfl | refine And.intro ?_ ?_)
    exact eqR (by rw [if_neg (fun h => h h2), List.append_nil])
  | false =>
   refine EvIdx.at hx ⟨fun (h2 : (!ltS x.path z.path) = true) => ?_, fun (h2 : (!ltS x.path z.path) = false) => ?_⟩
   ·have h2 : ltS x.path z.path = false := by simpa using h2
    have e0 : putF z (out, false) x = (out ++ [z] ++ (if x.path ≠ z.path then [x] else []), true) := by unfold putF; rw [if_pos ⟨rfl, h2⟩, h2]; rfl
    rw [e0] at hst
    refine ⟨by simp; omega, EvIdx.at hx (EvIf.bneS (fun h3 => EvIdx.at hx ⟨by simp; omega, ⟨by dsimp only; omega, _, done _ _ hst, mu, ?_⟩⟩) (fun h3 => ⟨by dsimp only; omega, _, done _ _ hst, mu, ?_⟩))⟩
    ·refine ⟨?_, ?_, rfl⟩ <;> repeat' (first | exact True.intro | with_reducible rfl | exact rfl | refine And.intro ?_ ?_)
     exact eqR (by rw [if_pos h3, List.map_append, List.map_append]; rfl)
    ·refine ⟨?_, ?_, rfl⟩ <;> repeat' (first | exact True.intro | with_reducible rfl | exact rfl | refine And.intro ?_ ?_)
     exact eqR (by rw [if_neg (fun h => h h3), List.append_nil, List.map_append]; rfl)
   ·have h2 : ltS x.path z.path = true := by simpa using h2
    have hne := ltS_ne h2
    have e0 : putF z (out, false) x = (out ++ [x], false) := by unfold putF; rw [if_neg (by rw [h2]; simp), if_pos hne, h2]; simp
    rw [e0] at hst
    refine EvIdx.at hx (EvIf.bneS (fun h3 => EvIdx.at hx ⟨by simp; omega, ⟨by dsimp only; omega, _, done _ _ hst, mu, ?_⟩⟩) (fun h3 => absurd h3 hne))
    refine ⟨?_, ?_, rfl⟩ <;> repeat' (first | exact True.intro | with_reducible rfl | exact rfl | refine And.intro ?_ ?_)
    exact eqR (by rw [List.map_append]; rfl)
 ·have hk : i = T.length := by simp at h; omega
  rw [hk, List.take_length] at ho
  have e := putF_put z T []
  rw [ho] at e
  have e : putE z (out, d) = putZ T z := e
  rw [← e]
  cases d with
  | true => exact rfl
  | false =>
   refine ⟨by simp; omega, ?_⟩
   show G.sl _ = gT (out ++ [z])
   rw [gT, List.map_append]; rfl
theorem kids_r {T : List RZ} (hT : SmT T) (p : ByteArray) : FnV Tryz.prog 158 [gT T, gS p] fun g => g = .tup [.sl ((kidsZ T p).map gSt), .v (.bool (getZ T p).isSome)] := by
 refine fnG Tryz.func158 (by kernel_rfl) rfl (Nat.le_of_ble_eq_true (by kernel_rfl)) (by kernel_rfl) ?_
 have hl := hT.len
 refine (get_r hT.len p).cal fun q hq => ?_
 subst hq
 unfold kidsZ
 cases hb : (getZ T p).isSome with
 | false =>
  refine sx_loop [0, 1, 7, 8] [2] (fun i : Nat => [(9, gI i)]) (fun _ => []) (fun i => i = 0) (fun _ => 0) 0 rfl ⟨⟨rfl, rfl⟩, trivial⟩ trivial rfl fun i hi => ?_
  subst hi
  refine EvIf.dec (fun h => ?_) (fun h => ?_)
  ·exact EvIf.mk (fun hh => by cases hh) fun _ => rfl
  ·exact rfl
 | true =>
  rw [if_pos rfl]
  refine sx_loop [0, 1, 7] [] (fun i : Nat => [(9, gI i), (8, .osl 2)]) (fun i => [(2, .slc (((T.take i).filter (isKid p)).map fun z => gSt (baseZ z.path)) 9 1)]) (fun i => i ≤ T.length) (fun i => T.length - i) 0 (by omega) ⟨⟨rfl, rfl⟩, ⟨rfl, rfl⟩, trivial⟩ ⟨⟨rfl, rfl, rfl⟩, trivial⟩ rfl fun i hi => ?_
  refine EvIf.dec (fun h => ?_) (fun h => ?_)
  ·refine EvIf.mk (fun _ => ?_) fun hh => by cases hh
   obtain ⟨x, hx⟩ : ∃ x, T[i]? = some x := ⟨_, List.getElem?_eq_getElem (by simpa using h)⟩
   have hlt := lt_of_at hx
   have hsz := hT.path x (List.mem_of_getElem? hx)
   have hlen : ((T.take i).filter (isKid p)).length ≤ i := Nat.le_trans (List.length_filter_le _ _) (List.length_take_le _ _)
   have hf : (T.take (i + 1)).filter (isKid p) = (T.take i).filter (isKid p) ++ [x].filter (isKid p) := by rw [take_more hx, List.filter_append]
   have no : isKid p x = false → (T.take (i + 1)).filter (isKid p) = (T.take i).filter (isKid p) := fun h => by rw [hf, List.filter_cons, if_neg (by simp [h])]; simp
   refine EvIdx.at hx ((parent_r x.path (by unfold maxZ; omega)).cal fun q hq => ?_)
   subst hq
   cases hu : (parentZ x.path).2 with
   | false =>
    refine EvIf.mk (fun hh => by cases hh) fun _ => ⟨by omega, i + 1, by omega, (by dsimp only; omega), ?_⟩
    refine ⟨?_, ?_, rfl⟩ <;> repeat' (first | exact True.intro | with_reducible rfl | exact rfl | refine And.intro ?_ ?_)
    exact eqR (by rw [no (by unfold isKid; rw [hu]; rfl)])
   | true =>
    refine EvIf.mk (fun _ => EvIf.beqS (fun h2 => ?_) (fun h2 => ⟨by omega, i + 1, by omega, (by dsimp only; omega), ?_⟩)) fun hh => by cases hh
    ·refine EvIdx.at hx ((base_r x.path (by unfold maxZ; omega)).cal fun q hq => ?_)
     subst hq
     refine ⟨by simp; omega, ⟨by omega, i + 1, by omega, (by dsimp only; omega), ?_⟩⟩
     refine ⟨?_, ?_, rfl⟩ <;> repeat' (first | exact True.intro | with_reducible rfl | exact rfl | refine And.intro ?_ ?_)
     refine eqR ?_
     rw [hf, List.filter_cons, if_pos (by unfold isKid; rw [hu, decide_eq_true (show (parentZ x.path).1 = p from h2)]; rfl), List.map_append]
     rfl
    ·refine ⟨?_, ?_, rfl⟩ <;> repeat' (first | exact True.intro | with_reducible rfl | exact rfl | refine And.intro ?_ ?_)
     exact eqR (by rw [no (by unfold isKid; rw [hu, decide_eq_false (show ¬ (parentZ x.path).1 = p from h2)]; rfl)])
  ·rw [List.take_of_length_le (by simp at h; omega)]
   show G.tup [.sl _, _] = _
   rw [List.map_map]; rfl
theorem owned_r {T : List RZ} (hT : T.length ≤ 100000) (s : Int) : FnV Tryz.prog 142 [gT T, gI s] fun g => g = .sl ((ownedZ T s).map gSt) := by
 refine fnG Tryz.func142 (by kernel_rfl) rfl (Nat.le_of_ble_eq_true (by kernel_rfl)) (by kernel_rfl) ?_
 refine sx_loop [0, 1] [] (fun i : Nat => [(6, gI i), (5, .osl 1)]) (fun i => [(1, .slc (((T.take i).filter (isOwn s)).map fun z => gSt z.path) 9 1)]) (fun i => i ≤ T.length) (fun i => T.length - i) 0 (by omega) ⟨⟨rfl, rfl⟩, ⟨rfl, rfl⟩, trivial⟩ ⟨⟨rfl, rfl, rfl⟩, trivial⟩ rfl fun i hi => ?_
 refine EvIf.dec (fun h => ?_) (fun h => ?_)
 ·obtain ⟨x, hx⟩ : ∃ x, T[i]? = some x := ⟨_, List.getElem?_eq_getElem (by simpa using h)⟩
  have hlt := lt_of_at hx
  have hlen : ((T.take i).filter (isOwn s)).length ≤ i := Nat.le_trans (List.length_filter_le _ _) (List.length_take_le _ _)
  have hf : (T.take (i + 1)).filter (isOwn s) = (T.take i).filter (isOwn s) ++ [x].filter (isOwn s) := by rw [take_more hx, List.filter_append]
  have no : isOwn s x = false → (T.take (i + 1)).filter (isOwn s) = (T.take i).filter (isOwn s) := fun h => by rw [hf, List.filter_cons, if_neg (by simp [h])]; simp
  refine EvIf.bne (fun h1 => ?_) (fun h1 => ⟨by omega, i + 1, by omega, (by dsimp only; omega), ?_⟩)
  ·refine EvIdx.at hx (EvIf.beq (fun h2 => ?_) (fun h2 => ⟨by omega, i + 1, by omega, (by dsimp only; omega), ?_⟩))
   ·refine EvIdx.at hx ⟨by simp; omega, ⟨by omega, i + 1, by omega, (by dsimp only; omega), ?_⟩⟩
    refine ⟨?_, ?_, rfl⟩ <;> repeat' (first | exact True.intro | with_reducible rfl | exact rfl | refine And.intro ?_ ?_)
    refine eqR ?_
    rw [hf, List.filter_cons, if_pos (by unfold isOwn; exact decide_eq_true ⟨h1, h2⟩), List.map_append]
    rfl
   ·refine ⟨?_, ?_, rfl⟩ <;> repeat' (first | exact True.intro | with_reducible rfl | exact rfl | refine And.intro ?_ ?_)
    exact eqR (by rw [no (by unfold isOwn; exact decide_eq_false fun h => h2 h.2)])
  ·refine ⟨?_, ?_, rfl⟩ <;> repeat' (first | exact True.intro | with_reducible rfl | exact rfl | refine And.intro ?_ ?_)
   exact eqR (by rw [no (by unfold isOwn; exact decide_eq_false fun h => h.1 h1)])
 ·rw [List.take_of_length_le (by simp at h; omega)]
  show G.sl _ = _
  unfold ownedZ
  rw [List.map_map]; rfl
end Go.Proofs.YtalfffamppmooaaGreatDoor
namespace Go.Proofs.YtalfffamppmooaaGreatDoor
open Go.RowKit
set_option maxRecDepth 100000
theorem valid_size {s : ByteArray} (h : validZ s = true) : s.size ≤ 500 := by
 by_cases hs : s = rootS
 ·subst hs; decide
 ·obtain ⟨r, hp⟩ := isP_of h hs
  have e : s = joinZ (splitZ r) := data_inj (by rw [join_splitZ, hp.bytes])
  have := join_take (splitZ r) fun x hx => by
   have := hp.good x hx
   unfold nameZ at this
   simp only [Bool.and_eq_true, decide_eq_true_eq] at this
   exact this.2.2.1
  have h8 := hp.few
  rw [← e] at this
  omega
theorem wz_sm {T : List RZ} (h : Wz T) : SmT T := ⟨by have := h.len; omega, fun z hz => by have := valid_size (h.valid z hz); omega⟩
theorem ev_rows (l : List RE) : ∀ r ∈ l.map enE, r.length = 3 ∧ r.all G.one = true := fun r hr => by
 obtain ⟨x, -, rfl⟩ := List.mem_map.1 hr
 exact ⟨rfl, rfl⟩
theorem kid_r {s : RStep} (hT : s.t.length ≤ 100000) (hs : s.path.size ≤ maxZ) (zx : Int) (made : Bool) (hki : 0 ≤ (getO s.t (parentZ s.path).1).ki ∧ (getO s.t (parentZ s.path).1).ki ≤ big) (hnx : 0 ≤ (getO s.t (parentZ s.path).1).nx ∧ (getO s.t (parentZ s.path).1).nx ≤ big) (he : s.ev.length ≤ 1000) : FnV Tryz.prog 161 [.agg (enS s), gI zx, .v (.bool made)] fun g => g = .agg (enS (kidZ s zx made)) := by
 refine fnG Tryz.func161 (by kernel_rfl) rfl (Nat.le_of_ble_eq_true (by kernel_rfl)) (by kernel_rfl) ?_
 refine (parent_r s.path hs).cal fun q hq => ?_
 subst hq
 refine (get_r hT _).cal fun q hq => ?_
 subst hq
 refine (up_r _ hki.2 hki.1).cal fun q hq => ?_
 subst hq
 cases made with
 | true =>
  refine EvIf.mk (fun _ => ?_) fun hh => by cases hh
  refine (up_r _ hnx.2 hnx.1).cal fun q hq => ?_
  subst hq
  refine (put_r hT (kidOf (getO s.t (parentZ s.path).1) zx true)).cal fun q hq => ?_
  subst hq
  refine ⟨ev_rows s.ev, ⟨by simp; omega, ⟨by simp; omega, ?_⟩⟩⟩
  show G.agg [_, _, .sl _, _] = _
  unfold enS kidZ
  simp only [List.map_append, List.nil_append]
  rfl
 | false =>
  refine EvIf.mk (fun hh => by cases hh) fun _ => ?_
  refine (put_r hT (kidOf (getO s.t (parentZ s.path).1) zx false)).cal fun q hq => ?_
  subst hq
  refine ⟨ev_rows s.ev, ⟨by simp; omega, ⟨by simp; omega, ?_⟩⟩⟩
  show G.agg [_, _, .sl _, _] = _
  unfold enS kidZ
  simp only [List.map_append, List.nil_append]
  rfl
theorem getO_of {T : List RZ} (h : Srt T) {p : RZ} (hm : p ∈ T) {q : ByteArray} (e : p.path = q) : getO T q = p := by unfold getO; rw [(get_iff h).2 ⟨hm, e⟩]; rfl
theorem remove_r {T : List RZ} (h : Wz T) (zx : Int) {p : ByteArray} {q : RZ} (k : RmOk T p q) (hp : p.size ≤ maxZ) : FnV Tryz.prog 143 [gT T, gI zx, gS p] fun g => g = .agg (enS (removeZ T zx p)) := by
 refine fnG Tryz.func143 (by kernel_rfl) rfl (Nat.le_of_ble_eq_true (by kernel_rfl)) (by kernel_rfl) ?_
 refine (sub_r (wz_sm h).len p).cal fun q hq => ?_
 subst hq
 have hq : getO (delZ T p) (parentZ p).1 = q := getO_of (srt_del h.srt) (mem_del.2 ⟨k.mem, k.lt⟩) k.path
 have hr := h.rg q k.mem
 refine (kid_r (s := ⟨delZ T p, p, [⟨0, 2, p⟩], 0⟩) (Nat.le_trans (List.length_filter_le _ _) (wz_sm h).len) hp zx false (by rw [show getO (RStep.t _) _ = q from hq]; exact hr.ki) (by rw [show getO (RStep.t _) _ = q from hq]; exact hr.nx) (by simp)).cal fun q hq => ?_
 subst hq
 exact rfl
theorem create_fail {T : List RZ} {c : RC} {e zx se : Int} (h : createE T c = e) (he : e ≠ 0) : G.agg (enS (failZ e)) = .agg (enS (createZ T zx se c)) := by
 unfold createZ
 rw [if_neg (by rw [h]; exact he), h]
theorem cr_parent {T : List RZ} (h : Wz T) {c : RC} {p : RZ} (k : CrOk T c p) (d : ByteArray) (zx o : Int) : getO (putZ T (newZ (nameC T c).1 d zx o)) (parentZ (nameC T c).1).1 = p :=
 getO_of (srt_put h.srt) (mem_put.2 (.inr ⟨k.mem, get_none.1 k.fresh p k.mem⟩)) (by rw [k.path, k.par])
theorem create_r {T : List RZ} (h : Wz T) {zx se : Int} (_ : inZ zx = true) (_ : inZ se = true) (c : RC) (hv : validZ c.path = true) : FnV Tryz.prog 157 [gT T, gI zx, gI se, .agg (enC c)] fun g => g = .agg (enS (createZ T zx se c)) := by
 refine fnG Tryz.func157 (by kernel_rfl) rfl (Nat.le_of_ble_eq_true (by kernel_rfl)) (by kernel_rfl) ?_
 have hsz := valid_size hv
 have hl := (wz_sm h).len
 have hl2 := h.len
 refine EvIf.dec (fun h1 => ?_) (fun h1 => ?_)
 ·refine (fails_r 87).cal fun q hq => ?_
  subst hq
  exact create_fail (by unfold createE; rw [if_pos (by omega)]) (by decide)
 have h1 : ¬ c.data.size > 1024 := by omega
 refine EvIf.beqS (fun (h2 : c.path = rootS) => ?_) (fun (h2 : c.path ≠ rootS) => ?_)
 ·refine (fails_r 81).cal fun q hq => ?_
  subst hq
  exact create_fail (by unfold createE; rw [if_neg h1, if_pos h2]) (by decide)
 refine (parent_r c.path (by unfold maxZ; omega)).cal fun q hq => ?_
 subst hq
 refine (get_r hl _).cal fun q hq => ?_
 subst hq
 cases hg : getZ T (parentZ c.path).1 with
 | none =>
  refine EvIf.mk (fun _ => ?_) fun hh => by cases hh
  refine (fails_r 83).cal fun q hq => ?_
  subst hq
  exact create_fail (by unfold createE; rw [if_neg h1, if_neg h2, hg]) (by decide)
 | some p =>
  have eO : getO T (parentZ c.path).1 = p := by unfold getO; rw [hg]; rfl
  rw [eO]
  refine EvIf.mk (fun hh => by cases hh) fun _ => EvIf.bne (fun (h3 : p.ow ≠ 0) => ?_) (fun (h3 : p.ow = 0) => ?_)
  ·refine (fails_r 85).cal fun q hq => ?_
   subst hq
   exact create_fail (by unfold createE; rw [if_neg h1, if_neg h2, hg]; exact if_pos h3) (by decide)
  have h3 : ¬ p.ow ≠ 0 := fun h => h h3
  -- what follows once the path is known
  have hE : createE T c = if (nameC T c).2 = false then 70 else if (getZ T (nameC T c).1).isSome = true then 81 else if T.length ≥ 200 then 86 else 0 := by
   unfold createE
   rw [if_neg h1, if_neg h2, hg]
   exact if_neg h3
  refine EvIf.mk (fun (hsq : c.sq = true) => ?_) (fun (hsq : c.sq = false) => ?_)
  ·obtain ⟨N, hN⟩ : ∃ N, N = numZ c.path p.nx := ⟨_, rfl⟩
   have hn : nameC T c = N := by unfold nameC; rw [if_pos hsq, hg, hN]; rfl
   rw [hn] at hE
   refine (number_r c.path (by omega) p.nx).cal fun q hq => ?_
   subst hq
   rw [← hN]
   cases hb : N.2 with
   | false =>
    refine EvIf.mk (fun _ => ?_) fun hh => by cases hh
    refine (fails_r 70).cal fun q hq => ?_
    subst hq
    exact create_fail (by rw [hE, if_pos hb]) (by decide)
   | true =>
    refine EvIf.mk (fun hh => by cases hh) fun _ => ?_
    have hE2 : createE T c = if (getZ T N.1).isSome = true then 81 else if T.length ≥ 200 then 86 else 0 := by rw [hE, if_neg (by rw [hb]; simp)]
    refine (get_r hl N.1).cal fun q hq => ?_
    subst hq
    cases hf : (getZ T N.1).isSome with
    | true =>
     refine EvIf.mk (fun _ => ?_) fun hh => by cases hh
     refine (fails_r 81).cal fun q hq => ?_
     subst hq
     exact create_fail (by rw [hE2, if_pos hf]) (by decide)
    | false =>
     have hf' : ¬ (getZ T N.1).isSome = true := by rw [hf]; simp
     refine EvIf.mk (fun hh => by cases hh) fun _ => EvIf.dec (fun h6 => ?_) (fun h6 => ?_)
     ·refine (fails_r 86).cal fun q hq => ?_
      subst hq
      exact create_fail (by rw [hE2, if_neg hf', if_pos (by simp at h6; omega)]) (by decide)
     ·have hE0 : createE T c = 0 := by rw [hE2, if_neg hf', if_neg (by simp at h6; omega)]
      obtain ⟨p', k, hp'⟩ := create_ok hv hE0
      rw [hg] at hp'
      obtain rfl := Option.some.inj hp'
      have hr := h.rg p k.mem
      have hP : (N.1).size ≤ maxZ := by have := valid_size k.valid; rw [hn] at this; unfold maxZ; omega
      refine EvIf.mk (fun (hep : c.ep = true) => ?_) (fun (hep : c.ep = false) => ?_)
      ·refine (put_r hl (newZ N.1 c.data zx se)).cal fun q hq => ?_
       subst hq
       have hcr : createZ T zx se c = kidZ ⟨putZ T (newZ N.1 c.data zx se), N.1, [⟨0, 1, N.1⟩], 0⟩ zx true := by
        unfold createZ
        rw [if_pos hE0, hn, if_pos hep]
       have hk := cr_parent h k c.data zx se
       rw [hn] at hk
       refine (kid_r (s := ⟨putZ T (newZ N.1 c.data zx se), N.1, [⟨0, 1, N.1⟩], 0⟩) (Nat.le_trans (put_len _ _) (by omega)) hP zx true (by rw [show getO (RStep.t _) _ = p from hk]; exact hr.ki) (by rw [show getO (RStep.t _) _ = p from hk]; exact hr.nx) (by simp)).cal fun q hq => ?_
       subst hq
       rw [hcr]
       exact rfl
      ·refine (put_r hl (newZ N.1 c.data zx 0)).cal fun q hq => ?_
       subst hq
       have hcr : createZ T zx se c = kidZ ⟨putZ T (newZ N.1 c.data zx 0), N.1, [⟨0, 1, N.1⟩], 0⟩ zx true := by
        unfold createZ
        rw [if_pos hE0, hn, if_neg (by rw [hep]; simp)]
       have hk := cr_parent h k c.data zx 0
       rw [hn] at hk
       refine (kid_r (s := ⟨putZ T (newZ N.1 c.data zx 0), N.1, [⟨0, 1, N.1⟩], 0⟩) (Nat.le_trans (put_len _ _) (by omega)) hP zx true (by rw [show getO (RStep.t _) _ = p from hk]; exact hr.ki) (by rw [show getO (RStep.t _) _ = p from hk]; exact hr.nx) (by simp)).cal fun q hq => ?_
       subst hq
       rw [hcr]
       exact rfl
  ·have hn : nameC T c = (c.path, true) := by unfold nameC; rw [if_neg (by rw [hsq]; simp)]
   rw [hn] at hE
   have hE2 : createE T c = if (getZ T c.path).isSome = true then 81 else if T.length ≥ 200 then 86 else 0 := by rw [hE, if_neg (by simp)]
   refine (get_r hl c.path).cal fun q hq => ?_
   subst hq
   cases hf : (getZ T c.path).isSome with
   | true =>
    refine EvIf.mk (fun _ => ?_) fun hh => by cases hh
    refine (fails_r 81).cal fun q hq => ?_
    subst hq
    exact create_fail (by rw [hE2, if_pos hf]) (by decide)
   | false =>
    have hf' : ¬ (getZ T c.path).isSome = true := by rw [hf]; simp
    refine EvIf.mk (fun hh => by cases hh) fun _ => EvIf.dec (fun h6 => ?_) (fun h6 => ?_)
    ·refine (fails_r 86).cal fun q hq => ?_
     subst hq
     exact create_fail (by rw [hE2, if_neg hf', if_pos (by simp at h6; omega)]) (by decide)
    ·have hE0 : createE T c = 0 := by rw [hE2, if_neg hf', if_neg (by simp at h6; omega)]
     obtain ⟨p', k, hp'⟩ := create_ok hv hE0
     rw [hg] at hp'
     obtain rfl := Option.some.inj hp'
     have hr := h.rg p k.mem
     have hP : (c.path).size ≤ maxZ := by have := valid_size k.valid; rw [hn] at this; unfold maxZ; omega
     refine EvIf.mk (fun (hep : c.ep = true) => ?_) (fun (hep : c.ep = false) => ?_)
     ·refine (put_r hl (newZ c.path c.data zx se)).cal fun q hq => ?_
      subst hq
      have hcr : createZ T zx se c = kidZ ⟨putZ T (newZ c.path c.data zx se), c.path, [⟨0, 1, c.path⟩], 0⟩ zx true := by
       unfold createZ
       rw [if_pos hE0, hn, if_pos hep]
      have hk := cr_parent h k c.data zx se
      rw [hn] at hk
      refine (kid_r (s := ⟨putZ T (newZ c.path c.data zx se), c.path, [⟨0, 1, c.path⟩], 0⟩) (Nat.le_trans (put_len _ _) (by omega)) hP zx true (by rw [show getO (RStep.t _) _ = p from hk]; exact hr.ki) (by rw [show getO (RStep.t _) _ = p from hk]; exact hr.nx) (by simp)).cal fun q hq => ?_
      subst hq
      rw [hcr]
      exact rfl
     ·refine (put_r hl (newZ c.path c.data zx 0)).cal fun q hq => ?_
      subst hq
      have hcr : createZ T zx se c = kidZ ⟨putZ T (newZ c.path c.data zx 0), c.path, [⟨0, 1, c.path⟩], 0⟩ zx true := by
       unfold createZ
       rw [if_pos hE0, hn, if_neg (by rw [hep]; simp)]
      have hk := cr_parent h k c.data zx 0
      rw [hn] at hk
      refine (kid_r (s := ⟨putZ T (newZ c.path c.data zx 0), c.path, [⟨0, 1, c.path⟩], 0⟩) (Nat.le_trans (put_len _ _) (by omega)) hP zx true (by rw [show getO (RStep.t _) _ = p from hk]; exact hr.ki) (by rw [show getO (RStep.t _) _ = p from hk]; exact hr.nx) (by simp)).cal fun q hq => ?_
      subst hq
      rw [hcr]
      exact rfl
end Go.Proofs.YtalfffamppmooaaGreatDoor
namespace Go.Proofs.YtalfffamppmooaaGreatDoor
open Go.RowKit
set_option maxRecDepth 100000
set_option maxHeartbeats 1000000 in
theorem one_r {T : List RZ} (h : Wz T) {zx se : Int} (hz : inZ zx = true) (hs : inZ se = true) (c : RC) (hc : c.path.size ≤ maxZ) : FnV Tryz.prog 141 [gT T, gI zx, gI se, .agg (enC c)] fun g => g = .agg (enS (oneZ T zx se c)) := by
 refine fnG Tryz.func141 (by kernel_rfl) rfl (Nat.le_of_ble_eq_true (by kernel_rfl)) (by kernel_rfl) ?_
 obtain ⟨X, hX⟩ : ∃ X, X = oneZ T zx se c := ⟨_, rfl⟩
 rw [← hX]
 unfold oneZ at hX
 have hl := (wz_sm h).len
 have fail : ∀ e, X = failZ e → FnV Tryz.prog 156 [gI e] fun g => g = .agg (enS X) := fun e he => by rw [he]; exact fails_r e
 refine EvIf.dec (fun h1 => ?_) (fun h1 => EvIf.dec (fun h2 => ?_) (fun h2 => ?_))
 ·refine (fail 1 (by rw [hX, if_pos (.inl (by omega))])).cal fun q hq => ?_
  subst hq; exact rfl
 ·refine (fail 1 (by rw [hX, if_pos (.inr (by omega))])).cal fun q hq => ?_
  subst hq; exact rfl
 rw [if_neg (by omega)] at hX
 refine (valid_r c.path hc).cal fun q hq => ?_
 subst hq
 cases hv : validZ c.path with
 | false =>
  refine EvIf.mk (fun _ => ?_) fun hh => by cases hh
  refine (fail 70 (by rw [hX, if_pos hv])).cal fun q hq => ?_
  subst hq; exact rfl
 | true =>
  rw [if_neg (by rw [hv]; simp)] at hX
  refine EvIf.mk (fun hh => by cases hh) fun _ => EvIf.beq (fun (h3 : c.kind = 1) => ?_) (fun (h3 : ¬ c.kind = 1) => ?_)
  ·rw [if_pos h3] at hX
   refine (create_r h hz hs c hv).cal fun q hq => ?_
   subst hq; rw [hX]; exact rfl
  rw [if_neg h3] at hX
  -- ahead of the entry
  have rest : ¬ (c.kind = 3 ∧ c.data.size > 1024) → X = (if foundE T c ≠ 0 then failZ (foundE T c) else if c.kind = 2 then (if (kidsZ T c.path).length > 0 then failZ 84 else removeZ T zx c.path) else if c.kind = 4 then ⟨T, c.path, [], 0⟩ else ⟨putZ T (setZ T zx c), c.path, [⟨0, 3, c.path⟩], 0⟩) := fun hn => by rw [hX, if_neg hn]
  have hsz := valid_size hv
  refine EvIf.beq (fun (h4 : c.kind = 3) => EvIf.dec (fun h5 => ?_) (fun h5 => ?_)) (fun (h4 : ¬ c.kind = 3) => ?_)
  ·refine (fail 87 (by rw [hX, if_pos ⟨h4, by omega⟩])).cal fun q hq => ?_
   subst hq; exact rfl
  ·have hX := rest fun e => h5 (by have := e.2; omega)
   clear rest
   refine (get_r hl c.path).cal fun q hq => ?_
   subst hq
   cases hg : getZ T c.path with
   | none =>
    have hf : foundE T c = 80 := by unfold foundE; rw [hg]
    refine EvIf.mk (fun _ => ?_) fun hh => by cases hh
    refine (fail 80 (by rw [hX, hf]; rfl)).cal fun q hq => ?_
    subst hq; exact rfl
   | some z =>
    have eO : getO T c.path = z := by unfold getO; rw [hg]; rfl
    have hf : foundE T c = if c.kind = 2 ∧ c.path = rootS then 1 else if c.ve ≠ -1 ∧ c.ve ≠ z.ve then 82 else 0 := by unfold foundE; rw [hg]
    rw [eO]
    refine EvIf.mk (fun hh => by cases hh) fun _ => EvIf.beq (fun h6 => absurd h6 (by omega)) (fun (h6 : ¬ c.kind = 2) => ?_)
    rw [if_neg (fun e => h6 e.1)] at hf
    have bad : c.ve ≠ -1 → c.ve ≠ z.ve → X = failZ 82 := fun h7 h8 => by rw [if_pos ⟨h7, h8⟩] at hf; rw [hX, hf]; rfl
    have good : (c.ve = -1 ∨ c.ve = z.ve) → X = ⟨putZ T (setZ T zx c), c.path, [⟨0, 3, c.path⟩], 0⟩ := fun h7 => by rw [if_neg (fun e => h7.elim e.1 e.2)] at hf; rw [hX, hf, if_neg (by simp), if_neg h6, if_neg (by omega)]
    have hr := h.rg z (get_mem hg).1
    have hset : setZ T zx c = { z with data := c.data, ch := zx, ve := upZ z.ve } := by unfold setZ; rw [hg]; rfl
    rw [hset] at good
    refine EvIf.bne (fun (h7 : c.ve ≠ -1) => EvIf.bne (fun (h8 : c.ve ≠ z.ve) => ?_) (fun (h8 : c.ve = z.ve) => ?_)) (fun (h7 : c.ve = -1) => ?_)
    ·refine (fail 82 (bad h7 h8)).cal fun q hq => ?_
     subst hq; exact rfl
    ·have good := good (.inr h8)
     refine EvIf.beq (fun h9 => absurd h9 h6) (fun _ => EvIf.beq (fun h9 => absurd h9 (by omega)) (fun _ => ?_))
     refine (up_r z.ve hr.ve.2 hr.ve.1).cal fun q hq => ?_
     subst hq
     repeat' first
      | refine (put_r hl { z with data := c.data, ch := zx, ve := upZ z.ve }).cal fun q hq => ?_; subst hq
      | refine And.intro ?_ ?_
     all_goals (rw [good]; exact rfl)
    ·have good := good (.inl h7)
     refine EvIf.beq (fun h9 => absurd h9 h6) (fun _ => EvIf.beq (fun h9 => absurd h9 (by omega)) (fun _ => ?_))
     refine (up_r z.ve hr.ve.2 hr.ve.1).cal fun q hq => ?_
     subst hq
     repeat' first
      | refine (put_r hl { z with data := c.data, ch := zx, ve := upZ z.ve }).cal fun q hq => ?_; subst hq
      | refine And.intro ?_ ?_
     all_goals (rw [good]; exact rfl)
  ·have hX := rest fun e => h4 e.1
   clear rest
   refine (get_r hl c.path).cal fun q hq => ?_
   subst hq
   cases hg : getZ T c.path with
   | none =>
    have hf : foundE T c = 80 := by unfold foundE; rw [hg]
    refine EvIf.mk (fun _ => ?_) fun hh => by cases hh
    refine (fail 80 (by rw [hX, hf]; rfl)).cal fun q hq => ?_
    subst hq; exact rfl
   | some z =>
    have eO : getO T c.path = z := by unfold getO; rw [hg]; rfl
    have hf : foundE T c = if c.kind = 2 ∧ c.path = rootS then 1 else if c.ve ≠ -1 ∧ c.ve ≠ z.ve then 82 else 0 := by unfold foundE; rw [hg]
    rw [eO]
    have hr := h.rg z (get_mem hg).1
    refine EvIf.mk (fun hh => by cases hh) fun _ => EvIf.beq (fun (h6 : c.kind = 2) => EvIf.beqS (fun (h7' : c.path = rootS) => ?_) (fun (h7' : c.path ≠ rootS) => ?_)) (fun (h6 : ¬ c.kind = 2) => ?_)
    ·rw [if_pos ⟨h6, h7'⟩] at hf
     refine (fail 1 (by rw [hX, hf]; rfl)).cal fun q hq => ?_
     subst hq; exact rfl
    ·rw [if_neg (fun e => h7' e.2)] at hf
     have bad : c.ve ≠ -1 → c.ve ≠ z.ve → X = failZ 82 := fun h7 h8 => by rw [if_pos ⟨h7, h8⟩] at hf; rw [hX, hf]; rfl
     have good : (c.ve = -1 ∨ c.ve = z.ve) → X = (if (kidsZ T c.path).length > 0 then failZ 84 else removeZ T zx c.path) := fun h7 => by rw [if_neg (fun e => h7.elim e.1 e.2)] at hf; rw [hX, hf, if_neg (by simp), if_pos h6]
     refine EvIf.bne (fun (h7 : c.ve ≠ -1) => EvIf.bne (fun (h8 : c.ve ≠ z.ve) => ?_) (fun (h8 : c.ve = z.ve) => ?_)) (fun (h7 : c.ve = -1) => ?_)
     ·refine (fail 82 (bad h7 h8)).cal fun q hq => ?_
      subst hq; exact rfl
     ·have good := good (.inr h8)
      refine EvIf.beq (fun _ => ?_) (fun h9 => absurd h6 h9)
      refine (kids_r (wz_sm h) c.path).cal fun q hq => ?_
      subst hq
      refine EvIf.dec (fun h9 => ?_) (fun h9 => ?_)
      ·refine (fail 84 (by rw [good, if_pos (by simpa using h9)])).cal fun q hq => ?_
       subst hq; exact rfl
      ·have hk : ¬ (kidsZ T c.path).length > 0 := by simpa using h9
       rw [if_neg hk] at good
       obtain ⟨q, hq⟩ := rm_of h (get_mem hg).1 (by rw [(get_mem hg).2]; exact h7') (by rw [(get_mem hg).2]; exact kids_none hg hk)
       rw [(get_mem hg).2] at hq
       refine (remove_r h zx hq hc).cal fun q hq => ?_
       subst hq; rw [good]; exact rfl
     ·have good := good (.inl h7)
      refine EvIf.beq (fun _ => ?_) (fun h9 => absurd h6 h9)
      refine (kids_r (wz_sm h) c.path).cal fun q hq => ?_
      subst hq
      refine EvIf.dec (fun h9 => ?_) (fun h9 => ?_)
      ·refine (fail 84 (by rw [good, if_pos (by simpa using h9)])).cal fun q hq => ?_
       subst hq; exact rfl
      ·have hk : ¬ (kidsZ T c.path).length > 0 := by simpa using h9
       rw [if_neg hk] at good
       obtain ⟨q, hq⟩ := rm_of h (get_mem hg).1 (by rw [(get_mem hg).2]; exact h7') (by rw [(get_mem hg).2]; exact kids_none hg hk)
       rw [(get_mem hg).2] at hq
       refine (remove_r h zx hq hc).cal fun q hq => ?_
       subst hq; rw [good]; exact rfl
    ·rw [if_neg (fun e => h6 e.1)] at hf
     have bad : c.ve ≠ -1 → c.ve ≠ z.ve → X = failZ 82 := fun h7 h8 => by rw [if_pos ⟨h7, h8⟩] at hf; rw [hX, hf]; rfl
     have good : (c.ve = -1 ∨ c.ve = z.ve) → X = ⟨T, c.path, [], 0⟩ := fun h7 => by rw [if_neg (fun e => h7.elim e.1 e.2)] at hf; rw [hX, hf, if_neg (by simp), if_neg h6, if_pos (by omega)]
     refine EvIf.bne (fun (h7 : c.ve ≠ -1) => EvIf.bne (fun (h8 : c.ve ≠ z.ve) => ?_) (fun (h8 : c.ve = z.ve) => ?_)) (fun (h7 : c.ve = -1) => ?_)
     ·refine (fail 82 (bad h7 h8)).cal fun q hq => ?_
      subst hq; exact rfl
     ·have good := good (.inr h8)
      refine EvIf.beq (fun h9 => absurd h9 h6) (fun _ => EvIf.beq (fun _ => ?_) (fun h9 => absurd (by omega : c.kind = 4) h9))
      rw [good]; exact rfl
     ·have good := good (.inl h7)
      refine EvIf.beq (fun h9 => absurd h9 h6) (fun _ => EvIf.beq (fun _ => ?_) (fun h9 => absurd (by omega : c.kind = 4) h9))
      rw [good]; exact rfl
end Go.Proofs.YtalfffamppmooaaGreatDoor
namespace Go.Proofs.YtalfffamppmooaaGreatDoor
open Go.RowKit
set_option maxRecDepth 100000
theorem one_ev (T : List RZ) (zx se : Int) (c : RC) : (oneZ T zx se c).ev.length ≤ 2 := by
 unfold oneZ
 repeat' split
 all_goals first
  | (unfold createZ; split <;> simp [kidZ, failZ]; done)
  | simp [failZ, removeZ, kidZ]
theorem runZ_step {zx se : Int} {l : List RC} {i : Nat} {c : RC} (h : l[i]? = some c) (a : RAns) : runZ zx se (l.drop i) a = if (oneZ a.t zx se c).e = 0 then runZ zx se (l.drop (i + 1)) ⟨(oneZ a.t zx se c).t, a.ps ++ [(oneZ a.t zx se c).path], a.ev ++ (oneZ a.t zx se c).ev, 0⟩ else ⟨[], [], [], (oneZ a.t zx se c).e⟩ := by
 rw [List.drop_eq_getElem_cons (List.getElem?_eq_some_iff.1 h).1, (List.getElem?_eq_some_iff.1 h).2, runZ]
structure DoInv (zx se : Int) (T : List RZ) (l : List RC) (x : Nat × List RZ × List ByteArray × List RE) : Prop where
 le : x.1 ≤ l.length
 wz : Wz x.2.1
 ps : x.2.2.1.length = x.1
 ev : x.2.2.2.length ≤ 2 * x.1
 run : runZ zx se l ⟨T, [], [], 0⟩ = runZ zx se (l.drop x.1) ⟨x.2.1, x.2.2.1, x.2.2.2, 0⟩
def gA (a : RAns) : G := .tup [gT a.t, .sl (a.ps.map gSt), .sl (a.ev.map enE), gI a.e]
set_option maxHeartbeats 1000000 in
theorem do_r {T : List RZ} (h : Wz T) (zx se : Int) (l : List RC) (hl : l.length ≤ 2000000) (hc : ∀ c ∈ l, c.path.size ≤ maxZ) : FnV Tryz.prog 119 [gT T, .agg [gI zx, gI se], .sl (l.map enC)] fun g => g = gA (doZ T zx se l) := by
 refine fnG Tryz.func119 (by kernel_rfl) rfl (Nat.le_of_ble_eq_true (by kernel_rfl)) (by kernel_rfl) ?_
 obtain ⟨X, hX⟩ : ∃ X, X = doZ T zx se l := ⟨_, rfl⟩
 rw [← hX]
 unfold doZ at hX
 refine ⟨by omega, (in_r zx).cal fun q hq => ?_⟩
 subst hq
 cases hz : inZ zx with
 | false =>
  refine EvIf.mk (fun _ => ?_) fun hh => by cases hh
  rw [hX, if_neg (by rw [hz]; simp)]; exact rfl
 | true =>
  refine EvIf.mk (fun hh => by cases hh) fun _ => ⟨by omega, (in_r se).cal fun q hq => ?_⟩
  subst hq
  cases hs : inZ se with
  | false =>
   refine EvIf.mk (fun _ => ?_) fun hh => by cases hh
   rw [hX, if_neg (by rw [hs]; simp)]; exact rfl
  | true =>
   refine EvIf.mk (fun hh => by cases hh) fun _ => ?_
   rw [if_pos ⟨hz, hs⟩] at hX
   refine sx_loop [0, 2, 4] [0] (fun x : Nat × List RZ × List ByteArray × List RE => [(13, gI x.1), (10, gT x.2.1), (11, .osl 4), (12, .osl 5)]) (fun x => [(4, .slc (x.2.2.1.map gSt) 9 1), (5, .slc (x.2.2.2.map enE) 169 3)]) (DoInv zx se T l) (fun x => l.length - x.1) (0, T, [], []) ⟨by simp, h, rfl, by simp, rfl⟩ ⟨⟨rfl, rfl⟩, ⟨rfl, rfl⟩, ⟨rfl, rfl⟩, ⟨rfl, rfl⟩, trivial⟩ ⟨⟨rfl, rfl, rfl⟩, ⟨rfl, rfl, rfl⟩, trivial⟩ rfl fun ⟨i, t, ps, ev⟩ hI => ?_
   have hw := hI.wz
   have hps := hI.ps
   have hev := hI.ev
   have hrun := hI.run
   have hle := hI.le
   dsimp only at hw hps hev hrun hle
   refine EvIf.dec (fun h1 => ?_) (fun h1 => ?_)
   ·obtain ⟨c, hx⟩ : ∃ c, l[i]? = some c := ⟨_, List.getElem?_eq_getElem (by simpa using h1)⟩
    have hlt := lt_of_at hx
    rw [runZ_step hx] at hrun
    have hev2 := one_ev t zx se c
    refine ⟨by omega, ⟨by omega, EvIdx.at hx ?_⟩⟩
    refine jn (T := ?T1) (fun hj => ?a1) ?b1
    case a1 =>
     repeat' first
      | refine (one_r hw hz hs c (hc c (List.mem_of_getElem? hx))).cal fun q hq => ?_; subst hq
      | refine And.intro ?_ ?_
     all_goals (conv => whnf)
     exact hj
     all_goals exact hj
    refine EvIf.bne (fun h2 => ?_) (fun h2 => ?_)
    ·have h2 : ¬ (oneZ t zx se c).e = 0 := h2
     rw [if_neg h2] at hrun
     rw [hX, hrun, if_neg h2]; exact rfl
    ·have h2 : (oneZ t zx se c).e = 0 := h2
     rw [if_pos h2] at hrun
     refine ⟨by simp; omega, ⟨ev_rows _, ⟨by simp; omega, ⟨by dsimp only; omega, (i + 1, (oneZ t zx se c).t, ps ++ [(oneZ t zx se c).path], ev ++ (oneZ t zx se c).ev), ⟨by dsimp only; omega, wz_one hw hz hs h2, by simp [hps], by simp; omega, hrun⟩, (by dsimp only; omega), ?_⟩⟩⟩⟩
     refine ⟨?_, ?_, rfl⟩ <;> repeat' (first | exact True.intro | with_reducible rfl | exact rfl | refine And.intro ?_ ?_)
     ·exact eqR (by rw [List.map_append]; rfl)
     ·exact eqR (by rw [List.map_append])
   ·have hk : i = l.length := by simp at h1; omega
    subst hk
    rw [List.drop_length, runZ] at hrun
    rw [hX, hrun, if_pos rfl]
    exact rfl
structure EndInv (zx : Int) (T : List RZ) (L : List ByteArray) (x : Nat × List RZ × List RE) : Prop where
 le : x.1 ≤ L.length
 wz : Wz x.2.1
 ev : x.2.2.length = 2 * x.1
 own : ∀ p ∈ L.drop x.1, ∃ z ∈ x.2.1, z.path = p ∧ z.ow ≠ 0
 run : endL zx L (T, []) = endL zx (L.drop x.1) (x.2.1, x.2.2)
theorem end_step {zx : Int} (hz : inZ zx = true) {T t : List RZ} {L : List ByteArray} (hn : L.Nodup) {i : Nat} {ev : List RE} (h : EndInv zx T L (i, t, ev)) {p : ByteArray} (hp : L[i]? = some p) : ∃ q, RmOk t p q ∧ p.size ≤ 500 ∧ EndInv zx T L (i + 1, (removeZ t zx p).t, ev ++ (removeZ t zx p).ev) := by
 have hw : Wz t := h.wz
 have hlt := lt_of_at hp
 have hd : L.drop i = p :: L.drop (i + 1) := by rw [List.drop_eq_getElem_cons hlt, (List.getElem?_eq_some_iff.1 hp).2]
 obtain ⟨z, h1, h2, h3⟩ := h.own p (by show p ∈ L.drop i; rw [hd]; simp)
 have h1 : z ∈ t := h1
 obtain ⟨h4, h5⟩ := own_leaf hw h1 h3
 obtain ⟨q, hq⟩ := rm_of hw h1 h4 h5
 rw [h2] at hq
 obtain ⟨h6, h7⟩ := wz_remove hw hz hq
 have hnd : (p :: L.drop (i + 1)).Nodup := by rw [← hd]; exact hn.sublist (List.drop_sublist _ _)
 refine ⟨q, hq, by rw [← h2]; exact valid_size (hw.valid z h1), hlt, h6, ?_, fun p' hp' => ?_, ?_⟩
 ·have := h.ev
  show (ev ++ (removeZ t zx p).ev).length = 2 * (i + 1)
  rw [List.length_append, show (removeZ t zx p).ev.length = 2 from rfl, show ev.length = 2 * i from this]; omega
 ·have hp' : p' ∈ L.drop (i + 1) := hp'
  obtain ⟨z', k1, k2, k3⟩ := h.own p' (by show p' ∈ L.drop i; rw [hd]; simp [hp'])
  have hne : p' ≠ p := fun e => (List.nodup_cons.1 hnd).1 (e ▸ hp')
  refine ⟨z', ?_, k2, k3⟩
  show z' ∈ (removeZ t zx p).t
  rw [h7]
  refine mem_put.2 (.inr ⟨mem_del.2 ⟨k1, by rw [k2]; exact hne⟩, fun e => ?_⟩)
  have := srt_inj hw.srt k1 hq.mem e
  exact k3 (this ▸ hq.own)
 ·have := h.run
  show _ = endL zx (L.drop (i + 1)) _
  rw [show endL zx L (T, []) = endL zx (L.drop i) (t, ev) from this, hd]
  rfl
theorem end_init {zx : Int} {T : List RZ} (h : Wz T) (se : Int) : EndInv zx T (ownedZ T se) (0, T, []) := ⟨by simp, h, rfl, (owned_ok h se).2, rfl⟩
theorem owned_len {T : List RZ} (h : Wz T) (se : Int) : (ownedZ T se).length ≤ 200 := by
 unfold ownedZ
 rw [List.length_map]
 exact Nat.le_trans (List.length_filter_le _ _) h.len
def gEd (a : List RZ × List RE) : G := .tup [gT a.1, .sl (a.2.map enE)]
theorem end_r {T : List RZ} (h : Wz T) (zx se : Int) : FnV Tryz.prog 121 [gT T, gI zx, gI se] fun g => g = gEd (endZ T zx se) := by
 refine fnG Tryz.func121 (by kernel_rfl) rfl (Nat.le_of_ble_eq_true (by kernel_rfl)) (by kernel_rfl) ?_
 obtain ⟨X, hX⟩ : ∃ X, X = endZ T zx se := ⟨_, rfl⟩
 rw [← hX]
 unfold endZ at hX
 refine (owned_r (wz_sm h).len se).cal fun q hq => ?_
 subst hq
 refine (in_r zx).cal fun q hq => ?_
 subst hq
 cases hz : inZ zx with
 | false =>
  refine EvIf.mk (fun _ => ?_) fun hh => by cases hh
  rw [hX, if_neg (by rw [hz]; simp)]; exact rfl
 | true =>
  refine EvIf.mk (fun hh => by cases hh) fun _ => (in_r se).cal fun q hq => ?_
  subst hq
  cases hs : inZ se with
  | false =>
   refine EvIf.mk (fun _ => ?_) fun hh => by cases hh
   rw [hX, if_neg (by rw [hs]; simp)]; exact rfl
  | true =>
   refine EvIf.mk (fun hh => by cases hh) fun _ => ?_
   rw [if_pos ⟨hz, hs⟩] at hX
   have hL := owned_len h se
   have hnd := (owned_ok h se).1
   have hinit := end_init (zx := zx) h se
   generalize ownedZ T se = L at *
   refine sx_loop [1, 9] [] (fun x : Nat × List RZ × List RE => [(10, gI x.1), (0, gT x.2.1), (8, .osl 2)]) (fun x => [(2, .slc (x.2.2.map enE) 169 3)]) (EndInv zx T L) (fun x => L.length - x.1) (0, T, []) hinit ⟨⟨rfl, rfl⟩, ⟨rfl, rfl⟩, ⟨rfl, rfl⟩, trivial⟩ ⟨⟨rfl, rfl, rfl⟩, trivial⟩ rfl fun ⟨i, t, ev⟩ hI => ?_
   have hle : i ≤ L.length := hI.le
   have hev : ev.length = 2 * i := hI.ev
   refine EvIf.dec (fun h1 => ?_) (fun h1 => ?_)
   ·refine EvIdx.of (by simpa using h1) fun p hp => ?_
    obtain ⟨q, hq, hsz, hn⟩ := end_step hz hnd hI hp
    have hlt := lt_of_at hp
    refine (remove_r hI.wz zx hq (by unfold maxZ; omega)).cal fun q hq => ?_
    subst hq
    have e2 : (removeZ t zx p).ev.length = 2 := rfl
    refine ⟨ev_rows _, ⟨by dsimp only; rw [List.length_map, List.length_map]; omega, ⟨by dsimp only; omega, _, hn, (by dsimp only; omega), ?_⟩⟩⟩
    refine ⟨?_, ?_, rfl⟩ <;> repeat' (first | exact True.intro | with_reducible rfl | exact rfl | refine And.intro ?_ ?_)
    exact eqR (by rw [List.map_append])
   ·have hk : i = L.length := by simp at h1; omega
    subst hk
    have hrun := hI.run
    have hrun : endL zx L (T, []) = endL zx (L.drop L.length) (t, ev) := hrun
    rw [List.drop_length, endL] at hrun
    rw [hX, hrun]
    exact rfl
theorem leq_not (a b : ByteArray) : (Op.bytesLess a.toList b.toList || a.toList == b.toList) = !ltS b a := by
 rw [bytes_eq]
 show (ltS a b || decide (a = b)) = _
 cases h : ltS b a with
 | true =>
  rw [ltS_asymm h]
  have := ltS_ne h
  simp [Ne.symm this]
 | false =>
  by_cases e : a = b
  ·simp [e]
  ·rw [ltS_total h (Ne.symm e)]; rfl
end Go.Proofs.YtalfffamppmooaaGreatDoor
namespace Go.Proofs.YtalfffamppmooaaGreatDoor
open Go.RowKit
set_option maxRecDepth 100000
def lastP (l : List RZ) (i : Nat) : ByteArray := if i = 0 then noS else ((l[i - 1]?).getD rz0).path
theorem chkL_step {l : List RZ} {i : Nat} {z : RZ} (h : l[i]? = some z) : chkL (l.take i) (lastP l i) (l.drop i) = if rightE (l.take i) (lastP l i) z = 0 then chkL (l.take (i + 1)) (lastP l (i + 1)) (l.drop (i + 1)) else rightE (l.take i) (lastP l i) z := by
 rw [List.drop_eq_getElem_cons (List.getElem?_eq_some_iff.1 h).1, (List.getElem?_eq_some_iff.1 h).2, chkL, take_more h]
 have e : lastP l (i + 1) = z.path := by unfold lastP; rw [if_neg (by omega), show i + 1 - 1 = i by omega, h]; rfl
 rw [e]
set_option maxHeartbeats 1000000 in
theorem check_r (l : List RZ) (hl : l.length ≤ 100000) (hp : ∀ z ∈ l, z.path.size ≤ maxZ) : FnV Tryz.prog 35 [gT l] fun g => g = gI (checkZ l) := by
 refine fnG Tryz.func35 (by kernel_rfl) rfl (Nat.le_of_ble_eq_true (by kernel_rfl)) (by kernel_rfl) ?_
 obtain ⟨X, hX⟩ : ∃ X, X = checkZ l := ⟨_, rfl⟩
 rw [← hX]
 have fin : ∀ e, X = e → gI e = gI X := fun e h => by rw [h]
 refine EvIf.beq (fun h0 => fin _ ?_) (fun h0 => ?_)
 ·have : l = [] := List.eq_nil_of_length_eq_zero (by simpa using h0)
  rw [hX, this]; rfl
 obtain ⟨z0, l0, hz0⟩ : ∃ z l', l = z :: l' := by
  cases l with
  | nil => exact absurd rfl h0
  | cons z l' => exact ⟨z, l', rfl⟩
 have hX : X = if z0.path ≠ rootS then 80 else if l.length > 200 then 86 else chkL [] noS l := by rw [hX, hz0]; rfl
 refine EvIdx.atI (x := z0) (by decide) (by rw [hz0]; rfl) (EvIf.bneS (fun (h1 : z0.path ≠ rootS) => fin _ (by rw [hX, if_pos h1])) (fun (h1 : z0.path = rootS) => EvIf.dec (fun h2 => fin _ ?_) (fun h2 => ?_)))
 ·rw [hX, if_neg (fun h => h h1), if_pos (by simp at h2; omega)]
 rw [if_neg (fun h => h h1), if_neg (by simp at h2; omega)] at hX
 refine sx_loop [0] [] (fun i : Nat => [(3, gI i)]) (fun _ => []) (fun i => i ≤ l.length ∧ X = chkL (l.take i) (lastP l i) (l.drop i)) (fun i => l.length - i) 0 ⟨by omega, hX⟩ ⟨⟨rfl, rfl⟩, trivial⟩ trivial rfl fun i ⟨hi, hx⟩ => ?_
 clear hX
 refine EvIf.dec (fun h3 => ?_) (fun h3 => ?_)
 ·refine EvIdx.of (by simpa using h3) fun z hz => ?_
  have hlt := lt_of_at hz
  rw [chkL_step hz] at hx
  have hpz := hp z (List.mem_of_getElem? hz)
  have bad : ∀ e, rightE (l.take i) (lastP l i) z = e → e ≠ 0 → X = e := fun e h he => by rw [hx, h, if_neg he]
  have hgood : rightE (l.take i) (lastP l i) z = 0 → X = chkL (l.take (i + 1)) (lastP l (i + 1)) (l.drop (i + 1)) := fun h => by rw [hx, if_pos h]
  clear hx
  obtain ⟨E, hE⟩ : ∃ E, E = rightE (l.take i) (lastP l i) z := ⟨_, rfl⟩
  rw [← hE] at bad hgood
  unfold rightE at hE
  refine (valid_r z.path hpz).cal fun q hq => ?_
  subst hq
  cases hv : validZ z.path with
  | false =>
   refine EvIf.mk (fun _ => fin _ (bad _ (by rw [hE, if_pos hv]) (by decide))) fun hh => by cases hh
  | true =>
   rw [if_neg (by rw [hv]; simp)] at hE
   refine EvIf.mk (fun hh => by cases hh) fun _ => ?_
   -- the last one's path
   have hne : (l.take i ≠ []) ↔ 0 < i := by
    rw [← List.length_pos_iff, List.length_take]; omega
   have hO : (¬ (l.take i ≠ [] ∧ ltS (lastP l i) z.path = false)) → E = (if (parentZ z.path).2 = true ∧ (getZ (l.take i) (parentZ z.path).1).isSome = false then 83
    else if ((parentZ z.path).2 = true ∧ ((getZ (l.take i) (parentZ z.path).1).getD rz0).ow ≠ 0) ∨ ((parentZ z.path).2 = false ∧ z.ow ≠ 0) then 85
    else if z.data.size > 1024 then 87
    else if inZ z.cr && inZ z.ch && inZ z.ci && inZ z.ve && inZ z.ki && inZ z.ow && inZ z.nx then 0 else 1) := fun h => by rw [hE, if_neg h]
   have hB : l.take i ≠ [] ∧ ltS (lastP l i) z.path = false → E = 81 := fun h => by rw [hE, if_pos h]
   clear hE
   refine EvIf.dec (fun h4 => ?_) (fun h4 => ?_)
   ·refine ⟨by omega, ?_⟩
    obtain ⟨y, hy⟩ : ∃ y, l[i - 1]? = some y := ⟨_, List.getElem?_eq_getElem (by omega)⟩
    have ely : lastP l i = y.path := by unfold lastP; rw [if_neg (by omega), hy]; rfl
    refine EvIdx.atI (x := y) (by omega) (by rw [show ((i : Int) - 1).toNat = i - 1 by omega]; exact hy) ?_
    have el : (Op.bytesLess z.path.toList y.path.toList || z.path.toList == y.path.toList) = !ltS (lastP l i) z.path := by rw [leq_not, ely]
    refine EvIf.mk (fun (h5 : (Op.bytesLess z.path.toList y.path.toList || z.path.toList == y.path.toList) = true) => fin _ (bad _ (hB ⟨hne.2 (by omega), by rw [el] at h5; simpa using h5⟩) (by decide))) (fun (h5 : (Op.bytesLess z.path.toList y.path.toList || z.path.toList == y.path.toList) = false) => ?_)
    have hE := hO fun h => by rw [el, h.2] at h5; cases h5
    refine (parent_r z.path hpz).cal fun q hq => ?_
    subst hq
    refine ⟨by simp; omega, ⟨fun r hr => by obtain ⟨b, -, rfl⟩ := List.mem_map.1 hr; rfl, ?_⟩⟩
    have esub : subL (l.map enZ) (0 : Int).toNat (i : Int).toNat = (l.take i).map enZ := by unfold subL; rw [show (0 : Int).toNat = 0 from rfl, List.drop_zero, map_take', Int.toNat_natCast]
    rw [esub]
    refine (get_r (by rw [List.length_take]; omega) (parentZ z.path).1).cal fun q hq => ?_
    subst hq
    cases hu : (parentZ z.path).2 with
    | true =>
     rw [hu] at hE
     refine EvIf.mk (fun _ => ?_) fun hh => by cases hh
     cases hg : getZ (l.take i) (parentZ z.path).1 with
     | none =>
      refine EvIf.mk (fun _ => fin _ (bad _ (by rw [hE, if_pos ⟨rfl, by rw [hg]; rfl⟩]) (by decide))) fun hh => by cases hh
     | some y2 =>
      rw [hg, if_neg (by simp)] at hE
      have eO : getO (l.take i) (parentZ z.path).1 = y2 := by unfold getO; rw [hg]; rfl
      rw [eO]
      refine EvIf.mk (fun hh => by cases hh) fun _ => EvIf.mk (fun _ => EvIf.bne (fun h7 => fin _ (bad _ (by rw [hE, if_pos (.inl ⟨rfl, h7⟩)]) (by decide))) (fun h7 => EvIf.mk (fun hh => by cases hh) fun _ => ?_)) fun hh => by cases hh
      rw [if_neg (by rintro (⟨-, h⟩ | ⟨h, -⟩); exact h h7; cases h)] at hE
      refine EvIf.dec (fun h8 => fin _ (bad _ (by rw [hE, if_pos (by omega)]) (by decide))) (fun h8 => ?_)
      rw [if_neg (by omega)] at hE
      refine (in_r z.cr).cal fun q hq => ?_
      subst hq
      refine EvIf.mk (fun g0 => fin _ (bad _ (by rw [hE, if_neg (by simp at g0; simp [g0])]) (by decide))) (fun g0 => ?_)
      refine (in_r z.ch).cal fun q hq => ?_
      subst hq
      refine EvIf.mk (fun g1 => fin _ (bad _ (by rw [hE, if_neg (by simp at g1; simp [g1])]) (by decide))) (fun g1 => ?_)
      refine (in_r z.ci).cal fun q hq => ?_
      subst hq
      refine EvIf.mk (fun g2 => fin _ (bad _ (by rw [hE, if_neg (by simp at g2; simp [g2])]) (by decide))) (fun g2 => ?_)
      refine (in_r z.ve).cal fun q hq => ?_
      subst hq
      refine EvIf.mk (fun g3 => fin _ (bad _ (by rw [hE, if_neg (by simp at g3; simp [g3])]) (by decide))) (fun g3 => ?_)
      refine (in_r z.ki).cal fun q hq => ?_
      subst hq
      refine EvIf.mk (fun g4 => fin _ (bad _ (by rw [hE, if_neg (by simp at g4; simp [g4])]) (by decide))) (fun g4 => ?_)
      refine (in_r z.ow).cal fun q hq => ?_
      subst hq
      refine EvIf.mk (fun g5 => fin _ (bad _ (by rw [hE, if_neg (by simp at g5; simp [g5])]) (by decide))) (fun g5 => ?_)
      refine (in_r z.nx).cal fun q hq => ?_
      subst hq
      refine EvIf.mk (fun g6 => fin _ (bad _ (by rw [hE, if_neg (by simp at g6; simp [g6])]) (by decide))) (fun g6 => ?_)
      simp at g0 g1 g2 g3 g4 g5 g6
      have hE := hgood (by rw [hE, if_pos (by simp [g0, g1, g2, g3, g4, g5, g6])])
      refine ⟨by omega, i + 1, ⟨by omega, hE⟩, (by dsimp only; omega), ?_⟩
      refine ⟨?_, ?_, rfl⟩ <;> repeat' (first | exact True.intro | with_reducible rfl | exact rfl | refine And.intro ?_ ?_)
    | false =>
     rw [hu, if_neg (by simp)] at hE
     refine EvIf.mk (fun hh => by cases hh) fun _ => EvIf.mk (fun hh => by cases hh) fun _ => EvIf.mk (fun _ => EvIf.bne (fun h7 => fin _ (bad _ (by rw [hE, if_pos (.inr ⟨rfl, h7⟩)]) (by decide))) (fun h7 => ?_)) fun hh => by cases hh
     rw [if_neg (by rintro (⟨h, -⟩ | ⟨-, h⟩); cases h; exact h h7)] at hE
     refine EvIf.dec (fun h8 => fin _ (bad _ (by rw [hE, if_pos (by omega)]) (by decide))) (fun h8 => ?_)
     rw [if_neg (by omega)] at hE
     refine (in_r z.cr).cal fun q hq => ?_
     subst hq
     refine EvIf.mk (fun g0 => fin _ (bad _ (by rw [hE, if_neg (by simp at g0; simp [g0])]) (by decide))) (fun g0 => ?_)
     refine (in_r z.ch).cal fun q hq => ?_
     subst hq
     refine EvIf.mk (fun g1 => fin _ (bad _ (by rw [hE, if_neg (by simp at g1; simp [g1])]) (by decide))) (fun g1 => ?_)
     refine (in_r z.ci).cal fun q hq => ?_
     subst hq
     refine EvIf.mk (fun g2 => fin _ (bad _ (by rw [hE, if_neg (by simp at g2; simp [g2])]) (by decide))) (fun g2 => ?_)
     refine (in_r z.ve).cal fun q hq => ?_
     subst hq
     refine EvIf.mk (fun g3 => fin _ (bad _ (by rw [hE, if_neg (by simp at g3; simp [g3])]) (by decide))) (fun g3 => ?_)
     refine (in_r z.ki).cal fun q hq => ?_
     subst hq
     refine EvIf.mk (fun g4 => fin _ (bad _ (by rw [hE, if_neg (by simp at g4; simp [g4])]) (by decide))) (fun g4 => ?_)
     refine (in_r z.ow).cal fun q hq => ?_
     subst hq
     refine EvIf.mk (fun g5 => fin _ (bad _ (by rw [hE, if_neg (by simp at g5; simp [g5])]) (by decide))) (fun g5 => ?_)
     refine (in_r z.nx).cal fun q hq => ?_
     subst hq
     refine EvIf.mk (fun g6 => fin _ (bad _ (by rw [hE, if_neg (by simp at g6; simp [g6])]) (by decide))) (fun g6 => ?_)
     simp at g0 g1 g2 g3 g4 g5 g6
     have hE := hgood (by rw [hE, if_pos (by simp [g0, g1, g2, g3, g4, g5, g6])])
     refine ⟨by omega, i + 1, ⟨by omega, hE⟩, (by dsimp only; omega), ?_⟩
     refine ⟨?_, ?_, rfl⟩ <;> repeat' (first | exact True.intro | with_reducible rfl | exact rfl | refine And.intro ?_ ?_)
   ·have hE := hO fun h => absurd (hne.1 h.1) (by omega)
    refine (parent_r z.path hpz).cal fun q hq => ?_
    subst hq
    refine ⟨by simp; omega, ⟨fun r hr => by obtain ⟨b, -, rfl⟩ := List.mem_map.1 hr; rfl, ?_⟩⟩
    have esub : subL (l.map enZ) (0 : Int).toNat (i : Int).toNat = (l.take i).map enZ := by unfold subL; rw [show (0 : Int).toNat = 0 from rfl, List.drop_zero, map_take', Int.toNat_natCast]
    rw [esub]
    refine (get_r (by rw [List.length_take]; omega) (parentZ z.path).1).cal fun q hq => ?_
    subst hq
    cases hu : (parentZ z.path).2 with
    | true =>
     rw [hu] at hE
     refine EvIf.mk (fun _ => ?_) fun hh => by cases hh
     cases hg : getZ (l.take i) (parentZ z.path).1 with
     | none =>
      refine EvIf.mk (fun _ => fin _ (bad _ (by rw [hE, if_pos ⟨rfl, by rw [hg]; rfl⟩]) (by decide))) fun hh => by cases hh
     | some y2 =>
      rw [hg, if_neg (by simp)] at hE
      have eO : getO (l.take i) (parentZ z.path).1 = y2 := by unfold getO; rw [hg]; rfl
      rw [eO]
      refine EvIf.mk (fun hh => by cases hh) fun _ => EvIf.mk (fun _ => EvIf.bne (fun h7 => fin _ (bad _ (by rw [hE, if_pos (.inl ⟨rfl, h7⟩)]) (by decide))) (fun h7 => EvIf.mk (fun hh => by cases hh) fun _ => ?_)) fun hh => by cases hh
      rw [if_neg (by rintro (⟨-, h⟩ | ⟨h, -⟩); exact h h7; cases h)] at hE
      refine EvIf.dec (fun h8 => fin _ (bad _ (by rw [hE, if_pos (by omega)]) (by decide))) (fun h8 => ?_)
      rw [if_neg (by omega)] at hE
      refine (in_r z.cr).cal fun q hq => ?_
      subst hq
      refine EvIf.mk (fun g0 => fin _ (bad _ (by rw [hE, if_neg (by simp at g0; simp [g0])]) (by decide))) (fun g0 => ?_)
      refine (in_r z.ch).cal fun q hq => ?_
      subst hq
      refine EvIf.mk (fun g1 => fin _ (bad _ (by rw [hE, if_neg (by simp at g1; simp [g1])]) (by decide))) (fun g1 => ?_)
      refine (in_r z.ci).cal fun q hq => ?_
      subst hq
      refine EvIf.mk (fun g2 => fin _ (bad _ (by rw [hE, if_neg (by simp at g2; simp [g2])]) (by decide))) (fun g2 => ?_)
      refine (in_r z.ve).cal fun q hq => ?_
      subst hq
      refine EvIf.mk (fun g3 => fin _ (bad _ (by rw [hE, if_neg (by simp at g3; simp [g3])]) (by decide))) (fun g3 => ?_)
      refine (in_r z.ki).cal fun q hq => ?_
      subst hq
      refine EvIf.mk (fun g4 => fin _ (bad _ (by rw [hE, if_neg (by simp at g4; simp [g4])]) (by decide))) (fun g4 => ?_)
      refine (in_r z.ow).cal fun q hq => ?_
      subst hq
      refine EvIf.mk (fun g5 => fin _ (bad _ (by rw [hE, if_neg (by simp at g5; simp [g5])]) (by decide))) (fun g5 => ?_)
      refine (in_r z.nx).cal fun q hq => ?_
      subst hq
      refine EvIf.mk (fun g6 => fin _ (bad _ (by rw [hE, if_neg (by simp at g6; simp [g6])]) (by decide))) (fun g6 => ?_)
      simp at g0 g1 g2 g3 g4 g5 g6
      have hE := hgood (by rw [hE, if_pos (by simp [g0, g1, g2, g3, g4, g5, g6])])
      refine ⟨by omega, i + 1, ⟨by omega, hE⟩, (by dsimp only; omega), ?_⟩
      refine ⟨?_, ?_, rfl⟩ <;> repeat' (first | exact True.intro | with_reducible rfl | exact rfl | refine And.intro ?_ ?_)
    | false =>
     rw [hu, if_neg (by simp)] at hE
     refine EvIf.mk (fun hh => by cases hh) fun _ => EvIf.mk (fun hh => by cases hh) fun _ => EvIf.mk (fun _ => EvIf.bne (fun h7 => fin _ (bad _ (by rw [hE, if_pos (.inr ⟨rfl, h7⟩)]) (by decide))) (fun h7 => ?_)) fun hh => by cases hh
     rw [if_neg (by rintro (⟨h, -⟩ | ⟨-, h⟩); cases h; exact h h7)] at hE
     refine EvIf.dec (fun h8 => fin _ (bad _ (by rw [hE, if_pos (by omega)]) (by decide))) (fun h8 => ?_)
     rw [if_neg (by omega)] at hE
     refine (in_r z.cr).cal fun q hq => ?_
     subst hq
     refine EvIf.mk (fun g0 => fin _ (bad _ (by rw [hE, if_neg (by simp at g0; simp [g0])]) (by decide))) (fun g0 => ?_)
     refine (in_r z.ch).cal fun q hq => ?_
     subst hq
     refine EvIf.mk (fun g1 => fin _ (bad _ (by rw [hE, if_neg (by simp at g1; simp [g1])]) (by decide))) (fun g1 => ?_)
     refine (in_r z.ci).cal fun q hq => ?_
     subst hq
     refine EvIf.mk (fun g2 => fin _ (bad _ (by rw [hE, if_neg (by simp at g2; simp [g2])]) (by decide))) (fun g2 => ?_)
     refine (in_r z.ve).cal fun q hq => ?_
     subst hq
     refine EvIf.mk (fun g3 => fin _ (bad _ (by rw [hE, if_neg (by simp at g3; simp [g3])]) (by decide))) (fun g3 => ?_)
     refine (in_r z.ki).cal fun q hq => ?_
     subst hq
     refine EvIf.mk (fun g4 => fin _ (bad _ (by rw [hE, if_neg (by simp at g4; simp [g4])]) (by decide))) (fun g4 => ?_)
     refine (in_r z.ow).cal fun q hq => ?_
     subst hq
     refine EvIf.mk (fun g5 => fin _ (bad _ (by rw [hE, if_neg (by simp at g5; simp [g5])]) (by decide))) (fun g5 => ?_)
     refine (in_r z.nx).cal fun q hq => ?_
     subst hq
     refine EvIf.mk (fun g6 => fin _ (bad _ (by rw [hE, if_neg (by simp at g6; simp [g6])]) (by decide))) (fun g6 => ?_)
     simp at g0 g1 g2 g3 g4 g5 g6
     have hE := hgood (by rw [hE, if_pos (by simp [g0, g1, g2, g3, g4, g5, g6])])
     refine ⟨by omega, i + 1, ⟨by omega, hE⟩, (by dsimp only; omega), ?_⟩
     refine ⟨?_, ?_, rfl⟩ <;> repeat' (first | exact True.intro | with_reducible rfl | exact rfl | refine And.intro ?_ ?_)
 ·have hk : i = l.length := by simp at h3; omega
  rw [hk, List.drop_length] at hx
  exact fin _ hx
end Go.Proofs.YtalfffamppmooaaGreatDoor
namespace Go.Proofs.YtalfffamppmooaaGreatDoor
open Go.RowKit
set_option maxRecDepth 100000
theorem texts_r (l : List ByteArray) (hl : l.length ≤ 100000000) : FnV Tryz.prog 49 [.sl (l.map gSt), .sl (l.map gSt)] fun g => g = .v (.bool true) := by
 refine fnG Tryz.func49 (by kernel_rfl) rfl (Nat.le_of_ble_eq_true (by kernel_rfl)) (by kernel_rfl) ?_
 refine EvIf.bne (fun h => absurd rfl h) (fun _ => ?_)
 refine sx_loop [0, 1] [] (fun i : Nat => [(5, gI i)]) (fun _ => []) (fun i => i ≤ l.length) (fun i => l.length - i) 0 (by omega) ⟨⟨rfl, rfl⟩, trivial⟩ trivial rfl fun i hi => ?_
 refine EvIf.dec (fun h => ?_) (fun _ => by exact rfl)
 refine EvIdx.of (by simpa using h) fun x hx => EvIdx.at hx (EvIf.bneS (fun h => absurd rfl h) (fun _ => ?_))
 have := lt_of_at hx
 refine ⟨by omega, i + 1, by omega, (by dsimp only; omega), ?_⟩
 refine ⟨?_, ?_, rfl⟩ <;> repeat' (first | exact True.intro | with_reducible rfl | exact rfl | refine And.intro ?_ ?_)
theorem same_r (l : List RZ) (hl : l.length ≤ 100000000) : FnV Tryz.prog 50 [gT l, gT l] fun g => g = .v (.bool true) := by
 refine fnG Tryz.func50 (by kernel_rfl) rfl (Nat.le_of_ble_eq_true (by kernel_rfl)) (by kernel_rfl) ?_
 refine EvIf.bne (fun h => absurd rfl h) (fun _ => ?_)
 refine sx_loop [0, 1] [] (fun i : Nat => [(5, gI i)]) (fun _ => []) (fun i => i ≤ l.length) (fun i => l.length - i) 0 (by omega) ⟨⟨rfl, rfl⟩, trivial⟩ trivial rfl fun i hi => ?_
 refine EvIf.dec (fun h => ?_) (fun _ => by exact rfl)
 refine EvIdx.of (by simpa using h) fun x hx => EvIdx.at hx ?_
 have := lt_of_at hx
 refine EvEq.flat [.s, .s, .i .i64, .i .i64, .i .i64, .i .i64, .i .i64, .i .i64, .i .i64] [_, _, _, _, _, _, _, _, _] [_, _, _, _, _, _, _, _, _] (by kernel_rfl) (by kernel_rfl) (by kernel_rfl) rfl rfl rfl rfl (fun _ => ?_) (fun h => absurd rfl h)
 refine ⟨fun hh => (by cases hh), fun _ => ⟨by omega, i + 1, by omega, (by dsimp only; omega), ?_⟩⟩
 refine ⟨?_, ?_, rfl⟩ <;> repeat' (first | exact True.intro | with_reducible rfl | exact rfl | refine And.intro ?_ ?_)
end Go.Proofs.YtalfffamppmooaaGreatDoor

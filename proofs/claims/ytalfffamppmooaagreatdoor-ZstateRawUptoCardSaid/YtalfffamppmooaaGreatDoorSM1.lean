/- A part of the proof, merged from several texts. -/
import Derived.Test.YtalfffamppmooaaGreatDoorZM1
import Derived.Test.YtalfffamppmooaaGreatDoorSxMc
namespace Go.Proofs.YtalfffamppmooaaGreatDoor
open Go.RowKit
set_option maxRecDepth 100000
def enL (x : RL) : List G := [gI x.id, gI x.span, gI x.last]
def gL (x : RL) : G := .agg (enL x)
abbrev gLs (l : List RL) : G := .sl (l.map enL)
def rl0 : RL := ⟨0, 0, 0⟩
def cmpI (a b : Int) : Int := if a < b then -1 else if a > b then 1 else 0
theorem posL_eq {l : List RL} {id : Int} {i : Nat} (hi : i ≤ l.length) (h1 : ∀ (t : Nat) x, l[t]? = some x → t < i → x.id < id) (h2 : ∀ (t : Nat) x, l[t]? = some x → i ≤ t → id ≤ x.id) : posL l id = i := by
 unfold posL
 rw [← List.take_append_drop i l, List.countP_append]
 have e1 : (l.take i).countP (fun x => decide (x.id < id)) = (l.take i).length := by
  rw [List.countP_eq_length]
  intro x hx
  obtain ⟨t, ht, e⟩ := List.mem_iff_getElem.1 hx
  rw [List.length_take] at ht
  have := h1 t x (by rw [← e, List.getElem_take]; exact List.getElem?_eq_getElem (by omega)) (by omega)
  simpa using this
 have e2 : (l.drop i).countP (fun x => decide (x.id < id)) = 0 := by
  rw [List.countP_eq_zero]
  intro x hx
  obtain ⟨t, ht, e⟩ := List.mem_iff_getElem.1 hx
  rw [List.length_drop] at ht
  have := h2 (i + t) x (by rw [← e, List.getElem_drop]; exact List.getElem?_eq_getElem (by omega)) (by omega)
  simp; omega
 rw [e1, e2, List.length_take]; omega
theorem half_eq {n : Nat} (h : n ≤ 1000000) : (IntKind.wrap .u64 (n : Int)).fdiv (2 ^ min (1 : Int).toNat 64) = ((n / 2 : Nat) : Int) := by
 have e1 : IntKind.wrap .u64 (n : Int) = n := by simp [IntKind.wrap, IntKind.bits, IntKind.signed]; omega
 rw [e1]
 have e2 : (2 : Int) ^ min (1 : Int).toNat 64 = 2 := by decide
 rw [e2]
 rw [Int.fdiv_eq_ediv_of_nonneg _ (by decide)]; omega
theorem nan_v (n : Int) : FnV Tryz.prog 133 [gI n] fun g => g = .v (.bool false) := by
 refine fnG Tryz.func133 (by kernel_rfl) rfl (Nat.le_of_ble_eq_true (by kernel_rfl)) (by kernel_rfl) ?_
 exact congrArg (fun b => G.v (Value.bool b)) (by simp)
theorem cmp_v (a b : Int) : FnV Tryz.prog 102 [gI a, gI b] fun g => g = gI (cmpI a b) := by
 refine fnG Tryz.func102 (by kernel_rfl) rfl (Nat.le_of_ble_eq_true (by kernel_rfl)) (by kernel_rfl) ?_
 refine (nan_v a).cal fun q hq => ?_
 subst hq
 refine (nan_v b).cal fun q hq => ?_
 subst hq
 refine EvIf.mk (fun hh => by cases hh) fun _ => ?_
 refine EvIf.mk (fun hh => by cases hh) fun _ => ?_
 refine EvIf.dec (fun h => ?_) (fun h => EvIf.dec (fun h2 => ?_) (fun h2 => ?_))
 ·show gI (-1) = gI (cmpI a b)
  unfold cmpI; rw [if_pos h]
 ·show gI 1 = gI (cmpI a b)
  unfold cmpI; rw [if_neg h, if_pos h2]
 ·show gI 0 = gI (cmpI a b)
  unfold cmpI; rw [if_neg h, if_neg h2]
theorem cmpf_v (x : RL) (id : Int) : FnV Tryz.prog 101 [gL x, gI id] fun g => g = gI (cmpI x.id id) := by
 refine fnG Tryz.func101 (by kernel_rfl) rfl (Nat.le_of_ble_eq_true (by kernel_rfl)) (by kernel_rfl) ?_
 refine (cmp_v x.id id).cal fun q hq => ?_
 subst hq
 exact rfl
def fF : G := .v (.func (.func 101) #[] #[])
theorem cmp_lt (a b : Int) : cmpI a b < 0 ↔ a < b := by
 unfold cmpI
 split
 ·omega
 ·split <;> omega
theorem cmp_eq (a b : Int) : cmpI a b = 0 ↔ a = b := by
 unfold cmpI
 split
 ·omega
 ·split <;> omega
structure BsI (l : List RL) (id : Int) (x : Nat × Nat) : Prop where
 le : x.1 ≤ x.2 ∧ x.2 ≤ l.length
 lo : ∀ (t : Nat) y, l[t]? = some y → t < x.1 → y.id < id
 hi : ∀ (t : Nat) y, l[t]? = some y → x.2 ≤ t → id ≤ y.id
theorem srt_at {l : List RL} (h : SrtL l) {i j : Nat} {x y : RL} (hi : l[i]? = some x) (hj : l[j]? = some y) (hij : i ≤ j) : x.id ≤ y.id := by
 by_cases e : i = j
 ·subst e; rw [hi] at hj; obtain rfl := Option.some.inj hj; exact Int.le_refl _
 ·obtain ⟨h1, e1⟩ := List.getElem?_eq_some_iff.1 hi
  obtain ⟨h2, e2⟩ := List.getElem?_eq_some_iff.1 hj
  have := List.pairwise_iff_getElem.1 h i j h1 h2 (by omega)
  rw [e1, e2] at this; omega
set_option maxHeartbeats 1000000 in
theorem bsf_v {l : List RL} (hs : SrtL l) (hl : l.length ≤ 100000) (id : Int) : FnV Tryz.prog 100 [gLs l, gI id, fF] fun g => g = .tup [gI (posL l id : Nat), .v (.bool (getL l id).isSome)] := by
 refine fnG Tryz.func100 (by kernel_rfl) rfl (Nat.le_of_ble_eq_true (by kernel_rfl)) (by kernel_rfl) ?_
 refine sx_loop [0, 1, 2, 8] [] (fun x : Nat × Nat => [(9, gI x.1), (10, gI x.2)]) (fun _ => []) (BsI l id) (fun x => x.2 - x.1) (0, l.length) ⟨⟨by simp, by simp⟩, fun t y _ h => by simp at h, fun t y hy h => by have := lt_of_at hy; dsimp only at h; omega⟩ ⟨⟨rfl, rfl⟩, ⟨rfl, by simp only [List.length_map]; rfl⟩, trivial⟩ trivial rfl fun ⟨i, j⟩ hI => ?_
 obtain ⟨⟨hij, hjl⟩, hlo, hhi⟩ := hI
 dsimp only at hij hjl hlo hhi
 refine EvIf.dec (fun h1 => ?_) (fun h1 => ?_)
 ·refine ⟨by dsimp only; omega, ⟨by decide, ?_⟩⟩
  have e1 : ((i : Int) + (j : Int)) = ((i + j : Nat) : Int) := by omega
  rw [e1, half_eq (by omega)]
  refine ⟨by omega, ?_⟩
  obtain ⟨x, hx⟩ : ∃ x, l[(i + j) / 2]? = some x := ⟨_, List.getElem?_eq_getElem (by omega)⟩
  refine EvIdx.at hx ?_
  refine (cmpf_v x id).cal fun q hq => ?_
  subst hq
  refine EvIf.dec (fun h2 => ?_) (fun h2 => ?_)
  ·have h3 : x.id < id := (cmp_lt x.id id).1 h2
   refine ⟨by omega, ((i + j) / 2 + 1, j), ⟨⟨by dsimp only; omega, hjl⟩, fun t y hy ht => ?_, hhi⟩, (by dsimp only; omega), ?_⟩
   ·have := srt_at hs hy hx (by dsimp only at ht; omega)
    omega
   refine ⟨?_, ?_, rfl⟩ <;> repeat' (first | exact True.intro | with_reducible rfl | exact rfl | refine And.intro ?_ ?_)
  ·have h3 : ¬ x.id < id := fun h => h2 ((cmp_lt x.id id).2 h)
   refine ⟨(i, (i + j) / 2), ⟨⟨by dsimp only; omega, by dsimp only; omega⟩, hlo, fun t y hy ht => ?_⟩, (by dsimp only; omega), ?_⟩
   ·have := srt_at hs hx hy (by dsimp only at ht; omega)
    omega
   refine ⟨?_, ?_, rfl⟩ <;> repeat' (first | exact True.intro | with_reducible rfl | exact rfl | refine And.intro ?_ ?_)
 ·have hji : j = i := by dsimp only at h1; omega
  subst hji
  have hp : posL l id = j := posL_eq hjl hlo hhi
  refine EvIf.dec (fun h2 => ?_) (fun h2 => ?_)
  ·obtain ⟨x, hx⟩ : ∃ x, l[j]? = some x := ⟨_, List.getElem?_eq_getElem (by simpa using h2)⟩
   refine EvIdx.at hx ?_
   refine (cmpf_v x id).cal fun q hq => ?_
   subst hq
   have he : (cmpI x.id id == 0) = (getL l id).isSome := by
    cases hg : getL l id with
    | none =>
     have := getL_none.1 hg x (List.mem_of_getElem? hx)
     have h4 : ¬ cmpI x.id id = 0 := fun h => this ((cmp_eq _ _).1 h)
     simpa using h4
    | some y =>
     obtain ⟨k1, k2⟩ := getL_at hs hg
     rw [hp, hx] at k1
     obtain rfl := Option.some.inj k1
     have h4 : cmpI x.id id = 0 := (cmp_eq _ _).2 k2
     simpa using h4
   show G.tup [gI (j : Nat), G.v (Value.bool (cmpI x.id id == 0))] = _
   rw [he, hp]
  ·have he : getL l id = none := by
    cases hg : getL l id with
    | none => rfl
    | some y =>
     have := lt_of_at (getL_at hs hg).1
     rw [hp] at this
     exact absurd (by simpa using this) h2
   show G.tup [gI (j : Nat), G.v (Value.bool false)] = _
   rw [he, hp]; rfl
end Go.Proofs.YtalfffamppmooaaGreatDoor
namespace Go.Proofs.YtalfffamppmooaaGreatDoor
open Go.RowKit
set_option maxRecDepth 100000
abbrev tTab : Nat := 124
abbrev oTs (l : List RL) : Os := [(0, .blk [.osl 1] tTab), (1, .slc (l.map enL) 95 3)]
def cT (l : List RL) : List R := [.abs (cl (oTs l))]
theorem bsf_o {l : List RL} (hs : SrtL l) (hl : l.length ≤ 100000) (id : Int) : FnO Tryz.prog 100 [.osl 0, gI id, fF] [.slc (l.map enL) 95 3] fun g rs => g = .tup [gI (posL l id : Nat), .v (.bool (getL l id).isSome)] ∧ rs = [.slc (l.map enL) 95 3] :=
 (bsf_v hs hl id).peek rfl fun g h => by rw [h]; rfl
theorem end_tab {own : Os} {n : Nat} {g : G} {Q : G → List R → Prop} (l : List RL) (h0 : look 0 own = some (.blk [.osl 1] tTab)) (h1 : look 1 own = some (.slc (l.map enL) 95 3)) (hk : (keyR n (.blk [.osl 1] tTab) && Nat.blt 1 n) = true) (hg : (noKeyB g && resB g) = true) (hq : Q g (cT l)) : ∃ its g', EndK [0] own n g Q its g' := by
 simp only [Bool.and_eq_true] at hk
 have h2 := Nat.le_of_ble_eq_true hk.2
 exact end_cl (oTs l) [] ⟨⟨Nat.ble_eq_true_of_le (by omega), hk.1, h0⟩, ⟨hk.2, rfl, h1⟩, trivial⟩ rfl ⟨_, rfl⟩ rfl hg hq
theorem find_o {l : List RL} (hs : SrtL l) (hl : l.length ≤ 100000) (id : Int) : FnO Tryz.prog 58 [.ptr 0 0, gI id] (cT l) fun g rs => g = .tup [gI (posL l id : Nat), .v (.bool (getL l id).isSome)] ∧ rs = cT l := by
 refine fnoG Tryz.func58 (by kernel_rfl) rfl (Nat.le_of_ble_eq_true (by kernel_rfl)) (by kernel_rfl) (lent_cl0 (O := oTs l) (n0 := 2) rfl) ?_
 refine EvCall.lend ((bsf_o hs hl id).cal fun q rs hq => ?_)
 obtain ⟨rfl, rfl⟩ := hq
 exact end_tab l rfl rfl rfl rfl ⟨rfl, rfl⟩
theorem bool_eq' {a b : Bool} (h : a = true ↔ b = true) : G.v (.bool a) = .v (.bool b) := by rw [Bool.eq_iff_iff.2 h]
theorem clock_v (n : Int) : FnV Tryz.prog 87 [gI n] fun g => g = .v (.bool (clockL n)) := by
 refine fnG Tryz.func87 (by kernel_rfl) rfl (Nat.le_of_ble_eq_true (by kernel_rfl)) (by kernel_rfl) ?_
 repeat' first
  | refine EvIf.dec (fun _ => ?_) (fun _ => ?_)
 all_goals (refine bool_eq' (b := clockL n) ?_; unfold clockL; simp; try omega)
theorem rightL_v (x : RL) : FnV Tryz.prog 59 [gL x] fun g => g = .v (.bool (okL x)) := by
 refine fnG Tryz.func59 (by kernel_rfl) rfl (Nat.le_of_ble_eq_true (by kernel_rfl)) (by kernel_rfl) ?_
 repeat' first
  | refine EvIf.dec (fun _ => ?_) (fun _ => ?_)
  | (refine (clock_v x.last).cal fun q hq => ?_; subst hq)
 all_goals (refine bool_eq' (b := okL x) ?_; unfold okL big; simp; try omega)
end Go.Proofs.YtalfffamppmooaaGreatDoor


import Derived.Test.YtihfaocdpmmooaaGreatZBase
import Derived.StillTailTactics
import Derived.Lib.Hide
import Derived.Test.YtihfaocdpmmooaaGreatZShelf
import Derived.Laws.CopyOwn
import Derived.Sort.OwnSortedInts
namespace Go.Proofs.YtihfaocdpmmooaaGreat
open Go.RowKit
set_option maxRecDepth 100000
structure Mk where
 v : Int
 n : Int
def mkC (e : Mk) : List Value := [.int .i64 e.v, .int .i64 e.n]
def Dm (a b : Mk) : Bool := decide (a.v < b.v ∨ a.v = b.v ∧ a.n < b.n)
theorem Zbt {a b : Mk} (h2 : a.v = b.v) : decide (a.n < b.n) = Dm a b := by unfold Dm; rw [decide_eq_decide]; omega
theorem Zaa {a b : Mk} (h1 : b.v ≤ a.v) (h2 : ¬ a.v = b.v) : false = Dm a b := by unfold Dm; rw [eq_comm, decide_eq_false_iff_not]; omega
theorem Zbl {a b : Mk} (h1 : a.v < b.v) : true = Dm a b := by unfold Dm; rw [eq_comm, decide_eq_true_eq]; omega
set_option maxHeartbeats 400000 in
theorem Z3l (a b : Mk) (w : World) :
  Calls Tryz.prog 149 #[.agg #[.int .i64 a.v, .int .i64 a.n], .agg #[.int .i64 b.v, .int .i64 b.n]] w
   fun e w' => e = .returned (.bool (Dm a b)) ∧ Below w.heap.size w w' := by
 obtain ⟨av, an⟩ := a
 obtain ⟨bv, bn⟩ := b
 dsimp only
 by_cases h1 : av < bv
 ·go_enter Tryz.func149, Tryz.ntmps149
  go_wp2
  go_ret
  exact ⟨G8 (Zbl (a := ⟨av, an⟩) (b := ⟨bv, bn⟩) h1), ((Below.refl _ _).alloc (Nat.le_refl _) _).alloc (by simp) _⟩
 ·by_cases h2 : (av == bv) = true
  ·go_enter Tryz.func149, Tryz.ntmps149
   go_wp2
   go_ret
   exact ⟨G8 (Zbt (a := ⟨av, an⟩) (b := ⟨bv, bn⟩) (by simpa using h2)), ((Below.refl _ _).alloc (Nat.le_refl _) _).alloc (by simp) _⟩
  ·have h2' : (av == bv) = false := by simpa using h2
   go_enter Tryz.func149, Tryz.ntmps149
   go_wp2
   go_ret
   exact ⟨G8 (Zaa (a := ⟨av, an⟩) (b := ⟨bv, bn⟩) (by dsimp only; omega) (by simpa using h2')), ((Below.refl _ _).alloc (Nat.le_refl _) _).alloc (by simp) _⟩
set_option maxHeartbeats 400000 in
theorem Z0h (l : List Mk) (A : Option Addr) (c : Nat) (i k : Nat) (w : World) (hi : i < l.length) (hk : k < l.length) (hl : Rd w w.heap.size 2 mkC A l) :
  Calls Tryz.prog 139 #[.agg #[.slice A l.length c], .int .i64 i, .int .i64 k] w
   fun e w' => e = .returned (.bool (Dm l[k] l[i])) ∧ Below w.heap.size w w' := by
 obtain ⟨a, hA, hab⟩ := hl.addr hi
 subst hA
 have hbw : Below w.heap.size w (w.alloc (Obj.cells #[Value.slice (some a) l.length c] 189)) := (Below.refl _ _).alloc (Nat.le_refl _) _
 have b0 : (w.alloc (Obj.cells #[Value.slice (some a) l.length c] 189)).cell? ⟨w.heap.size, 0, none⟩ = some (Value.slice (some a) l.length c) := cell_one_new w _ _ 0 _ rfl
 have hl' := hl.below hbw
 have hz := hbw.size
 go_enter Tryz.func139, Tryz.ntmps139
 go_wp2
 generalize w.alloc (Obj.cells #[Value.slice (some a) l.length c] 189) = w1 at *
 have c0 : w1.cell? (a.add (k * 2)) = _ := hl'.cell hk (j := 0) rfl
 have c1 : w1.cell? ⟨(a.add (k * 2)).block, (a.add (k * 2)).off + 1, none⟩ = _ := hl'.cell hk (j := 1) rfl
 have d0 : w1.cell? (a.add (i * 2)) = _ := hl'.cell hi (j := 0) rfl
 have d1 : w1.cell? ⟨(a.add (i * 2)).block, (a.add (i * 2)).off + 1, none⟩ = _ := hl'.cell hi (j := 1) rfl
 generalize he : l[k] = e at c0 c1
 generalize hi' : l[i] = e' at d0 d1
 have HE := Lib.hid he
 have HI := Lib.hid hi'
 clear he hi'
 have i1 : (i : Int) < l.length := by omega
 have i2 : (k : Int) < l.length := by omega
 clear hl hl'
 go_still_tail 10, (by kernel_rfl)
 change wpList _ _ _ _ _ w1.drew
 have hbd := hbw.drew
 have hzd : w.heap.size ≤ w1.drew.heap.size := hz
 generalize w1.drew = w2 at *
 clear b0 c0 c1 d0 d1 hbw hz
 go_wp2_with (go_at_call 149; refine (Z3l e e' w2).mono ?_; rintro e w3 ⟨rfl, hb3⟩)
 go_ret
 exact ⟨G8 (by rw [HE.out, HI.out]), hbd.trans (hb3.mono hzd)⟩
def Ll (l : List Mk) : Int := if l = [] then -1 else ((l.findIdx fun x => l.all fun y => !Dm x y : Nat) : Int)
def Top (l : List Mk) (n k : Nat) : Prop := ∃ (hk : k < n) (hn : n ≤ l.length), (∀ j (hj : j < n), Dm l[k] l[j] = false) ∧ ∀ j (hj : j < k), Dm l[j] l[k] = true
theorem Ud (a : Mk) : Dm a a = false := by unfold Dm; rw [decide_eq_false_iff_not]; omega
theorem U7 {a b c : Mk} (h1 : Dm a b = true) (h2 : Dm a c = false) : Dm c b = true := by
 unfold Dm at *; rw [decide_eq_true_eq] at *; rw [decide_eq_false_iff_not] at h2; omega
theorem Top.one {l : List Mk} (h : 0 < l.length) : Top l 1 0 :=
 ⟨by omega, h, fun j hj => by have e : j = 0 := by omega
                              subst e; exact Ud _, fun j hj => by omega⟩
theorem Top.stay {l : List Mk} {n k : Nat} (h : Top l n k) (hn : n < l.length) (hl : Dm (l[k]'(by obtain ⟨a, _, _⟩ := h; omega)) l[n] = false) : Top l (n + 1) k := by
 obtain ⟨hk, hn', h1, h2⟩ := h
 refine ⟨by omega, by omega, fun j hj => ?_, h2⟩
 by_cases hjn : j = n
 ·subst hjn; exact hl
 ·exact h1 j (by omega)
theorem Top.turn {l : List Mk} {n k : Nat} (h : Top l n k) (hn : n < l.length) (hl : Dm (l[k]'(by obtain ⟨a, _, _⟩ := h; omega)) l[n] = true) : Top l (n + 1) n := by
 obtain ⟨hk, hn', h1, h2⟩ := h
 refine ⟨by omega, by omega, fun j hj => ?_, fun j hj => U7 hl (h1 j hj)⟩
 by_cases hjn : j = n
 ·subst hjn; exact Ud _
 ·exact by
   have a := U7 hl (h1 j (by omega))
   unfold Dm at *; rw [decide_eq_true_eq] at a; rw [decide_eq_false_iff_not]; omega
theorem Top.best {l : List Mk} {k : Nat} (h : Top l l.length k) : Ll l = k := by
 obtain ⟨hk, _, h1, h2⟩ := h
 unfold Ll
 rw [if_neg (by intro e; subst e; simp at hk)]
 congr 1
 rw [List.findIdx_eq hk]
 refine ⟨?_, fun j hj => ?_⟩
 ·rw [List.all_eq_true]
  intro y hy
  obtain ⟨j, hj, rfl⟩ := List.getElem_of_mem hy
  rw [h1 j hj]; rfl
 ·rw [List.all_eq_false]
  exact ⟨l[k], List.getElem_mem _, by rw [h2 j hj]; simp⟩
set_option maxHeartbeats 400000 in
theorem Z3s (l : List Mk) (A : Option Addr) (c : Nat) (w : World) (hm : l.length ≤ maxLen) (hl : Rd w w.heap.size 2 mkC A l) :
  Calls Tryz.prog 122 #[.slice A l.length c] w
   fun e w' => e = .returned (.int .i64 (Ll l)) ∧ Below w.heap.size w w' := by
 unfold maxLen at hm
 generalize hn : l.length = n at *
 have HN := Lib.hid hn
 clear hn
 go_enter Tryz.func122, Tryz.ntmps122
 go_wp2
 go_loopw [4, 11] (fun b i wr => ∃ (k : Nat), k ≤ n ∧ i = .int .i64 k ∧ (k = 0 ∧ b = .int .i64 (-1) ∨ ∃ p : Nat, Top l k p ∧ b = .int .i64 p) ∧ Below w.heap.size w wr) (fun _ i _ => n - (intOf i).toNat)
 case atStart => exact ⟨0, Nat.zero_le _, rfl, .inl ⟨rfl, rfl⟩, Below.refl _ _⟩
 case round =>
  obtain ⟨k, hk, rfl, hb, hbw⟩ := hrel
  by_cases hlt : k < n
  ·have hkl : k < l.length := by rw [HN.out]; exact hlt
   rcases hb with ⟨hk0, rfl⟩ | ⟨p, hp, rfl⟩
   ·have hk0' : k ≤ 0 := by omega
    clear hk0
    go_wp2
    go_roundw
    case rel => exact ⟨k + 1, by omega, by go_num, .inr ⟨0, by rw [show k = 0 by omega]; exact Top.one (by omega), by congr 1; omega⟩, hbw⟩
    case measure => simp [intOf]; omega
   ·have hp' := hp
    obtain ⟨hpk, _, _, _⟩ := hp'
    have hpl : p < l.length := by omega
    have hp0 : ¬ ((p : Int) < 0) := by omega
    have hc := Z0h l A c k p wr hkl hpl ((hl.below hbw).more hbw.size)
    rw [HN.out] at hc
    have HC := Lib.hid hc
    clear hc
    have HS : Hid (Dm l[p] l[k] = false → Top l (k + 1) p) := Lib.hid (hp.stay hkl)
    have HT : Hid (Dm l[p] l[k] = true → Top l (k + 1) k) := Lib.hid (hp.turn hkl)
    clear hp
    generalize Dm l[p] l[k] = bb at HC HS HT
    cases bb
    ·go_wp2_with (go_at_call 139; refine HC.out.mono ?_; rintro e w3 ⟨rfl, hb3⟩)
     go_roundw
     case rel => exact ⟨k + 1, by omega, by go_num, .inr ⟨p, HS.out (by trivial), rfl⟩, hbw.trans (hb3.mono hbw.size)⟩
     case measure => simp [intOf]; omega
    ·go_wp2_with (go_at_call 139; refine HC.out.mono ?_; rintro e w3 ⟨rfl, hb3⟩)
     go_roundw
     case rel => exact ⟨k + 1, by omega, by go_num, .inr ⟨k, HT.out (by trivial), rfl⟩, hbw.trans (hb3.mono hbw.size)⟩
     case measure => simp [intOf]; omega
  ·obtain rfl : k = n := by omega
   go_wp2
   go_ret
   refine ⟨?_, hbw⟩
   rcases hb with ⟨rfl, rfl⟩ | ⟨p, hp, rfl⟩
   ·have := List.eq_nil_of_length_eq_zero HN.out
    subst this
    rfl
   ·exact Ew (by have := HN.out; subst this; exact hp.best.symm)
end Go.Proofs.YtihfaocdpmmooaaGreat
namespace Go.Proofs.YtihfaocdpmmooaaGreat
open Go.RowKit
structure REnt where
 v : Int
 n : Int
 b : ByteArray
def Zeu (e : REnt) : List Value := [.int .i64 e.v, .int .i64 e.n, .string e.b]
def okB (view : Int) (i : Nat) (e : REnt) : Bool := decide (e.n = (i : Int) + 1 ∧ view ≤ e.v ∧ e.v ≤ 4611686018427387904 ∧ e.b.size ≤ 200)
def Ah : Int → Nat → List REnt → Bool
 | _, _, [] => true
 | view, i, e :: r => okB view i e && Ah e.v (i + 1) r
def Bl (l : List REnt) : Bool := Ah 1 0 l && decide (l.length ≤ 150)
theorem Vo {l : List REnt} {view : Int} {k : Nat} {d r : Bool} (hk : k < l.length) (h : (Ah view k (l.drop k) && d) = r) :
  (okB view k l[k] && (Ah l[k].v (k + 1) (l.drop (k + 1)) && d)) = r := by
 rw [List.drop_eq_getElem_cons hk, Ah] at h
 rw [← h, Bool.and_assoc]
set_option maxHeartbeats 400000 in
theorem Y8 (l : List REnt) (A : Option Addr) (c : Nat) (w : World) (hm : l.length ≤ maxLen) (hl : Rd w w.heap.size 3 Zeu A l) :
  Calls Tryz.prog 59 #[.slice A l.length c] w
   fun e w' => e = .returned (.bool (Bl l)) ∧ Below w.heap.size w w' := by
 unfold maxLen at hm
 generalize hn : l.length = n at *
 have HN := Lib.hid hn
 clear hn
 go_enter Tryz.func59, Tryz.ntmps59
 go_wp2
 go_loopw [3, 8] (fun vw i wr => ∃ (k : Nat) (view : Int), k ≤ n ∧ i = .int .i64 k ∧ vw = .int .i64 view ∧ (Ah view k (l.drop k) && decide (l.length ≤ 150)) = Bl l ∧ Below w.heap.size w wr) (fun _ i _ => n - (intOf i).toNat)
 case atStart => exact ⟨0, 1, Nat.zero_le _, rfl, rfl, by simp [Bl], Below.refl _ _⟩
 case round =>
  obtain ⟨k, view, hk, rfl, rfl, hr, hb⟩ := hrel
  have HR := Lib.hid hr
  clear hr
  by_cases hlt : k < n
  ·have hl' := hl.below hb
   have hkl : k < l.length := by rw [HN.out]; exact hlt
   obtain ⟨a, hA, hab⟩ := hl'.addr hkl
   subst hA
   have c0 : wr.cell? (a.add (k * 3)) = _ := hl'.cell hkl (j := 0) rfl
   have c1 : wr.cell? ⟨(a.add (k * 3)).block, (a.add (k * 3)).off + 1, none⟩ = _ := hl'.cell hkl (j := 1) rfl
   have c2 : wr.cell? ⟨(a.add (k * 3)).block, (a.add (k * 3)).off + 2, none⟩ = _ := hl'.cell hkl (j := 2) rfl
   generalize he : l[k] = e at c0 c1 c2
   have HS := Lib.hid (Vo hkl HR.out)
   rw [he] at HS
   clear HR
   go_wp2
   all_goals
    first
     | (go_ret
        refine ⟨G8 ?_, (hb.alloc hb.size _)⟩
        rw [← HS.out, show okB view k e = false by unfold okB; rw [decide_eq_false_iff_not]; omega]; rfl)
     | (go_roundw
        case rel => exact ⟨k + 1, e.v, by omega, by go_num, rfl, by rw [← HS.out, show okB view k e = true by unfold okB; rw [decide_eq_true_eq]; omega]; rfl, (hb.alloc hb.size _)⟩
        case measure => simp [intOf]; omega)
  ·have hke : k = n := by omega
   subst hke
   go_wp2
   go_ret
   refine ⟨G8 ?_, hb⟩
   have hn := HN.out
   rw [← HR.out, List.drop_of_length_le (by omega)]
   simp [Ah, hn]; omega
end Go.Proofs.YtihfaocdpmmooaaGreat
namespace Go.Proofs.YtihfaocdpmmooaaGreat
open Go.RowKit
def Df (m : Int) : Bool := decide (1 ≤ m ∧ m ≤ 7)
def Aj (m : Int) : Int := if Df m = true then m / 2 + 1 else 0
def Am (v m : Int) : Int := if Df m = true ∧ 0 ≤ v ∧ v ≤ 4611686018427387904 then v % m else -1
set_option maxHeartbeats 400000 in
theorem Dz (m : Int) (w : World) :
  Calls Tryz.prog 90 #[.int .i64 m] w fun e w' => e = .returned (.bool (Df m)) ∧ w = w' := by
 by_cases h1 : 1 ≤ m
 ·go_enter Tryz.func90, Tryz.ntmps90
  go_wp2
  go_ret
  exact ⟨by simp [Df, h1], rfl⟩
 ·go_enter Tryz.func90, Tryz.ntmps90
  go_wp2
  go_ret
  exact ⟨by simp [Df]; omega, rfl⟩
theorem Hx {m : Int} (h : Df m = true) : 1 ≤ m ∧ m ≤ 7 := by simpa [Df] using h
set_option maxHeartbeats 400000 in
theorem Lu (m : Int) (w : World) :
  Calls Tryz.prog 54 #[.int .i64 m] w fun e w' => e = .returned (.int .i64 (Aj m)) ∧ w = w' := by
 by_cases hg : Df m = true
 ·obtain ⟨h1, h2⟩ := Hx hg
  go_enter Tryz.func54, Tryz.ntmps54
  go_wp2_with (go_at_call 90; refine (Dz _ _).mono ?_; rintro e w' ⟨rfl, rfl⟩)
  go_ret
  exact ⟨Ew (by simp [Aj, hg]), rfl⟩
 ·go_enter Tryz.func54, Tryz.ntmps54
  go_wp2_with (go_at_call 90; refine (Dz _ _).mono ?_; rintro e w' ⟨rfl, rfl⟩)
  go_ret
  exact ⟨Ew (by simp [Aj, hg]), rfl⟩
theorem Iq {v m : Int} (h : Df m = false ∨ v < 0 ∨ 4611686018427387904 < v) : (-1 : Int) = Am v m := by
 unfold Am
 rw [if_neg]
 rintro ⟨h1, h2, h3⟩
 rcases h with h | h | h
 ·rw [h] at h1; cases h1
 ·omega
 ·omega
set_option maxHeartbeats 400000 in
theorem Rc (v m : Int) (w : World) :
  Calls Tryz.prog 72 #[.int .i64 v, .int .i64 m] w fun e w' => e = .returned (.int .i64 (Am v m)) ∧ w = w' := by
 by_cases hg : Df m = true
 ·have hm := Hx hg
  obtain ⟨hm1, hm2⟩ := hm
  by_cases h1 : v < 0
  ·go_enter Tryz.func72, Tryz.ntmps72
   go_wp2_with (go_at_call 90; refine (Dz _ _).mono ?_; rintro e w' ⟨rfl, rfl⟩)
   go_ret
   exact ⟨Ew (Iq (by omega)), rfl⟩
  ·by_cases h2 : 4611686018427387904 < v
   ·go_enter Tryz.func72, Tryz.ntmps72
    go_wp2_with (go_at_call 90; refine (Dz _ _).mono ?_; rintro e w' ⟨rfl, rfl⟩)
    go_ret
    exact ⟨Ew (Iq (by omega)), rfl⟩
   ·go_enter Tryz.func72, Tryz.ntmps72
    go_wp2_with (go_at_call 90; refine (Dz _ _).mono ?_; rintro e w' ⟨rfl, rfl⟩)
    go_ret
    exact ⟨Ew (by unfold Am; rw [if_pos ⟨hg, by omega, by omega⟩]), rfl⟩
 ·have hg0 : Df m = false := by simpa using hg
  go_enter Tryz.func72, Tryz.ntmps72
  go_wp2_with (go_at_call 90; refine (Dz _ _).mono ?_; rintro e w' ⟨rfl, rfl⟩)
  go_ret
  exact ⟨Ew (Iq (.inl hg0)), rfl⟩
end Go.Proofs.YtihfaocdpmmooaaGreat
namespace Go.Proofs.YtihfaocdpmmooaaGreat
open Go.RowKit Go.Sort
set_option maxRecDepth 100000
def Zeg (x : Int) : List Value := [.int .i64 x]
def Oo (l : List Int) (v : Int) : Nat := l.countP fun x => decide (v ≤ x)
def Cm (l : List Int) (k : Nat) : Int := (l.take k).foldl (fun out x => if out < x ∧ Aj l.length ≤ Oo l x then x else out) 0
def Bu (l : List Int) : Int := if l.length ≤ 7 then Cm l l.length else 0
theorem K2 {l : List Int} {k : Nat} (hk : k < l.length) : Cm l (k + 1) = if Cm l k < l[k] ∧ Aj l.length ≤ Oo l l[k] then l[k] else Cm l k := by
 unfold Cm
 rw [List.take_succ_eq_append_getElem hk, List.foldl_append]
 rfl
theorem Ps (m : Int) : 0 ≤ Aj m ∧ Aj m ≤ 4 := by
 unfold Aj
 split
 ·rename_i h; have := Hx h; omega
 ·omega
end Go.Proofs.YtihfaocdpmmooaaGreat
namespace Go.Proofs.YtihfaocdpmmooaaGreat
open Go.RowKit Go.Sort
set_option maxRecDepth 100000
def Cx (l : List Int) : List Int := l.mergeSort fun x y => decide (x ≤ y)
theorem G9 (l : List Int) : (Cx l).Perm l := List.mergeSort_perm _ _
theorem Cp (l : List Int) : (Cx l).length = l.length := (G9 l).length_eq
theorem Ta (l : List Int) {i j : Nat} (hij : i < j) (hj : j < (Cx l).length) : (Cx l)[i]'(by omega) ≤ (Cx l)[j] := by
 have h := List.pairwise_mergeSort (le := fun x y : Int => decide (x ≤ y)) (by intro a b c h1 h2; simp at *; omega) (by intro a b; simp; omega) l
 have h2 := (List.pairwise_iff_getElem.1 h) i j (by have := hj; unfold Cx at this; omega) (by have := hj; unfold Cx at this; omega) hij
 exact of_decide_eq_true h2
theorem Th {l m : List Int} (h : l.Perm m) (v : Int) : Oo l v = Oo m v := h.countP_eq _
theorem Qf (s : List Int) (v : Int) (k : Nat) : Oo s v = Oo (s.take k) v + Oo (s.drop k) v := by
 unfold Oo
 rw [← List.countP_append, List.take_append_drop]
theorem Z36 (l : List Int) {k : Nat} (hk : k < (Cx l).length) : l.length - k ≤ Oo l (Cx l)[k] := by
 rw [← Th (G9 l), Qf _ _ k]
 have h : Oo ((Cx l).drop k) (Cx l)[k] = ((Cx l).drop k).length := by
  unfold Oo
  rw [List.countP_eq_length]
  intro x hx
  obtain ⟨j, hj, rfl⟩ := List.getElem_of_mem hx
  rw [List.getElem_drop, decide_eq_true_eq]
  rcases Nat.eq_zero_or_pos j with h0 | h0
  ·subst h0; exact Int.le_refl _
  ·exact Ta l (by omega) (by rw [List.length_drop] at hj; omega)
 rw [h, List.length_drop, Cp]
 omega
theorem Ye (l : List Int) {k : Nat} (hk : k < (Cx l).length) {v : Int} (hv : (Cx l)[k] < v) : Oo l v ≤ l.length - k - 1 := by
 rw [← Th (G9 l), Qf _ _ (k + 1)]
 have h : Oo ((Cx l).take (k + 1)) v = 0 := by
  unfold Oo
  rw [List.countP_eq_zero]
  intro x hx
  obtain ⟨j, hj, rfl⟩ := List.getElem_of_mem hx
  rw [List.getElem_take, decide_eq_true_eq]
  rw [List.length_take] at hj
  rcases Nat.lt_or_ge j k with h0 | h0
  ·have := Ta l h0 hk; omega
  ·have e : j = k := by omega
   subst e; omega
 have h2 : Oo ((Cx l).drop (k + 1)) v ≤ ((Cx l).drop (k + 1)).length := List.countP_le_length
 rw [h, List.length_drop, Cp] at *
 omega
theorem Lv (l : List Int) : ∀ k, k ≤ l.length → 0 ≤ Cm l k ∧ (∀ j (hj : j < l.length), j < k → Aj l.length ≤ Oo l l[j] → l[j] ≤ Cm l k) ∧
  (Cm l k = 0 ∨ ∃ j, ∃ hj : j < l.length, Cm l k = l[j] ∧ Aj l.length ≤ Oo l l[j])
 | 0, _ => ⟨by simp [Cm], fun j _ h => by omega, .inl (by simp [Cm])⟩
 | k + 1, hk => by
  obtain ⟨h0, h1, h2⟩ := Lv l k (by omega)
  rw [K2 (show k < l.length by omega)]
  split
  ·rename_i h
   refine ⟨by omega, fun j hj hjk hq => ?_, .inr ⟨k, by omega, rfl, h.2⟩⟩
   rcases Nat.lt_or_ge j k with hlt | hge
   ·have := h1 j hj hlt hq; omega
   ·have e : j = k := by omega
    subst e; exact Int.le_refl _
  ·rename_i h
   refine ⟨h0, fun j hj hjk hq => ?_, h2⟩
   rcases Nat.lt_or_ge j k with hlt | hge
   ·exact h1 j hj hlt hq
   ·have e : j = k := by omega
    subst e; omega
theorem Rg (l : List Int) (h7 : l.length ≤ 7) {k : Nat} (hk : k < (Cx l).length) (hq : (k : Int) = l.length - Aj l.length) :
  (if (Cx l)[k] < 0 then 0 else (Cx l)[k]) = Bu l := by
 unfold Bu
 rw [if_pos h7]
 obtain ⟨h0, ha, hb⟩ := Lv l l.length (Nat.le_refl _)
 have hf := Z36 l hk
 rw [Cp] at hk
 have hx : (Cx l)[k]'(by rw [Cp]; exact hk) ≤ Cm l l.length := by
  have hm : (Cx l)[k]'(by rw [Cp]; exact hk) ∈ l := (G9 l).mem_iff.1 (List.getElem_mem _)
  obtain ⟨j, hj, e⟩ := List.getElem_of_mem hm
  have := ha j hj hj (by rw [e]; omega)
  rw [e] at this
  exact this
 have hy : Cm l l.length ≤ 0 ∨ Cm l l.length ≤ (Cx l)[k]'(by rw [Cp]; exact hk) := by
  rcases hb with hb | ⟨j, hj, e, hqj⟩
  ·left; omega
  ·right
   rw [e]
   apply Int.not_lt.1
   intro hlt
   have := Ye l (k := k) (by rw [Cp]; exact hk) hlt
   omega
 split <;> omega
theorem Zk {l : List Int} (h : Df l.length = false) : Bu l = 0 := by
 unfold Bu
 split
 ·rename_i h7
  have : l.length = 0 := by unfold Df at h; rw [decide_eq_false_iff_not] at h; omega
  rw [List.eq_nil_of_length_eq_zero this]
  rfl
 ·rfl
theorem Z4a (g cap : Nat) (zs : List Int) (w : World) (hH : Holds (Value.int .i64) w g 0 zs.toArray) (hg : g < w.heap.size) (hsz : zs.length < 4611686018427387904) :
  Calls Tryz.prog 135 #[.slice (some ⟨g, 0, none⟩) zs.length cap] w fun e w' =>
   e = .returned (.tuple #[]) ∧ (∀ j v, (Cx zs)[j]? = some v → w'.cell? ⟨g, j, none⟩ = some (.int .i64 v)) ∧ w.grownBy w' (some g) := by
 refine (Tryz.slices_Sort_int g 0 cap zs w hH hg hsz).mono ?_
 rintro e w' ⟨rfl, n, os, rfl⟩
 refine ⟨rfl, fun j v hv => ?_, grownBy_sortedI _⟩
 have h0 : Holds (Value.int .i64) (Sort.ahead w n) g 0 zs.toArray := hH
 have hj : j < (Cx zs).length := (List.getElem?_eq_some_iff.1 hv).1
 have h := cell?_putRow (Value.int .i64) (Sort.ahead w n) g 0 zs.toArray (Cx zs).toArray h0 (by simp [Cp]) j (by simpa using hj)
 rw [cell?_grow _ _ _ (by rw [size_putRow]; exact hg)]
 rw [Nat.zero_add] at h
 refine h.trans ?_
 rw [← (List.getElem?_eq_some_iff.1 hv).2]
 simp [hj]
def Wp (l : List Int) : List Value := l.map (.int .i64)
def k0 (n : Nat) : Nat := n - (n / 2 + 1)
set_option maxHeartbeats 1000000 in
theorem Z35 (l : List Int) (A : Option Addr) (c : Nat) (w : World) (hm : l.length ≤ maxLen) (hl : Rd w w.heap.size 1 Zeg A l) :
  Calls Tryz.prog 100 #[.slice A l.length c] w
   fun e w' => e = .returned (.int .i64 (Bu l)) ∧ Below w.heap.size w w' := by
 have hg := Dz l.length (w.alloc (Obj.cells #[.int .i64 0, .int .i64 0, .int .i64 0, .int .i64 0, .int .i64 0, .int .i64 0, .int .i64 0] 115))
 unfold maxLen at hm
 generalize hn : l.length = n at *
 have HN := Lib.hid hn
 clear hn
 cases hb : Df n
 ·rw [hb] at hg
  have HG := Lib.hid hg
  clear hg
  go_enter Tryz.func100, Tryz.ntmps100
  go_wp2_with (go_at_call 90; refine HG.out.mono ?_; rintro e w' ⟨rfl, rfl⟩)
  go_ret
  exact ⟨Ew (by rw [Zk (by rw [HN.out]; exact hb)]), (Below.refl _ _).alloc (Nat.le_refl _) _⟩
 ·rw [hb] at hg
  have HG := Lib.hid hg
  clear hg
  have hgb := Hx hb
  obtain ⟨hg1, hg2⟩ := hgb
  go_enter Tryz.func100, Tryz.ntmps100
  have hn2 : n ≤ 7 := by omega
  have hsrc : 0 < n → ∃ ad, A = some ad ∧ ∀ j v, (Wp l)[j]? = some v → (w.alloc (Obj.cells #[.int .i64 0, .int .i64 0, .int .i64 0, .int .i64 0, .int .i64 0, .int .i64 0, .int .i64 0] 115)).cell? (ad.add j) = some v := fun h0 => by
   obtain ⟨a, hA, hab⟩ := hl.addr (i := 0) (by rw [HN.out]; exact h0)
   subst hA
   refine ⟨a, rfl, fun j v hv => ?_⟩
   unfold Wp at hv
   rw [List.getElem?_map] at hv
   cases hx : l[j]? with
   | none => rw [hx] at hv; cases hv
   | some x =>
    rw [hx] at hv
    simp only [Option.map_some, Option.some.injEq] at hv
    subst hv
    have hj : j < l.length := (List.getElem?_eq_some_iff.1 hx).1
    have h := hl.cell hj (j := 0) (v := .int .i64 x) (by rw [(List.getElem?_eq_some_iff.1 hx).2]; rfl)
    rw [Nat.mul_one, Vw, Nat.add_zero] at h
    rw [World.cell?_alloc_lt w _ _ (by rw [Kg]; exact hab)]
    exact h
  have HS := Lib.hid hsrc
  clear hsrc
  have hlen : (Wp l).length = n := by unfold Wp; rw [List.length_map]; exact HN.out
  have HL := Lib.hid hlen
  clear hlen
  have H2 := Lib.hid (show (Wp l).length = Nat.min n 7 by rw [HL.out]; show n = min n 7; omega)
  have H4 := Lib.hid (show 0 + (Wp l).length ≤ (List.replicate 7 (Value.int .i64 0)).length by rw [HL.out]; simp; omega)
  have H5 := Lib.hid (show ∀ v ∈ Wp l, v.oneCell' = true by unfold Wp; intro v hv; obtain ⟨x, _, rfl⟩ := List.mem_map.1 hv; rfl)
  have H6 := Lib.hid (show Below w.heap.size w (w.alloc _) from (Below.refl _ _).alloc (Nat.le_refl _) (Obj.cells #[.int .i64 0, .int .i64 0, .int .i64 0, .int .i64 0, .int .i64 0, .int .i64 0, .int .i64 0] 115))
  go_wp2_with (first | (go_at_call 90; refine HG.out.mono ?_; rintro e w' ⟨rfl, rfl⟩) | (refine wpList_copy_splice rfl (.tmp 10) (.tmp 11) 75 75 rfl 3 Tryz.underlying75 (by kernel_rfl) (some ⟨w.heap.size, 0, none⟩) A 7 7 n c rfl rfl w.heap.size 0 (List.replicate 7 (.int .i64 0)) 115 (heap_alloc_new w _) (Wp l) H2.out (fun h => ⟨rfl, HS.out (by rw [HL.out] at h; exact h)⟩) H4.out H5.out w.heap.size w H6.out (Nat.le_refl _) ?_))
  intro w1 hc1 hb1
  have hkq : (k0 n : Int) = n - Aj n := by have := Ps n; unfold k0; unfold Aj; rw [if_pos hb]; omega
  have hkn : k0 n < n := by unfold k0; omega
  have hq0 := Ps n
  obtain ⟨hq1, hq2⟩ := hq0
  have hgl : w.heap.size < w1.heap.size := by
   have h := hc1.out
   rcases Nat.lt_or_ge w.heap.size w1.heap.size with hlt | hge
   ·exact hlt
   ·rw [Array.getElem?_eq_none hge] at h; cases h
  have hH : Holds (Value.int .i64) w1 w.heap.size 0 l.toArray := fun j hj => by
   have hj' : j < l.length := by simpa using hj
   have h := hc1.out
   refine ⟨?_, by simp [World.frozen?, h]⟩
   have hj2 : j < (Wp l).length := by unfold Wp; simpa using hj'
   have hgj : (l.toArray)[j]! = l[j] := by simp [hj']
   rw [hgj]
   simp only [World.cell?, h, splice, List.take_zero, List.nil_append, Nat.zero_add, Option.isSome_none, Bool.false_eq_true, if_false, List.getElem?_toArray]
   rw [List.getElem?_append_left hj2, List.getElem?_eq_getElem hj2]
   simp [Wp]
  have hsort := Z4a w.heap.size 7 l w1 hH hgl (by rw [HN.out]; omega)
  rw [HN.out] at hsort
  have HO := Lib.hid hsort
  clear hsort hH hc1 hl
  go_wp2_with (first | (go_at_call 135; refine HO.out.mono ?_; rintro e w2 ⟨rfl, hcell, hgr⟩))
  have hbw := hb1.grown hgr hb1.size (by simp)
  have hk1 : k0 n < (Cx l).length := by rw [Cp, HN.out]; exact hkn
  have hck := hcell (k0 n) _ (List.getElem?_eq_getElem hk1)
  have HF := Lib.hid (Rg l (by rw [HN.out]; exact hn2) hk1 (by rw [HN.out]; exact hkq))
  have HQ := Lib.hid (Lu n w2)
  generalize (Cx l)[k0 n] = x at hck HF
  rw [show k0 n = ((n : Int) - Aj n).toNat by rw [← hkq]; simp] at hck
  have hq3 : Aj n ≤ n := by omega
  have hq4 : (n : Int) - Aj n < 7 := by omega
  clear hkq hcell hgr hb1 HO HS HL H2 H4 H5 H6
  generalize Aj n = q at hck hq1 hq2 hq3 hq4 HQ
  go_wp2_with (first | (go_at_call 54; refine HQ.out.mono ?_; rintro e w3 ⟨rfl, rfl⟩))
  go_ret
  exact ⟨Ew (by rw [← HF.out]; show max x 0 = _; split <;> omega), hbw⟩
end Go.Proofs.YtihfaocdpmmooaaGreat
namespace Go.Proofs.YtihfaocdpmmooaaGreat
open Go.RowKit
set_option maxRecDepth 100000
theorem Z5j (l : List Mk) : ∀ n, 0 < n → n ≤ l.length → ∃ p, Top l n p
 | 0, h, _ => absurd h (by omega)
 | 1, _, h => ⟨0, Top.one (by omega)⟩
 | n + 2, _, h => by
  obtain ⟨p, hp⟩ := Z5j l (n + 1) (by omega) (by omega)
  cases hb : Dm (l[p]'(by obtain ⟨a, _, _⟩ := hp; omega)) (l[n + 1]'(by omega))
  ·exact ⟨p, hp.stay (by omega) hb⟩
  ·exact ⟨n + 1, hp.turn (by omega) hb⟩
end Go.Proofs.YtihfaocdpmmooaaGreat

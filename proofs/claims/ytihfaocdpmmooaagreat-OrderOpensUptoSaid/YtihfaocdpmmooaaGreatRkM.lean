
import Derived.Test.YtihfaocdpmmooaaGreatZBase
import Derived.StillTailTactics
import Derived.Lib.Hide
import Derived.Test.YtihfaocdpmmooaaGreatZShelf
import Derived.Laws.CopyOwn
import Derived.Sort.OwnSortedInts
namespace Go.Proofs.YtihfaocdpmmooaaGreat
open Go.RowKit
set_option maxRecDepth 100000
structure Mk where
 v : Int
 n : Int
def mkC (e : Mk) : List Value := [.int .i64 e.v, .int .i64 e.n]
def Dl (a b : Mk) : Bool := decide (a.v < b.v ∨ a.v = b.v ∧ a.n < b.n)
theorem Z94 {a b : Mk} (h2 : a.v = b.v) : decide (a.n < b.n) = Dl a b := by unfold Dl; rw [decide_eq_decide]; omega
theorem Z9h {a b : Mk} (h1 : b.v ≤ a.v) (h2 : ¬ a.v = b.v) : false = Dl a b := by unfold Dl; rw [eq_comm, decide_eq_false_iff_not]; omega
theorem Z9j {a b : Mk} (h1 : a.v < b.v) : true = Dl a b := by unfold Dl; rw [eq_comm, decide_eq_true_eq]; omega
set_option maxHeartbeats 400000 in
theorem Z2d (a b : Mk) (w : World) :
  Calls Tryz.prog 149 #[.agg #[.int .i64 a.v, .int .i64 a.n], .agg #[.int .i64 b.v, .int .i64 b.n]] w
   fun e w' => e = .returned (.bool (Dl a b)) ∧ Below w.heap.size w w' := by
 obtain ⟨av, an⟩ := a
 obtain ⟨bv, bn⟩ := b
 dsimp only
 by_cases h1 : av < bv
 ·go_enter Tryz.func149, Tryz.ntmps149
  go_wp2
  go_ret
  exact ⟨C3 (Z9j (a := ⟨av, an⟩) (b := ⟨bv, bn⟩) h1), ((Below.refl _ _).alloc (Nat.le_refl _) _).alloc (by simp) _⟩
 ·by_cases h2 : (av == bv) = true
  ·go_enter Tryz.func149, Tryz.ntmps149
   go_wp2
   go_ret
   exact ⟨C3 (Z94 (a := ⟨av, an⟩) (b := ⟨bv, bn⟩) (by simpa using h2)), ((Below.refl _ _).alloc (Nat.le_refl _) _).alloc (by simp) _⟩
  ·have h2' : (av == bv) = false := by simpa using h2
   go_enter Tryz.func149, Tryz.ntmps149
   go_wp2
   go_ret
   exact ⟨C3 (Z9h (a := ⟨av, an⟩) (b := ⟨bv, bn⟩) (by dsimp only; omega) (by simpa using h2')), ((Below.refl _ _).alloc (Nat.le_refl _) _).alloc (by simp) _⟩
set_option maxHeartbeats 400000 in
theorem Yj (l : List Mk) (A : Option Addr) (c : Nat) (i k : Nat) (w : World) (hi : i < l.length) (hk : k < l.length) (hl : Rd w w.heap.size 2 mkC A l) :
  Calls Tryz.prog 139 #[.agg #[.slice A l.length c], .int .i64 i, .int .i64 k] w
   fun e w' => e = .returned (.bool (Dl l[k] l[i])) ∧ Below w.heap.size w w' := by
 obtain ⟨a, hA, hab⟩ := hl.addr hi
 subst hA
 have hbw : Below w.heap.size w (w.alloc (Obj.cells #[Value.slice (some a) l.length c] 189)) := (Below.refl _ _).alloc (Nat.le_refl _) _
 have b0 : (w.alloc (Obj.cells #[Value.slice (some a) l.length c] 189)).cell? ⟨w.heap.size, 0, none⟩ = some (Value.slice (some a) l.length c) := cell_one_new w _ _ 0 _ rfl
 have hl' := hl.below hbw
 have hz := hbw.size
 go_enter Tryz.func139, Tryz.ntmps139
 go_wp2
 generalize w.alloc (Obj.cells #[Value.slice (some a) l.length c] 189) = w1 at *
 have c0 : w1.cell? (a.add (k * 2)) = _ := hl'.cell hk (j := 0) rfl
 have c1 : w1.cell? ⟨(a.add (k * 2)).block, (a.add (k * 2)).off + 1, none⟩ = _ := hl'.cell hk (j := 1) rfl
 have d0 : w1.cell? (a.add (i * 2)) = _ := hl'.cell hi (j := 0) rfl
 have d1 : w1.cell? ⟨(a.add (i * 2)).block, (a.add (i * 2)).off + 1, none⟩ = _ := hl'.cell hi (j := 1) rfl
 generalize he : l[k] = e at c0 c1
 generalize hi' : l[i] = e' at d0 d1
 have HE := Lib.hid he
 have HI := Lib.hid hi'
 clear he hi'
 have i1 : (i : Int) < l.length := by omega
 have i2 : (k : Int) < l.length := by omega
 clear hl hl'
 go_still_tail 10, (by kernel_rfl)
 change wpList _ _ _ _ _ w1.drew
 have hbd := hbw.drew
 have hzd : w.heap.size ≤ w1.drew.heap.size := hz
 generalize w1.drew = w2 at *
 clear b0 c0 c1 d0 d1 hbw hz
 go_wp2_with (go_at_call 149; refine (Z2d e e' w2).mono ?_; rintro e w3 ⟨rfl, hb3⟩)
 go_ret
 exact ⟨C3 (by rw [HE.out, HI.out]), hbd.trans (hb3.mono hzd)⟩
def Lb (l : List Mk) : Int := if l = [] then -1 else ((l.findIdx fun x => l.all fun y => !Dl x y : Nat) : Int)
def Top (l : List Mk) (n k : Nat) : Prop := ∃ (hk : k < n) (hn : n ≤ l.length), (∀ j (hj : j < n), Dl l[k] l[j] = false) ∧ ∀ j (hj : j < k), Dl l[j] l[k] = true
theorem U2 (a : Mk) : Dl a a = false := by unfold Dl; rw [decide_eq_false_iff_not]; omega
theorem Sf {a b c : Mk} (h1 : Dl a b = true) (h2 : Dl a c = false) : Dl c b = true := by
 unfold Dl at *; rw [decide_eq_true_eq] at *; rw [decide_eq_false_iff_not] at h2; omega
theorem Top.one {l : List Mk} (h : 0 < l.length) : Top l 1 0 :=
 ⟨by omega, h, fun j hj => by have e : j = 0 := by omega
                              subst e; exact U2 _, fun j hj => by omega⟩
theorem Top.stay {l : List Mk} {n k : Nat} (h : Top l n k) (hn : n < l.length) (hl : Dl (l[k]'(by obtain ⟨a, _, _⟩ := h; omega)) l[n] = false) : Top l (n + 1) k := by
 obtain ⟨hk, hn', h1, h2⟩ := h
 refine ⟨by omega, by omega, fun j hj => ?_, h2⟩
 by_cases hjn : j = n
 ·subst hjn; exact hl
 ·exact h1 j (by omega)
theorem Top.turn {l : List Mk} {n k : Nat} (h : Top l n k) (hn : n < l.length) (hl : Dl (l[k]'(by obtain ⟨a, _, _⟩ := h; omega)) l[n] = true) : Top l (n + 1) n := by
 obtain ⟨hk, hn', h1, h2⟩ := h
 refine ⟨by omega, by omega, fun j hj => ?_, fun j hj => Sf hl (h1 j hj)⟩
 by_cases hjn : j = n
 ·subst hjn; exact U2 _
 ·exact by
   have a := Sf hl (h1 j (by omega))
   unfold Dl at *; rw [decide_eq_true_eq] at a; rw [decide_eq_false_iff_not]; omega
theorem Top.best {l : List Mk} {k : Nat} (h : Top l l.length k) : Lb l = k := by
 obtain ⟨hk, _, h1, h2⟩ := h
 unfold Lb
 rw [if_neg (by intro e; subst e; simp at hk)]
 congr 1
 rw [List.findIdx_eq hk]
 refine ⟨?_, fun j hj => ?_⟩
 ·rw [List.all_eq_true]
  intro y hy
  obtain ⟨j, hj, rfl⟩ := List.getElem_of_mem hy
  rw [h1 j hj]; rfl
 ·rw [List.all_eq_false]
  exact ⟨l[k], List.getElem_mem _, by rw [h2 j hj]; simp⟩
set_option maxHeartbeats 400000 in
theorem Z3j (l : List Mk) (A : Option Addr) (c : Nat) (w : World) (hm : l.length ≤ maxLen) (hl : Rd w w.heap.size 2 mkC A l) :
  Calls Tryz.prog 122 #[.slice A l.length c] w
   fun e w' => e = .returned (.int .i64 (Lb l)) ∧ Below w.heap.size w w' := by
 unfold maxLen at hm
 generalize hn : l.length = n at *
 have HN := Lib.hid hn
 clear hn
 go_enter Tryz.func122, Tryz.ntmps122
 go_wp2
 go_loopw [4, 11] (fun b i wr => ∃ (k : Nat), k ≤ n ∧ i = .int .i64 k ∧ (k = 0 ∧ b = .int .i64 (-1) ∨ ∃ p : Nat, Top l k p ∧ b = .int .i64 p) ∧ Below w.heap.size w wr) (fun _ i _ => n - (intOf i).toNat)
 case atStart => exact ⟨0, Nat.zero_le _, rfl, .inl ⟨rfl, rfl⟩, Below.refl _ _⟩
 case round =>
  obtain ⟨k, hk, rfl, hb, hbw⟩ := hrel
  by_cases hlt : k < n
  ·have hkl : k < l.length := by rw [HN.out]; exact hlt
   rcases hb with ⟨hk0, rfl⟩ | ⟨p, hp, rfl⟩
   ·have hk0' : k ≤ 0 := by omega
    clear hk0
    go_wp2
    go_roundw
    case rel => exact ⟨k + 1, by omega, by go_num, .inr ⟨0, by rw [show k = 0 by omega]; exact Top.one (by omega), by congr 1; omega⟩, hbw⟩
    case measure => simp [intOf]; omega
   ·have hp' := hp
    obtain ⟨hpk, _, _, _⟩ := hp'
    have hpl : p < l.length := by omega
    have hp0 : ¬ ((p : Int) < 0) := by omega
    have hc := Yj l A c k p wr hkl hpl ((hl.below hbw).more hbw.size)
    rw [HN.out] at hc
    have HC := Lib.hid hc
    clear hc
    have HS : Hid (Dl l[p] l[k] = false → Top l (k + 1) p) := Lib.hid (hp.stay hkl)
    have HT : Hid (Dl l[p] l[k] = true → Top l (k + 1) k) := Lib.hid (hp.turn hkl)
    clear hp
    generalize Dl l[p] l[k] = bb at HC HS HT
    cases bb
    ·go_wp2_with (go_at_call 139; refine HC.out.mono ?_; rintro e w3 ⟨rfl, hb3⟩)
     go_roundw
     case rel => exact ⟨k + 1, by omega, by go_num, .inr ⟨p, HS.out (by trivial), rfl⟩, hbw.trans (hb3.mono hbw.size)⟩
     case measure => simp [intOf]; omega
    ·go_wp2_with (go_at_call 139; refine HC.out.mono ?_; rintro e w3 ⟨rfl, hb3⟩)
     go_roundw
     case rel => exact ⟨k + 1, by omega, by go_num, .inr ⟨k, HT.out (by trivial), rfl⟩, hbw.trans (hb3.mono hbw.size)⟩
     case measure => simp [intOf]; omega
  ·obtain rfl : k = n := by omega
   go_wp2
   go_ret
   refine ⟨?_, hbw⟩
   rcases hb with ⟨rfl, rfl⟩ | ⟨p, hp, rfl⟩
   ·have := List.eq_nil_of_length_eq_zero HN.out
    subst this
    rfl
   ·exact Dc (by have := HN.out; subst this; exact hp.best.symm)
end Go.Proofs.YtihfaocdpmmooaaGreat
namespace Go.Proofs.YtihfaocdpmmooaaGreat
open Go.RowKit
structure REnt where
 v : Int
 n : Int
 b : ByteArray
def Zbu (e : REnt) : List Value := [.int .i64 e.v, .int .i64 e.n, .string e.b]
def okB (view : Int) (i : Nat) (e : REnt) : Bool := decide (e.n = (i : Int) + 1 ∧ view ≤ e.v ∧ e.v ≤ 4611686018427387904 ∧ e.b.size ≤ 200)
def Af : Int → Nat → List REnt → Bool
 | _, _, [] => true
 | view, i, e :: r => okB view i e && Af e.v (i + 1) r
def B2 (l : List REnt) : Bool := Af 1 0 l && decide (l.length ≤ 150)
theorem Lr {l : List REnt} {view : Int} {k : Nat} {d r : Bool} (hk : k < l.length) (h : (Af view k (l.drop k) && d) = r) :
  (okB view k l[k] && (Af l[k].v (k + 1) (l.drop (k + 1)) && d)) = r := by
 rw [List.drop_eq_getElem_cons hk, Af] at h
 rw [← h, Bool.and_assoc]
set_option maxHeartbeats 400000 in
theorem Xc (l : List REnt) (A : Option Addr) (c : Nat) (w : World) (hm : l.length ≤ maxLen) (hl : Rd w w.heap.size 3 Zbu A l) :
  Calls Tryz.prog 59 #[.slice A l.length c] w
   fun e w' => e = .returned (.bool (B2 l)) ∧ Below w.heap.size w w' := by
 unfold maxLen at hm
 generalize hn : l.length = n at *
 have HN := Lib.hid hn
 clear hn
 go_enter Tryz.func59, Tryz.ntmps59
 go_wp2
 go_loopw [3, 8] (fun vw i wr => ∃ (k : Nat) (view : Int), k ≤ n ∧ i = .int .i64 k ∧ vw = .int .i64 view ∧ (Af view k (l.drop k) && decide (l.length ≤ 150)) = B2 l ∧ Below w.heap.size w wr) (fun _ i _ => n - (intOf i).toNat)
 case atStart => exact ⟨0, 1, Nat.zero_le _, rfl, rfl, by simp [B2], Below.refl _ _⟩
 case round =>
  obtain ⟨k, view, hk, rfl, rfl, hr, hb⟩ := hrel
  have HR := Lib.hid hr
  clear hr
  by_cases hlt : k < n
  ·have hl' := hl.below hb
   have hkl : k < l.length := by rw [HN.out]; exact hlt
   obtain ⟨a, hA, hab⟩ := hl'.addr hkl
   subst hA
   have c0 : wr.cell? (a.add (k * 3)) = _ := hl'.cell hkl (j := 0) rfl
   have c1 : wr.cell? ⟨(a.add (k * 3)).block, (a.add (k * 3)).off + 1, none⟩ = _ := hl'.cell hkl (j := 1) rfl
   have c2 : wr.cell? ⟨(a.add (k * 3)).block, (a.add (k * 3)).off + 2, none⟩ = _ := hl'.cell hkl (j := 2) rfl
   generalize he : l[k] = e at c0 c1 c2
   have HS := Lib.hid (Lr hkl HR.out)
   rw [he] at HS
   clear HR
   go_wp2
   all_goals
    first
     | (go_ret
        refine ⟨C3 ?_, (hb.alloc hb.size _)⟩
        rw [← HS.out, show okB view k e = false by unfold okB; rw [decide_eq_false_iff_not]; omega]; rfl)
     | (go_roundw
        case rel => exact ⟨k + 1, e.v, by omega, by go_num, rfl, by rw [← HS.out, show okB view k e = true by unfold okB; rw [decide_eq_true_eq]; omega]; rfl, (hb.alloc hb.size _)⟩
        case measure => simp [intOf]; omega)
  ·have hke : k = n := by omega
   subst hke
   go_wp2
   go_ret
   refine ⟨C3 ?_, hb⟩
   have hn := HN.out
   rw [← HR.out, List.drop_of_length_le (by omega)]
   simp [Af, hn]; omega
end Go.Proofs.YtihfaocdpmmooaaGreat
namespace Go.Proofs.YtihfaocdpmmooaaGreat
open Go.RowKit
def Cp (m : Int) : Bool := decide (1 ≤ m ∧ m ≤ 7)
def Ad (m : Int) : Int := if Cp m = true then m / 2 + 1 else 0
def Am (v m : Int) : Int := if Cp m = true ∧ 0 ≤ v ∧ v ≤ 4611686018427387904 then v % m else -1
set_option maxHeartbeats 400000 in
theorem Dq (m : Int) (w : World) :
  Calls Tryz.prog 90 #[.int .i64 m] w fun e w' => e = .returned (.bool (Cp m)) ∧ w = w' := by
 by_cases h1 : 1 ≤ m
 ·go_enter Tryz.func90, Tryz.ntmps90
  go_wp2
  go_ret
  exact ⟨by simp [Cp, h1], rfl⟩
 ·go_enter Tryz.func90, Tryz.ntmps90
  go_wp2
  go_ret
  exact ⟨by simp [Cp]; omega, rfl⟩
theorem Fw {m : Int} (h : Cp m = true) : 1 ≤ m ∧ m ≤ 7 := by simpa [Cp] using h
set_option maxHeartbeats 400000 in
theorem Lz (m : Int) (w : World) :
  Calls Tryz.prog 54 #[.int .i64 m] w fun e w' => e = .returned (.int .i64 (Ad m)) ∧ w = w' := by
 by_cases hg : Cp m = true
 ·obtain ⟨h1, h2⟩ := Fw hg
  go_enter Tryz.func54, Tryz.ntmps54
  go_wp2_with (go_at_call 90; refine (Dq _ _).mono ?_; rintro e w' ⟨rfl, rfl⟩)
  go_ret
  exact ⟨Dc (by simp [Ad, hg]), rfl⟩
 ·go_enter Tryz.func54, Tryz.ntmps54
  go_wp2_with (go_at_call 90; refine (Dq _ _).mono ?_; rintro e w' ⟨rfl, rfl⟩)
  go_ret
  exact ⟨Dc (by simp [Ad, hg]), rfl⟩
set_option maxHeartbeats 400000 in
theorem N0 (m : Int) (w : World) :
  Calls Tryz.prog 18 #[.int .i64 m] w fun e w' => e = .returned (.int .i64 (Ad m)) ∧ w = w' := by
 by_cases hg : Cp m = true
 ·obtain ⟨h1, h2⟩ := Fw hg
  go_enter Tryz.func18, Tryz.ntmps18
  go_wp2
  go_loop [3] (fun n => ∃ k : Int, 1 ≤ k ∧ k ≤ m / 2 + 1 ∧ n = .int .i64 k) (fun n => (m - intOf n).toNat)
  case atStart => exact ⟨1, by omega, by omega, rfl⟩
  case round =>
   obtain ⟨k, hk1, hk2, rfl⟩ := hrel
   by_cases hlt : 2 * k ≤ m
   ·go_wp2
    go_round
    case rel => exact ⟨k + 1, by omega, by omega, by go_num⟩
    case measure => simp [intOf]; omega
   ·go_wp2
    go_ret
    exact ⟨Dc (by simp [Ad, hg]; omega), rfl⟩
 ·have hg' : m < 1 ∨ 7 < m := by simp [Cp] at hg; omega
  by_cases h1 : m < 1
  ·go_enter Tryz.func18, Tryz.ntmps18
   go_wp2
   go_ret
   exact ⟨Dc (by simp [Ad, hg]), rfl⟩
  ·have h2 : 7 < m := by omega
   go_enter Tryz.func18, Tryz.ntmps18
   go_wp2
   go_ret
   exact ⟨Dc (by simp [Ad, hg]), rfl⟩
theorem Hw {v m : Int} (h : Cp m = false ∨ v < 0 ∨ 4611686018427387904 < v) : (-1 : Int) = Am v m := by
 unfold Am
 rw [if_neg]
 rintro ⟨h1, h2, h3⟩
 rcases h with h | h | h
 ·rw [h] at h1; cases h1
 ·omega
 ·omega
set_option maxHeartbeats 400000 in
theorem Ry (v m : Int) (w : World) :
  Calls Tryz.prog 72 #[.int .i64 v, .int .i64 m] w fun e w' => e = .returned (.int .i64 (Am v m)) ∧ w = w' := by
 by_cases hg : Cp m = true
 ·have hm := Fw hg
  obtain ⟨hm1, hm2⟩ := hm
  by_cases h1 : v < 0
  ·go_enter Tryz.func72, Tryz.ntmps72
   go_wp2_with (go_at_call 90; refine (Dq _ _).mono ?_; rintro e w' ⟨rfl, rfl⟩)
   go_ret
   exact ⟨Dc (Hw (by omega)), rfl⟩
  ·by_cases h2 : 4611686018427387904 < v
   ·go_enter Tryz.func72, Tryz.ntmps72
    go_wp2_with (go_at_call 90; refine (Dq _ _).mono ?_; rintro e w' ⟨rfl, rfl⟩)
    go_ret
    exact ⟨Dc (Hw (by omega)), rfl⟩
   ·go_enter Tryz.func72, Tryz.ntmps72
    go_wp2_with (go_at_call 90; refine (Dq _ _).mono ?_; rintro e w' ⟨rfl, rfl⟩)
    go_ret
    exact ⟨Dc (by unfold Am; rw [if_pos ⟨hg, by omega, by omega⟩]), rfl⟩
 ·have hg0 : Cp m = false := by simpa using hg
  go_enter Tryz.func72, Tryz.ntmps72
  go_wp2_with (go_at_call 90; refine (Dq _ _).mono ?_; rintro e w' ⟨rfl, rfl⟩)
  go_ret
  exact ⟨Dc (Hw (.inl hg0)), rfl⟩
end Go.Proofs.YtihfaocdpmmooaaGreat
namespace Go.Proofs.YtihfaocdpmmooaaGreat
open Go.RowKit Go.Sort
set_option maxRecDepth 100000
def Zdq (x : Int) : List Value := [.int .i64 x]
def P2 (l : List Int) (v : Int) : Nat := l.countP fun x => decide (v ≤ x)
def Cl (l : List Int) (k : Nat) : Int := (l.take k).foldl (fun out x => if out < x ∧ Ad l.length ≤ P2 l x then x else out) 0
def Br (l : List Int) : Int := if l.length ≤ 7 then Cl l l.length else 0
theorem K6 {l : List Int} {k : Nat} (hk : k < l.length) : Cl l (k + 1) = if Cl l k < l[k] ∧ Ad l.length ≤ P2 l l[k] then l[k] else Cl l k := by
 unfold Cl
 rw [List.take_succ_eq_append_getElem hk, List.foldl_append]
 rfl
theorem Pd (m : Int) : 0 ≤ Ad m ∧ Ad m ≤ 4 := by
 unfold Ad
 split
 ·rename_i h; have := Fw h; omega
 ·omega
end Go.Proofs.YtihfaocdpmmooaaGreat
namespace Go.Proofs.YtihfaocdpmmooaaGreat
open Go.RowKit Go.Sort
set_option maxRecDepth 100000
def Cy (l : List Int) : List Int := l.mergeSort fun x y => decide (x ≤ y)
theorem Fs (l : List Int) : (Cy l).Perm l := List.mergeSort_perm _ _
theorem Ct (l : List Int) : (Cy l).length = l.length := (Fs l).length_eq
theorem Tp (l : List Int) {i j : Nat} (hij : i < j) (hj : j < (Cy l).length) : (Cy l)[i]'(by omega) ≤ (Cy l)[j] := by
 have h := List.pairwise_mergeSort (le := fun x y : Int => decide (x ≤ y)) (by intro a b c h1 h2; simp at *; omega) (by intro a b; simp; omega) l
 have h2 := (List.pairwise_iff_getElem.1 h) i j (by have := hj; unfold Cy at this; omega) (by have := hj; unfold Cy at this; omega) hij
 exact of_decide_eq_true h2
theorem T3 {l m : List Int} (h : l.Perm m) (v : Int) : P2 l v = P2 m v := h.countP_eq _
theorem Pp (s : List Int) (v : Int) (k : Nat) : P2 s v = P2 (s.take k) v + P2 (s.drop k) v := by
 unfold P2
 rw [← List.countP_append, List.take_append_drop]
theorem Z2n (l : List Int) {k : Nat} (hk : k < (Cy l).length) : l.length - k ≤ P2 l (Cy l)[k] := by
 rw [← T3 (Fs l), Pp _ _ k]
 have h : P2 ((Cy l).drop k) (Cy l)[k] = ((Cy l).drop k).length := by
  unfold P2
  rw [List.countP_eq_length]
  intro x hx
  obtain ⟨j, hj, rfl⟩ := List.getElem_of_mem hx
  rw [List.getElem_drop, decide_eq_true_eq]
  rcases Nat.eq_zero_or_pos j with h0 | h0
  ·subst h0; exact Int.le_refl _
  ·exact Tp l (by omega) (by rw [List.length_drop] at hj; omega)
 rw [h, List.length_drop, Ct]
 omega
theorem Xp (l : List Int) {k : Nat} (hk : k < (Cy l).length) {v : Int} (hv : (Cy l)[k] < v) : P2 l v ≤ l.length - k - 1 := by
 rw [← T3 (Fs l), Pp _ _ (k + 1)]
 have h : P2 ((Cy l).take (k + 1)) v = 0 := by
  unfold P2
  rw [List.countP_eq_zero]
  intro x hx
  obtain ⟨j, hj, rfl⟩ := List.getElem_of_mem hx
  rw [List.getElem_take, decide_eq_true_eq]
  rw [List.length_take] at hj
  rcases Nat.lt_or_ge j k with h0 | h0
  ·have := Tp l h0 hk; omega
  ·have e : j = k := by omega
   subst e; omega
 have h2 : P2 ((Cy l).drop (k + 1)) v ≤ ((Cy l).drop (k + 1)).length := List.countP_le_length
 rw [h, List.length_drop, Ct] at *
 omega
theorem Lv (l : List Int) : ∀ k, k ≤ l.length → 0 ≤ Cl l k ∧ (∀ j (hj : j < l.length), j < k → Ad l.length ≤ P2 l l[j] → l[j] ≤ Cl l k) ∧
  (Cl l k = 0 ∨ ∃ j, ∃ hj : j < l.length, Cl l k = l[j] ∧ Ad l.length ≤ P2 l l[j])
 | 0, _ => ⟨by simp [Cl], fun j _ h => by omega, .inl (by simp [Cl])⟩
 | k + 1, hk => by
  obtain ⟨h0, h1, h2⟩ := Lv l k (by omega)
  rw [K6 (show k < l.length by omega)]
  split
  ·rename_i h
   refine ⟨by omega, fun j hj hjk hq => ?_, .inr ⟨k, by omega, rfl, h.2⟩⟩
   rcases Nat.lt_or_ge j k with hlt | hge
   ·have := h1 j hj hlt hq; omega
   ·have e : j = k := by omega
    subst e; exact Int.le_refl _
  ·rename_i h
   refine ⟨h0, fun j hj hjk hq => ?_, h2⟩
   rcases Nat.lt_or_ge j k with hlt | hge
   ·exact h1 j hj hlt hq
   ·have e : j = k := by omega
    subst e; omega
theorem R7 (l : List Int) (h7 : l.length ≤ 7) {k : Nat} (hk : k < (Cy l).length) (hq : (k : Int) = l.length - Ad l.length) :
  (if (Cy l)[k] < 0 then 0 else (Cy l)[k]) = Br l := by
 unfold Br
 rw [if_pos h7]
 obtain ⟨h0, ha, hb⟩ := Lv l l.length (Nat.le_refl _)
 have hf := Z2n l hk
 rw [Ct] at hk
 have hx : (Cy l)[k]'(by rw [Ct]; exact hk) ≤ Cl l l.length := by
  have hm : (Cy l)[k]'(by rw [Ct]; exact hk) ∈ l := (Fs l).mem_iff.1 (List.getElem_mem _)
  obtain ⟨j, hj, e⟩ := List.getElem_of_mem hm
  have := ha j hj hj (by rw [e]; omega)
  rw [e] at this
  exact this
 have hy : Cl l l.length ≤ 0 ∨ Cl l l.length ≤ (Cy l)[k]'(by rw [Ct]; exact hk) := by
  rcases hb with hb | ⟨j, hj, e, hqj⟩
  ·left; omega
  ·right
   rw [e]
   apply Int.not_lt.1
   intro hlt
   have := Xp l (k := k) (by rw [Ct]; exact hk) hlt
   omega
 split <;> omega
theorem Yg {l : List Int} (h : Cp l.length = false) : Br l = 0 := by
 unfold Br
 split
 ·rename_i h7
  have : l.length = 0 := by unfold Cp at h; rw [decide_eq_false_iff_not] at h; omega
  rw [List.eq_nil_of_length_eq_zero this]
  rfl
 ·rfl
theorem Z1e (g cap : Nat) (zs : List Int) (w : World) (hH : Holds (Value.int .i64) w g 0 zs.toArray) (hg : g < w.heap.size) (hsz : zs.length < 4611686018427387904) :
  Calls Tryz.prog 135 #[.slice (some ⟨g, 0, none⟩) zs.length cap] w fun e w' =>
   e = .returned (.tuple #[]) ∧ (∀ j v, (Cy zs)[j]? = some v → w'.cell? ⟨g, j, none⟩ = some (.int .i64 v)) ∧ w.grownBy w' (some g) := by
 refine (Tryz.slices_Sort_int g 0 cap zs w hH hg hsz).mono ?_
 rintro e w' ⟨rfl, n, os, rfl⟩
 refine ⟨rfl, fun j v hv => ?_, grownBy_sortedI _⟩
 have h0 : Holds (Value.int .i64) (Sort.ahead w n) g 0 zs.toArray := hH
 have hj : j < (Cy zs).length := (List.getElem?_eq_some_iff.1 hv).1
 have h := cell?_putRow (Value.int .i64) (Sort.ahead w n) g 0 zs.toArray (Cy zs).toArray h0 (by simp [Ct]) j (by simpa using hj)
 rw [cell?_grow _ _ _ (by rw [size_putRow]; exact hg)]
 rw [Nat.zero_add] at h
 refine h.trans ?_
 rw [← (List.getElem?_eq_some_iff.1 hv).2]
 simp [hj]
def Wb (l : List Int) : List Value := l.map (.int .i64)
def k0 (n : Nat) : Nat := n - (n / 2 + 1)
set_option maxHeartbeats 1000000 in
theorem Z2e (l : List Int) (A : Option Addr) (c : Nat) (w : World) (hm : l.length ≤ maxLen) (hl : Rd w w.heap.size 1 Zdq A l) :
  Calls Tryz.prog 100 #[.slice A l.length c] w
   fun e w' => e = .returned (.int .i64 (Br l)) ∧ Below w.heap.size w w' := by
 have hg := Dq l.length (w.alloc (Obj.cells #[.int .i64 0, .int .i64 0, .int .i64 0, .int .i64 0, .int .i64 0, .int .i64 0, .int .i64 0] 115))
 unfold maxLen at hm
 generalize hn : l.length = n at *
 have HN := Lib.hid hn
 clear hn
 cases hb : Cp n
 ·rw [hb] at hg
  have HG := Lib.hid hg
  clear hg
  go_enter Tryz.func100, Tryz.ntmps100
  go_wp2_with (go_at_call 90; refine HG.out.mono ?_; rintro e w' ⟨rfl, rfl⟩)
  go_ret
  exact ⟨Dc (by rw [Yg (by rw [HN.out]; exact hb)]), (Below.refl _ _).alloc (Nat.le_refl _) _⟩
 ·rw [hb] at hg
  have HG := Lib.hid hg
  clear hg
  have hgb := Fw hb
  obtain ⟨hg1, hg2⟩ := hgb
  go_enter Tryz.func100, Tryz.ntmps100
  have hn2 : n ≤ 7 := by omega
  have hsrc : 0 < n → ∃ ad, A = some ad ∧ ∀ j v, (Wb l)[j]? = some v → (w.alloc (Obj.cells #[.int .i64 0, .int .i64 0, .int .i64 0, .int .i64 0, .int .i64 0, .int .i64 0, .int .i64 0] 115)).cell? (ad.add j) = some v := fun h0 => by
   obtain ⟨a, hA, hab⟩ := hl.addr (i := 0) (by rw [HN.out]; exact h0)
   subst hA
   refine ⟨a, rfl, fun j v hv => ?_⟩
   unfold Wb at hv
   rw [List.getElem?_map] at hv
   cases hx : l[j]? with
   | none => rw [hx] at hv; cases hv
   | some x =>
    rw [hx] at hv
    simp only [Option.map_some, Option.some.injEq] at hv
    subst hv
    have hj : j < l.length := (List.getElem?_eq_some_iff.1 hx).1
    have h := hl.cell hj (j := 0) (v := .int .i64 x) (by rw [(List.getElem?_eq_some_iff.1 hx).2]; rfl)
    rw [Nat.mul_one, Us, Nat.add_zero] at h
    rw [World.cell?_alloc_lt w _ _ (by rw [K3]; exact hab)]
    exact h
  have HS := Lib.hid hsrc
  clear hsrc
  have hlen : (Wb l).length = n := by unfold Wb; rw [List.length_map]; exact HN.out
  have HL := Lib.hid hlen
  clear hlen
  have H2 := Lib.hid (show (Wb l).length = Nat.min n 7 by rw [HL.out]; show n = min n 7; omega)
  have H4 := Lib.hid (show 0 + (Wb l).length ≤ (List.replicate 7 (Value.int .i64 0)).length by rw [HL.out]; simp; omega)
  have H5 := Lib.hid (show ∀ v ∈ Wb l, v.oneCell' = true by unfold Wb; intro v hv; obtain ⟨x, _, rfl⟩ := List.mem_map.1 hv; rfl)
  have H6 := Lib.hid (show Below w.heap.size w (w.alloc _) from (Below.refl _ _).alloc (Nat.le_refl _) (Obj.cells #[.int .i64 0, .int .i64 0, .int .i64 0, .int .i64 0, .int .i64 0, .int .i64 0, .int .i64 0] 115))
  go_wp2_with (first | (go_at_call 90; refine HG.out.mono ?_; rintro e w' ⟨rfl, rfl⟩) | (refine wpList_copy_splice rfl (.tmp 10) (.tmp 11) 75 75 rfl 3 Tryz.underlying75 (by kernel_rfl) (some ⟨w.heap.size, 0, none⟩) A 7 7 n c rfl rfl w.heap.size 0 (List.replicate 7 (.int .i64 0)) 115 (heap_alloc_new w _) (Wb l) H2.out (fun h => ⟨rfl, HS.out (by rw [HL.out] at h; exact h)⟩) H4.out H5.out w.heap.size w H6.out (Nat.le_refl _) ?_))
  intro w1 hc1 hb1
  have hkq : (k0 n : Int) = n - Ad n := by have := Pd n; unfold k0; unfold Ad; rw [if_pos hb]; omega
  have hkn : k0 n < n := by unfold k0; omega
  have hq0 := Pd n
  obtain ⟨hq1, hq2⟩ := hq0
  have hgl : w.heap.size < w1.heap.size := by
   have h := hc1.out
   rcases Nat.lt_or_ge w.heap.size w1.heap.size with hlt | hge
   ·exact hlt
   ·rw [Array.getElem?_eq_none hge] at h; cases h
  have hH : Holds (Value.int .i64) w1 w.heap.size 0 l.toArray := fun j hj => by
   have hj' : j < l.length := by simpa using hj
   have h := hc1.out
   refine ⟨?_, by simp [World.frozen?, h]⟩
   have hj2 : j < (Wb l).length := by unfold Wb; simpa using hj'
   have hgj : (l.toArray)[j]! = l[j] := by simp [hj']
   rw [hgj]
   simp only [World.cell?, h, splice, List.take_zero, List.nil_append, Nat.zero_add, Option.isSome_none, Bool.false_eq_true, if_false, List.getElem?_toArray]
   rw [List.getElem?_append_left hj2, List.getElem?_eq_getElem hj2]
   simp [Wb]
  have hsort := Z1e w.heap.size 7 l w1 hH hgl (by rw [HN.out]; omega)
  rw [HN.out] at hsort
  have HO := Lib.hid hsort
  clear hsort hH hc1 hl
  go_wp2_with (first | (go_at_call 135; refine HO.out.mono ?_; rintro e w2 ⟨rfl, hcell, hgr⟩))
  have hbw := hb1.grown hgr hb1.size (by simp)
  have hk1 : k0 n < (Cy l).length := by rw [Ct, HN.out]; exact hkn
  have hck := hcell (k0 n) _ (List.getElem?_eq_getElem hk1)
  have HF := Lib.hid (R7 l (by rw [HN.out]; exact hn2) hk1 (by rw [HN.out]; exact hkq))
  have HQ := Lib.hid (Lz n w2)
  generalize (Cy l)[k0 n] = x at hck HF
  rw [show k0 n = ((n : Int) - Ad n).toNat by rw [← hkq]; simp] at hck
  have hq3 : Ad n ≤ n := by omega
  have hq4 : (n : Int) - Ad n < 7 := by omega
  clear hkq hcell hgr hb1 HO HS HL H2 H4 H5 H6
  generalize Ad n = q at hck hq1 hq2 hq3 hq4 HQ
  go_wp2_with (first | (go_at_call 54; refine HQ.out.mono ?_; rintro e w3 ⟨rfl, rfl⟩))
  go_ret
  exact ⟨Dc (by rw [← HF.out]; show max x 0 = _; split <;> omega), hbw⟩
end Go.Proofs.YtihfaocdpmmooaaGreat
namespace Go.Proofs.YtihfaocdpmmooaaGreat
open Go.RowKit
set_option maxHeartbeats 1000000 in
theorem P5 (l : List REnt) (A : Option Addr) (c : Nat) (w : World) (hm : l.length ≤ maxLen) (hl : Rd w w.heap.size 3 Zbu A l) :
  Calls Tryz.prog 21 #[.slice A l.length c] w
   fun e w' => e = .returned (.bool (B2 l)) ∧ ∃ n, w' = w.drewN n := by
 unfold maxLen at hm
 generalize hn : l.length = n at *
 have HN := Lib.hid hn
 clear hn
 go_enter Tryz.func21, Tryz.ntmps21
 go_wp2
 go_loopw [3] (fun i wr => ∃ (k q : Nat) (view : Int), k ≤ n ∧ i = .int .i64 k ∧ (k = 0 ∧ view = 1 ∨ 0 < k ∧ 1 ≤ view ∧ (l[k - 1]?).map REnt.v = some view) ∧ (Af view k (l.drop k) && decide (l.length ≤ 150)) = B2 l ∧ wr = w.drewN q) (fun i _ => n - (intOf i).toNat)
 case atStart => exact ⟨0, 0, 1, Nat.zero_le _, rfl, .inl ⟨rfl, rfl⟩, by simp [B2], rfl⟩
 case round =>
  obtain ⟨k, q, view, hk, rfl, hv, hr, rfl⟩ := hrel
  have HR := Lib.hid hr
  clear hr
  by_cases hlt : k < n
  ·have hkl : k < l.length := by rw [HN.out]; exact hlt
   obtain ⟨a, hA, hab⟩ := hl.addr hkl
   subst hA
   have c0 : w.cell? (a.add (k * 3)) = _ := hl.cell hkl (j := 0) rfl
   have c1 : w.cell? ⟨(a.add (k * 3)).block, (a.add (k * 3)).off + 1, none⟩ = _ := hl.cell hkl (j := 1) rfl
   have c2 : w.cell? ⟨(a.add (k * 3)).block, (a.add (k * 3)).off + 2, none⟩ = _ := hl.cell hkl (j := 2) rfl
   have HS := Lib.hid (Lr hkl HR.out)
   have hget : l[k]? = some l[k] := List.getElem?_eq_getElem hkl
   have HG := Lib.hid hget
   clear hget HR
   generalize l[k] = e at c0 c1 c2 HS HG
   have t2 : (k : Int) < n := by omega
   rcases hv with ⟨hk0, hv1⟩ | ⟨h0, hv1, hvv⟩
   ·have hk0' : k ≤ 0 := by omega
    have hv1' : view ≤ 1 := by omega
    have hv2' : 1 ≤ view := by omega
    clear hk0 hv1
    have g0 : decide (0 < k) = false := by rw [decide_eq_false_iff_not]; omega
    go_wp2
    all_goals
     first
      | (go_ret
         refine ⟨C3 ?_, _, rfl⟩
         rw [← HS.out, show okB view k e = false by unfold okB; rw [decide_eq_false_iff_not]; omega]; rfl)
      | (go_quiet (fail)
         go_wp2
         go_roundw
         case rel => exact ⟨k + 1, q + nq, e.v, by omega, by go_num, .inr ⟨by omega, by omega, by rw [Nat.add_sub_cancel, HG.out]; rfl⟩, by rw [← HS.out, show okB view k e = true by unfold okB; rw [decide_eq_true_eq]; omega]; rfl, by simp⟩
         case measure => simp [intOf]; omega)
      | (go_quiet (fail)
         go_wp2
         go_ret
         refine ⟨C3 ?_, q + nq, by simp⟩
         rw [← HS.out, show okB view k e = false by unfold okB; rw [decide_eq_false_iff_not]; omega]; rfl)
   ·have d0 : w.cell? (a.add ((k - 1) * 3)) = some (.int .i64 view) := by
     have hk1 : k - 1 < l.length := by omega
     have h := hl.cell hk1 (j := 0) rfl
     rw [List.getElem?_eq_getElem hk1] at hvv
     simp only [Option.map_some, Option.some.injEq] at hvv
     rw [← hvv]
     exact h
    clear hvv
    have g0 : decide (0 < k) = true := by rw [decide_eq_true_eq]; omega
    have g3 : 1 ≤ k := h0
    have g1 : (0 : Int) ≤ (k : Int) - 1 := by omega
    have g2 : (k : Int) - 1 < n := by omega
    by_cases hve : e.v < view
    ·go_wp2
     all_goals
      first
       | (go_ret
          refine ⟨C3 ?_, _, rfl⟩
          rw [← HS.out, show okB view k e = false by unfold okB; rw [decide_eq_false_iff_not]; omega]; rfl)
       | (go_quiet (fail)
          go_wp2
          go_roundw
          case rel => exact ⟨k + 1, q + nq, e.v, by omega, by go_num, .inr ⟨by omega, by omega, by rw [Nat.add_sub_cancel, HG.out]; rfl⟩, by rw [← HS.out, show okB view k e = true by unfold okB; rw [decide_eq_true_eq]; omega]; rfl, by simp⟩
          case measure => simp [intOf]; omega)
       | (go_quiet (fail)
          go_wp2
          go_ret
          refine ⟨C3 ?_, q + nq, by simp⟩
          rw [← HS.out, show okB view k e = false by unfold okB; rw [decide_eq_false_iff_not]; omega]; rfl)
    ·go_wp2
     all_goals
      first
       | (go_ret
          refine ⟨C3 ?_, _, rfl⟩
          rw [← HS.out, show okB view k e = false by unfold okB; rw [decide_eq_false_iff_not]; omega]; rfl)
       | (go_quiet (fail)
          go_wp2
          go_roundw
          case rel => exact ⟨k + 1, q + nq, e.v, by omega, by go_num, .inr ⟨by omega, by omega, by rw [Nat.add_sub_cancel, HG.out]; rfl⟩, by rw [← HS.out, show okB view k e = true by unfold okB; rw [decide_eq_true_eq]; omega]; rfl, by simp⟩
          case measure => simp [intOf]; omega)
       | (go_quiet (fail)
          go_wp2
          go_ret
          refine ⟨C3 ?_, q + nq, by simp⟩
          rw [← HS.out, show okB view k e = false by unfold okB; rw [decide_eq_false_iff_not]; omega]; rfl)
  ·have hke : k = n := by omega
   subst hke
   go_wp2
   go_ret
   refine ⟨C3 ?_, q, rfl⟩
   have hn := HN.out
   rw [← HR.out, List.drop_of_length_le (by omega)]
   simp [Af, hn]; omega
end Go.Proofs.YtihfaocdpmmooaaGreat
namespace Go.Proofs.YtihfaocdpmmooaaGreat
open Go.RowKit
set_option maxRecDepth 100000
theorem Z3y (l : List Mk) : ∀ n, 0 < n → n ≤ l.length → ∃ p, Top l n p
 | 0, h, _ => absurd h (by omega)
 | 1, _, h => ⟨0, Top.one (by omega)⟩
 | n + 2, _, h => by
  obtain ⟨p, hp⟩ := Z3y l (n + 1) (by omega) (by omega)
  cases hb : Dl (l[p]'(by obtain ⟨a, _, _⟩ := hp; omega)) (l[n + 1]'(by omega))
  ·exact ⟨p, hp.stay (by omega) hb⟩
  ·exact ⟨n + 1, hp.turn (by omega) hb⟩
end Go.Proofs.YtihfaocdpmmooaaGreat

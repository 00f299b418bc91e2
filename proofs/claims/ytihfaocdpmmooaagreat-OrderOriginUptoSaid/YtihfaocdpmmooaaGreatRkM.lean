
import Derived.Test.YtihfaocdpmmooaaGreatZBase
import Derived.StillTailTactics
import Derived.Lib.Hide
import Derived.Test.YtihfaocdpmmooaaGreatZShelf
import Derived.Laws.CopyOwn
import Derived.Sort.OwnSortedInts
namespace Go.Proofs.YtihfaocdpmmooaaGreat
open Go.RowKit
set_option maxRecDepth 100000
structure Mk where
 v : Int
 n : Int
def mkC (e : Mk) : List Value := [.int .i64 e.v, .int .i64 e.n]
def Dx (a b : Mk) : Bool := decide (a.v < b.v ∨ a.v = b.v ∧ a.n < b.n)
theorem Zcx {a b : Mk} (h2 : a.v = b.v) : decide (a.n < b.n) = Dx a b := by unfold Dx; rw [decide_eq_decide]; omega
theorem Zcy {a b : Mk} (h1 : b.v ≤ a.v) (h2 : ¬ a.v = b.v) : false = Dx a b := by unfold Dx; rw [eq_comm, decide_eq_false_iff_not]; omega
theorem Zav {a b : Mk} (h1 : a.v < b.v) : true = Dx a b := by unfold Dx; rw [eq_comm, decide_eq_true_eq]; omega
set_option maxHeartbeats 400000 in
theorem Z45 (a b : Mk) (w : World) :
  Calls Tryz.prog 149 #[.agg #[.int .i64 a.v, .int .i64 a.n], .agg #[.int .i64 b.v, .int .i64 b.n]] w
   fun e w' => e = .returned (.bool (Dx a b)) ∧ Below w.heap.size w w' := by
 obtain ⟨av, an⟩ := a
 obtain ⟨bv, bn⟩ := b
 dsimp only
 by_cases h1 : av < bv
 ·go_enter Tryz.func149, Tryz.ntmps149
  go_wp2
  go_ret
  exact ⟨Gu (Zav (a := ⟨av, an⟩) (b := ⟨bv, bn⟩) h1), ((Below.refl _ _).alloc (Nat.le_refl _) _).alloc (by simp) _⟩
 ·by_cases h2 : (av == bv) = true
  ·go_enter Tryz.func149, Tryz.ntmps149
   go_wp2
   go_ret
   exact ⟨Gu (Zcx (a := ⟨av, an⟩) (b := ⟨bv, bn⟩) (by simpa using h2)), ((Below.refl _ _).alloc (Nat.le_refl _) _).alloc (by simp) _⟩
  ·have h2' : (av == bv) = false := by simpa using h2
   go_enter Tryz.func149, Tryz.ntmps149
   go_wp2
   go_ret
   exact ⟨Gu (Zcy (a := ⟨av, an⟩) (b := ⟨bv, bn⟩) (by dsimp only; omega) (by simpa using h2')), ((Below.refl _ _).alloc (Nat.le_refl _) _).alloc (by simp) _⟩
set_option maxHeartbeats 400000 in
theorem Ys (l : List Mk) (A : Option Addr) (c : Nat) (i k : Nat) (w : World) (hi : i < l.length) (hk : k < l.length) (hl : Rd w w.heap.size 2 mkC A l) :
  Calls Tryz.prog 139 #[.agg #[.slice A l.length c], .int .i64 i, .int .i64 k] w
   fun e w' => e = .returned (.bool (Dx l[k] l[i])) ∧ Below w.heap.size w w' := by
 obtain ⟨a, hA, hab⟩ := hl.addr hi
 subst hA
 have hbw : Below w.heap.size w (w.alloc (Obj.cells #[Value.slice (some a) l.length c] 189)) := (Below.refl _ _).alloc (Nat.le_refl _) _
 have b0 : (w.alloc (Obj.cells #[Value.slice (some a) l.length c] 189)).cell? ⟨w.heap.size, 0, none⟩ = some (Value.slice (some a) l.length c) := cell_one_new w _ _ 0 _ rfl
 have hl' := hl.below hbw
 have hz := hbw.size
 go_enter Tryz.func139, Tryz.ntmps139
 go_wp2
 generalize w.alloc (Obj.cells #[Value.slice (some a) l.length c] 189) = w1 at *
 have c0 : w1.cell? (a.add (k * 2)) = _ := hl'.cell hk (j := 0) rfl
 have c1 : w1.cell? ⟨(a.add (k * 2)).block, (a.add (k * 2)).off + 1, none⟩ = _ := hl'.cell hk (j := 1) rfl
 have d0 : w1.cell? (a.add (i * 2)) = _ := hl'.cell hi (j := 0) rfl
 have d1 : w1.cell? ⟨(a.add (i * 2)).block, (a.add (i * 2)).off + 1, none⟩ = _ := hl'.cell hi (j := 1) rfl
 generalize he : l[k] = e at c0 c1
 generalize hi' : l[i] = e' at d0 d1
 have HE := Lib.hid he
 have HI := Lib.hid hi'
 clear he hi'
 have i1 : (i : Int) < l.length := by omega
 have i2 : (k : Int) < l.length := by omega
 clear hl hl'
 go_still_tail 10, (by kernel_rfl)
 change wpList _ _ _ _ _ w1.drew
 have hbd := hbw.drew
 have hzd : w.heap.size ≤ w1.drew.heap.size := hz
 generalize w1.drew = w2 at *
 clear b0 c0 c1 d0 d1 hbw hz
 go_wp2_with (go_at_call 149; refine (Z45 e e' w2).mono ?_; rintro e w3 ⟨rfl, hb3⟩)
 go_ret
 exact ⟨Gu (by rw [HE.out, HI.out]), hbd.trans (hb3.mono hzd)⟩
def M0 (l : List Mk) : Int := if l = [] then -1 else ((l.findIdx fun x => l.all fun y => !Dx x y : Nat) : Int)
def Top (l : List Mk) (n k : Nat) : Prop := ∃ (hk : k < n) (hn : n ≤ l.length), (∀ j (hj : j < n), Dx l[k] l[j] = false) ∧ ∀ j (hj : j < k), Dx l[j] l[k] = true
theorem Vo (a : Mk) : Dx a a = false := by unfold Dx; rw [decide_eq_false_iff_not]; omega
theorem Tc {a b c : Mk} (h1 : Dx a b = true) (h2 : Dx a c = false) : Dx c b = true := by
 unfold Dx at *; rw [decide_eq_true_eq] at *; rw [decide_eq_false_iff_not] at h2; omega
theorem Top.one {l : List Mk} (h : 0 < l.length) : Top l 1 0 :=
 ⟨by omega, h, fun j hj => by have e : j = 0 := by omega
                              subst e; exact Vo _, fun j hj => by omega⟩
theorem Top.stay {l : List Mk} {n k : Nat} (h : Top l n k) (hn : n < l.length) (hl : Dx (l[k]'(by obtain ⟨a, _, _⟩ := h; omega)) l[n] = false) : Top l (n + 1) k := by
 obtain ⟨hk, hn', h1, h2⟩ := h
 refine ⟨by omega, by omega, fun j hj => ?_, h2⟩
 by_cases hjn : j = n
 ·subst hjn; exact hl
 ·exact h1 j (by omega)
theorem Top.turn {l : List Mk} {n k : Nat} (h : Top l n k) (hn : n < l.length) (hl : Dx (l[k]'(by obtain ⟨a, _, _⟩ := h; omega)) l[n] = true) : Top l (n + 1) n := by
 obtain ⟨hk, hn', h1, h2⟩ := h
 refine ⟨by omega, by omega, fun j hj => ?_, fun j hj => Tc hl (h1 j hj)⟩
 by_cases hjn : j = n
 ·subst hjn; exact Vo _
 ·exact by
   have a := Tc hl (h1 j (by omega))
   unfold Dx at *; rw [decide_eq_true_eq] at a; rw [decide_eq_false_iff_not]; omega
theorem Top.best {l : List Mk} {k : Nat} (h : Top l l.length k) : M0 l = k := by
 obtain ⟨hk, _, h1, h2⟩ := h
 unfold M0
 rw [if_neg (by intro e; subst e; simp at hk)]
 congr 1
 rw [List.findIdx_eq hk]
 refine ⟨?_, fun j hj => ?_⟩
 ·rw [List.all_eq_true]
  intro y hy
  obtain ⟨j, hj, rfl⟩ := List.getElem_of_mem hy
  rw [h1 j hj]; rfl
 ·rw [List.all_eq_false]
  exact ⟨l[k], List.getElem_mem _, by rw [h2 j hj]; simp⟩
set_option maxHeartbeats 400000 in
theorem Z3d (l : List Mk) (A : Option Addr) (c : Nat) (w : World) (hm : l.length ≤ maxLen) (hl : Rd w w.heap.size 2 mkC A l) :
  Calls Tryz.prog 122 #[.slice A l.length c] w
   fun e w' => e = .returned (.int .i64 (M0 l)) ∧ Below w.heap.size w w' := by
 unfold maxLen at hm
 generalize hn : l.length = n at *
 have HN := Lib.hid hn
 clear hn
 go_enter Tryz.func122, Tryz.ntmps122
 go_wp2
 go_loopw [4, 11] (fun b i wr => ∃ (k : Nat), k ≤ n ∧ i = .int .i64 k ∧ (k = 0 ∧ b = .int .i64 (-1) ∨ ∃ p : Nat, Top l k p ∧ b = .int .i64 p) ∧ Below w.heap.size w wr) (fun _ i _ => n - (intOf i).toNat)
 case atStart => exact ⟨0, Nat.zero_le _, rfl, .inl ⟨rfl, rfl⟩, Below.refl _ _⟩
 case round =>
  obtain ⟨k, hk, rfl, hb, hbw⟩ := hrel
  by_cases hlt : k < n
  ·have hkl : k < l.length := by rw [HN.out]; exact hlt
   rcases hb with ⟨hk0, rfl⟩ | ⟨p, hp, rfl⟩
   ·have hk0' : k ≤ 0 := by omega
    clear hk0
    go_wp2
    go_roundw
    case rel => exact ⟨k + 1, by omega, by go_num, .inr ⟨0, by rw [show k = 0 by omega]; exact Top.one (by omega), by congr 1; omega⟩, hbw⟩
    case measure => simp [intOf]; omega
   ·have hp' := hp
    obtain ⟨hpk, _, _, _⟩ := hp'
    have hpl : p < l.length := by omega
    have hp0 : ¬ ((p : Int) < 0) := by omega
    have hc := Ys l A c k p wr hkl hpl ((hl.below hbw).more hbw.size)
    rw [HN.out] at hc
    have HC := Lib.hid hc
    clear hc
    have HS : Hid (Dx l[p] l[k] = false → Top l (k + 1) p) := Lib.hid (hp.stay hkl)
    have HT : Hid (Dx l[p] l[k] = true → Top l (k + 1) k) := Lib.hid (hp.turn hkl)
    clear hp
    generalize Dx l[p] l[k] = bb at HC HS HT
    cases bb
    ·go_wp2_with (go_at_call 139; refine HC.out.mono ?_; rintro e w3 ⟨rfl, hb3⟩)
     go_roundw
     case rel => exact ⟨k + 1, by omega, by go_num, .inr ⟨p, HS.out (by trivial), rfl⟩, hbw.trans (hb3.mono hbw.size)⟩
     case measure => simp [intOf]; omega
    ·go_wp2_with (go_at_call 139; refine HC.out.mono ?_; rintro e w3 ⟨rfl, hb3⟩)
     go_roundw
     case rel => exact ⟨k + 1, by omega, by go_num, .inr ⟨k, HT.out (by trivial), rfl⟩, hbw.trans (hb3.mono hbw.size)⟩
     case measure => simp [intOf]; omega
  ·obtain rfl : k = n := by omega
   go_wp2
   go_ret
   refine ⟨?_, hbw⟩
   rcases hb with ⟨rfl, rfl⟩ | ⟨p, hp, rfl⟩
   ·have := List.eq_nil_of_length_eq_zero HN.out
    subst this
    rfl
   ·exact D7 (by have := HN.out; subst this; exact hp.best.symm)
end Go.Proofs.YtihfaocdpmmooaaGreat
namespace Go.Proofs.YtihfaocdpmmooaaGreat
open Go.RowKit
structure REnt where
 v : Int
 n : Int
 b : ByteArray
def Zg1 (e : REnt) : List Value := [.int .i64 e.v, .int .i64 e.n, .string e.b]
def okB (view : Int) (i : Nat) (e : REnt) : Bool := decide (e.n = (i : Int) + 1 ∧ view ≤ e.v ∧ e.v ≤ 4611686018427387904 ∧ e.b.size ≤ 200)
def Ai : Int → Nat → List REnt → Bool
 | _, _, [] => true
 | view, i, e :: r => okB view i e && Ai e.v (i + 1) r
def Bg (l : List REnt) : Bool := Ai 1 0 l && decide (l.length ≤ 150)
theorem W9 {l : List REnt} {view : Int} {k : Nat} {d r : Bool} (hk : k < l.length) (h : (Ai view k (l.drop k) && d) = r) :
  (okB view k l[k] && (Ai l[k].v (k + 1) (l.drop (k + 1)) && d)) = r := by
 rw [List.drop_eq_getElem_cons hk, Ai] at h
 rw [← h, Bool.and_assoc]
set_option maxHeartbeats 400000 in
theorem Zy (l : List REnt) (A : Option Addr) (c : Nat) (w : World) (hm : l.length ≤ maxLen) (hl : Rd w w.heap.size 3 Zg1 A l) :
  Calls Tryz.prog 59 #[.slice A l.length c] w
   fun e w' => e = .returned (.bool (Bg l)) ∧ Below w.heap.size w w' := by
 unfold maxLen at hm
 generalize hn : l.length = n at *
 have HN := Lib.hid hn
 clear hn
 go_enter Tryz.func59, Tryz.ntmps59
 go_wp2
 go_loopw [3, 8] (fun vw i wr => ∃ (k : Nat) (view : Int), k ≤ n ∧ i = .int .i64 k ∧ vw = .int .i64 view ∧ (Ai view k (l.drop k) && decide (l.length ≤ 150)) = Bg l ∧ Below w.heap.size w wr) (fun _ i _ => n - (intOf i).toNat)
 case atStart => exact ⟨0, 1, Nat.zero_le _, rfl, rfl, by simp [Bg], Below.refl _ _⟩
 case round =>
  obtain ⟨k, view, hk, rfl, rfl, hr, hb⟩ := hrel
  have HR := Lib.hid hr
  clear hr
  by_cases hlt : k < n
  ·have hl' := hl.below hb
   have hkl : k < l.length := by rw [HN.out]; exact hlt
   obtain ⟨a, hA, hab⟩ := hl'.addr hkl
   subst hA
   have c0 : wr.cell? (a.add (k * 3)) = _ := hl'.cell hkl (j := 0) rfl
   have c1 : wr.cell? ⟨(a.add (k * 3)).block, (a.add (k * 3)).off + 1, none⟩ = _ := hl'.cell hkl (j := 1) rfl
   have c2 : wr.cell? ⟨(a.add (k * 3)).block, (a.add (k * 3)).off + 2, none⟩ = _ := hl'.cell hkl (j := 2) rfl
   generalize he : l[k] = e at c0 c1 c2
   have HS := Lib.hid (W9 hkl HR.out)
   rw [he] at HS
   clear HR
   go_wp2
   all_goals
    first
     | (go_ret
        refine ⟨Gu ?_, (hb.alloc hb.size _)⟩
        rw [← HS.out, show okB view k e = false by unfold okB; rw [decide_eq_false_iff_not]; omega]; rfl)
     | (go_roundw
        case rel => exact ⟨k + 1, e.v, by omega, by go_num, rfl, by rw [← HS.out, show okB view k e = true by unfold okB; rw [decide_eq_true_eq]; omega]; rfl, (hb.alloc hb.size _)⟩
        case measure => simp [intOf]; omega)
  ·have hke : k = n := by omega
   subst hke
   go_wp2
   go_ret
   refine ⟨Gu ?_, hb⟩
   have hn := HN.out
   rw [← HR.out, List.drop_of_length_le (by omega)]
   simp [Ai, hn]; omega
end Go.Proofs.YtihfaocdpmmooaaGreat
namespace Go.Proofs.YtihfaocdpmmooaaGreat
open Go.RowKit
def Bh (m : Int) : Bool := decide (1 ≤ m ∧ m ≤ 7)
def Am (m : Int) : Int := if Bh m = true then m / 2 + 1 else 0
def Aa (v m : Int) : Int := if Bh m = true ∧ 0 ≤ v ∧ v ≤ 4611686018427387904 then v % m else -1
def Ix (v s m : Int) : Int := if (s - v % m + m) % m = 0 then m else (s - v % m + m) % m
def Jq (v s m : Int) : Bool := decide (Bh m = true ∧ 0 ≤ v ∧ 0 ≤ s ∧ s < m ∧ v + Ix v s m ≤ 4611686018427387904)
def Ih (v s m : Int) : Int := if Jq v s m = true then v + Ix v s m else 0
set_option maxHeartbeats 400000 in
theorem Ef (m : Int) (w : World) :
  Calls Tryz.prog 90 #[.int .i64 m] w fun e w' => e = .returned (.bool (Bh m)) ∧ w = w' := by
 by_cases h1 : 1 ≤ m
 ·go_enter Tryz.func90, Tryz.ntmps90
  go_wp2
  go_ret
  exact ⟨by simp [Bh, h1], rfl⟩
 ·go_enter Tryz.func90, Tryz.ntmps90
  go_wp2
  go_ret
  exact ⟨by simp [Bh]; omega, rfl⟩
theorem E2 {m : Int} (h : Bh m = true) : 1 ≤ m ∧ m ≤ 7 := by simpa [Bh] using h
set_option maxHeartbeats 400000 in
theorem My (m : Int) (w : World) :
  Calls Tryz.prog 54 #[.int .i64 m] w fun e w' => e = .returned (.int .i64 (Am m)) ∧ w = w' := by
 by_cases hg : Bh m = true
 ·obtain ⟨h1, h2⟩ := E2 hg
  go_enter Tryz.func54, Tryz.ntmps54
  go_wp2_with (go_at_call 90; refine (Ef _ _).mono ?_; rintro e w' ⟨rfl, rfl⟩)
  go_ret
  exact ⟨D7 (by simp [Am, hg]), rfl⟩
 ·go_enter Tryz.func54, Tryz.ntmps54
  go_wp2_with (go_at_call 90; refine (Ef _ _).mono ?_; rintro e w' ⟨rfl, rfl⟩)
  go_ret
  exact ⟨D7 (by simp [Am, hg]), rfl⟩
theorem Dh {v m : Int} (h : Bh m = false ∨ v < 0 ∨ 4611686018427387904 < v) : (-1 : Int) = Aa v m := by
 unfold Aa
 rw [if_neg]
 rintro ⟨h1, h2, h3⟩
 rcases h with h | h | h
 ·rw [h] at h1; cases h1
 ·omega
 ·omega
set_option maxHeartbeats 400000 in
theorem S8 (v m : Int) (w : World) :
  Calls Tryz.prog 72 #[.int .i64 v, .int .i64 m] w fun e w' => e = .returned (.int .i64 (Aa v m)) ∧ w = w' := by
 by_cases hg : Bh m = true
 ·have hm := E2 hg
  obtain ⟨hm1, hm2⟩ := hm
  by_cases h1 : v < 0
  ·go_enter Tryz.func72, Tryz.ntmps72
   go_wp2_with (go_at_call 90; refine (Ef _ _).mono ?_; rintro e w' ⟨rfl, rfl⟩)
   go_ret
   exact ⟨D7 (Dh (by omega)), rfl⟩
  ·by_cases h2 : 4611686018427387904 < v
   ·go_enter Tryz.func72, Tryz.ntmps72
    go_wp2_with (go_at_call 90; refine (Ef _ _).mono ?_; rintro e w' ⟨rfl, rfl⟩)
    go_ret
    exact ⟨D7 (Dh (by omega)), rfl⟩
   ·go_enter Tryz.func72, Tryz.ntmps72
    go_wp2_with (go_at_call 90; refine (Ef _ _).mono ?_; rintro e w' ⟨rfl, rfl⟩)
    go_ret
    exact ⟨D7 (by unfold Aa; rw [if_pos ⟨hg, by omega, by omega⟩]), rfl⟩
 ·have hg0 : Bh m = false := by simpa using hg
  go_enter Tryz.func72, Tryz.ntmps72
  go_wp2_with (go_at_call 90; refine (Ef _ _).mono ?_; rintro e w' ⟨rfl, rfl⟩)
  go_ret
  exact ⟨D7 (Dh (.inl hg0)), rfl⟩
end Go.Proofs.YtihfaocdpmmooaaGreat
namespace Go.Proofs.YtihfaocdpmmooaaGreat
open Go.RowKit
set_option maxHeartbeats 400000 in
theorem Bw (v m : Int) (w : World) :
  Calls Tryz.prog 108 #[.int .i64 v, .int .i64 m] w fun e w' => e = .returned (.int .i64 (Aa v m)) ∧ w = w' := by
 by_cases h0 : m < 1
 ·go_enter Tryz.func108, Tryz.ntmps108
  go_wp2
  go_ret
  exact ⟨D7 (Dh (by simp [Bh]; omega)), rfl⟩
 ·skip
  by_cases h1 : 7 < m
  ·go_enter Tryz.func108, Tryz.ntmps108
   go_wp2
   go_ret
   exact ⟨D7 (Dh (by simp [Bh]; omega)), rfl⟩
  ·skip
   by_cases h2 : v < 0
   ·go_enter Tryz.func108, Tryz.ntmps108
    go_wp2
    go_ret
    exact ⟨D7 (Dh (by simp [Bh]; omega)), rfl⟩
   ·skip
    by_cases h3 : 4611686018427387904 < v
    ·go_enter Tryz.func108, Tryz.ntmps108
     go_wp2
     go_ret
     exact ⟨D7 (Dh (by simp [Bh]; omega)), rfl⟩
    ·skip
     go_enter Tryz.func108, Tryz.ntmps108
     go_wp2
     go_ret
     exact ⟨D7 (by unfold Aa; rw [if_pos ⟨by simp [Bh]; omega, by omega, by omega⟩]), rfl⟩
theorem Z9i {m : Int} (h : Bh m = true) : m = 1 ∨ m = 2 ∨ m = 3 ∨ m = 4 ∨ m = 5 ∨ m = 6 ∨ m = 7 := by
 have := E2 h
 omega
theorem Z0z {v s m : Int} (hg : Bh m = true) : 1 ≤ Ix v s m ∧ Ix v s m ≤ m := by
 rcases Z9i hg with rfl | rfl | rfl | rfl | rfl | rfl | rfl <;> (unfold Ix; split <;> omega)
theorem Z32 {v s m : Int} (hg : Bh m = true) (hs : 0 ≤ s) (hsm : s < m) : (v + Ix v s m) % m = s := by
 rcases Z9i hg with rfl | rfl | rfl | rfl | rfl | rfl | rfl <;> (unfold Ix; split <;> omega)
theorem Yl {v s m k : Int} (hg : Bh m = true) (h1 : 1 ≤ k) (hk : k < Ix v s m) : (v + k) % m ≠ s := by
 rcases Z9i hg with rfl | rfl | rfl | rfl | rfl | rfl | rfl <;> (unfold Ix at hk; split at hk <;> omega)
theorem Hx {v m : Int} (hg : Bh m = true) (h0 : 0 ≤ v) (h1 : v ≤ 4611686018427387904) : Aa v m = v % m := by
 unfold Aa; rw [if_pos ⟨hg, h0, h1⟩]
theorem Ny {v s m : Int} (h : ¬ (Bh m = true ∧ 0 ≤ v ∧ 0 ≤ s ∧ s < m ∧ v + Ix v s m ≤ 4611686018427387904)) : Jq v s m = false ∧ Ih v s m = 0 := by
 have : Jq v s m = false := by unfold Jq; simpa using h
 exact ⟨this, by unfold Ih; rw [this]; rfl⟩
theorem W2 {v s m : Int} (h : Bh m = true ∧ 0 ≤ v ∧ 0 ≤ s ∧ s < m ∧ v + Ix v s m ≤ 4611686018427387904) : Jq v s m = true ∧ Ih v s m = v + Ix v s m := by
 have : Jq v s m = true := by unfold Jq; simpa using h
 exact ⟨this, by unfold Ih; rw [if_pos this]⟩
theorem Vr {v s m : Int} (h : Jq v s m = false ∧ Ih v s m = 0) : Ending.returned (.tuple #[.int .i64 0, .bool false]) = .returned (.tuple #[.int .i64 (Ih v s m), .bool (Jq v s m)]) := by
 rw [h.1, h.2]
theorem Za6 {v s m r : Int} (h : Jq v s m = true ∧ Ih v s m = r) : Ending.returned (.tuple #[.int .i64 r, .bool true]) = .returned (.tuple #[.int .i64 (Ih v s m), .bool (Jq v s m)]) := by
 rw [h.1, h.2]
theorem Xo {v m : Int} (h : ¬ Aa v m < 0) : Bh m = true ∧ 0 ≤ v ∧ v ≤ 4611686018427387904 := by
 unfold Aa at h
 split at h
 ·assumption
 ·omega
theorem Wh (v m : Int) : -1 ≤ Aa v m ∧ Aa v m < 7 := by
 unfold Aa
 split
 ·rename_i h
  have hm := E2 h.1
  have := Int.emod_nonneg v (show m ≠ 0 by omega)
  have := Int.emod_lt_of_pos v (show 0 < m by omega)
  omega
 ·omega
set_option maxHeartbeats 400000 in
theorem Sc (v s m : Int) (w : World) :
  Calls Tryz.prog 101 #[.int .i64 v, .int .i64 s, .int .i64 m] w fun e w' => e = .returned (.tuple #[.int .i64 (Ih v s m), .bool (Jq v s m)]) ∧ w = w' := by
 have hb := Wh v m
 obtain ⟨hb1, hb2⟩ := hb
 by_cases hp : Aa v m < 0
 ·go_enter Tryz.func101, Tryz.ntmps101
  go_wp2_with (go_at_call 108; refine (Bw _ _ _).mono ?_; rintro e w1 ⟨rfl, rfl⟩)
  go_ret2
  exact ⟨Vr (Ny (fun h => by have := E2 h.1; have := Z0z (v := v) (s := s) h.1; rw [Hx h.1 (by omega) (by omega)] at hp; have := Int.emod_nonneg v (show m ≠ 0 by omega); omega)), rfl⟩
 ·have hpl := Xo hp
  obtain ⟨hg, hv0, hv1⟩ := hpl
  have hm := E2 hg
  obtain ⟨hm1, hm2⟩ := hm
  by_cases hs : s < 0
  ·go_enter Tryz.func101, Tryz.ntmps101
   go_wp2_with (go_at_call 108; refine (Bw _ _ _).mono ?_; rintro e w1 ⟨rfl, rfl⟩)
   go_ret2
   exact ⟨Vr (Ny (by omega)), rfl⟩
  ·by_cases hs2 : m ≤ s
   ·go_enter Tryz.func101, Tryz.ntmps101
    go_wp2_with (go_at_call 108; refine (Bw _ _ _).mono ?_; rintro e w1 ⟨rfl, rfl⟩)
    go_ret2
    exact ⟨Vr (Ny (by omega)), rfl⟩
   ·have hmb := Z0z (v := v) (s := s) hg
    obtain ⟨hmb1, hmb2⟩ := hmb
    go_enter Tryz.func101, Tryz.ntmps101
    go_wp2_with (go_at_call 108; refine (Bw _ _ _).mono ?_; rintro e w1 ⟨rfl, rfl⟩)
    go_loop [8] (fun n => ∃ k : Int, 1 ≤ k ∧ k ≤ Ix v s m ∧ v + k ≤ 4611686018427387905 ∧ n = .int .i64 (v + k)) (fun n => (v + 7 - intOf n).toNat)
    case atStart => exact ⟨1, by omega, by omega, by omega, rfl⟩
    case round =>
     obtain ⟨k, hk1, hk2, hk3, rfl⟩ := hrel
     by_cases hlt : v + k ≤ 4611686018427387904
     ·have hv' : 0 ≤ v + k := by omega
      by_cases hke : k = Ix v s m
      ·have HP : Aa (v + k) m = s := by rw [Hx hg hv' hlt, hke]; exact Z32 hg (by omega) (by omega)
       have HE := Lib.hid HP
       have HK := Lib.hid hke
       have hpe : ((Aa (v + k) m == s)) = true := by rw [HP]; simp
       clear HP hke
       go_wp2_with (go_at_call 108; refine (Bw _ _ _).mono ?_; rintro e w1 ⟨rfl, rfl⟩)
       go_ret2
       exact ⟨Za6 ⟨(W2 ⟨hg, hv0, by omega, by omega, by rw [← HK.out]; omega⟩).1, (W2 ⟨hg, hv0, by omega, by omega, by rw [← HK.out]; omega⟩).2.trans (by rw [HK.out])⟩, rfl⟩
      ·have hpe : ((Aa (v + k) m == s)) = false := by rw [Hx hg hv' hlt]; exact beq_eq_false_iff_ne.2 (Yl hg hk1 (by omega))
       go_wp2_with (go_at_call 108; refine (Bw _ _ _).mono ?_; rintro e w1 ⟨rfl, rfl⟩)
       go_round
       case rel => exact ⟨k + 1, by omega, by omega, by omega, by go_num⟩
       case measure => simp [intOf]; omega
     ·go_wp2
      go_ret2
      exact ⟨Vr (Ny (by omega)), rfl⟩
end Go.Proofs.YtihfaocdpmmooaaGreat
namespace Go.Proofs.YtihfaocdpmmooaaGreat
open Go.RowKit Go.Sort
set_option maxRecDepth 100000
def Zfz (x : Int) : List Value := [.int .i64 x]
def Pp (l : List Int) (v : Int) : Nat := l.countP fun x => decide (v ≤ x)
def Cr (l : List Int) (k : Nat) : Int := (l.take k).foldl (fun out x => if out < x ∧ Am l.length ≤ Pp l x then x else out) 0
def Bu (l : List Int) : Int := if l.length ≤ 7 then Cr l l.length else 0
theorem Lr {l : List Int} {k : Nat} (hk : k < l.length) : Cr l (k + 1) = if Cr l k < l[k] ∧ Am l.length ≤ Pp l l[k] then l[k] else Cr l k := by
 unfold Cr
 rw [List.take_succ_eq_append_getElem hk, List.foldl_append]
 rfl
theorem Ql (m : Int) : 0 ≤ Am m ∧ Am m ≤ 4 := by
 unfold Am
 split
 ·rename_i h; have := E2 h; omega
 ·omega
end Go.Proofs.YtihfaocdpmmooaaGreat
namespace Go.Proofs.YtihfaocdpmmooaaGreat
open Go.RowKit Go.Sort
set_option maxRecDepth 100000
def D9 (l : List Int) : List Int := l.mergeSort fun x y => decide (x ≤ y)
theorem Gv (l : List Int) : (D9 l).Perm l := List.mergeSort_perm _ _
theorem D5 (l : List Int) : (D9 l).length = l.length := (Gv l).length_eq
theorem Un (l : List Int) {i j : Nat} (hij : i < j) (hj : j < (D9 l).length) : (D9 l)[i]'(by omega) ≤ (D9 l)[j] := by
 have h := List.pairwise_mergeSort (le := fun x y : Int => decide (x ≤ y)) (by intro a b c h1 h2; simp at *; omega) (by intro a b; simp; omega) l
 have h2 := (List.pairwise_iff_getElem.1 h) i j (by have := hj; unfold D9 at this; omega) (by have := hj; unfold D9 at this; omega) hij
 exact of_decide_eq_true h2
theorem W1 {l m : List Int} (h : l.Perm m) (v : Int) : Pp l v = Pp m v := h.countP_eq _
theorem Pn (s : List Int) (v : Int) (k : Nat) : Pp s v = Pp (s.take k) v + Pp (s.drop k) v := by
 unfold Pp
 rw [← List.countP_append, List.take_append_drop]
theorem Z34 (l : List Int) {k : Nat} (hk : k < (D9 l).length) : l.length - k ≤ Pp l (D9 l)[k] := by
 rw [← W1 (Gv l), Pn _ _ k]
 have h : Pp ((D9 l).drop k) (D9 l)[k] = ((D9 l).drop k).length := by
  unfold Pp
  rw [List.countP_eq_length]
  intro x hx
  obtain ⟨j, hj, rfl⟩ := List.getElem_of_mem hx
  rw [List.getElem_drop, decide_eq_true_eq]
  rcases Nat.eq_zero_or_pos j with h0 | h0
  ·subst h0; exact Int.le_refl _
  ·exact Un l (by omega) (by rw [List.length_drop] at hj; omega)
 rw [h, List.length_drop, D5]
 omega
theorem Zi (l : List Int) {k : Nat} (hk : k < (D9 l).length) {v : Int} (hv : (D9 l)[k] < v) : Pp l v ≤ l.length - k - 1 := by
 rw [← W1 (Gv l), Pn _ _ (k + 1)]
 have h : Pp ((D9 l).take (k + 1)) v = 0 := by
  unfold Pp
  rw [List.countP_eq_zero]
  intro x hx
  obtain ⟨j, hj, rfl⟩ := List.getElem_of_mem hx
  rw [List.getElem_take, decide_eq_true_eq]
  rw [List.length_take] at hj
  rcases Nat.lt_or_ge j k with h0 | h0
  ·have := Un l h0 hk; omega
  ·have e : j = k := by omega
   subst e; omega
 have h2 : Pp ((D9 l).drop (k + 1)) v ≤ ((D9 l).drop (k + 1)).length := List.countP_le_length
 rw [h, List.length_drop, D5] at *
 omega
theorem Mi (l : List Int) : ∀ k, k ≤ l.length → 0 ≤ Cr l k ∧ (∀ j (hj : j < l.length), j < k → Am l.length ≤ Pp l l[j] → l[j] ≤ Cr l k) ∧
  (Cr l k = 0 ∨ ∃ j, ∃ hj : j < l.length, Cr l k = l[j] ∧ Am l.length ≤ Pp l l[j])
 | 0, _ => ⟨by simp [Cr], fun j _ h => by omega, .inl (by simp [Cr])⟩
 | k + 1, hk => by
  obtain ⟨h0, h1, h2⟩ := Mi l k (by omega)
  rw [Lr (show k < l.length by omega)]
  split
  ·rename_i h
   refine ⟨by omega, fun j hj hjk hq => ?_, .inr ⟨k, by omega, rfl, h.2⟩⟩
   rcases Nat.lt_or_ge j k with hlt | hge
   ·have := h1 j hj hlt hq; omega
   ·have e : j = k := by omega
    subst e; exact Int.le_refl _
  ·rename_i h
   refine ⟨h0, fun j hj hjk hq => ?_, h2⟩
   rcases Nat.lt_or_ge j k with hlt | hge
   ·exact h1 j hj hlt hq
   ·have e : j = k := by omega
    subst e; omega
theorem S4 (l : List Int) (h7 : l.length ≤ 7) {k : Nat} (hk : k < (D9 l).length) (hq : (k : Int) = l.length - Am l.length) :
  (if (D9 l)[k] < 0 then 0 else (D9 l)[k]) = Bu l := by
 unfold Bu
 rw [if_pos h7]
 obtain ⟨h0, ha, hb⟩ := Mi l l.length (Nat.le_refl _)
 have hf := Z34 l hk
 rw [D5] at hk
 have hx : (D9 l)[k]'(by rw [D5]; exact hk) ≤ Cr l l.length := by
  have hm : (D9 l)[k]'(by rw [D5]; exact hk) ∈ l := (Gv l).mem_iff.1 (List.getElem_mem _)
  obtain ⟨j, hj, e⟩ := List.getElem_of_mem hm
  have := ha j hj hj (by rw [e]; omega)
  rw [e] at this
  exact this
 have hy : Cr l l.length ≤ 0 ∨ Cr l l.length ≤ (D9 l)[k]'(by rw [D5]; exact hk) := by
  rcases hb with hb | ⟨j, hj, e, hqj⟩
  ·left; omega
  ·right
   rw [e]
   apply Int.not_lt.1
   intro hlt
   have := Zi l (k := k) (by rw [D5]; exact hk) hlt
   omega
 split <;> omega
theorem Z0u {l : List Int} (h : Bh l.length = false) : Bu l = 0 := by
 unfold Bu
 split
 ·rename_i h7
  have : l.length = 0 := by unfold Bh at h; rw [decide_eq_false_iff_not] at h; omega
  rw [List.eq_nil_of_length_eq_zero this]
  rfl
 ·rfl
theorem Z44 (g cap : Nat) (zs : List Int) (w : World) (hH : Holds (Value.int .i64) w g 0 zs.toArray) (hg : g < w.heap.size) (hsz : zs.length < 4611686018427387904) :
  Calls Tryz.prog 135 #[.slice (some ⟨g, 0, none⟩) zs.length cap] w fun e w' =>
   e = .returned (.tuple #[]) ∧ (∀ j v, (D9 zs)[j]? = some v → w'.cell? ⟨g, j, none⟩ = some (.int .i64 v)) ∧ w.grownBy w' (some g) := by
 refine (Tryz.slices_Sort_int g 0 cap zs w hH hg hsz).mono ?_
 rintro e w' ⟨rfl, n, os, rfl⟩
 refine ⟨rfl, fun j v hv => ?_, grownBy_sortedI _⟩
 have h0 : Holds (Value.int .i64) (Sort.ahead w n) g 0 zs.toArray := hH
 have hj : j < (D9 zs).length := (List.getElem?_eq_some_iff.1 hv).1
 have h := cell?_putRow (Value.int .i64) (Sort.ahead w n) g 0 zs.toArray (D9 zs).toArray h0 (by simp [D5]) j (by simpa using hj)
 rw [cell?_grow _ _ _ (by rw [size_putRow]; exact hg)]
 rw [Nat.zero_add] at h
 refine h.trans ?_
 rw [← (List.getElem?_eq_some_iff.1 hv).2]
 simp [hj]
def Xw (l : List Int) : List Value := l.map (.int .i64)
def k0 (n : Nat) : Nat := n - (n / 2 + 1)
set_option maxHeartbeats 1000000 in
theorem Z3n (l : List Int) (A : Option Addr) (c : Nat) (w : World) (hm : l.length ≤ maxLen) (hl : Rd w w.heap.size 1 Zfz A l) :
  Calls Tryz.prog 100 #[.slice A l.length c] w
   fun e w' => e = .returned (.int .i64 (Bu l)) ∧ Below w.heap.size w w' := by
 have hg := Ef l.length (w.alloc (Obj.cells #[.int .i64 0, .int .i64 0, .int .i64 0, .int .i64 0, .int .i64 0, .int .i64 0, .int .i64 0] 115))
 unfold maxLen at hm
 generalize hn : l.length = n at *
 have HN := Lib.hid hn
 clear hn
 cases hb : Bh n
 ·rw [hb] at hg
  have HG := Lib.hid hg
  clear hg
  go_enter Tryz.func100, Tryz.ntmps100
  go_wp2_with (go_at_call 90; refine HG.out.mono ?_; rintro e w' ⟨rfl, rfl⟩)
  go_ret
  exact ⟨D7 (by rw [Z0u (by rw [HN.out]; exact hb)]), (Below.refl _ _).alloc (Nat.le_refl _) _⟩
 ·rw [hb] at hg
  have HG := Lib.hid hg
  clear hg
  have hgb := E2 hb
  obtain ⟨hg1, hg2⟩ := hgb
  go_enter Tryz.func100, Tryz.ntmps100
  have hn2 : n ≤ 7 := by omega
  have hsrc : 0 < n → ∃ ad, A = some ad ∧ ∀ j v, (Xw l)[j]? = some v → (w.alloc (Obj.cells #[.int .i64 0, .int .i64 0, .int .i64 0, .int .i64 0, .int .i64 0, .int .i64 0, .int .i64 0] 115)).cell? (ad.add j) = some v := fun h0 => by
   obtain ⟨a, hA, hab⟩ := hl.addr (i := 0) (by rw [HN.out]; exact h0)
   subst hA
   refine ⟨a, rfl, fun j v hv => ?_⟩
   unfold Xw at hv
   rw [List.getElem?_map] at hv
   cases hx : l[j]? with
   | none => rw [hx] at hv; cases hv
   | some x =>
    rw [hx] at hv
    simp only [Option.map_some, Option.some.injEq] at hv
    subst hv
    have hj : j < l.length := (List.getElem?_eq_some_iff.1 hx).1
    have h := hl.cell hj (j := 0) (v := .int .i64 x) (by rw [(List.getElem?_eq_some_iff.1 hx).2]; rfl)
    rw [Nat.mul_one, Ww, Nat.add_zero] at h
    rw [World.cell?_alloc_lt w _ _ (by rw [M1]; exact hab)]
    exact h
  have HS := Lib.hid hsrc
  clear hsrc
  have hlen : (Xw l).length = n := by unfold Xw; rw [List.length_map]; exact HN.out
  have HL := Lib.hid hlen
  clear hlen
  have H2 := Lib.hid (show (Xw l).length = Nat.min n 7 by rw [HL.out]; show n = min n 7; omega)
  have H4 := Lib.hid (show 0 + (Xw l).length ≤ (List.replicate 7 (Value.int .i64 0)).length by rw [HL.out]; simp; omega)
  have H5 := Lib.hid (show ∀ v ∈ Xw l, v.oneCell' = true by unfold Xw; intro v hv; obtain ⟨x, _, rfl⟩ := List.mem_map.1 hv; rfl)
  have H6 := Lib.hid (show Below w.heap.size w (w.alloc _) from (Below.refl _ _).alloc (Nat.le_refl _) (Obj.cells #[.int .i64 0, .int .i64 0, .int .i64 0, .int .i64 0, .int .i64 0, .int .i64 0, .int .i64 0] 115))
  go_wp2_with (first | (go_at_call 90; refine HG.out.mono ?_; rintro e w' ⟨rfl, rfl⟩) | (refine wpList_copy_splice rfl (.tmp 10) (.tmp 11) 75 75 rfl 3 Tryz.underlying75 (by kernel_rfl) (some ⟨w.heap.size, 0, none⟩) A 7 7 n c rfl rfl w.heap.size 0 (List.replicate 7 (.int .i64 0)) 115 (heap_alloc_new w _) (Xw l) H2.out (fun h => ⟨rfl, HS.out (by rw [HL.out] at h; exact h)⟩) H4.out H5.out w.heap.size w H6.out (Nat.le_refl _) ?_))
  intro w1 hc1 hb1
  have hkq : (k0 n : Int) = n - Am n := by have := Ql n; unfold k0; unfold Am; rw [if_pos hb]; omega
  have hkn : k0 n < n := by unfold k0; omega
  have hq0 := Ql n
  obtain ⟨hq1, hq2⟩ := hq0
  have hgl : w.heap.size < w1.heap.size := by
   have h := hc1.out
   rcases Nat.lt_or_ge w.heap.size w1.heap.size with hlt | hge
   ·exact hlt
   ·rw [Array.getElem?_eq_none hge] at h; cases h
  have hH : Holds (Value.int .i64) w1 w.heap.size 0 l.toArray := fun j hj => by
   have hj' : j < l.length := by simpa using hj
   have h := hc1.out
   refine ⟨?_, by simp [World.frozen?, h]⟩
   have hj2 : j < (Xw l).length := by unfold Xw; simpa using hj'
   have hgj : (l.toArray)[j]! = l[j] := by simp [hj']
   rw [hgj]
   simp only [World.cell?, h, splice, List.take_zero, List.nil_append, Nat.zero_add, Option.isSome_none, Bool.false_eq_true, if_false, List.getElem?_toArray]
   rw [List.getElem?_append_left hj2, List.getElem?_eq_getElem hj2]
   simp [Xw]
  have hsort := Z44 w.heap.size 7 l w1 hH hgl (by rw [HN.out]; omega)
  rw [HN.out] at hsort
  have HO := Lib.hid hsort
  clear hsort hH hc1 hl
  go_wp2_with (first | (go_at_call 135; refine HO.out.mono ?_; rintro e w2 ⟨rfl, hcell, hgr⟩))
  have hbw := hb1.grown hgr hb1.size (by simp)
  have hk1 : k0 n < (D9 l).length := by rw [D5, HN.out]; exact hkn
  have hck := hcell (k0 n) _ (List.getElem?_eq_getElem hk1)
  have HF := Lib.hid (S4 l (by rw [HN.out]; exact hn2) hk1 (by rw [HN.out]; exact hkq))
  have HQ := Lib.hid (My n w2)
  generalize (D9 l)[k0 n] = x at hck HF
  rw [show k0 n = ((n : Int) - Am n).toNat by rw [← hkq]; simp] at hck
  have hq3 : Am n ≤ n := by omega
  have hq4 : (n : Int) - Am n < 7 := by omega
  clear hkq hcell hgr hb1 HO HS HL H2 H4 H5 H6
  generalize Am n = q at hck hq1 hq2 hq3 hq4 HQ
  go_wp2_with (first | (go_at_call 54; refine HQ.out.mono ?_; rintro e w3 ⟨rfl, rfl⟩))
  go_ret
  exact ⟨D7 (by rw [← HF.out]; show max x 0 = _; split <;> omega), hbw⟩
end Go.Proofs.YtihfaocdpmmooaaGreat
namespace Go.Proofs.YtihfaocdpmmooaaGreat
open Go.RowKit
set_option maxRecDepth 100000
theorem Z69 (l : List Mk) : ∀ n, 0 < n → n ≤ l.length → ∃ p, Top l n p
 | 0, h, _ => absurd h (by omega)
 | 1, _, h => ⟨0, Top.one (by omega)⟩
 | n + 2, _, h => by
  obtain ⟨p, hp⟩ := Z69 l (n + 1) (by omega) (by omega)
  cases hb : Dx (l[p]'(by obtain ⟨a, _, _⟩ := hp; omega)) (l[n + 1]'(by omega))
  ·exact ⟨p, hp.stay (by omega) hb⟩
  ·exact ⟨n + 1, hp.turn (by omega) hb⟩
end Go.Proofs.YtihfaocdpmmooaaGreat

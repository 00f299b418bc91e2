
import Derived.Test.YtihfaocdpmmooaaGreatZBase
import Derived.StillTailTactics
import Derived.Lib.Hide
import Derived.Test.YtihfaocdpmmooaaGreatZShelf
import Derived.Laws.CopyOwn
import Derived.Sort.OwnSortedInts
namespace Go.Proofs.YtihfaocdpmmooaaGreat
open Go.RowKit
set_option maxRecDepth 100000
structure Mk where
 v : Int
 n : Int
def mkC (e : Mk) : List Value := [.int .i64 e.v, .int .i64 e.n]
def Dq (a b : Mk) : Bool := decide (a.v < b.v ∨ a.v = b.v ∧ a.n < b.n)
theorem Zal {a b : Mk} (h2 : a.v = b.v) : decide (a.n < b.n) = Dq a b := by unfold Dq; rw [decide_eq_decide]; omega
theorem Zfx {a b : Mk} (h1 : b.v ≤ a.v) (h2 : ¬ a.v = b.v) : false = Dq a b := by unfold Dq; rw [eq_comm, decide_eq_false_iff_not]; omega
theorem Zhk {a b : Mk} (h1 : a.v < b.v) : true = Dq a b := by unfold Dq; rw [eq_comm, decide_eq_true_eq]; omega
set_option maxHeartbeats 400000 in
theorem Z7p (a b : Mk) (w : World) :
  Calls Tryz.prog 149 #[.agg #[.int .i64 a.v, .int .i64 a.n], .agg #[.int .i64 b.v, .int .i64 b.n]] w
   fun e w' => e = .returned (.bool (Dq a b)) ∧ Below w.heap.size w w' := by
 obtain ⟨av, an⟩ := a
 obtain ⟨bv, bn⟩ := b
 dsimp only
 by_cases h1 : av < bv
 ·go_enter Tryz.func149, Tryz.ntmps149
  go_wp2
  go_ret
  exact ⟨Fk (Zhk (a := ⟨av, an⟩) (b := ⟨bv, bn⟩) h1), ((Below.refl _ _).alloc (Nat.le_refl _) _).alloc (by simp) _⟩
 ·by_cases h2 : (av == bv) = true
  ·go_enter Tryz.func149, Tryz.ntmps149
   go_wp2
   go_ret
   exact ⟨Fk (Zal (a := ⟨av, an⟩) (b := ⟨bv, bn⟩) (by simpa using h2)), ((Below.refl _ _).alloc (Nat.le_refl _) _).alloc (by simp) _⟩
  ·have h2' : (av == bv) = false := by simpa using h2
   go_enter Tryz.func149, Tryz.ntmps149
   go_wp2
   go_ret
   exact ⟨Fk (Zfx (a := ⟨av, an⟩) (b := ⟨bv, bn⟩) (by dsimp only; omega) (by simpa using h2')), ((Below.refl _ _).alloc (Nat.le_refl _) _).alloc (by simp) _⟩
set_option maxHeartbeats 400000 in
theorem U3 (a b : Mk) (w : World) :
  Calls Tryz.prog 147 #[.agg #[.int .i64 a.v, .int .i64 a.n], .agg #[.int .i64 b.v, .int .i64 b.n]] w
   fun e w' => e = .returned (.bool (Dq a b)) ∧ Below w.heap.size w w' := by
 obtain ⟨av, an⟩ := a
 obtain ⟨bv, bn⟩ := b
 dsimp only
 by_cases h2 : (av == bv) = true
 ·have h2' : (av != bv) = false := by simpa using h2
  go_enter Tryz.func147, Tryz.ntmps147
  go_wp2
  go_ret
  exact ⟨Fk (Zal (a := ⟨av, an⟩) (b := ⟨bv, bn⟩) (by simpa using h2)), ((Below.refl _ _).alloc (Nat.le_refl _) _).alloc (by simp) _⟩
 ·have h2' : (av != bv) = true := by simpa using h2
  go_enter Tryz.func147, Tryz.ntmps147
  go_wp2
  go_ret
  refine ⟨Fk ?_, ((Below.refl _ _).alloc (Nat.le_refl _) _).alloc (by simp) _⟩
  unfold Dq
  rw [decide_eq_decide]
  simp at h2
  dsimp only
  omega
set_option maxHeartbeats 400000 in
theorem Z30 (l : List Mk) (A : Option Addr) (c : Nat) (i k : Nat) (w : World) (hi : i < l.length) (hk : k < l.length) (hl : Rd w w.heap.size 2 mkC A l) :
  Calls Tryz.prog 139 #[.agg #[.slice A l.length c], .int .i64 i, .int .i64 k] w
   fun e w' => e = .returned (.bool (Dq l[k] l[i])) ∧ Below w.heap.size w w' := by
 obtain ⟨a, hA, hab⟩ := hl.addr hi
 subst hA
 have hbw : Below w.heap.size w (w.alloc (Obj.cells #[Value.slice (some a) l.length c] 189)) := (Below.refl _ _).alloc (Nat.le_refl _) _
 have b0 : (w.alloc (Obj.cells #[Value.slice (some a) l.length c] 189)).cell? ⟨w.heap.size, 0, none⟩ = some (Value.slice (some a) l.length c) := cell_one_new w _ _ 0 _ rfl
 have hl' := hl.below hbw
 have hz := hbw.size
 go_enter Tryz.func139, Tryz.ntmps139
 go_wp2
 generalize w.alloc (Obj.cells #[Value.slice (some a) l.length c] 189) = w1 at *
 have c0 : w1.cell? (a.add (k * 2)) = _ := hl'.cell hk (j := 0) rfl
 have c1 : w1.cell? ⟨(a.add (k * 2)).block, (a.add (k * 2)).off + 1, none⟩ = _ := hl'.cell hk (j := 1) rfl
 have d0 : w1.cell? (a.add (i * 2)) = _ := hl'.cell hi (j := 0) rfl
 have d1 : w1.cell? ⟨(a.add (i * 2)).block, (a.add (i * 2)).off + 1, none⟩ = _ := hl'.cell hi (j := 1) rfl
 generalize he : l[k] = e at c0 c1
 generalize hi' : l[i] = e' at d0 d1
 have HE := Lib.hid he
 have HI := Lib.hid hi'
 clear he hi'
 have i1 : (i : Int) < l.length := by omega
 have i2 : (k : Int) < l.length := by omega
 clear hl hl'
 go_still_tail 10, (by kernel_rfl)
 change wpList _ _ _ _ _ w1.drew
 have hbd := hbw.drew
 have hzd : w.heap.size ≤ w1.drew.heap.size := hz
 generalize w1.drew = w2 at *
 clear b0 c0 c1 d0 d1 hbw hz
 go_wp2_with (go_at_call 149; refine (Z7p e e' w2).mono ?_; rintro e w3 ⟨rfl, hb3⟩)
 go_ret
 exact ⟨Fk (by rw [HE.out, HI.out]), hbd.trans (hb3.mono hzd)⟩
def Gb (l : List Mk) : Int := if l = [] then -1 else ((l.findIdx fun x => l.all fun y => !Dq x y : Nat) : Int)
def Top (l : List Mk) (n k : Nat) : Prop := ∃ (hk : k < n) (hn : n ≤ l.length), (∀ j (hj : j < n), Dq l[k] l[j] = false) ∧ ∀ j (hj : j < k), Dq l[j] l[k] = true
theorem Xi (a : Mk) : Dq a a = false := by unfold Dq; rw [decide_eq_false_iff_not]; omega
theorem Wn {a b c : Mk} (h1 : Dq a b = true) (h2 : Dq a c = false) : Dq c b = true := by
 unfold Dq at *; rw [decide_eq_true_eq] at *; rw [decide_eq_false_iff_not] at h2; omega
theorem Top.one {l : List Mk} (h : 0 < l.length) : Top l 1 0 :=
 ⟨by omega, h, fun j hj => by have e : j = 0 := by omega
                              subst e; exact Xi _, fun j hj => by omega⟩
theorem Top.stay {l : List Mk} {n k : Nat} (h : Top l n k) (hn : n < l.length) (hl : Dq (l[k]'(by obtain ⟨a, _, _⟩ := h; omega)) l[n] = false) : Top l (n + 1) k := by
 obtain ⟨hk, hn', h1, h2⟩ := h
 refine ⟨by omega, by omega, fun j hj => ?_, h2⟩
 by_cases hjn : j = n
 ·subst hjn; exact hl
 ·exact h1 j (by omega)
theorem Top.turn {l : List Mk} {n k : Nat} (h : Top l n k) (hn : n < l.length) (hl : Dq (l[k]'(by obtain ⟨a, _, _⟩ := h; omega)) l[n] = true) : Top l (n + 1) n := by
 obtain ⟨hk, hn', h1, h2⟩ := h
 refine ⟨by omega, by omega, fun j hj => ?_, fun j hj => Wn hl (h1 j hj)⟩
 by_cases hjn : j = n
 ·subst hjn; exact Xi _
 ·exact by
   have a := Wn hl (h1 j (by omega))
   unfold Dq at *; rw [decide_eq_true_eq] at a; rw [decide_eq_false_iff_not]; omega
theorem Top.best {l : List Mk} {k : Nat} (h : Top l l.length k) : Gb l = k := by
 obtain ⟨hk, _, h1, h2⟩ := h
 unfold Gb
 rw [if_neg (by intro e; subst e; simp at hk)]
 congr 1
 rw [List.findIdx_eq hk]
 refine ⟨?_, fun j hj => ?_⟩
 ·rw [List.all_eq_true]
  intro y hy
  obtain ⟨j, hj, rfl⟩ := List.getElem_of_mem hy
  rw [h1 j hj]; rfl
 ·rw [List.all_eq_false]
  exact ⟨l[k], List.getElem_mem _, by rw [h2 j hj]; simp⟩
set_option maxHeartbeats 400000 in
theorem Z8x (l : List Mk) (A : Option Addr) (c : Nat) (w : World) (hm : l.length ≤ maxLen) (hl : Rd w w.heap.size 2 mkC A l) :
  Calls Tryz.prog 122 #[.slice A l.length c] w
   fun e w' => e = .returned (.int .i64 (Gb l)) ∧ Below w.heap.size w w' := by
 unfold maxLen at hm
 generalize hn : l.length = n at *
 have HN := Lib.hid hn
 clear hn
 go_enter Tryz.func122, Tryz.ntmps122
 go_wp2
 go_loopw [4, 11] (fun b i wr => ∃ (k : Nat), k ≤ n ∧ i = .int .i64 k ∧ (k = 0 ∧ b = .int .i64 (-1) ∨ ∃ p : Nat, Top l k p ∧ b = .int .i64 p) ∧ Below w.heap.size w wr) (fun _ i _ => n - (intOf i).toNat)
 case atStart => exact ⟨0, Nat.zero_le _, rfl, .inl ⟨rfl, rfl⟩, Below.refl _ _⟩
 case round =>
  obtain ⟨k, hk, rfl, hb, hbw⟩ := hrel
  by_cases hlt : k < n
  ·have hkl : k < l.length := by rw [HN.out]; exact hlt
   rcases hb with ⟨hk0, rfl⟩ | ⟨p, hp, rfl⟩
   ·have hk0' : k ≤ 0 := by omega
    clear hk0
    go_wp2
    go_roundw
    case rel => exact ⟨k + 1, by omega, by go_num, .inr ⟨0, by rw [show k = 0 by omega]; exact Top.one (by omega), by congr 1; omega⟩, hbw⟩
    case measure => simp [intOf]; omega
   ·have hp' := hp
    obtain ⟨hpk, _, _, _⟩ := hp'
    have hpl : p < l.length := by omega
    have hp0 : ¬ ((p : Int) < 0) := by omega
    have hc := Z30 l A c k p wr hkl hpl ((hl.below hbw).more hbw.size)
    rw [HN.out] at hc
    have HC := Lib.hid hc
    clear hc
    have HS : Hid (Dq l[p] l[k] = false → Top l (k + 1) p) := Lib.hid (hp.stay hkl)
    have HT : Hid (Dq l[p] l[k] = true → Top l (k + 1) k) := Lib.hid (hp.turn hkl)
    clear hp
    generalize Dq l[p] l[k] = bb at HC HS HT
    cases bb
    ·go_wp2_with (go_at_call 139; refine HC.out.mono ?_; rintro e w3 ⟨rfl, hb3⟩)
     go_roundw
     case rel => exact ⟨k + 1, by omega, by go_num, .inr ⟨p, HS.out (by trivial), rfl⟩, hbw.trans (hb3.mono hbw.size)⟩
     case measure => simp [intOf]; omega
    ·go_wp2_with (go_at_call 139; refine HC.out.mono ?_; rintro e w3 ⟨rfl, hb3⟩)
     go_roundw
     case rel => exact ⟨k + 1, by omega, by go_num, .inr ⟨k, HT.out (by trivial), rfl⟩, hbw.trans (hb3.mono hbw.size)⟩
     case measure => simp [intOf]; omega
  ·obtain rfl : k = n := by omega
   go_wp2
   go_ret
   refine ⟨?_, hbw⟩
   rcases hb with ⟨rfl, rfl⟩ | ⟨p, hp, rfl⟩
   ·have := List.eq_nil_of_length_eq_zero HN.out
    subst this
    rfl
   ·exact Bf (by have := HN.out; subst this; exact hp.best.symm)
structure REnt where
 v : Int
 n : Int
 b : ByteArray
def Zed (e : REnt) : List Value := [.int .i64 e.v, .int .i64 e.n, .string e.b]
def okB (view : Int) (i : Nat) (e : REnt) : Bool := decide (e.n = (i : Int) + 1 ∧ view ≤ e.v ∧ e.v ≤ 4611686018427387904 ∧ e.b.size ≤ 200)
def Ap : Int → Nat → List REnt → Bool
 | _, _, [] => true
 | view, i, e :: r => okB view i e && Ap e.v (i + 1) r
def Bo (l : List REnt) : Bool := Ap 1 0 l && decide (l.length ≤ 150)
theorem Yq {l : List REnt} {view : Int} {k : Nat} {d r : Bool} (hk : k < l.length) (h : (Ap view k (l.drop k) && d) = r) :
  (okB view k l[k] && (Ap l[k].v (k + 1) (l.drop (k + 1)) && d)) = r := by
 rw [List.drop_eq_getElem_cons hk, Ap] at h
 rw [← h, Bool.and_assoc]
set_option maxHeartbeats 400000 in
theorem Z2s (l : List REnt) (A : Option Addr) (c : Nat) (w : World) (hm : l.length ≤ maxLen) (hl : Rd w w.heap.size 3 Zed A l) :
  Calls Tryz.prog 59 #[.slice A l.length c] w
   fun e w' => e = .returned (.bool (Bo l)) ∧ Below w.heap.size w w' := by
 unfold maxLen at hm
 generalize hn : l.length = n at *
 have HN := Lib.hid hn
 clear hn
 go_enter Tryz.func59, Tryz.ntmps59
 go_wp2
 go_loopw [3, 8] (fun vw i wr => ∃ (k : Nat) (view : Int), k ≤ n ∧ i = .int .i64 k ∧ vw = .int .i64 view ∧ (Ap view k (l.drop k) && decide (l.length ≤ 150)) = Bo l ∧ Below w.heap.size w wr) (fun _ i _ => n - (intOf i).toNat)
 case atStart => exact ⟨0, 1, Nat.zero_le _, rfl, rfl, by simp [Bo], Below.refl _ _⟩
 case round =>
  obtain ⟨k, view, hk, rfl, rfl, hr, hb⟩ := hrel
  have HR := Lib.hid hr
  clear hr
  by_cases hlt : k < n
  ·have hl' := hl.below hb
   have hkl : k < l.length := by rw [HN.out]; exact hlt
   obtain ⟨a, hA, hab⟩ := hl'.addr hkl
   subst hA
   have c0 : wr.cell? (a.add (k * 3)) = _ := hl'.cell hkl (j := 0) rfl
   have c1 : wr.cell? ⟨(a.add (k * 3)).block, (a.add (k * 3)).off + 1, none⟩ = _ := hl'.cell hkl (j := 1) rfl
   have c2 : wr.cell? ⟨(a.add (k * 3)).block, (a.add (k * 3)).off + 2, none⟩ = _ := hl'.cell hkl (j := 2) rfl
   generalize he : l[k] = e at c0 c1 c2
   have HS := Lib.hid (Yq hkl HR.out)
   rw [he] at HS
   clear HR
   go_wp2
   all_goals
    first
     | (go_ret
        refine ⟨Fk ?_, (hb.alloc hb.size _)⟩
        rw [← HS.out, show okB view k e = false by unfold okB; rw [decide_eq_false_iff_not]; omega]; rfl)
     | (go_roundw
        case rel => exact ⟨k + 1, e.v, by omega, by go_num, rfl, by rw [← HS.out, show okB view k e = true by unfold okB; rw [decide_eq_true_eq]; omega]; rfl, (hb.alloc hb.size _)⟩
        case measure => simp [intOf]; omega)
  ·have hke : k = n := by omega
   subst hke
   go_wp2
   go_ret
   refine ⟨Fk ?_, hb⟩
   have hn := HN.out
   rw [← HR.out, List.drop_of_length_le (by omega)]
   simp [Ap, hn]; omega
def Bw (m : Int) : Bool := decide (1 ≤ m ∧ m ≤ 7)
def Ag (m : Int) : Int := if Bw m = true then m / 2 + 1 else 0
def A8 (v m : Int) : Int := if Bw m = true ∧ 0 ≤ v ∧ v ≤ 4611686018427387904 then v % m else -1
def Jq (v s m : Int) : Int := if (s - v % m + m) % m = 0 then m else (s - v % m + m) % m
def Kt (v s m : Int) : Bool := decide (Bw m = true ∧ 0 ≤ v ∧ 0 ≤ s ∧ s < m ∧ v + Jq v s m ≤ 4611686018427387904)
def Le (v s m : Int) : Int := if Kt v s m = true then v + Jq v s m else 0
set_option maxHeartbeats 400000 in
theorem Fd (m : Int) (w : World) :
  Calls Tryz.prog 90 #[.int .i64 m] w fun e w' => e = .returned (.bool (Bw m)) ∧ w = w' := by
 by_cases h1 : 1 ≤ m
 ·go_enter Tryz.func90, Tryz.ntmps90
  go_wp2
  go_ret
  exact ⟨by simp [Bw, h1], rfl⟩
 ·go_enter Tryz.func90, Tryz.ntmps90
  go_wp2
  go_ret
  exact ⟨by simp [Bw]; omega, rfl⟩
theorem Ed {m : Int} (h : Bw m = true) : 1 ≤ m ∧ m ≤ 7 := by simpa [Bw] using h
set_option maxHeartbeats 400000 in
theorem Ol (m : Int) (w : World) :
  Calls Tryz.prog 54 #[.int .i64 m] w fun e w' => e = .returned (.int .i64 (Ag m)) ∧ w = w' := by
 by_cases hg : Bw m = true
 ·obtain ⟨h1, h2⟩ := Ed hg
  go_enter Tryz.func54, Tryz.ntmps54
  go_wp2_with (go_at_call 90; refine (Fd _ _).mono ?_; rintro e w' ⟨rfl, rfl⟩)
  go_ret
  exact ⟨Bf (by simp [Ag, hg]), rfl⟩
 ·go_enter Tryz.func54, Tryz.ntmps54
  go_wp2_with (go_at_call 90; refine (Fd _ _).mono ?_; rintro e w' ⟨rfl, rfl⟩)
  go_ret
  exact ⟨Bf (by simp [Ag, hg]), rfl⟩
set_option maxHeartbeats 400000 in
theorem Jm (m : Int) (w : World) :
  Calls Tryz.prog 18 #[.int .i64 m] w fun e w' => e = .returned (.int .i64 (Ag m)) ∧ w = w' := by
 by_cases hg : Bw m = true
 ·obtain ⟨h1, h2⟩ := Ed hg
  go_enter Tryz.func18, Tryz.ntmps18
  go_wp2
  go_loop [3] (fun n => ∃ k : Int, 1 ≤ k ∧ k ≤ m / 2 + 1 ∧ n = .int .i64 k) (fun n => (m - intOf n).toNat)
  case atStart => exact ⟨1, by omega, by omega, rfl⟩
  case round =>
   obtain ⟨k, hk1, hk2, rfl⟩ := hrel
   by_cases hlt : 2 * k ≤ m
   ·go_wp2
    go_round
    case rel => exact ⟨k + 1, by omega, by omega, by go_num⟩
    case measure => simp [intOf]; omega
   ·go_wp2
    go_ret
    exact ⟨Bf (by simp [Ag, hg]; omega), rfl⟩
 ·have hg' : m < 1 ∨ 7 < m := by simp [Bw] at hg; omega
  by_cases h1 : m < 1
  ·go_enter Tryz.func18, Tryz.ntmps18
   go_wp2
   go_ret
   exact ⟨Bf (by simp [Ag, hg]), rfl⟩
  ·have h2 : 7 < m := by omega
   go_enter Tryz.func18, Tryz.ntmps18
   go_wp2
   go_ret
   exact ⟨Bf (by simp [Ag, hg]), rfl⟩
theorem E9 {v m : Int} (h : Bw m = false ∨ v < 0 ∨ 4611686018427387904 < v) : (-1 : Int) = A8 v m := by
 unfold A8
 rw [if_neg]
 rintro ⟨h1, h2, h3⟩
 rcases h with h | h | h
 ·rw [h] at h1; cases h1
 ·omega
 ·omega
set_option maxHeartbeats 400000 in
theorem T4 (v m : Int) (w : World) :
  Calls Tryz.prog 72 #[.int .i64 v, .int .i64 m] w fun e w' => e = .returned (.int .i64 (A8 v m)) ∧ w = w' := by
 by_cases hg : Bw m = true
 ·have hm := Ed hg
  obtain ⟨hm1, hm2⟩ := hm
  by_cases h1 : v < 0
  ·go_enter Tryz.func72, Tryz.ntmps72
   go_wp2_with (go_at_call 90; refine (Fd _ _).mono ?_; rintro e w' ⟨rfl, rfl⟩)
   go_ret
   exact ⟨Bf (E9 (by omega)), rfl⟩
  ·by_cases h2 : 4611686018427387904 < v
   ·go_enter Tryz.func72, Tryz.ntmps72
    go_wp2_with (go_at_call 90; refine (Fd _ _).mono ?_; rintro e w' ⟨rfl, rfl⟩)
    go_ret
    exact ⟨Bf (E9 (by omega)), rfl⟩
   ·go_enter Tryz.func72, Tryz.ntmps72
    go_wp2_with (go_at_call 90; refine (Fd _ _).mono ?_; rintro e w' ⟨rfl, rfl⟩)
    go_ret
    exact ⟨Bf (by unfold A8; rw [if_pos ⟨hg, by omega, by omega⟩]), rfl⟩
 ·have hg0 : Bw m = false := by simpa using hg
  go_enter Tryz.func72, Tryz.ntmps72
  go_wp2_with (go_at_call 90; refine (Fd _ _).mono ?_; rintro e w' ⟨rfl, rfl⟩)
  go_ret
  exact ⟨Bf (E9 (.inl hg0)), rfl⟩
set_option maxHeartbeats 400000 in
theorem C7 (v m : Int) (w : World) :
  Calls Tryz.prog 108 #[.int .i64 v, .int .i64 m] w fun e w' => e = .returned (.int .i64 (A8 v m)) ∧ w = w' := by
 by_cases h0 : m < 1
 ·go_enter Tryz.func108, Tryz.ntmps108
  go_wp2
  go_ret
  exact ⟨Bf (E9 (by simp [Bw]; omega)), rfl⟩
 ·skip
  by_cases h1 : 7 < m
  ·go_enter Tryz.func108, Tryz.ntmps108
   go_wp2
   go_ret
   exact ⟨Bf (E9 (by simp [Bw]; omega)), rfl⟩
  ·skip
   by_cases h2 : v < 0
   ·go_enter Tryz.func108, Tryz.ntmps108
    go_wp2
    go_ret
    exact ⟨Bf (E9 (by simp [Bw]; omega)), rfl⟩
   ·skip
    by_cases h3 : 4611686018427387904 < v
    ·go_enter Tryz.func108, Tryz.ntmps108
     go_wp2
     go_ret
     exact ⟨Bf (E9 (by simp [Bw]; omega)), rfl⟩
    ·skip
     go_enter Tryz.func108, Tryz.ntmps108
     go_wp2
     go_ret
     exact ⟨Bf (by unfold A8; rw [if_pos ⟨by simp [Bw]; omega, by omega, by omega⟩]), rfl⟩
theorem Zcs {m : Int} (h : Bw m = true) : m = 1 ∨ m = 2 ∨ m = 3 ∨ m = 4 ∨ m = 5 ∨ m = 6 ∨ m = 7 := by
 have := Ed h
 omega
theorem Z3t {v s m : Int} (hg : Bw m = true) : 1 ≤ Jq v s m ∧ Jq v s m ≤ m := by
 rcases Zcs hg with rfl | rfl | rfl | rfl | rfl | rfl | rfl <;> (unfold Jq; split <;> omega)
theorem Z83 {v s m : Int} (hg : Bw m = true) (hs : 0 ≤ s) (hsm : s < m) : (v + Jq v s m) % m = s := by
 rcases Zcs hg with rfl | rfl | rfl | rfl | rfl | rfl | rfl <;> (unfold Jq; split <;> omega)
theorem Z2b {v s m k : Int} (hg : Bw m = true) (h1 : 1 ≤ k) (hk : k < Jq v s m) : (v + k) % m ≠ s := by
 rcases Zcs hg with rfl | rfl | rfl | rfl | rfl | rfl | rfl <;> (unfold Jq at hk; split at hk <;> omega)
theorem J5 {v m : Int} (hg : Bw m = true) (h0 : 0 ≤ v) (h1 : v ≤ 4611686018427387904) : A8 v m = v % m := by
 unfold A8; rw [if_pos ⟨hg, h0, h1⟩]
theorem Pp {v s m : Int} (h : ¬ (Bw m = true ∧ 0 ≤ v ∧ 0 ≤ s ∧ s < m ∧ v + Jq v s m ≤ 4611686018427387904)) : Kt v s m = false ∧ Le v s m = 0 := by
 have : Kt v s m = false := by unfold Kt; simpa using h
 exact ⟨this, by unfold Le; rw [this]; rfl⟩
theorem Vu {v s m : Int} (h : Bw m = true ∧ 0 ≤ v ∧ 0 ≤ s ∧ s < m ∧ v + Jq v s m ≤ 4611686018427387904) : Kt v s m = true ∧ Le v s m = v + Jq v s m := by
 have : Kt v s m = true := by unfold Kt; simpa using h
 exact ⟨this, by unfold Le; rw [if_pos this]⟩
theorem Wo {v s m : Int} (h : Kt v s m = false ∧ Le v s m = 0) : Ending.returned (.tuple #[.int .i64 0, .bool false]) = .returned (.tuple #[.int .i64 (Le v s m), .bool (Kt v s m)]) := by
 rw [h.1, h.2]
theorem Ze6 {v s m r : Int} (h : Kt v s m = true ∧ Le v s m = r) : Ending.returned (.tuple #[.int .i64 r, .bool true]) = .returned (.tuple #[.int .i64 (Le v s m), .bool (Kt v s m)]) := by
 rw [h.1, h.2]
theorem Z7 {v m : Int} (h : ¬ A8 v m < 0) : Bw m = true ∧ 0 ≤ v ∧ v ≤ 4611686018427387904 := by
 unfold A8 at h
 split at h
 ·assumption
 ·omega
theorem Ym (v m : Int) : -1 ≤ A8 v m ∧ A8 v m < 7 := by
 unfold A8
 split
 ·rename_i h
  have hm := Ed h.1
  have := Int.emod_nonneg v (show m ≠ 0 by omega)
  have := Int.emod_lt_of_pos v (show 0 < m by omega)
  omega
 ·omega
set_option maxHeartbeats 400000 in
theorem Uz (v s m : Int) (w : World) :
  Calls Tryz.prog 101 #[.int .i64 v, .int .i64 s, .int .i64 m] w fun e w' => e = .returned (.tuple #[.int .i64 (Le v s m), .bool (Kt v s m)]) ∧ w = w' := by
 have hb := Ym v m
 obtain ⟨hb1, hb2⟩ := hb
 by_cases hp : A8 v m < 0
 ·go_enter Tryz.func101, Tryz.ntmps101
  go_wp2_with (go_at_call 108; refine (C7 _ _ _).mono ?_; rintro e w1 ⟨rfl, rfl⟩)
  go_ret2
  exact ⟨Wo (Pp (fun h => by have := Ed h.1; have := Z3t (v := v) (s := s) h.1; rw [J5 h.1 (by omega) (by omega)] at hp; have := Int.emod_nonneg v (show m ≠ 0 by omega); omega)), rfl⟩
 ·have hpl := Z7 hp
  obtain ⟨hg, hv0, hv1⟩ := hpl
  have hm := Ed hg
  obtain ⟨hm1, hm2⟩ := hm
  by_cases hs : s < 0
  ·go_enter Tryz.func101, Tryz.ntmps101
   go_wp2_with (go_at_call 108; refine (C7 _ _ _).mono ?_; rintro e w1 ⟨rfl, rfl⟩)
   go_ret2
   exact ⟨Wo (Pp (by omega)), rfl⟩
  ·by_cases hs2 : m ≤ s
   ·go_enter Tryz.func101, Tryz.ntmps101
    go_wp2_with (go_at_call 108; refine (C7 _ _ _).mono ?_; rintro e w1 ⟨rfl, rfl⟩)
    go_ret2
    exact ⟨Wo (Pp (by omega)), rfl⟩
   ·have hmb := Z3t (v := v) (s := s) hg
    obtain ⟨hmb1, hmb2⟩ := hmb
    go_enter Tryz.func101, Tryz.ntmps101
    go_wp2_with (go_at_call 108; refine (C7 _ _ _).mono ?_; rintro e w1 ⟨rfl, rfl⟩)
    go_loop [8] (fun n => ∃ k : Int, 1 ≤ k ∧ k ≤ Jq v s m ∧ v + k ≤ 4611686018427387905 ∧ n = .int .i64 (v + k)) (fun n => (v + 7 - intOf n).toNat)
    case atStart => exact ⟨1, by omega, by omega, by omega, rfl⟩
    case round =>
     obtain ⟨k, hk1, hk2, hk3, rfl⟩ := hrel
     by_cases hlt : v + k ≤ 4611686018427387904
     ·have hv' : 0 ≤ v + k := by omega
      by_cases hke : k = Jq v s m
      ·have HP : A8 (v + k) m = s := by rw [J5 hg hv' hlt, hke]; exact Z83 hg (by omega) (by omega)
       have HE := Lib.hid HP
       have HK := Lib.hid hke
       have hpe : ((A8 (v + k) m == s)) = true := by rw [HP]; simp
       clear HP hke
       go_wp2_with (go_at_call 108; refine (C7 _ _ _).mono ?_; rintro e w1 ⟨rfl, rfl⟩)
       go_ret2
       exact ⟨Ze6 ⟨(Vu ⟨hg, hv0, by omega, by omega, by rw [← HK.out]; omega⟩).1, (Vu ⟨hg, hv0, by omega, by omega, by rw [← HK.out]; omega⟩).2.trans (by rw [HK.out])⟩, rfl⟩
      ·have hpe : ((A8 (v + k) m == s)) = false := by rw [J5 hg hv' hlt]; exact beq_eq_false_iff_ne.2 (Z2b hg hk1 (by omega))
       go_wp2_with (go_at_call 108; refine (C7 _ _ _).mono ?_; rintro e w1 ⟨rfl, rfl⟩)
       go_round
       case rel => exact ⟨k + 1, by omega, by omega, by omega, by go_num⟩
       case measure => simp [intOf]; omega
     ·go_wp2
      go_ret2
      exact ⟨Wo (Pp (by omega)), rfl⟩
open Go.RowKit Go.Sort
def Zgn (x : Int) : List Value := [.int .i64 x]
def Lc (l : List Int) (v : Int) : Nat := l.countP fun x => decide (v ≤ x)
def D0 (l : List Int) (k : Nat) : Int := (l.take k).foldl (fun out x => if out < x ∧ Ag l.length ≤ Lc l x then x else out) 0
def Bi (l : List Int) : Int := if l.length ≤ 7 then D0 l l.length else 0
theorem Z84 {l : List Int} (v : Int) {k : Nat} (hk : k < l.length) : Lc (l.take (k + 1)) v = Lc (l.take k) v + if v ≤ l[k] then 1 else 0 := by
 unfold Lc
 rw [List.take_succ_eq_append_getElem hk, List.countP_append]
 simp [List.countP_cons]
theorem J6 {l : List Int} {k : Nat} (hk : k < l.length) : D0 l (k + 1) = if D0 l k < l[k] ∧ Ag l.length ≤ Lc l l[k] then l[k] else D0 l k := by
 unfold D0
 rw [List.take_succ_eq_append_getElem hk, List.foldl_append]
 rfl
set_option maxHeartbeats 400000 in
theorem Tp (l : List Int) (A : Option Addr) (c : Nat) (v : Int) (w : World) (hm : l.length ≤ maxLen) (hl : Rd w w.heap.size 1 Zgn A l) :
  Calls Tryz.prog 148 #[.slice A l.length c, .int .i64 v] w
   fun e w' => e = .returned (.int .i64 (Lc l v : Nat)) ∧ w = w' := by
 unfold maxLen at hm
 generalize hn : l.length = n at *
 have HN := Lib.hid hn
 clear hn
 go_enter Tryz.func148, Tryz.ntmps148
 go_wp2
 go_loop [5, 6] (fun b i => ∃ (k : Nat), k ≤ n ∧ i = .int .i64 k ∧ b = .int .i64 (Lc (l.take k) v : Nat)) (fun _ i => n - (intOf i).toNat)
 case atStart => exact ⟨0, Nat.zero_le _, rfl, rfl⟩
 case round =>
  obtain ⟨k, hk, rfl, rfl⟩ := hrel
  have hcb : Lc (l.take k) v ≤ k := Nat.le_trans (List.countP_le_length) (List.length_take_le _ _)
  by_cases hlt : k < n
  ·have hkl : k < l.length := by rw [HN.out]; exact hlt
   obtain ⟨a, hA, hab⟩ := hl.addr hkl
   subst hA
   have c0 : w.cell? (a.add (k * 1)) = _ := hl.cell hkl (j := 0) rfl
   rw [Nat.mul_one] at c0
   have HS := Lib.hid (Z84 v hkl)
   generalize l[k] = x at *
   generalize Lc (l.take k) v = y at *
   by_cases hv : v ≤ x
   ·go_wp2
    go_round
    case rel => exact ⟨k + 1, by omega, by go_num, by rw [HS.out, if_pos hv]; go_num⟩
    case measure => simp [intOf]; omega
   ·go_wp2
    go_round
    case rel => exact ⟨k + 1, by omega, by go_num, by rw [HS.out, if_neg hv]; rfl⟩
    case measure => simp [intOf]; omega
  ·obtain rfl : k = n := by omega
   go_wp2
   go_ret
   exact ⟨Bf (by rw [List.take_of_length_le (by have := HN.out; omega)]), rfl⟩
theorem M5 (m : Int) : 0 ≤ Ag m ∧ Ag m ≤ 4 := by
 unfold Ag
 split
 ·rename_i h; have := Ed h; omega
 ·omega
set_option maxHeartbeats 400000 in
theorem Up (l : List Int) (A : Option Addr) (c : Nat) (w : World) (hm : l.length ≤ maxLen) (hl : Rd w w.heap.size 1 Zgn A l) :
  Calls Tryz.prog 138 #[.slice A l.length c] w
   fun e w' => e = .returned (.int .i64 (Bi l)) ∧ w = w' := by
 have HM := Lib.hid hm
 unfold maxLen at hm
 by_cases h7 : l.length ≤ 7
 ·have HH := Lib.hid (show Bi l = D0 l l.length by unfold Bi; rw [if_pos h7])
  generalize hn : l.length = n at *
  have HN := Lib.hid hn
  clear hn
  go_enter Tryz.func138, Tryz.ntmps138
  go_wp2
  go_loop [3, 4] (fun b i => ∃ (k : Nat), k ≤ n ∧ i = .int .i64 k ∧ b = .int .i64 (D0 l k)) (fun _ i => n - (intOf i).toNat)
  case atStart => exact ⟨0, Nat.zero_le _, rfl, rfl⟩
  case round =>
   obtain ⟨k, hk, rfl, rfl⟩ := hrel
   by_cases hlt : k < n
   ·have hkl : k < l.length := by rw [HN.out]; exact hlt
    obtain ⟨a, hA, hab⟩ := hl.addr hkl
    subst hA
    have c0 : w.cell? (a.add (k * 1)) = _ := hl.cell hkl (j := 0) rfl
    rw [Nat.mul_one] at c0
    have HS := Lib.hid (J6 hkl)
    have hat := Tp l (some a) c l[k] w (by rw [HN.out]; exact HM.out) hl
    rw [HN.out] at hat HS
    have HA := Lib.hid hat
    clear hat hl
    generalize l[k] = x at *
    generalize D0 l k = y at *
    generalize Lc l x = z at *
    have hqb := M5 n
    obtain ⟨hq1, hq2⟩ := hqb
    have HQ := Lib.hid (Jm n w)
    generalize Ag n = q at *
    by_cases hv : y < x
    ·by_cases hz : q ≤ z
     ·go_wp2_with (first | (go_at_call 148; refine HA.out.mono ?_; rintro e w' ⟨rfl, rfl⟩) | (go_at_call 18; refine HQ.out.mono ?_; rintro e w' ⟨rfl, rfl⟩))
      go_round
      case rel => exact ⟨k + 1, by omega, by go_num, by rw [HS.out, if_pos ⟨hv, hz⟩]⟩
      case measure => simp [intOf]; omega
     ·go_wp2_with (first | (go_at_call 148; refine HA.out.mono ?_; rintro e w' ⟨rfl, rfl⟩) | (go_at_call 18; refine HQ.out.mono ?_; rintro e w' ⟨rfl, rfl⟩))
      go_round
      case rel => exact ⟨k + 1, by omega, by go_num, by rw [HS.out, if_neg (by omega)]⟩
      case measure => simp [intOf]; omega
    ·go_wp2
     go_round
     case rel => exact ⟨k + 1, by omega, by go_num, by rw [HS.out, if_neg (by omega)]⟩
     case measure => simp [intOf]; omega
   ·obtain rfl : k = n := by omega
    go_wp2
    go_ret
    exact ⟨Bf (by rw [HH.out]), rfl⟩
 ·go_enter Tryz.func138, Tryz.ntmps138
  go_wp2
  refine wp_loop_rounds 1 ?_
  rw [rounds_succ]
  go_wp2
  go_ret
  exact ⟨Bf (by unfold Bi; rw [if_neg h7]), rfl⟩
def E4 (l : List Int) : List Int := l.mergeSort fun x y => decide (x ≤ y)
theorem Hs (l : List Int) : (E4 l).Perm l := List.mergeSort_perm _ _
theorem E1 (l : List Int) : (E4 l).length = l.length := (Hs l).length_eq
theorem Xd (l : List Int) {i j : Nat} (hij : i < j) (hj : j < (E4 l).length) : (E4 l)[i]'(by omega) ≤ (E4 l)[j] := by
 have h := List.pairwise_mergeSort (le := fun x y : Int => decide (x ≤ y)) (by intro a b c h1 h2; simp at *; omega) (by intro a b; simp; omega) l
 have h2 := (List.pairwise_iff_getElem.1 h) i j (by have := hj; unfold E4 at this; omega) (by have := hj; unfold E4 at this; omega) hij
 exact of_decide_eq_true h2
theorem Vd {l m : List Int} (h : l.Perm m) (v : Int) : Lc l v = Lc m v := h.countP_eq _
theorem R9 (s : List Int) (v : Int) (k : Nat) : Lc s v = Lc (s.take k) v + Lc (s.drop k) v := by
 unfold Lc
 rw [← List.countP_append, List.take_append_drop]
theorem Z96 (l : List Int) {k : Nat} (hk : k < (E4 l).length) : l.length - k ≤ Lc l (E4 l)[k] := by
 rw [← Vd (Hs l), R9 _ _ k]
 have h : Lc ((E4 l).drop k) (E4 l)[k] = ((E4 l).drop k).length := by
  unfold Lc
  rw [List.countP_eq_length]
  intro x hx
  obtain ⟨j, hj, rfl⟩ := List.getElem_of_mem hx
  rw [List.getElem_drop, decide_eq_true_eq]
  rcases Nat.eq_zero_or_pos j with h0 | h0
  ·subst h0; exact Int.le_refl _
  ·exact Xd l (by omega) (by rw [List.length_drop] at hj; omega)
 rw [h, List.length_drop, E1]
 omega
theorem Z1o (l : List Int) {k : Nat} (hk : k < (E4 l).length) {v : Int} (hv : (E4 l)[k] < v) : Lc l v ≤ l.length - k - 1 := by
 rw [← Vd (Hs l), R9 _ _ (k + 1)]
 have h : Lc ((E4 l).take (k + 1)) v = 0 := by
  unfold Lc
  rw [List.countP_eq_zero]
  intro x hx
  obtain ⟨j, hj, rfl⟩ := List.getElem_of_mem hx
  rw [List.getElem_take, decide_eq_true_eq]
  rw [List.length_take] at hj
  rcases Nat.lt_or_ge j k with h0 | h0
  ·have := Xd l h0 hk; omega
  ·have e : j = k := by omega
   subst e; omega
 have h2 : Lc ((E4 l).drop (k + 1)) v ≤ ((E4 l).drop (k + 1)).length := List.countP_le_length
 rw [h, List.length_drop, E1] at *
 omega
theorem Oi (l : List Int) : ∀ k, k ≤ l.length → 0 ≤ D0 l k ∧ (∀ j (hj : j < l.length), j < k → Ag l.length ≤ Lc l l[j] → l[j] ≤ D0 l k) ∧
  (D0 l k = 0 ∨ ∃ j, ∃ hj : j < l.length, D0 l k = l[j] ∧ Ag l.length ≤ Lc l l[j])
 | 0, _ => ⟨by simp [D0], fun j _ h => by omega, .inl (by simp [D0])⟩
 | k + 1, hk => by
  obtain ⟨h0, h1, h2⟩ := Oi l k (by omega)
  rw [J6 (show k < l.length by omega)]
  split
  ·rename_i h
   refine ⟨by omega, fun j hj hjk hq => ?_, .inr ⟨k, by omega, rfl, h.2⟩⟩
   rcases Nat.lt_or_ge j k with hlt | hge
   ·have := h1 j hj hlt hq; omega
   ·have e : j = k := by omega
    subst e; exact Int.le_refl _
  ·rename_i h
   refine ⟨h0, fun j hj hjk hq => ?_, h2⟩
   rcases Nat.lt_or_ge j k with hlt | hge
   ·exact h1 j hj hlt hq
   ·have e : j = k := by omega
    subst e; omega
theorem Ta (l : List Int) (h7 : l.length ≤ 7) {k : Nat} (hk : k < (E4 l).length) (hq : (k : Int) = l.length - Ag l.length) :
  (if (E4 l)[k] < 0 then 0 else (E4 l)[k]) = Bi l := by
 unfold Bi
 rw [if_pos h7]
 obtain ⟨h0, ha, hb⟩ := Oi l l.length (Nat.le_refl _)
 have hf := Z96 l hk
 rw [E1] at hk
 have hx : (E4 l)[k]'(by rw [E1]; exact hk) ≤ D0 l l.length := by
  have hm : (E4 l)[k]'(by rw [E1]; exact hk) ∈ l := (Hs l).mem_iff.1 (List.getElem_mem _)
  obtain ⟨j, hj, e⟩ := List.getElem_of_mem hm
  have := ha j hj hj (by rw [e]; omega)
  rw [e] at this
  exact this
 have hy : D0 l l.length ≤ 0 ∨ D0 l l.length ≤ (E4 l)[k]'(by rw [E1]; exact hk) := by
  rcases hb with hb | ⟨j, hj, e, hqj⟩
  ·left; omega
  ·right
   rw [e]
   apply Int.not_lt.1
   intro hlt
   have := Z1o l (k := k) (by rw [E1]; exact hk) hlt
   omega
 split <;> omega
theorem Z22 {l : List Int} (h : Bw l.length = false) : Bi l = 0 := by
 unfold Bi
 split
 ·rename_i h7
  have : l.length = 0 := by unfold Bw at h; rw [decide_eq_false_iff_not] at h; omega
  rw [List.eq_nil_of_length_eq_zero this]
  rfl
 ·rfl
theorem Z7r (g cap : Nat) (zs : List Int) (w : World) (hH : Holds (Value.int .i64) w g 0 zs.toArray) (hg : g < w.heap.size) (hsz : zs.length < 4611686018427387904) :
  Calls Tryz.prog 135 #[.slice (some ⟨g, 0, none⟩) zs.length cap] w fun e w' =>
   e = .returned (.tuple #[]) ∧ (∀ j v, (E4 zs)[j]? = some v → w'.cell? ⟨g, j, none⟩ = some (.int .i64 v)) ∧ w.grownBy w' (some g) := by
 refine (Tryz.slices_Sort_int g 0 cap zs w hH hg hsz).mono ?_
 rintro e w' ⟨rfl, n, os, rfl⟩
 refine ⟨rfl, fun j v hv => ?_, grownBy_sortedI _⟩
 have h0 : Holds (Value.int .i64) (Sort.ahead w n) g 0 zs.toArray := hH
 have hj : j < (E4 zs).length := (List.getElem?_eq_some_iff.1 hv).1
 have h := cell?_putRow (Value.int .i64) (Sort.ahead w n) g 0 zs.toArray (E4 zs).toArray h0 (by simp [E1]) j (by simpa using hj)
 rw [cell?_grow _ _ _ (by rw [size_putRow]; exact hg)]
 rw [Nat.zero_add] at h
 refine h.trans ?_
 rw [← (List.getElem?_eq_some_iff.1 hv).2]
 simp [hj]
def Z05 (l : List Int) : List Value := l.map (.int .i64)
def k0 (n : Nat) : Nat := n - (n / 2 + 1)
set_option maxHeartbeats 1000000 in
theorem Z91 (l : List Int) (A : Option Addr) (c : Nat) (w : World) (hm : l.length ≤ maxLen) (hl : Rd w w.heap.size 1 Zgn A l) :
  Calls Tryz.prog 100 #[.slice A l.length c] w
   fun e w' => e = .returned (.int .i64 (Bi l)) ∧ Below w.heap.size w w' := by
 have hg := Fd l.length (w.alloc (Obj.cells #[.int .i64 0, .int .i64 0, .int .i64 0, .int .i64 0, .int .i64 0, .int .i64 0, .int .i64 0] 115))
 unfold maxLen at hm
 generalize hn : l.length = n at *
 have HN := Lib.hid hn
 clear hn
 cases hb : Bw n
 ·rw [hb] at hg
  have HG := Lib.hid hg
  clear hg
  go_enter Tryz.func100, Tryz.ntmps100
  go_wp2_with (go_at_call 90; refine HG.out.mono ?_; rintro e w' ⟨rfl, rfl⟩)
  go_ret
  exact ⟨Bf (by rw [Z22 (by rw [HN.out]; exact hb)]), (Below.refl _ _).alloc (Nat.le_refl _) _⟩
 ·rw [hb] at hg
  have HG := Lib.hid hg
  clear hg
  have hgb := Ed hb
  obtain ⟨hg1, hg2⟩ := hgb
  go_enter Tryz.func100, Tryz.ntmps100
  have hn2 : n ≤ 7 := by omega
  have hsrc : 0 < n → ∃ ad, A = some ad ∧ ∀ j v, (Z05 l)[j]? = some v → (w.alloc (Obj.cells #[.int .i64 0, .int .i64 0, .int .i64 0, .int .i64 0, .int .i64 0, .int .i64 0, .int .i64 0] 115)).cell? (ad.add j) = some v := fun h0 => by
   obtain ⟨a, hA, hab⟩ := hl.addr (i := 0) (by rw [HN.out]; exact h0)
   subst hA
   refine ⟨a, rfl, fun j v hv => ?_⟩
   unfold Z05 at hv
   rw [List.getElem?_map] at hv
   cases hx : l[j]? with
   | none => rw [hx] at hv; cases hv
   | some x =>
    rw [hx] at hv
    simp only [Option.map_some, Option.some.injEq] at hv
    subst hv
    have hj : j < l.length := (List.getElem?_eq_some_iff.1 hx).1
    have h := hl.cell hj (j := 0) (v := .int .i64 x) (by rw [(List.getElem?_eq_some_iff.1 hx).2]; rfl)
    rw [Nat.mul_one, Yx, Nat.add_zero] at h
    rw [World.cell?_alloc_lt w _ _ (by rw [N5]; exact hab)]
    exact h
  have HS := Lib.hid hsrc
  clear hsrc
  have hlen : (Z05 l).length = n := by unfold Z05; rw [List.length_map]; exact HN.out
  have HL := Lib.hid hlen
  clear hlen
  have H2 := Lib.hid (show (Z05 l).length = Nat.min n 7 by rw [HL.out]; show n = min n 7; omega)
  have H4 := Lib.hid (show 0 + (Z05 l).length ≤ (List.replicate 7 (Value.int .i64 0)).length by rw [HL.out]; simp; omega)
  have H5 := Lib.hid (show ∀ v ∈ Z05 l, v.oneCell' = true by unfold Z05; intro v hv; obtain ⟨x, _, rfl⟩ := List.mem_map.1 hv; rfl)
  have H6 := Lib.hid (show Below w.heap.size w (w.alloc _) from (Below.refl _ _).alloc (Nat.le_refl _) (Obj.cells #[.int .i64 0, .int .i64 0, .int .i64 0, .int .i64 0, .int .i64 0, .int .i64 0, .int .i64 0] 115))
  go_wp2_with (first | (go_at_call 90; refine HG.out.mono ?_; rintro e w' ⟨rfl, rfl⟩) | (refine wpList_copy_splice rfl (.tmp 10) (.tmp 11) 75 75 rfl 3 Tryz.underlying75 (by kernel_rfl) (some ⟨w.heap.size, 0, none⟩) A 7 7 n c rfl rfl w.heap.size 0 (List.replicate 7 (.int .i64 0)) 115 (heap_alloc_new w _) (Z05 l) H2.out (fun h => ⟨rfl, HS.out (by rw [HL.out] at h; exact h)⟩) H4.out H5.out w.heap.size w H6.out (Nat.le_refl _) ?_))
  intro w1 hc1 hb1
  have hkq : (k0 n : Int) = n - Ag n := by have := M5 n; unfold k0; unfold Ag; rw [if_pos hb]; omega
  have hkn : k0 n < n := by unfold k0; omega
  have hq0 := M5 n
  obtain ⟨hq1, hq2⟩ := hq0
  have hgl : w.heap.size < w1.heap.size := by
   have h := hc1.out
   rcases Nat.lt_or_ge w.heap.size w1.heap.size with hlt | hge
   ·exact hlt
   ·rw [Array.getElem?_eq_none hge] at h; cases h
  have hH : Holds (Value.int .i64) w1 w.heap.size 0 l.toArray := fun j hj => by
   have hj' : j < l.length := by simpa using hj
   have h := hc1.out
   refine ⟨?_, by simp [World.frozen?, h]⟩
   have hj2 : j < (Z05 l).length := by unfold Z05; simpa using hj'
   have hgj : (l.toArray)[j]! = l[j] := by simp [hj']
   rw [hgj]
   simp only [World.cell?, h, splice, List.take_zero, List.nil_append, Nat.zero_add, Option.isSome_none, Bool.false_eq_true, if_false, List.getElem?_toArray]
   rw [List.getElem?_append_left hj2, List.getElem?_eq_getElem hj2]
   simp [Z05]
  have hsort := Z7r w.heap.size 7 l w1 hH hgl (by rw [HN.out]; omega)
  rw [HN.out] at hsort
  have HO := Lib.hid hsort
  clear hsort hH hc1 hl
  go_wp2_with (first | (go_at_call 135; refine HO.out.mono ?_; rintro e w2 ⟨rfl, hcell, hgr⟩))
  have hbw := hb1.grown hgr hb1.size (by simp)
  have hk1 : k0 n < (E4 l).length := by rw [E1, HN.out]; exact hkn
  have hck := hcell (k0 n) _ (List.getElem?_eq_getElem hk1)
  have HF := Lib.hid (Ta l (by rw [HN.out]; exact hn2) hk1 (by rw [HN.out]; exact hkq))
  have HQ := Lib.hid (Ol n w2)
  generalize (E4 l)[k0 n] = x at hck HF
  rw [show k0 n = ((n : Int) - Ag n).toNat by rw [← hkq]; simp] at hck
  have hq3 : Ag n ≤ n := by omega
  have hq4 : (n : Int) - Ag n < 7 := by omega
  clear hkq hcell hgr hb1 HO HS HL H2 H4 H5 H6
  generalize Ag n = q at hck hq1 hq2 hq3 hq4 HQ
  go_wp2_with (first | (go_at_call 54; refine HQ.out.mono ?_; rintro e w3 ⟨rfl, rfl⟩))
  go_ret
  exact ⟨Bf (by rw [← HF.out]; show max x 0 = _; split <;> omega), hbw⟩
def Qa (x y : REnt) : Bool := x.v == y.v && x.n == y.n && x.b == y.b
def Cd : List REnt → List REnt → Nat
 | x :: l, y :: m => if Qa x y = true then Cd l m + 1 else 0
 | _, _ => 0
theorem Zfq (x y : REnt) (w : World) : (binOp .eql 71 (.agg #[.int .i64 x.v, .int .i64 x.n, .string x.b]) (.agg #[.int .i64 y.v, .int .i64 y.n, .string y.b])).run Tryz.prog w = .ok (.bool (Qa x y)) w := by
 rw [Nm w (L := [("View", 3, 0), ("Number", 3, 1), ("Body", 9, 2)]) (by kernel_rfl) (by kernel_rfl) (by kernel_rfl)]
 have hi : Tryz.prog.underlying 3 = some (.int .i64) := Tryz.underlying3
 have hs : Tryz.prog.underlying 9 = some .string := Tryz.underlying9
 simp only [eqF, part, isAgg, Qa]
 generalize hb : (x.b == y.b) = b2
 by_cases h0 : x.v = y.v <;> by_cases h1 : x.n = y.n <;> cases b2 <;> simp [run_underlying hi, run_underlying hs, run_equalIn_int w 9998 _ _ _ _ _ hi, run_equalIn_string w 9998 _ _ _ hs, Z2z, h0, h1, hb]
theorem Tf {l m : List REnt} {k r : Nat} (hk : k < l.length) (hk' : k < m.length) (h : k + Cd (l.drop k) (m.drop k) = r) :
  if Qa l[k] m[k] = true then k + 1 + Cd (l.drop (k + 1)) (m.drop (k + 1)) = r else k = r := by
 rw [List.drop_eq_getElem_cons hk, List.drop_eq_getElem_cons hk', Cd] at h
 split at h
 ·rename_i hq; rw [if_pos hq]; omega
 ·rename_i hq; rw [if_neg hq]; omega
set_option maxHeartbeats 400000 in
theorem Pr (l m : List REnt) (A B : Option Addr) (c d : Nat) (w : World) (hm : l.length ≤ maxLen) (hl : Rd w w.heap.size 3 Zed A l) (hl' : Rd w w.heap.size 3 Zed B m) :
  Calls Tryz.prog 81 #[.slice A l.length c, .slice B m.length d] w
   fun e w' => e = .returned (.int .i64 (Cd l m : Nat)) ∧ ∃ n, w' = w.drewN n := by
 unfold maxLen at hm
 generalize hn : l.length = n at *
 have HN := Lib.hid hn
 clear hn
 generalize hn' : m.length = n' at *
 have HN' := Lib.hid hn'
 clear hn'
 go_enter Tryz.func81, Tryz.ntmps81
 go_wp2
 go_loopw [5, 6] (fun r i wr => ∃ (k p q : Nat), k ≤ n ∧ k ≤ n' ∧ i = .int .i64 k ∧ r = .int .i64 p ∧ (p = k ∧ k + Cd (l.drop k) (m.drop k) = Cd l m ∨ p < k ∧ p = Cd l m) ∧ wr = w.drewN q) (fun _ i _ => n - (intOf i).toNat)
 case atStart => exact ⟨0, 0, 0, Nat.zero_le _, Nat.zero_le _, rfl, rfl, .inl (by simp), rfl⟩
 case round =>
  obtain ⟨k, p, q, hk, hk', rfl, rfl, hr, rfl⟩ := hrel
  rcases hr with ⟨rfl, hr⟩ | ⟨hpk, hr⟩
  ·have HR := Lib.hid hr
   clear hr
   by_cases hlt : p < n
   ·by_cases hlt' : p < n'
    ·have hkl : p < l.length := by rw [HN.out]; exact hlt
     have hkm : p < m.length := by rw [HN'.out]; exact hlt'
     obtain ⟨a, hA, hab⟩ := hl.addr hkl
     subst hA
     obtain ⟨b, hB, hbb⟩ := hl'.addr hkm
     subst hB
     have c0 : w.cell? (a.add (p * 3)) = _ := hl.cell hkl (j := 0) rfl
     have c1 : w.cell? ⟨(a.add (p * 3)).block, (a.add (p * 3)).off + 1, none⟩ = _ := hl.cell hkl (j := 1) rfl
     have c2 : w.cell? ⟨(a.add (p * 3)).block, (a.add (p * 3)).off + 2, none⟩ = _ := hl.cell hkl (j := 2) rfl
     have d0 : w.cell? (b.add (p * 3)) = _ := hl'.cell hkm (j := 0) rfl
     have d1 : w.cell? ⟨(b.add (p * 3)).block, (b.add (p * 3)).off + 1, none⟩ = _ := hl'.cell hkm (j := 1) rfl
     have d2 : w.cell? ⟨(b.add (p * 3)).block, (b.add (p * 3)).off + 2, none⟩ = _ := hl'.cell hkm (j := 2) rfl
     have HS := Lib.hid (Tf hkl hkm HR.out)
     generalize l[p] = e at c0 c1 c2 HS
     generalize m[p] = e' at d0 d1 d2 HS
     have heq := fun w => Zfq e e' w
     have t2 : (p : Int) < n := by omega
     have t3 : (p : Int) < n' := by omega
     clear HR
     go_wp2
     go_quiet (fail)
     clear heq
     cases hq : Qa e e'
     ·have HS0 := HS.out
      rw [hq] at HS0
      have HS' := Lib.hid HS0
      clear HS HS0 hq
      go_wp2
      go_roundw
      case rel => exact ⟨p + 1, p, q + nq, by omega, by omega, by go_num, rfl, .inr ⟨by omega, HS'.out⟩, by simp⟩
      case measure => simp [intOf]; omega
     ·have HS0 := HS.out
      rw [hq] at HS0
      have HS' := Lib.hid HS0
      clear HS HS0 hq
      go_wp2
      go_roundw
      case rel => exact ⟨p + 1, p + 1, q + nq, by omega, by omega, by go_num, by go_num, .inl ⟨rfl, HS'.out⟩, by simp⟩
      case measure => simp [intOf]; omega
    ·go_wp2
     go_ret
     exact ⟨Bf (by rw [← HR.out, List.drop_of_length_le (l := m) (by have := HN'.out; omega)]; simp [Cd]), q, rfl⟩
   ·go_wp2
    go_ret
    exact ⟨Bf (by rw [← HR.out, List.drop_of_length_le (l := l) (by have := HN.out; omega)]; simp [Cd]), q, rfl⟩
  ·have HR := Lib.hid hr
   clear hr
   have hpe : ((p : Int) == (k : Int)) = false := by simp; omega
   by_cases hlt : k < n
   ·by_cases hlt' : k < n'
    ·go_wp2
     go_ret
     exact ⟨Bf (by rw [← HR.out]), q, rfl⟩
    ·go_wp2
     go_ret
     exact ⟨Bf (by rw [← HR.out]), q, rfl⟩
   ·go_wp2
    go_ret
    exact ⟨Bf (by rw [← HR.out]), q, rfl⟩
def hiB (l : List Mk) (x : Mk) : Bool := l.all fun y => !Dq x y
theorem Xl (l : List Mk) : ∀ n, 0 < n → n ≤ l.length → ∃ p, Top l n p
 | 0, h, _ => absurd h (by omega)
 | 1, _, h => ⟨0, Top.one (by omega)⟩
 | n + 2, _, h => by
  obtain ⟨p, hp⟩ := Xl l (n + 1) (by omega) (by omega)
  cases hb : Dq (l[p]'(by obtain ⟨a, _, _⟩ := hp; omega)) (l[n + 1]'(by omega))
  ·exact ⟨p, hp.stay (by omega) hb⟩
  ·exact ⟨n + 1, hp.turn (by omega) hb⟩
theorem Zdu {l : List Mk} (h : ∀ j (hj : j < l.length), hiB l l[j] = false) : l = [] := by
 rcases Nat.eq_zero_or_pos l.length with h0 | h0
 ·exact List.eq_nil_of_length_eq_zero h0
 ·obtain ⟨p, hp⟩ := Xl l l.length h0 (Nat.le_refl _)
  obtain ⟨hk, _, h1, _⟩ := hp
  have h2 := h p hk
  unfold hiB at h2
  rw [List.all_eq_false] at h2
  obtain ⟨y, hy, h3⟩ := h2
  obtain ⟨j, hj, rfl⟩ := List.getElem_of_mem hy
  rw [h1 j hj] at h3
  simp at h3
theorem Z77 {l : List Mk} {i : Nat} (hi : i < l.length) (h : hiB l l[i] = true) (hb : ∀ j (hj : j < i), hiB l (l[j]'(by omega)) = false) : Gb l = i := by
 unfold Gb
 rw [if_neg (by intro e; subst e; simp at hi)]
 congr 1
 rw [List.findIdx_eq hi]
 exact ⟨h, fun j hj => hb j hj⟩
def Z60 (l : List Mk) (x : Mk) (q : Nat) : Bool := (l.take q).all fun y => !Dq x y
theorem Z0y (l : List Mk) (x : Mk) : Z60 l x 0 = true := by simp [Z60]
theorem Z4i (l : List Mk) (x : Mk) : Z60 l x l.length = hiB l x := by simp [Z60, hiB]
theorem Z41 {l : List Mk} (x : Mk) {q : Nat} (hq : q < l.length) : Z60 l x (q + 1) = (Z60 l x q && !Dq x l[q]) := by
 unfold Z60
 rw [List.take_succ_eq_append_getElem hq, List.all_append]
 simp
set_option maxHeartbeats 1000000 in
theorem Ur (l : List Mk) (A : Option Addr) (c : Nat) (w : World) (hm : l.length ≤ maxLen) (hl : Rd w w.heap.size 2 mkC A l) :
  Calls Tryz.prog 137 #[.slice A l.length c] w
   fun e w' => e = .returned (.int .i64 (Gb l)) ∧ Below w.heap.size w w' := by
 unfold maxLen at hm
 generalize hn : l.length = n at *
 have HN := Lib.hid hn
 clear hn
 go_enter Tryz.func137, Tryz.ntmps137
 go_wp2
 go_loopw [3] (fun i wr => ∃ (k : Nat), k ≤ n ∧ i = .int .i64 k ∧ (∀ j (hj : j < l.length), j < k → hiB l l[j] = false) ∧ Below w.heap.size w wr) (fun i _ => n - (intOf i).toNat)
 case atStart => exact ⟨0, Nat.zero_le _, rfl, fun j _ h => by omega, Below.refl _ _⟩
 case round =>
  obtain ⟨k, hk, rfl, hno, hbw⟩ := hrel
  have HO := Lib.hid hno
  clear hno
  by_cases hlt : k < n
  ·have hkl : k < l.length := by rw [HN.out]; exact hlt
   obtain ⟨wo, rfl⟩ : ∃ wo : World, wo = wr := ⟨_, rfl⟩
   go_wp2
   go_loopw [4, 5] (fun b i wr => ∃ (q : Nat), q ≤ n ∧ i = .int .i64 q ∧ b = .bool (Z60 l l[k] q) ∧ Below w.heap.size w wr) (fun _ i _ => n - (intOf i).toNat)
   case atStart => exact ⟨0, Nat.zero_le _, rfl, by rw [Z0y], hbw⟩
   case round =>
    obtain ⟨q, hq, rfl, rfl, hbr⟩ := hrel
    by_cases hlq : q < n
    ·have hql : q < l.length := by rw [HN.out]; exact hlq
     have hl' := hl.below hbr
     obtain ⟨a, hA, hab⟩ := hl'.addr hkl
     subst hA
     have c0 : wr.cell? (a.add (k * 2)) = _ := hl'.cell hkl (j := 0) rfl
     have c1 : wr.cell? ⟨(a.add (k * 2)).block, (a.add (k * 2)).off + 1, none⟩ = _ := hl'.cell hkl (j := 1) rfl
     have d0 : wr.cell? (a.add (q * 2)) = _ := hl'.cell hql (j := 0) rfl
     have d1 : wr.cell? ⟨(a.add (q * 2)).block, (a.add (q * 2)).off + 1, none⟩ = _ := hl'.cell hql (j := 1) rfl
     have i1 : (k : Int) < n := by omega
     have i2 : (q : Int) < n := by omega
     have HT := Lib.hid (Z41 l[k] hql)
     generalize l[k] = e at *
     generalize l[q] = e' at *
     clear hl hl'
     go_wp2
     go_still_tail 8, (by kernel_rfl)
     change wpList _ _ _ _ _ wr.drew
     have hbd := hbr.drew
     have hzd : w.heap.size ≤ wr.drew.heap.size := hbr.size
     generalize wr.drew = w2 at *
     clear c0 c1 d0 d1
     have hc := U3 e e' w2
     have HC := Lib.hid hc
     clear hc
     generalize Z60 l e q = bq at HT ⊢
     generalize Dq e e' = bb at HC HT
     cases bb
     ·go_wp2_with (go_at_call 147; refine HC.out.mono ?_; rintro e w3 ⟨rfl, hb3⟩)
      go_roundw
      case rel => exact ⟨q + 1, by omega, by go_num, by rw [HT.out]; simp, hbd.trans (hb3.mono hzd)⟩
      case measure => simp [intOf]; omega
     ·go_wp2_with (go_at_call 147; refine HC.out.mono ?_; rintro e w3 ⟨rfl, hb3⟩)
      go_roundw
      case rel => exact ⟨q + 1, by omega, by go_num, by rw [HT.out]; simp, hbd.trans (hb3.mono hzd)⟩
      case measure => simp [intOf]; omega
    ·obtain rfl : q = n := by omega
     have HF : Z60 l l[k] q = hiB l l[k] := by rw [← Z4i, HN.out]
     rw [HF]
     clear HF
     cases hb : hiB l l[k]
     ·go_wp2
      go_roundw
      case rel => exact ⟨k + 1, by omega, by go_num, fun j hj hjk => by
                          rcases Nat.lt_or_ge j k with h | h
                          ·exact HO.out j hj h
                          ·have e : j = k := by omega
                           subst e
                           exact hb, hbr⟩
      case measure => simp [intOf]; omega
     ·go_wp2
      go_ret
      exact ⟨Bf (Z77 hkl hb (fun j hj => HO.out j (by omega) hj)).symm, hbr⟩
  ·obtain rfl : k = n := by omega
   go_wp2
   go_ret
   refine ⟨Bf ?_, hbw⟩
   have := Zdu (l := l) (fun j hj => HO.out j hj (by have := HN.out; omega))
   subst this
   rfl
end Go.Proofs.YtihfaocdpmmooaaGreat

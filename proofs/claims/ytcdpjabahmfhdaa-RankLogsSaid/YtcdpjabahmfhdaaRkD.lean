/- Contracts of Right. -/
import Derived.Test.YtcdpjabahmfhdaaRkC
import Derived.Test.YtcdpjabahmfhdaaBase
namespace Go.Proofs.Ytcdpjabahmfhdaa
open Go.RowKit

structure Ent where
  v : Int
  n : Int
  b : ByteArray
def entC (e : Ent) : List Value := [.int .i64 e.v, .int .i64 e.n, .string e.b]
def okB (view : Int) (i : Nat) (e : Ent) : Bool := decide (e.n = (i : Int) + 1 ∧ view ≤ e.v ∧ e.v ≤ 4611686018427387904 ∧ e.b.size ≤ 200)
def rightFrom : Int → Nat → List Ent → Bool
  | _, _, [] => true
  | view, i, e :: r => okB view i e && rightFrom e.v (i + 1) r
def rightB (l : List Ent) : Bool := rightFrom 1 0 l && decide (l.length ≤ 150)

theorem right_step {l : List Ent} {view : Int} {k : Nat} {d r : Bool} (hk : k < l.length) (h : (rightFrom view k (l.drop k) && d) = r) :
    (okB view k l[k] && (rightFrom l[k].v (k + 1) (l.drop (k + 1)) && d)) = r := by
  rw [List.drop_eq_getElem_cons hk, rightFrom] at h
  rw [← h, Bool.and_assoc]

set_option maxHeartbeats 400000 in
theorem right_any (l : List Ent) (A : Option Addr) (c : Nat) (w : World) (hm : l.length ≤ maxLen) (hl : Rd w w.heap.size 3 entC A l) :
    Calls Try.prog 21 #[.slice A l.length c] w
      fun e w' => e = .returned (.bool (rightB l)) ∧ Below w.heap.size w w' := by
  unfold maxLen at hm
  generalize hn : l.length = n at *
  have HN := Lib.hid hn
  clear hn
  go_enter Try.func21, Try.ntmps21
  go_wp2
  go_loopw [3, 8] (fun vw i wr => ∃ (k : Nat) (view : Int), k ≤ n ∧ i = .int .i64 k ∧ vw = .int .i64 view ∧ (rightFrom view k (l.drop k) && decide (l.length ≤ 150)) = rightB l ∧ Below w.heap.size w wr) (fun _ i _ => n - (intOf i).toNat)
  case atStart => exact ⟨0, 1, Nat.zero_le _, rfl, rfl, by simp [rightB], Below.refl _ _⟩
  case round =>
    obtain ⟨k, view, hk, rfl, rfl, hr, hb⟩ := hrel
    have HR := Lib.hid hr
    clear hr
    by_cases hlt : k < n
    · have hl' := hl.below hb
      have hkl : k < l.length := by rw [HN.out]; exact hlt
      obtain ⟨a, hA, hab⟩ := hl'.addr hkl
      subst hA
      have c0 : wr.cell? (a.add (k * 3)) = _ := hl'.cell hkl (j := 0) rfl
      have c1 : wr.cell? ⟨(a.add (k * 3)).block, (a.add (k * 3)).off + 1, none⟩ = _ := hl'.cell hkl (j := 1) rfl
      have c2 : wr.cell? ⟨(a.add (k * 3)).block, (a.add (k * 3)).off + 2, none⟩ = _ := hl'.cell hkl (j := 2) rfl
      generalize he : l[k] = e at c0 c1 c2
      have HS := Lib.hid (right_step hkl HR.out)
      rw [he] at HS
      clear HR
      go_wp2
      all_goals
        first
          | (go_ret
             refine ⟨ret_bool ?_, (hb.alloc hb.size _)⟩
             rw [← HS.out, show okB view k e = false by unfold okB; rw [decide_eq_false_iff_not]; omega]; rfl)
          | (go_roundw
             case rel => exact ⟨k + 1, e.v, by omega, by go_num, rfl, by rw [← HS.out, show okB view k e = true by unfold okB; rw [decide_eq_true_eq]; omega]; rfl, (hb.alloc hb.size _)⟩
             case measure => simp [intOf]; omega)
    · have hke : k = n := by omega
      subst hke
      go_wp2
      go_ret
      refine ⟨ret_bool ?_, hb⟩
      have hn := HN.out
      rw [← HR.out, List.drop_of_length_le (by omega)]
      simp [rightFrom, hn]; omega

end Go.Proofs.Ytcdpjabahmfhdaa

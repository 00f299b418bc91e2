/- Contract of the reference's Best. -/
import Derived.Test.YtcdpjabahmfhdaaRkC
namespace Go.Proofs.Ytcdpjabahmfhdaa
open Go.RowKit

/-- No mark is above the one at i. -/
def hiB (l : List Mk) (x : Mk) : Bool := l.all fun y => !lessB x y
theorem top_ex (l : List Mk) : ∀ n, 0 < n → n ≤ l.length → ∃ p, Top l n p
  | 0, h, _ => absurd h (by omega)
  | 1, _, h => ⟨0, Top.one (by omega)⟩
  | n + 2, _, h => by
    obtain ⟨p, hp⟩ := top_ex l (n + 1) (by omega) (by omega)
    cases hb : lessB (l[p]'(by obtain ⟨a, _, _⟩ := hp; omega)) (l[n + 1]'(by omega))
    · exact ⟨p, hp.stay (by omega) hb⟩
    · exact ⟨n + 1, hp.turn (by omega) hb⟩
theorem hi_none {l : List Mk} (h : ∀ j (hj : j < l.length), hiB l l[j] = false) : l = [] := by
  rcases Nat.eq_zero_or_pos l.length with h0 | h0
  · exact List.eq_nil_of_length_eq_zero h0
  · obtain ⟨p, hp⟩ := top_ex l l.length h0 (Nat.le_refl _)
    obtain ⟨hk, _, h1, _⟩ := hp
    have h2 := h p hk
    unfold hiB at h2
    rw [List.all_eq_false] at h2
    obtain ⟨y, hy, h3⟩ := h2
    obtain ⟨j, hj, rfl⟩ := List.getElem_of_mem hy
    rw [h1 j hj] at h3
    simp at h3
theorem best_hit {l : List Mk} {i : Nat} (hi : i < l.length) (h : hiB l l[i] = true) (hb : ∀ j (hj : j < i), hiB l (l[j]'(by omega)) = false) : bestI l = i := by
  unfold bestI
  rw [if_neg (by intro e; subst e; simp at hi)]
  congr 1
  rw [List.findIdx_eq hi]
  exact ⟨h, fun j hj => hb j hj⟩

/-- Whether no mark below q is above the one at i. -/
def hiTo (l : List Mk) (x : Mk) (q : Nat) : Bool := (l.take q).all fun y => !lessB x y
theorem hiTo_zero (l : List Mk) (x : Mk) : hiTo l x 0 = true := by simp [hiTo]
theorem hiTo_full (l : List Mk) (x : Mk) : hiTo l x l.length = hiB l x := by simp [hiTo, hiB]
theorem hiTo_step {l : List Mk} (x : Mk) {q : Nat} (hq : q < l.length) : hiTo l x (q + 1) = (hiTo l x q && !lessB x l[q]) := by
  unfold hiTo
  rw [List.take_succ_eq_append_getElem hq, List.all_append]
  simp

set_option maxHeartbeats 1000000 in
theorem refBest_any (l : List Mk) (A : Option Addr) (c : Nat) (w : World) (hm : l.length ≤ maxLen) (hl : Rd w w.heap.size 2 mkC A l) :
    Calls Try.prog 28 #[.slice A l.length c] w
      fun e w' => e = .returned (.int .i64 (bestI l)) ∧ Below w.heap.size w w' := by
  unfold maxLen at hm
  generalize hn : l.length = n at *
  have HN := Lib.hid hn
  clear hn
  go_enter Try.func28, Try.ntmps28
  go_wp2
  go_loopw [3] (fun i wr => ∃ (k : Nat), k ≤ n ∧ i = .int .i64 k ∧ (∀ j (hj : j < l.length), j < k → hiB l l[j] = false) ∧ Below w.heap.size w wr) (fun i _ => n - (intOf i).toNat)
  case atStart => exact ⟨0, Nat.zero_le _, rfl, fun j _ h => by omega, Below.refl _ _⟩
  case round =>
    obtain ⟨k, hk, rfl, hno, hbw⟩ := hrel
    have HO := Lib.hid hno
    clear hno
    by_cases hlt : k < n
    · have hkl : k < l.length := by rw [HN.out]; exact hlt
      obtain ⟨wo, rfl⟩ : ∃ wo : World, wo = wr := ⟨_, rfl⟩
      go_wp2
      go_loopw [4, 5] (fun b i wr => ∃ (q : Nat), q ≤ n ∧ i = .int .i64 q ∧ b = .bool (hiTo l l[k] q) ∧ Below w.heap.size w wr) (fun _ i _ => n - (intOf i).toNat)
      case atStart => exact ⟨0, Nat.zero_le _, rfl, by rw [hiTo_zero], hbw⟩
      case round =>
        obtain ⟨q, hq, rfl, rfl, hbr⟩ := hrel
        by_cases hlq : q < n
        · have hql : q < l.length := by rw [HN.out]; exact hlq
          have hl' := hl.below hbr
          obtain ⟨a, hA, hab⟩ := hl'.addr hkl
          subst hA
          have c0 : wr.cell? (a.add (k * 2)) = _ := hl'.cell hkl (j := 0) rfl
          have c1 : wr.cell? ⟨(a.add (k * 2)).block, (a.add (k * 2)).off + 1, none⟩ = _ := hl'.cell hkl (j := 1) rfl
          have d0 : wr.cell? (a.add (q * 2)) = _ := hl'.cell hql (j := 0) rfl
          have d1 : wr.cell? ⟨(a.add (q * 2)).block, (a.add (q * 2)).off + 1, none⟩ = _ := hl'.cell hql (j := 1) rfl
          have i1 : (k : Int) < n := by omega
          have i2 : (q : Int) < n := by omega
          have HT := Lib.hid (hiTo_step l[k] hql)
          generalize l[k] = e at *
          generalize l[q] = e' at *
          clear hl hl'
          go_wp2
          go_still_tail 8, (by kernel_rfl)
          change wpList _ _ _ _ _ wr.drew
          have hbd := hbr.drew
          have hzd : w.heap.size ≤ wr.drew.heap.size := hbr.size
          generalize wr.drew = w2 at *
          clear c0 c1 d0 d1
          have hc := refLess_any e e' w2
          have HC := Lib.hid hc
          clear hc
          generalize hiTo l e q = bq at HT ⊢
          generalize lessB e e' = bb at HC HT
          cases bb
          · go_wp2_with (go_at_call 26; refine HC.out.mono ?_; rintro e w3 ⟨rfl, hb3⟩)
            go_roundw
            case rel => exact ⟨q + 1, by omega, by go_num, by rw [HT.out]; simp, hbd.trans (hb3.mono hzd)⟩
            case measure => simp [intOf]; omega
          · go_wp2_with (go_at_call 26; refine HC.out.mono ?_; rintro e w3 ⟨rfl, hb3⟩)
            go_roundw
            case rel => exact ⟨q + 1, by omega, by go_num, by rw [HT.out]; simp, hbd.trans (hb3.mono hzd)⟩
            case measure => simp [intOf]; omega
        · obtain rfl : q = n := by omega
          have HF : hiTo l l[k] q = hiB l l[k] := by rw [← hiTo_full, HN.out]
          rw [HF]
          clear HF
          cases hb : hiB l l[k]
          · go_wp2
            go_roundw
            case rel => exact ⟨k + 1, by omega, by go_num, fun j hj hjk => by
                                rcases Nat.lt_or_ge j k with h | h
                                · exact HO.out j hj h
                                · have e : j = k := by omega
                                  subst e
                                  exact hb, hbr⟩
            case measure => simp [intOf]; omega
          · go_wp2
            go_ret
            exact ⟨ret_int (best_hit hkl hb (fun j hj => HO.out j (by omega) hj)).symm, hbr⟩
    · obtain rfl : k = n := by omega
      go_wp2
      go_ret
      refine ⟨ret_int ?_, hbw⟩
      have := hi_none (l := l) (fun j hj => HO.out j hj (by have := HN.out; omega))
      subst this
      rfl

end Go.Proofs.Ytcdpjabahmfhdaa

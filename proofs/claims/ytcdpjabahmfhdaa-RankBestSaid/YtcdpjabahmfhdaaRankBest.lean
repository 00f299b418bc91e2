/- RankBest: the mark that goes farthest is told as the document says: for every input the law returns true. No condition. -/
import Derived.Test.YtcdpjabahmfhdaaRkK
import Derived.Test.YtcdpjabahmfhdaaPure
import Derived.Deep.RegionHeld3
namespace Go.Proofs.Ytcdpjabahmfhdaa
open Go.ChangeShapes Go.WideShapes Go.ChangeAt Go.RowKit

set_option maxHeartbeats 2000000 in
theorem rankBest_walk (l : List Mk) (A : Option Addr) (c : Nat) (w : World) (hm : l.length ≤ maxLen) (hl : Rd w w.heap.size 2 mkC A l) :
    Calls Try.prog 10 #[.slice A l.length c] w fun e w' => e = .returned (.bool true) ∧ Below w.heap.size w w' := by
  have HM := Lib.hid hm
  unfold maxLen at hm
  have H1 := Lib.hid (ever_below (w0 := w) fun w1 _ => alive_any w1)
  have H2 := Lib.hid (ever_below (w0 := w) fun w1 hb => best_any l A c w1 HM.out ((hl.below hb).more hb.size))
  have H3 := Lib.hid (ever_below (w0 := w) fun w1 hb => refBest_any l A c w1 HM.out ((hl.below hb).more hb.size))
  have hb := Below.refl w.heap.size w
  generalize hn : l.length = n at *
  have HN := Lib.hid hn
  clear hn
  by_cases h300 : (300 : Int) < n
  · go_enter Try.func10, Try.ntmps10
    go_wp2_with (go_at_call 13; (with_reducible refine (Ever.at_ H1 _ (by assumption)).mono ?_); rintro e w1 ⟨rfl, hb1⟩)
    go_ret
    exact ⟨rfl, by assumption⟩
  · go_enter Try.func10, Try.ntmps10
    go_wp2
    go_loopw [11] (fun i wr => ∃ k : Nat, k ≤ n ∧ i = .int .i64 k ∧ Below w.heap.size w wr) (fun i _ => n - (intOf i).toNat)
    case atStart => exact ⟨0, Nat.zero_le _, rfl, hb⟩
    case round =>
      obtain ⟨k, hk, rfl, hbr⟩ := hrel
      by_cases hlt : k < n
      · have hkl : k < l.length := by rw [HN.out]; exact hlt
        obtain ⟨wo, rfl⟩ : ∃ wo : World, wo = wr := ⟨_, rfl⟩
        clear hb
        go_wp2
        go_loopw [16] (fun i wr => ∃ q : Nat, q ≤ n ∧ i = .int .i64 q ∧ Below w.heap.size w wr) (fun i _ => n - (intOf i).toNat)
        case atStart => exact ⟨0, Nat.zero_le _, rfl, hbr⟩
        case round =>
          obtain ⟨q, hq, rfl, hbq⟩ := hrel
          clear hbr
          by_cases hlq : q < n
          · have hql : q < l.length := by rw [HN.out]; exact hlq
            have hl' := hl.below hbq
            obtain ⟨a, hA, hab⟩ := hl'.addr hkl
            subst hA
            have c0 : wr.cell? (a.add (k * 2)) = _ := hl'.cell hkl (j := 0) rfl
            have c1 : wr.cell? ⟨(a.add (k * 2)).block, (a.add (k * 2)).off + 1, none⟩ = _ := hl'.cell hkl (j := 1) rfl
            have d0 : wr.cell? (a.add (q * 2)) = _ := hl'.cell hql (j := 0) rfl
            have d1 : wr.cell? ⟨(a.add (q * 2)).block, (a.add (q * 2)).off + 1, none⟩ = _ := hl'.cell hql (j := 1) rfl
            have i1 : (k : Int) < n := by omega
            have i2 : (q : Int) < n := by omega
            have i3 : (0 : Int) ≤ k := by omega
            have i4 : (0 : Int) ≤ q := by omega
            have b1 : (a.add (k * 2)).block < wr.heap.size := by rw [add_block]; have := hbq.size; omega
            have b2 : (a.add (q * 2)).block < wr.heap.size := by rw [add_block]; have := hbq.size; omega
            generalize l[k] = e at *
            generalize l[q] = e' at *
            have L1 := Lib.hid (ever_below (w0 := wr) fun w1 _ => less_any e e' w1)
            have L2 := Lib.hid (ever_below (w0 := wr) fun w1 _ => refLess_any e e' w1)
            have HK := Lib.hid (show ∀ w', Below wr.heap.size wr w' → w'.cell? (a.add (k * 2)) = some (.int .i64 e.v) ∧ w'.cell? ⟨(a.add (k * 2)).block, (a.add (k * 2)).off + 1, none⟩ = some (.int .i64 e.n) ∧ w'.cell? (a.add (q * 2)) = some (.int .i64 e'.v) ∧ w'.cell? ⟨(a.add (q * 2)).block, (a.add (q * 2)).off + 1, none⟩ = some (.int .i64 e'.n) from fun w' hbw => ⟨(hbw.cell (p := a.add (k * 2)) b1).trans c0, (hbw.cell (p := ⟨_, _, none⟩) b1).trans c1, (hbw.cell (p := a.add (q * 2)) b2).trans d0, (hbw.cell (p := ⟨_, _, none⟩) b2).trans d1⟩)
            clear hl hl'
            have hbz := Below.refl wr.heap.size wr
            have hbz2 := hbz.drew
            generalize lessB e e' = bb at L1 L2
            go_wp2
            go_region_held3 (fun w' => w'.cell? (a.add (k * 2)) = some (.int .i64 e.v) ∧ w'.cell? ⟨(a.add (k * 2)).block, (a.add (k * 2)).off + 1, none⟩ = some (.int .i64 e.n) ∧ w'.cell? (a.add (q * 2)) = some (.int .i64 e'.v) ∧ w'.cell? ⟨(a.add (q * 2)).block, (a.add (q * 2)).off + 1, none⟩ = some (.int .i64 e'.n))
              (first
                | go_keep
                | exact HK.out _ hb1)
              (first
                | (go_at_call 25; (with_reducible refine (Ever.at_ L1 _ (by assumption)).mono ?_); rintro e w1 ⟨rfl, hb1⟩)
                | (go_at_call 26; (with_reducible refine (Ever.at_ L2 _ (by assumption)).mono ?_); rintro e w1 ⟨rfl, hb1⟩))
            have hbn := hbq.trans (hb1.mono hbq.size)
            clear hb1 H1 H2 H3 L1 L2 HK
            go_wp2
            go_roundw
            case rel => exact ⟨q + 1, by omega, by go_num, hbn⟩
            case measure => simp [intOf]; omega
          · obtain rfl : q = n := by omega
            go_wp2
            go_roundw
            case rel => exact ⟨k + 1, by omega, by go_num, hbq⟩
            case measure => simp [intOf]; omega
      · obtain rfl : k = n := by omega
        clear hl hb
        go_wp2_with (first
          | (go_at_call 13; (with_reducible refine (Ever.at_ H1 _ (by assumption)).mono ?_); rintro e w1 ⟨rfl, hb1⟩)
          | (go_at_call 27; (with_reducible refine (Ever.at_ H2 _ (by assumption)).mono ?_); rintro e w1 ⟨rfl, hb1⟩)
          | (go_at_call 28; (with_reducible refine (Ever.at_ H3 _ (by assumption)).mono ?_); rintro e w1 ⟨rfl, hb1⟩))
        go_ret
        exact ⟨rfl, by assumption⟩

theorem rankBest_given (W : World) (args : Array Value) (h : Given W Try.f10 args) :
    Calls Try.prog 10 args W fun e W' => e = .returned (.bool true) ∧ Below W.heap.size W W' := by
  obtain ⟨⟨H, enc, ds, p, hA, hwt⟩, base, hval⟩ := h
  rw [Try.params10] at hA hval hwt
  obtain ⟨v0, vs0, d0, ds0, p0, q0, hargs, rfl, rfl, h0, r0⟩ := trodAll_cons hA
  obtain ⟨rfl, rfl, rfl⟩ := trodAll_nil r0
  obtain rfl : args = #[v0] := by cases args; simp_all
  simp only [DataW.weightsEach, List.all_append, Bool.and_eq_true] at hwt
  obtain ⟨g0, _⟩ := hwt
  obtain ⟨⟨A0, c0, l0⟩, rfl, hm0, hn0, hz0, rd0, hq0⟩ := opens_mks W H enc base v0 d0 p0 (hval 0 _ v0 rfl rfl) h0 g0
  exact rankBest_walk l0 A0 c0 W hm0 rd0

theorem rankBest_lifted (os : Os) (started : os.Started) (H : Type) (enc : TypeId × Value → H) :
    ReturnsInHanded {} Try.checked os 10 .any (Rows.rankBestSpec.pre6 enc Try.prog Try.f10 Rows.rankBestRow.domain false) (Rows.rankBestSpec.post enc Try.prog Try.f10 false true false false) :=
  law_lifted (s := Rows.rankBestSpec) os started H enc (by kernel_rfl) Try.func10 rfl (by kernel_rfl)
    (by rw [Try.params10]; intro t ht; simp at ht; rcases ht with rfl <;> exact ⟨by kernel_rfl, of_decide_eq_true (by kernel_rfl)⟩)
    (by rw [Try.params10]; intro ds hd; match ds, hd with | [x0], _ => exact ⟨rfl, rfl, rfl⟩)
    (ChangeSpec.witness6 (enc := enc) (C := Try.checked) false ⟨#[], #[.slice none 0 0], []⟩ 8 (by kernel_rfl) (by kernel_rfl) (by kernel_rfl) (by kernel_rfl))
    rankBest_given

theorem rankBest_holds : Rows.RankBestSaid :=
  OpenClaim.holds_of_wide 10 Try.f10 rfl rfl rfl rfl rfl rfl rfl ⟨rfl, rfl, rfl, rfl, rfl⟩ rfl rfl rfl rfl rfl (by kernel_rfl) Try.func10 (by kernel_rfl)
    (of_decide_eq_true (by kernel_rfl)) (by unfold Func.isWrapper; first | (rw [if_pos (by decide +kernel)]; kernel_rfl) | (rw [if_neg (by decide +kernel)]; exact ⟨rfl, rfl⟩))
    (fun os started H enc _ => rankBest_lifted os started H enc)
#print axioms rankBest_holds
end Go.Proofs.Ytcdpjabahmfhdaa

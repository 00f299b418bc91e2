/- RankRises: where one more is had by somebody a quorum never has less: for every input the law returns true. No condition. -/
import Derived.Test.YtcdpjabahmfhdaaRkK
import Derived.Test.YtcdpjabahmfhdaaPure
namespace Go.Proofs.Ytcdpjabahmfhdaa
open Go.ChangeShapes Go.WideShapes Go.ChangeAt Go.RowKit

theorem held_ge {l : List Int} {h : Int} (hg : groupB l.length = true) (hq : quorumI l.length ≤ cntB l h) : h ≤ heldI l := by
  obtain ⟨g1, g2⟩ := group_bd hg
  have hkq : (k0 l.length : Int) = l.length - quorumI l.length := by unfold k0; unfold quorumI; rw [if_pos hg]; omega
  have hkn : k0 l.length < (sortI l).length := by rw [sortI_len]; unfold k0; omega
  rw [← held_sorted l (by omega) hkn hkq]
  have hle : h ≤ (sortI l)[k0 l.length] := by
    apply Int.not_lt.1
    intro hlt
    have := cnt_above l hkn hlt
    rw [sortI_len] at hkn
    omega
  split <;> omega
theorem cnt_up : ∀ (l : List Int) (i : Nat) (hi : i < l.length) (m h : Int), 0 ≤ m → cntB l h ≤ cntB (l.set i (l[i] + m)) h
  | [], i, hi, _, _, _ => by simp at hi
  | x :: l, 0, _, m, h, hm => by
    simp only [cntB, List.set_cons_zero, List.countP_cons, List.getElem_cons_zero, decide_eq_true_eq]
    split <;> split <;> omega
  | x :: l, i + 1, hi, m, h, hm => by
    have := cnt_up l i (by simpa using hi) m h hm
    simp only [cntB, List.set_cons_succ, List.countP_cons, List.getElem_cons_succ] at this ⊢
    omega
theorem held_nonneg (l : List Int) : 0 ≤ heldI l := by
  unfold heldI
  split
  · exact (heldTo_max l l.length (Nat.le_refl _)).1
  · exact Int.le_refl _
theorem held_cnt' {l : List Int} (h : heldI l ≠ 0) : quorumI l.length ≤ cntB l (heldI l) ∧ l.length ≤ 7 := by
  unfold heldI at h ⊢
  split at h
  · rename_i h7
    rw [if_pos h7]
    obtain ⟨_, _, h2⟩ := heldTo_max l l.length (Nat.le_refl _)
    rcases h2 with h2 | ⟨j, hj, e, hq⟩
    · exact absurd h2 h
    · rw [e]; exact ⟨hq, h7⟩
  · exact absurd rfl h
theorem held_rises {l : List Int} {i : Nat} (hi : i < l.length) {m : Int} (hm : 0 ≤ m) : heldI l ≤ heldI (l.set i (l[i] + m)) := by
  by_cases h0 : heldI l = 0
  · rw [h0]; exact held_nonneg _
  · obtain ⟨hq, h7⟩ := held_cnt' h0
    have hlen : (l.set i (l[i] + m)).length = l.length := List.length_set ..
    have hg : groupB l.length = true := by unfold groupB; rw [decide_eq_true_eq]; omega
    refine held_ge (by rw [hlen]; exact hg) ?_
    rw [hlen]
    have := cnt_up l i hi m (heldI l) hm
    omega

theorem own_set {w : World} {g n : Nat} {cur : Array Value} {t : TypeId} {l : List Int} (hg : w.heap[g]? = some (.cells cur t (0, 0))) (hn : l.length = n) (hcap : n ≤ cur.size) (hc : cur.toList.take n = intV l) {i : Nat} (y : Int) (B : Nat) (hB : g < B) :
    Rd (w.setCell ⟨g, i, none⟩ (.int .i64 y)) B 1 intC (some ⟨g, 0, none⟩) (l.set i y) := by
  have hs : (w.setCell ⟨g, i, none⟩ (.int .i64 y)).heap[g]? = some (.cells (cur.setIfInBounds i (.int .i64 y)) t (0, 0)) := by
    simp [World.setCell, Array.getElem?_modify, hg]
  refine rd_block hs hB fun k x hx j v hv => ?_
  match j, hv with
  | j + 1, hv => simp [intC] at hv
  | 0, hv =>
    simp only [intC, List.getElem?_cons_zero, Option.some.injEq] at hv
    subst hv
    have hk : k < n := by
      have := (List.getElem?_eq_some_iff.1 hx).1
      rw [List.length_set] at this
      omega
    rw [Nat.mul_one, Nat.add_zero, Array.getElem?_setIfInBounds]
    rw [List.getElem?_set] at hx
    by_cases hik : i = k
    · rw [if_pos hik, if_pos (by omega)] at hx
      rw [if_pos hik, if_pos (by omega)]
      simp only [Option.some.injEq] at hx
      rw [hx]
    · rw [if_neg hik] at hx
      rw [if_neg hik]
      have h1 : (cur.toList.take n)[k]? = some (.int .i64 x) := by rw [hc]; unfold intV; rw [List.getElem?_map, hx]; rfl
      rw [List.getElem?_take, if_pos hk] at h1
      simpa using h1

theorem int_info : (Try.prog.info? 3).map (fun i => (i.zero, i.size, i.bytes)) = some (some (.int .i64 0), 1, 8) := by kernel_rfl

set_option maxHeartbeats 2000000 in
theorem rankRises_walk (l : List Int) (A : Option Addr) (c : Nat) (p m : Int) (w : World) (hm : l.length ≤ maxLen) (hbd : l.length * 8 ≤ 140737488351232) (hl : Rd w w.heap.size 1 intC A l) (hi64 : ∀ x ∈ l, i64ok x) (hpi : i64ok p) (hmi : i64ok m) :
    Calls Try.prog 7 #[.slice A l.length c, .int .i64 p, .int .i64 m] w fun e w' => e = .returned (.bool true) ∧ Below w.heap.size w w' := by
  have HM := Lib.hid hm
  unfold maxLen at hm
  have H1 := Lib.hid (ever_below (w0 := w) fun w1 _ => alive_any w1)
  have hb := Below.refl w.heap.size w
  generalize hn : l.length = n at *
  have HN := Lib.hid hn
  clear hn
  obtain ⟨hp1, hp2⟩ := hpi
  obtain ⟨hm1, hm2⟩ := hmi
  by_cases c1 : p < 0
  · clear hl hi64
    go_enter Try.func7, Try.ntmps7
    go_wp2_with (go_at_call 13; (with_reducible refine (Ever.at_ H1 _ (by assumption)).mono ?_); rintro e w1 ⟨rfl, hb1⟩)
    go_ret
    exact ⟨rfl, by assumption⟩
  · by_cases c2 : (n : Int) ≤ p
    · clear hl hi64
      go_enter Try.func7, Try.ntmps7
      go_wp2_with (go_at_call 13; (with_reducible refine (Ever.at_ H1 _ (by assumption)).mono ?_); rintro e w1 ⟨rfl, hb1⟩)
      go_ret
      exact ⟨rfl, by assumption⟩
    · obtain ⟨i, rfl⟩ := Int.eq_ofNat_of_zero_le (by omega : 0 ≤ p)
      by_cases c3 : m < 0
      · clear hl hi64
        go_enter Try.func7, Try.ntmps7
        go_wp2_with (go_at_call 13; (with_reducible refine (Ever.at_ H1 _ (by assumption)).mono ?_); rintro e w1 ⟨rfl, hb1⟩)
        go_ret
        exact ⟨rfl, by assumption⟩
      · have hil : i < l.length := by rw [HN.out]; omega
        obtain ⟨a, hA, hab⟩ := hl.addr hil
        subst hA
        have d0 : w.cell? (a.add (i * 1)) = _ := hl.cell hil (j := 0) rfl
        rw [Nat.mul_one] at d0
        have hx := hi64 _ (List.getElem_mem hil)
        have HR := Lib.hid (held_rises hil (m := m) (by omega))
        have HX := Lib.hid (List.getElem?_eq_getElem hil)
        generalize l[i] = x at *
        obtain ⟨hx1, hx2⟩ := hx
        by_cases c4 : 4611686018427387904 < x
        · clear hl hi64
          go_enter Try.func7, Try.ntmps7
          go_wp2_with (go_at_call 13; (with_reducible refine (Ever.at_ H1 _ (by assumption)).mono ?_); rintro e w1 ⟨rfl, hb1⟩)
          go_ret
          exact ⟨rfl, by assumption⟩
        · by_cases c5 : 4611686018427387904 - max x 0 < m
          · clear hl hi64
            go_enter Try.func7, Try.ntmps7
            go_wp2_with (go_at_call 13; (with_reducible refine (Ever.at_ H1 _ (by assumption)).mono ?_); rintro e w1 ⟨rfl, hb1⟩)
            go_ret
            exact ⟨rfl, by assumption⟩
          · go_enter Try.func7, Try.ntmps7
            have hxm : IntKind.i64.wrap (x + m) = x + m := IntWalk.i64_in _ (by omega)
            obtain ⟨i0, hi0, hz0, hz1, hz2⟩ := info_parts int_info
            have HI0 := Lib.hid hi0
            have HZ0 := Lib.hid hz0
            have HZ1 := Lib.hid hz1
            have HZ2 := Lib.hid hz2
            clear hi0 hz0 hz1 hz2
            have hnews : ∀ j u, (intV l)[j]? = some u → w.cell? (a.add j) = some u := fun j u hu => by
              unfold intV at hu
              rw [List.getElem?_map] at hu
              obtain ⟨z, hz, rfl⟩ := Option.map_eq_some_iff.1 hu
              have hj : j < l.length := (List.getElem?_eq_some_iff.1 hz).1
              have h := hl.cell hj (j := 0) (v := .int .i64 z) (by rw [(List.getElem?_eq_some_iff.1 hz).2]; rfl)
              rw [Nat.mul_one] at h
              exact h
            have HW := Lib.hid hnews
            clear hnews
            go_wp2_with (at_builtin; (refine wpList_append_own _ rfl (.tmp 38) (.tmp 39) 32 rfl w.heap.size 3 i0 (.int .i64 0) 1 8 Try.underlying32 HI0.out HZ0.out HZ1.out HZ2.out rfl (by decide) (.slice (some ⟨w.heap.size, 0, none⟩) 0 0) 0 [] rfl ?c0 a n c (intV l) rfl ?c1 ?c2 ?c3 ?c4 ?c5 ?c6 ?_))
            case c0 => exact ⟨by simp, .inr ⟨w.heap.size, 0, #[], rfl, Nat.le_refl _, heap_alloc_new w _, Nat.le_refl _, by simp [maxLen], rfl, rfl⟩⟩
            case c1 => unfold intV; rw [List.length_map, HN.out]
            case c2 => exact fun j u hu => (World.cell?_alloc_lt w _ _ (by rw [add_block]; exact hab)).trans (HW.out j u hu)
            case c3 => unfold intV; intro u hu; obtain ⟨z, _, rfl⟩ := List.mem_map.1 hu; rfl
            case c4 => exact HM.out
            case c5 => omega
            intro v1 w1 hown hgr _
            have hbw1 : Below w.heap.size w w1 := (hb.alloc (Nat.le_refl _) _).grown hgr (by simp) (by intro k hk; simp [Value.ownBlock] at hk; omega)
            rcases hown.2 with ⟨_, h0⟩ | ⟨g, cap, cur, rfl, hgB, hgc, hnc, _, hcs, htk⟩
            · omega
            · have HG := Lib.hid hgc
              have HT := Lib.hid htk
              have HCS := Lib.hid hcs
              have hgl : g < w1.heap.size := by
                rcases Nat.lt_or_ge g w1.heap.size with h | h
                · exact h
                · rw [Array.getElem?_eq_none h] at hgc; cases hgc
              have hcell : w1.cell? ⟨g, i, none⟩ = some (.int .i64 x) := by
                rw [cell_at hgc]
                have h1 : (cur.toList.take (n * 1))[i]? = some (.int .i64 x) := by
                  rw [htk]
                  unfold intV
                  rw [List.getElem?_map, HX.out]
                  rfl
                rw [List.getElem?_take, if_pos (by omega)] at h1
                simpa using h1
              have hfz : w1.frozen? ⟨g, i, none⟩ = false := by simp [World.frozen?, hgc]
              clear hgc htk hcs hown hgr
              have hset := own_set (l := l) (i := i) (n := n) HG.out HN.out (by have := HCS.out; omega) (by have := HT.out; rw [Nat.mul_one] at this; exact this) (x + m) w1.heap.size hgl
              have HS := Lib.hid hset
              clear hset
              have hbw2 := hbw1.setCell (p := ⟨g, i, none⟩) hgB (.int .i64 (x + m))
              have hsz2 : w1.heap.size ≤ (w1.setCell ⟨g, i, none⟩ (.int .i64 (x + m))).heap.size := by simp [World.setCell]
              have hHu := Lib.hid (ever_below (w0 := w1.setCell ⟨g, i, none⟩ (.int .i64 (x + m))) fun w3 hb3 => held_any (l.set i (x + m)) (some ⟨g, 0, none⟩) cap w3 (by rw [List.length_set, HN.out]; exact HM.out) ((HS.out.below (hb3.mono hsz2)).more (Nat.le_trans hsz2 hb3.size)))
              have hHa := Lib.hid (ever_below (w0 := w1.setCell ⟨g, i, none⟩ (.int .i64 (x + m))) fun w3 hb3 => held_any l (some a) c w3 (by rw [HN.out]; exact HM.out) ((hl.below (hbw2.trans (hb3.mono (by have := hbw2.size; exact this)))).more (Nat.le_trans hbw2.size hb3.size)))
              have hAl := Lib.hid (ever_below (w0 := w1.setCell ⟨g, i, none⟩ (.int .i64 (x + m))) fun w3 _ => alive_any w3)
              rw [List.length_set, HN.out] at hHu
              rw [HN.out] at hHa
              have hbz := Below.refl (w1.setCell ⟨g, i, none⟩ (.int .i64 (x + m))).heap.size (w1.setCell ⟨g, i, none⟩ (.int .i64 (x + m)))
              have hrise := HR.out
              have i1 : (i : Int) < n := by omega
              clear hl hi64 hb H1 HW
              generalize heldI (l.set i (x + m)) = h2 at *
              generalize heldI l = h1 at *
              go_wp2_with (first
                | (go_at_call 13; (with_reducible refine (Ever.at_ hAl _ (by assumption)).mono ?_); rintro e w4 ⟨rfl, hb4⟩)
                | (go_at_call 18; (with_reducible refine (Ever.at_ hHu _ (by assumption)).mono ?_); rintro e w4 ⟨rfl, hb4⟩)
                | (go_at_call 18; (with_reducible refine (Ever.at_ hHa _ (by assumption)).mono ?_); rintro e w4 ⟨rfl, hb4⟩))
              go_ret
              exact ⟨rfl, hbw2.trans (Below.mono (by assumption) hbw2.size)⟩

theorem rankRises_given (W : World) (args : Array Value) (h : Given W Try.f7 args) :
    Calls Try.prog 7 args W fun e W' => e = .returned (.bool true) ∧ Below W.heap.size W W' := by
  obtain ⟨⟨H, enc, ds, p, hA, hwt⟩, base, hval⟩ := h
  rw [Try.params7] at hA hval hwt
  obtain ⟨v0, vs0, d0, ds0, p0, q0, hargs, rfl, rfl, h0, r0⟩ := trodAll_cons hA
  obtain ⟨v1, vs1, d1, ds1, p1, q1, rfl, rfl, rfl, h1, r1⟩ := trodAll_cons r0
  obtain ⟨v2, vs2, d2, ds2, p2, q2, rfl, rfl, rfl, h2, r2⟩ := trodAll_cons r1
  obtain ⟨rfl, rfl, rfl⟩ := trodAll_nil r2
  obtain rfl : args = #[v0, v1, v2] := by cases args; simp_all
  simp only [DataW.weightsEach, List.all_append, Bool.and_eq_true] at hwt
  obtain ⟨g0, g1, g2, _⟩ := hwt
  obtain ⟨⟨A0, c0, l0⟩, rfl, hm0, hn0, hz0, rd0, hq0⟩ := opens_ints W H enc base v0 d0 p0 (hval 0 _ v0 rfl rfl) h0 g0
  obtain ⟨a1, rfl, hw_a1⟩ := opens_int W H enc base v1 d1 p1 (hval 1 _ v1 rfl rfl) h1 g1
  obtain ⟨a2, rfl, hw_a2⟩ := opens_int W H enc base v2 d2 p2 (hval 2 _ v2 rfl rfl) h2 g2
  exact rankRises_walk l0 A0 c0 a1 a2 W hm0 (by rw [show Try.prog.bytesOf 3 = 8 by kernel_rfl] at hz0; unfold reachBytes at hz0; dsimp only at hn0 hz0 ⊢; omega) rd0 hq0 hw_a1 hw_a2

theorem rankRises_lifted (os : Os) (started : os.Started) (H : Type) (enc : TypeId × Value → H) :
    ReturnsInHanded {} Try.checked os 7 .any (Rows.rankRisesSpec.pre6 enc Try.prog Try.f7 Rows.rankRisesRow.domain false) (Rows.rankRisesSpec.post enc Try.prog Try.f7 false true false false) :=
  law_lifted (s := Rows.rankRisesSpec) os started H enc (by kernel_rfl) Try.func7 rfl (by kernel_rfl)
    (by rw [Try.params7]; intro t ht; simp at ht; rcases ht with rfl | rfl | rfl <;> exact ⟨by kernel_rfl, of_decide_eq_true (by kernel_rfl)⟩)
    (by rw [Try.params7]; intro ds hd; match ds, hd with | [x0, x1, x2], _ => exact ⟨rfl, rfl, rfl⟩)
    (ChangeSpec.witness6 (enc := enc) (C := Try.checked) false ⟨#[], #[.slice none 0 0, .int .i64 0, .int .i64 0], []⟩ 8 (by kernel_rfl) (by kernel_rfl) (by kernel_rfl) (by kernel_rfl))
    rankRises_given

theorem rankRises_holds : Rows.RankRisesSaid :=
  OpenClaim.holds_of_wide 7 Try.f7 rfl rfl rfl rfl rfl rfl rfl ⟨rfl, rfl, rfl, rfl, rfl⟩ rfl rfl rfl rfl rfl (by kernel_rfl) Try.func7 (by kernel_rfl)
    (of_decide_eq_true (by kernel_rfl)) (by unfold Func.isWrapper; first | (rw [if_pos (by decide +kernel)]; kernel_rfl) | (rw [if_neg (by decide +kernel)]; exact ⟨rfl, rfl⟩))
    (fun os started H enc _ => rankRises_lifted os started H enc)
#print axioms rankRises_holds
end Go.Proofs.Ytcdpjabahmfhdaa

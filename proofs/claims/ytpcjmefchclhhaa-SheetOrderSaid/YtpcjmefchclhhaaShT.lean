/- The program's Runs. -/
import Derived.Test.YtpcjmefchclhhaaShS
import Derived.Test.YtpcjmefchclhhaaShH
namespace Go.Proofs.Ytpcjmefchclhhaa
open Go.RowKit Go.MapKept

set_option maxRecDepth 100000 in
set_option maxHeartbeats 4000000 in
theorem runs_any {w : World} {b m size : Nat} {bl : List (Nat × List UInt8)} (h : Raw w b m size bl) :
    Calls Try.prog 50 #[.pointer (some ⟨b, 0, none⟩)] w fun e w' => ∃ u, e = .returned u ∧ Own w' w.heap.size 46 2 pairC u (runsL (keysS bl)) ∧ Below w.heap.size w w' := by
  have HO := Lib.hid (order_any h)
  have HK := Lib.hid (show ∀ k ∈ keysS bl, k < 65536 from fun k hk => by
    obtain ⟨p, hp, rfl⟩ := List.mem_map.1 ((keysS_perm bl).mem_iff.1 hk)
    exact h.keys p hp)
  have hn1 : (keysS bl).length ≤ 65536 := by
    have h1 := nodup_lt 65536 (bl.map (·.1)) h.map.nodup (fun x hx => by
      obtain ⟨p, hp, rfl⟩ := List.mem_map.1 hx
      exact h.keys p hp)
    rw [(keysS_perm bl).length_eq]
    exact h1
  clear h
  generalize keysS bl = On at *
  go_enter Try.func50, Try.ntmps50
  go_wp2
  go_step3
  go_wp2
  go_step3
  go_wp2_with (go_at_call 70; (with_reducible refine HO.out.mono ?_); rintro e w1 ⟨A, c, rfl, hrd, hA, hb1⟩)
  have H2 := Lib.hid hrd
  have HB1 := Lib.hid hb1
  clear hrd hA hb1
  go_loopg [3, 9] On.length (fun g vo vi wr => ∃ i : Nat, i + g = On.length ∧ vi = .int .i64 (i : Int) ∧ Own wr w1.heap.size 46 2 pairC vo (runsL (On.take i)) ∧ Below w1.heap.size w1 wr)
  case atStart => exact ⟨0, Nat.zero_add _, rfl, Own.nil _ _ _ _ _, Below.refl _ _⟩
  case round =>
    obtain ⟨i, hi, rfl, hown, hbr⟩ := hrel
    have hsz := hbr.size
    have HO := Lib.hid hown
    have HB := Lib.hid hbr
    have hlen := len_runs (On.take i) []
    change (runsL (On.take i)).length ≤ 0 + (On.take i).length at hlen
    rw [List.length_take] at hlen
    have hlen : (runsL (On.take i)).length ≤ i := by omega
    clear hown hbr
    obtain ⟨Ao, co, rfl, -⟩ := HO.out.val
    cases gk with
    | succ g =>
      have hin : i < On.length := by omega
      obtain ⟨ad, hA', had⟩ := H2.out.addr hin
      subst hA'
      have hc : wr.cell? (ad.add i) = some (.int .i64 (On[i] : Int)) := (H2.out.below HB.out).at1 hin rfl
      have hxs := HK.out _ (List.getElem_mem hin)
      have HR := Lib.hid (runsL_succ hin)
      rcases Nat.eq_zero_or_pos i with h0 | h0
      · have HE := Lib.hid (show runsL (On.take (i + 1)) = runsL (On.take i) ++ [(On[i], On[i])] by rw [HR.out]; subst h0; rfl)
        have hz : (runsL (On.take i)).length = 0 := by subst h0; rfl
        generalize On[i] = x at *
        generalize runsL (On.take i) = out at *
        rw [hz] at HO ⊢
        have HZ := Lib.hid hz
        clear h0 HR hz
        go_wp2_with (refine wpList_app1 rfl (.tmp 35) (.tmp 39) 99 rfl 46 2 16 pairC pairT wr w1.heap.size (.slice Ao 0 co) out (x, x) _ _ _ rfl rfl rfl HO.out (by unfold maxLen; omega) (by omega) hsz ?_)
        intro v5 w5 hown5 hgr5
        have HO5 := Lib.hid hown5
        have HB5 := Lib.hid (HO.out.grown HB.out hgr5 (Nat.le_refl _) hsz)
        clear hown5 hgr5
        go_wp2
        go_roundg g
        case rel => exact ⟨i + 1, by omega, by go_num, by rw [HE.out]; exact HO5.out, HB5.out⟩
        case measure => omega
      · obtain ⟨a, ha⟩ := runs_at hin h0
        have hys := HK.out _ (List.getElem_mem (show i - 1 < On.length by omega))
        generalize On[i] = x at *
        generalize On[i - 1]'(by omega) = y at *
        generalize runsL (On.take i) = out at *
        have hol : 0 < out.length := by
          rcases Nat.eq_zero_or_pos out.length with h | h
          · rw [List.eq_nil_of_length_eq_zero h] at ha; cases ha
          · exact h
        have hlast : out[out.length - 1]'(by omega) = (a, y) := by
          have ha' := ha
          rw [List.getLast?_eq_getElem?, List.getElem?_eq_getElem (by omega)] at ha'
          injection ha'
        obtain ⟨gg, cc, hvv, hgb, hgw, hcl⟩ := HO.out.get (fun _ => rfl) (i := out.length - 1) (by omega) (j := 1) (u := .int .i64 (y : Int)) (by rw [hlast]; rfl)
        obtain ⟨rfl, -, rfl⟩ := Value.slice.inj hvv
        have hfr := (Own.cellC (f := pairC) (X := out) (fun _ => rfl) HO.out (i := out.length - 1) (by omega) (j := 1) (u := .int .i64 (y : Int)) (by rw [hlast]; rfl)).2.1
        have HSt := Lib.hid (Own.setC (f := pairC) (X := out) (fun _ => rfl) HO.out (i := out.length - 1) (by omega) (j := 1) (by omega) (a, x) (.int .i64 (x : Int)) (by rw [hlast]; rfl))
        have HSb := Lib.hid (HB.out.setCell (p := ⟨gg, (out.length - 1) * 2 + 1, none⟩) hgb (.int .i64 (x : Int)))
        obtain ⟨m, hm⟩ : ∃ m, out.length = m + 1 := ⟨out.length - 1, by omega⟩
        rw [hm, Nat.add_sub_cancel] at hcl hfr HSt HSb
        rw [hm] at HO hlen ⊢
        have HM := Lib.hid hm
        by_cases hxy : y + 1 = x
        · have HE := Lib.hid (show runsL (On.take (i + 1)) = out.set m (a, x) by rw [HR.out, runStep_ext ha hxy, hm, Nat.add_sub_cancel])
          have t1 : ((y : Int) == (x : Int) - 1) = true := by rw [beq_iff_eq]; omega
          clear hxy HR ha hlast hvv hm hol
          go_wp2
          go_roundg g
          case rel => exact ⟨i + 1, by omega, by go_num, by rw [HE.out]; exact HSt.out, HSb.out⟩
          case measure => omega
        · have HE := Lib.hid (show runsL (On.take (i + 1)) = out ++ [(x, x)] by rw [HR.out]; exact runStep_new ha hxy)
          have t1 : ((y : Int) == (x : Int) - 1) = false := by rw [beq_eq_false_iff_ne]; omega
          clear hxy HR ha hlast hvv hm hol
          go_wp2_with (refine wpList_app1 rfl (.tmp 35) (.tmp 39) 99 rfl 46 2 16 pairC pairT wr w1.heap.size (.slice (some ⟨gg, 0, none⟩) (m + 1) co) out (x, x) _ _ _ rfl rfl rfl HO.out (by rw [HM.out]; unfold maxLen; omega) (by rw [HM.out]; omega) hsz ?_)
          intro v5 w5 hown5 hgr5
          have HO5 := Lib.hid hown5
          have HB5 := Lib.hid (HO.out.grown HB.out hgr5 (Nat.le_refl _) hsz)
          clear hown5 hgr5
          go_wp2
          go_roundg g
          case rel => exact ⟨i + 1, by omega, by go_num, by rw [HE.out]; exact HO5.out, HB5.out⟩
          case measure => omega
    | zero =>
      have hii : i = On.length := by omega
      have HOn := Lib.hid (show runsL (On.take i) = runsL On by rw [List.take_of_length_le (by omega)])
      clear hii
      go_wp2
      rw [Exit.noGoto_ret]
      go_ret
      exact ⟨_, rfl, by rw [← HOn.out]; exact HO.out.mono HB1.out.size, HB1.out.trans (HB.out.mono HB1.out.size)⟩
end Go.Proofs.Ytpcjmefchclhhaa

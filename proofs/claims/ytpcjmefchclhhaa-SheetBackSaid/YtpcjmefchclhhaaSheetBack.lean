/- SheetBack: what was written is read, at any place of any file, and all other bytes stay as they were: for every input the law returns true. No condition. -/
import Derived.Test.YtpcjmefchclhhaaShZ
import Derived.Deep.DeepCutAuto
import Derived.IntWalk
namespace Go.Proofs.Ytpcjmefchclhhaa
open Go.RowKit Go.MapKept Go.ChangeShapes Go.WideShapes Go.ChangeAt

set_option maxRecDepth 100000 in
set_option maxHeartbeats 16000000 in
theorem sheetBack_walk (l : List (OpR × Option Addr × Nat)) (A0 : Option Addr) (c0 : Nat) (at_ : Int) (l2 : List UInt8) (A2 : Option Addr) (c2 : Nat) (W : World) (hm0 : l.length ≤ maxLen) (rd0 : Rd W W.heap.size 4 opC A0 l) (hq0 : ∀ y ∈ l, opQ W y)
    (hm2 : l2.length ≤ maxLen) (hn2 : A2 = none → c2 = 0) (rd2 : Rd W W.heap.size 1 byteC A2 l2) :
    Calls Try.prog 4 #[.slice A0 l.length c0, .int .i64 at_, .slice A2 l2.length c2] W fun e W' => e = .returned (.bool true) ∧ Below W.heap.size W W' := by
  have HN := Lib.hid (new_any W)
  have HA := Lib.hid alive_any
  have HFw := Lib.hid (show ∀ w, Below W.heap.size W w → Calls Try.prog 14 #[.slice A0 l.length c0] w fun e w' => e = .returned (.bool (fewB l)) ∧ Below w.heap.size w w' from fun w hb =>
    few_any l A0 c0 w hm0 ((rd0.below hb).more hb.size) (fun y hy => (hq0 y hy).1))
  have HP := Lib.hid (fun (w1 w2 : World) (b m : Nat) (hb : W.heap.size ≤ b) (hm : W.heap.size ≤ m) (hR : Raw w1 b m 0 []) (hB : Below W.heap.size W w1) (h2 : Below w1.heap.size w1 w2) => play_new (c0 := c0) hm0 rd0 hq0 hb hm hR hB h2)
  have RD2 := Lib.hid rd2
  have HN2 := Lib.hid hn2
  clear rd0 hq0 rd2 hn2
  generalize hn : l.length = n at *
  clear hn
  have HM2 := Lib.hid hm2
  unfold maxLen at hm2
  have hcs : fewB l = false ∨ fewB l = true ∧ (3000 < l2.length ∨ l2.length ≤ 3000 ∧ (20000 < at_ ∨ at_ ≤ 20000)) := by cases fewB l <;> simp <;> omega
  have early : fewB l = false ∨ 3000 < l2.length ∨ 20000 < at_ → Calls Try.prog 4 #[.slice A0 n c0, .int .i64 at_, .slice A2 l2.length c2] W fun e W' => e = .returned (.bool true) ∧ Below W.heap.size W W' := by
    intro he
    cases hf : fewB l
    · rw [hf] at HFw
      clear hf he hcs
      go_enter Try.func4, Try.ntmps4
      go_wp2_with (first
        | (go_at_call 13; (with_reducible refine HN.out.mono ?_); rintro e w1 ⟨b, m, rfl, hb, hm, hR, hB⟩; replace hB := Lib.hid hB; clear hR)
        | (go_at_call 14; (with_reducible refine (HFw.out _ hB.out).mono ?_); rintro e w2 ⟨rfl, hB2⟩; replace hB2 := Lib.hid hB2)
        | (go_at_call 15; (with_reducible refine (HA.out _).mono ?_); rintro e w3 ⟨rfl, hB3⟩; replace hB3 := Lib.hid hB3))
      go_ret
      exact ⟨rfl, hB.out.trans ((hB2.out.trans (hB3.out.mono hB2.out.size)).mono hB.out.size)⟩
    · rw [hf] at HFw he
      have he' : 3000 < l2.length ∨ l2.length ≤ 3000 ∧ 20000 < at_ := by simp at he; omega
      clear hf he hcs
      rcases he' with h1 | ⟨h1, h2⟩
      all_goals
        go_enter Try.func4, Try.ntmps4
        go_wp2_with (first
          | (go_at_call 13; (with_reducible refine HN.out.mono ?_); rintro e w1 ⟨b, m, rfl, hb, hm, hR, hB⟩; replace hB := Lib.hid hB; clear hR)
          | (go_at_call 14; (with_reducible refine (HFw.out _ hB.out).mono ?_); rintro e w2 ⟨rfl, hB2⟩; replace hB2 := Lib.hid hB2)
          | (go_at_call 15; (with_reducible refine (HA.out _).mono ?_); rintro e w3 ⟨rfl, hB3⟩; replace hB3 := Lib.hid hB3))
        go_ret
        exact ⟨rfl, hB.out.trans ((hB2.out.trans (hB3.out.mono hB2.out.size)).mono hB.out.size)⟩
  rcases hcs with h | ⟨h, h1 | ⟨h1, h2 | h2⟩⟩
  · exact early (.inl h)
  · exact early (.inr (.inl h1))
  · exact early (.inr (.inr h2))
  clear early
  rw [h] at HFw
  clear h hm2
  have e1 : decide (3000 < (l2.length : Int)) = false := decide_eq_false (by omega)
  have e2 : decide (20000 < at_) = false := decide_eq_false (by omega)
  go_enter Try.func4, Try.ntmps4
  go_wp2_with (first
    | (go_at_call 13; (with_reducible refine HN.out.mono ?_); rintro e w1 ⟨b, m, rfl, hb, hm, hR, hB⟩; replace hB := Lib.hid hB; replace hR := Lib.hid hR)
    | (go_at_call 14; (with_reducible refine (HFw.out _ hB.out).mono ?_); rintro e w2 ⟨rfl, hB2⟩; replace hB2 := Lib.hid hB2)
    | (go_at_call 16; (with_reducible refine (HP.out w1 _ b m hb hm hR.out hB.out hB2.out).mono ?_); rintro e w4 ⟨A, c, A', c', size', bl', B', On', rfl, hR4, hV4, hS4, hB4⟩; have hRd4 := read_own hR4 hS4 0 1048576; rw [rread_all hV4.lenB] at hRd4; have hlb := hV4.lenB; replace hR4 := Lib.hid hR4; replace hS4 := Lib.hid hS4; replace hB4 := Lib.hid hB4; replace hRd4 := Lib.hid hRd4; clear hV4)
    | (go_at_call 17; (with_reducible refine hRd4.out.mono ?_); rintro e w5 ⟨P0, rfl, hv5, hB5⟩; have ho5 := Own.empty w5 w5.heap.size 5 1 byteC rfl (Nat.le_refl _); replace ho5 := Lib.hid ho5; have hbW5 := hB4.out.trans (hB5.mono hB4.out.size); have hr5 := ((RD2.out.below hbW5).alloc hbW5.size (.cells #[] 5)); replace hr5 := Lib.hid hr5; replace hbW5 := Lib.hid hbW5; replace hv5 := Lib.hid hv5; replace hB5 := Lib.hid hB5)
    | (refine wpList_appL rfl (.tmp 41) (.tmp 42) 27 rfl 5 1 1 byteC byteT (w5.alloc (.cells #[] 5)) w5.heap.size (.slice (some ⟨w5.heap.size, 0, none⟩) 0 0) [] l2 A2 c2 W.heap.size rfl rfl ho5.out hr5.out HN2.out (by simp [maxLen] <;> omega) (by simp <;> omega) (by simp <;> omega) ?_))
  intro v7 w7 hown7 hgr7
  have HB57 := Lib.hid (show Below w5.heap.size w5 w7 from ho5.out.grown ((Below.refl _ _).alloc (Nat.le_refl _) _) hgr7 (Nat.le_refl _) (by simp))
  obtain ⟨A7, c7, rfl, h71, h72, h73, -⟩ := hown7.val
  have hrd7 : Rd w7 w7.heap.size 1 byteC A7 l2 := by
    obtain ⟨A8, c8, e8, -, -, h8, -⟩ := hown7.rd (fun _ => rfl)
    obtain ⟨rfl, -, rfl⟩ := Value.slice.inj e8
    exact h8
  have HO7 := Lib.hid hown7
  have H73 := Lib.hid h73
  have hs57 := HB57.out.size
  have hs45 := hB5.out.size
  have hb4 := hR4.out.lt
  have hm4 := hR4.out.map.lt
  have HR7 := Lib.hid ((hR4.out.below hB5.out).below HB57.out)
  have HRd0 := Lib.hid ((own_rdP (B := w4.heap.size) hv5.out).below HB57.out)
  have HWr := Lib.hid (write_any HR7.out at_ A7 c7 l2 HM2.out h71 hrd7)
  have HBW7 := Lib.hid (hbW5.out.trans (HB57.out.mono hbW5.out.size))
  have HP0 := Lib.hid (show ∀ a, P0 = some a → w4.heap.size ≤ a.block ∧ a.block < w5.heap.size from fun a ha => by
    rcases hv5.out with ⟨e, _⟩ | ⟨g, h1, h2, h3⟩
    · rw [e] at ha; cases ha
    · rw [h2] at ha; injection ha with ha; subst ha
      exact ⟨h1, (Array.getElem?_eq_some_iff.1 h3).1⟩)
  clear hown7 hgr7 h73 hrd7 ho5 hr5 hRd4 HFw HN HP
  have hst : ∀ (w : World) (B c : Nat) (A : Option Addr), Rd w B 1 byteC A l2 → (convert 27 9 (.slice A l2.length c)).run Try.prog w = .ok (.string ⟨l2.toArray⟩) w := fun _ _ _ _ h => str_rd h
  have HSt := Lib.hid hst
  clear hst
  cases hf : fitsB at_ l2.length
  · have hneg : at_ < 0 := by have := of_decide_eq_false hf; omega
    have e3 : decide (at_ < 0) = true := decide_eq_true hneg
    have HSz := Lib.hid (show wrSize size' at_ l2.length = size' by unfold wrSize; rw [hf]; simp)
    have HBl := Lib.hid (show wrBl bl' at_ l2 = bl' by unfold wrBl; rw [hf]; rfl)
    rw [hf] at HWr
    clear hf hneg
    go_upto_region 8 with (go_at_call 19; (with_reducible refine HWr.out.mono ?_); rintro e w8 ⟨rfl, hR8, hF8⟩; rw [HSz.out, HBl.out] at hR8; replace hR8 := Lib.hid hR8; replace hF8 := Lib.hid hF8)
    have hs78 := hF8.out.size
    have hbz := Below.refl w8.heap.size w8
    have hbz2 := hbz.drew
    have HBW8 := Lib.hid (hF8.out.below HBW7.out HBW7.out.size (by simp; omega))
    have hrd0 : Rd w8 w7.heap.size 1 byteC P0 B' := HRd0.out.more (Nat.le_refl _) |>.apart hF8.out (fun a ha hm => by have := HP0.out a ha; simp at hm; omega) |>.more (by omega)
    have HRr := Lib.hid (show ∀ w', Below w8.heap.size w8 w' → Calls Try.prog 17 #[.pointer (some ⟨b, 0, none⟩), .int .i64 0, .int .i64 1048576] w' fun e w'' => ∃ A c, e = .returned (.slice A B'.length c) ∧ Rd w'' w''.heap.size 1 byteC A B' ∧ Below w8.heap.size w8 w'' from fun w' hb => (read_rd (hR8.out.below hb) hS4.out 0 1048576).mono fun e w'' ⟨A, c, h1, h2, _, h3⟩ => by
      rw [rread_all hlb] at h1 h2
      exact ⟨A, c, h1, h2, hb.trans (h3.mono hb.size)⟩)
    have HAr := Lib.hid (show ∀ w', Below w8.heap.size w8 w' → Calls Try.prog 15 #[] w' fun e w'' => e = .returned (.bool true) ∧ Below w8.heap.size w8 w'' from fun w' hb => (HA.out w').mono fun e w'' ⟨h1, h2⟩ => ⟨h1, hb.trans (h2.mono hb.size)⟩)
    have hcv : ∀ w', Below w8.heap.size w8 w' → (convert 27 9 (.slice P0 B'.length B'.length)).run Try.prog w' = .ok (.string ⟨B'.toArray⟩) w' := fun w' hb => str_rd (hrd0.keep fun p hp => hb.cell (by omega))
    go_cut [6] (fun s6 wx => s6 = .bool true ∧ Below w8.heap.size w8 wx)
    case first =>
      refine wp_region_held_drew (S := fun w' => (convert 27 9 (.slice P0 B'.length B'.length)).run Try.prog w' = .ok (.string ⟨B'.toArray⟩) w') (by kernel_rfl) (hcv w8.drew hbz2) (fun hHeld => ?_)
      have HCw := Lib.hid hcv
      clear hcv
      refine wpAnyH_ready (rs := [0]) (by kernel_rfl) (by simp) ?_
      refine AllReadyH.cons rfl (fun K hK => ?_) AllReadyH.nil
      go_simp
      refine (HAr.out _ (by assumption)).mono ?_
      rintro e w9 ⟨rfl, hb9⟩
      go_wp2_with fail
      refine hK.out _ _ (HCw.out _ hb9) (fun hHeld2 => ?_)
      clear hK
      simp -failIfUnchanged only [Act.put, List.getElem_toArray, List.getElem_cons_zero, List.getElem_cons_succ, List.setIfInBounds_toArray, List.set_cons_zero, List.set_cons_succ]
      refine wpAnyH_take (i := 1) (v := ?_) rfl (by kernel_rfl) (by kernel_rfl) (by kernel_rfl) (fun _ _ _ h => h) (Or.inl ⟨by rfl, ?_⟩) (by assumption) ?_
      rotate_left
      · intro w hSw
        (try subst hSw)
        go_simp
        first | done | with_reducible rfl
      simp -failIfUnchanged only [Act.put, List.getElem_toArray, List.getElem_cons_zero, List.getElem_cons_succ, List.setIfInBounds_toArray, List.set_cons_zero, List.set_cons_succ]
      refine wpAnyH_take (i := 2) (v := ?_) rfl (by kernel_rfl) (by kernel_rfl) (by kernel_rfl) (fun _ _ _ h => h) (Or.inl ⟨by rfl, ?_⟩) (by assumption) ?_
      rotate_left
      · intro w hSw
        (try subst hSw)
        go_simp
        first | done | with_reducible rfl
      simp -failIfUnchanged only [Act.put, List.getElem_toArray, List.getElem_cons_zero, List.getElem_cons_succ, List.setIfInBounds_toArray, List.set_cons_zero, List.set_cons_succ]
      refine wpAnyH_take (i := 3) (v := ?_) rfl (by kernel_rfl) (by kernel_rfl) (by kernel_rfl) (fun _ _ _ h => h) (Or.inl ⟨by rfl, ?_⟩) (by assumption) ?_
      rotate_left
      · intro w hSw
        (try subst hSw)
        go_simp
        first | done | with_reducible rfl
      simp -failIfUnchanged only [Act.put, List.getElem_toArray, List.getElem_cons_zero, List.getElem_cons_succ, List.setIfInBounds_toArray, List.set_cons_zero, List.set_cons_succ]
      refine wpAnyH_take (i := 4) (v := ?_) rfl (by kernel_rfl) (by kernel_rfl) (by kernel_rfl) (fun _ _ _ h => h) (Or.inl ⟨by rfl, ?_⟩) (by assumption) ?_
      rotate_left
      · intro w hSw
        (try subst hSw)
        go_simp
        first | done | with_reducible rfl
      simp -failIfUnchanged only [Act.put, List.getElem_toArray, List.getElem_cons_zero, List.getElem_cons_succ, List.setIfInBounds_toArray, List.set_cons_zero, List.set_cons_succ]
      refine wpAnyH_take (i := 5) (v := ?_) rfl (by kernel_rfl) (by kernel_rfl) (by kernel_rfl) (fun _ _ _ h => h) (Or.inl ⟨by rfl, ?_⟩) (by assumption) ?_
      rotate_left
      · intro w hSw
        (try subst hSw)
        go_simp
        first | done | with_reducible rfl
      simp -failIfUnchanged only [Act.put, List.getElem_toArray, List.getElem_cons_zero, List.getElem_cons_succ, List.setIfInBounds_toArray, List.set_cons_zero, List.set_cons_succ]
      refine wpAnyH_take (i := 6) (v := ?_) rfl (by kernel_rfl) (by kernel_rfl) (by kernel_rfl) (fun _ _ _ h => h) (Or.inl ⟨by rfl, ?_⟩) (by assumption) ?_
      rotate_left
      · intro w hSw
        (try subst hSw)
        go_simp
        first | done | with_reducible rfl
      simp -failIfUnchanged only [Act.put, List.getElem_toArray, List.getElem_cons_zero, List.getElem_cons_succ, List.setIfInBounds_toArray, List.set_cons_zero, List.set_cons_succ]
      refine wpAnyH_take (i := 9) (v := ?_) rfl (by kernel_rfl) (by kernel_rfl) (by kernel_rfl) (fun _ _ _ h => h) (Or.inl ⟨by rfl, ?_⟩) (by assumption) ?_
      rotate_left
      · intro w hSw
        (try subst hSw)
        go_simp
        first | done | with_reducible rfl
      simp -failIfUnchanged only [Act.put, List.getElem_toArray, List.getElem_cons_zero, List.getElem_cons_succ, List.setIfInBounds_toArray, List.set_cons_zero, List.set_cons_succ]
      refine wpAnyH_take (i := 10) (v := ?_) rfl (by kernel_rfl) (by kernel_rfl) (by kernel_rfl) (fun _ _ _ h => h) (Or.inl ⟨by rfl, ?_⟩) (by assumption) ?_
      rotate_left
      · intro w hSw
        (try subst hSw)
        go_simp
        first | done | with_reducible rfl
      simp -failIfUnchanged only [Act.put, List.getElem_toArray, List.getElem_cons_zero, List.getElem_cons_succ, List.setIfInBounds_toArray, List.set_cons_zero, List.set_cons_succ]
      refine wpAnyH_ready (rs := [7]) (by kernel_rfl) (by simp) ?_
      refine AllReadyH.cons rfl (fun K hK => ?_) AllReadyH.nil
      go_simp
      refine (HRr.out _ (by assumption)).mono ?_
      rintro e w10 ⟨A10, c10, rfl, hr10, hb10⟩
      have hcv10 := str_rd (c := c10) hr10
      go_wp2_with fail
      refine hK.out _ _ (HCw.out _ hb10) (fun hHeld2 => ?_)
      clear hK
      refine wpAnyH_weaken (S := fun w' => w' = w10) (fun w' e => by rw [e]; exact HCw.out _ hb10) _ _ _ _ ?_
      have hEq : w10 = w10 := rfl
      simp -failIfUnchanged only [Act.put, List.getElem_toArray, List.getElem_cons_zero, List.getElem_cons_succ, List.setIfInBounds_toArray, List.set_cons_zero, List.set_cons_succ]
      refine wpAnyH_take (i := 8) (v := ?_) rfl (by kernel_rfl) (by kernel_rfl) (by kernel_rfl) (fun _ _ _ h => h) (Or.inl ⟨by rfl, ?_⟩) (by assumption) ?_
      rotate_left
      · intro w hSw
        (try subst hSw)
        go_simp
        first | done | with_reducible rfl
      simp -failIfUnchanged only [Act.put, List.getElem_toArray, List.getElem_cons_zero, List.getElem_cons_succ, List.setIfInBounds_toArray, List.set_cons_zero, List.set_cons_succ]
      refine wpAnyH_take (i := 11) (v := ?_) rfl (by kernel_rfl) (by kernel_rfl) (by kernel_rfl) (fun _ _ _ h => h) (Or.inl ⟨by rfl, ?_⟩) (by assumption) ?_
      rotate_left
      · intro w hSw
        (try subst hSw)
        go_simp
        first | done | with_reducible rfl
      simp -failIfUnchanged only [Act.put, List.getElem_toArray, List.getElem_cons_zero, List.getElem_cons_succ, List.setIfInBounds_toArray, List.set_cons_zero, List.set_cons_succ]
      refine wpAnyH_take (i := 12) (v := ?_) rfl (by kernel_rfl) (by kernel_rfl) (by kernel_rfl) (fun _ _ _ h => h) (Or.inl ⟨by rfl, ?_⟩) (by assumption) ?_
      rotate_left
      · intro w hSw
        (try subst hSw)
        go_simp
        first | done | with_reducible rfl
      simp -failIfUnchanged only [Act.put, List.getElem_toArray, List.getElem_cons_zero, List.getElem_cons_succ, List.setIfInBounds_toArray, List.set_cons_zero, List.set_cons_succ]
      refine wpAnyH_take (i := 13) (v := ?_) rfl (by kernel_rfl) (by kernel_rfl) (by kernel_rfl) (fun _ _ _ h => h) (Or.inl ⟨by rfl, ?_⟩) (by assumption) ?_
      rotate_left
      · intro w hSw
        (try subst hSw)
        go_simp
        first | done | with_reducible rfl
      simp -failIfUnchanged only [Act.put, List.getElem_toArray, List.getElem_cons_zero, List.getElem_cons_succ, List.setIfInBounds_toArray, List.set_cons_zero, List.set_cons_succ]
      refine wpAnyH_done (by kernel_rfl) ?_ _
      go_wp2_with fail
      go_meet
      exact ⟨rfl, hb10⟩
    case rest =>
    obtain ⟨rfl, hb11⟩ := hcut
    have HB11 := Lib.hid (HBW8.out.trans (hb11.mono HBW8.out.size))
    clear hb11
    go_wp2
    go_ret
    exact ⟨rfl, HB11.out⟩
  · obtain ⟨ha, hn1, ha1⟩ := of_decide_eq_true hf
    obtain ⟨a, rfl⟩ := Int.eq_ofNat_of_zero_le ha
    have HFt := Lib.hid hf
    have hS8 := same_write hS4.out (a : Int) l2
    have hback : 0 < l2.length → rreadL (rwB B' a l2) a l2.length = l2 := fun h => rread_back h hf
    have HBk := Lib.hid hback
    have HLe := Lib.hid (show B'.length ≤ (rwB B' (a : Int) l2).length from rwB_len)
    have HEl := Lib.hid (show ∀ i, i < a ∨ a + l2.length ≤ i → ∀ (h1 : i < B'.length) (h2 : i < (rwB B' (a : Int) l2).length), (rwB B' (a : Int) l2)[i] = B'[i] from fun i hi h1 h2 => rwB_else hi h1 h2)
    rw [hf] at HWr
    have HS8 := Lib.hid hS8
    clear hf hS8 hback
    generalize hsz8 : wrSize size' (a : Int) l2.length = size8 at *
    generalize wrBl bl' (a : Int) l2 = bl8 at *
    generalize rwOn On' (a : Int) l2.length = On8 at *
    generalize rwB B' (a : Int) l2 = B8 at *
    have hl8 : B8.length = size8 := HS8.out.len
    clear hsz8
    obtain ⟨S7, hS7, hS7g, hS7b⟩ : ∃ S : List Nat, (∀ k ∈ S, w5.heap.size ≤ k) ∧ (∀ g, A7 = some ⟨g, 0, none⟩ → g ∈ S) ∧ True := by
      cases h7 : A7 with
      | none => exact ⟨[], by simp, by simp, trivial⟩
      | some ad => exact ⟨[ad.block], fun k hk => by simp at hk; subst hk; exact (H73.out ad h7).2.1, fun g hg => by injection hg with hg; simp [hg], trivial⟩
    have HA7 := Lib.hid (show ∀ j, j < l2.length → ∃ g, A7 = some ⟨g, 0, none⟩ from fun j hj => by
      cases h7 : A7 with
      | none =>
        rcases HO7.out.2 with ⟨_, h0⟩ | ⟨g, _, _, e, _⟩
        · omega
        · rw [h7] at e; cases e
      | some ad =>
        have := (H73.out ad h7).1
        rcases HO7.out.2 with ⟨e, h0⟩ | ⟨g, _, _, e, _⟩
        · omega
        · rw [h7] at e
          obtain ⟨e2, -, -⟩ := Value.slice.inj e
          injection e2 with e2
          exact ⟨g, by rw [e2]⟩)
    go_upto_region 9 with (go_at_call 19; (with_reducible refine HWr.out.mono ?_); rintro e w8 ⟨rfl, hR8, hF8⟩; replace hR8 := Lib.hid hR8; replace hF8 := Lib.hid hF8)
    have hs78 := hF8.out.size
    have hsm8 := hR8.out.small
    have HBW8 := Lib.hid (hF8.out.below HBW7.out HBW7.out.size (by simp; omega))
    have HT8 := Lib.hid (show ∀ g, A7 = some ⟨g, 0, none⟩ → w5.heap.size ≤ g ∧ g < w8.heap.size ∧ Turns w8 g l2.length 0 from fun g hg => by
      subst hg
      have h1 := (H73.out _ rfl)
      have h12 : g < w7.heap.size := h1.2.2
      have h11 : w5.heap.size ≤ g := h1.2.1
      exact ⟨h11, by omega, (own_turns HO7.out).keep (hF8.out.block g h12 (by simp; omega))⟩)
    go_wp2
    go_loopw [64] (fun vi wr => ∃ i : Nat, i ≤ l2.length ∧ vi = .int .i64 (i : Int) ∧ Frm S7 w8 wr ∧ ∀ g, A7 = some ⟨g, 0, none⟩ → Turns wr g l2.length i) (fun vi _ => l2.length - (intOf vi).toNat)
    case atStart => exact ⟨0, Nat.zero_le _, rfl, Frm.refl _ _, fun g hg => (HT8.out g hg).2.2⟩
    case round =>
      obtain ⟨i, hi, rfl, hfr, htr⟩ := hrel
      have HFr := Lib.hid hfr
      have HTr := Lib.hid htr
      clear hfr htr
      by_cases hin : i < l2.length
      · obtain ⟨g, rfl⟩ := HA7.out i hin
        obtain ⟨⟨x, hc⟩, hfz, hgl⟩ := (HTr.out g rfl).cell hin
        have hgS := hS7g g rfl
        unfold byteV at hc
        go_wp2
        go_roundw
        case rel => exact ⟨i + 1, by omega, by go_num, HFr.out.setCell (.inl hgS) _, fun g' e => by injection e with e; injection e with e; subst e; exact (HTr.out g rfl).set _⟩
        case measure => simp [intOf]; omega
      · have hs8r := HFr.out.size
        have HRr := Lib.hid (hR8.out.frm HFr.out (fun hm => by have := hS7 _ hm; omega) (fun hm => by have := hS7 _ hm; omega))
        have HBWr := Lib.hid (show Below W.heap.size W wr from HFr.out.below HBW8.out HBW8.out.size (fun k hk => by have := hS7 k hk; have := hbW5.out.size; omega))
        have HR0r := Lib.hid (show Rd wr w5.heap.size 1 byteC P0 B' from (HRd0.out.apart hF8.out (fun ad ha hm => by have := HP0.out ad ha; simp at hm; omega)).apart HFr.out (fun ad ha hm => by have h1 := HP0.out ad ha; have h2 := hS7 _ hm; omega))
        have hall : rreadL B8 0 1048576 = B8 := rread_all (by omega)
        have hrd14 := read_rd HRr.out HS8.out 0 1048576
        rw [hall] at hrd14
        have HRd14 := Lib.hid hrd14
        clear hall hrd14 hs78
        go_upto_region 15 with (go_at_call 17; (with_reducible refine HRd14.out.mono ?_); rintro e w14 ⟨A14, c14, rfl, hr14, -, hB14⟩; replace hr14 := Lib.hid hr14; replace hB14 := Lib.hid hB14)
        have hs14 := hB14.out.size
        have hbz := Below.refl w14.heap.size w14
        have hbz2 := hbz.drew
        have HBW14 := Lib.hid (HBWr.out.trans (hB14.out.mono HBWr.out.size))
        have e6 : decide (B8.length < B'.length) = false := decide_eq_false (by have := HLe.out; omega)
        have e7 : decide (size8 < B'.length) = false := decide_eq_false (by have := HLe.out; omega)
        go_cut [98] (fun s98 wx => s98 = .bool false ∧ Below w14.heap.size w14 wx)
        case first =>
          rcases Nat.eq_zero_or_pos l2.length with h0 | h0
          · have e4 : decide (0 < l2.length) = false := decide_eq_false (by omega)
            go_quiet (fail)
            have HBq := Lib.hid (below_drewN (Below.refl w14.heap.size w14) nq)
            go_wp2_with fail
            go_meet
            exact ⟨rfl, HBq.out⟩
          · have e4 : decide (0 < l2.length) = true := decide_eq_true h0
            have HRb := Lib.hid (show ∀ w', Below w14.heap.size w14 w' → Calls Try.prog 17 #[.pointer (some ⟨b, 0, none⟩), .int .i64 (a : Int), .int .i64 (l2.length : Int)] w' fun e w'' => ∃ A c, e = .returned (.slice A l2.length c) ∧ Rd w'' w''.heap.size 1 byteC A l2 ∧ Below w14.heap.size w14 w'' from fun w' hb => (read_rd ((HRr.out.below hB14.out).below hb) HS8.out (a : Int) (l2.length : Int)).mono fun e w'' ⟨A, c, h1, h2, _, h3⟩ => by
              rw [HBk.out h0] at h1 h2
              exact ⟨A, c, h1, h2, hb.trans (h3.mono hb.size)⟩)
            have hcv : ∀ w', Below w14.heap.size w14 w' → (convert 27 9 (.slice A2 l2.length c2)).run Try.prog w' = .ok (.string ⟨l2.toArray⟩) w' := fun w' hb => str_rd ((RD2.out.below HBW14.out).below (hb.mono (HBW14.out.size)))
            refine wp_region_held_drew (S := fun w' => (convert 27 9 (.slice A2 l2.length c2)).run Try.prog w' = .ok (.string ⟨l2.toArray⟩) w') (by kernel_rfl) (hcv w14.drew hbz2) (fun hHeld => ?_)
            have HCw := Lib.hid hcv
            clear hcv
            refine wpAnyH_take (i := 0) (v := ?_) rfl (by kernel_rfl) (by kernel_rfl) (by kernel_rfl) (fun _ _ _ h => h) (Or.inl ⟨by rfl, ?_⟩) (by assumption) ?_
            rotate_left
            · intro w hSw
              (try subst hSw)
              go_simp
              first | done | with_reducible rfl
            simp -failIfUnchanged only [Act.put, List.getElem_toArray, List.getElem_cons_zero, List.getElem_cons_succ, List.setIfInBounds_toArray, List.set_cons_zero, List.set_cons_succ]
            refine wpAnyH_take (i := 1) (v := ?_) rfl (by kernel_rfl) (by kernel_rfl) (by kernel_rfl) (fun _ _ _ h => h) (Or.inl ⟨by rfl, ?_⟩) (by assumption) ?_
            rotate_left
            · intro w hSw
              (try subst hSw)
              go_simp
              first | done | with_reducible rfl
            simp -failIfUnchanged only [Act.put, List.getElem_toArray, List.getElem_cons_zero, List.getElem_cons_succ, List.setIfInBounds_toArray, List.set_cons_zero, List.set_cons_succ]
            refine wpAnyH_take (i := 2) (v := ?_) rfl (by kernel_rfl) (by kernel_rfl) (by kernel_rfl) (fun _ _ _ h => h) (Or.inl ⟨by rfl, ?_⟩) (by assumption) ?_
            rotate_left
            · intro w hSw
              (try subst hSw)
              go_simp
              first | done | with_reducible rfl
            simp -failIfUnchanged only [Act.put, List.getElem_toArray, List.getElem_cons_zero, List.getElem_cons_succ, List.setIfInBounds_toArray, List.set_cons_zero, List.set_cons_succ]
            refine wpAnyH_take (i := 3) (v := ?_) rfl (by kernel_rfl) (by kernel_rfl) (by kernel_rfl) (fun _ _ _ h => h) (Or.inl ⟨by rfl, ?_⟩) (by assumption) ?_
            rotate_left
            · intro w hSw
              (try subst hSw)
              go_simp
              first | done | with_reducible rfl
            simp -failIfUnchanged only [Act.put, List.getElem_toArray, List.getElem_cons_zero, List.getElem_cons_succ, List.setIfInBounds_toArray, List.set_cons_zero, List.set_cons_succ]
            refine wpAnyH_take (i := 4) (v := ?_) rfl (by kernel_rfl) (by kernel_rfl) (by kernel_rfl) (fun _ _ _ h => h) (Or.inl ⟨by rfl, ?_⟩) (by assumption) ?_
            rotate_left
            · intro w hSw
              (try subst hSw)
              go_simp
              first | done | with_reducible rfl
            simp -failIfUnchanged only [Act.put, List.getElem_toArray, List.getElem_cons_zero, List.getElem_cons_succ, List.setIfInBounds_toArray, List.set_cons_zero, List.set_cons_succ]
            refine wpAnyH_take (i := 5) (v := ?_) rfl (by kernel_rfl) (by kernel_rfl) (by kernel_rfl) (fun _ _ _ h => h) (Or.inl ⟨by rfl, ?_⟩) (by assumption) ?_
            rotate_left
            · intro w hSw
              (try subst hSw)
              go_simp
              first | done | with_reducible rfl
            simp -failIfUnchanged only [Act.put, List.getElem_toArray, List.getElem_cons_zero, List.getElem_cons_succ, List.setIfInBounds_toArray, List.set_cons_zero, List.set_cons_succ]
            refine wpAnyH_take (i := 6) (v := ?_) rfl (by kernel_rfl) (by kernel_rfl) (by kernel_rfl) (fun _ _ _ h => h) (Or.inl ⟨by rfl, ?_⟩) (by assumption) ?_
            rotate_left
            · intro w hSw
              (try subst hSw)
              go_simp
              first | done | with_reducible rfl
            simp -failIfUnchanged only [Act.put, List.getElem_toArray, List.getElem_cons_zero, List.getElem_cons_succ, List.setIfInBounds_toArray, List.set_cons_zero, List.set_cons_succ]
            refine wpAnyH_take (i := 7) (v := ?_) rfl (by kernel_rfl) (by kernel_rfl) (by kernel_rfl) (fun _ _ _ h => h) (Or.inl ⟨by rfl, ?_⟩) (by assumption) ?_
            rotate_left
            · intro w hSw
              (try subst hSw)
              go_simp
              first | done | with_reducible rfl
            simp -failIfUnchanged only [Act.put, List.getElem_toArray, List.getElem_cons_zero, List.getElem_cons_succ, List.setIfInBounds_toArray, List.set_cons_zero, List.set_cons_succ]
            refine wpAnyH_take (i := 10) (v := ?_) rfl (by kernel_rfl) (by kernel_rfl) (by kernel_rfl) (fun _ _ _ h => h) (Or.inl ⟨by rfl, ?_⟩) (by assumption) ?_
            rotate_left
            · intro w hSw
              (try subst hSw)
              go_simp
              first | done | with_reducible rfl
            simp -failIfUnchanged only [Act.put, List.getElem_toArray, List.getElem_cons_zero, List.getElem_cons_succ, List.setIfInBounds_toArray, List.set_cons_zero, List.set_cons_succ]
            refine wpAnyH_take (i := 11) (v := ?_) rfl (by kernel_rfl) (by kernel_rfl) (by kernel_rfl) (fun _ _ _ h => h) (Or.inl ⟨by rfl, ?_⟩) (by assumption) ?_
            rotate_left
            · intro w hSw
              (try subst hSw)
              go_simp
              first | done | with_reducible rfl
            simp -failIfUnchanged only [Act.put, List.getElem_toArray, List.getElem_cons_zero, List.getElem_cons_succ, List.setIfInBounds_toArray, List.set_cons_zero, List.set_cons_succ]
            refine wpAnyH_ready (rs := [8]) (by kernel_rfl) (by simp) ?_
            refine AllReadyH.cons rfl (fun K hK => ?_) AllReadyH.nil
            go_simp
            refine (HRb.out _ (by assumption)).mono ?_
            rintro e w10 ⟨A10, c10, rfl, hr10, hb10⟩
            have hcv10 := HSt.out _ _ c10 _ hr10
            go_wp2_with fail
            refine hK.out _ _ (HCw.out _ hb10) (fun hHeld2 => ?_)
            clear hK
            refine wpAnyH_weaken (S := fun w' => w' = w10) (fun w' e => by rw [e]; exact HCw.out _ hb10) _ _ _ _ ?_
            have hEq : w10 = w10 := rfl
            simp -failIfUnchanged only [Act.put, List.getElem_toArray, List.getElem_cons_zero, List.getElem_cons_succ, List.setIfInBounds_toArray, List.set_cons_zero, List.set_cons_succ]
            refine wpAnyH_take (i := 9) (v := ?_) rfl (by kernel_rfl) (by kernel_rfl) (by kernel_rfl) (fun _ _ _ h => h) (Or.inl ⟨by rfl, ?_⟩) (by assumption) ?_
            rotate_left
            · intro w hSw
              (try subst hSw)
              go_simp
              first | done | with_reducible rfl
            simp -failIfUnchanged only [Act.put, List.getElem_toArray, List.getElem_cons_zero, List.getElem_cons_succ, List.setIfInBounds_toArray, List.set_cons_zero, List.set_cons_succ]
            refine wpAnyH_take (i := 12) (v := ?_) rfl (by kernel_rfl) (by kernel_rfl) (by kernel_rfl) (fun _ _ _ h => h) (Or.inl ⟨by rfl, ?_⟩) (by assumption) ?_
            rotate_left
            · intro w hSw
              (try subst hSw)
              go_simp
              first | done | with_reducible rfl
            simp -failIfUnchanged only [Act.put, List.getElem_toArray, List.getElem_cons_zero, List.getElem_cons_succ, List.setIfInBounds_toArray, List.set_cons_zero, List.set_cons_succ]
            refine wpAnyH_take (i := 13) (v := ?_) rfl (by kernel_rfl) (by kernel_rfl) (by kernel_rfl) (fun _ _ _ h => h) (Or.inl ⟨by rfl, ?_⟩) (by assumption) ?_
            rotate_left
            · intro w hSw
              (try subst hSw)
              go_simp
              first | done | with_reducible rfl
            simp -failIfUnchanged only [Act.put, List.getElem_toArray, List.getElem_cons_zero, List.getElem_cons_succ, List.setIfInBounds_toArray, List.set_cons_zero, List.set_cons_succ]
            refine wpAnyH_take (i := 14) (v := ?_) rfl (by kernel_rfl) (by kernel_rfl) (by kernel_rfl) (fun _ _ _ h => h) (Or.inl ⟨by rfl, ?_⟩) (by assumption) ?_
            rotate_left
            · intro w hSw
              (try subst hSw)
              go_simp
              first | done | with_reducible rfl
            simp -failIfUnchanged only [Act.put, List.getElem_toArray, List.getElem_cons_zero, List.getElem_cons_succ, List.setIfInBounds_toArray, List.set_cons_zero, List.set_cons_succ]
            refine wpAnyH_take (i := 15) (v := ?_) rfl (by kernel_rfl) (by kernel_rfl) (by kernel_rfl) (fun _ _ _ h => h) (Or.inl ⟨by rfl, ?_⟩) (by assumption) ?_
            rotate_left
            · intro w hSw
              (try subst hSw)
              go_simp
              first | done | with_reducible rfl
            simp -failIfUnchanged only [Act.put, List.getElem_toArray, List.getElem_cons_zero, List.getElem_cons_succ, List.setIfInBounds_toArray, List.set_cons_zero, List.set_cons_succ]
            refine wpAnyH_take (i := 16) (v := ?_) rfl (by kernel_rfl) (by kernel_rfl) (by kernel_rfl) (fun _ _ _ h => h) (Or.inl ⟨by rfl, ?_⟩) (by assumption) ?_
            rotate_left
            · intro w hSw
              (try subst hSw)
              go_simp
              first | done | with_reducible rfl
            simp -failIfUnchanged only [Act.put, List.getElem_toArray, List.getElem_cons_zero, List.getElem_cons_succ, List.setIfInBounds_toArray, List.set_cons_zero, List.set_cons_succ]
            refine wpAnyH_take (i := 17) (v := ?_) rfl (by kernel_rfl) (by kernel_rfl) (by kernel_rfl) (fun _ _ _ h => h) (Or.inl ⟨by rfl, ?_⟩) (by assumption) ?_
            rotate_left
            · intro w hSw
              (try subst hSw)
              go_simp
              first | done | with_reducible rfl
            simp -failIfUnchanged only [Act.put, List.getElem_toArray, List.getElem_cons_zero, List.getElem_cons_succ, List.setIfInBounds_toArray, List.set_cons_zero, List.set_cons_succ]
            refine wpAnyH_take (i := 18) (v := ?_) rfl (by kernel_rfl) (by kernel_rfl) (by kernel_rfl) (fun _ _ _ h => h) (Or.inl ⟨by rfl, ?_⟩) (by assumption) ?_
            rotate_left
            · intro w hSw
              (try subst hSw)
              go_simp
              first | done | with_reducible rfl
            simp -failIfUnchanged only [Act.put, List.getElem_toArray, List.getElem_cons_zero, List.getElem_cons_succ, List.setIfInBounds_toArray, List.set_cons_zero, List.set_cons_succ]
            refine wpAnyH_take (i := 19) (v := ?_) rfl (by kernel_rfl) (by kernel_rfl) (by kernel_rfl) (fun _ _ _ h => h) (Or.inl ⟨by rfl, ?_⟩) (by assumption) ?_
            rotate_left
            · intro w hSw
              (try subst hSw)
              go_simp
              first | done | with_reducible rfl
            simp -failIfUnchanged only [Act.put, List.getElem_toArray, List.getElem_cons_zero, List.getElem_cons_succ, List.setIfInBounds_toArray, List.set_cons_zero, List.set_cons_succ]
            refine wpAnyH_take (i := 20) (v := ?_) rfl (by kernel_rfl) (by kernel_rfl) (by kernel_rfl) (fun _ _ _ h => h) (Or.inl ⟨by rfl, ?_⟩) (by assumption) ?_
            rotate_left
            · intro w hSw
              (try subst hSw)
              go_simp
              first | done | with_reducible rfl
            simp -failIfUnchanged only [Act.put, List.getElem_toArray, List.getElem_cons_zero, List.getElem_cons_succ, List.setIfInBounds_toArray, List.set_cons_zero, List.set_cons_succ]
            refine wpAnyH_done (by kernel_rfl) ?_ _
            go_wp2_with fail
            go_meet
            exact ⟨rfl, hb10⟩
        case rest =>
        obtain ⟨rfl, hb15⟩ := hcut
        obtain ⟨w15, rfl⟩ : ∃ w15 : World, w15 = wc := ⟨_, rfl⟩
        have HB15 := Lib.hid hb15
        clear hb15 hbz hbz2
        have hs15 := HB15.out.size
        have HBW15 := Lib.hid (HBW14.out.trans (HB15.out.mono HBW14.out.size))
        have HRn := Lib.hid (show Rd w15 w14.heap.size 1 byteC A14 B8 from hr14.out.below HB15.out)
        have HRw := Lib.hid (show Rd w15 w5.heap.size 1 byteC P0 B' from (HR0r.out.keep fun p hp => hB14.out.cell (by have := hF8.out.size; omega)).keep fun p hp => HB15.out.cell (by have := hF8.out.size; omega))
        have hle := HLe.out
        clear hr14
        go_wp2
        go_loopw [101] (fun vi wr => ∃ i : Nat, i ≤ B'.length ∧ vi = .int .i64 (i : Int) ∧ Below w15.heap.size w15 wr) (fun vi _ => B'.length - (intOf vi).toNat)
        case atStart => exact ⟨0, Nat.zero_le _, rfl, Below.refl _ _⟩
        case round =>
          obtain ⟨i, hi, rfl, hbr⟩ := hrel
          have HBr := Lib.hid hbr
          clear hbr
          by_cases hin : i < B'.length
          · have hin' : i < B'.length := hin
            have hin8 : i < B8.length := by omega
            obtain ⟨a1, h1, -⟩ := HRn.out.addr hin8
            obtain ⟨a2, h2, -⟩ := HRw.out.addr hin'
            subst h1 h2
            have g1 : wr.cell? (a1.add i) = some (byteV B8[i]) := (HRn.out.keep fun p hp => HBr.out.cell (by omega)).at1 hin8 rfl
            have g2 : wr.cell? (a2.add i) = some (byteV B'[i]) := (HRw.out.keep fun p hp => HBr.out.cell (by have := hF8.out.size; omega)).at1 hin' rfl
            have hcs : i < a ∨ ¬ i < a ∧ (a + l2.length ≤ i ∨ i < a + l2.length) := by omega
            unfold byteV at g1 g2
            rcases hcs with q1 | ⟨q1, q2 | q2⟩
            · have hE := HEl.out i (.inl q1) hin' hin8
              rw [hE] at g1
              have t1 : decide ((i : Int) < (a : Int)) = true := decide_eq_true (by omega)
              have t2 : decide (i < a) = true := decide_eq_true q1
              clear hE hin8
              generalize ((B'[i] : UInt8).toNat : Int) = z at *
              go_wp2
              go_quiet (fail)
              have HBn := Lib.hid (below_drewN HBr.out nq)
              go_wp2
              go_roundw
              case rel => exact ⟨i + 1, by omega, by go_num, HBn.out⟩
              case measure => simp [intOf]; omega
            · have hE := HEl.out i (.inr q2) hin' hin8
              rw [hE] at g1
              have t1 : decide ((i : Int) < (a : Int)) = false := decide_eq_false (by omega)
              have t2 : decide (i < a) = false := decide_eq_false q1
              have t3 : decide ((a : Int) + (l2.length : Int) ≤ (i : Int)) = true := decide_eq_true (by omega)
              have t4 : decide (a + l2.length ≤ i) = true := decide_eq_true q2
              have hw : IntKind.i64.wrap ((a : Int) + (l2.length : Int)) = (a : Int) + (l2.length : Int) := IntWalk.i64_in _ (by omega)
              clear hE hin8
              generalize ((B'[i] : UInt8).toNat : Int) = z at *
              go_wp2
              go_quiet (fail)
              have HBn := Lib.hid (below_drewN HBr.out nq)
              clear hw
              go_wp2
              go_roundw
              case rel => exact ⟨i + 1, by omega, by go_num, HBn.out⟩
              case measure => simp [intOf]; omega
            · have t1 : decide ((i : Int) < (a : Int)) = false := decide_eq_false (by omega)
              have t2 : decide (i < a) = false := decide_eq_false q1
              have t3 : decide ((a : Int) + (l2.length : Int) ≤ (i : Int)) = false := decide_eq_false (by omega)
              have t4 : decide (a + l2.length ≤ i) = false := decide_eq_false (by omega)
              have hw : IntKind.i64.wrap ((a : Int) + (l2.length : Int)) = (a : Int) + (l2.length : Int) := IntWalk.i64_in _ (by omega)
              clear g1 g2 hin8
              go_wp2
              go_quiet (fail)
              have HBn := Lib.hid (below_drewN HBr.out nq)
              clear hw
              go_wp2
              go_roundw
              case rel => exact ⟨i + 1, by omega, by go_num, HBn.out⟩
              case measure => simp [intOf]; omega
          · go_wp2_with (go_at_call 15; (with_reducible refine (HA.out _).mono ?_); rintro e w16 ⟨rfl, hB16⟩; replace hB16 := Lib.hid hB16)
            go_ret
            exact ⟨rfl, (HBW15.out.trans (HBr.out.mono HBW15.out.size)).trans (hB16.out.mono (by have := HBr.out.size; have := HBW15.out.size; omega))⟩

set_option maxRecDepth 100000 in
theorem sheetBack_given (W : World) (args : Array Value) (h : Given W Try.f4 args) :
    Calls Try.prog 4 args W fun e W' => e = .returned (.bool true) ∧ Below W.heap.size W W' := by
  obtain ⟨⟨H, enc, ds, p, hA, hwt⟩, base, hval⟩ := h
  rw [Try.params4] at hA hval hwt
  obtain ⟨v0, vs0, d0, ds0, p0, q0, hargs, rfl, rfl, h0, r0⟩ := trodAll_cons hA
  obtain ⟨v1, vs1, d1, ds1, p1, q1, rfl, rfl, rfl, h1, r1⟩ := trodAll_cons r0
  obtain ⟨v2, vs2, d2, ds2, p2, q2, rfl, rfl, rfl, h2, r2⟩ := trodAll_cons r1
  obtain ⟨rfl, rfl, rfl⟩ := trodAll_nil r2
  obtain rfl : args = #[v0, v1, v2] := by cases args; simp_all
  simp only [DataW.weightsEach, List.all_append, Bool.and_eq_true] at hwt
  obtain ⟨g0, g1, g2, _⟩ := hwt
  obtain ⟨⟨A0, c0, l0⟩, rfl, hm0, hn0, hz0, rd0, hq0⟩ := opens_ops W H enc base v0 d0 p0 (hval 0 _ v0 rfl rfl) h0 g0
  obtain ⟨a1, rfl, hw_a1⟩ := opens_int W H enc base v1 d1 p1 (hval 1 _ v1 rfl rfl) h1 g1
  obtain ⟨⟨A2, c2, l2⟩, rfl, hm2, hn2, hz2, rd2, hq2⟩ := opens_bytes W H enc base v2 d2 p2 (hval 2 _ v2 rfl rfl) h2 g2
  exact sheetBack_walk l0 A0 c0 a1 l2 A2 c2 W hm0 rd0 hq0 hm2 (slice_nil Try.underlying27 h2) rd2

theorem sheetBack_lifted (os : Os) (started : os.Started) (H : Type) (enc : TypeId × Value → H) :
    ReturnsInHanded {} Try.checked os 4 .any (Rows.sheetBackSpec.pre6 enc Try.prog Try.f4 Rows.sheetBackRow.domain false) (Rows.sheetBackSpec.post enc Try.prog Try.f4 false true false false) :=
  law_lifted (s := Rows.sheetBackSpec) os started H enc (by kernel_rfl) Try.func4 rfl (by kernel_rfl)
    (by rw [Try.params4]; intro t ht; simp at ht; rcases ht with rfl | rfl | rfl <;> exact ⟨by kernel_rfl, of_decide_eq_true (by kernel_rfl)⟩)
    (by rw [Try.params4]; intro ds hd; match ds, hd with | [x0, x1, x2], _ => exact ⟨rfl, rfl, rfl⟩)
    (ChangeSpec.witness6 (enc := enc) (C := Try.checked) false ⟨#[], #[.slice none 0 0, .int .i64 0, .slice none 0 0], []⟩ 8 (by kernel_rfl) (by kernel_rfl) (by kernel_rfl) (by kernel_rfl))
    sheetBack_given

theorem sheetBack_holds : Rows.SheetBackSaid :=
  OpenClaim.holds_of_wide 4 Try.f4 rfl rfl rfl rfl rfl rfl rfl ⟨rfl, rfl, rfl, rfl, rfl⟩ rfl rfl rfl rfl rfl (by kernel_rfl) Try.func4 (by kernel_rfl)
    (of_decide_eq_true (by kernel_rfl)) (by unfold Func.isWrapper; first | (rw [if_pos (by decide +kernel)]; kernel_rfl) | (rw [if_neg (by decide +kernel)]; exact ⟨rfl, rfl⟩))
    (fun os started H enc _ => sheetBack_lifted os started H enc)
#print axioms sheetBack_holds
end Go.Proofs.Ytpcjmefchclhhaa

/- SheetReads: behind any calls any bytes are read as the document says, and what was read is the caller's own: for every input the law returns true. No condition. -/
import Derived.Test.YtpcjmefchclhhaaShY
import Derived.Deep.DeepCutAuto
namespace Go.Proofs.Ytpcjmefchclhhaa
open Go.RowKit Go.MapKept Go.ChangeShapes Go.WideShapes Go.ChangeAt

/-- Read's slice as a block of the caller's own. -/
theorem read_own {w : World} {b m size : Nat} {bl : List (Nat × List UInt8)} {B : List UInt8} {On : List Nat} (h : Raw w b m size bl) (hs : SameS size bl B On) (a n : Int) :
    Calls Try.prog 17 #[.pointer (some ⟨b, 0, none⟩), .int .i64 a, .int .i64 n] w
      fun e w' => ∃ P, e = .returned (.slice P (rreadL B a n).length (rreadL B a n).length) ∧ (P = none ∧ rreadL B a n = [] ∨ ∃ g, w.heap.size ≤ g ∧ P = some ⟨g, 0, none⟩ ∧ w'.heap[g]? = some (.cells ((rreadL B a n).map byteV).toArray 5 (0, 0))) ∧ Below w.heap.size w w' := by
  refine (read_any h a n).mono fun e w' ⟨h1, h2, h3⟩ => ?_
  cases hf : readOk size a n
  · have hE : rreadL B a n = [] := by unfold rreadL; rw [hs.len, hf]; rfl
    rw [hE]
    exact ⟨none, h1 hf, .inl ⟨rfl, rfl⟩, h3⟩
  · obtain ⟨g, hg, he, hc⟩ := h2 hf
    obtain ⟨g0, g1, g2⟩ := of_decide_eq_true hf
    have hE : rreadL B a n = readL bl a.toNat (min n.toNat (size - a.toNat)) := by
      unfold rreadL
      rw [hs.len, hf, if_pos rfl, same_read hs _ _ (by omega), List.take_eq_take_iff]
      simp [hs.len]
    rw [hE, readL_len]
    exact ⟨_, he, .inr ⟨g, hg, rfl, hc⟩, h3⟩
theorem rd_bytes {w : World} {g : Nat} {L : List UInt8} (hg : w.heap[g]? = some (.cells (L.map byteV).toArray 5 (0, 0))) : Rd w w.heap.size 1 byteC (some ⟨g, 0, none⟩) L :=
  rd_block hg (Array.getElem?_eq_some_iff.1 hg).1 (fun i x hx j v hv => by
    match j, hv with
    | 0, hv =>
      have hv' : v = byteV x := by simpa [byteC] using hv.symm
      subst hv'
      simp [hx]
    | j + 1, hv => simp [byteC] at hv)
theorem own_rdP {w : World} {P : Option Addr} {L : List UInt8} {B : Nat} (h : P = none ∧ L = [] ∨ ∃ g, B ≤ g ∧ P = some ⟨g, 0, none⟩ ∧ w.heap[g]? = some (.cells (L.map byteV).toArray 5 (0, 0))) : Rd w w.heap.size 1 byteC P L := by
  rcases h with ⟨rfl, rfl⟩ | ⟨g, _, rfl, hc⟩
  · exact Rd.nil _ _ _ _ _
  · exact rd_bytes hc
/-- What is left of the block of bytes that is being turned: all cells from i on are bytes. -/
def Turns (w : World) (g N i : Nat) : Prop := ∃ cs : Array Value, w.heap[g]? = some (.cells cs 5 (0, 0)) ∧ cs.size = N ∧ ∀ j, i ≤ j → j < N → ∃ x : UInt8, cs[j]? = some (byteV x)
theorem turns_new {w : World} {g : Nat} {L : List UInt8} (hg : w.heap[g]? = some (.cells (L.map byteV).toArray 5 (0, 0))) : Turns w g L.length 0 :=
  ⟨_, hg, by simp, fun j _ hj => ⟨L[j], by simp [hj]⟩⟩
theorem Turns.cell {w : World} {g N i : Nat} (h : Turns w g N i) (hi : i < N) : (∃ x : UInt8, w.cell? ⟨g, i, none⟩ = some (byteV x)) ∧ w.frozen? ⟨g, i, none⟩ = false ∧ g < w.heap.size := by
  obtain ⟨cs, hg, hs, hc⟩ := h
  obtain ⟨x, hx⟩ := hc i (Nat.le_refl _) hi
  exact ⟨⟨x, by rw [cell_at hg]; exact hx⟩, frozen_of_row w g i cs _ hg, (Array.getElem?_eq_some_iff.1 hg).1⟩
theorem Turns.set {w : World} {g N i : Nat} (h : Turns w g N i) (u : Value) : Turns (w.setCell ⟨g, i, none⟩ u) g N (i + 1) := by
  obtain ⟨cs, hg, hs, hc⟩ := h
  refine ⟨_, heap_setCell_same w g i cs _ u hg, by simpa using hs, fun j hj hjn => ?_⟩
  obtain ⟨x, hx⟩ := hc j (by omega) hjn
  exact ⟨x, by rw [Array.getElem?_setIfInBounds, if_neg (by omega)]; exact hx⟩

set_option maxRecDepth 100000 in
set_option maxHeartbeats 8000000 in
theorem sheetReads_walk (l : List (OpR × Option Addr × Nat)) (A0 : Option Addr) (c0 : Nat) (at_ nn : Int) (W : World) (hm0 : l.length ≤ maxLen) (rd0 : Rd W W.heap.size 4 opC A0 l) (hq0 : ∀ y ∈ l, opQ W y) :
    Calls Try.prog 3 #[.slice A0 l.length c0, .int .i64 at_, .int .i64 nn] W fun e W' => e = .returned (.bool true) ∧ Below W.heap.size W W' := by
  have HN := Lib.hid (new_any W)
  have HA := Lib.hid alive_any
  have HFw := Lib.hid (show ∀ w, Below W.heap.size W w → Calls Try.prog 14 #[.slice A0 l.length c0] w fun e w' => e = .returned (.bool (fewB l)) ∧ Below w.heap.size w w' from fun w hb =>
    few_any l A0 c0 w hm0 ((rd0.below hb).more hb.size) (fun y hy => (hq0 y hy).1))
  have HP := Lib.hid (fun (w1 w2 : World) (b m : Nat) (hb : W.heap.size ≤ b) (hm : W.heap.size ≤ m) (hR : Raw w1 b m 0 []) (hB : Below W.heap.size W w1) (h2 : Below w1.heap.size w1 w2) => play_new (c0 := c0) hm0 rd0 hq0 hb hm hR hB h2)
  clear rd0 hq0
  generalize hn : l.length = n at *
  clear hn
  cases hf : fewB l
  · rw [hf] at HFw
    clear hf
    go_enter Try.func3, Try.ntmps3
    go_wp2_with (first
      | (go_at_call 13; (with_reducible refine HN.out.mono ?_); rintro e w1 ⟨b, m, rfl, hb, hm, hR, hB⟩; replace hB := Lib.hid hB; clear hR)
      | (go_at_call 14; (with_reducible refine (HFw.out _ hB.out).mono ?_); rintro e w2 ⟨rfl, hB2⟩; replace hB2 := Lib.hid hB2)
      | (go_at_call 15; (with_reducible refine (HA.out _).mono ?_); rintro e w3 ⟨rfl, hB3⟩; replace hB3 := Lib.hid hB3))
    go_ret
    exact ⟨rfl, hB.out.trans ((hB2.out.trans (hB3.out.mono hB2.out.size)).mono hB.out.size)⟩
  · rw [hf] at HFw
    clear hf
    go_enter Try.func3, Try.ntmps3
    go_upto_region 6 with (first
      | (go_at_call 13; (with_reducible refine HN.out.mono ?_); rintro e w1 ⟨b, m, rfl, hb, hm, hR, hB⟩; replace hB := Lib.hid hB; replace hR := Lib.hid hR)
      | (go_at_call 14; (with_reducible refine (HFw.out _ hB.out).mono ?_); rintro e w2 ⟨rfl, hB2⟩; replace hB2 := Lib.hid hB2)
      | (go_at_call 16; (with_reducible refine (HP.out w1 _ b m hb hm hR.out hB.out hB2.out).mono ?_); rintro e w4 ⟨A, c, A', c', size', bl', B', On', rfl, hR4, hV4, hS4, hB4⟩; replace hR4 := Lib.hid hR4; replace hV4 := Lib.hid hV4; replace hS4 := Lib.hid hS4; replace hB4 := Lib.hid hB4)
      | (go_at_call 17; (with_reducible refine (read_own (hR4.out.below ((Below.refl _ _).alloc (Nat.le_refl _) _)) hS4.out at_ nn).mono ?_); rintro e w5 ⟨P, rfl, hv5, hB5⟩; replace hv5 := Lib.hid hv5; replace hB5 := Lib.hid hB5))
    have hB45 : Below w4.heap.size w4 w5 := ((Below.refl w4.heap.size w4).alloc (Nat.le_refl _) _).trans (hB5.out.mono (by simp))
    have hx5 := (hB5.out.block w4.heap.size (by simp)).trans (heap_alloc_new w4 _)
    have hs45 : w4.heap.size + 1 ≤ w5.heap.size := by have := hB5.out.size; simp at this; omega
    have hP : P = none ∧ rreadL B' at_ nn = [] ∨ ∃ g, w4.heap.size + 1 ≤ g ∧ P = some ⟨g, 0, none⟩ ∧ w5.heap[g]? = some (.cells ((rreadL B' at_ nn).map byteV).toArray 5 (0, 0)) := by
      have := hv5.out
      simpa using this
    clear hB5 hv5
    have hk : ∀ w', Below w5.heap.size w5 w' → w'.cell? ⟨w4.heap.size, 0, none⟩ = some (.slice A B'.length c) ∧ w'.cell? ⟨w4.heap.size, 1, none⟩ = some (.slice A' On'.length c') ∧ (convert 27 9 (.slice P (rreadL B' at_ nn).length (rreadL B' at_ nn).length)).run Try.prog w' = .ok (.string ⟨(rreadL B' at_ nn).toArray⟩) w' := fun w' hb => by
      have e2 := (hb.block w4.heap.size (by omega)).trans hx5
      exact ⟨cell_at e2 0, cell_at e2 1, str_rd ((own_rdP hP).below hb)⟩
    have HB45 := Lib.hid hB45
    have HX5 := Lib.hid hx5
    have HK := Lib.hid hk
    have HR18 := Lib.hid (show ∀ w', Below w5.heap.size w5 w' → Calls Try.prog 18 #[.agg #[.slice A B'.length c, .slice A' On'.length c'], .int .i64 at_, .int .i64 nn] w' fun e w'' => ∃ A c, e = .returned (.slice A (rreadL B' at_ nn).length c) ∧ Rd w'' w''.heap.size 1 byteC A (rreadL B' at_ nn) ∧ Below w5.heap.size w5 w'' from fun w' hb => (rread_any ((hV4.out.below hB45).below hb) at_ nn).mono fun e w'' ⟨A, c, h1, h2, h3⟩ => ⟨A, c, h1, h2, hb.trans (h3.mono hb.size)⟩)
    have HP5 := Lib.hid hP
    obtain ⟨k0, k1, k2⟩ := hk w5 (Below.refl _ _)
    have hbz := Below.refl w5.heap.size w5
    have hbz2 := hbz.drew
    clear hB45 hx5 hP hk HN HFw HP
    generalize hL : rreadL B' at_ nn = L at *
    have HL := Lib.hid hL
    clear hL
    obtain ⟨k3, k4, k5⟩ := HK.out w5.drew hbz2
    go_cut [43] (fun s43 wx => s43 = .bool false ∧ Below w5.heap.size w5 wx)
    case first =>
      go_region_with (first
        | (go_at_call 18; (with_reducible refine (HR18.out _ (by assumption)).mono ?_); rintro e w9 ⟨A9, c9, rfl, hr9, hb9⟩; have hcv9 := str_rd (c := c9) hr9; obtain ⟨k6, k7, k8⟩ := HK.out _ hb9))
      all_goals
        have HB9 := Lib.hid hb9
        clear hb9
        go_wp2_with fail
        go_meet
        exact ⟨rfl, HB9.out⟩
    case rest =>
    obtain ⟨rfl, hb9⟩ := hcut
    obtain ⟨w9, rfl⟩ : ∃ w9 : World, w9 = wc := ⟨_, rfl⟩
    have HB9 := Lib.hid hb9
    have HT9 := Lib.hid (show ∀ g, P = some ⟨g, 0, none⟩ → w4.heap.size + 1 ≤ g ∧ Turns w9 g L.length 0 from fun g hg => by
      rcases HP5.out with ⟨e, _⟩ | ⟨g', h1, h2, h3⟩
      · rw [e] at hg; cases hg
      · obtain rfl : g = g' := by rw [h2] at hg; injection hg with hg; injection hg with hg; exact hg.symm
        exact ⟨h1, turns_new ((hb9.block _ (Array.getElem?_eq_some_iff.1 h3).1).trans h3)⟩)
    have HP0 := Lib.hid (show 0 < L.length → ∃ g, P = some ⟨g, 0, none⟩ from fun h0 => by
      rcases HP5.out with ⟨_, e⟩ | ⟨g', _, h2, _⟩
      · rw [e] at h0; simp at h0
      · exact ⟨g', h2⟩)
    clear hb9 k0 k1 k2 k3 k4 k5 hbz hbz2
    have HLn := Lib.hid (show L.length ≤ 1048576 by rw [← HL.out]; have := hV4.out.lenB; unfold rreadL; split <;> simp <;> omega)
    generalize hnl : L.length = N at *
    have HNl := Lib.hid hnl
    have hN := HLn.out
    clear hnl
    go_wp2
    go_loopw [46] (fun vi wr => ∃ i : Nat, i ≤ N ∧ vi = .int .i64 (i : Int) ∧ Below (w4.heap.size + 1) w9 wr ∧ ∀ g, P = some ⟨g, 0, none⟩ → w4.heap.size + 1 ≤ g ∧ Turns wr g N i) (fun vi _ => N - (intOf vi).toNat)
    case atStart => exact ⟨0, Nat.zero_le _, rfl, Below.refl _ _, HT9.out⟩
    case round =>
      obtain ⟨i, hi, rfl, hbr, htr⟩ := hrel
      have HBr := Lib.hid hbr
      have HTr := Lib.hid htr
      clear hbr htr
      by_cases hin : i < N
      · obtain ⟨g, rfl⟩ := HP0.out (by omega)
        obtain ⟨hg1, hg2⟩ := HTr.out g rfl
        obtain ⟨⟨x, hc⟩, hfr, hgl⟩ := hg2.cell hin
        have HG := Lib.hid hg2
        clear hg2
        unfold byteV at hc
        go_wp2
        go_roundw
        case rel => exact ⟨i + 1, by omega, by go_num, HBr.out.setCell hg1 _, fun g' e => by injection e with e; injection e with e; subst e; exact ⟨hg1, HG.out.set _⟩⟩
        case measure => simp [intOf]; omega
      · have hB4r : Below w4.heap.size w4 wr := HB45.out.trans ((HB9.out.mono (by have := HB45.out.size; omega)).trans (HBr.out.mono (by omega)))
        have hxr := (HBr.out.block w4.heap.size (by omega)).trans ((HB9.out.block w4.heap.size (by omega)).trans HX5.out)
        have hsr : w4.heap.size < wr.heap.size := (Array.getElem?_eq_some_iff.1 hxr).1
        have hk : ∀ w', Below wr.heap.size wr w' → w'.cell? ⟨w4.heap.size, 0, none⟩ = some (.slice A B'.length c) ∧ w'.cell? ⟨w4.heap.size, 1, none⟩ = some (.slice A' On'.length c') := fun w' hb => by
          have e2 := (hb.block w4.heap.size hsr).trans hxr
          exact ⟨cell_at e2 0, cell_at e2 1⟩
        have HKr := Lib.hid hk
        have HR4r := Lib.hid (hR4.out.below hB4r)
        have HV4r := Lib.hid (hV4.out.below hB4r)
        have HLr := Lib.hid (show (rreadL B' at_ nn).length = N by rw [HL.out]; exact HNl.out)
        have HRa := Lib.hid (show ∀ w', Below wr.heap.size wr w' → Calls Try.prog 17 #[.pointer (some ⟨b, 0, none⟩), .int .i64 at_, .int .i64 nn] w' fun e w'' => ∃ A c, e = .returned (.slice A N c) ∧ Rd w'' w''.heap.size 1 byteC A L ∧ Below wr.heap.size wr w'' ∧ Below w'.heap.size w' w'' from fun w' hb => (read_rd (HR4r.out.below hb) hS4.out at_ nn).mono fun e w'' ⟨A, c, h1, h2, _, h3⟩ => by
          rw [HL.out] at h1 h2
          rw [HNl.out] at h1
          exact ⟨A, c, h1, h2, hb.trans (h3.mono hb.size), h3⟩)
        have HRb := Lib.hid (show ∀ w', Below wr.heap.size wr w' → Calls Try.prog 18 #[.agg #[.slice A B'.length c, .slice A' On'.length c'], .int .i64 at_, .int .i64 nn] w' fun e w'' => ∃ A c, e = .returned (.slice A N c) ∧ Rd w'' w''.heap.size 1 byteC A L ∧ Below wr.heap.size wr w'' ∧ Below w'.heap.size w' w'' from fun w' hb => (rread_any (HV4r.out.below hb) at_ nn).mono fun e w'' ⟨A, c, h1, h2, h3⟩ => by
          rw [HL.out] at h1 h2
          rw [HNl.out] at h1
          exact ⟨A, c, h1, h2, hb.trans (h3.mono hb.size), h3⟩)
        have HAr := Lib.hid (show ∀ w', Below wr.heap.size wr w' → Calls Try.prog 15 #[] w' fun e w'' => e = .returned (.bool true) ∧ Below wr.heap.size wr w'' from fun w' hb => (HA.out w').mono fun e w'' ⟨h1, h2⟩ => ⟨h1, hb.trans (h2.mono hb.size)⟩)
        have str' : ∀ {w : World} {B c : Nat} {A : Option Addr}, Rd w B 1 byteC A L → (convert 27 9 (.slice A N c)).run Try.prog w = .ok (.string ⟨L.toArray⟩) w := fun h => by rw [← HNl.out]; exact str_rd h
        have HSt := Lib.hid (show ∀ (w : World) (B c : Nat) (A : Option Addr), Rd w B 1 byteC A L → (convert 27 9 (.slice A N c)).run Try.prog w = .ok (.string ⟨L.toArray⟩) w from fun _ _ _ _ h => str' h)
        have HBW := Lib.hid (hB4.out.trans (hB4r.mono hB4.out.size))
        obtain ⟨k0, k1⟩ := hk wr (Below.refl _ _)
        have hbz := Below.refl wr.heap.size wr
        have hbz2 := hbz.drew
        clear hB4r hxr hk str' hsr
        obtain ⟨k2, k3⟩ := HKr.out wr.drew hbz2
        go_upto_region 13 with fail
        go_cut [6] (fun s6 wx => s6 = .bool true ∧ Below wr.heap.size wr wx)
        case first =>
          go_region_with (first
            | (go_at_call 15; (with_reducible refine (HAr.out _ (by assumption)).mono ?_); rintro e w9 ⟨rfl, hb9⟩; obtain ⟨m0, m1⟩ := HKr.out _ hb9)
            | (go_at_call 17; (with_reducible refine (HRa.out _ (by assumption)).mono ?_); rintro e w10 ⟨A10, c10, rfl, hr10, hb10, hb10'⟩; have hcv10 := HSt.out _ _ c10 _ hr10; obtain ⟨n0, n1⟩ := HKr.out _ hb10; (first | (have hcv13 := HSt.out _ _ c11 _ (hr11.below hb10')) | skip))
            | (go_at_call 18; (with_reducible refine (HRb.out _ (by assumption)).mono ?_); rintro e w11 ⟨A11, c11, rfl, hr11, hb11, hb12⟩; have hcv11 := HSt.out _ _ c11 _ hr11; obtain ⟨o0, o1⟩ := HKr.out _ hb11; (first | (have hcv12 := HSt.out _ _ c10 _ (hr10.below hb12)) | skip)))
          all_goals
            have HB1 := Lib.hid hb10
            have HB2 := Lib.hid hb11
            clear hb11 hb10
            go_wp2_with fail
            go_meet
            first | exact ⟨rfl, HB1.out⟩ | exact ⟨rfl, HB2.out⟩
        case rest =>
        obtain ⟨rfl, hb11⟩ := hcut
        have HB11 := Lib.hid (HBW.out.trans (hb11.mono HBW.out.size))
        clear hb11
        go_wp2
        go_ret
        exact ⟨rfl, HB11.out⟩

set_option maxRecDepth 100000 in
theorem sheetReads_given (W : World) (args : Array Value) (h : Given W Try.f3 args) :
    Calls Try.prog 3 args W fun e W' => e = .returned (.bool true) ∧ Below W.heap.size W W' := by
  obtain ⟨⟨H, enc, ds, p, hA, hwt⟩, base, hval⟩ := h
  rw [Try.params3] at hA hval hwt
  obtain ⟨v0, vs0, d0, ds0, p0, q0, hargs, rfl, rfl, h0, r0⟩ := trodAll_cons hA
  obtain ⟨v1, vs1, d1, ds1, p1, q1, rfl, rfl, rfl, h1, r1⟩ := trodAll_cons r0
  obtain ⟨v2, vs2, d2, ds2, p2, q2, rfl, rfl, rfl, h2, r2⟩ := trodAll_cons r1
  obtain ⟨rfl, rfl, rfl⟩ := trodAll_nil r2
  obtain rfl : args = #[v0, v1, v2] := by cases args; simp_all
  simp only [DataW.weightsEach, List.all_append, Bool.and_eq_true] at hwt
  obtain ⟨g0, g1, g2, _⟩ := hwt
  obtain ⟨⟨A0, c0, l0⟩, rfl, hm0, hn0, hz0, rd0, hq0⟩ := opens_ops W H enc base v0 d0 p0 (hval 0 _ v0 rfl rfl) h0 g0
  obtain ⟨a1, rfl, hw_a1⟩ := opens_int W H enc base v1 d1 p1 (hval 1 _ v1 rfl rfl) h1 g1
  obtain ⟨a2, rfl, hw_a2⟩ := opens_int W H enc base v2 d2 p2 (hval 2 _ v2 rfl rfl) h2 g2
  exact sheetReads_walk l0 A0 c0 a1 a2 W hm0 rd0 hq0

theorem sheetReads_lifted (os : Os) (started : os.Started) (H : Type) (enc : TypeId × Value → H) :
    ReturnsInHanded {} Try.checked os 3 .any (Rows.sheetReadsSpec.pre6 enc Try.prog Try.f3 Rows.sheetReadsRow.domain false) (Rows.sheetReadsSpec.post enc Try.prog Try.f3 false true false false) :=
  law_lifted (s := Rows.sheetReadsSpec) os started H enc (by kernel_rfl) Try.func3 rfl (by kernel_rfl)
    (by rw [Try.params3]; intro t ht; simp at ht; rcases ht with rfl | rfl | rfl <;> exact ⟨by kernel_rfl, of_decide_eq_true (by kernel_rfl)⟩)
    (by rw [Try.params3]; intro ds hd; match ds, hd with | [x0, x1, x2], _ => exact ⟨rfl, rfl, rfl⟩)
    (ChangeSpec.witness6 (enc := enc) (C := Try.checked) false ⟨#[], #[.slice none 0 0, .int .i64 0, .int .i64 0], []⟩ 8 (by kernel_rfl) (by kernel_rfl) (by kernel_rfl) (by kernel_rfl))
    sheetReads_given

theorem sheetReads_holds : Rows.SheetReadsSaid :=
  OpenClaim.holds_of_wide 3 Try.f3 rfl rfl rfl rfl rfl rfl rfl ⟨rfl, rfl, rfl, rfl, rfl⟩ rfl rfl rfl rfl rfl (by kernel_rfl) Try.func3 (by kernel_rfl)
    (of_decide_eq_true (by kernel_rfl)) (by unfold Func.isWrapper; first | (rw [if_pos (by decide +kernel)]; kernel_rfl) | (rw [if_neg (by decide +kernel)]; exact ⟨rfl, rfl⟩))
    (fun os started H enc _ => sheetReads_lifted os started H enc)
#print axioms sheetReads_holds
end Go.Proofs.Ytpcjmefchclhhaa

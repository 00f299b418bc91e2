/- SheetGone: what was cut off, or punched, is 0 when it is there again: for every input the law returns true. No condition. -/
import Derived.Test.YtpcjmefchclhhaaShGa
import Derived.Test.YtpcjmefchclhhaaShG
import Derived.Test.YtpcjmefchclhhaaCut
import Derived.Deep.DeepCutAuto
import Derived.IntWalk
namespace Go.Proofs.Ytpcjmefchclhhaa
open Go.RowKit Go.MapKept Go.ChangeShapes Go.WideShapes Go.ChangeAt

set_option maxRecDepth 100000 in
set_option maxHeartbeats 4000000 in
theorem sheetGone_early (l : List (OpR × Option Addr × Nat)) (A0 : Option Addr) (c0 : Nat) (n_ k_ : Int) (W : World) (hm0 : l.length ≤ maxLen) (rd0 : Rd W W.heap.size 4 opC A0 l) (hq0 : ∀ y ∈ l, opQ W y)
    (he : fewB l = false ∨ fewB l = true ∧ (n_ < 0 ∨ 0 ≤ n_ ∧ (k_ < 0 ∨ 0 ≤ k_ ∧ (20000 < n_ ∨ n_ ≤ 20000 ∧ 20000 < k_)))) :
    Calls Try.prog 6 #[.slice A0 l.length c0, .int .i64 n_, .int .i64 k_] W fun e W' => e = .returned (.bool true) ∧ Below W.heap.size W W' := by
  have HN := Lib.hid (new_any W)
  have HA := Lib.hid alive_any
  have HFw := Lib.hid (show ∀ w, Below W.heap.size W w → Calls Try.prog 14 #[.slice A0 l.length c0] w fun e w' => e = .returned (.bool (fewB l)) ∧ Below w.heap.size w w' from fun w hb =>
    few_any l A0 c0 w hm0 ((rd0.below hb).more hb.size) (fun y hy => (hq0 y hy).1))
  clear rd0 hq0
  generalize hn : l.length = n at *
  clear hn
  generalize hf : fewB l = fb at *
  clear hf
  rcases he with rfl | ⟨rfl, h1 | ⟨h1, h2 | ⟨h2, h3 | ⟨h3, h4⟩⟩⟩⟩
  all_goals
    go_enter Try.func6, Try.ntmps6
    go_wp2_with (first
      | (go_at_call 13; (with_reducible refine HN.out.mono ?_); rintro e w1 ⟨b, m, rfl, hb, hm, hR, hB⟩; replace hB := Lib.hid hB; clear hR)
      | (go_at_call 14; (with_reducible refine (HFw.out _ hB.out).mono ?_); rintro e w2 ⟨rfl, hB2⟩; replace hB2 := Lib.hid hB2)
      | (go_at_call 15; (with_reducible refine (HA.out _).mono ?_); rintro e w3 ⟨rfl, hB3⟩; replace hB3 := Lib.hid hB3))
    go_ret
    exact ⟨rfl, hB.out.trans ((hB2.out.trans (hB3.out.mono hB2.out.size)).mono hB.out.size)⟩

theorem app_rd {w : World} {B : Nat} {P : Option Addr} {L : List UInt8} (h : Rd w B 1 byteC P L) (p N : Nat) (hL : L.length = N) (hp : p ≤ N) :
    ∃ PA, sliced P p N N 1 = .slice PA (L.drop p).length (L.drop p).length ∧ Rd w B 1 byteC PA (L.drop p) := by
  rw [List.length_drop, hL]
  unfold sliced
  by_cases h1 : N = p
  · rw [if_pos h1]
    refine ⟨_, rfl, ?_⟩
    rw [List.drop_of_length_le (by omega)]
    exact Rd.nil _ _ _ _ _
  · rw [if_neg h1]
    refine ⟨_, rfl, ?_⟩
    obtain ⟨a, rfl, _⟩ := h.addr (i := 0) (by omega)
    exact h.from p
set_option maxRecDepth 100000 in
set_option maxHeartbeats 8000000 in
theorem sheetGone_main (l : List (OpR × Option Addr × Nat)) (A0 : Option Addr) (c0 : Nat) (n k : Nat) (W : World) (hm0 : l.length ≤ maxLen) (rd0 : Rd W W.heap.size 4 opC A0 l) (hq0 : ∀ y ∈ l, opQ W y)
    (hf : fewB l = true) (hn : n ≤ 20000) (hk : k ≤ 20000) :
    Calls Try.prog 6 #[.slice A0 l.length c0, .int .i64 n, .int .i64 k] W fun e W' => e = .returned (.bool true) ∧ Below W.heap.size W W' := by
  have HN := Lib.hid (new_any W)
  have HA := Lib.hid alive_any
  have HFw := Lib.hid (show ∀ w, Below W.heap.size W w → Calls Try.prog 14 #[.slice A0 l.length c0] w fun e w' => e = .returned (.bool true) ∧ Below w.heap.size w w' from fun w hb => by
    have := few_any l A0 c0 w hm0 ((rd0.below hb).more hb.size) (fun y hy => (hq0 y hy).1)
    rw [hf] at this
    exact this)
  have HP := Lib.hid (fun (w1 w2 : World) (b m : Nat) (hb : W.heap.size ≤ b) (hm : W.heap.size ≤ m) (hR : Raw w1 b m 0 []) (hB : Below W.heap.size W w1) (h2 : Below w1.heap.size w1 w2) => play_new (c0 := c0) hm0 rd0 hq0 hb hm hR hB h2)
  clear rd0 hq0 hf hm0
  generalize l.length = ll at *
  have hck1 : cutOk (n : Int) = true := cutOk_of (by omega)
  have hck2 : cutOk ((n : Int) + (k : Int)) = true := by have := cutOk_of (n := n + k) (by omega); rwa [Int.natCast_add] at this
  have hpk : punchOk (n : Int) (k : Int) = true := punchOk_of (by omega)
  have HC1 := Lib.hid hck1
  have HC2 := Lib.hid hck2
  have HC3 := Lib.hid hpk
  clear hck1 hck2 hpk
  go_enter Try.func6, Try.ntmps6
  go_upto_region 13 with (first
    | (go_at_call 13; (with_reducible refine HN.out.mono ?_); rintro e w1 ⟨b, m, rfl, hb, hm, hR, hB⟩; replace hB := Lib.hid hB; replace hR := Lib.hid hR)
    | (go_at_call 14; (with_reducible refine (HFw.out _ hB.out).mono ?_); rintro e w2 ⟨rfl, hB2⟩; replace hB2 := Lib.hid hB2)
    | (go_at_call 16; (with_reducible refine (HP.out w1 _ b m hb hm hR.out hB.out hB2.out).mono ?_); rintro e w4 ⟨A, c, A', c', size', bl', B', On', rfl, hR4, hV4, hS4, hB4⟩; have hCl := clone_any hR4; have hlb := hV4.lenB; replace hCl := Lib.hid hCl; replace hR4 := Lib.hid hR4; replace hS4 := Lib.hid hS4; replace hB4 := Lib.hid hB4; clear hV4)
    | (go_at_call 24; (with_reducible refine hCl.out.mono ?_); rintro e w5 ⟨b2, m2, rfl, hb2, hm2, hU5, hB5⟩; have hRd5 := read_own (hR4.out.below hB5) hS4.out 0 (n : Int); replace hRd5 := Lib.hid hRd5; replace hU5 := Lib.hid hU5; replace hB5 := Lib.hid hB5)
    | (go_at_call 17; (with_reducible refine hRd5.out.mono ?_); rintro e w6 ⟨P6, rfl, hv6, hB6⟩; have hC6 := cut_any ((hR4.out.below hB5.out).below hB6) (n : Int); rw [HC1.out] at hC6; replace hC6 := Lib.hid hC6; replace hv6 := Lib.hid hv6; replace hB6 := Lib.hid hB6)
    | (go_at_call 25; (with_reducible refine hC6.out.mono ?_); rintro e w7 ⟨rfl, hR7, hF7⟩; have hC7 := cut_any hR7 ((n : Int) + (k : Int)); rw [HC2.out] at hC7; replace hC7 := Lib.hid hC7; replace hR7 := Lib.hid hR7; replace hF7 := Lib.hid hF7)
    | (go_at_call 25; (with_reducible refine hC7.out.mono ?_); rintro e w8 ⟨rfl, hR8, hF8⟩; have hRd8 := read_own hR8 (same_cut (same_cut hS4.out (n : Int)) ((n : Int) + (k : Int))) 0 ((n : Int) + (k : Int)); have hg := gone_read B' n k hn hk; rw [Int.natCast_add] at hg; rw [hg.1] at hRd8; replace hg := Lib.hid hg; replace hRd8 := Lib.hid hRd8; replace hR8 := Lib.hid hR8; replace hF8 := Lib.hid hF8)
    | (go_at_call 17; (with_reducible refine hRd8.out.mono ?_); rintro e w9 ⟨P9, rfl, hv9, hB9⟩; have hs45 := hB5.out.size; have hs56 := hB6.out.size; have hs67 := hF7.out.size; have hs78 := hF8.out.size; have hs89 := hB9.size; have hbl4 := hR4.out.lt; have hml4 := hR4.out.map.lt; have hU9 := (((hU5.out.below hB6.out).frm hF7.out (by simp; omega) (by simp; omega)).frm hF8.out (by simp; omega) (by simp; omega)).below hB9; have hP9 := punch_any hU9 (n : Int) (k : Int); rw [HC3.out] at hP9; replace hP9 := Lib.hid hP9; replace hv9 := Lib.hid hv9; replace hB9 := Lib.hid hB9; replace hU9 := Lib.hid hU9)
    | (go_at_call 26; (with_reducible refine hP9.out.mono ?_); rintro e w10 ⟨rfl, hU10, hF10⟩; have hRd10 := read_own hU10 (same_punch hS4.out (n : Int) (k : Int)) (n : Int) (k : Int); replace hRd10 := Lib.hid hRd10; replace hU10 := Lib.hid hU10; replace hF10 := Lib.hid hF10)
    | (go_at_call 17; (with_reducible refine hRd10.out.mono ?_); rintro e w11 ⟨P11, rfl, hv11, hB11⟩; replace hv11 := Lib.hid hv11; replace hB11 := Lib.hid hB11))
  have hs45 := hB5.out.size
  have hs56 := hB6.out.size
  have hs67 := hF7.out.size
  have hs78 := hF8.out.size
  have hs89 := hB9.out.size
  have hs910 := hF10.out.size
  have hs1011 := hB11.out.size
  have hbl4 := hR4.out.lt
  have hml4 := hR4.out.map.lt
  have hbl5 := hU5.out.lt
  have hml5 := hU5.out.map.lt
  have hn6 : ∀ a, P6 = some a → w5.heap.size ≤ a.block := fun a ha => by
    rcases hv6.out with ⟨e, _⟩ | ⟨g, h1, h2, _⟩
    · rw [e] at ha; cases ha
    · rw [h2] at ha; injection ha with ha; subst ha; exact h1
  have hn9 : ∀ a, P9 = some a → w8.heap.size ≤ a.block := fun a ha => by
    rcases hv9.out with ⟨e, _⟩ | ⟨g, h1, h2, _⟩
    · rw [e] at ha; cases ha
    · rw [h2] at ha; injection ha with ha; subst ha; exact h1
  have hr6 : Rd w11 w11.heap.size 1 byteC P6 (rreadL B' 0 n) :=
    (((((own_rdP hv6.out).apart hF7.out (fun a ha hm => by have := hn6 a ha; simp at hm; omega)).apart hF8.out (fun a ha hm => by have := hn6 a ha; simp at hm; omega)).below (hB9.out.mono (by omega))).apart hF10.out (fun a ha hm => by have := hn6 a ha; simp at hm; omega)).below (hB11.out.mono (by omega)) |>.more (by omega)
  have hr9 : Rd w11 w11.heap.size 1 byteC P9 (rreadL (rcB (rcB B' n) (n + k)) 0 (n + k)) :=
    ((own_rdP hv9.out).apart hF10.out (fun a ha hm => by have := hn9 a ha; simp at hm; omega)).below (hB11.out.mono (by omega)) |>.more (by omega)
  have hr11 := own_rdP hv11.out
  have hc11 : P11 = none → (rreadL (rpB B' n k) n k).length = 0 := fun e => by
    rcases hv11.out with ⟨_, e2⟩ | ⟨g, _, h2, _⟩
    · rw [e2]; rfl
    · rw [h2] at e; cases e
  have HBW := Lib.hid (show Below W.heap.size W w11 from (hF10.out.below ((hF8.out.below (hF7.out.below ((hB4.out.trans (hB5.out.mono hB4.out.size)).trans (hB6.out.mono (by have := hB4.out.size; omega))) (by have := hB4.out.size; omega) (by simp; omega)) (by have := hB4.out.size; omega) (by simp; omega)).trans (hB9.out.mono (by have := hB4.out.size; omega))) (by have := hB4.out.size; omega) (by have := hB4.out.size; simp; omega)).trans (hB11.out.mono (by have := hB4.out.size; omega)))
  obtain ⟨hg1, hg2, hg3⟩ := hg.out
  obtain ⟨j, hj, hh⟩ := gone_hole B' n k hn hk
  generalize rreadL (rcB (rcB B' n) (n + k)) 0 (n + k) = L1 at *
  generalize rreadL (rpB B' n k) n k = L2 at *
  generalize rreadL B' 0 n = L0 at *
  have hp : L0.length ≤ n + k := by have := congrArg List.length hg2; rw [List.length_take] at this; omega
  have hcv6 : ∀ q, (convert 27 9 (.slice P6 L0.length L0.length)).run Try.prog (w11.drewN q) = .ok (.string ⟨L0.toArray⟩) (w11.drewN q) := fun q => str_rd (w := w11.drewN q) hr6
  have hcv9 : ∀ q, (convert 27 9 (.slice P9 L0.length (n + k))).run Try.prog (w11.drewN q) = .ok (.string ⟨L0.toArray⟩) (w11.drewN q) := fun q => by
    have := str_rd (w := w11.drewN q) (c := n + k) (hr9.take L0.length)
    rw [hg2] at this
    exact this
  obtain ⟨PA, hsl, hrA⟩ := app_rd hr9 L0.length (n + k) hg1 hp
  have hz : ∀ x ∈ L1.drop L0.length ++ L2, x = 0 := fun x hx => by
    rcases List.mem_append.1 hx with hx | hx
    · rw [hg3] at hx; exact (List.mem_replicate.1 hx).2
    · rw [hh] at hx; exact (List.mem_replicate.1 hx).2
  have hle1 : (L1.drop L0.length).length ≤ 40000 := by rw [List.length_drop]; omega
  have hle2 : L2.length ≤ 20000 := by rw [hh, List.length_replicate]; omega
  generalize L1.drop L0.length = LA at *
  have HR9 := Lib.hid hr9
  have HRA := Lib.hid hrA
  have HR11 := Lib.hid hr11
  have HC11 := Lib.hid (show P11 = none → L2.length = 0 from hc11)
  have HZ := Lib.hid hz
  clear hr6 hr9 hr11 hrA hc11 hn6 hn9 hs45 hs56 hs67 hs78 hs89 hs910 hs1011 hbl4 hml4 hbl5 hml5 hz hg1 hg2 hg3 hg hh hv6 hv9 hv11
  generalize hpp : L0.length = p at *
  clear hpp
  have hsl2 : Value.slice (if n + k = p then P9 else Option.map (fun x => x.add p) P9) (n + k - p) (n + k - p) = .slice PA LA.length LA.length := by simpa [sliced] using hsl
  have hp' : (p : Int) ≤ (n : Int) + (k : Int) := by omega
  clear hsl
  go_quiet (fail)
  obtain ⟨w12, hw12⟩ : ∃ w12, w11.drewN nq = w12 := ⟨_, rfl⟩
  rw [hw12]
  have HSL := Lib.hid hsl2
  have HBW12 := Lib.hid (show Below W.heap.size W w12 by rw [← hw12]; exact below_drewN HBW.out nq)
  have HRA12 := Lib.hid (show Rd w12 w12.heap.size 1 byteC PA LA by rw [← hw12]; exact HRA.out)
  have HR12 := Lib.hid (show Rd w12 w12.heap.size 1 byteC P11 L2 by rw [← hw12]; exact HR11.out)
  clear hcv6 hcv9 hsl2 hw12
  go_wp2_with (at_builtin; (refine wpList_app_full rfl (.tmp 106) (.tmp 107) 27 rfl 5 1 1 byteC byteT w12 LA L2 PA P11 L2.length w12.heap.size w12.heap.size HSL.out rfl HRA12.out HR12.out HC11.out (by unfold maxLen; omega) (by omega) ?_ (Nat.le_refl _)); intro A' c' w13 hr13 hb13; replace hb13 := Lib.hid hb13; replace hr13 := Lib.hid hr13)
  all_goals
    have hN : LA.length + L2.length ≤ 60000 := by omega
    have HLen := Lib.hid (show (LA ++ L2).length = LA.length + L2.length from List.length_append)
    go_loop [110] (fun vi => ∃ i : Nat, i ≤ LA.length + L2.length ∧ vi = .int .i64 (i : Int)) (fun vi => LA.length + L2.length - (intOf vi).toNat)
    case atStart => exact ⟨0, Nat.zero_le _, rfl⟩
    case round =>
      obtain ⟨i, hi, rfl⟩ := hrel
      by_cases hin : i < LA.length + L2.length
      · have hil : i < (LA ++ L2).length := by rw [HLen.out]; exact hin
        obtain ⟨a1, h1, -⟩ := hr13.out.addr hil
        subst h1
        have g1 : w13.cell? (a1.add i) = some (.int .u8 0) := by
          have := hr13.out.at1 hil (v := byteV (LA ++ L2)[i]) rfl
          rw [HZ.out _ (List.getElem_mem hil)] at this
          exact this
        clear hil
        go_wp2
        go_round
        case rel => exact ⟨i + 1, by omega, by go_num⟩
        case measure => simp [intOf]; omega
      · go_wp2_with (go_at_call 15; (with_reducible refine (HA.out _).mono ?_); rintro e w16 ⟨rfl, hB16⟩; replace hB16 := Lib.hid hB16)
        go_ret
        exact ⟨rfl, (HBW12.out.trans (hb13.out.mono HBW12.out.size)).trans (hB16.out.mono (Nat.le_trans HBW12.out.size hb13.out.size))⟩

theorem sheetGone_walk (l : List (OpR × Option Addr × Nat)) (A0 : Option Addr) (c0 : Nat) (n k : Int) (W : World) (hm0 : l.length ≤ maxLen) (rd0 : Rd W W.heap.size 4 opC A0 l) (hq0 : ∀ y ∈ l, opQ W y) :
    Calls Try.prog 6 #[.slice A0 l.length c0, .int .i64 n, .int .i64 k] W fun e W' => e = .returned (.bool true) ∧ Below W.heap.size W W' := by
  cases hf : fewB l
  · exact sheetGone_early l A0 c0 n k W hm0 rd0 hq0 (.inl hf)
  · by_cases h : 0 ≤ n ∧ 0 ≤ k ∧ n ≤ 20000 ∧ k ≤ 20000
    · obtain ⟨h1, h2, h3, h4⟩ := h
      obtain ⟨n, rfl⟩ := Int.eq_ofNat_of_zero_le h1
      obtain ⟨k, rfl⟩ := Int.eq_ofNat_of_zero_le h2
      exact sheetGone_main l A0 c0 n k W hm0 rd0 hq0 hf (by omega) (by omega)
    · exact sheetGone_early l A0 c0 n k W hm0 rd0 hq0 (.inr ⟨hf, by omega⟩)

set_option maxRecDepth 100000 in
theorem sheetGone_given (W : World) (args : Array Value) (h : Given W Try.f6 args) :
    Calls Try.prog 6 args W fun e W' => e = .returned (.bool true) ∧ Below W.heap.size W W' := by
  obtain ⟨⟨H, enc, ds, p, hA, hwt⟩, base, hval⟩ := h
  rw [Try.params6] at hA hval hwt
  obtain ⟨v0, vs0, d0, ds0, p0, q0, hargs, rfl, rfl, h0, r0⟩ := trodAll_cons hA
  obtain ⟨v1, vs1, d1, ds1, p1, q1, rfl, rfl, rfl, h1, r1⟩ := trodAll_cons r0
  obtain ⟨v2, vs2, d2, ds2, p2, q2, rfl, rfl, rfl, h2, r2⟩ := trodAll_cons r1
  obtain ⟨rfl, rfl, rfl⟩ := trodAll_nil r2
  obtain rfl : args = #[v0, v1, v2] := by cases args; simp_all
  simp only [DataW.weightsEach, List.all_append, Bool.and_eq_true] at hwt
  obtain ⟨g0, g1, g2, _⟩ := hwt
  obtain ⟨⟨A0, c0, l0⟩, rfl, hm0, hn0, hz0, rd0, hq0⟩ := opens_ops W H enc base v0 d0 p0 (hval 0 _ v0 rfl rfl) h0 g0
  obtain ⟨a1, rfl, hw_a1⟩ := opens_int W H enc base v1 d1 p1 (hval 1 _ v1 rfl rfl) h1 g1
  obtain ⟨a2, rfl, hw_a2⟩ := opens_int W H enc base v2 d2 p2 (hval 2 _ v2 rfl rfl) h2 g2
  exact sheetGone_walk l0 A0 c0 a1 a2 W hm0 rd0 hq0

theorem sheetGone_lifted (os : Os) (started : os.Started) (H : Type) (enc : TypeId × Value → H) :
    ReturnsInHanded {} Try.checked os 6 .any (Rows.sheetGoneSpec.pre6 enc Try.prog Try.f6 Rows.sheetGoneRow.domain false) (Rows.sheetGoneSpec.post enc Try.prog Try.f6 false true false false) :=
  law_lifted (s := Rows.sheetGoneSpec) os started H enc (by kernel_rfl) Try.func6 rfl (by kernel_rfl)
    (by rw [Try.params6]; intro t ht; simp at ht; rcases ht with rfl | rfl | rfl <;> exact ⟨by kernel_rfl, of_decide_eq_true (by kernel_rfl)⟩)
    (by rw [Try.params6]; intro ds hd; match ds, hd with | [x0, x1, x2], _ => exact ⟨rfl, rfl, rfl⟩)
    (ChangeSpec.witness6 (enc := enc) (C := Try.checked) false ⟨#[], #[.slice none 0 0, .int .i64 0, .int .i64 0], []⟩ 8 (by kernel_rfl) (by kernel_rfl) (by kernel_rfl) (by kernel_rfl))
    sheetGone_given

theorem sheetGone_holds : Rows.SheetGoneSaid :=
  OpenClaim.holds_of_wide 6 Try.f6 rfl rfl rfl rfl rfl rfl rfl ⟨rfl, rfl, rfl, rfl, rfl⟩ rfl rfl rfl rfl rfl (by kernel_rfl) Try.func6 (by kernel_rfl)
    (of_decide_eq_true (by kernel_rfl)) (by unfold Func.isWrapper; first | (rw [if_pos (by decide +kernel)]; kernel_rfl) | (rw [if_neg (by decide +kernel)]; exact ⟨rfl, rfl⟩))
    (fun os started H enc _ => sheetGone_lifted os started H enc)
#print axioms sheetGone_holds
end Go.Proofs.Ytpcjmefchclhhaa

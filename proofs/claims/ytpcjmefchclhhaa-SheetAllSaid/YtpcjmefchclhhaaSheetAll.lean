/- SheetAll: every call of any script is answered as the document says, and the bytes and the blocks that are there are what it says: for every input the law returns true. No condition. -/
import Derived.Test.YtpcjmefchclhhaaShY
namespace Go.Proofs.Ytpcjmefchclhhaa
open Go.RowKit Go.MapKept Go.ChangeShapes Go.WideShapes Go.ChangeAt

set_option maxRecDepth 100000 in
set_option maxHeartbeats 4000000 in
theorem sheetAll_walk (l : List (OpR × Option Addr × Nat)) (A0 : Option Addr) (c0 : Nat) (W : World) (hm0 : l.length ≤ maxLen) (rd0 : Rd W W.heap.size 4 opC A0 l) (hq0 : ∀ y ∈ l, opQ W y) :
    Calls Try.prog 7 #[.slice A0 l.length c0] W fun e W' => e = .returned (.bool true) ∧ Below W.heap.size W W' := by
  have HN := Lib.hid (new_any W)
  have HA := Lib.hid alive_any
  have HFw := Lib.hid (show ∀ w, Below W.heap.size W w → Calls Try.prog 14 #[.slice A0 l.length c0] w fun e w' => e = .returned (.bool (fewB l)) ∧ Below w.heap.size w w' from fun w hb =>
    few_any l A0 c0 w hm0 ((rd0.below hb).more hb.size) (fun y hy => (hq0 y hy).1))
  have HP := Lib.hid (fun (w1 w2 : World) (b m : Nat) (hb : W.heap.size ≤ b) (hm : W.heap.size ≤ m) (hR : Raw w1 b m 0 []) (hB : Below W.heap.size W w1) (h2 : Below w1.heap.size w1 w2) => play_new (c0 := c0) hm0 rd0 hq0 hb hm hR hB h2)
  clear rd0 hq0
  generalize hn : l.length = n at *
  clear hn
  cases hf : fewB l
  · rw [hf] at HFw
    clear hf
    go_enter Try.func7, Try.ntmps7
    go_wp2_with (first
      | (go_at_call 13; (with_reducible refine HN.out.mono ?_); rintro e w1 ⟨b, m, rfl, hb, hm, hR, hB⟩; replace hB := Lib.hid hB; clear hR)
      | (go_at_call 14; (with_reducible refine (HFw.out _ hB.out).mono ?_); rintro e w2 ⟨rfl, hB2⟩; replace hB2 := Lib.hid hB2)
      | (go_at_call 15; (with_reducible refine (HA.out _).mono ?_); rintro e w3 ⟨rfl, hB3⟩; replace hB3 := Lib.hid hB3))
    go_ret
    exact ⟨rfl, hB.out.trans ((hB2.out.trans (hB3.out.mono hB2.out.size)).mono hB.out.size)⟩
  · rw [hf] at HFw
    clear hf
    go_enter Try.func7, Try.ntmps7
    go_wp2_with (first
      | (go_at_call 13; (with_reducible refine HN.out.mono ?_); rintro e w1 ⟨b, m, rfl, hb, hm, hR, hB⟩; replace hB := Lib.hid hB; replace hR := Lib.hid hR)
      | (go_at_call 14; (with_reducible refine (HFw.out _ hB.out).mono ?_); rintro e w2 ⟨rfl, hB2⟩; replace hB2 := Lib.hid hB2)
      | (go_at_call 16; (with_reducible refine (HP.out w1 _ b m hb hm hR.out hB.out hB2.out).mono ?_); rintro e w4 ⟨A, c, A', c', size', bl', B', On', rfl, hR4, hV4, hS4, hB4⟩; replace hR4 := Lib.hid hR4; replace hV4 := Lib.hid hV4; replace hS4 := Lib.hid hS4; replace hB4 := Lib.hid hB4)
      | (go_at_call 15; (with_reducible refine (HA.out _).mono ?_); rintro e w5 ⟨rfl, hB5⟩; have hx := (hB5.block w4.heap.size (by simp)).trans (heap_alloc_new w4 _); have x0 : w5.cell? ⟨w4.heap.size, 0, none⟩ = _ := cell_at hx 0; have x1 : w5.cell? ⟨w4.heap.size, 1, none⟩ = _ := cell_at hx 1; clear hx; replace hB5 := Lib.hid (((Below.refl w4.heap.size w4).alloc (Nat.le_refl _) _).trans (hB5.mono (by simp))))
      | (go_at_call 27; (with_reducible refine (stands_any (hR4.out.below hB5.out) (hV4.out.below hB5.out) hS4.out).mono ?_); rintro e w6 ⟨rfl, hB6⟩; replace hB6 := Lib.hid hB6))
    go_ret
    exact ⟨rfl, hB4.out.trans ((hB5.out.trans (hB6.out.mono hB5.out.size)).mono hB4.out.size)⟩

set_option maxRecDepth 100000 in
theorem sheetAll_given (W : World) (args : Array Value) (h : Given W Try.f7 args) :
    Calls Try.prog 7 args W fun e W' => e = .returned (.bool true) ∧ Below W.heap.size W W' := by
  obtain ⟨⟨H, enc, ds, p, hA, hwt⟩, base, hval⟩ := h
  rw [Try.params7] at hA hval hwt
  obtain ⟨v0, vs0, d0, ds0, p0, q0, hargs, rfl, rfl, h0, r0⟩ := trodAll_cons hA
  obtain ⟨rfl, rfl, rfl⟩ := trodAll_nil r0
  obtain rfl : args = #[v0] := by cases args; simp_all
  simp only [DataW.weightsEach, List.all_append, Bool.and_eq_true] at hwt
  obtain ⟨g0, _⟩ := hwt
  obtain ⟨⟨A0, c0, l0⟩, rfl, hm0, hn0, hz0, rd0, hq0⟩ := opens_ops W H enc base v0 d0 p0 (hval 0 _ v0 rfl rfl) h0 g0
  exact sheetAll_walk l0 A0 c0 W hm0 rd0 hq0

theorem sheetAll_lifted (os : Os) (started : os.Started) (H : Type) (enc : TypeId × Value → H) :
    ReturnsInHanded {} Try.checked os 7 .any (Rows.sheetAllSpec.pre6 enc Try.prog Try.f7 Rows.sheetAllRow.domain false) (Rows.sheetAllSpec.post enc Try.prog Try.f7 false true false false) :=
  law_lifted (s := Rows.sheetAllSpec) os started H enc (by kernel_rfl) Try.func7 rfl (by kernel_rfl)
    (by rw [Try.params7]; intro t ht; simp at ht; rcases ht with rfl <;> exact ⟨by kernel_rfl, of_decide_eq_true (by kernel_rfl)⟩)
    (by rw [Try.params7]; intro ds hd; match ds, hd with | [x0], _ => exact ⟨rfl, rfl, rfl⟩)
    (ChangeSpec.witness6 (enc := enc) (C := Try.checked) false ⟨#[], #[.slice none 0 0], []⟩ 8 (by kernel_rfl) (by kernel_rfl) (by kernel_rfl) (by kernel_rfl))
    sheetAll_given

theorem sheetAll_holds : Rows.SheetAllSaid :=
  OpenClaim.holds_of_wide 7 Try.f7 rfl rfl rfl rfl rfl rfl rfl ⟨rfl, rfl, rfl, rfl, rfl⟩ rfl rfl rfl rfl rfl (by kernel_rfl) Try.func7 (by kernel_rfl)
    (of_decide_eq_true (by kernel_rfl)) (by unfold Func.isWrapper; first | (rw [if_pos (by decide +kernel)]; kernel_rfl) | (rw [if_neg (by decide +kernel)]; exact ⟨rfl, rfl⟩))
    (fun os started H enc _ => sheetAll_lifted os started H enc)
#print axioms sheetAll_holds
end Go.Proofs.Ytpcjmefchclhhaa

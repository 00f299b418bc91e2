/- Openers of the arrays [2]int and [2][]byte; SheetOrder's early ends. -/
import Derived.Test.YtpcjmefchclhhaaShGa
namespace Go.Proofs.Ytpcjmefchclhhaa
open Go.RowKit Go.MapKept Go.ChangeShapes Go.WideShapes Go.ChangeAt

set_option maxRecDepth 100000 in
theorem opens_int2 : Opens 46 (fun _ v (x : Int × Int) => v = .agg #[.int .i64 x.1, .int .i64 x.2]) := fun W H enc base v d p hv h _ => by
  have hu : Try.prog.underlying 46 = some (.array 2 3) := Try.underlying46
  have h1 : Try.prog.cellsOf 3 = 1 := by kernel_rfl
  have h2 : Try.prog.cellsOf 46 = 2 := by kernel_rfl
  simp only [Value.okWide, hu] at hv
  obtain ⟨cs, rfl, hs, _⟩ := hv
  obtain ⟨l⟩ := cs
  rw [h2] at hs
  match l, hs with
  | [c0, c1], _ =>
    obtain ⟨fuel, hf⟩ := h
    obtain ⟨xs, m, _, _, hlen, hl, hel⟩ := DataW.trod_array hu hf
    have e0 := hel 0 (by omega)
    have e1 := hel 1 (by omega)
    rw [h1, List.getElem?_eq_getElem (by omega)] at e0 e1
    obtain ⟨a, ea, _, _⟩ := DataW.trod_int Try.underlying3 e0
    obtain ⟨b, eb, _, _⟩ := DataW.trod_int Try.underlying3 e1
    simp [Value.cells] at ea eb
    subst ea eb
    exact ⟨(a, b), rfl⟩
set_option maxRecDepth 100000 in
theorem opens_bytes2 : Opens 47 (fun W v (x : (Option Addr × Nat × List UInt8) × (Option Addr × Nat × List UInt8)) => v = .agg #[.slice x.1.1 x.1.2.2.length x.1.2.1, .slice x.2.1 x.2.2.2.length x.2.2.1] ∧
    (x.1.2.2.length ≤ maxLen ∧ x.1.2.2.length ≤ x.1.2.1 ∧ Rd W W.heap.size 1 byteC x.1.1 x.1.2.2) ∧ (x.2.2.2.length ≤ maxLen ∧ x.2.2.2.length ≤ x.2.2.1 ∧ Rd W W.heap.size 1 byteC x.2.1 x.2.2.2)) := fun W H enc base v d p hv h _ => by
  have hu : Try.prog.underlying 47 = some (.array 2 27) := Try.underlying47
  have h1 : Try.prog.cellsOf 27 = 1 := by kernel_rfl
  have h2 : Try.prog.cellsOf 47 = 2 := by kernel_rfl
  simp only [Value.okWide, hu] at hv
  obtain ⟨cs, rfl, hs, _⟩ := hv
  obtain ⟨l⟩ := cs
  rw [h2] at hs
  match l, hs with
  | [c0, c1], _ =>
    obtain ⟨fuel, hf⟩ := h
    obtain ⟨xs, m, _, _, hlen, hl, hel⟩ := DataW.trod_array hu hf
    have e0 := hel 0 (by omega)
    have e1 := hel 1 (by omega)
    rw [h1, List.getElem?_eq_getElem (by omega)] at e0 e1
    obtain ⟨A, k, l, ea, q1, q2, q3, _⟩ := slice_dec (sz := 1) byteC (fun _ _ => True) Try.underlying27 (by kernel_rfl) (by omega) byte_dec e0
    obtain ⟨A', k', l', eb, r1, r2, r3, _⟩ := slice_dec (sz := 1) byteC (fun _ _ => True) Try.underlying27 (by kernel_rfl) (by omega) byte_dec e1
    simp [Value.cells] at ea eb
    subst ea eb
    exact ⟨((A, k, l), (A', k', l')), rfl, ⟨q1, q2, q3⟩, ⟨r1, r2, r3⟩⟩

set_option maxRecDepth 100000 in
set_option maxHeartbeats 8000000 in
theorem sheetOrder_early (l : List (OpR × Option Addr × Nat)) (A0 : Option Addr) (c0 : Nat) (x y : Int) (A2 A3 : Option Addr) (n2 c2 n3 c3 : Nat) (W : World) (hm0 : l.length ≤ maxLen) (rd0 : Rd W W.heap.size 4 opC A0 l) (hq0 : ∀ y ∈ l, opQ W y) (hm2 : n2 ≤ maxLen) (hm3 : n3 ≤ maxLen)
    (he : fewB l = false ∨ fewB l = true ∧ (2000 < n2 ∨ n2 ≤ 2000 ∧ (2000 < n3 ∨ n3 ≤ 2000 ∧ (x < 0 ∨ 0 ≤ x ∧ (5000 < x ∨ x ≤ 5000 ∧ (y < 0 ∨ 0 ≤ y ∧ (5000 < y ∨ y ≤ 5000 ∧ (x < y + n3 ∧ y < x + n2)))))))) :
    Calls Try.prog 8 #[.slice A0 l.length c0, .agg #[.int .i64 x, .int .i64 y], .agg #[.slice A2 n2 c2, .slice A3 n3 c3]] W fun e W' => e = .returned (.bool true) ∧ Below W.heap.size W W' := by
  obtain ⟨W2, hw2⟩ : ∃ W2, (W.alloc (.cells #[.int .i64 x, .int .i64 y] 46)).alloc (.cells #[.slice A2 n2 c2, .slice A3 n3 c3] 47) = W2 := ⟨_, rfl⟩
  have hB2 : Below W.heap.size W W2 := by rw [← hw2]; exact ((Below.refl _ _).alloc (Nat.le_refl _) _).alloc (by simp) _
  have hs2 : W2.heap.size = W.heap.size + 2 := by rw [← hw2]; simp
  have hp0 : W2.heap[W.heap.size]? = some (.cells #[.int .i64 x, .int .i64 y] 46 (0, 0)) := by rw [← hw2]; exact (Below.heap_alloc _ _ _ (by simp)).trans (heap_alloc_new _ _)
  have hp1 : W2.heap[W.heap.size + 1]? = some (.cells #[.slice A2 n2 c2, .slice A3 n3 c3] 47 (0, 0)) := by rw [← hw2]; have := heap_alloc_new (W.alloc (.cells #[.int .i64 x, .int .i64 y] 46)) (.cells #[.slice A2 n2 c2, .slice A3 n3 c3] 47); simpa using this
  have HK := Lib.hid (show ∀ w', Below W2.heap.size W2 w' → w'.cell? ⟨W.heap.size, 0, none⟩ = some (.int .i64 x) ∧ w'.cell? ⟨W.heap.size, 1, none⟩ = some (.int .i64 y) ∧ w'.cell? ⟨W.heap.size + 1, 0, none⟩ = some (.slice A2 n2 c2) ∧ w'.cell? ⟨W.heap.size + 1, 1, none⟩ = some (.slice A3 n3 c3) from fun w' hb => by
    have e0 := (hb.block W.heap.size (by omega)).trans hp0
    have e1 := (hb.block (W.heap.size + 1) (by omega)).trans hp1
    exact ⟨cell_at e0 0, cell_at e0 1, cell_at e1 0, cell_at e1 1⟩)
  have HW2 := Lib.hid hw2
  have HB2 := Lib.hid hB2
  have HN := Lib.hid (new_any W2)
  have HA := Lib.hid alive_any
  have HFw := Lib.hid (show ∀ w, Below W2.heap.size W2 w → Calls Try.prog 14 #[.slice A0 l.length c0] w fun e w' => e = .returned (.bool (fewB l)) ∧ Below W2.heap.size W2 w' from fun w hb =>
    (few_any l A0 c0 w hm0 (((rd0.below hB2).below (hb.mono (by omega))).more (Nat.le_trans hB2.size hb.size)) (fun y hy => (hq0 y hy).1)).mono fun e w' ⟨h1, h2⟩ => ⟨h1, hb.trans (h2.mono hb.size)⟩)
  clear rd0 hq0 hw2 hp0 hp1 hB2 hs2
  generalize hn : l.length = n at *
  clear hn
  generalize hf : fewB l = fb at *
  clear hf
  unfold maxLen at hm2 hm3
  rcases he with rfl | ⟨rfl, h1 | ⟨h1, h2 | ⟨h2, h3 | ⟨h3, h4 | ⟨h4, h5 | ⟨h5, h6 | ⟨h6, h7, h8⟩⟩⟩⟩⟩⟩⟩
  all_goals
    go_enter Try.func8, Try.ntmps8
    go_wp2_with fail
    rw [HW2.out]
    go_wp2_with (first
      | (go_at_call 13; (with_reducible refine HN.out.mono ?_); rintro e w1 ⟨b, m, rfl, hb, hm, hR, hB⟩; obtain ⟨x0, x1, x2, x3⟩ := HK.out _ hB; replace hB := Lib.hid hB; clear hR)
      | (go_at_call 14; (with_reducible refine (HFw.out _ hB.out).mono ?_); rintro e w2 ⟨rfl, hB2⟩; obtain ⟨y0, y1, y2, y3⟩ := HK.out _ hB2; replace hB2 := Lib.hid hB2)
      | (go_at_call 15; (with_reducible refine (HA.out _).mono ?_); rintro e w3 ⟨rfl, hB3⟩; replace hB3 := Lib.hid hB3))
    go_ret
    exact ⟨rfl, HB2.out.trans ((hB2.out.trans (hB3.out.mono hB2.out.size)).mono HB2.out.size)⟩
end Go.Proofs.Ytpcjmefchclhhaa

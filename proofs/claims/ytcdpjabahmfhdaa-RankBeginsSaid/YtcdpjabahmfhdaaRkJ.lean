/- Contract of alive: it is true. -/
import Derived.Test.YtcdpjabahmfhdaaRkI
import Derived.Test.YtcdpjabahmfhdaaRkF
namespace Go.Proofs.Ytcdpjabahmfhdaa
open Go.RowKit Go.Sort

theorem rd_ints (w : World) (B g : Nat) (t : TypeId) (l : List Int) (hg : w.heap[g]? = some (.cells (intV l).toArray t (0, 0))) (hB : g < B) : Rd w B 1 intC (some ⟨g, 0, none⟩) l :=
  rd_block hg hB fun i x hx j v hv => by
    match j, hv with
    | 0, hv => simp only [intC, List.getElem?_cons_zero, Option.some.injEq] at hv; subst hv; simp [intV, hx]
    | j + 1, hv => simp [intC] at hv

set_option maxHeartbeats 1000000 in
theorem alive_any (w : World) : Calls Try.prog 13 #[] w fun e w' => e = .returned (.bool true) ∧ Below w.heap.size w w' := by
  have h1 := next_any 7 0 3 w
  rw [show nextI 7 0 3 = 9 by decide, show nextB 7 0 3 = true by decide] at h1
  have h2 := quorum_any 5 w
  rw [show quorumI 5 = 3 by decide] at h2
  have h3 := primary_any 7 3 w
  rw [show primaryI 7 3 = 1 by decide] at h3
  have h4 := held_any [5, 2, 9] (some ⟨w.heap.size, 0, none⟩) 3 (w.alloc (.cells #[.int .i64 5, .int .i64 2, .int .i64 9] 3)) (by simp [maxLen]) (rd_ints _ _ _ 3 _ (heap_alloc_new w _) (by simp))
  rw [show heldI [5, 2, 9] = 5 by decide] at h4
  have H1 := Lib.hid h1
  have H2 := Lib.hid h2
  have H3 := Lib.hid h3
  have H4 := Lib.hid h4
  clear h1 h2 h3 h4
  go_enter Try.func13, Try.ntmps13
  go_wp2_with (first | (go_at_call 11; refine H1.out.mono ?_; rintro e w1 ⟨rfl, rfl⟩) | (go_at_call 14; refine H2.out.mono ?_; rintro e w1 ⟨rfl, rfl⟩) | (go_at_call 16; refine H3.out.mono ?_; rintro e w1 ⟨rfl, rfl⟩) | (go_at_call 18; refine H4.out.mono ?_; rintro e w1 ⟨rfl, hb1⟩))
  have hb0 : Below w.heap.size w w1 := ((Below.refl _ _).alloc (Nat.le_refl _) _).trans (hb1.mono (by simp))
  clear hb1 H1 H2 H3 H4
  have hr := right_any [] none 0 w1 (by simp [maxLen]) (Rd.nil _ _ _ _ _)
  rw [show rightB [] = true by decide] at hr
  refine (show Calls Try.prog 21 #[.slice none 0 0] w1 _ from hr).mono ?_
  clear hr
  rintro e w2 ⟨rfl, hb2⟩
  have hb := hb0.trans (hb2.mono hb0.size)
  clear hb0 hb2
  have hrd : Rd (w2.alloc (.cells #[.int .i64 0, .int .i64 0, .string ByteArray.empty] 48)) (w2.alloc (.cells #[.int .i64 0, .int .i64 0, .string ByteArray.empty] 48)).heap.size 3 entC (some ⟨w2.heap.size, 0, none⟩) [⟨0, 0, ByteArray.empty⟩] := rd_block (heap_alloc_new w2 _) (by simp) fun i x hx j v hv => by
    match i, hx, j, hv with
    | 0, hx, 0, hv => simp at hx; subst hx; exact hv
    | 0, hx, 1, hv => simp at hx; subst hx; exact hv
    | 0, hx, 2, hv => simp at hx; subst hx; exact hv
    | 0, hx, j + 3, hv => simp at hx; subst hx; simp [entC] at hv
    | i + 1, hx, _, _ => simp at hx
  have hr := right_any [⟨0, 0, ByteArray.empty⟩] (some ⟨w2.heap.size, 0, none⟩) 1 _ (by simp [maxLen]) hrd
  rw [show rightB [⟨0, 0, ByteArray.empty⟩] = false by decide] at hr
  have HR := Lib.hid hr
  clear hr hrd
  go_wp2_with fail
  refine (show Calls Try.prog 21 #[.slice (some ⟨w2.heap.size, 0, none⟩) 1 1] (w2.alloc (.cells #[.int .i64 0, .int .i64 0, .string ByteArray.empty] 48)) _ from HR.out).mono ?_
  rintro e w3 ⟨rfl, hb3⟩
  have hbb : Below w.heap.size w w3 := (hb.alloc hb.size _).trans (hb3.mono (by have := hb.size; simp; omega))
  clear hb3 HR
  go_wp2
  go_ret
  exact ⟨rfl, hbb⟩

end Go.Proofs.Ytcdpjabahmfhdaa

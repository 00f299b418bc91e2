/- Contracts of the laws' own functions: alive, does. -/
import Derived.Test.YtpcjmefchclhhaaShF
import Derived.Test.YtpcjmefchclhhaaShH
import Derived.Lib.SlBytesConst
namespace Go.Proofs.Ytpcjmefchclhhaa
open Go.RowKit Go.MapKept

theorem str_row {w : World} {g : Nat} {L : List UInt8} {t : TypeId} (hg : w.heap[g]? = some (.cells (L.map byteV).toArray t (0, 0))) (cap : Nat) :
    (convert 27 9 (.slice (some ⟨g, 0, none⟩) L.length cap)).run Try.prog w = .ok (.string ⟨L.toArray⟩) w :=
  run_convert_bytes_back w _ _ 5 ⟨g, 0, none⟩ cap L Try.underlying27 Try.underlying5 Try.underlying9 (fun j hj => by
    have e : Addr.add ⟨g, 0, none⟩ j = ⟨g, j, none⟩ := by unfold Addr.add; split <;> simp_all
    rw [e, cell_at hg]
    simp [hj, byteV])

def aliveBl : List (Nat × List UInt8) := [(2, [0, 0, 0, 0, 0, 0, 0, 0, 97, 98, 0, 0, 0, 0, 0, 0])]
theorem alive_bl : wrBl [] 40 [97, 98] = aliveBl := by decide
theorem alive_size : wrSize 0 40 2 = 42 := by decide
theorem alive_read : readL aliveBl 39 3 = [0, 97, 98] := by decide

set_option maxRecDepth 100000 in
set_option maxHeartbeats 1000000 in
theorem alive_any (w : World) : Calls Try.prog 15 #[] w fun e w' => e = .returned (.bool true) ∧ Below w.heap.size w w' := by
  have HN := Lib.hid (new_any w)
  go_enter Try.func15, Try.ntmps15
  go_wp2_with (go_at_call 13; (with_reducible refine HN.out.mono ?_); rintro e w1 ⟨b, m, rfl, hb, hm, hR, hB⟩)
  rw [Lib.run_convert_bytes_const w1 27 5 #[.int .u8 97, .int .u8 98] 2 2 Try.underlying27 Try.underlying5]
  change Oper.upon _ _ _ _ _ ((Result.ok _ (w1.alloc (.cells #[.int .u8 97, .int .u8 98] 5 (2, 3)))).andThen _)
  simp only [Result.andThen]
  rw [Oper.upon_value]
  have hR2 := hR.below ((Below.refl w1.heap.size w1).alloc (Nat.le_refl _) (.cells #[.int .u8 97, .int .u8 98] 5 (2, 3)))
  have hB2 := hB.alloc hB.size (.cells #[.int .u8 97, .int .u8 98] 5 (2, 3))
  have hd2 : Rd (w1.alloc (.cells #[.int .u8 97, .int .u8 98] 5 (2, 3))) (w1.alloc (.cells #[.int .u8 97, .int .u8 98] 5 (2, 3))).heap.size 1 byteC (some ⟨w1.heap.size, 0, none⟩) [97, 98] :=
    rd_block (heap_alloc_new w1 _) (by simp) (fun i x hx j v hv => by
      match i, j, hx, hv with
      | 0, 0, hx, hv => cases hx; exact hv
      | 1, 0, hx, hv => cases hx; exact hv
      | 0, j + 1, hx, hv => cases hx; simp [byteC] at hv
      | 1, j + 1, hx, hv => cases hx; simp [byteC] at hv
      | i + 2, _, hx, hv => simp at hx)
  generalize w1.alloc (.cells #[.int .u8 97, .int .u8 98] 5 (2, 3)) = w2 at *
  have HWr := Lib.hid (show Calls Try.prog 19 #[.pointer (some ⟨b, 0, none⟩), .int .i64 40, .slice (some ⟨w1.heap.size, 0, none⟩) 2 2] w2 fun e w' => e = .returned (.bool true) ∧ Raw w' b m 42 aliveBl ∧ Frm [b, m] w2 w' from by
    have h := write_any hR2 40 (some ⟨w1.heap.size, 0, none⟩) 2 [97, 98] (by simp [maxLen]) (by simp) hd2
    rw [alive_bl] at h
    exact h)
  have HRe : ∀ (w3 : World), Raw w3 b m 42 aliveBl → Calls Try.prog 17 #[.pointer (some ⟨b, 0, none⟩), .int .i64 39, .int .i64 9] w3 fun e w' => ∃ g, e = .returned (.slice (some ⟨g, 0, none⟩) 3 3) ∧ w'.heap[g]? = some (.cells (([0, 97, 98] : List UInt8).map byteV).toArray 5 (0, 0)) ∧ Below w3.heap.size w3 w' := fun _ h => (read_any h 39 9).mono fun e w' ⟨_, h2, h3⟩ => by
    obtain ⟨g, _, he, hc⟩ := h2 (by decide)
    exact ⟨g, he, hc, h3⟩
  have HRE := Lib.hid HRe
  clear HRe
  have HB2 := Lib.hid hB2
  clear hR2 hB2 hd2 hR hB HN
  go_wp2_with (first
    | (go_at_call 19; (with_reducible refine HWr.out.mono ?_); rintro e w3 ⟨rfl, hR3, hF3⟩; replace hR3 := Lib.hid hR3; replace hF3 := Lib.hid hF3)
    | (go_at_call 22; (with_reducible refine (size_any hR3.out).mono ?_); rintro e w4 ⟨rfl, rfl⟩)
    | (go_at_call 21; (with_reducible refine (show Calls _ _ _ _ (fun e w' => e = .returned (.int .i64 1) ∧ _ = w') from blocks_any hR3.out).mono ?_); rintro e w4 ⟨rfl, rfl⟩)
    | (go_at_call 17; (with_reducible refine (HRE.out _ hR3.out).mono ?_); rintro e w5 ⟨g, rfl, hc5, hB5⟩; have hcv : (convert 27 9 (.slice (some ⟨g, 0, none⟩) 3 3)).run Try.prog w5 = .ok (.string ⟨#[0, 97, 98]⟩) w5 := str_row hc5 3; replace hB5 := Lib.hid hB5; clear hc5))
  go_ret
  exact ⟨rfl, (Frm.below hF3.out HB2.out HB2.out.size (by simp; omega)).trans (hB5.out.mono (Nat.le_trans HB2.out.size hF3.out.size))⟩

/-- A call of a script, as the model writes it. -/
structure OpR where
  kind : Int
  at_ : Int
  n : Int
  bytes : List UInt8
def opV (o : OpR) (A : Option Addr) (c : Nat) : Value := .agg #[.int .i64 o.kind, .int .i64 o.at_, .int .i64 o.n, .slice A o.bytes.length c]
def stepOk (o : OpR) : Bool := if o.kind = 0 then fitsB o.at_ o.bytes.length else if o.kind = 1 then cutOk o.n else if o.kind = 2 then punchOk o.at_ o.n else true
def stepSize (size : Nat) (o : OpR) : Nat := if o.kind = 0 then wrSize size o.at_ o.bytes.length else if o.kind = 1 then cutSize size o.n else size
def stepBl (size : Nat) (bl : List (Nat × List UInt8)) (o : OpR) : List (Nat × List UInt8) := if o.kind = 0 then wrBl bl o.at_ o.bytes else if o.kind = 1 then cutBl size bl o.n else if o.kind = 2 then punchBl size bl o.at_ o.n else bl

set_option maxRecDepth 100000 in
set_option maxHeartbeats 1000000 in
theorem does_any {w : World} {b m size : Nat} {bl : List (Nat × List UInt8)} (h : Raw w b m size bl) (o : OpR) (A : Option Addr) (c : Nat) (hl : o.bytes.length ≤ maxLen) (hlc : o.bytes.length ≤ c) (hrd : Rd w w.heap.size 1 byteC A o.bytes) :
    Calls Try.prog 20 #[.pointer (some ⟨b, 0, none⟩), opV o A c] w
      fun e w' => e = .returned (.bool (stepOk o)) ∧ Raw w' b m (stepSize size o) (stepBl size bl o) ∧ Frm [b, m] w w' := by
  obtain ⟨K, at_, n, l⟩ := o
  simp only [opV] at *
  have hcase : K = 0 ∨ K = 1 ∨ K = 2 ∨ K ≠ 0 ∧ K ≠ 1 ∧ K ≠ 2 := by omega
  rcases hcase with rfl | rfl | rfl | ⟨h0, h1, h2⟩
  case inr.inr.inr =>
    have hba := (Below.refl w.heap.size w).alloc (Nat.le_refl _) (.cells #[.int .i64 K, .int .i64 at_, .int .i64 n, .slice A l.length c] 39)
    have HO := Lib.hid (show stepOk ⟨K, at_, n, l⟩ = true by simp [stepOk, h0, h1, h2])
    have HS := Lib.hid (show stepSize size ⟨K, at_, n, l⟩ = size by simp [stepSize, h0, h1])
    have HB := Lib.hid (show stepBl size bl ⟨K, at_, n, l⟩ = bl by simp [stepBl, h0, h1, h2])
    have t0 : (K == 0) = false := beq_eq_false_iff_ne.2 h0
    have t1 : (K == 1) = false := beq_eq_false_iff_ne.2 h1
    have t2 : (K == 2) = false := beq_eq_false_iff_ne.2 h2
    have HR := Lib.hid (h.below hba)
    have HF := Lib.hid (show Frm [b, m] w _ from Frm.of_below hba)
    clear h0 h1 h2 hba hrd h
    go_enter Try.func20, Try.ntmps20
    go_wp2
    go_ret
    exact ⟨ret_bool HO.out.symm, by rw [HS.out, HB.out]; exact HR.out, HF.out⟩
  case inl =>
    have hba := (Below.refl w.heap.size w).alloc (Nat.le_refl _) (.cells #[.int .i64 0, .int .i64 at_, .int .i64 n, .slice A l.length c] 39)
    have hR := h.below hba
    have HW := Lib.hid (write_any hR at_ A c l hl hlc ((hrd.below hba).more hba.size))
    have HF := Lib.hid (show Frm [b, m] w _ from Frm.of_below hba)
    clear hR hba hrd h
    go_enter Try.func20, Try.ntmps20
    go_wp2_with (go_at_call 19; (with_reducible refine HW.out.mono ?_); rintro e w3 ⟨rfl, hR3, hF3⟩; replace hR3 := Lib.hid hR3; replace hF3 := Lib.hid hF3)
    go_ret
    exact ⟨ret_bool rfl, hR3.out, HF.out.trans hF3.out⟩
  case inr.inl =>
    have hba := (Below.refl w.heap.size w).alloc (Nat.le_refl _) (.cells #[.int .i64 1, .int .i64 at_, .int .i64 n, .slice A l.length c] 39)
    have hR := h.below hba
    have HW := Lib.hid (cut_any hR n)
    have HF := Lib.hid (show Frm [b, m] w _ from Frm.of_below hba)
    clear hR hba hrd h
    go_enter Try.func20, Try.ntmps20
    go_wp2_with (go_at_call 25; (with_reducible refine HW.out.mono ?_); rintro e w3 ⟨rfl, hR3, hF3⟩; replace hR3 := Lib.hid hR3; replace hF3 := Lib.hid hF3)
    go_ret
    exact ⟨ret_bool rfl, hR3.out, HF.out.trans hF3.out⟩
  case inr.inr.inl =>
    have hba := (Below.refl w.heap.size w).alloc (Nat.le_refl _) (.cells #[.int .i64 2, .int .i64 at_, .int .i64 n, .slice A l.length c] 39)
    have hR := h.below hba
    have HW := Lib.hid (punch_any hR at_ n)
    have HF := Lib.hid (show Frm [b, m] w _ from Frm.of_below hba)
    clear hR hba hrd h
    go_enter Try.func20, Try.ntmps20
    go_wp2_with (go_at_call 26; (with_reducible refine HW.out.mono ?_); rintro e w3 ⟨rfl, hR3, hF3⟩; replace hR3 := Lib.hid hR3; replace hF3 := Lib.hid hF3)
    go_ret
    exact ⟨ret_bool rfl, hR3.out, HF.out.trans hF3.out⟩

end Go.Proofs.Ytpcjmefchclhhaa

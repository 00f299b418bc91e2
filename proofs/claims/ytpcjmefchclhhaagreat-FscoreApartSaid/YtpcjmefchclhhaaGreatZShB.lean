/- A part of the proof. -/
import Derived.Test.YtpcjmefchclhhaaGreatZShA
import Derived.Test.YtpcjmefchclhhaaGreatZRow
namespace Go.Proofs.YtpcjmefchclhhaaGreat
open Go.RowKit Go.MapKept
def missing (bl : List (Nat × List UInt8)) (k j : Nat) : Nat := (List.range j).countP fun i => (aget bl (k + i)).isNone
theorem missing_step (bl : List (Nat × List UInt8)) (k j : Nat) : missing bl k (j + 1) = missing bl k j + if (aget bl (k + j)).isNone then 1 else 0 := by
 unfold missing
 rw [List.range_succ, List.countP_append]
 simp [List.countP_cons]
theorem missing_le (bl : List (Nat × List UInt8)) (k j : Nat) : missing bl k j ≤ j := by
 unfold missing
 exact Nat.le_trans List.countP_le_length (by simp)
def needN (bl : List (Nat × List UInt8)) (a : Int) (n : Nat) : Nat := if fitsB a n = true ∧ 0 < n then missing bl (a.toNat / 16) ((a.toNat + n - 1) / 16 - a.toNat / 16 + 1) else 0
def zero16 : Value := .agg #[.int .u8 0, .int .u8 0, .int .u8 0, .int .u8 0, .int .u8 0, .int .u8 0, .int .u8 0, .int .u8 0, .int .u8 0, .int .u8 0, .int .u8 0, .int .u8 0, .int .u8 0, .int .u8 0, .int .u8 0, .int .u8 0]
theorem zero_block (w : World) : (zeroValue 165).run Tryz.prog w = .ok zero16 w := by kernel_rfl
theorem block_info : (Tryz.prog.info? 165).map (·.size) = some 16 := by kernel_rfl
def cont (bl : List (Nat × List UInt8)) (k : Nat) : List UInt8 := (aget bl k).getD (List.replicate 16 0)
theorem cont_val (bl : List (Nat × List UInt8)) (k : Nat) : ((aget bl k).map blkV).getD zero16 = .agg ((cont bl k).map byteV).toArray := by
 unfold cont
 cases aget bl k with
 | none => rfl
 | some v => rfl
theorem cont_len {bl : List (Nat × List UInt8)} (h : ∀ p ∈ bl, p.2.length = 16) (k : Nat) : (cont bl k).length = 16 := by
 unfold cont
 cases hg : aget bl k with
 | none => simp
 | some v => exact h _ (aget_mem hg)
theorem bytes_one (l : List UInt8) : ∀ v ∈ ((l.map byteV).toArray).toList, v.oneCell' = true := by
 intro v hv
 obtain ⟨x, _, rfl⟩ := List.mem_map.1 (by simpa using hv)
 rfl
set_option maxRecDepth 100000 in
set_option maxHeartbeats 1000000 in
theorem need_any {w : World} {b m size : Nat} {bl : List (Nat × List UInt8)} (h : Raw w b m size bl) (a : Int) (A : Option Addr) (n c : Nat) (hn : n ≤ maxLen) :
  Calls Tryz.prog 75 #[.pointer (some ⟨b, 0, none⟩), .int .i64 a, .slice A n c] w
   fun e w' => e = .returned (.int .i64 (needN bl a n : Nat)) ∧ Below w.heap.size w w' := by
 have HF := Lib.hid (fits_any a A n c hn w)
 have hb := Below.refl w.heap.size w
 unfold maxLen at hn
 by_cases hf : fitsB a n = true ∧ 0 < n
 ·obtain ⟨hf1, hn0⟩ := hf
  have HE := Lib.hid (show needN bl a n = _ from if_pos ⟨hf1, hn0⟩)
  rw [hf1] at HF
  have hf2 := of_decide_eq_true hf1
  obtain ⟨ha, hn1, ha1⟩ := hf2
  obtain ⟨a, rfl⟩ := Int.eq_ofNat_of_zero_le ha
  rw [Int.toNat_natCast] at HE
  generalize hJ : (a + n - 1) / 16 - a / 16 + 1 = J at HE
  have hJ1 : J ≤ 65537 := by omega
  have hnz : ((n : Int) == 0) = false := beq_eq_false_iff_ne.2 (by omega)
  have hk0 : ((a : Int) / 16) = ((a / 16 + 0 : Nat) : Int) := by omega
  have HK0 := Lib.hid hk0
  have HJ := Lib.hid hJ
  clear hk0 hJ hf1
  go_enter Tryz.func75, Tryz.ntmps75
  go_wp2_with (go_at_call 94; (with_reducible refine HF.out.mono ?_); rintro e w1 ⟨rfl, rfl⟩)
  go_loopw [7, 8] (fun vn vk wr => ∃ j : Nat, j ≤ J ∧ vk = .int .i64 ((a / 16 + j : Nat) : Int) ∧ vn = .int .i64 (missing bl (a / 16) j : Nat) ∧ Below w.heap.size w wr) (fun _ vk _ => J + a / 16 - (intOf vk).toNat)
  case atStart => exact ⟨0, Nat.zero_le _, by rw [← HK0.out], rfl, hb⟩
  case round =>
   obtain ⟨j, hj, rfl, rfl, hbr⟩ := hrel
   have hml := missing_le bl (a / 16) j
   have hJJ := HJ.out
   by_cases hlt : j < J
   ·have ht : decide (((a / 16 + j : Nat) : Int) ≤ ((a : Int) + n - 1) / 16) = true := by rw [decide_eq_true_eq]; omega
    have hR := h.below hbr
    have c1 := hR.c1
    have hl := run_lookup_ok (P := Tryz.prog) K64 mapT (zero_block wr) hR.map (a / 16 + j)
    rw [cont_val] at hl
    have HL := Lib.hid (cont_len hR.full (a / 16 + j))
    have HS := Lib.hid (missing_step bl (a / 16) j)
    unfold natK at hl
    clear hR hJJ
    have hkb : a / 16 + j ≤ 200000 := by omega
    generalize hk : a / 16 + j = k at *
    have HK := Lib.hid hk
    clear hk
    have HZ := Lib.hid (show 16 = ((cont bl k).map byteV).toArray.size by rw [List.size_toArray, List.length_map, HL.out])
    have HI := Lib.hid (show (Tryz.prog.info? 165).map (·.size) = some ((cont bl k).map byteV).toArray.size by rw [← HZ.out]; exact block_info)
    have hbn := hbr.alloc hbr.size (Obj.cells ((cont bl k).map byteV).toArray 165)
    cases hg : (aget bl k).isNone
    ·have hs : (aget bl k).isSome = true := by rw [Option.isNone_eq_false_iff] at hg; exact hg
     rw [hs] at hl
     rw [hg] at HS
     clear hg hs HL
     go_wp2_with (refine wpList_store_new rfl 165 (.tmp 9) (.tmp 39) rfl wr _ _ _ rfl rfl HZ.out HI.out (bytes_one _) ?_)
     go_roundw
     case rel => exact ⟨j + 1, by omega, by rw [← Nat.add_assoc, HK.out]; go_num, by rw [HS.out]; rfl, hbn⟩
     case measure => have := HK.out; simp [intOf]; omega
    ·have hs : (aget bl k).isSome = false := by rw [Option.isNone_iff_eq_none] at hg; rw [hg]; rfl
     rw [hs] at hl
     rw [hg] at HS
     clear hg hs HL
     go_wp2_with (refine wpList_store_new rfl 165 (.tmp 9) (.tmp 39) rfl wr _ _ _ rfl rfl HZ.out HI.out (bytes_one _) ?_)
     go_roundw
     case rel => exact ⟨j + 1, by omega, by rw [← Nat.add_assoc, HK.out]; go_num, by rw [HS.out]; go_num, hbn⟩
     case measure => have := HK.out; simp [intOf]; omega
   ·have hjJ : j = J := by omega
    have ht : decide (((a / 16 + j : Nat) : Int) ≤ ((a : Int) + n - 1) / 16) = false := by rw [decide_eq_false_iff_not]; omega
    have HD := Lib.hid hjJ
    clear hjJ hJJ
    generalize hk : a / 16 + j = k at *
    clear hk
    go_wp2
    go_ret
    exact ⟨ret_int (by rw [HE.out, HD.out]), hbr⟩
 ·have HE := Lib.hid (show needN bl a n = 0 from if_neg hf)
  cases hf1 : fitsB a n
  ·rw [hf1] at HF
   clear hf hf1
   go_enter Tryz.func75, Tryz.ntmps75
   go_wp2_with (go_at_call 94; (with_reducible refine HF.out.mono ?_); rintro e w1 ⟨rfl, rfl⟩)
   go_ret
   exact ⟨ret_int (by rw [HE.out]; rfl), hb⟩
  ·rw [hf1] at HF
   have hn0 : n = 0 := by
    rcases Nat.eq_zero_or_pos n with h0 | h0
    ·exact h0
    ·exact absurd ⟨hf1, h0⟩ hf
   have hnz : ((n : Int) == 0) = true := by rw [hn0]; rfl
   clear hf hf1 hn0
   go_enter Tryz.func75, Tryz.ntmps75
   go_wp2_with (go_at_call 94; (with_reducible refine HF.out.mono ?_); rintro e w1 ⟨rfl, rfl⟩)
   go_ret
   exact ⟨ret_int (by rw [HE.out]; rfl), hb⟩
end Go.Proofs.YtpcjmefchclhhaaGreat

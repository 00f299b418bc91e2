/- A part of the proof. -/
import Derived.Test.YtpcjmefchclhhaaGreatZShD
import Derived.Deep.RegionLaw
namespace Go.Proofs.YtpcjmefchclhhaaGreat
open Go.RowKit Go.MapKept
def byteAt (bl : List (Nat × List UInt8)) (i : Nat) : UInt8 := (cont bl (i / 16)).getD (i % 16) 0
def readL (bl : List (Nat × List UInt8)) (a n : Nat) : List UInt8 := (List.range n).map fun i => byteAt bl (a + i)
theorem readL_len (bl : List (Nat × List UInt8)) (a n : Nat) : (readL bl a n).length = n := by simp [readL]
def rowL (bl : List (Nat × List UInt8)) (a n d : Nat) : List UInt8 := readL bl a d ++ List.replicate (n - d) 0
theorem rowL_len (bl : List (Nat × List UInt8)) (a n d : Nat) (h : d ≤ n) : (rowL bl a n d).length = n := by simp [rowL, readL_len]; omega
theorem rowL_end (bl : List (Nat × List UInt8)) (a n : Nat) : rowL bl a n n = readL bl a n := by simp [rowL]
theorem rowL_step {bl : List (Nat × List UInt8)} (hf : ∀ p ∈ bl, p.2.length = 16) (a n d : Nat) (h : d < n) :
  splice (rowL bl a n d) d (((cont bl ((a + d) / 16)).drop ((a + d) % 16)).take (n - d)) = rowL bl a n (d + min (n - d) (16 - (a + d) % 16)) := by
 have hl := cont_len hf ((a + d) / 16)
 have hcs : (((cont bl ((a + d) / 16)).drop ((a + d) % 16)).take (n - d)) = (List.range (min (n - d) (16 - (a + d) % 16))).map fun i => byteAt bl (a + (d + i)) := by
  apply List.ext_getElem?
  intro i
  rw [List.getElem?_take, List.getElem?_drop, List.getElem?_map]
  by_cases hi : i < min (n - d) (16 - (a + d) % 16)
  ·rw [if_pos (by omega), List.getElem?_range hi]
   simp only [Option.map_some]
   unfold byteAt
   rw [show (a + (d + i)) / 16 = (a + d) / 16 by omega, show (a + (d + i)) % 16 = (a + d) % 16 + i by omega, List.getD_eq_getElem?_getD, List.getElem?_eq_getElem (by omega)]
   rfl
  ·rw [List.getElem?_eq_none (l := List.range _) (by simp; omega)]
   split
   ·rw [List.getElem?_eq_none (by omega)]; rfl
   ·rfl
 generalize hj : min (n - d) (16 - (a + d) % 16) = j at *
 rw [hcs]
 unfold splice rowL
 rw [List.length_map, List.length_range, List.take_left' (readL_len _ _ _), List.drop_append, readL_len, List.drop_eq_nil_of_le (by rw [readL_len]; omega), List.nil_append, List.drop_replicate]
 have hr : readL bl a (d + j) = readL bl a d ++ (List.range j).map fun i => byteAt bl (a + (d + i)) := by
  unfold readL
  rw [List.range_add, List.map_append, List.map_map]
  rfl
 rw [hr, List.append_assoc, show n - d - (d + j - d) = n - (d + j) by omega]
theorem made_bytes (N : Nat) (L : List UInt8) (hL : L = List.replicate N 0) : madeCells #[Value.int .u8 0] N = (L.map byteV).toArray := by
 apply Array.toList_inj.1
 rw [toList_madeCells_one, hL, List.map_replicate]
 rfl
set_option maxRecDepth 100000 in
theorem make_bytes (w : World) (N : Nat) (hN : N ≤ 1048576) (X : Int) (hX : X = N) (L : List UInt8) (hL : L = List.replicate N 0) :
  (Instr.makeSlice 50 (.int .i64 X) (.int .i64 X)).run Tryz.prog w = .ok (.slice (some ⟨w.heap.size, 0, none⟩) N N) (w.alloc (.cells (L.map byteV).toArray 5)) := by
 subst hX
 have h1 : (Tryz.prog.info? 5).map (fun i => (i.size, i.bytes, i.zero)) = some (1, 1, some (.int .u8 0)) := by kernel_rfl
 obtain ⟨i, hi, h2⟩ := Option.map_eq_some_iff.1 h1
 simp only [Prod.mk.injEq] at h2
 obtain ⟨hs, hb, hz⟩ := h2
 rw [run_makeSlice w 50 5 i (.int .u8 0) Tryz.underlying50 hi hz .i64 .i64 N N (by omega) (by omega) (by rw [hs, Int.toNat_natCast]; omega) (by rw [hb]; omega) (by omega)]
 rw [hs, Int.toNat_natCast, Nat.mul_one, ← made_bytes N L hL]
 rfl
theorem wrap_small (n : Nat) (h : n ≤ 1048576) {x : Int} (hx : x = (n : Int) := by push_cast; rfl) : IntKind.i64.wrap x = (n : Int) := by
 subst hx
 rw [IntKind.wrap_i64]
 omega
def readOk (size : Nat) (a n : Int) : Bool := decide (0 ≤ a ∧ 0 ≤ n ∧ a < size)
set_option maxRecDepth 100000 in
set_option maxHeartbeats 2000000 in
theorem read_any {w : World} {b m size : Nat} {bl : List (Nat × List UInt8)} (h : Raw w b m size bl) (a n : Int) :
  Calls Tryz.prog 70 #[.pointer (some ⟨b, 0, none⟩), .int .i64 a, .int .i64 n] w
   fun e w' => (readOk size a n = false → e = .returned (.slice none 0 0)) ∧ (readOk size a n = true → ∃ g, w.heap.size ≤ g ∧ e = .returned (.slice (some ⟨g, 0, none⟩) (min n.toNat (size - a.toNat)) (min n.toNat (size - a.toNat))) ∧
    w'.heap[g]? = some (.cells ((readL bl a.toNat (min n.toNat (size - a.toNat))).map byteV).toArray 5 (0, 0))) ∧ Below w.heap.size w w' := by
 have c0 := h.c0
 have HH := Lib.hid h
 have hs := h.small
 cases hf : readOk size a n
 ·have t0 := of_decide_eq_false hf
  have t1 : decide (a < 0) = true ∨ decide (a < 0) = false ∧ (decide (n < 0) = true ∨ decide (n < 0) = false ∧ decide ((size : Int) ≤ a) = true) := by
   simp only [decide_eq_true_eq, decide_eq_false_iff_not]; omega
  clear t0 hf h
  rcases t1 with t1 | ⟨t1, t2 | ⟨t2, t3⟩⟩
  all_goals
   go_enter Tryz.func70, Tryz.ntmps70
   go_wp2
   go_ret
   exact ⟨fun _ => rfl, by simp, Below.refl _ _⟩
 ·obtain ⟨h0, h1, h2⟩ := of_decide_eq_true hf
  obtain ⟨n, rfl⟩ := Int.eq_ofNat_of_zero_le h1
  obtain ⟨a, rfl⟩ := Int.eq_ofNat_of_zero_le h0
  have has : a < size := by omega
  have t1 : decide ((a : Int) < 0) = false := by rw [decide_eq_false_iff_not]; omega
  have t2 : decide ((n : Int) < 0) = false := by rw [decide_eq_false_iff_not]; omega
  have t3 : decide (size ≤ a) = false := by rw [decide_eq_false_iff_not]; omega
  rw [Int.toNat_natCast, Int.toNat_natCast]
  obtain ⟨N, hN⟩ : ∃ N, min n (size - a) = N := ⟨_, rfl⟩
  have HN := Lib.hid hN
  have hmin : min (n : Int) ((size : Int) - (a : Int)) = (N : Int) := by omega
  rw [hN]
  have HOk := Lib.hid hf
  clear hf h h0 h1 h2 hN
  have hN1 : N ≤ 1048576 := by omega
  have hm1 := fun hX => make_bytes w N hN1 (n : Int) hX (rowL bl a N 0) (by simp [rowL, readL])
  have hm2 := fun hX => make_bytes w N hN1 ((size : Int) - (a : Int)) hX (rowL bl a N 0) (by simp [rowL, readL])
  have hcase : (n : Int) ≤ (size : Int) - (a : Int) ∧ (n : Int) = (N : Int) ∨ (size : Int) - (a : Int) < (n : Int) ∧ (size : Int) - (a : Int) = (N : Int) := by omega
  clear hmin
  have HR0 := Lib.hid (heap_alloc_new w (.cells ((rowL bl a N 0).map byteV).toArray 5))
  have HB0 := Lib.hid (show Below w.heap.size w (w.alloc (.cells ((rowL bl a N 0).map byteV).toArray 5)) from (Below.refl _ _).alloc (Nat.le_refl _) _)
  have hNs : a + N ≤ size := by omega
  rcases hcase with ⟨h3, h4⟩ | ⟨h3, h4⟩
  all_goals
   have hm3 := by first | exact hm1 h4 | exact hm2 h4
   clear hm1 hm2 h4
   go_enter Tryz.func70, Tryz.ntmps70
   go_wp2
   clear hm3 h3 c0 t1 t2 t3
   generalize w.alloc (.cells ((rowL bl a N 0).map byteV).toArray 5) = w1 at *
   go_loopw [8] (fun vd wr => ∃ d : Nat, d ≤ N ∧ vd = .int .i64 (d : Int) ∧ wr.heap[w.heap.size]? = some (.cells ((rowL bl a N d).map byteV).toArray 5 (0, 0)) ∧ Below w.heap.size w wr) (fun vd _ => N - (intOf vd).toNat)
   case atStart => exact ⟨0, Nat.zero_le _, rfl, HR0.out, HB0.out⟩
   case round =>
    obtain ⟨d, hd, rfl, hrow, hbr⟩ := hrel
    have HRow := Lib.hid hrow
    have HBr := Lib.hid hbr
    clear hrow hbr HR0 HB0
    by_cases hlt : d < N
    ·have hRw := HH.out.below HBr.out
     have c1 := hRw.c1
     have hl1 := run_lookup_plain (P := Tryz.prog) K64 mapT (zero_block wr) hRw.map ((a + d) / 16)
     rw [cont_val] at hl1
     have HL := Lib.hid (cont_len hRw.full ((a + d) / 16))
     rw [show natK ((a + d) / 16) = .int .i64 (((a : Int) + (d : Int)) / 16) by simp [natK]] at hl1
     have HZ := Lib.hid (show 16 = ((cont bl ((a + d) / 16)).map byteV).toArray.size by rw [List.size_toArray, List.length_map, HL.out])
     have HI := Lib.hid (show (Tryz.prog.info? 165).map (·.size) = some ((cont bl ((a + d) / 16)).map byteV).toArray.size by rw [← HZ.out]; exact block_info)
     have hgs : w.heap.size < wr.heap.size := (Array.getElem?_eq_some_iff.1 HRow.out).1
     clear hRw
     go_wp2_with (refine wpList_store_new rfl 165 (.tmp 11) (.tmp 52) rfl wr _ _ _ rfl rfl HZ.out HI.out (bytes_one _) ?_)
     have hB2 : Below w.heap.size w (wr.alloc (.cells ((cont bl ((a + d) / 16)).map byteV).toArray 165)).drew := (HBr.out.alloc (Nat.le_of_lt hgs) _).drew
     have hG2 : (wr.alloc (.cells ((cont bl ((a + d) / 16)).map byteV).toArray 165)).drew.heap[w.heap.size]? = some (.cells ((rowL bl a N d).map byteV).toArray 5 (0, 0)) := (Below.heap_alloc _ _ _ hgs).trans HRow.out
     have hX2 : (wr.alloc (.cells ((cont bl ((a + d) / 16)).map byteV).toArray 165)).drew.heap[wr.heap.size]? = some (.cells ((cont bl ((a + d) / 16)).map byteV).toArray 165 (0, 0)) := heap_alloc_new wr _
     have HB2 := Lib.hid hB2
     have HG2 := Lib.hid hG2
     have HX2 := Lib.hid hX2
     have hsl := slice_block (wr.alloc (.cells ((cont bl ((a + d) / 16)).map byteV).toArray 165)).drew wr.heap.size ((a + d) % 16) (Nat.mod_lt _ (by omega))
     rw [show (((a + d) % 16 : Nat) : Int) = ((a : Int) + (d : Int)) % 16 by omega] at hsl
     clear hB2 hG2 hX2 hl1
     generalize wr.alloc (.cells ((cont bl ((a + d) / 16)).map byteV).toArray 165) = w2 at *
     have H1 := Lib.hid (show ((((cont bl ((a + d) / 16)).drop ((a + d) % 16)).take (N - d)).map byteV).length = Nat.min (16 - (a + d) % 16) (N - d) by rw [List.length_map, List.length_take, List.length_drop, HL.out]; show min _ _ = min _ _; omega)
     have H2 := Lib.hid (show d + ((((cont bl ((a + d) / 16)).drop ((a + d) % 16)).take (N - d)).map byteV).length ≤ ((rowL bl a N d).map byteV).length by rw [H1.out, List.length_map, rowL_len _ _ _ _ hd]; show _ + min _ _ ≤ _; omega)
     have H3 := Lib.hid (show ∀ v ∈ (((cont bl ((a + d) / 16)).drop ((a + d) % 16)).take (N - d)).map byteV, v.oneCell' = true by intro v hv; obtain ⟨x, _, rfl⟩ := List.mem_map.1 hv; rfl)
     have H4 := Lib.hid (show ∀ j v, ((((cont bl ((a + d) / 16)).drop ((a + d) % 16)).take (N - d)).map byteV)[j]? = some v → w2.drew.cell? (Addr.add ⟨wr.heap.size, (a + d) % 16, none⟩ j) = some v from fun j v hv => by
      have e : Addr.add ⟨wr.heap.size, (a + d) % 16, none⟩ j = ⟨wr.heap.size, (a + d) % 16 + j, none⟩ := by unfold Addr.add; split <;> simp_all
      rw [e, cell_at HX2.out]
      rw [List.getElem?_map, List.getElem?_take] at hv
      split at hv
      ·rw [List.getElem?_drop] at hv
       simpa using hv
      ·cases hv)
     have HNd := Lib.hid (show ¬ N = d by omega)
     have H6 := Lib.hid (rowL_step HH.out.full a N d hlt)
     go_region_law (refine step_copy_splice rfl (.tmp 56) (.tmp 58) 50 50 rfl 5 Tryz.underlying50 (by kernel_rfl) (if N = d then some ⟨w.heap.size, 0, none⟩ else some ⟨w.heap.size, d, none⟩) (some ⟨wr.heap.size, (a + d) % 16, none⟩) (N - d) (N - d) (16 - (a + d) % 16) (16 - (a + d) % 16) rfl rfl w.heap.size d ((rowL bl a N d).map byteV) 5 HG2.out ((((cont bl ((a + d) / 16)).drop ((a + d) % 16)).take (N - d)).map byteV) H1.out (fun _ => ⟨if_neg HNd.out, _, rfl, H4.out⟩) H2.out H3.out w.heap.size w HB2.out (Nat.le_refl _) ?_; intro w4 hg4 hb4)
     obtain ⟨j, hj⟩ : ∃ j, min (N - d) (16 - (a + d) % 16) = j := ⟨_, rfl⟩
     have hjm : min (N - d) ((cont bl ((a + d) / 16)).length - (a + d) % 16) = j := by rw [HL.out]; exact hj
     have hwr : IntKind.i64.wrap ((d : Int) + (j : Int)) = ((d + j : Nat) : Int) := wrap_small (d + j) (by omega)
     rw [hjm, hwr]
     have hj1 : d + j ≤ N := by omega
     have hj2 : 0 < j := by omega
     have HR4 := Lib.hid (show w4.heap[w.heap.size]? = some (.cells ((rowL bl a N (d + j)).map byteV).toArray 5 (0, 0)) by rw [hg4.out, splice_map, H6.out, hj])
     have HB4 := Lib.hid hb4
     clear hj hjm hwr hg4 hb4 H1 H2 H3 H4 H6 HNd HB2 HG2 HX2 hsl
     go_wp2
     go_roundw
     case rel => exact ⟨d + j, hj1, rfl, HR4.out, HB4.out⟩
     case measure => simp [intOf]; omega
    ·have hdN : d = N := by omega
     have HE := Lib.hid (show (rowL bl a N d) = readL bl a N by rw [hdN]; exact rowL_end bl a N)
     clear hdN
     go_wp2
     go_ret
     exact ⟨fun h => (by cases h), fun _ => ⟨w.heap.size, Nat.le_refl _, rfl, by rw [← HE.out]; exact HRow.out⟩, HBr.out⟩
end Go.Proofs.YtpcjmefchclhhaaGreat

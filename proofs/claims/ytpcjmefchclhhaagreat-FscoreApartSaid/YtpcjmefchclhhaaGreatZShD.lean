/- A part of the proof. -/
import Derived.Test.YtpcjmefchclhhaaGreatZShC
namespace Go.Proofs.YtpcjmefchclhhaaGreat
open Go.RowKit Go.MapKept
theorem zero_u8 (w : World) : (zeroValue 5).run Tryz.prog w = .ok (.int .u8 0) w := by kernel_rfl
theorem zeroCells_one (v : Value) (n : Nat) : (Builtin.zeroCells #[v] n).toList = List.replicate n v := by
 apply List.ext_getElem?
 intro i
 rw [Array.getElem?_toList]
 unfold Builtin.zeroCells
 rw [Array.getElem?_map, List.getElem?_replicate]
 by_cases h : i < n
 ·rw [Array.getElem?_eq_getElem (by simpa using h)]
  simp [h]
  rw [Nat.mod_one]
  rfl
 ·rw [Array.getElem?_eq_none (by simp; omega)]
  simp [h]
theorem wpList_clear_new {P : Program} {ops : Array Oper} {rest : List Oper} {o : Oper} {a : Act} {Q : Exit → Act → World → Prop} (hgd : o.guard = none) (d : Operand) (dT : TypeId) (ho : o.op = .call { callee := .builtin .clear, args := #[d], argTypes := #[dT] })
  (elem : TypeId) (hu : P.underlying dT = some (.slice elem)) (w : World) (v : Value) (hz : ∀ w, (zeroValue elem).run P w = .ok v w) (hv : v.cells = #[v]) (hv1 : v.oneCell' = true) (off n cap : Nat) (hn : 0 < n) (hd : a.eval d = .slice (some ⟨w.heap.size, off, none⟩) n cap)
  (cur : List Value) (t : TypeId) (hfit : off + n ≤ cur.length)
  (h : wpList P ops Q rest (a.put o.dst (.tuple #[])) (w.alloc (.cells (splice cur off (List.replicate n v)).toArray t))) : wpList P ops Q (o :: rest) a (w.alloc (.cells cur.toArray t)) := by
 refine wpList_plain hgd fun K hK => ?_
 have hst := run_storeCells_at P w.heap.size off t (List.replicate n v) 0 cur.toArray (w.alloc (.cells cur.toArray t)) (heap_alloc_new w _) (by simpa using hfit) (fun u hu => by rw [(List.mem_replicate.1 hu).2]; exact hv1)
 rw [setRow_new] at hst
 have hrun : (Builtin.clear_ #[dT] o.type #[.slice (some ⟨w.heap.size, off, none⟩) n cap]).run P (w.alloc (.cells cur.toArray t)) = .ok (.tuple #[]) (w.alloc (.cells (splice cur off (List.replicate n v)).toArray t)) := by
  obtain ⟨n, rfl⟩ : ∃ k, n = k + 1 := ⟨n - 1, by omega⟩
  simp [Builtin.clear_, run_underlying hu, hz, hv, zeroCells_one, hst, splice]
 unfold Oper.wp
 simp [execOp, ho, resolve, invoke, builtin, hd, hrun, Result.andThen]
 exact hK _ _ h
theorem slice_block2 (w : World) (g f t : Nat) (hft : f < t) (ht : t ≤ 16) : (Instr.sliceAt 165 (.pointer (some ⟨g, 0, none⟩)) (some (.int .i64 (f : Int))) (some (.int .i64 (t : Int))) none).run Tryz.prog w = .ok (.slice (some ⟨g, f, none⟩) (t - f) (16 - f)) w := by
 have ha : Tryz.prog.arrayLen 165 = 16 := by kernel_rfl
 rw [run_sliceAt_array_lh w 165 ⟨g, 0, none⟩ (by kernel_rfl) .i64 .i64 (f : Int) (t : Int) (by omega) (by omega) (by rw [ha]; omega)]
 have hs : (sizeOf (Tryz.prog.elem 165)).run Tryz.prog w = .ok 1 w := by kernel_rfl
 rw [hs, ha]
 simp only [Result.andThen_ok, slicedAt, Int.toNat_natCast, Nat.mul_one]
 rw [if_neg (by omega)]
 have : Addr.add ⟨g, 0, none⟩ f = ⟨g, f, none⟩ := by unfold Addr.add; split <;> simp_all
 rw [this]
def zr1 (bl : List (Nat × List UInt8)) (k f t : Nat) : List (Nat × List UInt8) := match aget bl k with
 | none => bl
 | some v => if t ≤ f then bl else if f = 0 ∧ t = 16 then adel bl k else aput bl k (splice v f (List.replicate (t - f) 0))
set_option maxRecDepth 100000 in
set_option maxHeartbeats 2000000 in
theorem zero_any {w : World} {b m size : Nat} {bl : List (Nat × List UInt8)} (h : Raw w b m size bl) (k f t : Nat) (hk : k < 65536) (hf : f ≤ 16) (ht : t ≤ 16) :
  Calls Tryz.prog 106 #[.pointer (some ⟨b, 0, none⟩), .int .i64 (k : Int), .int .i64 (f : Int), .int .i64 (t : Int)] w
   fun e w' => e = .returned (.tuple #[]) ∧ Raw w' b m size (zr1 bl k f t) ∧ Frm [b, m] w w' := by
 have c1 := h.c1
 have hl := run_lookup_ok (P := Tryz.prog) K64 mapT (zero_block w) h.map k
 rw [cont_val] at hl
 have HL := Lib.hid (cont_len h.full k)
 unfold natK at hl
 have HH := Lib.hid h
 have HZ := Lib.hid (show 16 = ((cont bl k).map byteV).toArray.size by rw [List.size_toArray, List.length_map, HL.out])
 have HI := Lib.hid (show (Tryz.prog.info? 165).map (·.size) = some ((cont bl k).map byteV).toArray.size by rw [← HZ.out]; exact block_info)
 have hba : Below w.heap.size w (w.alloc (.cells ((cont bl k).map byteV).toArray 165)) := (Below.refl _ _).alloc (Nat.le_refl _) _
 have HB := Lib.hid hba
 clear hba
 cases hg : aget bl k with
 | none =>
  rw [hg] at hl
  have HC := Lib.hid hg
  clear hg h
  go_enter Tryz.func106, Tryz.ntmps106
  go_wp2_with (refine wpList_store_new rfl 165 (.tmp 8) (.tmp 17) rfl w _ _ _ rfl rfl HZ.out HI.out (bytes_one _) ?_)
  ((try simp only [Exit.inBlock, Exit.then]); first | refine bodyPost_ret (results_none rfl _ _ _) rfl ?_ | refine bodyPost_end (results_none rfl _ _ _) rfl ?_)
  exact ⟨rfl, by unfold zr1; rw [HC.out]; exact HH.out.below HB.out, Frm.of_below HB.out⟩
 | some v =>
  rw [hg] at hl
  have HC := Lib.hid hg
  clear hg h
  by_cases hft : t ≤ f
  ·have t1 : decide ((t : Int) ≤ (f : Int)) = true := by rw [decide_eq_true_eq]; omega
   go_enter Tryz.func106, Tryz.ntmps106
   go_wp2_with (refine wpList_store_new rfl 165 (.tmp 8) (.tmp 17) rfl w _ _ _ rfl rfl HZ.out HI.out (bytes_one _) ?_)
   ((try simp only [Exit.inBlock, Exit.then]); first | refine bodyPost_ret (results_none rfl _ _ _) rfl ?_ | refine bodyPost_end (results_none rfl _ _ _) rfl ?_)
   exact ⟨rfl, by unfold zr1; rw [HC.out]; simp only [if_pos hft]; exact HH.out.below HB.out, Frm.of_below HB.out⟩
  ·have t1 : decide ((t : Int) ≤ (f : Int)) = false := by rw [decide_eq_false_iff_not]; omega
   by_cases hall : f = 0 ∧ t = 16
   ·obtain ⟨rfl, rfl⟩ := hall
    have hRa := HH.out.below HB.out
    have c1' := hRa.c1
    obtain ⟨o, hdel, hmp⟩ := run_delete (P := Tryz.prog) (ty := 0) (tk := 3) K64 mapT hRa.map k
    unfold natK at hdel
    have HR := Lib.hid (show Raw (putObj (w.alloc (.cells ((cont bl k).map byteV).toArray 165)) m o) b m size (adel bl k) from ⟨(putObj_other _ o hRa.ne).trans hRa.head, hmp, fun p hp => hRa.full p (List.mem_filter.1 hp |>.1), hRa.small, fun p hp => hRa.keys p (List.mem_filter.1 hp |>.1)⟩)
    have HF := Lib.hid (show Frm [b, m] w (putObj (w.alloc (.cells ((cont bl k).map byteV).toArray 165)) m o) from (Frm.of_below HB.out).putObj (.inl (by simp)) o)
    clear hRa hmp
    go_enter Tryz.func106, Tryz.ntmps106
    go_wp2_with (refine wpList_store_new rfl 165 (.tmp 8) (.tmp 17) rfl w _ _ _ rfl rfl HZ.out HI.out (bytes_one _) ?_)
    ((try simp only [Exit.inBlock, Exit.then]); first | refine bodyPost_ret (results_none rfl _ _ _) rfl ?_ | refine bodyPost_end (results_none rfl _ _ _) rfl ?_)
    exact ⟨rfl, by unfold zr1; rw [HC.out]; exact HR.out, HF.out⟩
   ·have hft' : f < t := by omega
    have hcv : cont bl k = v := by unfold cont; rw [HC.out]; rfl
    have hvl : v.length = 16 := by rw [← hcv]; exact HL.out
    have HV := Lib.hid hvl
    have HCV := Lib.hid hcv
    have hsl := slice_block2 (w.alloc (.cells ((cont bl k).map byteV).toArray 165)) w.heap.size f t hft' ht
    have H0 := Lib.hid (show 0 < t - f by omega)
    have H1 := Lib.hid (show f + (t - f) ≤ ((cont bl k).map byteV).length by rw [List.length_map, HL.out]; omega)
    have H2 := Lib.hid (show splice ((cont bl k).map byteV) f (List.replicate (t - f) (.int .u8 0)) = (splice v f (List.replicate (t - f) 0)).map byteV by rw [hcv, ← splice_map, List.map_replicate]; rfl)
    have H3 := Lib.hid (show zr1 bl k f t = aput bl k (splice v f (List.replicate (t - f) 0)) by unfold zr1; rw [HC.out]; simp only [if_neg hft, if_neg hall])
    have H4 := Lib.hid (show (splice v f (List.replicate (t - f) (0 : UInt8))).length = 16 by rw [length_splice _ _ _ (by rw [List.length_replicate, hvl]; omega), hvl])
    clear hft' hcv hvl
    have t23 : ((f : Int) == 0) = false ∨ ((f : Int) == 0) = true ∧ ((t : Int) == 16) = false := by
     rw [beq_eq_false_iff_ne, beq_eq_false_iff_ne, beq_iff_eq]; omega
    clear hall hf ht
    rcases t23 with t2 | ⟨t2, t3⟩
    all_goals
     go_enter Tryz.func106, Tryz.ntmps106
     go_wp2_with (first | (refine wpList_store_new rfl 165 (.tmp 8) (.tmp 17) rfl w _ _ _ rfl rfl HZ.out HI.out (bytes_one _) ?_) | (refine wpList_clear_new rfl (.tmp 41) 50 rfl 5 Tryz.underlying50 w (.int .u8 0) zero_u8 rfl rfl f (t - f) (16 - f) H0.out rfl _ _ H1.out ?_))
     rw [H2.out]
     clear hsl hl
     have HR2 := Lib.hid (HH.out.below ((Below.refl w.heap.size w).alloc (Nat.le_refl _) (.cells ((splice v f (List.replicate (t - f) (0 : UInt8))).map byteV).toArray 165)))
     have HF2 := Lib.hid (show Frm [b, m] w (w.alloc (.cells ((splice v f (List.replicate (t - f) (0 : UInt8))).map byteV).toArray 165)) from Frm.of_below ((Below.refl w.heap.size w).alloc (Nat.le_refl _) _))
     have HHG := Lib.hid (heap_alloc_new w (.cells ((splice v f (List.replicate (t - f) (0 : UInt8))).map byteV).toArray 165))
     clear H1 H2 HZ HI HB HL
     generalize splice v f (List.replicate (t - f) (0 : UInt8)) = nb at *
     generalize w.alloc (.cells (nb.map byteV).toArray 165) = w2 at *
     have hld := run_loadVar_row (P := Tryz.prog) { heap := w2.heap, tape := w2.tape, drawn := w2.drawn + 1, os := w2.os, output := w2.output } w.heap.size 165 165 _ _ _ HHG.out Tryz.underlying165 rfl (by rw [List.size_toArray, List.length_map, H4.out]; exact block_info)
     have c1' := HR2.out.c1
     go_wp2
     go_still_tail 6, (by kernel_rfl)
     refine wpStill_load rfl 165 (.tmp 8) rfl ⟨w.heap.size, 0, none⟩ _ rfl hld ?_
     refine wpStill_nil ?_
     change wpList _ _ _ _ _ w2.drew
     have hR3 : Raw w2.drew b m size bl := HR2.out.keep rfl rfl
     have hF3 : Frm [b, m] w w2.drew := HF2.out.drew
     clear HR2 HF2 c1' hld
     generalize w2.drew = w3 at *
     obtain ⟨o, hup, hmp⟩ := run_update (P := Tryz.prog) K64 mapT hR3.map k nb
     change (Instr.mapUpdate _ _ _ (.agg (nb.map byteV).toArray)).run _ _ = _ at hup
     unfold natK at hup
     have HR3 := Lib.hid (show Raw (putObj w3 m o) b m size (aput bl k nb) from ⟨(putObj_other _ o hR3.ne).trans hR3.head, hmp, fun p hp => by
      rcases put_mem hp with hp | rfl
      ·exact hR3.full p hp
      ·exact H4.out, hR3.small, fun p hp => by
      rcases put_mem hp with hp | rfl
      ·exact hR3.keys p hp
      ·exact hk⟩)
     have HF3 := Lib.hid (show Frm [b, m] w (putObj w3 m o) from hF3.putObj (.inl (by simp)) o)
     clear hR3 hF3 hmp
     go_wp2
     ((try simp only [Exit.inBlock, Exit.then]); first | refine bodyPost_ret (results_none rfl _ _ _) rfl ?_ | refine bodyPost_end (results_none rfl _ _ _) rfl ?_)
     exact ⟨rfl, by rw [H3.out]; exact HR3.out, HF3.out⟩
def wholeN (n : Nat) : Nat := (n + 15) / 16 * 16
set_option maxHeartbeats 400000 in
theorem whole_any (n : Nat) (hn : n ≤ 1048576) (w : World) : Calls Tryz.prog 96 #[.int .i64 (n : Int)] w fun e w' => e = .returned (.int .i64 (wholeN n : Nat)) ∧ w = w' := by
 go_enter Tryz.func96, Tryz.ntmps96
 go_wp2
 go_ret
 exact ⟨ret_int (by unfold wholeN; omega), rfl⟩
end Go.Proofs.YtpcjmefchclhhaaGreat

/- The laws' stands: a sheet is the reference's. -/
import Derived.Test.YtpcjmefchclhhaaShT
import Derived.Test.YtpcjmefchclhhaaShW
import Derived.ChangeKeysEq
import Derived.Laws.BytesArg
import Derived.IntWalk
namespace Go.Proofs.Ytpcjmefchclhhaa
open Go.RowKit Go.MapKept

theorem eq_pair (w : World) (x y : Int) : (Op.equalIn 10000 46 (.agg #[.int .i64 x, .int .i64 y]) (.agg #[.int .i64 x, .int .i64 y])).run Try.prog w = .ok true w := by
  have h1 : (Try.prog.info? 3).map (fun i => (i.zero, i.size, i.bytes)) = some (some (.int .i64 0), 1, 8) := by kernel_rfl
  obtain ⟨i, hi, _⟩ := info_parts h1
  rw [run_equalIn_array w 9999 _ _ Try.underlying46 hi]
  have hc : Try.prog.cellsOf 3 = 1 := by kernel_rfl
  have hp : Try.prog.plainKey 3 = true := by kernel_rfl
  have p0 := fun w => run_part_plain (P := Try.prog) (w := w) hp (xs := #[.int .i64 x, .int .i64 y]) (off := 0) (v := .int .i64 x) rfl
  have p1 := fun w => run_part_plain (P := Try.prog) (w := w) hp (xs := #[.int .i64 x, .int .i64 y]) (off := 1) (v := .int .i64 y) rfl
  have q := fun (w : World) (z : Int) => run_equalIn_int (P := Try.prog) w 9998 3 .i64 .i64 z z Try.underlying3
  rw [hc]
  show (Op.eqItems 9999 3 1 _ _ [0, 1]).run _ _ = _
  simp [Op.eqItems, Sem.run_bind, p0, p1, q, Result.andThen]
/-- A slice of bytes that is read, as a string. -/
theorem str_rd {w : World} {B c : Nat} {A : Option Addr} {l : List UInt8} (h : Rd w B 1 byteC A l) : (convert 27 9 (.slice A l.length c)).run Try.prog w = .ok (.string ⟨l.toArray⟩) w := by
  cases A with
  | none =>
    have hl : l = [] := by
      cases l with
      | nil => rfl
      | cons y r => obtain ⟨a', e', _⟩ := h 0 y rfl; cases e'
    subst hl
    exact run_convert_bytes_nil _ _ _ Try.underlying27 Try.underlying5 _ _ _ Try.underlying9
  | some a =>
    exact run_convert_bytes_back w _ _ 5 a c l Try.underlying27 Try.underlying5 Try.underlying9 (fun j hj => by
      have := h.at1 (i := j) hj (v := byteV l[j]) rfl
      simpa [byteV] using this)
/-- What Read gives, as a slice that is read. -/
theorem read_rd {w : World} {b m size : Nat} {bl : List (Nat × List UInt8)} {B : List UInt8} {On : List Nat} (h : Raw w b m size bl) (hs : SameS size bl B On) (a n : Int) :
    Calls Try.prog 17 #[.pointer (some ⟨b, 0, none⟩), .int .i64 a, .int .i64 n] w
      fun e w' => ∃ A c, e = .returned (.slice A (rreadL B a n).length c) ∧ Rd w' w'.heap.size 1 byteC A (rreadL B a n) ∧ (∀ ad, A = some ad → w.heap.size ≤ ad.block) ∧ Below w.heap.size w w' := by
  refine (read_any h a n).mono fun e w' ⟨h1, h2, h3⟩ => ?_
  cases hf : readOk size a n
  · have hE : rreadL B a n = [] := by unfold rreadL; rw [hs.len, hf]; rfl
    rw [hE]
    exact ⟨Option.none, 0, h1 hf, Rd.nil _ _ _ _ _, (fun ad h => by cases h), h3⟩
  · obtain ⟨g, hg, he, hc⟩ := h2 hf
    obtain ⟨g0, g1, g2⟩ := of_decide_eq_true hf
    have hE : rreadL B a n = readL bl a.toNat (min n.toNat (size - a.toNat)) := by
      unfold rreadL
      rw [hs.len, hf, if_pos rfl, same_read hs _ _ (by omega)]
      rw [List.take_eq_take_iff]
      simp [hs.len]
    rw [hE, readL_len]
    refine ⟨some ⟨g, 0, none⟩, _, he, rd_block hc (Array.getElem?_eq_some_iff.1 hc).1 (fun i x hx j v hv => ?_), fun ad h => by injection h with h; subst h; exact hg, h3⟩
    match j, hv with
    | 0, hv =>
      have hv' : v = byteV x := by simpa [byteC] using hv.symm
      subst hv'
      simp [hx]
    | j + 1, hv => simp [byteC] at hv

set_option maxRecDepth 100000 in
set_option maxHeartbeats 4000000 in
theorem stands_any {w : World} {b m size : Nat} {bl : List (Nat × List UInt8)} {v : Value} {B : List UInt8} {On : List Nat} (hR : Raw w b m size bl) (hV : RSh w v B On) (hS : SameS size bl B On) :
    Calls Try.prog 27 #[.pointer (some ⟨b, 0, none⟩), v] w fun e w' => e = .returned (.bool true) ∧ Below w.heap.size w w' := by
  obtain ⟨As, cs, As', cs', rfl⟩ := hV.cells
  obtain ⟨w2, hw2⟩ : ∃ w2, w.alloc (.cells #[.slice As B.length cs, .slice As' On.length cs'] 30) = w2 := ⟨_, rfl⟩
  have hB2 : Below w.heap.size w w2 := by rw [← hw2]; exact (Below.refl _ _).alloc (Nat.le_refl _) _
  have hX2 : w2.heap[w.heap.size]? = some (.cells #[.slice As B.length cs, .slice As' On.length cs'] 30 (0, 0)) := by rw [← hw2]; exact heap_alloc_new _ _
  have hs2 : w2.heap.size = w.heap.size + 1 := by rw [← hw2]; simp
  have HW2 := Lib.hid hw2
  have HB2 := Lib.hid hB2
  have HR2 := Lib.hid (hR.below hB2)
  have HV2 := Lib.hid (hV.below hB2)
  have HS := Lib.hid hS
  have HRb := Lib.hid (show Rd w2 w2.heap.size 1 byteC As B from by
    obtain ⟨⟨A, c, A', c', e, h1, _⟩, _⟩ := hV.below hB2
    obtain ⟨e1, -⟩ : As = A ∧ True := by injection e with e; injection e with e; simp at e; exact ⟨e.1.1, trivial⟩
    rw [e1]; exact h1)
  have hk : ∀ w', Below w2.heap.size w2 w' → w'.cell? ⟨w.heap.size, 0, none⟩ = some (.slice As B.length cs) ∧ w'.cell? ⟨w.heap.size, 1, none⟩ = some (.slice As' On.length cs') := fun w' hb => by
    have e2 := (hb.block w.heap.size (by omega)).trans hX2
    exact ⟨cell_at e2 0, cell_at e2 1⟩
  have HK := Lib.hid hk
  obtain ⟨x0, x1⟩ := hk w2 (Below.refl _ _)
  obtain rfl : B.length = size := hS.len
  have hbll := same_blocks hS
  have hlb : B.length ≤ 1048576 := hV.lenB
  have hlo : On.length ≤ 65536 := hV.lenOn
  have HK1 := Lib.hid (show ∀ w', Below w2.heap.size w2 w' → Calls Try.prog 50 #[.pointer (some ⟨b, 0, none⟩)] w' fun e w'' => ∃ u, e = .returned u ∧ Own w'' w2.heap.size 46 2 pairC u (runsL On) ∧ Below w2.heap.size w2 w'' ∧ Below w'.heap.size w' w'' from fun w' hb => (runs_any (HR2.out.below hb)).mono fun e w'' ⟨u, h1, h2, h3⟩ => by
    rw [← hS.on] at h2
    exact ⟨u, h1, h2.mono hb.size, hb.trans (h3.mono hb.size), h3⟩)
  have HK2 := Lib.hid (show ∀ w', Below w2.heap.size w2 w' → Calls Try.prog 51 #[.agg #[.slice As B.length cs, .slice As' On.length cs']] w' fun e w'' => ∃ u, e = .returned u ∧ Own w'' w2.heap.size 46 2 pairC u (runsL On) ∧ Below w2.heap.size w2 w'' ∧ Below w'.heap.size w' w'' from fun w' hb => (rruns_any (HV2.out.below hb)).mono fun e w'' ⟨u, h1, h2, h3⟩ => ⟨u, h1, h2.mono hb.size, hb.trans (h3.mono hb.size), h3⟩)
  have hbz := Below.refl w2.heap.size w2
  have hbz2 := hbz.drew
  have HBll := Lib.hid hbll
  have hbl1 : ((bl.length : Int) != (On.length : Int)) = false := by rw [bne_eq_false_iff_eq]; omega
  clear hw2 hB2 hX2 hs2 hR hV hS hk hbll
  go_enter Try.func27, Try.ntmps27
  go_wp2
  rw [HW2.out]
  go_region_held3 (fun w' => w'.cell? ⟨w.heap.size, 0, none⟩ = some (.slice As B.length cs) ∧ w'.cell? ⟨w.heap.size, 1, none⟩ = some (.slice As' On.length cs'))
    (first
      | go_keep
      | exact HK.out _ hb1
      | exact HK.out _ hb3)
    (first
      | (go_at_call 50; (with_reducible refine (HK1.out _ (by assumption)).mono ?_); rintro e w3 ⟨u, rfl, ho1, hb1, hb2⟩)
      | (go_at_call 51; (with_reducible refine (HK2.out _ (by assumption)).mono ?_); rintro e w4 ⟨u', rfl, ho2, hb3, hb4⟩))
  have ho1' := ho1.below hb4 (Nat.le_refl _)
  have hll := len_runs On []
  change (runsL On).length ≤ 0 + On.length at hll
  have hll : (runsL On).length ≤ 65536 := by omega
  obtain ⟨A1, c1, rfl, -, -, rd1, -⟩ := ho1'.rd0 (fun _ => rfl)
  obtain ⟨A2, c2, rfl, -, -, rd2, -⟩ := ho2.rd0 (fun _ => rfl)
  have HR4 := Lib.hid (HR2.out.below hb3)
  have HB4 := Lib.hid hb3
  have RD1 := Lib.hid rd1
  have RD2 := Lib.hid rd2
  obtain ⟨x0, x1⟩ := HK.out w4 hb3
  generalize hrl : runsL On = L at *
  generalize hnl : L.length = n at *
  have HNL := Lib.hid hnl
  clear ho1 ho2 ho1' hb1 hb2 hb3 hb4 rd1 rd2 hrl hnl HK1 HK2 hbz hbz2
  have hbz := Below.refl w4.heap.size w4
  have hbz2 := hbz.drew
  go_wp2
  go_region_held3 (fun w' => w'.cell? ⟨w.heap.size, 0, none⟩ = some (.slice As B.length cs) ∧ w'.cell? ⟨w.heap.size, 1, none⟩ = some (.slice As' On.length cs'))
    (first
      | go_keep)
    (first
      | (go_at_call 22; (with_reducible refine (size_any (HR4.out.below (by assumption))).mono ?_); rintro e w8 ⟨rfl, rfl⟩)
      | (go_at_call 21; (with_reducible refine (blocks_any (HR4.out.below (by assumption))).mono ?_); rintro e w8 ⟨rfl, rfl⟩))
  have HBz := Lib.hid (Below.refl w4.heap.size w4)
  clear hbz hbz2
  go_wp2
  go_loopw [35] (fun vi wr => ∃ i : Nat, i ≤ n ∧ vi = .int .i64 (i : Int) ∧ Below w4.heap.size w4 wr) (fun vi _ => n - (intOf vi).toNat)
  case atStart => exact ⟨0, Nat.zero_le _, rfl, by first | exact HBz.out | exact HBz.out.drew | exact below_drewN HBz.out _⟩
  case round =>
    obtain ⟨i, hi, rfl, hbr⟩ := hrel
    have HBr := Lib.hid hbr
    obtain ⟨x0, x1⟩ := HK.out wr (HB4.out.trans (hbr.mono HB4.out.size))
    clear hbr
    by_cases hin : i < n
    · have hil : i < L.length := by rw [HNL.out]; exact hin
      have hd1 := RD1.out.below HBr.out
      have hd2 := RD2.out.below HBr.out
      obtain ⟨a1, h1, -⟩ := hd1.addr hil
      obtain ⟨a2, h2, -⟩ := hd2.addr hil
      subst h1 h2
      have d0 : wr.cell? (a1.add (i * 2)) = _ := hd1.cell hil (j := 0) rfl
      have d1 : wr.cell? ⟨(a1.add (i * 2)).block, (a1.add (i * 2)).off + 1, none⟩ = _ := hd1.cell hil (j := 1) rfl
      have g0 : wr.cell? (a2.add (i * 2)) = _ := hd2.cell hil (j := 0) rfl
      have g1 : wr.cell? ⟨(a2.add (i * 2)).block, (a2.add (i * 2)).off + 1, none⟩ = _ := hd2.cell hil (j := 1) rfl
      generalize L[i] = p at *
      have he := eq_pair
      clear hd1 hd2 hil
      go_wp2
      go_quiet (fail)
      have HBn := Lib.hid (below_drewN HBr.out nq)
      go_wp2
      go_roundw
      case rel => exact ⟨i + 1, by omega, by go_num, HBn.out⟩
      case measure => simp [intOf]; omega
    · have hw9 : IntKind.i64.wrap ((B.length : Int) + 9) = (B.length : Int) + 9 := IntWalk.i64_in _ (by omega)
      have HRr := Lib.hid (HR4.out.below HBr.out)
      have hE : rreadL B 0 ((B.length : Int) + 9) = B := by
        unfold rreadL
        cases hf : readOk B.length 0 ((B.length : Int) + 9)
        · have := of_decide_eq_false hf
          have hz : B.length = 0 := by omega
          rw [List.eq_nil_of_length_eq_zero hz]; simp
        · simp only [if_true, Int.toNat_zero, List.drop_zero]
          exact List.take_of_length_le (by omega)
      have hrd := fun w' (hb : Below wr.heap.size wr w') => (read_rd (HRr.out.below hb) HS.out 0 ((B.length : Int) + 9)).mono fun e w'' (h : ∃ A c, e = .returned (.slice A (rreadL B 0 ((B.length : Int) + 9)).length c) ∧ Rd w'' w''.heap.size 1 byteC A (rreadL B 0 ((B.length : Int) + 9)) ∧ (∀ ad, A = some ad → w'.heap.size ≤ ad.block) ∧ Below w'.heap.size w' w'') => (show ∃ A c, e = .returned (.slice A (rreadL B 0 ((B.length : Int) + 9)).length c) ∧ Rd w'' w''.heap.size 1 byteC A (rreadL B 0 ((B.length : Int) + 9)) ∧ Below wr.heap.size wr w'' from by
        obtain ⟨A, c, h1, h2, -, h4⟩ := h
        exact ⟨A, c, h1, h2, hb.trans (h4.mono hb.size)⟩)
      rw [hE] at hrd
      have HRD := Lib.hid hrd
      have HRb4 := Lib.hid (((HRb.out.below HB4.out).below (HBr.out.mono HB4.out.size)))
      have hkr : ∀ w', Below wr.heap.size wr w' → w'.cell? ⟨w.heap.size, 0, none⟩ = some (.slice As B.length cs) ∧ (convert 27 9 (.slice As B.length cs)).run Try.prog w' = .ok (.string ⟨B.toArray⟩) w' := fun w' hb =>
        ⟨(HK.out w' (HB4.out.trans ((HBr.out.mono HB4.out.size).trans (hb.mono (Nat.le_trans HB4.out.size HBr.out.size))))).1,
         str_rd (HRb4.out.keep fun p hp => hb.cell (Nat.lt_of_lt_of_le hp (Nat.le_trans HB4.out.size HBr.out.size)))⟩
      have HKr := Lib.hid hkr
      have hbz := Below.refl wr.heap.size wr
      have hbz2 := hbz.drew
      obtain ⟨k0, k1⟩ := hkr wr hbz
      obtain ⟨k2, k3⟩ := hkr wr.drew hbz2
      clear hrd hE hkr x0
      go_wp2
      go_region_with (first
        | (go_at_call 17; (with_reducible refine (HRD.out _ (by assumption)).mono ?_); rintro e w9 ⟨A9, c9, rfl, hr9, hb9⟩; have hcv9 := str_rd (c := c9) hr9; obtain ⟨k8, k9⟩ := HKr.out _ hb9))
      all_goals
        have HB9 := Lib.hid (HB2.out.trans ((HB4.out.trans ((HBr.out.trans (hb9.mono HBr.out.size)).mono HB4.out.size)).mono HB2.out.size))
        clear hb9 hr9 hcv9
        go_wp2
        go_ret
        exact ⟨rfl, HB9.out⟩
end Go.Proofs.Ytpcjmefchclhhaa

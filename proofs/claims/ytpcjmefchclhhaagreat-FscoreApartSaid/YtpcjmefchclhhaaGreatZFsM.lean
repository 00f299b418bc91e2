/- A part of the proof. -/
import Derived.Test.YtpcjmefchclhhaaGreatZFsI
namespace Go.Proofs.YtpcjmefchclhhaaGreat
open Go.RowKit Go.MapKept
theorem ta_sht (w : World) (x : RIn) (n : Nd) : (Instr.typeAssert (holdsV x n) 20 126 true).run Tryz.prog w = .ok (if x.kind = 1 then .tuple #[ptrV n.b, .bool true] else .tuple #[.pointer none, .bool false]) w := by
 unfold holdsV
 by_cases h1 : x.kind = 1
 ·rw [if_pos h1, if_pos h1]
  exact ta_same w _ _ _ Tryz.underlying126 (fun ms h => by cases h)
 ·rw [if_neg h1, if_neg h1]
  by_cases h2 : x.kind = 2
  ·rw [if_pos h2]
   exact ta_other w _ _ _ _ Tryz.underlying126 (fun ms h => by cases h) (by decide) (zsht w)
  ·rw [if_neg h2]
   exact ta_other w _ _ _ _ Tryz.underlying126 (fun ms h => by cases h) (by decide) (zsht w)
theorem ta_str (w : World) (x : RIn) (n : Nd) : (Instr.typeAssert (holdsV x n) 20 9 true).run Tryz.prog w = .ok (if x.kind ≠ 1 ∧ x.kind ≠ 2 then .tuple #[.string x.target, .bool true] else .tuple #[.string noStr, .bool false]) w := by
 unfold holdsV
 by_cases h1 : x.kind = 1
 ·rw [if_pos h1, if_neg (fun e => e.1 h1)]
  exact ta_other w _ _ _ _ Tryz.underlying9 (fun ms h => by cases h) (by decide) (zstr w)
 ·rw [if_neg h1]
  by_cases h2 : x.kind = 2
  ·rw [if_pos h2, if_neg (fun e => e.2 h2)]
   exact ta_other w _ _ _ _ Tryz.underlying9 (fun ms h => by cases h) (by decide) (zstr w)
  ·rw [if_neg h2, if_pos ⟨h1, h2⟩]
   exact ta_same w _ _ _ Tryz.underlying9 (fun ms h => by cases h)
def sheetE (r : RFs) (h : Int × Int) : Int := if liveP r h = true then (if (byIdP r.ins h.1).kind = 1 then 0 else if (byIdP r.ins h.1).kind = 2 then 172 else 1) else 175
theorem sheet_live {r : RFs} {h : Int × Int} (he : sheetE r h = 0) : liveP r h = true ∧ (byIdP r.ins h.1).kind = 1 := by
 unfold sheetE at he
 split at he
 ·rename_i h1
  split at he
  ·rename_i h2; exact ⟨h1, h2⟩
  ·split at he <;> cases he
 ·cases he
set_option maxRecDepth 100000 in
set_option maxHeartbeats 2000000 in
theorem sheet_yes {w : World} {f mi mg K : Nat} {r : RFs} {N : List Nd} (h : FsN w f mi mg r N) (hW : Wf r K) (i g : Int) (he : sheetE r (i, g) = 0) {n : Nd} (hn : n ∈ N) (hi : n.id = i) :
  Calls Tryz.prog 69 #[.pointer (some ⟨f, 0, none⟩), .agg #[.int .i64 i, .int .i64 g]] w fun e w' => e = .returned (.tuple #[.pointer (some ⟨n.blk, 0, none⟩), .pointer (some ⟨n.b, 0, none⟩), .int .i64 0]) ∧ Below w.heap.size w w' := by
 obtain ⟨hl, hk⟩ := sheet_live he
 obtain ⟨w1, hw1, hB, hs1, hb0⟩ := box1 w #[.int .i64 i, .int .i64 g] 37
 have t0 : w1.cell? ⟨w.heap.size, 0, none⟩ = some (.int .i64 i) := by rw [cell_at hb0]; rfl
 have t1 : w1.cell? ⟨w.heap.size, 1, none⟩ = some (.int .i64 g) := by rw [cell_at hb0]; rfl
 have h1 := h.below hW hB
 have HFd := Lib.hid (find_yes h1 hW i g hl hn hi)
 unfold ptrV at HFd
 obtain ⟨x, hx, hr⟩ := h1.node n hn
 have hxk : x.kind = 1 := by
  have a := hW.byId hx
  rw [← hr.id, hi] at a
  rw [← a]; exact hk
 have HC := Lib.hid (show ∀ w2, Below w1.heap.size w1 w2 → w2.cell? ⟨n.blk, 5, none⟩ = some (holdsV x n) from fun w2 hb => ((hr.below (.inl hxk) hb).cells).2.2.2.2.2)
 have hta := fun w => ta_sht w x n
 simp only [hxk, if_true, ptrV] at hta
 generalize holdsV x n = hv at *
 have HW1 := Lib.hid hw1
 have HB := Lib.hid hB
 clear hw1 hB hb0 h h1 hW he hl hk hn hi hx hr hxk
 go_enter Tryz.func69, Tryz.ntmps69
 go_wp2_with fail
 rw [HW1.out]
 go_wp2_with (go_at_call 59; (with_reducible refine HFd.out.mono ?_); rintro e w3 ⟨rfl, hB3⟩; have c5 := HC.out w3 hB3; replace hB3 := Lib.hid hB3)
 go_ret3
 exact ⟨rfl, HB.out.trans (hB3.out.mono (by omega))⟩
set_option maxRecDepth 100000 in
set_option maxHeartbeats 2000000 in
theorem sheet_no {w : World} {f mi mg K : Nat} {r : RFs} {N : List Nd} (h : FsN w f mi mg r N) (hW : Wf r K) (i g : Int) (he : sheetE r (i, g) ≠ 0) :
  Calls Tryz.prog 69 #[.pointer (some ⟨f, 0, none⟩), .agg #[.int .i64 i, .int .i64 g]] w fun e w' => e = .returned (.tuple #[.pointer none, .pointer none, .int .i64 (sheetE r (i, g))]) ∧ Below w.heap.size w w' := by
 obtain ⟨w1, hw1, hB, hs1, hb0⟩ := box1 w #[.int .i64 i, .int .i64 g] 37
 have t0 : w1.cell? ⟨w.heap.size, 0, none⟩ = some (.int .i64 i) := by rw [cell_at hb0]; rfl
 have t1 : w1.cell? ⟨w.heap.size, 1, none⟩ = some (.int .i64 g) := by rw [cell_at hb0]; rfl
 have h1 := h.below hW hB
 have HW1 := Lib.hid hw1
 have HB := Lib.hid hB
 cases hl : liveP r (i, g)
 ·have HFd := Lib.hid (find_no h1 hW i g hl)
  rw [show sheetE r (i, g) = 175 by unfold sheetE; rw [hl]; rfl]
  clear hw1 hB hb0 h h1 hW he hl
  go_enter Tryz.func69, Tryz.ntmps69
  go_wp2_with fail
  rw [HW1.out]
  go_wp2_with (go_at_call 59; (with_reducible refine HFd.out.mono ?_); rintro e w3 ⟨rfl, hB3⟩; replace hB3 := Lib.hid hB3)
  go_ret3
  exact ⟨rfl, HB.out.trans (hB3.out.mono (by omega))⟩
 ·obtain ⟨m1, m2, m3⟩ := live_mem hl
  obtain ⟨n, hn, hr⟩ := h1.at_ hW m1
  have HFd := Lib.hid (find_yes h1 hW i g hl hn (hr.id.trans m2))
  unfold ptrV at HFd
  have hk := hW.kind _ m1
  have HC := Lib.hid (show ∀ w2, Below w1.heap.size w1 w2 → w2.cell? ⟨n.blk, 5, none⟩ = some (holdsV (byIdP r.ins i) n) from fun w2 hb => ((hr.below hk hb).cells).2.2.2.2.2)
  have hta := fun w => ta_sht w (byIdP r.ins i) n
  have htd := fun w => ta_dir w (byIdP r.ins i) n
  have hk1 : (byIdP r.ins i).kind ≠ 1 := fun e => he (by unfold sheetE; rw [if_pos hl, if_pos e])
  by_cases hk2 : (byIdP r.ins i).kind = 2
  ·rw [show sheetE r (i, g) = 172 by unfold sheetE; rw [if_pos hl, if_neg hk1, if_pos hk2]]
   simp only [hk1, if_false] at hta
   simp only [hk2, if_true, ptrV] at htd
   generalize holdsV (byIdP r.ins i) n = hv at *
   clear hw1 hB hb0 h h1 hW he hl m1 m2 m3 hn hr hk hk1 hk2
   go_enter Tryz.func69, Tryz.ntmps69
   go_wp2_with fail
   rw [HW1.out]
   go_wp2_with (go_at_call 59; (with_reducible refine HFd.out.mono ?_); rintro e w3 ⟨rfl, hB3⟩; have c5 := HC.out w3 hB3; replace hB3 := Lib.hid hB3)
   go_ret3
   exact ⟨rfl, HB.out.trans (hB3.out.mono (by omega))⟩
  ·rw [show sheetE r (i, g) = 1 by unfold sheetE; rw [if_pos hl, if_neg hk1, if_neg hk2]]
   simp only [hk1, if_false] at hta
   simp only [hk2, if_false] at htd
   generalize holdsV (byIdP r.ins i) n = hv at *
   clear hw1 hB hb0 h h1 hW he hl m1 m2 m3 hn hr hk hk1 hk2
   go_enter Tryz.func69, Tryz.ntmps69
   go_wp2_with fail
   rw [HW1.out]
   go_wp2_with (go_at_call 59; (with_reducible refine HFd.out.mono ?_); rintro e w3 ⟨rfl, hB3⟩; have c5 := HC.out w3 hB3; replace hB3 := Lib.hid hB3)
   go_ret3
   exact ⟨rfl, HB.out.trans (hB3.out.mono (by omega))⟩
def OwnB (w w' : World) (P : Option Addr) (l : List UInt8) : Prop := P = none ∧ l = [] ∨ ∃ g, w.heap.size ≤ g ∧ P = some ⟨g, 0, none⟩ ∧ w'.heap[g]? = some (.cells (l.map byteV).toArray 5 (0, 0))
theorem rd_own {w : World} {b m size : Nat} {bl : List (Nat × List UInt8)} {B : List UInt8} {On : List Nat} (h : Raw w b m size bl) (hs : SameS size bl B On) (a n : Int) :
  Calls Tryz.prog 70 #[.pointer (some ⟨b, 0, none⟩), .int .i64 a, .int .i64 n] w
   fun e w' => ∃ P, e = .returned (.slice P (rreadL B a n).length (rreadL B a n).length) ∧ OwnB w w' P (rreadL B a n) ∧ Below w.heap.size w w' := by
 refine (read_any h a n).mono fun e w' ⟨h1, h2, h3⟩ => ?_
 cases hf : readOk size a n
 ·have hE : rreadL B a n = [] := by unfold rreadL; rw [hs.len, hf]; rfl
  rw [hE]
  exact ⟨none, h1 hf, .inl ⟨rfl, rfl⟩, h3⟩
 ·obtain ⟨g, hg, he, hc⟩ := h2 hf
  obtain ⟨g0, g1, g2⟩ := of_decide_eq_true hf
  have hE : rreadL B a n = readL bl a.toNat (min n.toNat (size - a.toNat)) := by
   unfold rreadL
   rw [hs.len, hf, if_pos rfl, same_read hs _ _ (by omega), List.take_eq_take_iff]
   simp [hs.len]
  rw [hE, readL_len]
  exact ⟨_, he, .inr ⟨g, hg, rfl, hc⟩, h3⟩
def freadP (r : RFs) (h : Int × Int) (a n : Int) : List UInt8 × Int := if sheetE r h ≠ 0 then ([], sheetE r h) else if a < 0 ∨ n < 0 then ([], 1) else (rreadL (byIdP r.ins h.1).B a n, 0)
set_option maxRecDepth 100000 in
set_option maxHeartbeats 2000000 in
theorem fread_any {w : World} {f mi mg K : Nat} {r : RFs} {N : List Nd} (h : FsN w f mi mg r N) (hW : Wf r K) (i g a n : Int) :
  Calls Tryz.prog 37 #[.pointer (some ⟨f, 0, none⟩), .agg #[.int .i64 i, .int .i64 g], .int .i64 a, .int .i64 n] w
   fun e w' => ∃ P, e = .returned (.tuple #[.slice P (freadP r (i, g) a n).1.length (freadP r (i, g) a n).1.length, .int .i64 (freadP r (i, g) a n).2]) ∧ OwnB w w' P (freadP r (i, g) a n).1 ∧ Below w.heap.size w w' := by
 obtain ⟨w1, hw1, hB, hs1, hb0⟩ := box1 w #[.int .i64 i, .int .i64 g] 37
 have t0 : w1.cell? ⟨w.heap.size, 0, none⟩ = some (.int .i64 i) := by rw [cell_at hb0]; rfl
 have t1 : w1.cell? ⟨w.heap.size, 1, none⟩ = some (.int .i64 g) := by rw [cell_at hb0]; rfl
 have h1 := h.below hW hB
 have HW1 := Lib.hid hw1
 have HB := Lib.hid hB
 by_cases he : sheetE r (i, g) = 0
 ·obtain ⟨hl, hk⟩ := sheet_live he
  obtain ⟨m1, m2, m3⟩ := live_mem hl
  obtain ⟨nx, hn, hr⟩ := h1.at_ hW m1
  have HSh := Lib.hid (sheet_yes h1 hW i g he hn (hr.id.trans m2))
  have hne : ¬ sheetE r (i, g) ≠ 0 := by simp [he]
  by_cases hneg : a < 0 ∨ n < 0
  ·rw [show freadP r (i, g) a n = ([], 1) by unfold freadP; rw [if_neg hne, if_pos hneg]]
   have hcs : a < 0 ∨ 0 ≤ a ∧ n < 0 := by omega
   clear hw1 hB hb0 h h1 hW he hl hk m1 m2 m3 hn hr hne hneg
   rcases hcs with q | ⟨q, q'⟩
   all_goals
    go_enter Tryz.func37, Tryz.ntmps37
    go_wp2_with fail
    rw [HW1.out]
    go_wp2_with (go_at_call 69; (with_reducible refine HSh.out.mono ?_); rintro e w3 ⟨rfl, hB3⟩; replace hB3 := Lib.hid hB3)
    go_ret2
    exact ⟨none, rfl, .inl ⟨rfl, rfl⟩, HB.out.trans (hB3.out.mono (by omega))⟩
  ·rw [show freadP r (i, g) a n = (rreadL (byIdP r.ins i).B a n, 0) by unfold freadP; rw [if_neg hne, if_neg hneg]]
   have HRd := Lib.hid (show ∀ w2, Below w1.heap.size w1 w2 → Calls Tryz.prog 70 #[.pointer (some ⟨nx.b, 0, none⟩), .int .i64 a, .int .i64 n] w2
     fun e w' => ∃ P, e = .returned (.slice P (rreadL (byIdP r.ins i).B a n).length (rreadL (byIdP r.ins i).B a n).length) ∧ OwnB w2 w' P (rreadL (byIdP r.ins i).B a n) ∧ Below w2.heap.size w2 w' from fun w2 hb => by
    obtain ⟨sz, bl, g1, g2⟩ := (hr.below (.inl hk) hb).file hk
    exact rd_own g1 g2 a n)
   generalize rreadL (byIdP r.ins i).B a n = L at *
   have q1 : 0 ≤ a := by omega
   have q2 : 0 ≤ n := by omega
   clear hw1 hB hb0 h h1 hW he hl hk m1 m2 m3 hn hr hne hneg
   go_enter Tryz.func37, Tryz.ntmps37
   go_wp2_with fail
   rw [HW1.out]
   go_wp2_with (first
    | (go_at_call 69; (with_reducible refine HSh.out.mono ?_); rintro e w3 ⟨rfl, hB3⟩; replace hB3 := Lib.hid hB3)
    | (go_at_call 70; (with_reducible refine (HRd.out w3 hB3.out).mono ?_); rintro e w4 ⟨P, rfl, ho4, hB4⟩; replace hB4 := Lib.hid hB4; replace ho4 := Lib.hid ho4))
   go_ret2
   have h3 := hB3.out.size
   refine ⟨P, rfl, ?_, (HB.out.trans (hB3.out.mono (by omega))).trans (hB4.out.mono (by omega))⟩
   rcases ho4.out with h | ⟨g, a1, a2, a3⟩
   ·exact .inl h
   ·exact .inr ⟨g, by omega, a2, a3⟩
 ·have HSh := Lib.hid (sheet_no h1 hW i g he)
  have hne : (sheetE r (i, g) != 0) = true := by rw [bne_iff_ne]; exact he
  rw [show freadP r (i, g) a n = ([], sheetE r (i, g)) by unfold freadP; rw [if_pos he]]
  generalize sheetE r (i, g) = se at *
  clear hw1 hB hb0 h h1 hW he
  go_enter Tryz.func37, Tryz.ntmps37
  go_wp2_with fail
  rw [HW1.out]
  go_wp2_with (go_at_call 69; (with_reducible refine HSh.out.mono ?_); rintro e w3 ⟨rfl, hB3⟩; replace hB3 := Lib.hid hB3)
  go_ret2
  exact ⟨none, rfl, .inl ⟨rfl, rfl⟩, HB.out.trans (hB3.out.mono (by omega))⟩
end Go.Proofs.YtpcjmefchclhhaaGreat

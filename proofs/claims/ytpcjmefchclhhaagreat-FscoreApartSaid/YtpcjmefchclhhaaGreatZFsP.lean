/- A part of the proof. -/
import Derived.Test.YtpcjmefchclhhaaGreatZFsO
namespace Go.Proofs.YtpcjmefchclhhaaGreat
open Go.RowKit Go.MapKept
theorem file_same {w w' : World} {f mi mg K : Nat} {r : RFs} {N : List Nd} (h : FsN w f mi mg r N) (hW : Wf r K) {x : RIn} {nx : Nd} (hx : x ∈ r.ins) (hk : x.kind = 1) (hnx : nx ∈ N) (hrx : NodeR w r x nx) {size : Nat} {bl : List (Nat × List UInt8)}
  (hF : Frm [nx.b, nx.m] w w') (hR : Raw w' nx.b nx.m size bl) (hS : SameS size bl x.B x.On) : FsN w' f mi mg r N := by
 obtain ⟨sz, bl0, g1, g2⟩ := hrx.file hk
 have n1 : nx.blk ≠ nx.b := blk_ne hrx.head g1.head (by decide)
 have n2 : nx.m ≠ nx.blk := map_ne g1.map hrx.head
 have hh : w'.heap[nx.blk]? = some (.cells (inoC x (linksN r x) nx) 73 (0, 0)) := (hF.block _ (heap_lt hrx.head) (by simp; exact ⟨n1, fun e => n2 e.symm⟩)).trans hrx.head
 obtain ⟨l1, l2, l3, l4⟩ := h.lt hW
 obtain ⟨o1, o2, o3⟩ := h.off nx hnx
 have hbig : nx.big = true := by rw [hrx.big, hk]; rfl
 obtain ⟨G, hg1, hg2⟩ := h.gmap
 have kk : ∀ k, k < w.heap.size → k ∉ nx.foot → w'.heap[k]? = w.heap[k]? := fun k hk' hf => hF.block k hk' (by simp; exact ⟨fun e => hf (e ▸ Nd.b_mem hbig), fun e => hf (e ▸ Nd.m_mem hbig)⟩)
 refine ⟨(kk f l1 o1).trans h.head, h.imap.of_block (kk mi l2 o2), ⟨G, hg1.of_block (kk mg l3 o3), hg2⟩, fun n' hn' => ?_, h.all, h.sep, h.off, h.mm⟩
 by_cases e : n' = nx
 ·subst e
  exact ⟨x, hx, ⟨hrx.id, hh, hrx.big, fun _ => ⟨size, bl, hR, hS⟩, fun q => absurd (hk.symm.trans q) (by decide)⟩⟩
 ·obtain ⟨y, hy, hry⟩ := h.node n' hn'
  exact ⟨y, hy, hry.keep (fun k hkf => kk k (l4 n' hn' k hkf) (fun e2 => h.apart hn' hnx e k hkf e2)) rfl (fun _ => rfl)⟩
def fwriteP (r : RFs) (h : Int × Int) (a : Int) (b : List UInt8) (t : Int) : RFs × Int :=
 if sheetE r h ≠ 0 then (r, sheetE r h) else if a < 0 ∨ clockB t = false then (r, 1)
 else if roomP r < (rneed (byIdP r.ins h.1).On a b.length : Int) ∨ fitsB a b.length = false then (r, 177)
 else (setP r (fileP (byIdP r.ins h.1) (rwB (byIdP r.ins h.1).B a b) (rwOn (byIdP r.ins h.1).On a b.length) t), 0)
set_option maxRecDepth 100000 in
set_option linter.unusedSimpArgs false in
set_option maxHeartbeats 8000000 in
theorem fwrite_any {w : World} {f mi mg K : Nat} {r : RFs} {N : List Nd} (h : FsN w f mi mg r N) (hW : Wf r K) (i g a : Int) (A : Option Addr) (c : Nat) (l : List UInt8) (hl0 : l.length ≤ maxLen) (hlc : l.length ≤ c) (hrd : Rd w w.heap.size 1 byteC A l) (t : Int) :
  Calls Tryz.prog 42 #[.pointer (some ⟨f, 0, none⟩), .agg #[.int .i64 i, .int .i64 g], .int .i64 a, .slice A l.length c, .int .i64 t] w
   fun e w' => e = .returned (.int .i64 (fwriteP r (i, g) a l t).2) ∧ StepR w w' f mi mg N (fwriteP r (i, g) a l t).1 := by
 obtain ⟨w1, hw1, hB, hs1, hb0⟩ := box1 w #[.int .i64 i, .int .i64 g] 37
 have t0 : w1.cell? ⟨w.heap.size, 0, none⟩ = some (.int .i64 i) := by rw [cell_at hb0]; rfl
 have t1 : w1.cell? ⟨w.heap.size, 1, none⟩ = some (.int .i64 g) := by rw [cell_at hb0]; rfl
 have h1 := h.below hW hB
 have HW1 := Lib.hid hw1
 have HB := Lib.hid hB
 have HSt := Lib.hid (show ∀ w', Below w.heap.size w w' → StepR w w' f mi mg N r from fun w' hb => stepR_below h hW hb)
 have HC := Lib.hid (clock_any t)
 by_cases he : sheetE r (i, g) = 0
 ·obtain ⟨hl, hk⟩ := sheet_live he
  obtain ⟨m1, m2, m3⟩ := live_mem hl
  obtain ⟨nx, hn, hr⟩ := h1.at_ hW m1
  have HSh := Lib.hid (sheet_yes h1 hW i g he hn (hr.id.trans m2))
  have hne : ¬ sheetE r (i, g) ≠ 0 := by simp [he]
  have hcs : (a < 0 ∨ 0 ≤ a ∧ clockB t = false) ∨ 0 ≤ a ∧ clockB t = true ∧ (roomP r < (rneed (byIdP r.ins i).On a l.length : Int) ∨ (rneed (byIdP r.ins i).On a l.length : Int) ≤ roomP r ∧ (fitsB a l.length = false ∨ fitsB a l.length = true)) := by
   cases clockB t <;> cases fitsB a l.length <;> simp <;> omega
  have HNd := Lib.hid (show ∀ w2, Below w1.heap.size w1 w2 → Calls Tryz.prog 75 #[.pointer (some ⟨nx.b, 0, none⟩), .int .i64 a, .slice A l.length c] w2
    fun e w' => e = .returned (.int .i64 (rneed (byIdP r.ins i).On a l.length : Nat)) ∧ Below w1.heap.size w1 w' from fun w2 hb => by
   obtain ⟨sz, bl, g1, g2⟩ := (hr.below (.inl hk) hb).file hk
   rw [same_need g2]
   exact (need_any g1 a A l.length c hl0).mono fun e w' ⟨a1, a2⟩ => ⟨a1, hb.trans (a2.mono hb.size)⟩)
  have HU := Lib.hid (show ∀ w2, Below w1.heap.size w1 w2 → Calls Tryz.prog 73 #[.pointer (some ⟨f, 0, none⟩)] w2 fun e w' => e = .returned (.int .i64 (usedN r : Int)) ∧ Below w1.heap.size w1 w' from fun w2 hb => (used_any (h1.below hW hb) hW).mono fun e w' ⟨a1, a2⟩ => ⟨a1, hb.trans (a2.mono hb.size)⟩)
  have HWr := Lib.hid (show ∀ w2, Below w1.heap.size w1 w2 → Calls Tryz.prog 76 #[.pointer (some ⟨nx.b, 0, none⟩), .int .i64 a, .slice A l.length c] w2
    fun e w' => e = .returned (.bool (fitsB a l.length)) ∧ (fitsB a l.length = false → StepR w w' f mi mg N r) ∧ w'.cell? ⟨nx.blk, 3, none⟩ = some (.int .i64 (byIdP r.ins i).time) ∧ w'.frozen? ⟨nx.blk, 3, none⟩ = false ∧ w'.cell? ⟨f, 0, none⟩ = some (.int .i64 r.room) ∧
     ∀ w5, w'.setCell ⟨nx.blk, 3, none⟩ (.int .i64 t) = w5 → StepR w w5 f mi mg N (setP r (fileP (byIdP r.ins i) (rwB (byIdP r.ins i).B a l) (rwOn (byIdP r.ins i).On a l.length) t)) from fun w2 hb => by
   have hr2 := hr.below (.inl hk) hb
   obtain ⟨sz, bl, g1, g2⟩ := hr2.file hk
   have hbw : Below w.heap.size w w2 := hB.trans (hb.mono hB.size)
   refine (write_any g1 a A c l hl0 hlc ((hrd.below hbw).more hbw.size)).mono fun e w' ⟨a1, a2, a3⟩ => ?_
   have n1 : nx.blk ≠ nx.b := blk_ne hr2.head g1.head (by decide)
   have n2 : nx.m ≠ nx.blk := map_ne g1.map hr2.head
   have hh : w'.heap[nx.blk]? = _ := (a3.block nx.blk (heap_lt hr2.head) (by simp; exact ⟨n1, fun e => n2 e.symm⟩)).trans hr2.head
   have h2 := h1.below hW hb
   have hbig : nx.big = true := by rw [hr2.big, hk]; rfl
   have hff : w'.heap[f]? = _ := (a3.block f (heap_lt h2.head) (by simp; exact ⟨fun e => (h2.off nx hn).1 (e ▸ Nd.b_mem hbig), fun e => (h2.off nx hn).1 (e ▸ Nd.m_mem hbig)⟩)).trans h2.head
   refine ⟨a1, fun q => ?_, by rw [cell_at hh]; rfl, frozen_of_row w' nx.blk 3 _ _ hh, by rw [cell_at hff]; rfl, fun w5 hw5 => ?_⟩
   ·have hbl : wrBl bl a l = bl := by unfold wrBl; rw [if_neg (by rw [q]; simp)]
    have hsz : wrSize sz a l.length = sz := by unfold wrSize; rw [if_neg (by rw [q]; simp)]
    rw [hbl, hsz] at a2
    refine ⟨N, file_same h2 hW m1 hk hn hr2 a3 a2 g2, fun k hk => .inl hk, ((Frm.of_below hbw).trans (a3.mono fun k hk' => ?_))⟩
    simp at hk'
    rcases hk' with rfl | rfl
    ·exact fp_node hn (Nd.b_mem hbig)
    ·exact fp_node hn (Nd.m_mem hbig)
   ·have := file_fs (h1.below hW hb) hW m1 hk hn hr2 a3 a2 (same_write g2 a l) hw5
    obtain ⟨N', x1, x2, x3⟩ := this
    exact ⟨N', x1, fun k hk => by rcases x2 k hk with a | a; exact .inl a; exact .inr (Nat.le_trans hbw.size a), (Frm.of_below hbw).trans x3⟩)
  have HK := Lib.hid (show ∀ w2, Below w1.heap.size w1 w2 → w2.cell? ⟨f, 0, none⟩ = some (.int .i64 r.room) from fun w2 hb => (h1.below hW hb).cells.1)
  have hsp := hW.sp
  have hrm := hW.rm
  change ((usedN r : Nat) : Int) ≤ r.room at hsp
  have hw1' : IntKind.i64.wrap (r.room - (usedN r : Int)) = r.room - (usedN r : Int) := IntWalk.i64_in _ (by omega)
  have hrp : roomP r = r.room - (usedN r : Int) := rfl
  generalize (byIdP r.ins i).time = tm0 at *
  rcases hcs with q | ⟨q, qc, q2 | ⟨q2, q3 | q3⟩⟩
  ·rw [show fwriteP r (i, g) a l t = (r, 1) by unfold fwriteP; rw [if_neg hne, if_pos (by rcases q with q | q; exact .inl q; exact .inr q.2)]]
   generalize l.length = ll at *
   clear hw1 hB hb0 h h1 hW he hl hk m1 m2 m3 hn hr hne HWr HNd HU HK hsp hrm hw1' hrp hrd hl0 hlc
   rcases q with q | ⟨q, qc⟩
   ·go_enter Tryz.func42, Tryz.ntmps42
    go_wp2_with fail
    rw [HW1.out]
    go_wp2_with (go_at_call 69; (with_reducible refine HSh.out.mono ?_); rintro e w3 ⟨rfl, hB3⟩; replace hB3 := Lib.hid hB3)
    go_ret
    exact ⟨rfl, HSt.out _ (HB.out.trans (hB3.out.mono (by omega)))⟩
   ·rw [qc] at HC
    go_enter Tryz.func42, Tryz.ntmps42
    go_wp2_with fail
    rw [HW1.out]
    go_wp2_with (first
     | (go_at_call 69; (with_reducible refine HSh.out.mono ?_); rintro e w3 ⟨rfl, hB3⟩; replace hB3 := Lib.hid hB3)
     | (go_at_call 74; (with_reducible refine (HC.out _).mono ?_); rintro e w4 ⟨rfl, rfl⟩))
    go_ret
    exact ⟨rfl, HSt.out _ (HB.out.trans (hB3.out.mono (by omega)))⟩
  ·rw [show fwriteP r (i, g) a l t = (r, 177) by unfold fwriteP; rw [if_neg hne, if_neg (by rw [qc]; simp; omega), if_pos (.inl q2)]]
   rw [qc] at HC
   rw [hrp] at q2
   have q4 : decide (r.room - (usedN r : Int) < (rneed (byIdP r.ins i).On a l.length : Int)) = true := decide_eq_true q2
   generalize l.length = ll at *
   generalize rneed (byIdP r.ins i).On a ll = nd at *
   generalize usedN r = u at *
   generalize r.room = rm at *
   clear hw1 hB hb0 h h1 hW he hl hk m1 m2 m3 hn hr hne qc hrd hl0 hlc HWr hrp
   go_enter Tryz.func42, Tryz.ntmps42
   go_wp2_with fail
   rw [HW1.out]
   go_upto_region 6 with (first
    | (go_at_call 69; (with_reducible refine HSh.out.mono ?_); rintro e w3 ⟨rfl, hB3⟩; have c0 := HK.out w3 hB3)
    | (go_at_call 74; (with_reducible refine (HC.out _).mono ?_); rintro e w4 ⟨rfl, rfl⟩))
   have hB3d := hB3.drew
   refine wp_region_held_drew (S := fun w' => w'.cell? ⟨f, 0, none⟩ = some (.int .i64 rm)) (by kernel_rfl) (HK.out w3.drew hB3d) (fun hHeld => ?_)
   refine wpAnyH_take (i := 0) (v := ?_) rfl (by kernel_rfl) (by kernel_rfl) (by kernel_rfl) (fun _ _ _ h => h) (Or.inl ⟨by rfl, ?_⟩) (by assumption) ?_
   rotate_left
   ·intro w hSw
    (try subst hSw)
    go_simp
    first | done | with_reducible rfl
   simp -failIfUnchanged only [Act.put, List.getElem_toArray, List.getElem_cons_zero, List.getElem_cons_succ, List.setIfInBounds_toArray, List.set_cons_zero, List.set_cons_succ]
   refine wpAnyH_take (i := 1) (v := ?_) rfl (by kernel_rfl) (by kernel_rfl) (by kernel_rfl) (fun _ _ _ h => h) (Or.inl ⟨by rfl, ?_⟩) (by assumption) ?_
   rotate_left
   ·intro w hSw
    (try subst hSw)
    go_simp
    first | done | with_reducible rfl
   simp -failIfUnchanged only [Act.put, List.getElem_toArray, List.getElem_cons_zero, List.getElem_cons_succ, List.setIfInBounds_toArray, List.set_cons_zero, List.set_cons_succ]
   refine wpAnyH_take (i := 2) (v := ?_) rfl (by kernel_rfl) (by kernel_rfl) (by kernel_rfl) (fun _ _ _ h => h) (Or.inl ⟨by rfl, ?_⟩) (by assumption) ?_
   rotate_left
   ·intro w hSw
    (try subst hSw)
    go_simp
    first | done | with_reducible rfl
   simp -failIfUnchanged only [Act.put, List.getElem_toArray, List.getElem_cons_zero, List.getElem_cons_succ, List.setIfInBounds_toArray, List.set_cons_zero, List.set_cons_succ]
   refine wpAnyH_take (i := 4) (v := ?_) rfl (by kernel_rfl) (by kernel_rfl) (by kernel_rfl) (fun _ _ _ h => h) (Or.inl ⟨by rfl, ?_⟩) (by assumption) ?_
   rotate_left
   ·intro w hSw
    (try subst hSw)
    go_simp
    first | done | with_reducible rfl
   simp -failIfUnchanged only [Act.put, List.getElem_toArray, List.getElem_cons_zero, List.getElem_cons_succ, List.setIfInBounds_toArray, List.set_cons_zero, List.set_cons_succ]
   refine wpAnyH_take (i := 5) (v := ?_) rfl (by kernel_rfl) (by kernel_rfl) (by kernel_rfl) (fun _ _ _ h => h) (Or.inl ⟨by rfl, ?_⟩) (by assumption) ?_
   rotate_left
   ·intro w hSw
    (try subst hSw)
    go_simp
    first | done | with_reducible rfl
   simp -failIfUnchanged only [Act.put, List.getElem_toArray, List.getElem_cons_zero, List.getElem_cons_succ, List.setIfInBounds_toArray, List.set_cons_zero, List.set_cons_succ]
   refine wpAnyH_take (i := 6) (v := ?_) rfl (by kernel_rfl) (by kernel_rfl) (by kernel_rfl) (fun _ _ _ h => h) (Or.inl ⟨by rfl, ?_⟩) (by assumption) ?_
   rotate_left
   ·intro w hSw
    (try subst hSw)
    go_simp
    first | done | with_reducible rfl
   simp -failIfUnchanged only [Act.put, List.getElem_toArray, List.getElem_cons_zero, List.getElem_cons_succ, List.setIfInBounds_toArray, List.set_cons_zero, List.set_cons_succ]
   refine wpAnyH_take (i := 7) (v := ?_) rfl (by kernel_rfl) (by kernel_rfl) (by kernel_rfl) (fun _ _ _ h => h) (Or.inl ⟨by rfl, ?_⟩) (by assumption) ?_
   rotate_left
   ·intro w hSw
    (try subst hSw)
    go_simp
    first | done | with_reducible rfl
   simp -failIfUnchanged only [Act.put, List.getElem_toArray, List.getElem_cons_zero, List.getElem_cons_succ, List.setIfInBounds_toArray, List.set_cons_zero, List.set_cons_succ]
   refine wpAnyH_take (i := 8) (v := ?_) rfl (by kernel_rfl) (by kernel_rfl) (by kernel_rfl) (fun _ _ _ h => h) (Or.inl ⟨by rfl, ?_⟩) (by assumption) ?_
   rotate_left
   ·intro w hSw
    (try subst hSw)
    go_simp
    first | done | with_reducible rfl
   simp -failIfUnchanged only [Act.put, List.getElem_toArray, List.getElem_cons_zero, List.getElem_cons_succ, List.setIfInBounds_toArray, List.set_cons_zero, List.set_cons_succ]
   refine wpAnyH_ready (rs := [3]) (by kernel_rfl) (by simp) ?_
   refine AllReadyH.cons rfl (fun K hK => ?_) AllReadyH.nil
   go_simp
   refine (HNd.out _ (by assumption)).mono ?_
   rintro e w5 ⟨rfl, hb5⟩
   go_wp2_with fail
   refine hK.out _ _ (HK.out _ hb5) (fun hHeld2 => ?_)
   clear hK
   simp -failIfUnchanged only [Act.put, List.getElem_toArray, List.getElem_cons_zero, List.getElem_cons_succ, List.setIfInBounds_toArray, List.set_cons_zero, List.set_cons_succ]
   refine wpAnyH_ready (rs := [9]) (by kernel_rfl) (by simp) ?_
   refine AllReadyH.cons rfl (fun K hK => ?_) AllReadyH.nil
   go_simp
   refine (HU.out _ (by assumption)).mono ?_
   rintro e w6 ⟨rfl, hb6⟩
   go_wp2_with fail
   refine hK.out _ _ (HK.out _ hb6) (fun hHeld2 => ?_)
   clear hK
   simp -failIfUnchanged only [Act.put, List.getElem_toArray, List.getElem_cons_zero, List.getElem_cons_succ, List.setIfInBounds_toArray, List.set_cons_zero, List.set_cons_succ]
   refine wpAnyH_take (i := 10) (v := ?_) rfl (by kernel_rfl) (by kernel_rfl) (by kernel_rfl) (fun _ _ _ h => h) (Or.inl ⟨by rfl, ?_⟩) (by assumption) ?_
   rotate_left
   ·intro w hSw
    (try subst hSw)
    go_simp
    first | done | with_reducible rfl
   simp -failIfUnchanged only [Act.put, List.getElem_toArray, List.getElem_cons_zero, List.getElem_cons_succ, List.setIfInBounds_toArray, List.set_cons_zero, List.set_cons_succ]
   refine wpAnyH_take (i := 11) (v := ?_) rfl (by kernel_rfl) (by kernel_rfl) (by kernel_rfl) (fun _ _ _ h => h) (Or.inl ⟨by rfl, ?_⟩) (by assumption) ?_
   rotate_left
   ·intro w hSw
    (try subst hSw)
    go_simp
    first | done | with_reducible rfl
   simp -failIfUnchanged only [Act.put, List.getElem_toArray, List.getElem_cons_zero, List.getElem_cons_succ, List.setIfInBounds_toArray, List.set_cons_zero, List.set_cons_succ]
   refine wpAnyH_take (i := 12) (v := ?_) rfl (by kernel_rfl) (by kernel_rfl) (by kernel_rfl) (fun _ _ _ h => h) (Or.inl ⟨by rfl, ?_⟩) (by assumption) ?_
   rotate_left
   ·intro w hSw
    (try subst hSw)
    go_simp
    first | done | with_reducible rfl
   simp -failIfUnchanged only [Act.put, List.getElem_toArray, List.getElem_cons_zero, List.getElem_cons_succ, List.setIfInBounds_toArray, List.set_cons_zero, List.set_cons_succ]
   refine wpAnyH_take (i := 13) (v := undef) rfl (by kernel_rfl) (by kernel_rfl) (by kernel_rfl) (fun _ _ _ h => h) (Or.inr ⟨by rfl, rfl⟩) (by assumption) ?_
   simp -failIfUnchanged only [Act.put, List.getElem_toArray, List.getElem_cons_zero, List.getElem_cons_succ, List.setIfInBounds_toArray, List.set_cons_zero, List.set_cons_succ]
   refine wpAnyH_take (i := 14) (v := undef) rfl (by kernel_rfl) (by kernel_rfl) (by kernel_rfl) (fun _ _ _ h => h) (Or.inr ⟨by rfl, rfl⟩) (by assumption) ?_
   simp -failIfUnchanged only [Act.put, List.getElem_toArray, List.getElem_cons_zero, List.getElem_cons_succ, List.setIfInBounds_toArray, List.set_cons_zero, List.set_cons_succ]
   refine wpAnyH_take (i := 15) (v := undef) rfl (by kernel_rfl) (by kernel_rfl) (by kernel_rfl) (fun _ _ _ h => h) (Or.inr ⟨by rfl, rfl⟩) (by assumption) ?_
   simp -failIfUnchanged only [Act.put, List.getElem_toArray, List.getElem_cons_zero, List.getElem_cons_succ, List.setIfInBounds_toArray, List.set_cons_zero, List.set_cons_succ]
   refine wpAnyH_take (i := 16) (v := undef) rfl (by kernel_rfl) (by kernel_rfl) (by kernel_rfl) (fun _ _ _ h => h) (Or.inr ⟨by rfl, rfl⟩) (by assumption) ?_
   simp -failIfUnchanged only [Act.put, List.getElem_toArray, List.getElem_cons_zero, List.getElem_cons_succ, List.setIfInBounds_toArray, List.set_cons_zero, List.set_cons_succ]
   refine wpAnyH_take (i := 17) (v := undef) rfl (by kernel_rfl) (by kernel_rfl) (by kernel_rfl) (fun _ _ _ h => h) (Or.inr ⟨by rfl, rfl⟩) (by assumption) ?_
   simp -failIfUnchanged only [Act.put, List.getElem_toArray, List.getElem_cons_zero, List.getElem_cons_succ, List.setIfInBounds_toArray, List.set_cons_zero, List.set_cons_succ]
   refine wpAnyH_take (i := 18) (v := ?_) rfl (by kernel_rfl) (by kernel_rfl) (by kernel_rfl) (fun _ _ _ h => h) (Or.inl ⟨by rfl, ?_⟩) (by assumption) ?_
   rotate_left
   ·intro w hSw
    (try subst hSw)
    go_simp
    first | done | with_reducible rfl
   simp -failIfUnchanged only [Act.put, List.getElem_toArray, List.getElem_cons_zero, List.getElem_cons_succ, List.setIfInBounds_toArray, List.set_cons_zero, List.set_cons_succ]
   refine wpAnyH_take (i := 19) (v := ?_) rfl (by kernel_rfl) (by kernel_rfl) (by kernel_rfl) (fun _ _ _ h => h) (Or.inl ⟨by rfl, ?_⟩) (by assumption) ?_
   rotate_left
   ·intro w hSw
    (try subst hSw)
    go_simp
    first | done | with_reducible rfl
   simp -failIfUnchanged only [Act.put, List.getElem_toArray, List.getElem_cons_zero, List.getElem_cons_succ, List.setIfInBounds_toArray, List.set_cons_zero, List.set_cons_succ]
   refine wpAnyH_done (by kernel_rfl) ?_ _
   go_wp2_with fail
   go_ret
   exact ⟨rfl, HSt.out _ (HB.out.trans (hb6.mono (by omega)))⟩
  ·rw [show fwriteP r (i, g) a l t = (r, 177) by unfold fwriteP; rw [if_neg hne, if_neg (by rw [qc]; simp; omega), if_pos (.inr q3)]]
   rw [qc] at HC
   rw [hrp] at q2
   rw [q3] at HWr
   have q4 : decide (r.room - (usedN r : Int) < (rneed (byIdP r.ins i).On a l.length : Int)) = false := decide_eq_false (by omega)
   generalize l.length = ll at *
   generalize rneed (byIdP r.ins i).On a ll = nd at *
   generalize usedN r = u at *
   generalize r.room = rm at *
   clear hw1 hB hb0 h h1 hW he hl hk m1 m2 m3 hn hr hne qc hrd hl0 hlc hrp q3
   go_enter Tryz.func42, Tryz.ntmps42
   go_wp2_with fail
   rw [HW1.out]
   go_upto_region 6 with (first
    | (go_at_call 69; (with_reducible refine HSh.out.mono ?_); rintro e w3 ⟨rfl, hB3⟩; have c0 := HK.out w3 hB3)
    | (go_at_call 74; (with_reducible refine (HC.out _).mono ?_); rintro e w4 ⟨rfl, rfl⟩))
   have hB3d := hB3.drew
   refine wp_region_held_drew (S := fun w' => w'.cell? ⟨f, 0, none⟩ = some (.int .i64 rm)) (by kernel_rfl) (HK.out w3.drew hB3d) (fun hHeld => ?_)
   refine wpAnyH_take (i := 0) (v := ?_) rfl (by kernel_rfl) (by kernel_rfl) (by kernel_rfl) (fun _ _ _ h => h) (Or.inl ⟨by rfl, ?_⟩) (by assumption) ?_
   rotate_left
   ·intro w hSw
    (try subst hSw)
    go_simp
    first | done | with_reducible rfl
   simp -failIfUnchanged only [Act.put, List.getElem_toArray, List.getElem_cons_zero, List.getElem_cons_succ, List.setIfInBounds_toArray, List.set_cons_zero, List.set_cons_succ]
   refine wpAnyH_take (i := 1) (v := ?_) rfl (by kernel_rfl) (by kernel_rfl) (by kernel_rfl) (fun _ _ _ h => h) (Or.inl ⟨by rfl, ?_⟩) (by assumption) ?_
   rotate_left
   ·intro w hSw
    (try subst hSw)
    go_simp
    first | done | with_reducible rfl
   simp -failIfUnchanged only [Act.put, List.getElem_toArray, List.getElem_cons_zero, List.getElem_cons_succ, List.setIfInBounds_toArray, List.set_cons_zero, List.set_cons_succ]
   refine wpAnyH_take (i := 2) (v := ?_) rfl (by kernel_rfl) (by kernel_rfl) (by kernel_rfl) (fun _ _ _ h => h) (Or.inl ⟨by rfl, ?_⟩) (by assumption) ?_
   rotate_left
   ·intro w hSw
    (try subst hSw)
    go_simp
    first | done | with_reducible rfl
   simp -failIfUnchanged only [Act.put, List.getElem_toArray, List.getElem_cons_zero, List.getElem_cons_succ, List.setIfInBounds_toArray, List.set_cons_zero, List.set_cons_succ]
   refine wpAnyH_take (i := 4) (v := ?_) rfl (by kernel_rfl) (by kernel_rfl) (by kernel_rfl) (fun _ _ _ h => h) (Or.inl ⟨by rfl, ?_⟩) (by assumption) ?_
   rotate_left
   ·intro w hSw
    (try subst hSw)
    go_simp
    first | done | with_reducible rfl
   simp -failIfUnchanged only [Act.put, List.getElem_toArray, List.getElem_cons_zero, List.getElem_cons_succ, List.setIfInBounds_toArray, List.set_cons_zero, List.set_cons_succ]
   refine wpAnyH_take (i := 5) (v := ?_) rfl (by kernel_rfl) (by kernel_rfl) (by kernel_rfl) (fun _ _ _ h => h) (Or.inl ⟨by rfl, ?_⟩) (by assumption) ?_
   rotate_left
   ·intro w hSw
    (try subst hSw)
    go_simp
    first | done | with_reducible rfl
   simp -failIfUnchanged only [Act.put, List.getElem_toArray, List.getElem_cons_zero, List.getElem_cons_succ, List.setIfInBounds_toArray, List.set_cons_zero, List.set_cons_succ]
   refine wpAnyH_take (i := 6) (v := ?_) rfl (by kernel_rfl) (by kernel_rfl) (by kernel_rfl) (fun _ _ _ h => h) (Or.inl ⟨by rfl, ?_⟩) (by assumption) ?_
   rotate_left
   ·intro w hSw
    (try subst hSw)
    go_simp
    first | done | with_reducible rfl
   simp -failIfUnchanged only [Act.put, List.getElem_toArray, List.getElem_cons_zero, List.getElem_cons_succ, List.setIfInBounds_toArray, List.set_cons_zero, List.set_cons_succ]
   refine wpAnyH_take (i := 7) (v := ?_) rfl (by kernel_rfl) (by kernel_rfl) (by kernel_rfl) (fun _ _ _ h => h) (Or.inl ⟨by rfl, ?_⟩) (by assumption) ?_
   rotate_left
   ·intro w hSw
    (try subst hSw)
    go_simp
    first | done | with_reducible rfl
   simp -failIfUnchanged only [Act.put, List.getElem_toArray, List.getElem_cons_zero, List.getElem_cons_succ, List.setIfInBounds_toArray, List.set_cons_zero, List.set_cons_succ]
   refine wpAnyH_take (i := 8) (v := ?_) rfl (by kernel_rfl) (by kernel_rfl) (by kernel_rfl) (fun _ _ _ h => h) (Or.inl ⟨by rfl, ?_⟩) (by assumption) ?_
   rotate_left
   ·intro w hSw
    (try subst hSw)
    go_simp
    first | done | with_reducible rfl
   simp -failIfUnchanged only [Act.put, List.getElem_toArray, List.getElem_cons_zero, List.getElem_cons_succ, List.setIfInBounds_toArray, List.set_cons_zero, List.set_cons_succ]
   refine wpAnyH_ready (rs := [3]) (by kernel_rfl) (by simp) ?_
   refine AllReadyH.cons rfl (fun K hK => ?_) AllReadyH.nil
   go_simp
   refine (HNd.out _ (by assumption)).mono ?_
   rintro e w5 ⟨rfl, hb5⟩
   go_wp2_with fail
   refine hK.out _ _ (HK.out _ hb5) (fun hHeld2 => ?_)
   clear hK
   simp -failIfUnchanged only [Act.put, List.getElem_toArray, List.getElem_cons_zero, List.getElem_cons_succ, List.setIfInBounds_toArray, List.set_cons_zero, List.set_cons_succ]
   refine wpAnyH_ready (rs := [9]) (by kernel_rfl) (by simp) ?_
   refine AllReadyH.cons rfl (fun K hK => ?_) AllReadyH.nil
   go_simp
   refine (HU.out _ (by assumption)).mono ?_
   rintro e w6 ⟨rfl, hb6⟩
   go_wp2_with fail
   refine hK.out _ _ (HK.out _ hb6) (fun hHeld2 => ?_)
   clear hK
   simp -failIfUnchanged only [Act.put, List.getElem_toArray, List.getElem_cons_zero, List.getElem_cons_succ, List.setIfInBounds_toArray, List.set_cons_zero, List.set_cons_succ]
   refine wpAnyH_take (i := 10) (v := ?_) rfl (by kernel_rfl) (by kernel_rfl) (by kernel_rfl) (fun _ _ _ h => h) (Or.inl ⟨by rfl, ?_⟩) (by assumption) ?_
   rotate_left
   ·intro w hSw
    (try subst hSw)
    go_simp
    first | done | with_reducible rfl
   simp -failIfUnchanged only [Act.put, List.getElem_toArray, List.getElem_cons_zero, List.getElem_cons_succ, List.setIfInBounds_toArray, List.set_cons_zero, List.set_cons_succ]
   refine wpAnyH_take (i := 11) (v := ?_) rfl (by kernel_rfl) (by kernel_rfl) (by kernel_rfl) (fun _ _ _ h => h) (Or.inl ⟨by rfl, ?_⟩) (by assumption) ?_
   rotate_left
   ·intro w hSw
    (try subst hSw)
    go_simp
    first | done | with_reducible rfl
   simp -failIfUnchanged only [Act.put, List.getElem_toArray, List.getElem_cons_zero, List.getElem_cons_succ, List.setIfInBounds_toArray, List.set_cons_zero, List.set_cons_succ]
   refine wpAnyH_take (i := 12) (v := ?_) rfl (by kernel_rfl) (by kernel_rfl) (by kernel_rfl) (fun _ _ _ h => h) (Or.inl ⟨by rfl, ?_⟩) (by assumption) ?_
   rotate_left
   ·intro w hSw
    (try subst hSw)
    go_simp
    first | done | with_reducible rfl
   simp -failIfUnchanged only [Act.put, List.getElem_toArray, List.getElem_cons_zero, List.getElem_cons_succ, List.setIfInBounds_toArray, List.set_cons_zero, List.set_cons_succ]
   refine wpAnyH_take (i := 13) (v := ?_) rfl (by kernel_rfl) (by kernel_rfl) (by kernel_rfl) (fun _ _ _ h => h) (Or.inl ⟨by rfl, ?_⟩) (by assumption) ?_
   rotate_left
   ·intro w hSw
    (try subst hSw)
    go_simp
    first | done | with_reducible rfl
   simp -failIfUnchanged only [Act.put, List.getElem_toArray, List.getElem_cons_zero, List.getElem_cons_succ, List.setIfInBounds_toArray, List.set_cons_zero, List.set_cons_succ]
   refine wpAnyH_take (i := 14) (v := ?_) rfl (by kernel_rfl) (by kernel_rfl) (by kernel_rfl) (fun _ _ _ h => h) (Or.inl ⟨by rfl, ?_⟩) (by assumption) ?_
   rotate_left
   ·intro w hSw
    (try subst hSw)
    go_simp
    first | done | with_reducible rfl
   simp -failIfUnchanged only [Act.put, List.getElem_toArray, List.getElem_cons_zero, List.getElem_cons_succ, List.setIfInBounds_toArray, List.set_cons_zero, List.set_cons_succ]
   refine wpAnyH_take (i := 15) (v := ?_) rfl (by kernel_rfl) (by kernel_rfl) (by kernel_rfl) (fun _ _ _ h => h) (Or.inl ⟨by rfl, ?_⟩) (by assumption) ?_
   rotate_left
   ·intro w hSw
    (try subst hSw)
    go_simp
    first | done | with_reducible rfl
   simp -failIfUnchanged only [Act.put, List.getElem_toArray, List.getElem_cons_zero, List.getElem_cons_succ, List.setIfInBounds_toArray, List.set_cons_zero, List.set_cons_succ]
   refine wpAnyH_ready (rs := [16]) (by kernel_rfl) (by simp) ?_
   refine AllReadyH.cons rfl (fun K hK => ?_) AllReadyH.nil
   go_simp
   refine (HWr.out _ (by assumption)).mono ?_
   rintro e w7 ⟨rfl, hS7, -, -, hf7, -⟩
   go_wp2_with fail
   refine hK.out _ _ (hf7) (fun hHeld2 => ?_)
   clear hK
   simp -failIfUnchanged only [Act.put, List.getElem_toArray, List.getElem_cons_zero, List.getElem_cons_succ, List.setIfInBounds_toArray, List.set_cons_zero, List.set_cons_succ]
   refine wpAnyH_take (i := 17) (v := ?_) rfl (by kernel_rfl) (by kernel_rfl) (by kernel_rfl) (fun _ _ _ h => h) (Or.inl ⟨by rfl, ?_⟩) (by assumption) ?_
   rotate_left
   ·intro w hSw
    (try subst hSw)
    go_simp
    first | done | with_reducible rfl
   simp -failIfUnchanged only [Act.put, List.getElem_toArray, List.getElem_cons_zero, List.getElem_cons_succ, List.setIfInBounds_toArray, List.set_cons_zero, List.set_cons_succ]
   refine wpAnyH_take (i := 18) (v := ?_) rfl (by kernel_rfl) (by kernel_rfl) (by kernel_rfl) (fun _ _ _ h => h) (Or.inl ⟨by rfl, ?_⟩) (by assumption) ?_
   rotate_left
   ·intro w hSw
    (try subst hSw)
    go_simp
    first | done | with_reducible rfl
   simp -failIfUnchanged only [Act.put, List.getElem_toArray, List.getElem_cons_zero, List.getElem_cons_succ, List.setIfInBounds_toArray, List.set_cons_zero, List.set_cons_succ]
   refine wpAnyH_take (i := 19) (v := ?_) rfl (by kernel_rfl) (by kernel_rfl) (by kernel_rfl) (fun _ _ _ h => h) (Or.inl ⟨by rfl, ?_⟩) (by assumption) ?_
   rotate_left
   ·intro w hSw
    (try subst hSw)
    go_simp
    first | done | with_reducible rfl
   simp -failIfUnchanged only [Act.put, List.getElem_toArray, List.getElem_cons_zero, List.getElem_cons_succ, List.setIfInBounds_toArray, List.set_cons_zero, List.set_cons_succ]
   refine wpAnyH_done (by kernel_rfl) ?_ _
   have HS7 := Lib.hid (show StepR w w7 f mi mg N r by first | exact hS7 trivial | exact hS7 rfl)
   clear hS7
   go_wp2_with fail
   go_ret
   exact ⟨rfl, HS7.out⟩
  ·rw [show fwriteP r (i, g) a l t = (setP r (fileP (byIdP r.ins i) (rwB (byIdP r.ins i).B a l) (rwOn (byIdP r.ins i).On a l.length) t), 0) by unfold fwriteP; rw [if_neg hne, if_neg (by rw [qc]; simp; omega), if_neg (by rw [q3]; simp; omega)]]
   rw [qc] at HC
   rw [hrp] at q2
   rw [q3] at HWr
   have q4 : decide (r.room - (usedN r : Int) < (rneed (byIdP r.ins i).On a l.length : Int)) = false := decide_eq_false (by omega)
   generalize hll : l.length = ll at *
   generalize rneed (byIdP r.ins i).On a ll = nd at *
   generalize usedN r = u at *
   generalize hrm2 : r.room = rm at *
   clear hw1 hB hb0 h h1 hW he hl hk m1 m2 m3 hn hr hne qc hrd hl0 hlc hrp q3 hll hrm2
   go_enter Tryz.func42, Tryz.ntmps42
   go_wp2_with fail
   rw [HW1.out]
   go_upto_region 6 with (first
    | (go_at_call 69; (with_reducible refine HSh.out.mono ?_); rintro e w3 ⟨rfl, hB3⟩; have c0 := HK.out w3 hB3)
    | (go_at_call 74; (with_reducible refine (HC.out _).mono ?_); rintro e w4 ⟨rfl, rfl⟩))
   have hB3d := hB3.drew
   refine wp_region_held_drew (S := fun w' => w'.cell? ⟨f, 0, none⟩ = some (.int .i64 rm)) (by kernel_rfl) (HK.out w3.drew hB3d) (fun hHeld => ?_)
   refine wpAnyH_take (i := 0) (v := ?_) rfl (by kernel_rfl) (by kernel_rfl) (by kernel_rfl) (fun _ _ _ h => h) (Or.inl ⟨by rfl, ?_⟩) (by assumption) ?_
   rotate_left
   ·intro w hSw
    (try subst hSw)
    go_simp
    first | done | with_reducible rfl
   simp -failIfUnchanged only [Act.put, List.getElem_toArray, List.getElem_cons_zero, List.getElem_cons_succ, List.setIfInBounds_toArray, List.set_cons_zero, List.set_cons_succ]
   refine wpAnyH_take (i := 1) (v := ?_) rfl (by kernel_rfl) (by kernel_rfl) (by kernel_rfl) (fun _ _ _ h => h) (Or.inl ⟨by rfl, ?_⟩) (by assumption) ?_
   rotate_left
   ·intro w hSw
    (try subst hSw)
    go_simp
    first | done | with_reducible rfl
   simp -failIfUnchanged only [Act.put, List.getElem_toArray, List.getElem_cons_zero, List.getElem_cons_succ, List.setIfInBounds_toArray, List.set_cons_zero, List.set_cons_succ]
   refine wpAnyH_take (i := 2) (v := ?_) rfl (by kernel_rfl) (by kernel_rfl) (by kernel_rfl) (fun _ _ _ h => h) (Or.inl ⟨by rfl, ?_⟩) (by assumption) ?_
   rotate_left
   ·intro w hSw
    (try subst hSw)
    go_simp
    first | done | with_reducible rfl
   simp -failIfUnchanged only [Act.put, List.getElem_toArray, List.getElem_cons_zero, List.getElem_cons_succ, List.setIfInBounds_toArray, List.set_cons_zero, List.set_cons_succ]
   refine wpAnyH_take (i := 4) (v := ?_) rfl (by kernel_rfl) (by kernel_rfl) (by kernel_rfl) (fun _ _ _ h => h) (Or.inl ⟨by rfl, ?_⟩) (by assumption) ?_
   rotate_left
   ·intro w hSw
    (try subst hSw)
    go_simp
    first | done | with_reducible rfl
   simp -failIfUnchanged only [Act.put, List.getElem_toArray, List.getElem_cons_zero, List.getElem_cons_succ, List.setIfInBounds_toArray, List.set_cons_zero, List.set_cons_succ]
   refine wpAnyH_take (i := 5) (v := ?_) rfl (by kernel_rfl) (by kernel_rfl) (by kernel_rfl) (fun _ _ _ h => h) (Or.inl ⟨by rfl, ?_⟩) (by assumption) ?_
   rotate_left
   ·intro w hSw
    (try subst hSw)
    go_simp
    first | done | with_reducible rfl
   simp -failIfUnchanged only [Act.put, List.getElem_toArray, List.getElem_cons_zero, List.getElem_cons_succ, List.setIfInBounds_toArray, List.set_cons_zero, List.set_cons_succ]
   refine wpAnyH_take (i := 6) (v := ?_) rfl (by kernel_rfl) (by kernel_rfl) (by kernel_rfl) (fun _ _ _ h => h) (Or.inl ⟨by rfl, ?_⟩) (by assumption) ?_
   rotate_left
   ·intro w hSw
    (try subst hSw)
    go_simp
    first | done | with_reducible rfl
   simp -failIfUnchanged only [Act.put, List.getElem_toArray, List.getElem_cons_zero, List.getElem_cons_succ, List.setIfInBounds_toArray, List.set_cons_zero, List.set_cons_succ]
   refine wpAnyH_take (i := 7) (v := ?_) rfl (by kernel_rfl) (by kernel_rfl) (by kernel_rfl) (fun _ _ _ h => h) (Or.inl ⟨by rfl, ?_⟩) (by assumption) ?_
   rotate_left
   ·intro w hSw
    (try subst hSw)
    go_simp
    first | done | with_reducible rfl
   simp -failIfUnchanged only [Act.put, List.getElem_toArray, List.getElem_cons_zero, List.getElem_cons_succ, List.setIfInBounds_toArray, List.set_cons_zero, List.set_cons_succ]
   refine wpAnyH_take (i := 8) (v := ?_) rfl (by kernel_rfl) (by kernel_rfl) (by kernel_rfl) (fun _ _ _ h => h) (Or.inl ⟨by rfl, ?_⟩) (by assumption) ?_
   rotate_left
   ·intro w hSw
    (try subst hSw)
    go_simp
    first | done | with_reducible rfl
   simp -failIfUnchanged only [Act.put, List.getElem_toArray, List.getElem_cons_zero, List.getElem_cons_succ, List.setIfInBounds_toArray, List.set_cons_zero, List.set_cons_succ]
   refine wpAnyH_ready (rs := [3]) (by kernel_rfl) (by simp) ?_
   refine AllReadyH.cons rfl (fun K hK => ?_) AllReadyH.nil
   go_simp
   refine (HNd.out _ (by assumption)).mono ?_
   rintro e w5 ⟨rfl, hb5⟩
   go_wp2_with fail
   refine hK.out _ _ (HK.out _ hb5) (fun hHeld2 => ?_)
   clear hK
   simp -failIfUnchanged only [Act.put, List.getElem_toArray, List.getElem_cons_zero, List.getElem_cons_succ, List.setIfInBounds_toArray, List.set_cons_zero, List.set_cons_succ]
   refine wpAnyH_ready (rs := [9]) (by kernel_rfl) (by simp) ?_
   refine AllReadyH.cons rfl (fun K hK => ?_) AllReadyH.nil
   go_simp
   refine (HU.out _ (by assumption)).mono ?_
   rintro e w6 ⟨rfl, hb6⟩
   go_wp2_with fail
   refine hK.out _ _ (HK.out _ hb6) (fun hHeld2 => ?_)
   clear hK
   simp -failIfUnchanged only [Act.put, List.getElem_toArray, List.getElem_cons_zero, List.getElem_cons_succ, List.setIfInBounds_toArray, List.set_cons_zero, List.set_cons_succ]
   refine wpAnyH_take (i := 10) (v := ?_) rfl (by kernel_rfl) (by kernel_rfl) (by kernel_rfl) (fun _ _ _ h => h) (Or.inl ⟨by rfl, ?_⟩) (by assumption) ?_
   rotate_left
   ·intro w hSw
    (try subst hSw)
    go_simp
    first | done | with_reducible rfl
   simp -failIfUnchanged only [Act.put, List.getElem_toArray, List.getElem_cons_zero, List.getElem_cons_succ, List.setIfInBounds_toArray, List.set_cons_zero, List.set_cons_succ]
   refine wpAnyH_take (i := 11) (v := ?_) rfl (by kernel_rfl) (by kernel_rfl) (by kernel_rfl) (fun _ _ _ h => h) (Or.inl ⟨by rfl, ?_⟩) (by assumption) ?_
   rotate_left
   ·intro w hSw
    (try subst hSw)
    go_simp
    first | done | with_reducible rfl
   simp -failIfUnchanged only [Act.put, List.getElem_toArray, List.getElem_cons_zero, List.getElem_cons_succ, List.setIfInBounds_toArray, List.set_cons_zero, List.set_cons_succ]
   refine wpAnyH_take (i := 12) (v := ?_) rfl (by kernel_rfl) (by kernel_rfl) (by kernel_rfl) (fun _ _ _ h => h) (Or.inl ⟨by rfl, ?_⟩) (by assumption) ?_
   rotate_left
   ·intro w hSw
    (try subst hSw)
    go_simp
    first | done | with_reducible rfl
   simp -failIfUnchanged only [Act.put, List.getElem_toArray, List.getElem_cons_zero, List.getElem_cons_succ, List.setIfInBounds_toArray, List.set_cons_zero, List.set_cons_succ]
   refine wpAnyH_take (i := 13) (v := ?_) rfl (by kernel_rfl) (by kernel_rfl) (by kernel_rfl) (fun _ _ _ h => h) (Or.inl ⟨by rfl, ?_⟩) (by assumption) ?_
   rotate_left
   ·intro w hSw
    (try subst hSw)
    go_simp
    first | done | with_reducible rfl
   simp -failIfUnchanged only [Act.put, List.getElem_toArray, List.getElem_cons_zero, List.getElem_cons_succ, List.setIfInBounds_toArray, List.set_cons_zero, List.set_cons_succ]
   refine wpAnyH_take (i := 14) (v := ?_) rfl (by kernel_rfl) (by kernel_rfl) (by kernel_rfl) (fun _ _ _ h => h) (Or.inl ⟨by rfl, ?_⟩) (by assumption) ?_
   rotate_left
   ·intro w hSw
    (try subst hSw)
    go_simp
    first | done | with_reducible rfl
   simp -failIfUnchanged only [Act.put, List.getElem_toArray, List.getElem_cons_zero, List.getElem_cons_succ, List.setIfInBounds_toArray, List.set_cons_zero, List.set_cons_succ]
   refine wpAnyH_take (i := 15) (v := ?_) rfl (by kernel_rfl) (by kernel_rfl) (by kernel_rfl) (fun _ _ _ h => h) (Or.inl ⟨by rfl, ?_⟩) (by assumption) ?_
   rotate_left
   ·intro w hSw
    (try subst hSw)
    go_simp
    first | done | with_reducible rfl
   simp -failIfUnchanged only [Act.put, List.getElem_toArray, List.getElem_cons_zero, List.getElem_cons_succ, List.setIfInBounds_toArray, List.set_cons_zero, List.set_cons_succ]
   refine wpAnyH_ready (rs := [16]) (by kernel_rfl) (by simp) ?_
   refine AllReadyH.cons rfl (fun K hK => ?_) AllReadyH.nil
   go_simp
   refine (HWr.out _ (by assumption)).mono ?_
   rintro e w7 ⟨rfl, -, d1, d2, hf7, hS7⟩
   go_wp2_with fail
   refine hK.out _ _ (hf7) (fun hHeld2 => ?_)
   clear hK
   simp -failIfUnchanged only [Act.put, List.getElem_toArray, List.getElem_cons_zero, List.getElem_cons_succ, List.setIfInBounds_toArray, List.set_cons_zero, List.set_cons_succ]
   refine wpAnyH_take (i := 17) (v := ?_) rfl (by kernel_rfl) (by kernel_rfl) (by kernel_rfl) (fun _ _ _ h => h) (Or.inl ⟨by rfl, ?_⟩) (by assumption) ?_
   rotate_left
   ·intro w hSw
    (try subst hSw)
    go_simp
    first | done | with_reducible rfl
   simp -failIfUnchanged only [Act.put, List.getElem_toArray, List.getElem_cons_zero, List.getElem_cons_succ, List.setIfInBounds_toArray, List.set_cons_zero, List.set_cons_succ]
   refine wpAnyH_take (i := 18) (v := ?_) rfl (by kernel_rfl) (by kernel_rfl) (by kernel_rfl) (fun _ _ _ h => h) (Or.inl ⟨by rfl, ?_⟩) (by assumption) ?_
   rotate_left
   ·intro w hSw
    (try subst hSw)
    go_simp
    first | done | with_reducible rfl
   simp -failIfUnchanged only [Act.put, List.getElem_toArray, List.getElem_cons_zero, List.getElem_cons_succ, List.setIfInBounds_toArray, List.set_cons_zero, List.set_cons_succ]
   refine wpAnyH_take (i := 19) (v := ?_) rfl (by kernel_rfl) (by kernel_rfl) (by kernel_rfl) (fun _ _ _ h => h) (Or.inl ⟨by rfl, ?_⟩) (by assumption) ?_
   rotate_left
   ·intro w hSw
    (try subst hSw)
    go_simp
    first | done | with_reducible rfl
   simp -failIfUnchanged only [Act.put, List.getElem_toArray, List.getElem_cons_zero, List.getElem_cons_succ, List.setIfInBounds_toArray, List.set_cons_zero, List.set_cons_succ]
   refine wpAnyH_done (by kernel_rfl) ?_ _
   have HS7 := Lib.hid hS7
   clear hS7
   go_wp2_with fail
   go_ret
   exact ⟨rfl, HS7.out _ rfl⟩
 ·have HSh := Lib.hid (sheet_no h1 hW i g he)
  have hne : (sheetE r (i, g) != 0) = true := by rw [bne_iff_ne]; exact he
  rw [show fwriteP r (i, g) a l t = (r, sheetE r (i, g)) by unfold fwriteP; rw [if_pos he]]
  generalize sheetE r (i, g) = se at *
  clear hw1 hB hb0 h h1 hW he
  go_enter Tryz.func42, Tryz.ntmps42
  go_wp2_with fail
  rw [HW1.out]
  go_wp2_with (go_at_call 69; (with_reducible refine HSh.out.mono ?_); rintro e w3 ⟨rfl, hB3⟩; replace hB3 := Lib.hid hB3)
  go_ret
  exact ⟨rfl, HSt.out _ (HB.out.trans (hB3.out.mono (by omega)))⟩
end Go.Proofs.YtpcjmefchclhhaaGreat

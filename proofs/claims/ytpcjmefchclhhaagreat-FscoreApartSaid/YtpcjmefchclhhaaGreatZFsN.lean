/- A part of the proof. -/
import Derived.Test.YtpcjmefchclhhaaGreatZFsM
import Derived.Test.YtpcjmefchclhhaaGreatZFsG
namespace Go.Proofs.YtpcjmefchclhhaaGreat
open Go.RowKit Go.MapKept
theorem linksN_set {r : RFs} {K : Nat} (hW : Wf r K) {x x' : RIn} (hx : x ∈ r.ins) (hi : x'.id = x.id) (hk : x'.kind = x.kind) (y : RIn) : linksN (setP r x') y = linksN r y := by
 refine linksN_congr rfl rfl rfl fun n _ => ?_
 rw [byIdP_set]
 by_cases e : n.id = x'.id
 ·rw [if_pos e, hk, e, hi, hW.byId hx]
 ·rw [if_neg e]
theorem set_fs {w w' : World} {f mi mg K : Nat} {r : RFs} {N : List Nd} (h : FsN w f mi mg r N) (hW : Wf r K) {x x' : RIn} {nx : Nd} (hx : x ∈ r.ins) (hi : x'.id = x.id) (hk : x'.kind = x.kind) (hnx : nx ∈ N) (hrx : NodeR w r x nx)
  (kk : ∀ k, k < w.heap.size → k ∉ nx.foot → w'.heap[k]? = w.heap[k]?) (hx' : NodeR w' (setP r x') x' nx) : FsN w' f mi mg (setP r x') N := by
 obtain ⟨l1, l2, l3, l4⟩ := h.lt hW
 obtain ⟨o1, o2, o3⟩ := h.off nx hnx
 obtain ⟨G, hg1, hg2⟩ := h.gmap
 refine ⟨(kk f l1 o1).trans h.head, h.imap.of_block (kk mi l2 o2), ⟨G, hg1.of_block (kk mg l3 o3), hg2⟩, fun n hn => ?_, fun y hy => ?_, h.sep, h.off, h.mm⟩
 ·by_cases e : n = nx
  ·subst e
   exact ⟨x', List.mem_append.2 (.inr (by simp)), hx'⟩
  ·obtain ⟨y, hy, hr⟩ := h.node n hn
   have hyx : y.id ≠ x.id := fun e2 => e (nodup_inj h.idU hn hnx (by rw [hr.id, hrx.id, e2]))
   exact ⟨y, List.mem_append.2 (.inl (List.mem_filter.2 ⟨hy, by simpa [hi] using hyx⟩)), hr.keep (fun k hkf => kk k (l4 n hn k hkf) (fun e2 => h.apart hn hnx e k hkf e2)) (linksN_set hW hx hi hk y) (fun _ => rfl)⟩
 ·rcases List.mem_append.1 hy with hy | hy
  ·exact h.all y (List.mem_filter.1 hy).1
  ·simp only [List.mem_singleton] at hy
   subst hy
   obtain ⟨n, hn, e⟩ := h.all x hx
   exact ⟨n, hn, by rw [e, hi]⟩
def fileP (x : RIn) (B : List UInt8) (On : List Nat) (t : Int) : RIn := { x with B := B, On := On, time := t }
theorem file_fs {w w1 w' : World} {f mi mg K : Nat} {r : RFs} {N : List Nd} (h : FsN w f mi mg r N) (hW : Wf r K) {x : RIn} {nx : Nd} (hx : x ∈ r.ins) (hk : x.kind = 1) (hnx : nx ∈ N) (hrx : NodeR w r x nx) {size : Nat} {bl : List (Nat × List UInt8)} {B : List UInt8} {On : List Nat} {t : Int}
  (hF : Frm [nx.b, nx.m] w w1) (hR : Raw w1 nx.b nx.m size bl) (hS : SameS size bl B On) (hw' : w1.setCell ⟨nx.blk, 3, none⟩ (.int .i64 t) = w') : StepR w w' f mi mg N (setP r (fileP x B On t)) := by
 have hbig : nx.big = true := by rw [hrx.big, hk]; rfl
 obtain ⟨sz, bl0, g1, g2⟩ := hrx.file hk
 have n1 : nx.blk ≠ nx.b := blk_ne hrx.head g1.head (by decide)
 have n2 : nx.m ≠ nx.blk := map_ne g1.map hrx.head
 have hh : w1.heap[nx.blk]? = some (.cells (inoC x (linksN r x) nx) 73 (0, 0)) := (hF.block _ (heap_lt hrx.head) (by simp; exact ⟨n1, fun e => n2 e.symm⟩)).trans hrx.head
 have hh' : w'.heap[nx.blk]? = some (.cells (inoC (fileP x B On t) (linksN r x) nx) 73 (0, 0)) := by rw [← hw']; exact heap_setCell_same w1 nx.blk 3 _ _ _ hh
 have k1 : ∀ k, k ≠ nx.blk → w'.heap[k]? = w1.heap[k]? := fun k hk => by rw [← hw']; exact setCell_far _ _ _ _ _ hk
 have hR' : Raw w' nx.b nx.m size bl := hR.keep (k1 _ (fun e => n1 e.symm)) (k1 _ n2)
 have hb : nx.b ∈ nx.foot := Nd.b_mem hbig
 have hm : nx.m ∈ nx.foot := Nd.m_mem hbig
 refine ⟨N, set_fs h hW hx (x' := fileP x B On t) rfl rfl hnx hrx (fun k hk hf => (k1 k (fun e => hf (e ▸ nx.blk_mem))).trans (hF.block k hk (by simp; exact ⟨fun e => hf (e ▸ hb), fun e => hf (e ▸ hm)⟩))) ⟨hrx.id, ?_, hrx.big, fun _ => ⟨size, bl, hR', hS⟩, fun q => absurd (hk.symm.trans q) (by decide)⟩, fun k hk => .inl hk, ?_⟩
 ·rw [linksN_set hW hx (x' := fileP x B On t) rfl rfl]
  exact hh'
 ·rw [← hw']
  exact (hF.mono (fun k hk => by simp at hk; rcases hk with rfl | rfl <;> exact fp_node hnx (by assumption))).setCell (.inl (fp_node hnx nx.blk_mem)) _
def fcutP (r : RFs) (h : Int × Int) (n t : Int) : RFs × Int :=
 if sheetE r h ≠ 0 then (r, sheetE r h) else if n < 0 ∨ clockB t = false then (r, 1) else if cutOk n = false then (r, 177)
 else (setP r (fileP (byIdP r.ins h.1) (rcB (byIdP r.ins h.1).B n) (rcOn (byIdP r.ins h.1).B (byIdP r.ins h.1).On n) t), 0)
set_option maxRecDepth 100000 in
set_option maxHeartbeats 4000000 in
theorem fcut_any {w : World} {f mi mg K : Nat} {r : RFs} {N : List Nd} (h : FsN w f mi mg r N) (hW : Wf r K) (i g n t : Int) :
  Calls Tryz.prog 43 #[.pointer (some ⟨f, 0, none⟩), .agg #[.int .i64 i, .int .i64 g], .int .i64 n, .int .i64 t] w
   fun e w' => e = .returned (.int .i64 (fcutP r (i, g) n t).2) ∧ StepR w w' f mi mg N (fcutP r (i, g) n t).1 := by
 obtain ⟨w1, hw1, hB, hs1, hb0⟩ := box1 w #[.int .i64 i, .int .i64 g] 37
 have t0 : w1.cell? ⟨w.heap.size, 0, none⟩ = some (.int .i64 i) := by rw [cell_at hb0]; rfl
 have t1 : w1.cell? ⟨w.heap.size, 1, none⟩ = some (.int .i64 g) := by rw [cell_at hb0]; rfl
 have h1 := h.below hW hB
 have HW1 := Lib.hid hw1
 have HB := Lib.hid hB
 have HSt := Lib.hid (show ∀ w', Below w.heap.size w w' → StepR w w' f mi mg N r from fun w' hb => stepR_below h hW hb)
 have HC := Lib.hid (clock_any t)
 by_cases he : sheetE r (i, g) = 0
 ·obtain ⟨hl, hk⟩ := sheet_live he
  obtain ⟨m1, m2, m3⟩ := live_mem hl
  obtain ⟨nx, hn, hr⟩ := h1.at_ hW m1
  have HSh := Lib.hid (sheet_yes h1 hW i g he hn (hr.id.trans m2))
  have hne : ¬ sheetE r (i, g) ≠ 0 := by simp [he]
  have hcs : (n < 0 ∨ 0 ≤ n ∧ clockB t = false) ∨ 0 ≤ n ∧ clockB t = true ∧ (cutOk n = false ∨ cutOk n = true) := by
   cases clockB t <;> cases cutOk n <;> simp <;> omega
  have HCt := Lib.hid (show ∀ w2, Below w1.heap.size w1 w2 → Calls Tryz.prog 77 #[.pointer (some ⟨nx.b, 0, none⟩), .int .i64 n] w2
    fun e w' => e = .returned (.bool (cutOk n)) ∧ (cutOk n = false → StepR w w' f mi mg N r) ∧ w'.cell? ⟨nx.blk, 3, none⟩ = some (.int .i64 (byIdP r.ins i).time) ∧ w'.frozen? ⟨nx.blk, 3, none⟩ = false ∧
     ∀ w5, w'.setCell ⟨nx.blk, 3, none⟩ (.int .i64 t) = w5 → StepR w w5 f mi mg N (setP r (fileP (byIdP r.ins i) (rcB (byIdP r.ins i).B n) (rcOn (byIdP r.ins i).B (byIdP r.ins i).On n) t)) from fun w2 hb => by
   have hr2 := hr.below (.inl hk) hb
   obtain ⟨sz, bl, g1, g2⟩ := hr2.file hk
   have hbw : Below w.heap.size w w2 := hB.trans (hb.mono hB.size)
   refine (cut_any g1 n).mono fun e w' ⟨a1, a2, a3⟩ => ?_
   have n1 : nx.blk ≠ nx.b := blk_ne hr2.head g1.head (by decide)
   have n2 : nx.m ≠ nx.blk := map_ne g1.map hr2.head
   have hh : w'.heap[nx.blk]? = _ := (a3.block nx.blk (heap_lt hr2.head) (by simp; exact ⟨n1, fun e => n2 e.symm⟩)).trans hr2.head
   refine ⟨a1, fun q => ?_, by rw [cell_at hh]; rfl, frozen_of_row w' nx.blk 3 _ _ hh, fun w5 hw5 => ?_⟩
   ·have hbl : cutBl sz bl n = bl := by unfold cutBl; rw [if_neg (by rw [q]; simp)]
    have hsz : cutSize sz n = sz := by unfold cutSize; rw [if_neg (by rw [q]; simp)]
    rw [hbl, hsz] at a2
    have h2 := h1.below hW hb
    refine ⟨N, ?_, fun k hk => .inl hk, ((Frm.of_below hbw).trans (a3.mono fun k hk' => ?_))⟩
    ·obtain ⟨l1, l2, l3, l4⟩ := h2.lt hW
     obtain ⟨o1, o2, o3⟩ := h2.off nx hn
     have hbig : nx.big = true := by rw [hr2.big, hk]; rfl
     obtain ⟨G, hg1, hg2⟩ := h2.gmap
     have kk : ∀ k, k < w2.heap.size → k ∉ nx.foot → w'.heap[k]? = w2.heap[k]? := fun k hk' hf => a3.block k hk' (by simp; exact ⟨fun e => hf (e ▸ Nd.b_mem hbig), fun e => hf (e ▸ Nd.m_mem hbig)⟩)
     refine ⟨(kk f l1 o1).trans h2.head, h2.imap.of_block (kk mi l2 o2), ⟨G, hg1.of_block (kk mg l3 o3), hg2⟩, fun n' hn' => ?_, h2.all, h2.sep, h2.off, h2.mm⟩
     by_cases e : n' = nx
     ·subst e
      exact ⟨_, m1, ⟨hr2.id, hh, hr2.big, fun _ => ⟨sz, bl, a2, g2⟩, fun q => absurd (hk.symm.trans q) (by decide)⟩⟩
     ·obtain ⟨y, hy, hry⟩ := h2.node n' hn'
      exact ⟨y, hy, hry.keep (fun k hkf => kk k (l4 n' hn' k hkf) (fun e2 => h2.apart hn' hn e k hkf e2)) rfl (fun _ => rfl)⟩
    ·simp at hk'
     have hbig : nx.big = true := by rw [hr2.big, hk]; rfl
     rcases hk' with rfl | rfl
     ·exact fp_node hn (Nd.b_mem hbig)
     ·exact fp_node hn (Nd.m_mem hbig)
   ·have := file_fs (h1.below hW hb) hW m1 hk hn hr2 a3 a2 (same_cut g2 n) hw5
    obtain ⟨N', x1, x2, x3⟩ := this
    exact ⟨N', x1, fun k hk => by rcases x2 k hk with a | a; exact .inl a; exact .inr (Nat.le_trans hbw.size a), (Frm.of_below hbw).trans x3⟩)
  generalize (byIdP r.ins i).time = tm0 at *
  rcases hcs with q | ⟨q, qc, q2 | q2⟩
  ·rw [show fcutP r (i, g) n t = (r, 1) by unfold fcutP; rw [if_neg hne, if_pos (by rcases q with q | q; exact .inl q; exact .inr q.2)]]
   clear hw1 hB hb0 h h1 hW he hl hk m1 m2 m3 hn hr hne HCt
   rcases q with q | ⟨q, qc⟩
   ·go_enter Tryz.func43, Tryz.ntmps43
    go_wp2_with fail
    rw [HW1.out]
    go_wp2_with (go_at_call 69; (with_reducible refine HSh.out.mono ?_); rintro e w3 ⟨rfl, hB3⟩; replace hB3 := Lib.hid hB3)
    go_ret
    exact ⟨rfl, HSt.out _ (HB.out.trans (hB3.out.mono (by omega)))⟩
   ·rw [qc] at HC
    go_enter Tryz.func43, Tryz.ntmps43
    go_wp2_with fail
    rw [HW1.out]
    go_wp2_with (first
     | (go_at_call 69; (with_reducible refine HSh.out.mono ?_); rintro e w3 ⟨rfl, hB3⟩; replace hB3 := Lib.hid hB3)
     | (go_at_call 74; (with_reducible refine (HC.out _).mono ?_); rintro e w4 ⟨rfl, rfl⟩))
    go_ret
    exact ⟨rfl, HSt.out _ (HB.out.trans (hB3.out.mono (by omega)))⟩
  ·rw [show fcutP r (i, g) n t = (r, 177) by unfold fcutP; rw [if_neg hne, if_neg (by rw [qc]; simp; omega), if_pos q2]]
   rw [qc] at HC
   rw [q2] at HCt
   clear hw1 hB hb0 h h1 hW he hl hk m1 m2 m3 hn hr hne qc q2
   go_enter Tryz.func43, Tryz.ntmps43
   go_wp2_with fail
   rw [HW1.out]
   go_wp2_with (first
    | (go_at_call 69; (with_reducible refine HSh.out.mono ?_); rintro e w3 ⟨rfl, hB3⟩; replace hB3 := Lib.hid hB3)
    | (go_at_call 74; (with_reducible refine (HC.out _).mono ?_); rintro e w4 ⟨rfl, rfl⟩)
    | (go_at_call 77; (with_reducible refine (HCt.out w3 hB3.out).mono ?_); rintro e w4 ⟨rfl, hS4, -, -, -⟩; replace hS4 := Lib.hid (show StepR w w4 f mi mg N r by first | exact hS4 trivial | exact hS4 rfl)))
   go_ret
   exact ⟨rfl, hS4.out⟩
  ·rw [show fcutP r (i, g) n t = (setP r (fileP (byIdP r.ins i) (rcB (byIdP r.ins i).B n) (rcOn (byIdP r.ins i).B (byIdP r.ins i).On n) t), 0) by unfold fcutP; rw [if_neg hne, if_neg (by rw [qc]; simp; omega), if_neg (by rw [q2]; simp)]]
   rw [qc] at HC
   rw [q2] at HCt
   clear hw1 hB hb0 h h1 hW he hl hk m1 m2 m3 hn hr hne qc q2
   go_enter Tryz.func43, Tryz.ntmps43
   go_wp2_with fail
   rw [HW1.out]
   go_wp2_with (first
    | (go_at_call 69; (with_reducible refine HSh.out.mono ?_); rintro e w3 ⟨rfl, hB3⟩; replace hB3 := Lib.hid hB3)
    | (go_at_call 74; (with_reducible refine (HC.out _).mono ?_); rintro e w4 ⟨rfl, rfl⟩)
    | (go_at_call 77; (with_reducible refine (HCt.out w3 hB3.out).mono ?_); rintro e w4 ⟨rfl, -, d1, d2, hS4⟩; replace hS4 := Lib.hid hS4))
   go_ret
   exact ⟨rfl, hS4.out _ rfl⟩
 ·have HSh := Lib.hid (sheet_no h1 hW i g he)
  have hne : (sheetE r (i, g) != 0) = true := by rw [bne_iff_ne]; exact he
  rw [show fcutP r (i, g) n t = (r, sheetE r (i, g)) by unfold fcutP; rw [if_pos he]]
  generalize sheetE r (i, g) = se at *
  clear hw1 hB hb0 h h1 hW he
  go_enter Tryz.func43, Tryz.ntmps43
  go_wp2_with fail
  rw [HW1.out]
  go_wp2_with (go_at_call 69; (with_reducible refine HSh.out.mono ?_); rintro e w3 ⟨rfl, hB3⟩; replace hB3 := Lib.hid hB3)
  go_ret
  exact ⟨rfl, HSt.out _ (HB.out.trans (hB3.out.mono (by omega)))⟩
end Go.Proofs.YtpcjmefchclhhaaGreat

/- A part of the proof. -/
import Derived.Test.YtpcjmefchclhhaaGreatZFsD
import Derived.StillTailTactics
import Derived.Deep.RegionHeld3
namespace Go.Proofs.YtpcjmefchclhhaaGreat
open Go.RowKit Go.MapKept
theorem box1 (w : World) (cs : Array Value) (t : TypeId) : ∃ w1, w.alloc (.cells cs t) = w1 ∧ Below w.heap.size w w1 ∧ w.heap.size + 1 ≤ w1.heap.size ∧ w1.heap[w.heap.size]? = some (.cells cs t (0, 0)) :=
 ⟨_, rfl, (Below.refl _ _).alloc (Nat.le_refl _) _, by simp, heap_alloc_new _ _⟩
theorem box2 (w : World) (cs cs' : Array Value) (t t' : TypeId) : ∃ w2, (w.alloc (.cells cs t)).alloc (.cells cs' t') = w2 ∧ Below w.heap.size w w2 ∧ w.heap.size + 2 ≤ w2.heap.size ∧ w2.heap[w.heap.size]? = some (.cells cs t (0, 0)) ∧ w2.heap[w.heap.size + 1]? = some (.cells cs' t' (0, 0)) := by
 refine ⟨_, rfl, ((Below.refl _ _).alloc (Nat.le_refl _) _).alloc (by simp) _, by simp, (Below.heap_alloc _ _ _ (by simp)).trans (heap_alloc_new _ _), ?_⟩
 have := heap_alloc_new (w.alloc (.cells cs t)) (.cells cs' t')
 simpa using this
theorem box3 (w : World) (cs cs' cs'' : Array Value) (t t' t'' : TypeId) : ∃ w2, ((w.alloc (.cells cs t)).alloc (.cells cs' t')).alloc (.cells cs'' t'') = w2 ∧ Below w.heap.size w w2 ∧ w.heap.size + 3 ≤ w2.heap.size ∧ w2.heap[w.heap.size]? = some (.cells cs t (0, 0)) ∧ w2.heap[w.heap.size + 1]? = some (.cells cs' t' (0, 0)) ∧ w2.heap[w.heap.size + 2]? = some (.cells cs'' t'' (0, 0)) := by
 obtain ⟨w2, e, h1, h2, h3, h4⟩ := box2 w cs cs' t t'
 have hs : w2.heap.size = w.heap.size + 2 := by rw [← e]; simp
 rw [e]
 refine ⟨_, rfl, h1.alloc (by omega) _, by simp [hs], (Below.heap_alloc _ _ _ (by omega)).trans h3, (Below.heap_alloc _ _ _ (by omega)).trans h4, ?_⟩
 have := heap_alloc_new w2 (.cells cs'' t'')
 rw [hs] at this
 exact this
def lookP (r : RFs) (h : Int × Int) (s : ByteArray) : (Int × Int) × Int :=
 if placeE r h s true ≠ 0 then ((0, 0), placeE r h s true) else if s = dotS then (h, 0)
 else if s = dot2S then (((byIdP r.ins h.1).parent, (byIdP r.ins (byIdP r.ins h.1).parent).gen), 0)
 else if entryP r.nms h.1 s = 0 then ((0, 0), 170) else ((entryP r.nms h.1 s, (byIdP r.ins (entryP r.nms h.1 s)).gen), 0)
def hndV (p : (Int × Int) × Int) : Value := .tuple #[.agg #[.int .i64 p.1.1, .int .i64 p.1.2], .int .i64 p.2]
theorem placeE_folder {r : RFs} {h : Int × Int} {s : ByteArray} {free : Bool} (hp : placeE r h s free = 0) : folderE r h = 0 := by
 unfold placeE at hp
 split at hp
 ·rename_i h1; exact absurd hp h1
 ·rename_i h1; simpa using h1
set_option maxRecDepth 100000 in
set_option maxHeartbeats 4000000 in
theorem look_any {w : World} {f mi mg K : Nat} {r : RFs} {N : List Nd} (h : FsN w f mi mg r N) (hW : Wf r K) (i g : Int) (s : ByteArray) (hs : s.size ≤ maxLen) :
  Calls Tryz.prog 13 #[.pointer (some ⟨f, 0, none⟩), .agg #[.int .i64 i, .int .i64 g], .string s] w
   fun e w' => e = .returned (hndV (lookP r (i, g) s)) ∧ Below w.heap.size w w' := by
 obtain ⟨w2, hw2, hB, hs2, hb0, hb1⟩ := box2 w #[.int .i64 i, .int .i64 g] #[.int .i64 0, .int .i64 0] 37 37
 have t0 : w2.cell? ⟨w.heap.size, 0, none⟩ = some (.int .i64 i) := by rw [cell_at hb0]; rfl
 have t1 : w2.cell? ⟨w.heap.size, 1, none⟩ = some (.int .i64 g) := by rw [cell_at hb0]; rfl
 have h2 := h.below hW hB
 have HW2 := Lib.hid hw2
 have HB := Lib.hid hB
 have HB1 := Lib.hid hb1
 have HB0 := Lib.hid hb0
 by_cases hp : placeE r (i, g) s true = 0
 ·have hf := placeE_folder hp
  obtain ⟨hl, hk2⟩ := folder_live hf
  obtain ⟨m1, m2, m3⟩ := live_mem hl
  obtain ⟨n, hn, hr⟩ := h2.at_ hW m1
  have hni : n.id = i := hr.id.trans m2
  have hpl := place_dir h2 hW i g s hs true hf hn hni
  rw [hp] at hpl
  have HP := Lib.hid hpl
  by_cases q1 : s = dotS
  ·rw [show lookP r (i, g) s = ((i, g), 0) by unfold lookP; rw [if_neg (by simp [hp]), if_pos q1]]
   unfold hndV
   subst q1
   unfold dotS at *
   clear hw2 hB hb0 hb1 h h2 hW hp hf hl hk2 m1 m2 m3 hn hr hni hpl
   go_enter Tryz.func13, Tryz.ntmps13
   go_wp2_with fail
   rw [HW2.out]
   have HPv := Lib.hid (agg2_one i g)
   go_wp2_with (first
    | (go_at_call 25; (with_reducible refine HP.out.mono ?_); rintro e w3 ⟨rfl, hB3⟩; have hX3 := (hB3.block _ (by omega)).trans HB1.out; have hs3 := hB3.size; have hc := (hB3.block _ (by omega)).trans HB0.out; have x0 : ∀ o, (w3.alloc o).cell? ⟨w.heap.size, 0, none⟩ = _ := fun o => (World.cell?_alloc_lt w3 o _ (by simp; omega)).trans (cell_at hc 0); have x1 : ∀ o, (w3.alloc o).cell? ⟨w.heap.size, 1, none⟩ = _ := fun o => (World.cell?_alloc_lt w3 o _ (by simp; omega)).trans (cell_at hc 1); clear hc; replace hB3 := Lib.hid hB3; replace hX3 := Lib.hid hX3)
    | (refine wpList_store_row rfl 37 (.tmp 6) (.tmp 26) rfl _ (w.heap.size + 1) _ _ _ rfl rfl ((Below.heap_alloc _ _ _ (by omega)).trans hX3.out) rfl hndI HPv.out ?_; intro w5 hX5 hG5))
   have hb5 := Below.grownBy ((HB.out.trans (hB3.out.mono (by omega))).alloc (by omega) _) hG5 (by simp; omega) (fun k hk => by injection hk with hk; omega)
   exact end_cell_tmp (p := 6) (u := 7) rfl rfl hX5 hndT rfl hndI rfl rfl ⟨rfl, hb5⟩
  ·by_cases q2 : s = dot2S
   ·rw [show lookP r (i, g) s = (((byIdP r.ins i).parent, (byIdP r.ins (byIdP r.ins i).parent).gen), 0) by unfold lookP; rw [if_neg (by simp [hp]), if_neg q1, if_pos q2]]
    unfold hndV
    subst q2
    unfold dot2S at *
    obtain ⟨p, hpm, hpi, hpk⟩ := hW.par _ m1 hk2
    have hpb : byIdP r.ins (byIdP r.ins i).parent = p := by rw [← hpi]; exact hW.byId hpm
    have HF := Lib.hid h2
    generalize hx : byIdP r.ins i = x at *
    rw [hpb]
    obtain ⟨np, hnp, hrp0⟩ := h2.at_ hW hpm
    have HF4 := Lib.hid (show ∀ w4, Below w2.heap.size w2 w4 → w4.cell? ⟨f, 1, none⟩ = some (.map (some mi)) ∧ w4.cell? ⟨n.b, 1, none⟩ = some (.int .i64 x.parent) ∧ w4.cell? ⟨np.blk, 0, none⟩ = some (.int .i64 x.parent) ∧ w4.cell? ⟨np.blk, 1, none⟩ = some (.int .i64 p.gen) ∧
      (Instr.lookup 63 (.map (some mi)) (.int .i64 x.parent) false).run Tryz.prog w4 = .ok (.pointer (some ⟨np.blk, 0, none⟩)) w4 from fun w4 hb => by
     have h4 := h2.below hW hb
     have hrp := hrp0.below (hW.kind _ hpm) hb
     have hr4 := hr.below (hW.kind _ m1) hb
     obtain ⟨_, c1, _⟩ := h4.cells
     obtain ⟨d0, d1, _⟩ := hrp.cells
     have hlk := (h4.look x.parent).2
     have hg := h4.get hnp
     rw [hrp.id, hpi] at hg
     rw [hg] at hlk
     rw [hpi] at d0
     exact ⟨c1, by rw [cell_at (hr4.dir hk2).1]; rfl, d0, d1, hlk⟩)
    generalize p.gen = pg at *
    clear hw2 hB hb0 hb1 h h2 hW hp hf hl hk2 m1 m2 m3 hn hr hni hpl hpm hpi hpk hpb hx HF hnp hrp0
    generalize x.parent = pp at *
    go_enter Tryz.func13, Tryz.ntmps13
    go_wp2_with fail
    rw [HW2.out]
    have HPv := Lib.hid (agg2_one pp pg)
    go_upto_region 8 with (first
     | (go_at_call 25; (with_reducible refine HP.out.mono ?_); rintro e w3 ⟨rfl, hB3⟩; have hX3 := (hB3.block _ (by omega)).trans HB1.out; have hs3 := hB3.size; replace hB3 := Lib.hid hB3; replace hX3 := Lib.hid hX3))
    obtain ⟨w4, hw4, hB4, hs4, hb4⟩ := box1 w3 #[.pointer (some ⟨n.blk, 0, none⟩), .pointer (some ⟨n.b, 0, none⟩), .string ⟨#[46, 46]⟩] 85
    rw [hw4]
    obtain ⟨c1, c2, c3, c4, -⟩ := HF4.out w4 (hB3.out.trans (hB4.mono (by omega)))
    have c5 : (Instr.lookup 63 (.map (some mi)) (.int .i64 pp) false).run Tryz.prog w4.drew = .ok (.pointer (some ⟨np.blk, 0, none⟩)) w4.drew := (HF4.out w4.drew (hB3.out.trans (hB4.mono (by omega))).drew).2.2.2.2
    have c6 : w4.cell? ⟨w3.heap.size, 1, none⟩ = some (.pointer (some ⟨n.b, 0, none⟩)) := by rw [cell_at hb4]; rfl
    have HX4 := Lib.hid ((hB4.block _ (by omega)).trans hX3.out)
    have HB4 := Lib.hid hB4
    clear hw4 hb4 hB4
    go_still_tail 13, (by kernel_rfl)
    change wpList _ _ _ _ _ w4.drew
    go_wp2_with (refine wpList_store_row rfl 37 (.tmp 6) (.tmp 41) rfl w4.drew (w.heap.size + 1) _ _ _ rfl rfl HX4.out rfl hndI HPv.out ?_; intro w5 hX5 hG5)
    have hb5 := Below.grownBy (HB.out.trans ((hB3.out.trans (HB4.out.mono (by omega))).mono (by omega))).drew hG5 (show w.heap.size ≤ w4.heap.size by omega) (fun k hk => by injection hk with hk; omega)
    exact end_cell_tmp (p := 6) (u := 7) rfl rfl hX5 hndT rfl hndI rfl rfl ⟨rfl, hb5⟩
   ·have q5 : (s.toList == [46]) = false := by rw [beq_eq_false_iff_ne]; exact fun e => q1 (of_toList e)
    have q6 : (s.toList == [46, 46]) = false := by rw [beq_eq_false_iff_ne]; exact fun e => q2 (of_toList e)
    have q7 : ¬ s.toList = [46] := fun e => q1 (of_toList e)
    have q8 : ¬ s.toList = [46, 46] := fun e => q2 (of_toList e)
    have HAt := Lib.hid (show ∀ w4, Below w2.heap.size w2 w4 → Calls Tryz.prog 26 #[.agg #[.pointer (some ⟨n.blk, 0, none⟩), .pointer (some ⟨n.b, 0, none⟩), .string s]] w4 fun e w' => e = .returned (.tuple #[.int .i64 (entryP r.nms i s), .bool (decide (entryP r.nms i s ≠ 0))]) ∧ Below w4.heap.size w4 w' from fun w4 hb => by
     have hr4 := hr.below (hW.kind _ m1) hb
     have := at_any hr4 hk2 (hr4.lt (hW.kind _ m1)) s (some ⟨n.blk, 0, none⟩)
     rw [m2, hW.entry_some] at this
     exact this)
    by_cases he : entryP r.nms i s = 0
    ·rw [show lookP r (i, g) s = ((0, 0), 170) by unfold lookP; rw [if_neg (by simp [hp]), if_neg q1, if_neg q2, if_pos he]]
     unfold hndV
     rw [he] at HAt
     simp only [ne_eq, not_true_eq_false, decide_false] at HAt
     clear hw2 hB hb0 hb1 h h2 hW hp hf hl hk2 m1 m2 m3 hn hr hni hpl q1 q2 he
     go_enter Tryz.func13, Tryz.ntmps13
     go_wp2_with fail
     rw [HW2.out]
     have HPv := Lib.hid (agg2_one 0 0)
     go_upto_region 9 with (first
      | (go_at_call 25; (with_reducible refine HP.out.mono ?_); rintro e w3 ⟨rfl, hB3⟩; have hX3 := (hB3.block _ (by omega)).trans HB1.out; have hs3 := hB3.size; replace hB3 := Lib.hid hB3; replace hX3 := Lib.hid hX3))
     obtain ⟨w4, hw4, hB4, hs4, hb4⟩ := box1 w3 #[.pointer (some ⟨n.blk, 0, none⟩), .pointer (some ⟨n.b, 0, none⟩), .string s] 85
     rw [hw4]
     have c5 : w4.cell? ⟨w3.heap.size, 0, none⟩ = some (.pointer (some ⟨n.blk, 0, none⟩)) := by rw [cell_at hb4]; rfl
     have c6 : w4.cell? ⟨w3.heap.size, 1, none⟩ = some (.pointer (some ⟨n.b, 0, none⟩)) := by rw [cell_at hb4]; rfl
     have c7 : w4.cell? ⟨w3.heap.size, 2, none⟩ = some (.string s) := by rw [cell_at hb4]; rfl
     have HX4 := Lib.hid ((hB4.block _ (by omega)).trans hX3.out)
     have HB4 := Lib.hid (hB3.out.trans (hB4.mono (by omega)))
     clear hw4 hb4 hB4
     go_wp2_with (first
      | (go_at_call 26; (with_reducible refine (HAt.out _ HB4.out).mono ?_); rintro e w5 ⟨rfl, hB5⟩; have hX5 := (hB5.block _ (by omega)).trans HX4.out; have hs5 := hB5.size; replace hB5 := Lib.hid hB5; replace hX5 := Lib.hid hX5)
      | (refine wpList_store_row rfl 37 (.tmp 6) (.tmp 49) rfl w5 (w.heap.size + 1) _ _ _ rfl rfl hX5.out rfl hndI HPv.out ?_; intro w6 hX6 hG6))
     have hb6 := Below.grownBy ((HB.out.trans (HB4.out.mono (by omega))).trans (hB5.out.mono (by omega))) hG6 (by omega) (fun k hk => by injection hk with hk; omega)
     exact end_cell_tmp (p := 6) (u := 7) rfl rfl hX6 hndT rfl hndI rfl rfl ⟨rfl, hb6⟩
    ·rw [show lookP r (i, g) s = ((entryP r.nms i s, (byIdP r.ins (entryP r.nms i s)).gen), 0) by unfold lookP; rw [if_neg (by simp [hp]), if_neg q1, if_neg q2, if_neg he]]
     unfold hndV
     obtain ⟨nm, hnm, _, _, e3⟩ := entry_mem he
     obtain ⟨_, p, hpm, hpi⟩ := hW.nmI nm hnm
     rw [e3] at hpi
     have hpb : byIdP r.ins (entryP r.nms i s) = p := by rw [← hpi]; exact hW.byId hpm
     obtain ⟨np, hnp, hrp0⟩ := h2.at_ hW hpm
     rw [hpb]
     have HF5 := Lib.hid (show ∀ w4, Below w2.heap.size w2 w4 → w4.cell? ⟨f, 1, none⟩ = some (.map (some mi)) ∧ w4.cell? ⟨np.blk, 0, none⟩ = some (.int .i64 (entryP r.nms i s)) ∧ w4.cell? ⟨np.blk, 1, none⟩ = some (.int .i64 p.gen) ∧
       (Instr.lookup 63 (.map (some mi)) (.int .i64 (entryP r.nms i s)) false).run Tryz.prog w4 = .ok (.pointer (some ⟨np.blk, 0, none⟩)) w4 from fun w4 hb => by
      have h4 := h2.below hW hb
      have hrp := hrp0.below (hW.kind _ hpm) hb
      obtain ⟨_, c1, _⟩ := h4.cells
      obtain ⟨d0, d1, _⟩ := hrp.cells
      have hlk := (h4.look (entryP r.nms i s)).2
      have hg := h4.get hnp
      rw [hrp.id, hpi] at hg
      rw [hg] at hlk
      rw [hpi] at d0
      exact ⟨c1, d0, d1, hlk⟩)
     simp only [ne_eq, he, not_false_eq_true, decide_true] at HAt
     generalize entryP r.nms i s = ent at *
     generalize p.gen = pg at *
     clear hw2 hB hb0 hb1 h h2 hW hp hf hl hk2 m1 m2 m3 hn hr hni hpl q1 q2 he hpm hpi hpb hnp hrp0 e3 hnm
     go_enter Tryz.func13, Tryz.ntmps13
     go_wp2_with fail
     rw [HW2.out]
     have HPv := Lib.hid (agg2_one ent pg)
     go_upto_region 9 with (first
      | (go_at_call 25; (with_reducible refine HP.out.mono ?_); rintro e w3 ⟨rfl, hB3⟩; have hX3 := (hB3.block _ (by omega)).trans HB1.out; have hs3 := hB3.size; replace hB3 := Lib.hid hB3; replace hX3 := Lib.hid hX3))
     obtain ⟨w4, hw4, hB4, hs4, hb4⟩ := box1 w3 #[.pointer (some ⟨n.blk, 0, none⟩), .pointer (some ⟨n.b, 0, none⟩), .string s] 85
     rw [hw4]
     have c5 : w4.cell? ⟨w3.heap.size, 0, none⟩ = some (.pointer (some ⟨n.blk, 0, none⟩)) := by rw [cell_at hb4]; rfl
     have c6 : w4.cell? ⟨w3.heap.size, 1, none⟩ = some (.pointer (some ⟨n.b, 0, none⟩)) := by rw [cell_at hb4]; rfl
     have c7 : w4.cell? ⟨w3.heap.size, 2, none⟩ = some (.string s) := by rw [cell_at hb4]; rfl
     have HX4 := Lib.hid ((hB4.block _ (by omega)).trans hX3.out)
     have HB4 := Lib.hid (hB3.out.trans (hB4.mono (by omega)))
     clear hw4 hb4 hB4
     go_wp2_with (first
      | (go_at_call 26; (with_reducible refine (HAt.out _ HB4.out).mono ?_); rintro e w5 ⟨rfl, hB5⟩; have hX5 := (hB5.block _ (by omega)).trans HX4.out; have hs5 := hB5.size; obtain ⟨d1, d2, d3, d4⟩ := HF5.out w5 (HB4.out.trans (hB5.mono (by omega))); replace hB5 := Lib.hid hB5; replace hX5 := Lib.hid hX5)
      | (refine wpList_store_row rfl 37 (.tmp 6) (.tmp 58) rfl w5 (w.heap.size + 1) _ _ _ rfl rfl hX5.out rfl hndI HPv.out ?_; intro w6 hX6 hG6))
     have hb6 := Below.grownBy ((HB.out.trans (HB4.out.mono (by omega))).trans (hB5.out.mono (by omega))) hG6 (by omega) (fun k hk => by injection hk with hk; omega)
     exact end_cell_tmp (p := 6) (u := 7) rfl rfl hX6 hndT rfl hndI rfl rfl ⟨rfl, hb6⟩
 ·rw [show lookP r (i, g) s = ((0, 0), placeE r (i, g) s true) by unfold lookP; rw [if_pos hp]]
  unfold hndV
  obtain ⟨pa, pb, pc, hpl⟩ := place_no h2 hW i g s hs true hp
  have HP := Lib.hid hpl
  have hne : (placeE r (i, g) s true != 0) = true := by rw [bne_iff_ne]; exact hp
  generalize placeE r (i, g) s true = pe at *
  clear hw2 hB hb0 hb1 h h2 hW hp hpl
  go_enter Tryz.func13, Tryz.ntmps13
  go_wp2_with fail
  rw [HW2.out]
  have HPv := Lib.hid (agg2_one 0 0)
  go_wp2_with (first
   | (go_at_call 25; (with_reducible refine HP.out.mono ?_); rintro e w3 ⟨rfl, hB3⟩; have hX3 := (hB3.block _ (by omega)).trans HB1.out; have hs3 := hB3.size; replace hB3 := Lib.hid hB3; replace hX3 := Lib.hid hX3)
   | (refine wpList_store_row rfl 37 (.tmp 6) (.tmp 21) rfl _ (w.heap.size + 1) _ _ _ rfl rfl ((Below.heap_alloc _ _ _ (by omega)).trans hX3.out) rfl hndI HPv.out ?_; intro w5 hX5 hG5))
  have hb5 := Below.grownBy ((HB.out.trans (hB3.out.mono (by omega))).alloc (by omega) _) hG5 (by simp; omega) (fun k hk => by injection hk with hk; omega)
  exact end_cell_tmp (p := 6) (u := 7) rfl rfl hX5 hndT rfl hndI rfl rfl ⟨rfl, hb5⟩
end Go.Proofs.YtpcjmefchclhhaaGreat

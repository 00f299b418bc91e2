/- A part of the proof. -/
import Derived.Test.YtpcjmefchclhhaaGreatZFsH
namespace Go.Proofs.YtpcjmefchclhhaaGreat
open Go.RowKit Go.MapKept
def StepR (w w' : World) (f mi mg : Nat) (N : List Nd) (r' : RFs) : Prop :=
 ∃ N', FsN w' f mi mg r' N' ∧ (∀ k ∈ fpL f mi mg N', k ∈ fpL f mi mg N ∨ w.heap.size ≤ k) ∧ Frm (fpL f mi mg N) w w'
theorem stepR_below {w w' : World} {f mi mg K : Nat} {N : List Nd} {r : RFs} (h : FsN w f mi mg r N) (hW : Wf r K) (hb : Below w.heap.size w w') : StepR w w' f mi mg N r :=
 ⟨N, h.below hW hb, fun _ hk => .inl hk, Frm.of_below hb⟩
theorem fp_sub {f mi mg : Nat} {N N' : List Nd} (h : ∀ n ∈ N', n ∈ N) : ∀ k ∈ fpL f mi mg N', k ∈ fpL f mi mg N := by
 intro k hk
 unfold fpL at hk ⊢
 simp only [List.mem_cons, List.mem_flatMap] at hk ⊢
 rcases hk with h1 | h1 | h1 | ⟨n, hn, h1⟩
 ·exact .inl h1
 ·exact .inr (.inl h1)
 ·exact .inr (.inr (.inl h1))
 ·exact .inr (.inr (.inr ⟨n, h n hn, h1⟩))
def removeP (r : RFs) (h : Int × Int) (s : ByteArray) (fo : Bool) : RFs × Int :=
 if placeE r h s false ≠ 0 then (r, placeE r h s false) else if entryP r.nms h.1 s = 0 then (r, 170)
 else if mayP r (byIdP r.ins (entryP r.nms h.1 s)) fo ≠ 0 then (r, mayP r (byIdP r.ins (entryP r.nms h.1 s)) fo) else (dropP r h.1 s, 0)
set_option maxRecDepth 100000 in
set_option maxHeartbeats 4000000 in
theorem remove_any {w : World} {f mi mg K : Nat} {r : RFs} {N : List Nd} (h : FsN w f mi mg r N) (hW : Wf r K) (i g : Int) (s : ByteArray) (hs : s.size ≤ maxLen) (fo : Bool) :
  Calls Tryz.prog 23 #[.pointer (some ⟨f, 0, none⟩), .agg #[.int .i64 i, .int .i64 g], .string s, .bool fo] w
   fun e w' => e = .returned (.int .i64 (removeP r (i, g) s fo).2) ∧ StepR w w' f mi mg N (removeP r (i, g) s fo).1 := by
 obtain ⟨w1, hw1, hB, hs1, hb0⟩ := box1 w #[.int .i64 i, .int .i64 g] 37
 have t0 : w1.cell? ⟨w.heap.size, 0, none⟩ = some (.int .i64 i) := by rw [cell_at hb0]; rfl
 have t1 : w1.cell? ⟨w.heap.size, 1, none⟩ = some (.int .i64 g) := by rw [cell_at hb0]; rfl
 have h1 := h.below hW hB
 have HW1 := Lib.hid hw1
 have HB := Lib.hid hB
 have HSt := Lib.hid (show ∀ w', Below w.heap.size w w' → StepR w w' f mi mg N r from fun w' hb => stepR_below h hW hb)
 by_cases hp : placeE r (i, g) s false = 0
 ·have hf := placeE_folder hp
  obtain ⟨hl, hk2⟩ := folder_live hf
  obtain ⟨m1, m2, m3⟩ := live_mem hl
  obtain ⟨n, hn, hr⟩ := h1.at_ hW m1
  have hni : n.id = i := hr.id.trans m2
  have hpl := place_dir h1 hW i g s hs false hf hn hni
  rw [hp] at hpl
  have HP := Lib.hid hpl
  have HAt := Lib.hid (show ∀ w4, Below w1.heap.size w1 w4 → Calls Tryz.prog 26 #[.agg #[.pointer (some ⟨n.blk, 0, none⟩), .pointer (some ⟨n.b, 0, none⟩), .string s]] w4 fun e w' => e = .returned (.tuple #[.int .i64 (entryP r.nms i s), .bool (decide (entryP r.nms i s ≠ 0))]) ∧ Below w4.heap.size w4 w' from fun w4 hb => by
   have hr4 := hr.below (hW.kind _ m1) hb
   have := at_any hr4 hk2 (hr4.lt (hW.kind _ m1)) s (some ⟨n.blk, 0, none⟩)
   rw [m2, hW.entry_some] at this
   exact this)
  by_cases he : entryP r.nms i s = 0
  ·rw [show removeP r (i, g) s fo = (r, 170) by unfold removeP; rw [if_neg (by simp [hp]), if_pos he]]
   rw [he] at HAt
   simp only [ne_eq, not_true_eq_false, decide_false] at HAt
   clear hw1 hB hb0 h h1 hW hp hf hl hk2 m1 m2 m3 hn hr hni hpl he
   go_enter Tryz.func23, Tryz.ntmps23
   go_wp2_with fail
   rw [HW1.out]
   go_upto_region 4 with (go_at_call 25; (with_reducible refine HP.out.mono ?_); rintro e w3 ⟨rfl, hB3⟩; have hs3 := hB3.size; replace hB3 := Lib.hid hB3)
   obtain ⟨w4, hw4, hB4, hs4, hb4⟩ := box1 w3 #[.pointer (some ⟨n.blk, 0, none⟩), .pointer (some ⟨n.b, 0, none⟩), .string s] 85
   rw [hw4]
   have c5 : w4.cell? ⟨w3.heap.size, 0, none⟩ = some (.pointer (some ⟨n.blk, 0, none⟩)) := by rw [cell_at hb4]; rfl
   have c6 : w4.cell? ⟨w3.heap.size, 1, none⟩ = some (.pointer (some ⟨n.b, 0, none⟩)) := by rw [cell_at hb4]; rfl
   have c7 : w4.cell? ⟨w3.heap.size, 2, none⟩ = some (.string s) := by rw [cell_at hb4]; rfl
   have HB4 := Lib.hid (hB3.out.trans (hB4.mono (by omega)))
   clear hw4 hb4 hB4
   go_wp2_with (go_at_call 26; (with_reducible refine (HAt.out _ HB4.out).mono ?_); rintro e w5 ⟨rfl, hB5⟩; replace hB5 := Lib.hid hB5)
   go_ret
   exact ⟨rfl, HSt.out _ ((HB.out.trans (HB4.out.mono (by omega))).trans (hB5.out.mono (by omega)))⟩
  ·obtain ⟨nm, hnm, e1, e2, e3⟩ := entry_mem he
   obtain ⟨_, x, hx, ex⟩ := hW.nmI nm hnm
   obtain ⟨nx, hnx, hrx⟩ := h1.at_ hW hx
   have hid : entryP r.nms i s = x.id := by rw [← e3, ← ex]
   have hbx : byIdP r.ins x.id = x := hW.byId hx
   have hxk := hW.kind x hx
   have HG := Lib.hid (show ∀ w2, Below w1.heap.size w1 w2 → w2.cell? ⟨f, 1, none⟩ = some (.map (some mi)) ∧ (Instr.lookup 63 (.map (some mi)) (.int .i64 x.id) false).run Tryz.prog w2 = .ok (.pointer (some ⟨nx.blk, 0, none⟩)) w2 from fun w2 hb => by
    have h2 := h1.below hW hb
    have hlk := (h2.look x.id).2
    have hg := h2.get hnx
    rw [hrx.id] at hg
    rw [hg] at hlk
    exact ⟨h2.cells.2.1, hlk⟩)
   have HMy := Lib.hid (show ∀ w2, Below w1.heap.size w1 w2 → Calls Tryz.prog 46 #[.pointer (some ⟨f, 0, none⟩), .pointer (some ⟨nx.blk, 0, none⟩), .bool fo] w2 fun e w' => e = .returned (.int .i64 (mayP r x fo)) ∧ w2 = w' from fun w2 hb => may_any (hrx.below hxk hb) fo (some ⟨f, 0, none⟩))
   have he' : decide (x.id ≠ 0) = true := decide_eq_true (by rw [← hid]; exact he)
   by_cases hm : mayP r x fo = 0
   ·have HD := Lib.hid (show ∀ w2, Below w1.heap.size w1 w2 → Calls Tryz.prog 47 #[.pointer (some ⟨f, 0, none⟩), .agg #[.pointer (some ⟨n.blk, 0, none⟩), .pointer (some ⟨n.b, 0, none⟩), .string s]] w2 fun e w' => e = .returned (.tuple #[]) ∧ StepR w w' f mi mg N (dropP r i s) from fun w2 hb => by
     have := drop_any (h1.below hW hb) hW m1 hk2 hn (hr.below (hW.kind _ m1) hb) s (by rw [m2]; exact he)
     rw [m2] at this
     refine this.mono fun e w' ⟨h1, ⟨N', h2, h3⟩, h4⟩ => ⟨h1, N', h2, fun k hk => .inl (fp_sub h3 k hk), ?_⟩
     exact (Frm.of_below (hB.trans (hb.mono hB.size))).trans h4)
    rw [show removeP r (i, g) s fo = (dropP r i s, 0) by unfold removeP; rw [if_neg (by simp [hp]), if_neg he, if_neg (by rw [hid, hbx, hm]; simp)]]
    rw [hid] at HAt
    rw [he'] at HAt
    rw [hm] at HMy
    clear hw1 hB hb0 h h1 hW hp hf hl hk2 m1 m2 m3 hn hr hni hpl he e1 e2 e3 hx ex hnx hrx hid hbx hxk he' hm hnm
    go_enter Tryz.func23, Tryz.ntmps23
    go_wp2_with fail
    rw [HW1.out]
    go_upto_region 4 with (go_at_call 25; (with_reducible refine HP.out.mono ?_); rintro e w3 ⟨rfl, hB3⟩; have hs3 := hB3.size; replace hB3 := Lib.hid hB3)
    obtain ⟨w4, hw4, hB4, hs4, hb4⟩ := box1 w3 #[.pointer (some ⟨n.blk, 0, none⟩), .pointer (some ⟨n.b, 0, none⟩), .string s] 85
    rw [hw4]
    have c5 : w4.cell? ⟨w3.heap.size, 0, none⟩ = some (.pointer (some ⟨n.blk, 0, none⟩)) := by rw [cell_at hb4]; rfl
    have c6 : w4.cell? ⟨w3.heap.size, 1, none⟩ = some (.pointer (some ⟨n.b, 0, none⟩)) := by rw [cell_at hb4]; rfl
    have c7 : w4.cell? ⟨w3.heap.size, 2, none⟩ = some (.string s) := by rw [cell_at hb4]; rfl
    have HB4 := Lib.hid (hB3.out.trans (hB4.mono (by omega)))
    have HX4 := Lib.hid hb4
    clear hw4 hb4 hB4
    go_wp2_with (first
     | (go_at_call 26; (with_reducible refine (HAt.out _ HB4.out).mono ?_); rintro e w5 ⟨rfl, hB5⟩; have hX5 := (hB5.block _ (by omega)).trans HX4.out; have d5 : w5.cell? ⟨w3.heap.size, 0, none⟩ = _ := cell_at hX5 0; have d6 : w5.cell? ⟨w3.heap.size, 1, none⟩ = _ := cell_at hX5 1; have d7 : w5.cell? ⟨w3.heap.size, 2, none⟩ = _ := cell_at hX5 2; have hB5' := HB4.out.trans (hB5.mono (by omega)); obtain ⟨j1, j2⟩ := HG.out w5 hB5'; clear hX5; replace hB5' := Lib.hid hB5'; clear hB5)
     | (go_at_call 46; (with_reducible refine (HMy.out _ hB5'.out).mono ?_); rintro e w6 ⟨rfl, rfl⟩)
     | (go_at_call 47; (with_reducible refine (HD.out _ hB5'.out).mono ?_); rintro e w7 ⟨rfl, hS7⟩; replace hS7 := Lib.hid hS7))
    go_ret
    exact ⟨rfl, hS7.out⟩
   ·rw [show removeP r (i, g) s fo = (r, mayP r x fo) by unfold removeP; rw [if_neg (by simp [hp]), if_neg he, if_pos (by rw [hid, hbx]; exact hm), hid, hbx]]
    rw [hid] at HAt
    rw [he'] at HAt
    have hne : (mayP r x fo != 0) = true := by rw [bne_iff_ne]; exact hm
    generalize mayP r x fo = my at *
    clear hw1 hB hb0 h h1 hW hp hf hl hk2 m1 m2 m3 hn hr hni hpl he e1 e2 e3 hx ex hnx hrx hid hbx hxk he' hm hnm
    go_enter Tryz.func23, Tryz.ntmps23
    go_wp2_with fail
    rw [HW1.out]
    go_upto_region 4 with (go_at_call 25; (with_reducible refine HP.out.mono ?_); rintro e w3 ⟨rfl, hB3⟩; have hs3 := hB3.size; replace hB3 := Lib.hid hB3)
    obtain ⟨w4, hw4, hB4, hs4, hb4⟩ := box1 w3 #[.pointer (some ⟨n.blk, 0, none⟩), .pointer (some ⟨n.b, 0, none⟩), .string s] 85
    rw [hw4]
    have c5 : w4.cell? ⟨w3.heap.size, 0, none⟩ = some (.pointer (some ⟨n.blk, 0, none⟩)) := by rw [cell_at hb4]; rfl
    have c6 : w4.cell? ⟨w3.heap.size, 1, none⟩ = some (.pointer (some ⟨n.b, 0, none⟩)) := by rw [cell_at hb4]; rfl
    have c7 : w4.cell? ⟨w3.heap.size, 2, none⟩ = some (.string s) := by rw [cell_at hb4]; rfl
    have HB4 := Lib.hid (hB3.out.trans (hB4.mono (by omega)))
    clear hw4 hb4 hB4
    go_wp2_with (first
     | (go_at_call 26; (with_reducible refine (HAt.out _ HB4.out).mono ?_); rintro e w5 ⟨rfl, hB5⟩; have hB5' := HB4.out.trans (hB5.mono (by omega)); obtain ⟨j1, j2⟩ := HG.out w5 hB5'; replace hB5' := Lib.hid hB5'; clear hB5)
     | (go_at_call 46; (with_reducible refine (HMy.out _ hB5'.out).mono ?_); rintro e w6 ⟨rfl, rfl⟩))
    go_ret
    exact ⟨rfl, HSt.out _ (HB.out.trans (hB5'.out.mono (by omega)))⟩
 ·rw [show removeP r (i, g) s fo = (r, placeE r (i, g) s false) by unfold removeP; rw [if_pos hp]]
  obtain ⟨pa, pb, pc, hpl⟩ := place_no h1 hW i g s hs false hp
  have HP := Lib.hid hpl
  have hne : (placeE r (i, g) s false != 0) = true := by rw [bne_iff_ne]; exact hp
  generalize placeE r (i, g) s false = pe at *
  clear hw1 hB hb0 h h1 hW hp hpl
  go_enter Tryz.func23, Tryz.ntmps23
  go_wp2_with fail
  rw [HW1.out]
  go_wp2_with (go_at_call 25; (with_reducible refine HP.out.mono ?_); rintro e w3 ⟨rfl, hB3⟩; have hs3 := hB3.size; replace hB3 := Lib.hid hB3)
  go_ret
  exact ⟨rfl, HSt.out _ ((HB.out.trans (hB3.out.mono (by omega))).alloc (by omega) _)⟩
end Go.Proofs.YtpcjmefchclhhaaGreat

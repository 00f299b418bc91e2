/- A part of the proof, merged from several texts. -/
import Derived.Test.YtpcjmefchclhhaaFsW
import Derived.Test.YtpcjmefchclhhaaFsS
import Derived.Test.YtpcjmefchclhhaaFsU
import Derived.LaidEqlPtr
import Derived.Test.YtpcjmefchclhhaaFsV
/- Rename (printed by genren.py). -/
namespace Go.Proofs.Ytpcjmefchclhhaa
open Go.RowKit Go.MapKept

theorem neq_ino {w : World} {a b : Nat} {ca cb : Array Value} {ta tb : TypeId} (ha : w.heap[a]? = some (.cells ca ta (0, 0))) (hb : w.heap[b]? = some (.cells cb tb (0, 0))) :
    (binOp .neq 107 (.pointer (some ⟨a, 0, none⟩)) (.pointer (some ⟨b, 0, none⟩))).run Try.prog w = .ok (.bool (!decide (a = b))) w := by
  have hi : ∃ j, Try.prog.info? 113 = some j ∧ j.size = 6 := by
    have : (Try.prog.info? 113).map (·.size) = some 6 := by kernel_rfl
    cases h : Try.prog.info? 113 with
    | none => rw [h] at this; cases this
    | some j => rw [h] at this; exact ⟨j, rfl, by simpa using this⟩
  obtain ⟨j, hj, h6⟩ := hi
  have hp : Try.prog.underlying 107 = some (.pointer 113) := by kernel_rfl
  by_cases e : a = b
  · subst e
    have h : ∀ d : Nat, (Op.equalIn (d + 1) 107 (.pointer (some ⟨a, 0, none⟩)) (.pointer (some ⟨a, 0, none⟩))).run Try.prog w = .ok true w := fun d => by
      simp [Op.equalIn, run_underlying hp, sizeOf, typeInfo, hj, run_sameAddr_same]
    simp only [binOp]
    simp [Op.equal, Op.maxDepth, h 9999]
  · have h : ∀ d : Nat, (Op.equalIn (d + 1) 107 (.pointer (some ⟨a, 0, none⟩)) (.pointer (some ⟨b, 0, none⟩))).run Try.prog w = .ok false w := fun d => by
      simp [Op.equalIn, run_underlying hp, sizeOf, typeInfo, hj, h6, run_sameAddr_other w (a := ⟨a, 0, none⟩) (b := ⟨b, 0, none⟩) (fun hh => e (by injection hh)) ha hb]
    simp only [binOp]
    simp [Op.equal, Op.maxDepth, h 9999, e]
noncomputable def renameP (r : RFs) (h : Int × Int) (s : ByteArray) (g : Int × Int) (t : ByteArray) : RFs × Int :=
  if placesE r h s g t ≠ 0 then (r, placesE r h s g t) else if entryP r.nms h.1 s = 0 then (r, 170) else if entryP r.nms h.1 s = entryP r.nms g.1 t then (r, 0)
  else if (byIdP r.ins (entryP r.nms h.1 s)).kind = 2 ∧ belowB r g.1 (entryP r.nms h.1 s) = true then (r, 178)
  else if entryP r.nms g.1 t ≠ 0 then
    (if mayP r (byIdP r.ins (entryP r.nms g.1 t)) (decide ((byIdP r.ins (entryP r.nms h.1 s)).kind = 2)) ≠ 0 then (r, mayP r (byIdP r.ins (entryP r.nms g.1 t)) (decide ((byIdP r.ins (entryP r.nms h.1 s)).kind = 2)))
     else (movedP (dropP r g.1 t) h.1 s g.1 t (byIdP r.ins (entryP r.nms h.1 s)), 0))
  else if (byIdP r.ins (entryP r.nms h.1 s)).kind = 2 ∧ h.1 ≠ g.1 ∧ 20 ≤ linksN r (byIdP r.ins g.1) then (r, 179)
  else (movedP r h.1 s g.1 t (byIdP r.ins (entryP r.nms h.1 s)), 0)

theorem places_no {w : World} {f mi mg K : Nat} {r : RFs} {N : List Nd} (h : FsN w f mi mg r N) (hW : Wf r K) (i g : Int) (s : ByteArray) (hs : s.size ≤ maxLen) (i2 g2 : Int) (s2 : ByteArray) (hs2 : s2.size ≤ maxLen) (he : placesE r (i, g) s (i2, g2) s2 ≠ 0) :
    Calls Try.prog 72 #[.pointer (some ⟨f, 0, none⟩), .agg #[.int .i64 i, .int .i64 g], .string s, .agg #[.int .i64 i2, .int .i64 g2], .string s2] w
      fun e w' => e = .returned (.tuple #[.agg #[.pointer none, .pointer none, .string ⟨#[]⟩], .agg #[.pointer none, .pointer none, .string ⟨#[]⟩], .int .i64 (placesE r (i, g) s (i2, g2) s2)]) ∧ Below w.heap.size w w' := by
  unfold placesE at he ⊢
  dsimp only at he ⊢
  cases hl : liveP r (i, g)
  · simp only [true_or, if_true]
    exact places_a h hW i g s hs i2 g2 s2 hs2 hl
  · cases hl2 : liveP r (i2, g2)
    · simp only [or_true, if_true]
      exact places_b h hW i g s hs i2 g2 s2 hs2 hl hl2
    · rw [hl, hl2] at he
      simp only [Bool.true_eq_false, or_false, if_false] at he ⊢
      by_cases hk : (byIdP r.ins i).kind = 2
      · by_cases hk2 : (byIdP r.ins i2).kind = 2
        · simp only [hk, hk2, ne_eq, not_true_eq_false, or_false, if_false] at he ⊢
          by_cases hv : validP s = true
          · by_cases hv2 : validP s2 = true
            · simp [hv, hv2] at he
            · simp only [hv, hv2]
              exact places_g h hW i g s hs i2 g2 s2 hs2 hl hl2 hk hk2 hv hv2
          · simp only [hv]
            exact places_f h hW i g s hs i2 g2 s2 hs2 hl hl2 hk hk2 hv
        · simp only [hk2, ne_eq, not_false_eq_true, or_true, if_true]
          exact places_e h hW i g s hs i2 g2 s2 hs2 hl hl2 hk hk2
      · simp only [hk, ne_eq, not_false_eq_true, true_or, if_true]
        by_cases hk2 : (byIdP r.ins i2).kind = 2
        · exact places_c h hW i g s hs i2 g2 s2 hs2 hl hl2 hk hk2
        · exact places_d h hW i g s hs i2 g2 s2 hs2 hl hl2 hk hk2
theorem placesE_ok {r : RFs} {h g : Int × Int} {s t : ByteArray} (he : placesE r h s g t = 0) : liveP r h = true ∧ liveP r g = true ∧ (byIdP r.ins h.1).kind = 2 ∧ (byIdP r.ins g.1).kind = 2 ∧ validP s = true ∧ validP t = true := by
  unfold placesE at he
  split at he
  · cases he
  · rename_i a
    split at he
    · cases he
    · rename_i b
      split at he
      · rename_i c
        refine ⟨?_, ?_, ?_, ?_, c.1, c.2⟩
        · cases hh : liveP r h
          · exact absurd (.inl hh) a
          · rfl
        · cases hh : liveP r g
          · exact absurd (.inr hh) a
          · rfl
        · exact Classical.byContradiction fun e => b (.inl e)
        · exact Classical.byContradiction fun e => b (.inr e)
      · cases he

set_option maxRecDepth 100000 in
set_option maxHeartbeats 8000000 in
theorem rename_bad {w : World} {f mi mg K : Nat} {r : RFs} {N : List Nd} (h : FsN w f mi mg r N) (hW : Wf r K) (i g : Int) (s : ByteArray) (hs : s.size ≤ maxLen) (i2 g2 : Int) (s2 : ByteArray) (hs2 : s2.size ≤ maxLen) (he : placesE r (i, g) s (i2, g2) s2 ≠ 0) :
    Calls Try.prog 54 #[.pointer (some ⟨f, 0, none⟩), .agg #[.int .i64 i, .int .i64 g], .string s, .agg #[.int .i64 i2, .int .i64 g2], .string s2] w
      fun e w' => e = .returned (.int .i64 (placesE r (i, g) s (i2, g2) s2)) ∧ Below w.heap.size w w' := by
  obtain ⟨w2, hw2, hB, hz2, hb0, hb1⟩ := box2 w #[.int .i64 i, .int .i64 g] #[.int .i64 i2, .int .i64 g2] 68 68
  have t0 : w2.cell? ⟨w.heap.size, 0, none⟩ = some (.int .i64 i) := by rw [cell_at hb0]; rfl
  have t1 : w2.cell? ⟨w.heap.size, 1, none⟩ = some (.int .i64 g) := by rw [cell_at hb0]; rfl
  have t2 : w2.cell? ⟨w.heap.size + 1, 0, none⟩ = some (.int .i64 i2) := by rw [cell_at hb1]; rfl
  have t3 : w2.cell? ⟨w.heap.size + 1, 1, none⟩ = some (.int .i64 g2) := by rw [cell_at hb1]; rfl
  have h2 := h.below hW hB
  have HW2 := Lib.hid hw2
  have HB := Lib.hid hB
  have HP := Lib.hid (places_no h2 hW i g s hs i2 g2 s2 hs2 he)
  have hne : (placesE r (i, g) s (i2, g2) s2 != 0) = true := by rw [bne_iff_ne]; exact he
  generalize placesE r (i, g) s (i2, g2) s2 = pe at *
  clear hw2 hB hb0 hb1 h h2 hW he
  go_enter Try.func54, Try.ntmps54
  go_wp2_with fail
  rw [HW2.out]
  go_wp2_with (go_at_call 72; (with_reducible refine HP.out.mono ?_); rintro e w3 ⟨rfl, hB3⟩; have hs3 := hB3.size; replace hB3 := Lib.hid hB3)
  go_ret
  have hfin := HB.out.trans (hB3.out.mono (by omega))
  exact ⟨rfl, (hfin.alloc hfin.size _).alloc (by have := hfin.size; simp; omega) _⟩


set_option maxRecDepth 100000 in
set_option maxHeartbeats 8000000 in
theorem rename_none {w : World} {f mi mg K : Nat} {r : RFs} {N : List Nd} (h : FsN w f mi mg r N) (hW : Wf r K) (i g : Int) (s : ByteArray) (hs : s.size ≤ maxLen) (i2 g2 : Int) (s2 : ByteArray) (hs2 : s2.size ≤ maxLen)
    {p q : RIn} {np nq : Nd} (_hp : p ∈ r.ins) (hkp : p.kind = 2) (hnp : np ∈ N) (hrp : NodeR w r p np) (_hq : q ∈ r.ins) (hkq : q.kind = 2) (hnq : nq ∈ N) (hrq : NodeR w r q nq) (hpi : p.id = i) (hqi : q.id = i2)
    (hl : liveP r (i, g) = true) (hl2 : liveP r (i2, g2) = true) (hk : (byIdP r.ins i).kind = 2) (hk2 : (byIdP r.ins i2).kind = 2) (hv : validP s = true) (hv2 : validP s2 = true) (he : entryP r.nms i s = 0) :
    Calls Try.prog 54 #[.pointer (some ⟨f, 0, none⟩), .agg #[.int .i64 i, .int .i64 g], .string s, .agg #[.int .i64 i2, .int .i64 g2], .string s2] w fun e w' => e = .returned (.int .i64 170) ∧ Below w.heap.size w w' := by
  obtain ⟨w2, hw2, hB, hz2, hb0, hb1⟩ := box2 w #[.int .i64 i, .int .i64 g] #[.int .i64 i2, .int .i64 g2] 68 68
  have t0 : w2.cell? ⟨w.heap.size, 0, none⟩ = some (.int .i64 i) := by rw [cell_at hb0]; rfl
  have t1 : w2.cell? ⟨w.heap.size, 1, none⟩ = some (.int .i64 g) := by rw [cell_at hb0]; rfl
  have t2 : w2.cell? ⟨w.heap.size + 1, 0, none⟩ = some (.int .i64 i2) := by rw [cell_at hb1]; rfl
  have t3 : w2.cell? ⟨w.heap.size + 1, 1, none⟩ = some (.int .i64 g2) := by rw [cell_at hb1]; rfl
  have h2 := h.below hW hB
  have HW2 := Lib.hid hw2
  have HB := Lib.hid hB
  have hrp2 := hrp.below (.inr (.inl hkp)) hB
  have hrq2 := hrq.below (.inr (.inl hkq)) hB
  have hpl := places_ok h2 hW i g s hs i2 g2 s2 hs2 hl hl2 hk hk2 hv hv2 hnp hnq (hrp.id.trans hpi) (hrq.id.trans hqi)
  have HP := Lib.hid hpl
  have HAt := Lib.hid (show ∀ w4, Below w2.heap.size w2 w4 → Calls Try.prog 59 #[.agg #[.pointer (some ⟨np.blk, 0, none⟩), .pointer (some ⟨np.b, 0, none⟩), .string s]] w4 fun e w' => e = .returned (.tuple #[.int .i64 (entryP r.nms i s), .bool (decide (entryP r.nms i s ≠ 0))]) ∧ Below w4.heap.size w4 w' from fun w4 hb => by
    have hr4 := hrp2.below (.inr (.inl hkp)) hb
    have := at_any hr4 hkp (hr4.lt (.inr (.inl hkp))) s (some ⟨np.blk, 0, none⟩)
    rw [hpi, hW.entry_some] at this
    exact this)
  have HAt2 := Lib.hid (show ∀ w4, Below w2.heap.size w2 w4 → Calls Try.prog 59 #[.agg #[.pointer (some ⟨nq.blk, 0, none⟩), .pointer (some ⟨nq.b, 0, none⟩), .string s2]] w4 fun e w' => e = .returned (.tuple #[.int .i64 (entryP r.nms i2 s2), .bool (decide (entryP r.nms i2 s2 ≠ 0))]) ∧ Below w4.heap.size w4 w' from fun w4 hb => by
    have hr4 := hrq2.below (.inr (.inl hkq)) hb
    have := at_any hr4 hkq (hr4.lt (.inr (.inl hkq))) s2 (some ⟨nq.blk, 0, none⟩)
    rw [hqi, hW.entry_some] at this
    exact this)
  rw [he] at HAt
  simp only [ne_eq, not_true_eq_false, decide_false] at HAt
  clear hw2 hB hb0 hb1 h h2 hW hrp2 hrq2 hpl _hp hkp hnp hrp _hq hkq hnq hrq hpi hqi hl hl2 hk hk2 hv hv2 he
  go_enter Try.func54, Try.ntmps54
  go_wp2_with fail
  rw [HW2.out]
  go_upto_region 4 with (go_at_call 72; (with_reducible refine HP.out.mono ?_); rintro e w3 ⟨rfl, hB3⟩; have hs3 := hB3.size; replace hB3 := Lib.hid hB3)
  obtain ⟨w4, hw4, hB4, hs4, hb40, hb41⟩ := box2 w3 #[.pointer (some ⟨np.blk, 0, none⟩), .pointer (some ⟨np.b, 0, none⟩), .string s] #[.pointer (some ⟨nq.blk, 0, none⟩), .pointer (some ⟨nq.b, 0, none⟩), .string s2] 119 119
  rw [hw4]
  have c0 : w4.cell? ⟨w3.heap.size, 0, none⟩ = some (.pointer (some ⟨np.blk, 0, none⟩)) := by rw [cell_at hb40]; rfl
  have c1 : w4.cell? ⟨w3.heap.size, 1, none⟩ = some (.pointer (some ⟨np.b, 0, none⟩)) := by rw [cell_at hb40]; rfl
  have c2 : w4.cell? ⟨w3.heap.size, 2, none⟩ = some (.string s) := by rw [cell_at hb40]; rfl
  have HQ1 := Lib.hid hb40
  have HQ2 := Lib.hid hb41
  have HB4 := Lib.hid (hB3.out.trans (hB4.mono (by omega)))
  clear hw4 hb40 hb41 hB4
  go_wp2_with (go_at_call 59; (with_reducible refine (HAt.out w4 HB4.out).mono ?_); rintro e w5 ⟨rfl, hB5⟩; replace hB5 := Lib.hid hB5)
  go_ret
  exact ⟨rfl, HB.out.trans ((HB4.out.trans (hB5.out.mono HB4.out.size)).mono (by omega))⟩

set_option maxRecDepth 100000 in
set_option maxHeartbeats 8000000 in
theorem rename_same {w : World} {f mi mg K : Nat} {r : RFs} {N : List Nd} (h : FsN w f mi mg r N) (hW : Wf r K) (i g : Int) (s : ByteArray) (hs : s.size ≤ maxLen) (i2 g2 : Int) (s2 : ByteArray) (hs2 : s2.size ≤ maxLen)
    {p q : RIn} {np nq : Nd} (_hp : p ∈ r.ins) (hkp : p.kind = 2) (hnp : np ∈ N) (hrp : NodeR w r p np) (_hq : q ∈ r.ins) (hkq : q.kind = 2) (hnq : nq ∈ N) (hrq : NodeR w r q nq) (hpi : p.id = i) (hqi : q.id = i2)
    (hl : liveP r (i, g) = true) (hl2 : liveP r (i2, g2) = true) (hk : (byIdP r.ins i).kind = 2) (hk2 : (byIdP r.ins i2).kind = 2) (hv : validP s = true) (hv2 : validP s2 = true)
    {x : RIn} {nx : Nd} (hx : x ∈ r.ins) (hnx : nx ∈ N) (hrx : NodeR w r x nx) (hxi : entryP r.nms i s = x.id) (ho : entryP r.nms i2 s2 = x.id) :
    Calls Try.prog 54 #[.pointer (some ⟨f, 0, none⟩), .agg #[.int .i64 i, .int .i64 g], .string s, .agg #[.int .i64 i2, .int .i64 g2], .string s2] w fun e w' => e = .returned (.int .i64 0) ∧ Below w.heap.size w w' := by
  obtain ⟨w2, hw2, hB, hz2, hb0, hb1⟩ := box2 w #[.int .i64 i, .int .i64 g] #[.int .i64 i2, .int .i64 g2] 68 68
  have t0 : w2.cell? ⟨w.heap.size, 0, none⟩ = some (.int .i64 i) := by rw [cell_at hb0]; rfl
  have t1 : w2.cell? ⟨w.heap.size, 1, none⟩ = some (.int .i64 g) := by rw [cell_at hb0]; rfl
  have t2 : w2.cell? ⟨w.heap.size + 1, 0, none⟩ = some (.int .i64 i2) := by rw [cell_at hb1]; rfl
  have t3 : w2.cell? ⟨w.heap.size + 1, 1, none⟩ = some (.int .i64 g2) := by rw [cell_at hb1]; rfl
  have h2 := h.below hW hB
  have HW2 := Lib.hid hw2
  have HB := Lib.hid hB
  have hrp2 := hrp.below (.inr (.inl hkp)) hB
  have hrq2 := hrq.below (.inr (.inl hkq)) hB
  have hpl := places_ok h2 hW i g s hs i2 g2 s2 hs2 hl hl2 hk hk2 hv hv2 hnp hnq (hrp.id.trans hpi) (hrq.id.trans hqi)
  have HP := Lib.hid hpl
  have HAt := Lib.hid (show ∀ w4, Below w2.heap.size w2 w4 → Calls Try.prog 59 #[.agg #[.pointer (some ⟨np.blk, 0, none⟩), .pointer (some ⟨np.b, 0, none⟩), .string s]] w4 fun e w' => e = .returned (.tuple #[.int .i64 (entryP r.nms i s), .bool (decide (entryP r.nms i s ≠ 0))]) ∧ Below w4.heap.size w4 w' from fun w4 hb => by
    have hr4 := hrp2.below (.inr (.inl hkp)) hb
    have := at_any hr4 hkp (hr4.lt (.inr (.inl hkp))) s (some ⟨np.blk, 0, none⟩)
    rw [hpi, hW.entry_some] at this
    exact this)
  have HAt2 := Lib.hid (show ∀ w4, Below w2.heap.size w2 w4 → Calls Try.prog 59 #[.agg #[.pointer (some ⟨nq.blk, 0, none⟩), .pointer (some ⟨nq.b, 0, none⟩), .string s2]] w4 fun e w' => e = .returned (.tuple #[.int .i64 (entryP r.nms i2 s2), .bool (decide (entryP r.nms i2 s2 ≠ 0))]) ∧ Below w4.heap.size w4 w' from fun w4 hb => by
    have hr4 := hrq2.below (.inr (.inl hkq)) hb
    have := at_any hr4 hkq (hr4.lt (.inr (.inl hkq))) s2 (some ⟨nq.blk, 0, none⟩)
    rw [hqi, hW.entry_some] at this
    exact this)
  have hx0 : x.id ≠ 0 := hW.ne0 hx
  rw [hxi, decide_eq_true hx0] at HAt
  have hrx2 := hrx.below (hW.kind x hx) hB
  have HX := Lib.hid (show ∀ w', Below w2.heap.size w2 w' → w'.cell? ⟨f, 1, none⟩ = some (.map (some mi)) ∧ w'.cell? ⟨nx.blk, 5, none⟩ = some (holdsV x nx) ∧ (Instr.lookup 103 (.map (some mi)) (.int .i64 x.id) false).run Try.prog w' = .ok (.pointer (some ⟨nx.blk, 0, none⟩)) w' ∧ w'.cell? ⟨nq.blk, 0, none⟩ = some (.int .i64 i2) ∧ w'.cell? ⟨nq.blk, 4, none⟩ = some (.int .i64 (linksN r q : Int)) from fun w' hb => by
    have h4 := h2.below hW hb
    have hg := h4.get hnx
    rw [hrx.id] at hg
    have hlk := (h4.look x.id).2
    rw [hg] at hlk
    have hq4 := (hrq2.below (.inr (.inl hkq)) hb).cells
    exact ⟨h4.cells.2.1, (hrx2.below (hW.kind x hx) hb).cells.2.2.2.2.2, hlk, by rw [← hqi]; exact hq4.1, hq4.2.2.2.2.1⟩)
  rw [ho, decide_eq_true hx0] at HAt2
  by_cases hkx : x.kind = 2
  all_goals
    first
    | (have hta : ∀ w, (Instr.typeAssert (holdsV x nx) 20 108 true).run Try.prog w = .ok (.tuple #[.pointer (some ⟨nx.b, 0, none⟩), .bool true]) w := fun w => by rw [ta_dir, if_pos hkx]; rfl)
    | (have hta : ∀ w, (Instr.typeAssert (holdsV x nx) 20 108 true).run Try.prog w = .ok (.tuple #[.pointer none, .bool false]) w := fun w => by rw [ta_dir, if_neg hkx])
    clear hw2 hB hb0 hb1 h h2 hW hrp2 hrq2 hpl _hp hkp hnp hrp _hq hkq hnq hrq hpi hqi hl hl2 hk hk2 hv hv2 hx hnx hrx hxi hx0 hrx2 ho hkx
    go_enter Try.func54, Try.ntmps54
    go_wp2_with fail
    rw [HW2.out]
    go_upto_region 4 with (go_at_call 72; (with_reducible refine HP.out.mono ?_); rintro e w3 ⟨rfl, hB3⟩; have hs3 := hB3.size; replace hB3 := Lib.hid hB3)
    obtain ⟨w4, hw4, hB4, hs4, hb40, hb41⟩ := box2 w3 #[.pointer (some ⟨np.blk, 0, none⟩), .pointer (some ⟨np.b, 0, none⟩), .string s] #[.pointer (some ⟨nq.blk, 0, none⟩), .pointer (some ⟨nq.b, 0, none⟩), .string s2] 119 119
    rw [hw4]
    have c0 : w4.cell? ⟨w3.heap.size, 0, none⟩ = some (.pointer (some ⟨np.blk, 0, none⟩)) := by rw [cell_at hb40]; rfl
    have c1 : w4.cell? ⟨w3.heap.size, 1, none⟩ = some (.pointer (some ⟨np.b, 0, none⟩)) := by rw [cell_at hb40]; rfl
    have c2 : w4.cell? ⟨w3.heap.size, 2, none⟩ = some (.string s) := by rw [cell_at hb40]; rfl
    have HQ1 := Lib.hid hb40
    have HQ2 := Lib.hid hb41
    have HB4 := Lib.hid (hB3.out.trans (hB4.mono (by omega)))
    clear hw4 hb40 hb41 hB4
    go_wp2_with (first
    | (go_at_call 59; (with_reducible refine (HAt.out w4 HB4.out).mono ?_); rintro e w5 ⟨rfl, hB5⟩; have hs5 := hB5.size; have hY := (hB5.block _ (by omega)).trans HQ2.out; have d0 : w5.cell? ⟨w3.heap.size + 1, 0, none⟩ = _ := cell_at hY 0; have d1 : w5.cell? ⟨w3.heap.size + 1, 1, none⟩ = _ := cell_at hY 1; have d2 : w5.cell? ⟨w3.heap.size + 1, 2, none⟩ = _ := cell_at hY 2; have HQ25 := Lib.hid hY; have HQ15 := Lib.hid ((hB5.block _ (by omega)).trans HQ1.out); clear hY; have HB5 := Lib.hid (HB4.out.trans (hB5.mono HB4.out.size)); obtain ⟨x1, x2, x3, -, -⟩ := HX.out w5 HB5.out; clear hB5)
    | (go_at_call 59; (with_reducible refine (HAt2.out w5 HB5.out).mono ?_); rintro e w6 ⟨rfl, hB6⟩; have hs6 := hB6.size; have HQ26 := Lib.hid ((hB6.block _ (by omega)).trans HQ25.out); have HQ16 := Lib.hid ((hB6.block _ (by omega)).trans HQ15.out); have e0 : w6.cell? ⟨w3.heap.size, 0, none⟩ = _ := cell_at HQ16.out 0; have g0 : w6.cell? ⟨w3.heap.size + 1, 0, none⟩ = _ := cell_at HQ26.out 0; have HB6 := Lib.hid (HB5.out.trans (hB6.mono HB5.out.size)); obtain ⟨y1, y2, y3, y4, y5⟩ := HX.out w6 HB6.out; clear hB6))
    go_ret
    exact ⟨rfl, HB.out.trans (HB6.out.mono (by omega))⟩

set_option maxRecDepth 100000 in
set_option maxHeartbeats 8000000 in
theorem rename_loop0 {w : World} {f mi mg K : Nat} {r : RFs} {N : List Nd} (h : FsN w f mi mg r N) (hW : Wf r K) (i g : Int) (s : ByteArray) (hs : s.size ≤ maxLen) (i2 g2 : Int) (s2 : ByteArray) (hs2 : s2.size ≤ maxLen)
    {p q : RIn} {np nq : Nd} (_hp : p ∈ r.ins) (hkp : p.kind = 2) (hnp : np ∈ N) (hrp : NodeR w r p np) (hq : q ∈ r.ins) (hkq : q.kind = 2) (hnq : nq ∈ N) (hrq : NodeR w r q nq) (hpi : p.id = i) (hqi : q.id = i2)
    (hl : liveP r (i, g) = true) (hl2 : liveP r (i2, g2) = true) (hk : (byIdP r.ins i).kind = 2) (hk2 : (byIdP r.ins i2).kind = 2) (hv : validP s = true) (hv2 : validP s2 = true)
    {x : RIn} {nx : Nd} (hx : x ∈ r.ins) (hnx : nx ∈ N) (hrx : NodeR w r x nx) (hxi : entryP r.nms i s = x.id) (hkx : x.kind = 2) (hbl : belowB r i2 x.id = true) (ho : entryP r.nms i2 s2 = 0) :
    Calls Try.prog 54 #[.pointer (some ⟨f, 0, none⟩), .agg #[.int .i64 i, .int .i64 g], .string s, .agg #[.int .i64 i2, .int .i64 g2], .string s2] w fun e w' => e = .returned (.int .i64 178) ∧ Below w.heap.size w w' := by
  obtain ⟨w2, hw2, hB, hz2, hb0, hb1⟩ := box2 w #[.int .i64 i, .int .i64 g] #[.int .i64 i2, .int .i64 g2] 68 68
  have t0 : w2.cell? ⟨w.heap.size, 0, none⟩ = some (.int .i64 i) := by rw [cell_at hb0]; rfl
  have t1 : w2.cell? ⟨w.heap.size, 1, none⟩ = some (.int .i64 g) := by rw [cell_at hb0]; rfl
  have t2 : w2.cell? ⟨w.heap.size + 1, 0, none⟩ = some (.int .i64 i2) := by rw [cell_at hb1]; rfl
  have t3 : w2.cell? ⟨w.heap.size + 1, 1, none⟩ = some (.int .i64 g2) := by rw [cell_at hb1]; rfl
  have h2 := h.below hW hB
  have HW2 := Lib.hid hw2
  have HB := Lib.hid hB
  have hrp2 := hrp.below (.inr (.inl hkp)) hB
  have hrq2 := hrq.below (.inr (.inl hkq)) hB
  have hpl := places_ok h2 hW i g s hs i2 g2 s2 hs2 hl hl2 hk hk2 hv hv2 hnp hnq (hrp.id.trans hpi) (hrq.id.trans hqi)
  have HP := Lib.hid hpl
  have HAt := Lib.hid (show ∀ w4, Below w2.heap.size w2 w4 → Calls Try.prog 59 #[.agg #[.pointer (some ⟨np.blk, 0, none⟩), .pointer (some ⟨np.b, 0, none⟩), .string s]] w4 fun e w' => e = .returned (.tuple #[.int .i64 (entryP r.nms i s), .bool (decide (entryP r.nms i s ≠ 0))]) ∧ Below w4.heap.size w4 w' from fun w4 hb => by
    have hr4 := hrp2.below (.inr (.inl hkp)) hb
    have := at_any hr4 hkp (hr4.lt (.inr (.inl hkp))) s (some ⟨np.blk, 0, none⟩)
    rw [hpi, hW.entry_some] at this
    exact this)
  have HAt2 := Lib.hid (show ∀ w4, Below w2.heap.size w2 w4 → Calls Try.prog 59 #[.agg #[.pointer (some ⟨nq.blk, 0, none⟩), .pointer (some ⟨nq.b, 0, none⟩), .string s2]] w4 fun e w' => e = .returned (.tuple #[.int .i64 (entryP r.nms i2 s2), .bool (decide (entryP r.nms i2 s2 ≠ 0))]) ∧ Below w4.heap.size w4 w' from fun w4 hb => by
    have hr4 := hrq2.below (.inr (.inl hkq)) hb
    have := at_any hr4 hkq (hr4.lt (.inr (.inl hkq))) s2 (some ⟨nq.blk, 0, none⟩)
    rw [hqi, hW.entry_some] at this
    exact this)
  have hx0 : x.id ≠ 0 := hW.ne0 hx
  rw [hxi, decide_eq_true hx0] at HAt
  have hrx2 := hrx.below (hW.kind x hx) hB
  have HX := Lib.hid (show ∀ w', Below w2.heap.size w2 w' → w'.cell? ⟨f, 1, none⟩ = some (.map (some mi)) ∧ w'.cell? ⟨nx.blk, 5, none⟩ = some (holdsV x nx) ∧ (Instr.lookup 103 (.map (some mi)) (.int .i64 x.id) false).run Try.prog w' = .ok (.pointer (some ⟨nx.blk, 0, none⟩)) w' ∧ w'.cell? ⟨nq.blk, 0, none⟩ = some (.int .i64 i2) ∧ w'.cell? ⟨nq.blk, 4, none⟩ = some (.int .i64 (linksN r q : Int)) from fun w' hb => by
    have h4 := h2.below hW hb
    have hg := h4.get hnx
    rw [hrx.id] at hg
    have hlk := (h4.look x.id).2
    rw [hg] at hlk
    have hq4 := (hrq2.below (.inr (.inl hkq)) hb).cells
    exact ⟨h4.cells.2.1, (hrx2.below (hW.kind x hx) hb).cells.2.2.2.2.2, hlk, by rw [← hqi]; exact hq4.1, hq4.2.2.2.2.1⟩)
  have hta : ∀ w, (Instr.typeAssert (holdsV x nx) 20 108 true).run Try.prog w = .ok (.tuple #[.pointer (some ⟨nx.b, 0, none⟩), .bool true]) w := fun w => by rw [ta_dir, if_pos hkx]; rfl
  rw [ho] at HAt2
  simp only [ne_eq, not_true_eq_false, decide_false] at HAt2
  have HBl := Lib.hid (show ∀ w', Below w2.heap.size w2 w' → Calls Try.prog 73 #[.pointer (some ⟨f, 0, none⟩), .int .i64 i2, .int .i64 x.id] w' fun e w'' => e = .returned (.bool true) ∧ w' = w'' from fun w' hb => by
    have := below_any (h2.below hW hb) hW hq hkq x.id
    rw [hqi, hbl] at this
    exact this)
  clear hw2 hB hb0 hb1 h h2 hW hrp2 hrq2 hpl _hp hkp hnp hrp hq hkq hnq hrq hpi hqi hl hl2 hk hk2 hv hv2 hx hnx hrx hxi hx0 hrx2 ho hkx hbl
  go_enter Try.func54, Try.ntmps54
  go_wp2_with fail
  rw [HW2.out]
  go_upto_region 4 with (go_at_call 72; (with_reducible refine HP.out.mono ?_); rintro e w3 ⟨rfl, hB3⟩; have hs3 := hB3.size; replace hB3 := Lib.hid hB3)
  obtain ⟨w4, hw4, hB4, hs4, hb40, hb41⟩ := box2 w3 #[.pointer (some ⟨np.blk, 0, none⟩), .pointer (some ⟨np.b, 0, none⟩), .string s] #[.pointer (some ⟨nq.blk, 0, none⟩), .pointer (some ⟨nq.b, 0, none⟩), .string s2] 119 119
  rw [hw4]
  have c0 : w4.cell? ⟨w3.heap.size, 0, none⟩ = some (.pointer (some ⟨np.blk, 0, none⟩)) := by rw [cell_at hb40]; rfl
  have c1 : w4.cell? ⟨w3.heap.size, 1, none⟩ = some (.pointer (some ⟨np.b, 0, none⟩)) := by rw [cell_at hb40]; rfl
  have c2 : w4.cell? ⟨w3.heap.size, 2, none⟩ = some (.string s) := by rw [cell_at hb40]; rfl
  have HQ1 := Lib.hid hb40
  have HQ2 := Lib.hid hb41
  have HB4 := Lib.hid (hB3.out.trans (hB4.mono (by omega)))
  clear hw4 hb40 hb41 hB4
  go_wp2_with (first
    | (go_at_call 59; (with_reducible refine (HAt.out w4 HB4.out).mono ?_); rintro e w5 ⟨rfl, hB5⟩; have hs5 := hB5.size; have hY := (hB5.block _ (by omega)).trans HQ2.out; have d0 : w5.cell? ⟨w3.heap.size + 1, 0, none⟩ = _ := cell_at hY 0; have d1 : w5.cell? ⟨w3.heap.size + 1, 1, none⟩ = _ := cell_at hY 1; have d2 : w5.cell? ⟨w3.heap.size + 1, 2, none⟩ = _ := cell_at hY 2; have HQ25 := Lib.hid hY; have HQ15 := Lib.hid ((hB5.block _ (by omega)).trans HQ1.out); clear hY; have HB5 := Lib.hid (HB4.out.trans (hB5.mono HB4.out.size)); obtain ⟨x1, x2, x3, -, -⟩ := HX.out w5 HB5.out; clear hB5)
    | (go_at_call 59; (with_reducible refine (HAt2.out w5 HB5.out).mono ?_); rintro e w6 ⟨rfl, hB6⟩; have hs6 := hB6.size; have HQ26 := Lib.hid ((hB6.block _ (by omega)).trans HQ25.out); have HQ16 := Lib.hid ((hB6.block _ (by omega)).trans HQ15.out); have e0 : w6.cell? ⟨w3.heap.size, 0, none⟩ = _ := cell_at HQ16.out 0; have g0 : w6.cell? ⟨w3.heap.size + 1, 0, none⟩ = _ := cell_at HQ26.out 0; have HB6 := Lib.hid (HB5.out.trans (hB6.mono HB5.out.size)); obtain ⟨y1, y2, y3, y4, y5⟩ := HX.out w6 HB6.out; clear hB6)
    | (go_at_call 73; (with_reducible refine (HBl.out w6 HB6.out).mono ?_); rintro e w7 ⟨rfl, rfl⟩))
  go_ret
  exact ⟨rfl, HB.out.trans (HB6.out.mono (by omega))⟩

set_option maxRecDepth 100000 in
set_option maxHeartbeats 8000000 in
theorem rename_loop1 {w : World} {f mi mg K : Nat} {r : RFs} {N : List Nd} (h : FsN w f mi mg r N) (hW : Wf r K) (i g : Int) (s : ByteArray) (hs : s.size ≤ maxLen) (i2 g2 : Int) (s2 : ByteArray) (hs2 : s2.size ≤ maxLen)
    {p q : RIn} {np nq : Nd} (_hp : p ∈ r.ins) (hkp : p.kind = 2) (hnp : np ∈ N) (hrp : NodeR w r p np) (hq : q ∈ r.ins) (hkq : q.kind = 2) (hnq : nq ∈ N) (hrq : NodeR w r q nq) (hpi : p.id = i) (hqi : q.id = i2)
    (hl : liveP r (i, g) = true) (hl2 : liveP r (i2, g2) = true) (hk : (byIdP r.ins i).kind = 2) (hk2 : (byIdP r.ins i2).kind = 2) (hv : validP s = true) (hv2 : validP s2 = true)
    {x : RIn} {nx : Nd} (hx : x ∈ r.ins) (hnx : nx ∈ N) (hrx : NodeR w r x nx) (hxi : entryP r.nms i s = x.id) (hkx : x.kind = 2) (hbl : belowB r i2 x.id = true) (ho : entryP r.nms i2 s2 ≠ 0) (hox : entryP r.nms i2 s2 ≠ x.id) :
    Calls Try.prog 54 #[.pointer (some ⟨f, 0, none⟩), .agg #[.int .i64 i, .int .i64 g], .string s, .agg #[.int .i64 i2, .int .i64 g2], .string s2] w fun e w' => e = .returned (.int .i64 178) ∧ Below w.heap.size w w' := by
  obtain ⟨w2, hw2, hB, hz2, hb0, hb1⟩ := box2 w #[.int .i64 i, .int .i64 g] #[.int .i64 i2, .int .i64 g2] 68 68
  have t0 : w2.cell? ⟨w.heap.size, 0, none⟩ = some (.int .i64 i) := by rw [cell_at hb0]; rfl
  have t1 : w2.cell? ⟨w.heap.size, 1, none⟩ = some (.int .i64 g) := by rw [cell_at hb0]; rfl
  have t2 : w2.cell? ⟨w.heap.size + 1, 0, none⟩ = some (.int .i64 i2) := by rw [cell_at hb1]; rfl
  have t3 : w2.cell? ⟨w.heap.size + 1, 1, none⟩ = some (.int .i64 g2) := by rw [cell_at hb1]; rfl
  have h2 := h.below hW hB
  have HW2 := Lib.hid hw2
  have HB := Lib.hid hB
  have hrp2 := hrp.below (.inr (.inl hkp)) hB
  have hrq2 := hrq.below (.inr (.inl hkq)) hB
  have hpl := places_ok h2 hW i g s hs i2 g2 s2 hs2 hl hl2 hk hk2 hv hv2 hnp hnq (hrp.id.trans hpi) (hrq.id.trans hqi)
  have HP := Lib.hid hpl
  have HAt := Lib.hid (show ∀ w4, Below w2.heap.size w2 w4 → Calls Try.prog 59 #[.agg #[.pointer (some ⟨np.blk, 0, none⟩), .pointer (some ⟨np.b, 0, none⟩), .string s]] w4 fun e w' => e = .returned (.tuple #[.int .i64 (entryP r.nms i s), .bool (decide (entryP r.nms i s ≠ 0))]) ∧ Below w4.heap.size w4 w' from fun w4 hb => by
    have hr4 := hrp2.below (.inr (.inl hkp)) hb
    have := at_any hr4 hkp (hr4.lt (.inr (.inl hkp))) s (some ⟨np.blk, 0, none⟩)
    rw [hpi, hW.entry_some] at this
    exact this)
  have HAt2 := Lib.hid (show ∀ w4, Below w2.heap.size w2 w4 → Calls Try.prog 59 #[.agg #[.pointer (some ⟨nq.blk, 0, none⟩), .pointer (some ⟨nq.b, 0, none⟩), .string s2]] w4 fun e w' => e = .returned (.tuple #[.int .i64 (entryP r.nms i2 s2), .bool (decide (entryP r.nms i2 s2 ≠ 0))]) ∧ Below w4.heap.size w4 w' from fun w4 hb => by
    have hr4 := hrq2.below (.inr (.inl hkq)) hb
    have := at_any hr4 hkq (hr4.lt (.inr (.inl hkq))) s2 (some ⟨nq.blk, 0, none⟩)
    rw [hqi, hW.entry_some] at this
    exact this)
  have hx0 : x.id ≠ 0 := hW.ne0 hx
  rw [hxi, decide_eq_true hx0] at HAt
  have hrx2 := hrx.below (hW.kind x hx) hB
  have HX := Lib.hid (show ∀ w', Below w2.heap.size w2 w' → w'.cell? ⟨f, 1, none⟩ = some (.map (some mi)) ∧ w'.cell? ⟨nx.blk, 5, none⟩ = some (holdsV x nx) ∧ (Instr.lookup 103 (.map (some mi)) (.int .i64 x.id) false).run Try.prog w' = .ok (.pointer (some ⟨nx.blk, 0, none⟩)) w' ∧ w'.cell? ⟨nq.blk, 0, none⟩ = some (.int .i64 i2) ∧ w'.cell? ⟨nq.blk, 4, none⟩ = some (.int .i64 (linksN r q : Int)) from fun w' hb => by
    have h4 := h2.below hW hb
    have hg := h4.get hnx
    rw [hrx.id] at hg
    have hlk := (h4.look x.id).2
    rw [hg] at hlk
    have hq4 := (hrq2.below (.inr (.inl hkq)) hb).cells
    exact ⟨h4.cells.2.1, (hrx2.below (hW.kind x hx) hb).cells.2.2.2.2.2, hlk, by rw [← hqi]; exact hq4.1, hq4.2.2.2.2.1⟩)
  have hta : ∀ w, (Instr.typeAssert (holdsV x nx) 20 108 true).run Try.prog w = .ok (.tuple #[.pointer (some ⟨nx.b, 0, none⟩), .bool true]) w := fun w => by rw [ta_dir, if_pos hkx]; rfl
  rw [decide_eq_true ho] at HAt2
  have hbq : (entryP r.nms i2 s2 == x.id) = false := by rw [beq_eq_false_iff_ne]; exact hox
  have HBl := Lib.hid (show ∀ w', Below w2.heap.size w2 w' → Calls Try.prog 73 #[.pointer (some ⟨f, 0, none⟩), .int .i64 i2, .int .i64 x.id] w' fun e w'' => e = .returned (.bool true) ∧ w' = w'' from fun w' hb => by
    have := below_any (h2.below hW hb) hW hq hkq x.id
    rw [hqi, hbl] at this
    exact this)
  clear hw2 hB hb0 hb1 h h2 hW hrp2 hrq2 hpl _hp hkp hnp hrp hq hkq hnq hrq hpi hqi hl hl2 hk hk2 hv hv2 hx hnx hrx hxi hx0 hrx2 ho hkx hbl hox
  go_enter Try.func54, Try.ntmps54
  go_wp2_with fail
  rw [HW2.out]
  go_upto_region 4 with (go_at_call 72; (with_reducible refine HP.out.mono ?_); rintro e w3 ⟨rfl, hB3⟩; have hs3 := hB3.size; replace hB3 := Lib.hid hB3)
  obtain ⟨w4, hw4, hB4, hs4, hb40, hb41⟩ := box2 w3 #[.pointer (some ⟨np.blk, 0, none⟩), .pointer (some ⟨np.b, 0, none⟩), .string s] #[.pointer (some ⟨nq.blk, 0, none⟩), .pointer (some ⟨nq.b, 0, none⟩), .string s2] 119 119
  rw [hw4]
  have c0 : w4.cell? ⟨w3.heap.size, 0, none⟩ = some (.pointer (some ⟨np.blk, 0, none⟩)) := by rw [cell_at hb40]; rfl
  have c1 : w4.cell? ⟨w3.heap.size, 1, none⟩ = some (.pointer (some ⟨np.b, 0, none⟩)) := by rw [cell_at hb40]; rfl
  have c2 : w4.cell? ⟨w3.heap.size, 2, none⟩ = some (.string s) := by rw [cell_at hb40]; rfl
  have HQ1 := Lib.hid hb40
  have HQ2 := Lib.hid hb41
  have HB4 := Lib.hid (hB3.out.trans (hB4.mono (by omega)))
  clear hw4 hb40 hb41 hB4
  go_wp2_with (first
    | (go_at_call 59; (with_reducible refine (HAt.out w4 HB4.out).mono ?_); rintro e w5 ⟨rfl, hB5⟩; have hs5 := hB5.size; have hY := (hB5.block _ (by omega)).trans HQ2.out; have d0 : w5.cell? ⟨w3.heap.size + 1, 0, none⟩ = _ := cell_at hY 0; have d1 : w5.cell? ⟨w3.heap.size + 1, 1, none⟩ = _ := cell_at hY 1; have d2 : w5.cell? ⟨w3.heap.size + 1, 2, none⟩ = _ := cell_at hY 2; have HQ25 := Lib.hid hY; have HQ15 := Lib.hid ((hB5.block _ (by omega)).trans HQ1.out); clear hY; have HB5 := Lib.hid (HB4.out.trans (hB5.mono HB4.out.size)); obtain ⟨x1, x2, x3, -, -⟩ := HX.out w5 HB5.out; clear hB5)
    | (go_at_call 59; (with_reducible refine (HAt2.out w5 HB5.out).mono ?_); rintro e w6 ⟨rfl, hB6⟩; have hs6 := hB6.size; have HQ26 := Lib.hid ((hB6.block _ (by omega)).trans HQ25.out); have HQ16 := Lib.hid ((hB6.block _ (by omega)).trans HQ15.out); have e0 : w6.cell? ⟨w3.heap.size, 0, none⟩ = _ := cell_at HQ16.out 0; have g0 : w6.cell? ⟨w3.heap.size + 1, 0, none⟩ = _ := cell_at HQ26.out 0; have HB6 := Lib.hid (HB5.out.trans (hB6.mono HB5.out.size)); obtain ⟨y1, y2, y3, y4, y5⟩ := HX.out w6 HB6.out; clear hB6)
    | (go_at_call 73; (with_reducible refine (HBl.out w6 HB6.out).mono ?_); rintro e w7 ⟨rfl, rfl⟩))
  go_ret
  exact ⟨rfl, HB.out.trans (HB6.out.mono (by omega))⟩

set_option maxRecDepth 100000 in
set_option maxHeartbeats 8000000 in
theorem rename_may0 {w : World} {f mi mg K : Nat} {r : RFs} {N : List Nd} (h : FsN w f mi mg r N) (hW : Wf r K) (i g : Int) (s : ByteArray) (hs : s.size ≤ maxLen) (i2 g2 : Int) (s2 : ByteArray) (hs2 : s2.size ≤ maxLen)
    {p q : RIn} {np nq : Nd} (_hp : p ∈ r.ins) (hkp : p.kind = 2) (hnp : np ∈ N) (hrp : NodeR w r p np) (_hq : q ∈ r.ins) (hkq : q.kind = 2) (hnq : nq ∈ N) (hrq : NodeR w r q nq) (hpi : p.id = i) (hqi : q.id = i2)
    (hl : liveP r (i, g) = true) (hl2 : liveP r (i2, g2) = true) (hk : (byIdP r.ins i).kind = 2) (hk2 : (byIdP r.ins i2).kind = 2) (hv : validP s = true) (hv2 : validP s2 = true)
    {x : RIn} {nx : Nd} (hx : x ∈ r.ins) (hnx : nx ∈ N) (hrx : NodeR w r x nx) (hxi : entryP r.nms i s = x.id) {o : RIn} {no : Nd} (ho : o ∈ r.ins) (hno : no ∈ N) (hro : NodeR w r o no) (hoi : entryP r.nms i2 s2 = o.id) (hox : o.id ≠ x.id) (hkx : ¬ x.kind = 2) (hmy : mayP r o false ≠ 0) :
    Calls Try.prog 54 #[.pointer (some ⟨f, 0, none⟩), .agg #[.int .i64 i, .int .i64 g], .string s, .agg #[.int .i64 i2, .int .i64 g2], .string s2] w fun e w' => e = .returned (.int .i64 (mayP r o false)) ∧ Below w.heap.size w w' := by
  obtain ⟨w2, hw2, hB, hz2, hb0, hb1⟩ := box2 w #[.int .i64 i, .int .i64 g] #[.int .i64 i2, .int .i64 g2] 68 68
  have t0 : w2.cell? ⟨w.heap.size, 0, none⟩ = some (.int .i64 i) := by rw [cell_at hb0]; rfl
  have t1 : w2.cell? ⟨w.heap.size, 1, none⟩ = some (.int .i64 g) := by rw [cell_at hb0]; rfl
  have t2 : w2.cell? ⟨w.heap.size + 1, 0, none⟩ = some (.int .i64 i2) := by rw [cell_at hb1]; rfl
  have t3 : w2.cell? ⟨w.heap.size + 1, 1, none⟩ = some (.int .i64 g2) := by rw [cell_at hb1]; rfl
  have h2 := h.below hW hB
  have HW2 := Lib.hid hw2
  have HB := Lib.hid hB
  have hrp2 := hrp.below (.inr (.inl hkp)) hB
  have hrq2 := hrq.below (.inr (.inl hkq)) hB
  have hpl := places_ok h2 hW i g s hs i2 g2 s2 hs2 hl hl2 hk hk2 hv hv2 hnp hnq (hrp.id.trans hpi) (hrq.id.trans hqi)
  have HP := Lib.hid hpl
  have HAt := Lib.hid (show ∀ w4, Below w2.heap.size w2 w4 → Calls Try.prog 59 #[.agg #[.pointer (some ⟨np.blk, 0, none⟩), .pointer (some ⟨np.b, 0, none⟩), .string s]] w4 fun e w' => e = .returned (.tuple #[.int .i64 (entryP r.nms i s), .bool (decide (entryP r.nms i s ≠ 0))]) ∧ Below w4.heap.size w4 w' from fun w4 hb => by
    have hr4 := hrp2.below (.inr (.inl hkp)) hb
    have := at_any hr4 hkp (hr4.lt (.inr (.inl hkp))) s (some ⟨np.blk, 0, none⟩)
    rw [hpi, hW.entry_some] at this
    exact this)
  have HAt2 := Lib.hid (show ∀ w4, Below w2.heap.size w2 w4 → Calls Try.prog 59 #[.agg #[.pointer (some ⟨nq.blk, 0, none⟩), .pointer (some ⟨nq.b, 0, none⟩), .string s2]] w4 fun e w' => e = .returned (.tuple #[.int .i64 (entryP r.nms i2 s2), .bool (decide (entryP r.nms i2 s2 ≠ 0))]) ∧ Below w4.heap.size w4 w' from fun w4 hb => by
    have hr4 := hrq2.below (.inr (.inl hkq)) hb
    have := at_any hr4 hkq (hr4.lt (.inr (.inl hkq))) s2 (some ⟨nq.blk, 0, none⟩)
    rw [hqi, hW.entry_some] at this
    exact this)
  have hx0 : x.id ≠ 0 := hW.ne0 hx
  rw [hxi, decide_eq_true hx0] at HAt
  have hrx2 := hrx.below (hW.kind x hx) hB
  have HX := Lib.hid (show ∀ w', Below w2.heap.size w2 w' → w'.cell? ⟨f, 1, none⟩ = some (.map (some mi)) ∧ w'.cell? ⟨nx.blk, 5, none⟩ = some (holdsV x nx) ∧ (Instr.lookup 103 (.map (some mi)) (.int .i64 x.id) false).run Try.prog w' = .ok (.pointer (some ⟨nx.blk, 0, none⟩)) w' ∧ w'.cell? ⟨nq.blk, 0, none⟩ = some (.int .i64 i2) ∧ w'.cell? ⟨nq.blk, 4, none⟩ = some (.int .i64 (linksN r q : Int)) from fun w' hb => by
    have h4 := h2.below hW hb
    have hg := h4.get hnx
    rw [hrx.id] at hg
    have hlk := (h4.look x.id).2
    rw [hg] at hlk
    have hq4 := (hrq2.below (.inr (.inl hkq)) hb).cells
    exact ⟨h4.cells.2.1, (hrx2.below (hW.kind x hx) hb).cells.2.2.2.2.2, hlk, by rw [← hqi]; exact hq4.1, hq4.2.2.2.2.1⟩)
  have hta : ∀ w, (Instr.typeAssert (holdsV x nx) 20 108 true).run Try.prog w = .ok (.tuple #[.pointer none, .bool false]) w := fun w => by rw [ta_dir, if_neg hkx]
  have ho0 : o.id ≠ 0 := hW.ne0 ho
  rw [hoi, decide_eq_true ho0] at HAt2
  have hbq : (o.id == x.id) = false := by rw [beq_eq_false_iff_ne]; exact hox
  have hro2 := hro.below (hW.kind o ho) hB
  have HO := Lib.hid (show ∀ w', Below w2.heap.size w2 w' → (Instr.lookup 103 (.map (some mi)) (.int .i64 o.id) false).run Try.prog w' = .ok (.pointer (some ⟨no.blk, 0, none⟩)) w' from fun w' hb => by
    have h4 := h2.below hW hb
    have hg := h4.get hno
    rw [hro.id] at hg
    have hlk := (h4.look o.id).2
    rw [hg] at hlk
    exact hlk)
  have HMy := Lib.hid (show ∀ w', Below w2.heap.size w2 w' → Calls Try.prog 63 #[.pointer (some ⟨f, 0, none⟩), .pointer (some ⟨no.blk, 0, none⟩), .bool false] w' fun e w'' => e = .returned (.int .i64 (mayP r o false)) ∧ w' = w'' from fun w' hb => by
    have := may_any (hro2.below (hW.kind o ho) hb) false (some ⟨f, 0, none⟩)
    exact this)
  have hmn : (mayP r o false != 0) = true := by rw [bne_iff_ne]; exact hmy
  generalize mayP r o false = my at *
  clear hw2 hB hb0 hb1 h h2 hW hrp2 hrq2 hpl _hp hkp hnp hrp _hq hkq hnq hrq hpi hqi hl hl2 hk hk2 hv hv2 hx hnx hrx hxi hx0 hrx2 hkx hmy ho hno hro hoi hox ho0 hro2
  go_enter Try.func54, Try.ntmps54
  go_wp2_with fail
  rw [HW2.out]
  go_upto_region 4 with (go_at_call 72; (with_reducible refine HP.out.mono ?_); rintro e w3 ⟨rfl, hB3⟩; have hs3 := hB3.size; replace hB3 := Lib.hid hB3)
  obtain ⟨w4, hw4, hB4, hs4, hb40, hb41⟩ := box2 w3 #[.pointer (some ⟨np.blk, 0, none⟩), .pointer (some ⟨np.b, 0, none⟩), .string s] #[.pointer (some ⟨nq.blk, 0, none⟩), .pointer (some ⟨nq.b, 0, none⟩), .string s2] 119 119
  rw [hw4]
  have c0 : w4.cell? ⟨w3.heap.size, 0, none⟩ = some (.pointer (some ⟨np.blk, 0, none⟩)) := by rw [cell_at hb40]; rfl
  have c1 : w4.cell? ⟨w3.heap.size, 1, none⟩ = some (.pointer (some ⟨np.b, 0, none⟩)) := by rw [cell_at hb40]; rfl
  have c2 : w4.cell? ⟨w3.heap.size, 2, none⟩ = some (.string s) := by rw [cell_at hb40]; rfl
  have HQ1 := Lib.hid hb40
  have HQ2 := Lib.hid hb41
  have HB4 := Lib.hid (hB3.out.trans (hB4.mono (by omega)))
  clear hw4 hb40 hb41 hB4
  go_wp2_with (first
    | (go_at_call 59; (with_reducible refine (HAt.out w4 HB4.out).mono ?_); rintro e w5 ⟨rfl, hB5⟩; have hs5 := hB5.size; have hY := (hB5.block _ (by omega)).trans HQ2.out; have d0 : w5.cell? ⟨w3.heap.size + 1, 0, none⟩ = _ := cell_at hY 0; have d1 : w5.cell? ⟨w3.heap.size + 1, 1, none⟩ = _ := cell_at hY 1; have d2 : w5.cell? ⟨w3.heap.size + 1, 2, none⟩ = _ := cell_at hY 2; have HQ25 := Lib.hid hY; have HQ15 := Lib.hid ((hB5.block _ (by omega)).trans HQ1.out); clear hY; have HB5 := Lib.hid (HB4.out.trans (hB5.mono HB4.out.size)); obtain ⟨x1, x2, x3, -, -⟩ := HX.out w5 HB5.out; clear hB5)
    | (go_at_call 59; (with_reducible refine (HAt2.out w5 HB5.out).mono ?_); rintro e w6 ⟨rfl, hB6⟩; have hs6 := hB6.size; have HQ26 := Lib.hid ((hB6.block _ (by omega)).trans HQ25.out); have HQ16 := Lib.hid ((hB6.block _ (by omega)).trans HQ15.out); have e0 : w6.cell? ⟨w3.heap.size, 0, none⟩ = _ := cell_at HQ16.out 0; have g0 : w6.cell? ⟨w3.heap.size + 1, 0, none⟩ = _ := cell_at HQ26.out 0; have HB6 := Lib.hid (HB5.out.trans (hB6.mono HB5.out.size)); obtain ⟨y1, y2, y3, y4, y5⟩ := HX.out w6 HB6.out; clear hB6; have z1 := HO.out w6 HB6.out)
    | (go_at_call 73; (with_reducible refine (HBl.out w6 HB6.out).mono ?_); rintro e w7 ⟨rfl, rfl⟩)
    | (go_at_call 63; (with_reducible refine (HMy.out w6 HB6.out).mono ?_); rintro e w7 ⟨rfl, rfl⟩))
  go_ret
  exact ⟨rfl, HB.out.trans (HB6.out.mono (by omega))⟩

set_option maxRecDepth 100000 in
set_option maxHeartbeats 8000000 in
theorem rename_may1 {w : World} {f mi mg K : Nat} {r : RFs} {N : List Nd} (h : FsN w f mi mg r N) (hW : Wf r K) (i g : Int) (s : ByteArray) (hs : s.size ≤ maxLen) (i2 g2 : Int) (s2 : ByteArray) (hs2 : s2.size ≤ maxLen)
    {p q : RIn} {np nq : Nd} (_hp : p ∈ r.ins) (hkp : p.kind = 2) (hnp : np ∈ N) (hrp : NodeR w r p np) (hq : q ∈ r.ins) (hkq : q.kind = 2) (hnq : nq ∈ N) (hrq : NodeR w r q nq) (hpi : p.id = i) (hqi : q.id = i2)
    (hl : liveP r (i, g) = true) (hl2 : liveP r (i2, g2) = true) (hk : (byIdP r.ins i).kind = 2) (hk2 : (byIdP r.ins i2).kind = 2) (hv : validP s = true) (hv2 : validP s2 = true)
    {x : RIn} {nx : Nd} (hx : x ∈ r.ins) (hnx : nx ∈ N) (hrx : NodeR w r x nx) (hxi : entryP r.nms i s = x.id) {o : RIn} {no : Nd} (ho : o ∈ r.ins) (hno : no ∈ N) (hro : NodeR w r o no) (hoi : entryP r.nms i2 s2 = o.id) (hox : o.id ≠ x.id) (hkx : x.kind = 2) (hbl : belowB r i2 x.id = false) (hmy : mayP r o true ≠ 0) :
    Calls Try.prog 54 #[.pointer (some ⟨f, 0, none⟩), .agg #[.int .i64 i, .int .i64 g], .string s, .agg #[.int .i64 i2, .int .i64 g2], .string s2] w fun e w' => e = .returned (.int .i64 (mayP r o true)) ∧ Below w.heap.size w w' := by
  obtain ⟨w2, hw2, hB, hz2, hb0, hb1⟩ := box2 w #[.int .i64 i, .int .i64 g] #[.int .i64 i2, .int .i64 g2] 68 68
  have t0 : w2.cell? ⟨w.heap.size, 0, none⟩ = some (.int .i64 i) := by rw [cell_at hb0]; rfl
  have t1 : w2.cell? ⟨w.heap.size, 1, none⟩ = some (.int .i64 g) := by rw [cell_at hb0]; rfl
  have t2 : w2.cell? ⟨w.heap.size + 1, 0, none⟩ = some (.int .i64 i2) := by rw [cell_at hb1]; rfl
  have t3 : w2.cell? ⟨w.heap.size + 1, 1, none⟩ = some (.int .i64 g2) := by rw [cell_at hb1]; rfl
  have h2 := h.below hW hB
  have HW2 := Lib.hid hw2
  have HB := Lib.hid hB
  have hrp2 := hrp.below (.inr (.inl hkp)) hB
  have hrq2 := hrq.below (.inr (.inl hkq)) hB
  have hpl := places_ok h2 hW i g s hs i2 g2 s2 hs2 hl hl2 hk hk2 hv hv2 hnp hnq (hrp.id.trans hpi) (hrq.id.trans hqi)
  have HP := Lib.hid hpl
  have HAt := Lib.hid (show ∀ w4, Below w2.heap.size w2 w4 → Calls Try.prog 59 #[.agg #[.pointer (some ⟨np.blk, 0, none⟩), .pointer (some ⟨np.b, 0, none⟩), .string s]] w4 fun e w' => e = .returned (.tuple #[.int .i64 (entryP r.nms i s), .bool (decide (entryP r.nms i s ≠ 0))]) ∧ Below w4.heap.size w4 w' from fun w4 hb => by
    have hr4 := hrp2.below (.inr (.inl hkp)) hb
    have := at_any hr4 hkp (hr4.lt (.inr (.inl hkp))) s (some ⟨np.blk, 0, none⟩)
    rw [hpi, hW.entry_some] at this
    exact this)
  have HAt2 := Lib.hid (show ∀ w4, Below w2.heap.size w2 w4 → Calls Try.prog 59 #[.agg #[.pointer (some ⟨nq.blk, 0, none⟩), .pointer (some ⟨nq.b, 0, none⟩), .string s2]] w4 fun e w' => e = .returned (.tuple #[.int .i64 (entryP r.nms i2 s2), .bool (decide (entryP r.nms i2 s2 ≠ 0))]) ∧ Below w4.heap.size w4 w' from fun w4 hb => by
    have hr4 := hrq2.below (.inr (.inl hkq)) hb
    have := at_any hr4 hkq (hr4.lt (.inr (.inl hkq))) s2 (some ⟨nq.blk, 0, none⟩)
    rw [hqi, hW.entry_some] at this
    exact this)
  have hx0 : x.id ≠ 0 := hW.ne0 hx
  rw [hxi, decide_eq_true hx0] at HAt
  have hrx2 := hrx.below (hW.kind x hx) hB
  have HX := Lib.hid (show ∀ w', Below w2.heap.size w2 w' → w'.cell? ⟨f, 1, none⟩ = some (.map (some mi)) ∧ w'.cell? ⟨nx.blk, 5, none⟩ = some (holdsV x nx) ∧ (Instr.lookup 103 (.map (some mi)) (.int .i64 x.id) false).run Try.prog w' = .ok (.pointer (some ⟨nx.blk, 0, none⟩)) w' ∧ w'.cell? ⟨nq.blk, 0, none⟩ = some (.int .i64 i2) ∧ w'.cell? ⟨nq.blk, 4, none⟩ = some (.int .i64 (linksN r q : Int)) from fun w' hb => by
    have h4 := h2.below hW hb
    have hg := h4.get hnx
    rw [hrx.id] at hg
    have hlk := (h4.look x.id).2
    rw [hg] at hlk
    have hq4 := (hrq2.below (.inr (.inl hkq)) hb).cells
    exact ⟨h4.cells.2.1, (hrx2.below (hW.kind x hx) hb).cells.2.2.2.2.2, hlk, by rw [← hqi]; exact hq4.1, hq4.2.2.2.2.1⟩)
  have hta : ∀ w, (Instr.typeAssert (holdsV x nx) 20 108 true).run Try.prog w = .ok (.tuple #[.pointer (some ⟨nx.b, 0, none⟩), .bool true]) w := fun w => by rw [ta_dir, if_pos hkx]; rfl
  have ho0 : o.id ≠ 0 := hW.ne0 ho
  rw [hoi, decide_eq_true ho0] at HAt2
  have hbq : (o.id == x.id) = false := by rw [beq_eq_false_iff_ne]; exact hox
  have hro2 := hro.below (hW.kind o ho) hB
  have HO := Lib.hid (show ∀ w', Below w2.heap.size w2 w' → (Instr.lookup 103 (.map (some mi)) (.int .i64 o.id) false).run Try.prog w' = .ok (.pointer (some ⟨no.blk, 0, none⟩)) w' from fun w' hb => by
    have h4 := h2.below hW hb
    have hg := h4.get hno
    rw [hro.id] at hg
    have hlk := (h4.look o.id).2
    rw [hg] at hlk
    exact hlk)
  have HMy := Lib.hid (show ∀ w', Below w2.heap.size w2 w' → Calls Try.prog 63 #[.pointer (some ⟨f, 0, none⟩), .pointer (some ⟨no.blk, 0, none⟩), .bool true] w' fun e w'' => e = .returned (.int .i64 (mayP r o true)) ∧ w' = w'' from fun w' hb => by
    have := may_any (hro2.below (hW.kind o ho) hb) true (some ⟨f, 0, none⟩)
    exact this)
  have HBl := Lib.hid (show ∀ w', Below w2.heap.size w2 w' → Calls Try.prog 73 #[.pointer (some ⟨f, 0, none⟩), .int .i64 i2, .int .i64 x.id] w' fun e w'' => e = .returned (.bool false) ∧ w' = w'' from fun w' hb => by
    have := below_any (h2.below hW hb) hW hq hkq x.id
    rw [hqi, hbl] at this
    exact this)
  have hmn : (mayP r o true != 0) = true := by rw [bne_iff_ne]; exact hmy
  generalize mayP r o true = my at *
  clear hw2 hB hb0 hb1 h h2 hW hrp2 hrq2 hpl _hp hkp hnp hrp hq hkq hnq hrq hpi hqi hl hl2 hk hk2 hv hv2 hx hnx hrx hxi hx0 hrx2 hkx hmy ho hno hro hoi hox ho0 hro2 hbl
  go_enter Try.func54, Try.ntmps54
  go_wp2_with fail
  rw [HW2.out]
  go_upto_region 4 with (go_at_call 72; (with_reducible refine HP.out.mono ?_); rintro e w3 ⟨rfl, hB3⟩; have hs3 := hB3.size; replace hB3 := Lib.hid hB3)
  obtain ⟨w4, hw4, hB4, hs4, hb40, hb41⟩ := box2 w3 #[.pointer (some ⟨np.blk, 0, none⟩), .pointer (some ⟨np.b, 0, none⟩), .string s] #[.pointer (some ⟨nq.blk, 0, none⟩), .pointer (some ⟨nq.b, 0, none⟩), .string s2] 119 119
  rw [hw4]
  have c0 : w4.cell? ⟨w3.heap.size, 0, none⟩ = some (.pointer (some ⟨np.blk, 0, none⟩)) := by rw [cell_at hb40]; rfl
  have c1 : w4.cell? ⟨w3.heap.size, 1, none⟩ = some (.pointer (some ⟨np.b, 0, none⟩)) := by rw [cell_at hb40]; rfl
  have c2 : w4.cell? ⟨w3.heap.size, 2, none⟩ = some (.string s) := by rw [cell_at hb40]; rfl
  have HQ1 := Lib.hid hb40
  have HQ2 := Lib.hid hb41
  have HB4 := Lib.hid (hB3.out.trans (hB4.mono (by omega)))
  clear hw4 hb40 hb41 hB4
  go_wp2_with (first
    | (go_at_call 59; (with_reducible refine (HAt.out w4 HB4.out).mono ?_); rintro e w5 ⟨rfl, hB5⟩; have hs5 := hB5.size; have hY := (hB5.block _ (by omega)).trans HQ2.out; have d0 : w5.cell? ⟨w3.heap.size + 1, 0, none⟩ = _ := cell_at hY 0; have d1 : w5.cell? ⟨w3.heap.size + 1, 1, none⟩ = _ := cell_at hY 1; have d2 : w5.cell? ⟨w3.heap.size + 1, 2, none⟩ = _ := cell_at hY 2; have HQ25 := Lib.hid hY; have HQ15 := Lib.hid ((hB5.block _ (by omega)).trans HQ1.out); clear hY; have HB5 := Lib.hid (HB4.out.trans (hB5.mono HB4.out.size)); obtain ⟨x1, x2, x3, -, -⟩ := HX.out w5 HB5.out; clear hB5)
    | (go_at_call 59; (with_reducible refine (HAt2.out w5 HB5.out).mono ?_); rintro e w6 ⟨rfl, hB6⟩; have hs6 := hB6.size; have HQ26 := Lib.hid ((hB6.block _ (by omega)).trans HQ25.out); have HQ16 := Lib.hid ((hB6.block _ (by omega)).trans HQ15.out); have e0 : w6.cell? ⟨w3.heap.size, 0, none⟩ = _ := cell_at HQ16.out 0; have g0 : w6.cell? ⟨w3.heap.size + 1, 0, none⟩ = _ := cell_at HQ26.out 0; have HB6 := Lib.hid (HB5.out.trans (hB6.mono HB5.out.size)); obtain ⟨y1, y2, y3, y4, y5⟩ := HX.out w6 HB6.out; clear hB6; have z1 := HO.out w6 HB6.out)
    | (go_at_call 73; (with_reducible refine (HBl.out w6 HB6.out).mono ?_); rintro e w7 ⟨rfl, rfl⟩)
    | (go_at_call 63; (with_reducible refine (HMy.out w6 HB6.out).mono ?_); rintro e w7 ⟨rfl, rfl⟩))
  go_ret
  exact ⟨rfl, HB.out.trans (HB6.out.mono (by omega))⟩

set_option maxRecDepth 100000 in
set_option maxHeartbeats 8000000 in
theorem rename_links {w : World} {f mi mg K : Nat} {r : RFs} {N : List Nd} (h : FsN w f mi mg r N) (hW : Wf r K) (i g : Int) (s : ByteArray) (hs : s.size ≤ maxLen) (i2 g2 : Int) (s2 : ByteArray) (hs2 : s2.size ≤ maxLen)
    {p q : RIn} {np nq : Nd} (_hp : p ∈ r.ins) (hkp : p.kind = 2) (hnp : np ∈ N) (hrp : NodeR w r p np) (hq : q ∈ r.ins) (hkq : q.kind = 2) (hnq : nq ∈ N) (hrq : NodeR w r q nq) (hpi : p.id = i) (hqi : q.id = i2)
    (hl : liveP r (i, g) = true) (hl2 : liveP r (i2, g2) = true) (hk : (byIdP r.ins i).kind = 2) (hk2 : (byIdP r.ins i2).kind = 2) (hv : validP s = true) (hv2 : validP s2 = true)
    {x : RIn} {nx : Nd} (hx : x ∈ r.ins) (hnx : nx ∈ N) (hrx : NodeR w r x nx) (hxi : entryP r.nms i s = x.id) (hkx : x.kind = 2) (hbl : belowB r i2 x.id = false) (ho : entryP r.nms i2 s2 = 0) (hpq : np.blk ≠ nq.blk) (hlq : 20 ≤ linksN r q) :
    Calls Try.prog 54 #[.pointer (some ⟨f, 0, none⟩), .agg #[.int .i64 i, .int .i64 g], .string s, .agg #[.int .i64 i2, .int .i64 g2], .string s2] w fun e w' => e = .returned (.int .i64 179) ∧ Below w.heap.size w w' := by
  obtain ⟨w2, hw2, hB, hz2, hb0, hb1⟩ := box2 w #[.int .i64 i, .int .i64 g] #[.int .i64 i2, .int .i64 g2] 68 68
  have t0 : w2.cell? ⟨w.heap.size, 0, none⟩ = some (.int .i64 i) := by rw [cell_at hb0]; rfl
  have t1 : w2.cell? ⟨w.heap.size, 1, none⟩ = some (.int .i64 g) := by rw [cell_at hb0]; rfl
  have t2 : w2.cell? ⟨w.heap.size + 1, 0, none⟩ = some (.int .i64 i2) := by rw [cell_at hb1]; rfl
  have t3 : w2.cell? ⟨w.heap.size + 1, 1, none⟩ = some (.int .i64 g2) := by rw [cell_at hb1]; rfl
  have h2 := h.below hW hB
  have HW2 := Lib.hid hw2
  have HB := Lib.hid hB
  have hrp2 := hrp.below (.inr (.inl hkp)) hB
  have hrq2 := hrq.below (.inr (.inl hkq)) hB
  have hpl := places_ok h2 hW i g s hs i2 g2 s2 hs2 hl hl2 hk hk2 hv hv2 hnp hnq (hrp.id.trans hpi) (hrq.id.trans hqi)
  have HP := Lib.hid hpl
  have HAt := Lib.hid (show ∀ w4, Below w2.heap.size w2 w4 → Calls Try.prog 59 #[.agg #[.pointer (some ⟨np.blk, 0, none⟩), .pointer (some ⟨np.b, 0, none⟩), .string s]] w4 fun e w' => e = .returned (.tuple #[.int .i64 (entryP r.nms i s), .bool (decide (entryP r.nms i s ≠ 0))]) ∧ Below w4.heap.size w4 w' from fun w4 hb => by
    have hr4 := hrp2.below (.inr (.inl hkp)) hb
    have := at_any hr4 hkp (hr4.lt (.inr (.inl hkp))) s (some ⟨np.blk, 0, none⟩)
    rw [hpi, hW.entry_some] at this
    exact this)
  have HAt2 := Lib.hid (show ∀ w4, Below w2.heap.size w2 w4 → Calls Try.prog 59 #[.agg #[.pointer (some ⟨nq.blk, 0, none⟩), .pointer (some ⟨nq.b, 0, none⟩), .string s2]] w4 fun e w' => e = .returned (.tuple #[.int .i64 (entryP r.nms i2 s2), .bool (decide (entryP r.nms i2 s2 ≠ 0))]) ∧ Below w4.heap.size w4 w' from fun w4 hb => by
    have hr4 := hrq2.below (.inr (.inl hkq)) hb
    have := at_any hr4 hkq (hr4.lt (.inr (.inl hkq))) s2 (some ⟨nq.blk, 0, none⟩)
    rw [hqi, hW.entry_some] at this
    exact this)
  have hx0 : x.id ≠ 0 := hW.ne0 hx
  rw [hxi, decide_eq_true hx0] at HAt
  have hrx2 := hrx.below (hW.kind x hx) hB
  have HX := Lib.hid (show ∀ w', Below w2.heap.size w2 w' → w'.cell? ⟨f, 1, none⟩ = some (.map (some mi)) ∧ w'.cell? ⟨nx.blk, 5, none⟩ = some (holdsV x nx) ∧ (Instr.lookup 103 (.map (some mi)) (.int .i64 x.id) false).run Try.prog w' = .ok (.pointer (some ⟨nx.blk, 0, none⟩)) w' ∧ w'.cell? ⟨nq.blk, 0, none⟩ = some (.int .i64 i2) ∧ w'.cell? ⟨nq.blk, 4, none⟩ = some (.int .i64 (linksN r q : Int)) from fun w' hb => by
    have h4 := h2.below hW hb
    have hg := h4.get hnx
    rw [hrx.id] at hg
    have hlk := (h4.look x.id).2
    rw [hg] at hlk
    have hq4 := (hrq2.below (.inr (.inl hkq)) hb).cells
    exact ⟨h4.cells.2.1, (hrx2.below (hW.kind x hx) hb).cells.2.2.2.2.2, hlk, by rw [← hqi]; exact hq4.1, hq4.2.2.2.2.1⟩)
  have hta : ∀ w, (Instr.typeAssert (holdsV x nx) 20 108 true).run Try.prog w = .ok (.tuple #[.pointer (some ⟨nx.b, 0, none⟩), .bool true]) w := fun w => by rw [ta_dir, if_pos hkx]; rfl
  rw [ho] at HAt2
  simp only [ne_eq, not_true_eq_false, decide_false] at HAt2
  have HBl := Lib.hid (show ∀ w', Below w2.heap.size w2 w' → Calls Try.prog 73 #[.pointer (some ⟨f, 0, none⟩), .int .i64 i2, .int .i64 x.id] w' fun e w'' => e = .returned (.bool false) ∧ w' = w'' from fun w' hb => by
    have := below_any (h2.below hW hb) hW hq hkq x.id
    rw [hqi, hbl] at this
    exact this)
  have q3 : decide (20 ≤ (linksN r q : Int)) = true := decide_eq_true (by omega)
  have q4 : decide (20 ≤ linksN r q) = true := decide_eq_true hlq
  have HNq := Lib.hid (show ∀ w', Below w2.heap.size w2 w' → (binOp .neq 107 (.pointer (some ⟨np.blk, 0, none⟩)) (.pointer (some ⟨nq.blk, 0, none⟩))).run Try.prog w' = .ok (.bool true) w' from fun w' hb => by
    have := neq_ino (hrp2.below (.inr (.inl hkp)) hb).head (hrq2.below (.inr (.inl hkq)) hb).head
    rw [decide_eq_false hpq] at this
    exact this)
  clear hw2 hB hb0 hb1 h h2 hW hrp2 hrq2 hpl _hp hkp hnp hrp hq hkq hnq hrq hpi hqi hl hl2 hk hk2 hv hv2 hx hnx hrx hxi hx0 hrx2 ho hkx hbl hpq
  go_enter Try.func54, Try.ntmps54
  go_wp2_with fail
  rw [HW2.out]
  go_upto_region 4 with (go_at_call 72; (with_reducible refine HP.out.mono ?_); rintro e w3 ⟨rfl, hB3⟩; have hs3 := hB3.size; replace hB3 := Lib.hid hB3)
  obtain ⟨w4, hw4, hB4, hs4, hb40, hb41⟩ := box2 w3 #[.pointer (some ⟨np.blk, 0, none⟩), .pointer (some ⟨np.b, 0, none⟩), .string s] #[.pointer (some ⟨nq.blk, 0, none⟩), .pointer (some ⟨nq.b, 0, none⟩), .string s2] 119 119
  rw [hw4]
  have c0 : w4.cell? ⟨w3.heap.size, 0, none⟩ = some (.pointer (some ⟨np.blk, 0, none⟩)) := by rw [cell_at hb40]; rfl
  have c1 : w4.cell? ⟨w3.heap.size, 1, none⟩ = some (.pointer (some ⟨np.b, 0, none⟩)) := by rw [cell_at hb40]; rfl
  have c2 : w4.cell? ⟨w3.heap.size, 2, none⟩ = some (.string s) := by rw [cell_at hb40]; rfl
  have HQ1 := Lib.hid hb40
  have HQ2 := Lib.hid hb41
  have HB4 := Lib.hid (hB3.out.trans (hB4.mono (by omega)))
  clear hw4 hb40 hb41 hB4
  go_wp2_with (first
    | (go_at_call 59; (with_reducible refine (HAt.out w4 HB4.out).mono ?_); rintro e w5 ⟨rfl, hB5⟩; have hs5 := hB5.size; have hY := (hB5.block _ (by omega)).trans HQ2.out; have d0 : w5.cell? ⟨w3.heap.size + 1, 0, none⟩ = _ := cell_at hY 0; have d1 : w5.cell? ⟨w3.heap.size + 1, 1, none⟩ = _ := cell_at hY 1; have d2 : w5.cell? ⟨w3.heap.size + 1, 2, none⟩ = _ := cell_at hY 2; have HQ25 := Lib.hid hY; have HQ15 := Lib.hid ((hB5.block _ (by omega)).trans HQ1.out); clear hY; have HB5 := Lib.hid (HB4.out.trans (hB5.mono HB4.out.size)); obtain ⟨x1, x2, x3, -, -⟩ := HX.out w5 HB5.out; clear hB5)
    | (go_at_call 59; (with_reducible refine (HAt2.out w5 HB5.out).mono ?_); rintro e w6 ⟨rfl, hB6⟩; have hs6 := hB6.size; have HQ26 := Lib.hid ((hB6.block _ (by omega)).trans HQ25.out); have HQ16 := Lib.hid ((hB6.block _ (by omega)).trans HQ15.out); have e0 : w6.cell? ⟨w3.heap.size, 0, none⟩ = _ := cell_at HQ16.out 0; have g0 : w6.cell? ⟨w3.heap.size + 1, 0, none⟩ = _ := cell_at HQ26.out 0; have HB6 := Lib.hid (HB5.out.trans (hB6.mono HB5.out.size)); obtain ⟨y1, y2, y3, y4, y5⟩ := HX.out w6 HB6.out; clear hB6; have y6 := HNq.out w6 HB6.out)
    | (go_at_call 73; (with_reducible refine (HBl.out w6 HB6.out).mono ?_); rintro e w7 ⟨rfl, rfl⟩))
  go_ret
  exact ⟨rfl, HB.out.trans (HB6.out.mono (by omega))⟩

set_option maxRecDepth 100000 in
set_option maxHeartbeats 8000000 in
theorem rename_mv0d {w : World} {f mi mg K : Nat} {r : RFs} {N : List Nd} (h : FsN w f mi mg r N) (hW : Wf r K) (i g : Int) (s : ByteArray) (hs : s.size ≤ maxLen) (i2 g2 : Int) (s2 : ByteArray) (hs2 : s2.size ≤ maxLen)
    {p q : RIn} {np nq : Nd} (hp : p ∈ r.ins) (hkp : p.kind = 2) (hnp : np ∈ N) (hrp : NodeR w r p np) (hq : q ∈ r.ins) (hkq : q.kind = 2) (hnq : nq ∈ N) (hrq : NodeR w r q nq) (hpi : p.id = i) (hqi : q.id = i2)
    (hl : liveP r (i, g) = true) (hl2 : liveP r (i2, g2) = true) (hk : (byIdP r.ins i).kind = 2) (hk2 : (byIdP r.ins i2).kind = 2) (hv : validP s = true) (hv2 : validP s2 = true)
    {x : RIn} {nx : Nd} (hx : x ∈ r.ins) (hnx : nx ∈ N) (hrx : NodeR w r x nx) (hxi : entryP r.nms i s = x.id) (hxq : x.id ≠ q.id) (ho : entryP r.nms i2 s2 = 0) (hkx : ¬ x.kind = 2) (hpq : np.blk ≠ nq.blk) :
    Calls Try.prog 54 #[.pointer (some ⟨f, 0, none⟩), .agg #[.int .i64 i, .int .i64 g], .string s, .agg #[.int .i64 i2, .int .i64 g2], .string s2] w fun e w' => e = .returned (.int .i64 0) ∧ StepR w w' f mi mg N (movedP r i s i2 s2 x) := by
  obtain ⟨w2, hw2, hB, hz2, hb0, hb1⟩ := box2 w #[.int .i64 i, .int .i64 g] #[.int .i64 i2, .int .i64 g2] 68 68
  have t0 : w2.cell? ⟨w.heap.size, 0, none⟩ = some (.int .i64 i) := by rw [cell_at hb0]; rfl
  have t1 : w2.cell? ⟨w.heap.size, 1, none⟩ = some (.int .i64 g) := by rw [cell_at hb0]; rfl
  have t2 : w2.cell? ⟨w.heap.size + 1, 0, none⟩ = some (.int .i64 i2) := by rw [cell_at hb1]; rfl
  have t3 : w2.cell? ⟨w.heap.size + 1, 1, none⟩ = some (.int .i64 g2) := by rw [cell_at hb1]; rfl
  have h2 := h.below hW hB
  have HW2 := Lib.hid hw2
  have HB := Lib.hid hB
  have hrp2 := hrp.below (.inr (.inl hkp)) hB
  have hrq2 := hrq.below (.inr (.inl hkq)) hB
  have hpl := places_ok h2 hW i g s hs i2 g2 s2 hs2 hl hl2 hk hk2 hv hv2 hnp hnq (hrp.id.trans hpi) (hrq.id.trans hqi)
  have HP := Lib.hid hpl
  have HAt := Lib.hid (show ∀ w4, Below w2.heap.size w2 w4 → Calls Try.prog 59 #[.agg #[.pointer (some ⟨np.blk, 0, none⟩), .pointer (some ⟨np.b, 0, none⟩), .string s]] w4 fun e w' => e = .returned (.tuple #[.int .i64 (entryP r.nms i s), .bool (decide (entryP r.nms i s ≠ 0))]) ∧ Below w4.heap.size w4 w' from fun w4 hb => by
    have hr4 := hrp2.below (.inr (.inl hkp)) hb
    have := at_any hr4 hkp (hr4.lt (.inr (.inl hkp))) s (some ⟨np.blk, 0, none⟩)
    rw [hpi, hW.entry_some] at this
    exact this)
  have HAt2 := Lib.hid (show ∀ w4, Below w2.heap.size w2 w4 → Calls Try.prog 59 #[.agg #[.pointer (some ⟨nq.blk, 0, none⟩), .pointer (some ⟨nq.b, 0, none⟩), .string s2]] w4 fun e w' => e = .returned (.tuple #[.int .i64 (entryP r.nms i2 s2), .bool (decide (entryP r.nms i2 s2 ≠ 0))]) ∧ Below w4.heap.size w4 w' from fun w4 hb => by
    have hr4 := hrq2.below (.inr (.inl hkq)) hb
    have := at_any hr4 hkq (hr4.lt (.inr (.inl hkq))) s2 (some ⟨nq.blk, 0, none⟩)
    rw [hqi, hW.entry_some] at this
    exact this)
  have hx0 : x.id ≠ 0 := hW.ne0 hx
  rw [hxi, decide_eq_true hx0] at HAt
  have hrx2 := hrx.below (hW.kind x hx) hB
  have HX := Lib.hid (show ∀ w', Below w2.heap.size w2 w' → w'.cell? ⟨f, 1, none⟩ = some (.map (some mi)) ∧ w'.cell? ⟨nx.blk, 5, none⟩ = some (holdsV x nx) ∧ (Instr.lookup 103 (.map (some mi)) (.int .i64 x.id) false).run Try.prog w' = .ok (.pointer (some ⟨nx.blk, 0, none⟩)) w' ∧ w'.cell? ⟨nq.blk, 0, none⟩ = some (.int .i64 i2) ∧ w'.cell? ⟨nq.blk, 4, none⟩ = some (.int .i64 (linksN r q : Int)) from fun w' hb => by
    have h4 := h2.below hW hb
    have hg := h4.get hnx
    rw [hrx.id] at hg
    have hlk := (h4.look x.id).2
    rw [hg] at hlk
    have hq4 := (hrq2.below (.inr (.inl hkq)) hb).cells
    exact ⟨h4.cells.2.1, (hrx2.below (hW.kind x hx) hb).cells.2.2.2.2.2, hlk, by rw [← hqi]; exact hq4.1, hq4.2.2.2.2.1⟩)
  have hta : ∀ w, (Instr.typeAssert (holdsV x nx) 20 108 true).run Try.prog w = .ok (.tuple #[.pointer none, .bool false]) w := fun w => by rw [ta_dir, if_neg hkx]
  have hh0 : entryP r.nms i s ≠ 0 := by rw [hxi]; exact hW.ne0 hx
  obtain ⟨n0, hn0, m1, m2, m3⟩ := entry_mem hh0
  rw [hxi] at m3
  rw [← hpi] at m1
  have hxp : x.id ≠ p.id := by rw [← m3, ← m1]; exact hW.self_ne hn0
  have HH := Lib.hid h
  have HWf := Lib.hid hW
  have HR := Lib.hid (And.intro hrx (And.intro hrp hrq))
  have HM := Lib.hid (And.intro hx (And.intro hp hq))
  have HN := Lib.hid (And.intro hnx (And.intro hnp hnq))
  have H0 := Lib.hid (And.intro hn0 (And.intro m1 (And.intro m2 m3)))
  have HK := Lib.hid (And.intro hkp hkq)
  have HI := Lib.hid (And.intro hpi hqi)
  have HXP := Lib.hid hxp
  have HNo := Lib.hid (entry_none hW (l := r.nms) (fun _ hn => hn) ho)
  have HN6 := Lib.hid (show ∀ w', Below w2.heap.size w2 w' → FsN w' f mi mg r N ∧ NodeR w' r p np ∧ NodeR w' r q nq ∧ NodeR w' r x nx from fun w' hb => ⟨h2.below hW hb, hrp2.below (.inr (.inl hkp)) hb, hrq2.below (.inr (.inl hkq)) hb, hrx2.below (hW.kind x hx) hb⟩)
  rw [ho] at HAt2
  simp only [ne_eq, not_true_eq_false, decide_false] at HAt2
  have HKX := Lib.hid hkx
  have HXQ := Lib.hid hxq
  have HAg := Lib.hid (show (aget (namesP r.nms q.id) s2).isSome = false by rw [hW.entry_some, hqi, ho]; rfl)
  have hmm : nq.m ≠ np.m := fun e => hpq (by
    by_cases c : nq = np
    · rw [c]
    · exact absurd (e ▸ Nd.m_mem (hrp.ne hkp).1) (h.apart hnq hnp c _ (Nd.m_mem (hrq.ne hkq).1)))
  have HMm := Lib.hid hmm
  have HPB := Lib.hid hpq
  have HPQ := Lib.hid (show p.id ≠ q.id from fun e => hpq (by rw [nodup_inj h.idU hnp hnq (hrp.id.trans (e.trans hrq.id.symm))]))
  clear hw2 hB hb0 hb1 h h2 hW hrp2 hrq2 hpl hp hkp hnp hrp hq hkq hnq hrq hpi hqi hl hl2 hk hk2 hv hv2 hx hnx hrx hxi hx0 hrx2 ho hkx hpq hmm hxq hh0 hn0 m1 m2 m3 hxp
  go_enter Try.func54, Try.ntmps54
  go_wp2_with fail
  rw [HW2.out]
  go_upto_region 4 with (go_at_call 72; (with_reducible refine HP.out.mono ?_); rintro e w3 ⟨rfl, hB3⟩; have hs3 := hB3.size; replace hB3 := Lib.hid hB3)
  obtain ⟨w4, hw4, hB4, hs4, hb40, hb41⟩ := box2 w3 #[.pointer (some ⟨np.blk, 0, none⟩), .pointer (some ⟨np.b, 0, none⟩), .string s] #[.pointer (some ⟨nq.blk, 0, none⟩), .pointer (some ⟨nq.b, 0, none⟩), .string s2] 119 119
  rw [hw4]
  have c0 : w4.cell? ⟨w3.heap.size, 0, none⟩ = some (.pointer (some ⟨np.blk, 0, none⟩)) := by rw [cell_at hb40]; rfl
  have c1 : w4.cell? ⟨w3.heap.size, 1, none⟩ = some (.pointer (some ⟨np.b, 0, none⟩)) := by rw [cell_at hb40]; rfl
  have c2 : w4.cell? ⟨w3.heap.size, 2, none⟩ = some (.string s) := by rw [cell_at hb40]; rfl
  have HQ1 := Lib.hid hb40
  have HQ2 := Lib.hid hb41
  have HB4 := Lib.hid (hB3.out.trans (hB4.mono (by omega)))
  clear hw4 hb40 hb41 hB4
  go_upto_region 22 with (first
    | (go_at_call 59; (with_reducible refine (HAt.out w4 HB4.out).mono ?_); rintro e w5 ⟨rfl, hB5⟩; have hs5 := hB5.size; have hY := (hB5.block _ (by omega)).trans HQ2.out; have d0 : w5.cell? ⟨w3.heap.size + 1, 0, none⟩ = _ := cell_at hY 0; have d1 : w5.cell? ⟨w3.heap.size + 1, 1, none⟩ = _ := cell_at hY 1; have d2 : w5.cell? ⟨w3.heap.size + 1, 2, none⟩ = _ := cell_at hY 2; have HQ25 := Lib.hid hY; have HQ15 := Lib.hid ((hB5.block _ (by omega)).trans HQ1.out); clear hY; have HB5 := Lib.hid (HB4.out.trans (hB5.mono HB4.out.size)); obtain ⟨x1, x2, x3, -, -⟩ := HX.out w5 HB5.out; clear hB5)
    | (go_at_call 59; (with_reducible refine (HAt2.out w5 HB5.out).mono ?_); rintro e w6 ⟨rfl, hB6⟩; have hs6 := hB6.size; have HQ26 := Lib.hid ((hB6.block _ (by omega)).trans HQ25.out); have HQ16 := Lib.hid ((hB6.block _ (by omega)).trans HQ15.out); have e0 : w6.cell? ⟨w3.heap.size, 0, none⟩ = _ := cell_at HQ16.out 0; have g0 : w6.cell? ⟨w3.heap.size + 1, 0, none⟩ = _ := cell_at HQ26.out 0; have HB6 := Lib.hid (HB5.out.trans (hB6.mono HB5.out.size)); obtain ⟨y1, y2, y3, y4, y5⟩ := HX.out w6 HB6.out; clear hB6))
  obtain ⟨F6, P6, Q6, X6⟩ := HN6.out w6 HB6.out
  have a1 : w6.cell? ⟨w3.heap.size, 1, none⟩ = some (.pointer (some ⟨np.b, 0, none⟩)) := by rw [cell_at HQ16.out]; rfl
  have a2 : w6.cell? ⟨np.b, 0, none⟩ = some (.map (some np.m)) := by rw [cell_at (P6.dir HK.out.1).1]; rfl
  have hm6 : MapB w6 np.m strK intK (namesP r.nms p.id) := (P6.dir HK.out.1).2
  obtain ⟨o1, hdel, hmp1⟩ := run_delete (P := Try.prog) (ty := 0) (tk := 9) KS (t := 109) Try.underlying109 hm6 s
  unfold strK at hdel
  have M1 := Lib.hid hmp1
  have G6 := Lib.hid F6
  have P6' := Lib.hid P6
  have Q6' := Lib.hid Q6
  have X6' := Lib.hid X6
  clear F6 P6 Q6 X6 hm6 hmp1
  go_upto_region 23 with fail
  obtain ⟨w7, hw7⟩ : ∃ w7, putObj w6 np.m o1 = w7 := ⟨_, rfl⟩
  rw [hw7]
  have k7 : ∀ k, k ≠ np.m → w7.heap[k]? = w6.heap[k]? := fun k hk => by rw [← hw7]; exact putObj_other w6 o1 hk
  rw [hw7] at M1
  have W7 := Lib.hid hw7
  have K7 := Lib.hid k7
  have b1 : w7.cell? ⟨w3.heap.size + 1, 1, none⟩ = some (.pointer (some ⟨nq.b, 0, none⟩)) := by rw [cell_at ((k7 _ (map_ne (P6'.out.dir HK.out.1).2 HQ26.out).symm).trans HQ26.out)]; rfl
  have b2 : w7.cell? ⟨nq.b, 0, none⟩ = some (.map (some nq.m)) := by rw [cell_at ((k7 _ (map_ne (P6'.out.dir HK.out.1).2 (Q6'.out.dir HK.out.2).1).symm).trans (Q6'.out.dir HK.out.2).1)]; rfl
  have hm7 : MapB w7 nq.m strK intK (namesP r.nms q.id) := (Q6'.out.dir HK.out.2).2.of_block (k7 _ HMm.out)
  have hag : (aget (namesP r.nms q.id) s2).isSome = false := HAg.out
  obtain ⟨o2, hup, hmp2⟩ := run_update KS (P := Try.prog) (t := 109) Try.underlying109 hm7 s2 x.id
  rw [aput_new hag] at hmp2
  unfold strK intK at hup
  have M2 := Lib.hid hmp2
  clear hm7 hag hmp2 hw7 k7 hdel a1 a2
  go_upto_region 24 with fail
  obtain ⟨w8, hw8⟩ : ∃ w8, putObj w7 nq.m o2 = w8 := ⟨_, rfl⟩
  rw [hw8]
  rw [hw8] at M2
  have W8 := Lib.hid hw8
  have K8 := Lib.hid (show ∀ k, k ≠ nq.m → w8.heap[k]? = w7.heap[k]? from fun k hk => by rw [← hw8]; exact putObj_other w7 o2 hk)
  clear hw8 hup b1 b2
  go_wp2
  go_ret
  refine ⟨rfl, ?_⟩
  obtain ⟨ei, eq⟩ := HI.out
  subst ei eq
  obtain ⟨hx, hp, hq⟩ := HM.out
  obtain ⟨hnx, hnp, hnq⟩ := HN.out
  obtain ⟨hrx, hrp, hrq⟩ := HR.out
  obtain ⟨hn0, m1, m2, m3⟩ := H0.out
  have B6 := HB.out.trans (HB6.out.mono (show w.heap.size ≤ w2.heap.size by omega))
  have hlk := fun y => moved_links HWf.out hx hn0 m3 q.id s2 (y := y) (y' := y) rfl rfl
  rw [m1, m2] at hlk
  have hns : ∀ j, namesP (movedP r p.id s q.id s2 x).nms j = _ := fun j => by rw [moved_nms, namesP_named, namesP_unnamed]
  have pm := (P6'.out.dir HK.out.1).2
  have qm := (Q6'.out.dir HK.out.2).2
  have hl : ∀ y, linksN (movedP r p.id s q.id s2 x) y = linksN r y := fun y => by
    have := hlk y
    rw [if_neg (fun e => HKX.out e.2.1), if_neg (fun e => HKX.out e.2.1)] at this
    exact this
  refine ⟨N, moved_fs HH.out HWf.out hx hnx hrx hp HK.out.1 hnp hrp hq HK.out.2 hnq hrq hn0 m1 m2 m3 HXP.out HXQ.out (fun k hk a b _ _ _ => (K8.out k b).trans ((K7.out k a).trans (B6.block k hk))) ?_ ?_ ?_ ?_ (fun e => absurd e HKX.out), fun k hk => .inl hk, ?_⟩
  · rw [hns, if_neg HPQ.out, if_pos rfl]
    exact M1.out.of_block (K8.out _ (fun e => HMm.out e.symm))
  · rw [hns, if_pos rfl, if_neg (fun e => HPQ.out e.symm)]
    exact M2.out
  · rw [hl]
    exact (K8.out _ (map_ne qm P6'.out.head).symm).trans ((K7.out _ (map_ne pm P6'.out.head).symm).trans P6'.out.head)
  · rw [hl]
    exact (K8.out _ (map_ne qm Q6'.out.head).symm).trans ((K7.out _ (map_ne pm Q6'.out.head).symm).trans Q6'.out.head)
  · rw [← W8.out, ← W7.out]
    exact ((Frm.of_below B6).putObj (.inl (fp_node hnp (Nd.m_mem (hrp.ne HK.out.1).1))) o1).putObj (.inl (fp_node hnq (Nd.m_mem (hrq.ne HK.out.2).1))) o2

set_option maxRecDepth 100000 in
set_option maxHeartbeats 8000000 in
theorem rename_mv0s {w : World} {f mi mg K : Nat} {r : RFs} {N : List Nd} (h : FsN w f mi mg r N) (hW : Wf r K) (i g : Int) (s : ByteArray) (hs : s.size ≤ maxLen) (i2 g2 : Int) (s2 : ByteArray) (hs2 : s2.size ≤ maxLen)
    {p q : RIn} {np nq : Nd} (hp : p ∈ r.ins) (hkp : p.kind = 2) (hnp : np ∈ N) (hrp : NodeR w r p np) (hq : q ∈ r.ins) (hkq : q.kind = 2) (hnq : nq ∈ N) (hrq : NodeR w r q nq) (hpi : p.id = i) (hqi : q.id = i2)
    (hl : liveP r (i, g) = true) (hl2 : liveP r (i2, g2) = true) (hk : (byIdP r.ins i).kind = 2) (hk2 : (byIdP r.ins i2).kind = 2) (hv : validP s = true) (hv2 : validP s2 = true)
    {x : RIn} {nx : Nd} (hx : x ∈ r.ins) (hnx : nx ∈ N) (hrx : NodeR w r x nx) (hxi : entryP r.nms i s = x.id) (hxq : x.id ≠ q.id) (ho : entryP r.nms i2 s2 = 0) (hkx : ¬ x.kind = 2) (hpq : np = nq) :
    Calls Try.prog 54 #[.pointer (some ⟨f, 0, none⟩), .agg #[.int .i64 i, .int .i64 g], .string s, .agg #[.int .i64 i2, .int .i64 g2], .string s2] w fun e w' => e = .returned (.int .i64 0) ∧ StepR w w' f mi mg N (movedP r i s i2 s2 x) := by
  subst hpq
  obtain rfl := h.uniq hW hp hrp hq hrq
  obtain rfl : i = i2 := hpi.symm.trans hqi
  obtain ⟨w2, hw2, hB, hz2, hb0, hb1⟩ := box2 w #[.int .i64 i, .int .i64 g] #[.int .i64 i, .int .i64 g2] 68 68
  have t0 : w2.cell? ⟨w.heap.size, 0, none⟩ = some (.int .i64 i) := by rw [cell_at hb0]; rfl
  have t1 : w2.cell? ⟨w.heap.size, 1, none⟩ = some (.int .i64 g) := by rw [cell_at hb0]; rfl
  have t2 : w2.cell? ⟨w.heap.size + 1, 0, none⟩ = some (.int .i64 i) := by rw [cell_at hb1]; rfl
  have t3 : w2.cell? ⟨w.heap.size + 1, 1, none⟩ = some (.int .i64 g2) := by rw [cell_at hb1]; rfl
  have h2 := h.below hW hB
  have HW2 := Lib.hid hw2
  have HB := Lib.hid hB
  have hrp2 := hrp.below (.inr (.inl hkp)) hB
  have hrq2 := hrq.below (.inr (.inl hkq)) hB
  have hpl := places_ok h2 hW i g s hs i g2 s2 hs2 hl hl2 hk hk2 hv hv2 hnp hnq (hrp.id.trans hpi) (hrq.id.trans hqi)
  have HP := Lib.hid hpl
  have HAt := Lib.hid (show ∀ w4, Below w2.heap.size w2 w4 → Calls Try.prog 59 #[.agg #[.pointer (some ⟨np.blk, 0, none⟩), .pointer (some ⟨np.b, 0, none⟩), .string s]] w4 fun e w' => e = .returned (.tuple #[.int .i64 (entryP r.nms i s), .bool (decide (entryP r.nms i s ≠ 0))]) ∧ Below w4.heap.size w4 w' from fun w4 hb => by
    have hr4 := hrp2.below (.inr (.inl hkp)) hb
    have := at_any hr4 hkp (hr4.lt (.inr (.inl hkp))) s (some ⟨np.blk, 0, none⟩)
    rw [hpi, hW.entry_some] at this
    exact this)
  have HAt2 := Lib.hid (show ∀ w4, Below w2.heap.size w2 w4 → Calls Try.prog 59 #[.agg #[.pointer (some ⟨np.blk, 0, none⟩), .pointer (some ⟨np.b, 0, none⟩), .string s2]] w4 fun e w' => e = .returned (.tuple #[.int .i64 (entryP r.nms i s2), .bool (decide (entryP r.nms i s2 ≠ 0))]) ∧ Below w4.heap.size w4 w' from fun w4 hb => by
    have hr4 := hrq2.below (.inr (.inl hkq)) hb
    have := at_any hr4 hkq (hr4.lt (.inr (.inl hkq))) s2 (some ⟨np.blk, 0, none⟩)
    rw [hqi, hW.entry_some] at this
    exact this)
  have hx0 : x.id ≠ 0 := hW.ne0 hx
  rw [hxi, decide_eq_true hx0] at HAt
  have hrx2 := hrx.below (hW.kind x hx) hB
  have HX := Lib.hid (show ∀ w', Below w2.heap.size w2 w' → w'.cell? ⟨f, 1, none⟩ = some (.map (some mi)) ∧ w'.cell? ⟨nx.blk, 5, none⟩ = some (holdsV x nx) ∧ (Instr.lookup 103 (.map (some mi)) (.int .i64 x.id) false).run Try.prog w' = .ok (.pointer (some ⟨nx.blk, 0, none⟩)) w' ∧ w'.cell? ⟨np.blk, 0, none⟩ = some (.int .i64 i) ∧ w'.cell? ⟨np.blk, 4, none⟩ = some (.int .i64 (linksN r p : Int)) from fun w' hb => by
    have h4 := h2.below hW hb
    have hg := h4.get hnx
    rw [hrx.id] at hg
    have hlk := (h4.look x.id).2
    rw [hg] at hlk
    have hq4 := (hrq2.below (.inr (.inl hkq)) hb).cells
    exact ⟨h4.cells.2.1, (hrx2.below (hW.kind x hx) hb).cells.2.2.2.2.2, hlk, by rw [← hqi]; exact hq4.1, hq4.2.2.2.2.1⟩)
  have hta : ∀ w, (Instr.typeAssert (holdsV x nx) 20 108 true).run Try.prog w = .ok (.tuple #[.pointer none, .bool false]) w := fun w => by rw [ta_dir, if_neg hkx]
  have hh0 : entryP r.nms i s ≠ 0 := by rw [hxi]; exact hW.ne0 hx
  obtain ⟨n0, hn0, m1, m2, m3⟩ := entry_mem hh0
  rw [hxi] at m3
  rw [← hpi] at m1
  have hxp : x.id ≠ p.id := by rw [← m3, ← m1]; exact hW.self_ne hn0
  have HH := Lib.hid h
  have HWf := Lib.hid hW
  have HR := Lib.hid (And.intro hrx (And.intro hrp hrq))
  have HM := Lib.hid (And.intro hx (And.intro hp hq))
  have HN := Lib.hid (And.intro hnx (And.intro hnp hnq))
  have H0 := Lib.hid (And.intro hn0 (And.intro m1 (And.intro m2 m3)))
  have HK := Lib.hid (And.intro hkp hkq)
  have HI := Lib.hid (And.intro hpi hqi)
  have HXP := Lib.hid hxp
  have HNo := Lib.hid (entry_none hW (l := r.nms) (fun _ hn => hn) ho)
  have HN6 := Lib.hid (show ∀ w', Below w2.heap.size w2 w' → FsN w' f mi mg r N ∧ NodeR w' r p np ∧ NodeR w' r p np ∧ NodeR w' r x nx from fun w' hb => ⟨h2.below hW hb, hrp2.below (.inr (.inl hkp)) hb, hrq2.below (.inr (.inl hkq)) hb, hrx2.below (hW.kind x hx) hb⟩)
  rw [ho] at HAt2
  simp only [ne_eq, not_true_eq_false, decide_false] at HAt2
  have HKX := Lib.hid hkx
  have HXQ := Lib.hid hxq
  have HAg := Lib.hid (show (aget (adel (namesP r.nms p.id) s) s2).isSome = false from by
    have h0 : (aget (namesP r.nms p.id) s2).isSome = false := by rw [hW.entry_some, hqi, ho]; rfl
    have h1 : aget (namesP r.nms p.id) s2 = none := by cases hh : aget (namesP r.nms p.id) s2 with
      | none => rfl
      | some v => rw [hh] at h0; cases h0
    rw [aget_none] at h1
    have h2 : aget (adel (namesP r.nms p.id) s) s2 = none := by
      rw [aget_none]
      intro z hz
      exact h1 z (List.mem_filter.1 hz).1
    rw [h2]; rfl)
  clear hw2 hB hb0 hb1 h h2 hW hrp2 hrq2 hpl hp hkp hnp hrp hq hkq hnq hrq hpi hqi hl hl2 hk hk2 hv hv2 hx hnx hrx hxi hx0 hrx2 ho hkx hxq hh0 hn0 m1 m2 m3 hxp
  go_enter Try.func54, Try.ntmps54
  go_wp2_with fail
  rw [HW2.out]
  go_upto_region 4 with (go_at_call 72; (with_reducible refine HP.out.mono ?_); rintro e w3 ⟨rfl, hB3⟩; have hs3 := hB3.size; replace hB3 := Lib.hid hB3)
  obtain ⟨w4, hw4, hB4, hs4, hb40, hb41⟩ := box2 w3 #[.pointer (some ⟨np.blk, 0, none⟩), .pointer (some ⟨np.b, 0, none⟩), .string s] #[.pointer (some ⟨np.blk, 0, none⟩), .pointer (some ⟨np.b, 0, none⟩), .string s2] 119 119
  rw [hw4]
  have c0 : w4.cell? ⟨w3.heap.size, 0, none⟩ = some (.pointer (some ⟨np.blk, 0, none⟩)) := by rw [cell_at hb40]; rfl
  have c1 : w4.cell? ⟨w3.heap.size, 1, none⟩ = some (.pointer (some ⟨np.b, 0, none⟩)) := by rw [cell_at hb40]; rfl
  have c2 : w4.cell? ⟨w3.heap.size, 2, none⟩ = some (.string s) := by rw [cell_at hb40]; rfl
  have HQ1 := Lib.hid hb40
  have HQ2 := Lib.hid hb41
  have HB4 := Lib.hid (hB3.out.trans (hB4.mono (by omega)))
  clear hw4 hb40 hb41 hB4
  go_upto_region 22 with (first
    | (go_at_call 59; (with_reducible refine (HAt.out w4 HB4.out).mono ?_); rintro e w5 ⟨rfl, hB5⟩; have hs5 := hB5.size; have hY := (hB5.block _ (by omega)).trans HQ2.out; have d0 : w5.cell? ⟨w3.heap.size + 1, 0, none⟩ = _ := cell_at hY 0; have d1 : w5.cell? ⟨w3.heap.size + 1, 1, none⟩ = _ := cell_at hY 1; have d2 : w5.cell? ⟨w3.heap.size + 1, 2, none⟩ = _ := cell_at hY 2; have HQ25 := Lib.hid hY; have HQ15 := Lib.hid ((hB5.block _ (by omega)).trans HQ1.out); clear hY; have HB5 := Lib.hid (HB4.out.trans (hB5.mono HB4.out.size)); obtain ⟨x1, x2, x3, -, -⟩ := HX.out w5 HB5.out; clear hB5)
    | (go_at_call 59; (with_reducible refine (HAt2.out w5 HB5.out).mono ?_); rintro e w6 ⟨rfl, hB6⟩; have hs6 := hB6.size; have HQ26 := Lib.hid ((hB6.block _ (by omega)).trans HQ25.out); have HQ16 := Lib.hid ((hB6.block _ (by omega)).trans HQ15.out); have e0 : w6.cell? ⟨w3.heap.size, 0, none⟩ = _ := cell_at HQ16.out 0; have g0 : w6.cell? ⟨w3.heap.size + 1, 0, none⟩ = _ := cell_at HQ26.out 0; have HB6 := Lib.hid (HB5.out.trans (hB6.mono HB5.out.size)); obtain ⟨y1, y2, y3, y4, y5⟩ := HX.out w6 HB6.out; clear hB6))
  obtain ⟨F6, P6, Q6, X6⟩ := HN6.out w6 HB6.out
  have a1 : w6.cell? ⟨w3.heap.size, 1, none⟩ = some (.pointer (some ⟨np.b, 0, none⟩)) := by rw [cell_at HQ16.out]; rfl
  have a2 : w6.cell? ⟨np.b, 0, none⟩ = some (.map (some np.m)) := by rw [cell_at (P6.dir HK.out.1).1]; rfl
  have hm6 : MapB w6 np.m strK intK (namesP r.nms p.id) := (P6.dir HK.out.1).2
  obtain ⟨o1, hdel, hmp1⟩ := run_delete (P := Try.prog) (ty := 0) (tk := 9) KS (t := 109) Try.underlying109 hm6 s
  unfold strK at hdel
  have M1 := Lib.hid hmp1
  have G6 := Lib.hid F6
  have P6' := Lib.hid P6
  have Q6' := Lib.hid Q6
  have X6' := Lib.hid X6
  clear F6 P6 Q6 X6 hm6 hmp1
  go_upto_region 23 with fail
  obtain ⟨w7, hw7⟩ : ∃ w7, putObj w6 np.m o1 = w7 := ⟨_, rfl⟩
  rw [hw7]
  have k7 : ∀ k, k ≠ np.m → w7.heap[k]? = w6.heap[k]? := fun k hk => by rw [← hw7]; exact putObj_other w6 o1 hk
  rw [hw7] at M1
  have W7 := Lib.hid hw7
  have K7 := Lib.hid k7
  have b1 : w7.cell? ⟨w3.heap.size + 1, 1, none⟩ = some (.pointer (some ⟨np.b, 0, none⟩)) := by rw [cell_at ((k7 _ (map_ne (P6'.out.dir HK.out.1).2 HQ26.out).symm).trans HQ26.out)]; rfl
  have b2 : w7.cell? ⟨np.b, 0, none⟩ = some (.map (some np.m)) := by rw [cell_at ((k7 _ (map_ne (P6'.out.dir HK.out.1).2 (Q6'.out.dir HK.out.2).1).symm).trans (Q6'.out.dir HK.out.2).1)]; rfl
  have hm7 : MapB w7 np.m strK intK (adel (namesP r.nms p.id) s) := M1.out
  have hag : (aget (adel (namesP r.nms p.id) s) s2).isSome = false := HAg.out
  obtain ⟨o2, hup, hmp2⟩ := run_update KS (P := Try.prog) (t := 109) Try.underlying109 hm7 s2 x.id
  rw [aput_new hag] at hmp2
  unfold strK intK at hup
  have M2 := Lib.hid hmp2
  clear hm7 hag hmp2 hw7 k7 hdel a1 a2
  go_upto_region 24 with fail
  obtain ⟨w8, hw8⟩ : ∃ w8, putObj w7 np.m o2 = w8 := ⟨_, rfl⟩
  rw [hw8]
  rw [hw8] at M2
  have W8 := Lib.hid hw8
  have K8 := Lib.hid (show ∀ k, k ≠ np.m → w8.heap[k]? = w7.heap[k]? from fun k hk => by rw [← hw8]; exact putObj_other w7 o2 hk)
  clear hw8 hup b1 b2
  go_wp2
  go_ret
  refine ⟨rfl, ?_⟩
  obtain ⟨ei, -⟩ := HI.out
  subst ei
  obtain ⟨hx, hp, hq⟩ := HM.out
  obtain ⟨hnx, hnp, hnq⟩ := HN.out
  obtain ⟨hrx, hrp, hrq⟩ := HR.out
  obtain ⟨hn0, m1, m2, m3⟩ := H0.out
  have B6 := HB.out.trans (HB6.out.mono (show w.heap.size ≤ w2.heap.size by omega))
  have hlk := fun y => moved_links HWf.out hx hn0 m3 p.id s2 (y := y) (y' := y) rfl rfl
  rw [m1, m2] at hlk
  have hns : ∀ j, namesP (movedP r p.id s p.id s2 x).nms j = _ := fun j => by rw [moved_nms, namesP_named, namesP_unnamed]
  have pm := (P6'.out.dir HK.out.1).2
  have qm := (Q6'.out.dir HK.out.2).2
  have hl : ∀ y, linksN (movedP r p.id s p.id s2 x) y = linksN r y := fun y => by
    have := hlk y
    rw [if_neg (fun e => HKX.out e.2.1)] at this
    exact this
  refine ⟨N, moved_fs HH.out HWf.out hx hnx hrx hp HK.out.1 hnp hrp hq HK.out.2 hnq hrq hn0 m1 m2 m3 HXP.out HXQ.out (fun k hk a b _ _ _ => (K8.out k b).trans ((K7.out k a).trans (B6.block k hk))) ?_ ?_ ?_ ?_ (fun e => absurd e HKX.out), fun k hk => .inl hk, ?_⟩
  · rw [hns, if_pos rfl, if_pos rfl]
    exact M2.out
  · rw [hns, if_pos rfl, if_pos rfl]
    exact M2.out
  · rw [hl]
    exact (K8.out _ (map_ne qm P6'.out.head).symm).trans ((K7.out _ (map_ne pm P6'.out.head).symm).trans P6'.out.head)
  · rw [hl]
    exact (K8.out _ (map_ne qm Q6'.out.head).symm).trans ((K7.out _ (map_ne pm Q6'.out.head).symm).trans Q6'.out.head)
  · rw [← W8.out, ← W7.out]
    exact ((Frm.of_below B6).putObj (.inl (fp_node hnp (Nd.m_mem (hrp.ne HK.out.1).1))) o1).putObj (.inl (fp_node hnq (Nd.m_mem (hrq.ne HK.out.2).1))) o2

set_option maxRecDepth 100000 in
set_option maxHeartbeats 8000000 in
theorem rename_mv1d {w : World} {f mi mg K : Nat} {r : RFs} {N : List Nd} (h : FsN w f mi mg r N) (hW : Wf r K) (i g : Int) (s : ByteArray) (hs : s.size ≤ maxLen) (i2 g2 : Int) (s2 : ByteArray) (hs2 : s2.size ≤ maxLen)
    {p q : RIn} {np nq : Nd} (hp : p ∈ r.ins) (hkp : p.kind = 2) (hnp : np ∈ N) (hrp : NodeR w r p np) (hq : q ∈ r.ins) (hkq : q.kind = 2) (hnq : nq ∈ N) (hrq : NodeR w r q nq) (hpi : p.id = i) (hqi : q.id = i2)
    (hl : liveP r (i, g) = true) (hl2 : liveP r (i2, g2) = true) (hk : (byIdP r.ins i).kind = 2) (hk2 : (byIdP r.ins i2).kind = 2) (hv : validP s = true) (hv2 : validP s2 = true)
    {x : RIn} {nx : Nd} (hx : x ∈ r.ins) (hnx : nx ∈ N) (hrx : NodeR w r x nx) (hxi : entryP r.nms i s = x.id) (hxq : x.id ≠ q.id) (ho : entryP r.nms i2 s2 = 0) (hkx : x.kind = 2) (hbl : belowB r i2 x.id = false) (hpq : np.blk ≠ nq.blk) (hlq : linksN r q < 20) :
    Calls Try.prog 54 #[.pointer (some ⟨f, 0, none⟩), .agg #[.int .i64 i, .int .i64 g], .string s, .agg #[.int .i64 i2, .int .i64 g2], .string s2] w fun e w' => e = .returned (.int .i64 0) ∧ StepR w w' f mi mg N (movedP r i s i2 s2 x) := by
  obtain ⟨w2, hw2, hB, hz2, hb0, hb1⟩ := box2 w #[.int .i64 i, .int .i64 g] #[.int .i64 i2, .int .i64 g2] 68 68
  have t0 : w2.cell? ⟨w.heap.size, 0, none⟩ = some (.int .i64 i) := by rw [cell_at hb0]; rfl
  have t1 : w2.cell? ⟨w.heap.size, 1, none⟩ = some (.int .i64 g) := by rw [cell_at hb0]; rfl
  have t2 : w2.cell? ⟨w.heap.size + 1, 0, none⟩ = some (.int .i64 i2) := by rw [cell_at hb1]; rfl
  have t3 : w2.cell? ⟨w.heap.size + 1, 1, none⟩ = some (.int .i64 g2) := by rw [cell_at hb1]; rfl
  have h2 := h.below hW hB
  have HW2 := Lib.hid hw2
  have HB := Lib.hid hB
  have hrp2 := hrp.below (.inr (.inl hkp)) hB
  have hrq2 := hrq.below (.inr (.inl hkq)) hB
  have hpl := places_ok h2 hW i g s hs i2 g2 s2 hs2 hl hl2 hk hk2 hv hv2 hnp hnq (hrp.id.trans hpi) (hrq.id.trans hqi)
  have HP := Lib.hid hpl
  have HAt := Lib.hid (show ∀ w4, Below w2.heap.size w2 w4 → Calls Try.prog 59 #[.agg #[.pointer (some ⟨np.blk, 0, none⟩), .pointer (some ⟨np.b, 0, none⟩), .string s]] w4 fun e w' => e = .returned (.tuple #[.int .i64 (entryP r.nms i s), .bool (decide (entryP r.nms i s ≠ 0))]) ∧ Below w4.heap.size w4 w' from fun w4 hb => by
    have hr4 := hrp2.below (.inr (.inl hkp)) hb
    have := at_any hr4 hkp (hr4.lt (.inr (.inl hkp))) s (some ⟨np.blk, 0, none⟩)
    rw [hpi, hW.entry_some] at this
    exact this)
  have HAt2 := Lib.hid (show ∀ w4, Below w2.heap.size w2 w4 → Calls Try.prog 59 #[.agg #[.pointer (some ⟨nq.blk, 0, none⟩), .pointer (some ⟨nq.b, 0, none⟩), .string s2]] w4 fun e w' => e = .returned (.tuple #[.int .i64 (entryP r.nms i2 s2), .bool (decide (entryP r.nms i2 s2 ≠ 0))]) ∧ Below w4.heap.size w4 w' from fun w4 hb => by
    have hr4 := hrq2.below (.inr (.inl hkq)) hb
    have := at_any hr4 hkq (hr4.lt (.inr (.inl hkq))) s2 (some ⟨nq.blk, 0, none⟩)
    rw [hqi, hW.entry_some] at this
    exact this)
  have hx0 : x.id ≠ 0 := hW.ne0 hx
  rw [hxi, decide_eq_true hx0] at HAt
  have hrx2 := hrx.below (hW.kind x hx) hB
  have HX := Lib.hid (show ∀ w', Below w2.heap.size w2 w' → w'.cell? ⟨f, 1, none⟩ = some (.map (some mi)) ∧ w'.cell? ⟨nx.blk, 5, none⟩ = some (holdsV x nx) ∧ (Instr.lookup 103 (.map (some mi)) (.int .i64 x.id) false).run Try.prog w' = .ok (.pointer (some ⟨nx.blk, 0, none⟩)) w' ∧ w'.cell? ⟨nq.blk, 0, none⟩ = some (.int .i64 i2) ∧ w'.cell? ⟨nq.blk, 4, none⟩ = some (.int .i64 (linksN r q : Int)) from fun w' hb => by
    have h4 := h2.below hW hb
    have hg := h4.get hnx
    rw [hrx.id] at hg
    have hlk := (h4.look x.id).2
    rw [hg] at hlk
    have hq4 := (hrq2.below (.inr (.inl hkq)) hb).cells
    exact ⟨h4.cells.2.1, (hrx2.below (hW.kind x hx) hb).cells.2.2.2.2.2, hlk, by rw [← hqi]; exact hq4.1, hq4.2.2.2.2.1⟩)
  have hta : ∀ w, (Instr.typeAssert (holdsV x nx) 20 108 true).run Try.prog w = .ok (.tuple #[.pointer (some ⟨nx.b, 0, none⟩), .bool true]) w := fun w => by rw [ta_dir, if_pos hkx]; rfl
  have hh0 : entryP r.nms i s ≠ 0 := by rw [hxi]; exact hW.ne0 hx
  obtain ⟨n0, hn0, m1, m2, m3⟩ := entry_mem hh0
  rw [hxi] at m3
  rw [← hpi] at m1
  have hxp : x.id ≠ p.id := by rw [← m3, ← m1]; exact hW.self_ne hn0
  have HH := Lib.hid h
  have HWf := Lib.hid hW
  have HR := Lib.hid (And.intro hrx (And.intro hrp hrq))
  have HM := Lib.hid (And.intro hx (And.intro hp hq))
  have HN := Lib.hid (And.intro hnx (And.intro hnp hnq))
  have H0 := Lib.hid (And.intro hn0 (And.intro m1 (And.intro m2 m3)))
  have HK := Lib.hid (And.intro hkp hkq)
  have HI := Lib.hid (And.intro hpi hqi)
  have HXP := Lib.hid hxp
  have HNo := Lib.hid (entry_none hW (l := r.nms) (fun _ hn => hn) ho)
  have HN6 := Lib.hid (show ∀ w', Below w2.heap.size w2 w' → FsN w' f mi mg r N ∧ NodeR w' r p np ∧ NodeR w' r q nq ∧ NodeR w' r x nx from fun w' hb => ⟨h2.below hW hb, hrp2.below (.inr (.inl hkp)) hb, hrq2.below (.inr (.inl hkq)) hb, hrx2.below (hW.kind x hx) hb⟩)
  rw [ho] at HAt2
  simp only [ne_eq, not_true_eq_false, decide_false] at HAt2
  have HBl := Lib.hid (show ∀ w', Below w2.heap.size w2 w' → Calls Try.prog 73 #[.pointer (some ⟨f, 0, none⟩), .int .i64 i2, .int .i64 x.id] w' fun e w'' => e = .returned (.bool false) ∧ w' = w'' from fun w' hb => by
    have := below_any (h2.below hW hb) hW hq hkq x.id
    rw [hqi, hbl] at this
    exact this)
  have HKX := Lib.hid hkx
  have HXQ := Lib.hid hxq
  have HLp := Lib.hid (show 2 ≤ linksN r p ∧ linksN r p ≤ 20 from ⟨by unfold linksN; rw [if_pos hkp]; omega, hW.lim p hp⟩)
  have HLq := Lib.hid (show linksN r q ≤ 20 from hW.lim q hq)
  have HNq := Lib.hid (show ∀ w', Below w2.heap.size w2 w' → (binOp .neq 107 (.pointer (some ⟨np.blk, 0, none⟩)) (.pointer (some ⟨nq.blk, 0, none⟩))).run Try.prog w' = .ok (.bool true) w' from fun w' hb => by
    have := neq_ino (hrp2.below (.inr (.inl hkp)) hb).head (hrq2.below (.inr (.inl hkq)) hb).head
    rw [decide_eq_false hpq] at this
    exact this)
  have HAg := Lib.hid (show (aget (namesP r.nms q.id) s2).isSome = false by rw [hW.entry_some, hqi, ho]; rfl)
  have hmm : nq.m ≠ np.m := fun e => hpq (by
    by_cases c : nq = np
    · rw [c]
    · exact absurd (e ▸ Nd.m_mem (hrp.ne hkp).1) (h.apart hnq hnp c _ (Nd.m_mem (hrq.ne hkq).1)))
  have HMm := Lib.hid hmm
  have HPB := Lib.hid hpq
  have HPQ := Lib.hid (show p.id ≠ q.id from fun e => hpq (by rw [nodup_inj h.idU hnp hnq (hrp.id.trans (e.trans hrq.id.symm))]))
  clear hw2 hB hb0 hb1 h h2 hW hrp2 hrq2 hpl hp hkp hnp hrp hq hkq hnq hrq hpi hqi hl hl2 hk hk2 hv hv2 hx hnx hrx hxi hx0 hrx2 ho hkx hpq hmm hxq hbl hh0 hn0 m1 m2 m3 hxp
  go_enter Try.func54, Try.ntmps54
  go_wp2_with fail
  rw [HW2.out]
  go_upto_region 4 with (go_at_call 72; (with_reducible refine HP.out.mono ?_); rintro e w3 ⟨rfl, hB3⟩; have hs3 := hB3.size; replace hB3 := Lib.hid hB3)
  obtain ⟨w4, hw4, hB4, hs4, hb40, hb41⟩ := box2 w3 #[.pointer (some ⟨np.blk, 0, none⟩), .pointer (some ⟨np.b, 0, none⟩), .string s] #[.pointer (some ⟨nq.blk, 0, none⟩), .pointer (some ⟨nq.b, 0, none⟩), .string s2] 119 119
  rw [hw4]
  have c0 : w4.cell? ⟨w3.heap.size, 0, none⟩ = some (.pointer (some ⟨np.blk, 0, none⟩)) := by rw [cell_at hb40]; rfl
  have c1 : w4.cell? ⟨w3.heap.size, 1, none⟩ = some (.pointer (some ⟨np.b, 0, none⟩)) := by rw [cell_at hb40]; rfl
  have c2 : w4.cell? ⟨w3.heap.size, 2, none⟩ = some (.string s) := by rw [cell_at hb40]; rfl
  have HQ1 := Lib.hid hb40
  have HQ2 := Lib.hid hb41
  have HB4 := Lib.hid (hB3.out.trans (hB4.mono (by omega)))
  clear hw4 hb40 hb41 hB4
  go_upto_region 22 with (first
    | (go_at_call 59; (with_reducible refine (HAt.out w4 HB4.out).mono ?_); rintro e w5 ⟨rfl, hB5⟩; have hs5 := hB5.size; have hY := (hB5.block _ (by omega)).trans HQ2.out; have d0 : w5.cell? ⟨w3.heap.size + 1, 0, none⟩ = _ := cell_at hY 0; have d1 : w5.cell? ⟨w3.heap.size + 1, 1, none⟩ = _ := cell_at hY 1; have d2 : w5.cell? ⟨w3.heap.size + 1, 2, none⟩ = _ := cell_at hY 2; have HQ25 := Lib.hid hY; have HQ15 := Lib.hid ((hB5.block _ (by omega)).trans HQ1.out); clear hY; have HB5 := Lib.hid (HB4.out.trans (hB5.mono HB4.out.size)); obtain ⟨x1, x2, x3, -, -⟩ := HX.out w5 HB5.out; clear hB5)
    | (go_at_call 59; (with_reducible refine (HAt2.out w5 HB5.out).mono ?_); rintro e w6 ⟨rfl, hB6⟩; have hs6 := hB6.size; have HQ26 := Lib.hid ((hB6.block _ (by omega)).trans HQ25.out); have HQ16 := Lib.hid ((hB6.block _ (by omega)).trans HQ15.out); have e0 : w6.cell? ⟨w3.heap.size, 0, none⟩ = _ := cell_at HQ16.out 0; have g0 : w6.cell? ⟨w3.heap.size + 1, 0, none⟩ = _ := cell_at HQ26.out 0; have HB6 := Lib.hid (HB5.out.trans (hB6.mono HB5.out.size)); obtain ⟨y1, y2, y3, y4, y5⟩ := HX.out w6 HB6.out; clear hB6; have y6 := HNq.out w6 HB6.out)
    | (go_at_call 73; (with_reducible refine (HBl.out w6 HB6.out).mono ?_); rintro e w7 ⟨rfl, rfl⟩))
  obtain ⟨F6, P6, Q6, X6⟩ := HN6.out w6 HB6.out
  have a1 : w6.cell? ⟨w3.heap.size, 1, none⟩ = some (.pointer (some ⟨np.b, 0, none⟩)) := by rw [cell_at HQ16.out]; rfl
  have a2 : w6.cell? ⟨np.b, 0, none⟩ = some (.map (some np.m)) := by rw [cell_at (P6.dir HK.out.1).1]; rfl
  have hm6 : MapB w6 np.m strK intK (namesP r.nms p.id) := (P6.dir HK.out.1).2
  obtain ⟨o1, hdel, hmp1⟩ := run_delete (P := Try.prog) (ty := 0) (tk := 9) KS (t := 109) Try.underlying109 hm6 s
  unfold strK at hdel
  have M1 := Lib.hid hmp1
  have G6 := Lib.hid F6
  have P6' := Lib.hid P6
  have Q6' := Lib.hid Q6
  have X6' := Lib.hid X6
  clear F6 P6 Q6 X6 hm6 hmp1
  go_upto_region 23 with fail
  obtain ⟨w7, hw7⟩ : ∃ w7, putObj w6 np.m o1 = w7 := ⟨_, rfl⟩
  rw [hw7]
  have k7 : ∀ k, k ≠ np.m → w7.heap[k]? = w6.heap[k]? := fun k hk => by rw [← hw7]; exact putObj_other w6 o1 hk
  rw [hw7] at M1
  have W7 := Lib.hid hw7
  have K7 := Lib.hid k7
  have b1 : w7.cell? ⟨w3.heap.size + 1, 1, none⟩ = some (.pointer (some ⟨nq.b, 0, none⟩)) := by rw [cell_at ((k7 _ (map_ne (P6'.out.dir HK.out.1).2 HQ26.out).symm).trans HQ26.out)]; rfl
  have b2 : w7.cell? ⟨nq.b, 0, none⟩ = some (.map (some nq.m)) := by rw [cell_at ((k7 _ (map_ne (P6'.out.dir HK.out.1).2 (Q6'.out.dir HK.out.2).1).symm).trans (Q6'.out.dir HK.out.2).1)]; rfl
  have hm7 : MapB w7 nq.m strK intK (namesP r.nms q.id) := (Q6'.out.dir HK.out.2).2.of_block (k7 _ HMm.out)
  have hag : (aget (namesP r.nms q.id) s2).isSome = false := HAg.out
  obtain ⟨o2, hup, hmp2⟩ := run_update KS (P := Try.prog) (t := 109) Try.underlying109 hm7 s2 x.id
  rw [aput_new hag] at hmp2
  unfold strK intK at hup
  have M2 := Lib.hid hmp2
  clear hm7 hag hmp2 hw7 k7 hdel a1 a2
  go_upto_region 24 with fail
  obtain ⟨w8, hw8⟩ : ∃ w8, putObj w7 nq.m o2 = w8 := ⟨_, rfl⟩
  rw [hw8]
  rw [hw8] at M2
  have W8 := Lib.hid hw8
  have K8 := Lib.hid (show ∀ k, k ≠ nq.m → w8.heap[k]? = w7.heap[k]? from fun k hk => by rw [← hw8]; exact putObj_other w7 o2 hk)
  clear hw8 hup b1 b2
  have ne : ∀ k, k ≠ np.m → k ≠ nq.m → w8.heap[k]? = w6.heap[k]? := fun k a b => (K8.out k b).trans (K7.out k a)
  have pm := (P6'.out.dir HK.out.1).2
  have qm := (Q6'.out.dir HK.out.2).2
  have xd := (X6'.out.dir HKX.out).1
  have P8 := (ne _ (map_ne pm P6'.out.head).symm (map_ne qm P6'.out.head).symm).trans P6'.out.head
  have Q8 := (ne _ (map_ne pm Q6'.out.head).symm (map_ne qm Q6'.out.head).symm).trans Q6'.out.head
  have X8 := (ne _ (map_ne pm xd).symm (map_ne qm xd).symm).trans xd
  have R8 := (ne _ (map_ne pm HQ16.out).symm (map_ne qm HQ16.out).symm).trans HQ16.out
  have S8 := (ne _ (map_ne pm HQ26.out).symm (map_ne qm HQ26.out).symm).trans HQ26.out
  have f0 : w8.cell? ⟨w3.heap.size, 0, none⟩ = some (.pointer (some ⟨np.blk, 0, none⟩)) := by rw [cell_at R8]; rfl
  have f1 : w8.cell? ⟨w3.heap.size + 1, 0, none⟩ = some (.pointer (some ⟨nq.blk, 0, none⟩)) := by rw [cell_at S8]; rfl
  have f2 : w8.cell? ⟨nq.blk, 0, none⟩ = some (.int .i64 q.id) := by rw [cell_at Q8]; rfl
  have f3 : w8.cell? ⟨np.blk, 4, none⟩ = some (.int .i64 (linksN r p : Int)) := by rw [cell_at P8]; rfl
  have f4 : w8.cell? ⟨nq.blk, 4, none⟩ = some (.int .i64 (linksN r q : Int)) := by rw [cell_at Q8]; rfl
  have f5 : w8.cell? ⟨nx.b, 1, none⟩ = some (.int .i64 x.parent) := by rw [cell_at X8]; rfl
  have f6 : w8.frozen? ⟨np.blk, 4, none⟩ = false := frozen_of_row w8 np.blk 4 _ _ P8
  have f7 : w8.frozen? ⟨nq.blk, 4, none⟩ = false := frozen_of_row w8 nq.blk 4 _ _ Q8
  have f8 : w8.frozen? ⟨nx.b, 1, none⟩ = false := frozen_of_row w8 nx.b 1 _ _ X8
  have n1 : w3.heap.size ≠ nx.b := blk_ne R8 X8 (by decide)
  have n2 : w3.heap.size ≠ np.blk := blk_ne R8 P8 (by decide)
  have n3 : w3.heap.size ≠ nq.blk := blk_ne R8 Q8 (by decide)
  have n4 : w3.heap.size + 1 ≠ nx.b := blk_ne S8 X8 (by decide)
  have n5 : w3.heap.size + 1 ≠ np.blk := blk_ne S8 P8 (by decide)
  have n6 : w3.heap.size + 1 ≠ nq.blk := blk_ne S8 Q8 (by decide)
  have n7 : nx.b ≠ np.blk := blk_ne X8 P8 (by decide)
  have n8 : nx.b ≠ nq.blk := blk_ne X8 Q8 (by decide)
  have P8' := Lib.hid P8
  have Q8' := Lib.hid Q8
  have X8' := Lib.hid X8
  have hlp := HLp.out.1
  have hlp2 := HLp.out.2
  have hlq := HLq.out
  clear P8 Q8 X8 R8 S8 ne pm qm xd
  have n9 : np.blk ≠ nq.blk := HPB.out
  obtain ⟨lp, elp⟩ : ∃ lp, linksN r p = lp := ⟨_, rfl⟩
  obtain ⟨lq, elq⟩ : ∃ lq, linksN r q = lq := ⟨_, rfl⟩
  rw [elp] at f3 P8' hlp hlp2
  rw [elq] at f4 Q8' hlq
  have ELP := Lib.hid elp
  have ELQ := Lib.hid elq
  clear elp elq
  go_wp2
  go_ret
  refine ⟨rfl, ?_⟩
  obtain ⟨ei, eq⟩ := HI.out
  subst ei eq
  obtain ⟨hx, hp, hq⟩ := HM.out
  obtain ⟨hnx, hnp, hnq⟩ := HN.out
  obtain ⟨hrx, hrp, hrq⟩ := HR.out
  obtain ⟨hn0, m1, m2, m3⟩ := H0.out
  have B6 := HB.out.trans (HB6.out.mono (show w.heap.size ≤ w2.heap.size by omega))
  have hlk := fun y => moved_links HWf.out hx hn0 m3 q.id s2 (y := y) (y' := y) rfl rfl
  rw [m1, m2] at hlk
  have hns : ∀ j, namesP (movedP r p.id s q.id s2 x).nms j = _ := fun j => by rw [moved_nms, namesP_named, namesP_unnamed]
  have pm := (P6'.out.dir HK.out.1).2
  have qm := (Q6'.out.dir HK.out.2).2
  have xd := (X6'.out.dir HKX.out).1
  have c1 : ((lp : Int) - 1) = ((lp - 1 : Nat) : Int) := by omega
  have c2 : ((lq : Int) + 1) = ((lq + 1 : Nat) : Int) := by omega
  rw [c1, c2]
  have lP : linksN (movedP r p.id s q.id s2 x) p = lp - 1 := by
    have := hlk p
    rw [if_pos ⟨HK.out.1, HKX.out, rfl⟩, if_neg (fun e => HPQ.out e.2.2.symm), ELP.out] at this
    omega
  have lQ : linksN (movedP r p.id s q.id s2 x) q = lq + 1 := by
    have := hlk q
    rw [if_neg (fun e => HPQ.out e.2.2), if_pos ⟨HK.out.2, HKX.out, rfl⟩, ELQ.out] at this
    omega
  refine ⟨N, moved_fs HH.out HWf.out hx hnx hrx hp HK.out.1 hnp hrp hq HK.out.2 hnq hrq hn0 m1 m2 m3 HXP.out HXQ.out (fun k hk a b c d e => (setCell_far _ _ _ _ _ d).trans ((setCell_far _ _ _ _ _ c).trans ((setCell_far _ _ _ _ _ (e HKX.out)).trans ((K8.out k b).trans ((K7.out k a).trans (B6.block k hk)))))) ?_ ?_ ?_ ?_ (fun _ => ?_), fun k hk => .inl hk, ?_⟩
  · rw [hns, if_neg HPQ.out, if_pos rfl]
    exact M1.out.of_block ((setCell_far _ _ _ _ _ (map_ne pm Q6'.out.head)).trans ((setCell_far _ _ _ _ _ (map_ne pm P6'.out.head)).trans ((setCell_far _ _ _ _ _ (map_ne pm xd)).trans (K8.out _ (fun e => HMm.out e.symm)))))
  · rw [hns, if_pos rfl, if_neg (fun e => HPQ.out e.symm)]
    exact M2.out.of_block ((setCell_far _ _ _ _ _ (map_ne qm Q6'.out.head)).trans ((setCell_far _ _ _ _ _ (map_ne qm P6'.out.head)).trans (setCell_far _ _ _ _ _ (map_ne qm xd))))
  · rw [lP]
    exact (setCell_far _ _ _ _ _ n9).trans (links_set ((setCell_far _ _ _ _ _ n7.symm).trans P8'.out))
  · rw [lQ]
    exact links_set ((setCell_far _ _ _ _ _ n9.symm).trans ((setCell_far _ _ _ _ _ n8.symm).trans Q8'.out))
  · exact (setCell_far _ _ _ _ _ n8).trans ((setCell_far _ _ _ _ _ n7).trans (heap_setCell_same w8 nx.b 1 _ _ _ X8'.out))
  · rw [← W8.out, ← W7.out]
    exact ((((((Frm.of_below B6).putObj (.inl (fp_node hnp (Nd.m_mem (hrp.ne HK.out.1).1))) o1).putObj (.inl (fp_node hnq (Nd.m_mem (hrq.ne HK.out.2).1))) o2).setCell (.inl (fp_node hnx (Nd.b_mem (hrx.ne HKX.out).1))) _).setCell (.inl (fp_node hnp np.blk_mem)) _).setCell (.inl (fp_node hnq nq.blk_mem)) _)

set_option maxRecDepth 100000 in
set_option maxHeartbeats 8000000 in
theorem rename_mv1s {w : World} {f mi mg K : Nat} {r : RFs} {N : List Nd} (h : FsN w f mi mg r N) (hW : Wf r K) (i g : Int) (s : ByteArray) (hs : s.size ≤ maxLen) (i2 g2 : Int) (s2 : ByteArray) (hs2 : s2.size ≤ maxLen)
    {p q : RIn} {np nq : Nd} (hp : p ∈ r.ins) (hkp : p.kind = 2) (hnp : np ∈ N) (hrp : NodeR w r p np) (hq : q ∈ r.ins) (hkq : q.kind = 2) (hnq : nq ∈ N) (hrq : NodeR w r q nq) (hpi : p.id = i) (hqi : q.id = i2)
    (hl : liveP r (i, g) = true) (hl2 : liveP r (i2, g2) = true) (hk : (byIdP r.ins i).kind = 2) (hk2 : (byIdP r.ins i2).kind = 2) (hv : validP s = true) (hv2 : validP s2 = true)
    {x : RIn} {nx : Nd} (hx : x ∈ r.ins) (hnx : nx ∈ N) (hrx : NodeR w r x nx) (hxi : entryP r.nms i s = x.id) (hxq : x.id ≠ q.id) (ho : entryP r.nms i2 s2 = 0) (hkx : x.kind = 2) (hbl : belowB r i2 x.id = false) (hpq : np = nq) :
    Calls Try.prog 54 #[.pointer (some ⟨f, 0, none⟩), .agg #[.int .i64 i, .int .i64 g], .string s, .agg #[.int .i64 i2, .int .i64 g2], .string s2] w fun e w' => e = .returned (.int .i64 0) ∧ StepR w w' f mi mg N (movedP r i s i2 s2 x) := by
  subst hpq
  obtain rfl := h.uniq hW hp hrp hq hrq
  obtain rfl : i = i2 := hpi.symm.trans hqi
  obtain ⟨w2, hw2, hB, hz2, hb0, hb1⟩ := box2 w #[.int .i64 i, .int .i64 g] #[.int .i64 i, .int .i64 g2] 68 68
  have t0 : w2.cell? ⟨w.heap.size, 0, none⟩ = some (.int .i64 i) := by rw [cell_at hb0]; rfl
  have t1 : w2.cell? ⟨w.heap.size, 1, none⟩ = some (.int .i64 g) := by rw [cell_at hb0]; rfl
  have t2 : w2.cell? ⟨w.heap.size + 1, 0, none⟩ = some (.int .i64 i) := by rw [cell_at hb1]; rfl
  have t3 : w2.cell? ⟨w.heap.size + 1, 1, none⟩ = some (.int .i64 g2) := by rw [cell_at hb1]; rfl
  have h2 := h.below hW hB
  have HW2 := Lib.hid hw2
  have HB := Lib.hid hB
  have hrp2 := hrp.below (.inr (.inl hkp)) hB
  have hrq2 := hrq.below (.inr (.inl hkq)) hB
  have hpl := places_ok h2 hW i g s hs i g2 s2 hs2 hl hl2 hk hk2 hv hv2 hnp hnq (hrp.id.trans hpi) (hrq.id.trans hqi)
  have HP := Lib.hid hpl
  have HAt := Lib.hid (show ∀ w4, Below w2.heap.size w2 w4 → Calls Try.prog 59 #[.agg #[.pointer (some ⟨np.blk, 0, none⟩), .pointer (some ⟨np.b, 0, none⟩), .string s]] w4 fun e w' => e = .returned (.tuple #[.int .i64 (entryP r.nms i s), .bool (decide (entryP r.nms i s ≠ 0))]) ∧ Below w4.heap.size w4 w' from fun w4 hb => by
    have hr4 := hrp2.below (.inr (.inl hkp)) hb
    have := at_any hr4 hkp (hr4.lt (.inr (.inl hkp))) s (some ⟨np.blk, 0, none⟩)
    rw [hpi, hW.entry_some] at this
    exact this)
  have HAt2 := Lib.hid (show ∀ w4, Below w2.heap.size w2 w4 → Calls Try.prog 59 #[.agg #[.pointer (some ⟨np.blk, 0, none⟩), .pointer (some ⟨np.b, 0, none⟩), .string s2]] w4 fun e w' => e = .returned (.tuple #[.int .i64 (entryP r.nms i s2), .bool (decide (entryP r.nms i s2 ≠ 0))]) ∧ Below w4.heap.size w4 w' from fun w4 hb => by
    have hr4 := hrq2.below (.inr (.inl hkq)) hb
    have := at_any hr4 hkq (hr4.lt (.inr (.inl hkq))) s2 (some ⟨np.blk, 0, none⟩)
    rw [hqi, hW.entry_some] at this
    exact this)
  have hx0 : x.id ≠ 0 := hW.ne0 hx
  rw [hxi, decide_eq_true hx0] at HAt
  have hrx2 := hrx.below (hW.kind x hx) hB
  have HX := Lib.hid (show ∀ w', Below w2.heap.size w2 w' → w'.cell? ⟨f, 1, none⟩ = some (.map (some mi)) ∧ w'.cell? ⟨nx.blk, 5, none⟩ = some (holdsV x nx) ∧ (Instr.lookup 103 (.map (some mi)) (.int .i64 x.id) false).run Try.prog w' = .ok (.pointer (some ⟨nx.blk, 0, none⟩)) w' ∧ w'.cell? ⟨np.blk, 0, none⟩ = some (.int .i64 i) ∧ w'.cell? ⟨np.blk, 4, none⟩ = some (.int .i64 (linksN r p : Int)) from fun w' hb => by
    have h4 := h2.below hW hb
    have hg := h4.get hnx
    rw [hrx.id] at hg
    have hlk := (h4.look x.id).2
    rw [hg] at hlk
    have hq4 := (hrq2.below (.inr (.inl hkq)) hb).cells
    exact ⟨h4.cells.2.1, (hrx2.below (hW.kind x hx) hb).cells.2.2.2.2.2, hlk, by rw [← hqi]; exact hq4.1, hq4.2.2.2.2.1⟩)
  have hta : ∀ w, (Instr.typeAssert (holdsV x nx) 20 108 true).run Try.prog w = .ok (.tuple #[.pointer (some ⟨nx.b, 0, none⟩), .bool true]) w := fun w => by rw [ta_dir, if_pos hkx]; rfl
  have hh0 : entryP r.nms i s ≠ 0 := by rw [hxi]; exact hW.ne0 hx
  obtain ⟨n0, hn0, m1, m2, m3⟩ := entry_mem hh0
  rw [hxi] at m3
  rw [← hpi] at m1
  have hxp : x.id ≠ p.id := by rw [← m3, ← m1]; exact hW.self_ne hn0
  have HH := Lib.hid h
  have HWf := Lib.hid hW
  have HR := Lib.hid (And.intro hrx (And.intro hrp hrq))
  have HM := Lib.hid (And.intro hx (And.intro hp hq))
  have HN := Lib.hid (And.intro hnx (And.intro hnp hnq))
  have H0 := Lib.hid (And.intro hn0 (And.intro m1 (And.intro m2 m3)))
  have HK := Lib.hid (And.intro hkp hkq)
  have HI := Lib.hid (And.intro hpi hqi)
  have HXP := Lib.hid hxp
  have HNo := Lib.hid (entry_none hW (l := r.nms) (fun _ hn => hn) ho)
  have HN6 := Lib.hid (show ∀ w', Below w2.heap.size w2 w' → FsN w' f mi mg r N ∧ NodeR w' r p np ∧ NodeR w' r p np ∧ NodeR w' r x nx from fun w' hb => ⟨h2.below hW hb, hrp2.below (.inr (.inl hkp)) hb, hrq2.below (.inr (.inl hkq)) hb, hrx2.below (hW.kind x hx) hb⟩)
  rw [ho] at HAt2
  simp only [ne_eq, not_true_eq_false, decide_false] at HAt2
  have HBl := Lib.hid (show ∀ w', Below w2.heap.size w2 w' → Calls Try.prog 73 #[.pointer (some ⟨f, 0, none⟩), .int .i64 i, .int .i64 x.id] w' fun e w'' => e = .returned (.bool false) ∧ w' = w'' from fun w' hb => by
    have := below_any (h2.below hW hb) hW hq hkq x.id
    rw [hqi, hbl] at this
    exact this)
  have HKX := Lib.hid hkx
  have HXQ := Lib.hid hxq
  have HLp := Lib.hid (show 2 ≤ linksN r p ∧ linksN r p ≤ 20 from ⟨by unfold linksN; rw [if_pos hkp]; omega, hW.lim p hp⟩)
  have HLq := Lib.hid (show linksN r p ≤ 20 from hW.lim p hq)
  have HNq := Lib.hid (show ∀ w', Below w2.heap.size w2 w' → (binOp .neq 107 (.pointer (some ⟨np.blk, 0, none⟩)) (.pointer (some ⟨np.blk, 0, none⟩))).run Try.prog w' = .ok (.bool false) w' from fun w' hb => by
    have := neq_ino (hrp2.below (.inr (.inl hkp)) hb).head (hrq2.below (.inr (.inl hkq)) hb).head
    rw [show (!decide (np.blk = np.blk)) = false by simp] at this
    exact this)
  have HAg := Lib.hid (show (aget (adel (namesP r.nms p.id) s) s2).isSome = false from by
    have h0 : (aget (namesP r.nms p.id) s2).isSome = false := by rw [hW.entry_some, hqi, ho]; rfl
    have h1 : aget (namesP r.nms p.id) s2 = none := by cases hh : aget (namesP r.nms p.id) s2 with
      | none => rfl
      | some v => rw [hh] at h0; cases h0
    rw [aget_none] at h1
    have h2 : aget (adel (namesP r.nms p.id) s) s2 = none := by
      rw [aget_none]
      intro z hz
      exact h1 z (List.mem_filter.1 hz).1
    rw [h2]; rfl)
  clear hw2 hB hb0 hb1 h h2 hW hrp2 hrq2 hpl hp hkp hnp hrp hq hkq hnq hrq hpi hqi hl hl2 hk hk2 hv hv2 hx hnx hrx hxi hx0 hrx2 ho hkx hxq hbl hh0 hn0 m1 m2 m3 hxp
  go_enter Try.func54, Try.ntmps54
  go_wp2_with fail
  rw [HW2.out]
  go_upto_region 4 with (go_at_call 72; (with_reducible refine HP.out.mono ?_); rintro e w3 ⟨rfl, hB3⟩; have hs3 := hB3.size; replace hB3 := Lib.hid hB3)
  obtain ⟨w4, hw4, hB4, hs4, hb40, hb41⟩ := box2 w3 #[.pointer (some ⟨np.blk, 0, none⟩), .pointer (some ⟨np.b, 0, none⟩), .string s] #[.pointer (some ⟨np.blk, 0, none⟩), .pointer (some ⟨np.b, 0, none⟩), .string s2] 119 119
  rw [hw4]
  have c0 : w4.cell? ⟨w3.heap.size, 0, none⟩ = some (.pointer (some ⟨np.blk, 0, none⟩)) := by rw [cell_at hb40]; rfl
  have c1 : w4.cell? ⟨w3.heap.size, 1, none⟩ = some (.pointer (some ⟨np.b, 0, none⟩)) := by rw [cell_at hb40]; rfl
  have c2 : w4.cell? ⟨w3.heap.size, 2, none⟩ = some (.string s) := by rw [cell_at hb40]; rfl
  have HQ1 := Lib.hid hb40
  have HQ2 := Lib.hid hb41
  have HB4 := Lib.hid (hB3.out.trans (hB4.mono (by omega)))
  clear hw4 hb40 hb41 hB4
  go_upto_region 22 with (first
    | (go_at_call 59; (with_reducible refine (HAt.out w4 HB4.out).mono ?_); rintro e w5 ⟨rfl, hB5⟩; have hs5 := hB5.size; have hY := (hB5.block _ (by omega)).trans HQ2.out; have d0 : w5.cell? ⟨w3.heap.size + 1, 0, none⟩ = _ := cell_at hY 0; have d1 : w5.cell? ⟨w3.heap.size + 1, 1, none⟩ = _ := cell_at hY 1; have d2 : w5.cell? ⟨w3.heap.size + 1, 2, none⟩ = _ := cell_at hY 2; have HQ25 := Lib.hid hY; have HQ15 := Lib.hid ((hB5.block _ (by omega)).trans HQ1.out); clear hY; have HB5 := Lib.hid (HB4.out.trans (hB5.mono HB4.out.size)); obtain ⟨x1, x2, x3, -, -⟩ := HX.out w5 HB5.out; clear hB5)
    | (go_at_call 59; (with_reducible refine (HAt2.out w5 HB5.out).mono ?_); rintro e w6 ⟨rfl, hB6⟩; have hs6 := hB6.size; have HQ26 := Lib.hid ((hB6.block _ (by omega)).trans HQ25.out); have HQ16 := Lib.hid ((hB6.block _ (by omega)).trans HQ15.out); have e0 : w6.cell? ⟨w3.heap.size, 0, none⟩ = _ := cell_at HQ16.out 0; have g0 : w6.cell? ⟨w3.heap.size + 1, 0, none⟩ = _ := cell_at HQ26.out 0; have HB6 := Lib.hid (HB5.out.trans (hB6.mono HB5.out.size)); obtain ⟨y1, y2, y3, y4, y5⟩ := HX.out w6 HB6.out; clear hB6; have y6 := HNq.out w6 HB6.out)
    | (go_at_call 73; (with_reducible refine (HBl.out w6 HB6.out).mono ?_); rintro e w7 ⟨rfl, rfl⟩))
  obtain ⟨F6, P6, Q6, X6⟩ := HN6.out w6 HB6.out
  have a1 : w6.cell? ⟨w3.heap.size, 1, none⟩ = some (.pointer (some ⟨np.b, 0, none⟩)) := by rw [cell_at HQ16.out]; rfl
  have a2 : w6.cell? ⟨np.b, 0, none⟩ = some (.map (some np.m)) := by rw [cell_at (P6.dir HK.out.1).1]; rfl
  have hm6 : MapB w6 np.m strK intK (namesP r.nms p.id) := (P6.dir HK.out.1).2
  obtain ⟨o1, hdel, hmp1⟩ := run_delete (P := Try.prog) (ty := 0) (tk := 9) KS (t := 109) Try.underlying109 hm6 s
  unfold strK at hdel
  have M1 := Lib.hid hmp1
  have G6 := Lib.hid F6
  have P6' := Lib.hid P6
  have Q6' := Lib.hid Q6
  have X6' := Lib.hid X6
  clear F6 P6 Q6 X6 hm6 hmp1
  go_upto_region 23 with fail
  obtain ⟨w7, hw7⟩ : ∃ w7, putObj w6 np.m o1 = w7 := ⟨_, rfl⟩
  rw [hw7]
  have k7 : ∀ k, k ≠ np.m → w7.heap[k]? = w6.heap[k]? := fun k hk => by rw [← hw7]; exact putObj_other w6 o1 hk
  rw [hw7] at M1
  have W7 := Lib.hid hw7
  have K7 := Lib.hid k7
  have b1 : w7.cell? ⟨w3.heap.size + 1, 1, none⟩ = some (.pointer (some ⟨np.b, 0, none⟩)) := by rw [cell_at ((k7 _ (map_ne (P6'.out.dir HK.out.1).2 HQ26.out).symm).trans HQ26.out)]; rfl
  have b2 : w7.cell? ⟨np.b, 0, none⟩ = some (.map (some np.m)) := by rw [cell_at ((k7 _ (map_ne (P6'.out.dir HK.out.1).2 (Q6'.out.dir HK.out.2).1).symm).trans (Q6'.out.dir HK.out.2).1)]; rfl
  have hm7 : MapB w7 np.m strK intK (adel (namesP r.nms p.id) s) := M1.out
  have hag : (aget (adel (namesP r.nms p.id) s) s2).isSome = false := HAg.out
  obtain ⟨o2, hup, hmp2⟩ := run_update KS (P := Try.prog) (t := 109) Try.underlying109 hm7 s2 x.id
  rw [aput_new hag] at hmp2
  unfold strK intK at hup
  have M2 := Lib.hid hmp2
  clear hm7 hag hmp2 hw7 k7 hdel a1 a2
  go_upto_region 24 with fail
  obtain ⟨w8, hw8⟩ : ∃ w8, putObj w7 np.m o2 = w8 := ⟨_, rfl⟩
  rw [hw8]
  rw [hw8] at M2
  have W8 := Lib.hid hw8
  have K8 := Lib.hid (show ∀ k, k ≠ np.m → w8.heap[k]? = w7.heap[k]? from fun k hk => by rw [← hw8]; exact putObj_other w7 o2 hk)
  clear hw8 hup b1 b2
  have ne : ∀ k, k ≠ np.m → k ≠ np.m → w8.heap[k]? = w6.heap[k]? := fun k a b => (K8.out k b).trans (K7.out k a)
  have pm := (P6'.out.dir HK.out.1).2
  have qm := (Q6'.out.dir HK.out.2).2
  have xd := (X6'.out.dir HKX.out).1
  have P8 := (ne _ (map_ne pm P6'.out.head).symm (map_ne qm P6'.out.head).symm).trans P6'.out.head
  have Q8 := (ne _ (map_ne pm Q6'.out.head).symm (map_ne qm Q6'.out.head).symm).trans Q6'.out.head
  have X8 := (ne _ (map_ne pm xd).symm (map_ne qm xd).symm).trans xd
  have R8 := (ne _ (map_ne pm HQ16.out).symm (map_ne qm HQ16.out).symm).trans HQ16.out
  have S8 := (ne _ (map_ne pm HQ26.out).symm (map_ne qm HQ26.out).symm).trans HQ26.out
  have f0 : w8.cell? ⟨w3.heap.size, 0, none⟩ = some (.pointer (some ⟨np.blk, 0, none⟩)) := by rw [cell_at R8]; rfl
  have f1 : w8.cell? ⟨w3.heap.size + 1, 0, none⟩ = some (.pointer (some ⟨np.blk, 0, none⟩)) := by rw [cell_at S8]; rfl
  have f2 : w8.cell? ⟨np.blk, 0, none⟩ = some (.int .i64 p.id) := by rw [cell_at Q8]; rfl
  have f3 : w8.cell? ⟨np.blk, 4, none⟩ = some (.int .i64 (linksN r p : Int)) := by rw [cell_at P8]; rfl
  have f4 : w8.cell? ⟨np.blk, 4, none⟩ = some (.int .i64 (linksN r p : Int)) := by rw [cell_at Q8]; rfl
  have f5 : w8.cell? ⟨nx.b, 1, none⟩ = some (.int .i64 x.parent) := by rw [cell_at X8]; rfl
  have f6 : w8.frozen? ⟨np.blk, 4, none⟩ = false := frozen_of_row w8 np.blk 4 _ _ P8
  have f7 : w8.frozen? ⟨np.blk, 4, none⟩ = false := frozen_of_row w8 np.blk 4 _ _ Q8
  have f8 : w8.frozen? ⟨nx.b, 1, none⟩ = false := frozen_of_row w8 nx.b 1 _ _ X8
  have n1 : w3.heap.size ≠ nx.b := blk_ne R8 X8 (by decide)
  have n2 : w3.heap.size ≠ np.blk := blk_ne R8 P8 (by decide)
  have n3 : w3.heap.size ≠ np.blk := blk_ne R8 Q8 (by decide)
  have n4 : w3.heap.size + 1 ≠ nx.b := blk_ne S8 X8 (by decide)
  have n5 : w3.heap.size + 1 ≠ np.blk := blk_ne S8 P8 (by decide)
  have n6 : w3.heap.size + 1 ≠ np.blk := blk_ne S8 Q8 (by decide)
  have n7 : nx.b ≠ np.blk := blk_ne X8 P8 (by decide)
  have n8 : nx.b ≠ np.blk := blk_ne X8 Q8 (by decide)
  have P8' := Lib.hid P8
  have Q8' := Lib.hid Q8
  have X8' := Lib.hid X8
  have hlp := HLp.out.1
  have hlp2 := HLp.out.2
  have hlq := HLq.out
  clear P8 Q8 X8 R8 S8 ne pm qm xd
  obtain ⟨lp, elp⟩ : ∃ lp, linksN r p = lp := ⟨_, rfl⟩
  obtain ⟨lq, elq⟩ : ∃ lq, linksN r p = lq := ⟨_, rfl⟩
  rw [elp] at f3 P8' hlp hlp2
  rw [elq] at f4 Q8' hlq
  have ELP := Lib.hid elp
  have ELQ := Lib.hid elq
  clear elp elq
  go_wp2
  go_ret
  refine ⟨rfl, ?_⟩
  obtain ⟨ei, -⟩ := HI.out
  subst ei
  obtain ⟨hx, hp, hq⟩ := HM.out
  obtain ⟨hnx, hnp, hnq⟩ := HN.out
  obtain ⟨hrx, hrp, hrq⟩ := HR.out
  obtain ⟨hn0, m1, m2, m3⟩ := H0.out
  have B6 := HB.out.trans (HB6.out.mono (show w.heap.size ≤ w2.heap.size by omega))
  have hlk := fun y => moved_links HWf.out hx hn0 m3 p.id s2 (y := y) (y' := y) rfl rfl
  rw [m1, m2] at hlk
  have hns : ∀ j, namesP (movedP r p.id s p.id s2 x).nms j = _ := fun j => by rw [moved_nms, namesP_named, namesP_unnamed]
  have pm := (P6'.out.dir HK.out.1).2
  have qm := (Q6'.out.dir HK.out.2).2
  have xd := (X6'.out.dir HKX.out).1
  have c1 : ((lp : Int) - 1) = ((lp - 1 : Nat) : Int) := by omega
  have c3 : ((lp : Int) - 1 + 1) = ((lp : Nat) : Int) := by omega
  try rw [c3]
  rw [c1]
  have lP : linksN (movedP r p.id s p.id s2 x) p = lp := by
    have := hlk p
    rw [if_pos ⟨HK.out.1, HKX.out, rfl⟩, ELP.out] at this
    omega
  refine ⟨N, moved_fs HH.out HWf.out hx hnx hrx hp HK.out.1 hnp hrp hq HK.out.2 hnq hrq hn0 m1 m2 m3 HXP.out HXQ.out (fun k hk a b c d e => (setCell_far _ _ _ _ _ d).trans ((setCell_far _ _ _ _ _ c).trans ((setCell_far _ _ _ _ _ (e HKX.out)).trans ((K8.out k b).trans ((K7.out k a).trans (B6.block k hk)))))) ?_ ?_ ?_ ?_ (fun _ => ?_), fun k hk => .inl hk, ?_⟩
  · rw [hns, if_pos rfl, if_pos rfl]
    exact M2.out.of_block ((setCell_far _ _ _ _ _ (map_ne pm P6'.out.head)).trans ((setCell_far _ _ _ _ _ (map_ne pm P6'.out.head)).trans (setCell_far _ _ _ _ _ (map_ne pm xd))))
  · rw [hns, if_pos rfl, if_pos rfl]
    exact M2.out.of_block ((setCell_far _ _ _ _ _ (map_ne pm P6'.out.head)).trans ((setCell_far _ _ _ _ _ (map_ne pm P6'.out.head)).trans (setCell_far _ _ _ _ _ (map_ne pm xd))))
  · rw [lP]
    exact links_set (links_set (lk' := lp - 1) ((setCell_far _ _ _ _ _ n7.symm).trans P8'.out))
  · rw [lP]
    exact links_set (links_set (lk' := lp - 1) ((setCell_far _ _ _ _ _ n7.symm).trans P8'.out))
  · exact (setCell_far _ _ _ _ _ n7).trans ((setCell_far _ _ _ _ _ n7).trans (heap_setCell_same w8 nx.b 1 _ _ _ X8'.out))
  · rw [← W8.out, ← W7.out]
    exact ((((((Frm.of_below B6).putObj (.inl (fp_node hnp (Nd.m_mem (hrp.ne HK.out.1).1))) o1).putObj (.inl (fp_node hnq (Nd.m_mem (hrq.ne HK.out.2).1))) o2).setCell (.inl (fp_node hnx (Nd.b_mem (hrx.ne HKX.out).1))) _).setCell (.inl (fp_node hnp np.blk_mem)) _).setCell (.inl (fp_node hnq np.blk_mem)) _)
end Go.Proofs.Ytpcjmefchclhhaa

/- Behind a name that was dropped: what is there yet. -/
namespace Go.Proofs.Ytpcjmefchclhhaa
open Go.RowKit Go.MapKept

section
variable {r : RFs} {K : Nat} {x p q o : RIn} {s t : ByteArray}
theorem drop_nms (r : RFs) (d : Int) (s : ByteArray) : (dropP r d s).nms = r.nms.filter fun n => !decide (n.dir = d ∧ n.name = s) := by
  unfold dropP
  split <;> rfl
theorem drop_mem {y : RIn} (hy : y ∈ r.ins) {d : Int} (hne : y.id ≠ entryP r.nms d t) : y ∈ (dropP r d t).ins := by
  unfold dropP
  split
  · exact List.mem_filter.2 ⟨hy, by simpa using hne⟩
  · exact hy
theorem may_dir {fo : Bool} (h : mayP r o fo = 0) : (o.kind = 2 ↔ fo = true) ∧ (o.kind = 2 → manyP r.nms o.id = 0) := by
  unfold mayP at h
  by_cases k : o.kind = 2
  · rw [if_pos k] at h
    cases fo
    · simp at h
    · simp only [if_true] at h
      refine ⟨by simp [k], fun _ => ?_⟩
      split at h
      · cases h
      · omega
  · rw [if_neg k] at h
    cases fo
    · exact ⟨by simp [k], fun e => absurd e k⟩
    · simp at h
theorem drop_ctx (hW : Wf r K) (hx : x ∈ r.ins) (hp : p ∈ r.ins) (hkp : p.kind = 2) (hq : q ∈ r.ins) (ho : o ∈ r.ins) (hoi : entryP r.nms q.id t = o.id) (hox : o.id ≠ x.id) (hem : o.kind = 2 → manyP r.nms o.id = 0)
    {n0 : RNm} (hn0 : n0 ∈ r.nms) (e1 : n0.dir = p.id) (e3 : n0.id = x.id) :
    Wf (dropP r q.id t) K ∧ x ∈ (dropP r q.id t).ins ∧ p ∈ (dropP r q.id t).ins ∧ q ∈ (dropP r q.id t).ins ∧ n0 ∈ (dropP r q.id t).nms ∧ aget (namesP (dropP r q.id t).nms q.id) t = none := by
  have h0 : entryP r.nms q.id t ≠ 0 := by rw [hoi]; exact hW.ne0 ho
  obtain ⟨n1, hn1, a1, a2, a3⟩ := entry_mem h0
  have hb := hW.byId ho
  have hpo : p.id ≠ o.id := fun e => by
    have : p = o := by rw [← hW.byId hp, e, hb]
    subst this
    have := hem hkp
    unfold manyP at this
    rw [List.countP_eq_zero] at this
    have := this n0 hn0
    simp [e1] at this
  have hqo : q.id ≠ o.id := fun e => hW.self_ne hn1 (by rw [a3, hoi, a1, e])
  refine ⟨wf_drop hW h0 (by rw [hoi, hb]; exact hem), drop_mem hx (by rw [hoi]; exact fun e => hox e.symm), drop_mem hp (by rw [hoi]; exact hpo), drop_mem hq (by rw [hoi]; exact hqo), ?_, ?_⟩
  · rw [drop_nms, List.mem_filter, Bool.not_eq_true', decide_eq_false_iff_not]
    refine ⟨hn0, fun e => ?_⟩
    have := hW.uniq_eq hn0 hn1 (e.1.trans a1.symm) (e.2.trans a2.symm)
    rw [this, a3, hoi] at e3
    exact hox e3
  · rw [drop_nms, namesP_unnamed, if_pos rfl, aget_del, if_pos rfl]
/-- Behind a folder that was dropped its parent has a link less. -/
theorem drop_links (hW : Wf r K) (hq : q ∈ r.ins) (hkq : q.kind = 2) (ho : o ∈ r.ins) (hko : o.kind = 2) (hoi : entryP r.nms q.id t = o.id) : linksN (dropP r q.id t) q < 20 := by
  have h0 : entryP r.nms q.id t ≠ 0 := by rw [hoi]; exact hW.ne0 ho
  obtain ⟨n1, hn1, a1, a2, a3⟩ := entry_mem h0
  have hb := hW.byId ho
  have h1 := linksN_unnamed hW hn1 q
  rw [a1, a2, a3, hoi, hb, if_pos hkq, if_pos ⟨rfl, hko⟩] at h1
  have h2 := hW.lim q hq
  have h3 : linksN (dropP r q.id t) q ≤ linksN (unnamedP r q.id t) q := by
    unfold dropP
    rw [hoi, hb, if_pos (.inl hko)]
    unfold linksN
    rw [if_pos hkq, if_pos hkq]
    refine Nat.add_le_add_right (List.countP_mono_left fun n _ h => ?_) 2
    simp only [decide_eq_true_eq] at h ⊢
    refine ⟨h.1, ?_⟩
    have h4 := h.2
    show (byIdP r.ins n.id).kind = 2
    change (byIdP (r.ins.filter fun x => decide (x.id ≠ o.id)) n.id).kind = 2 at h4
    rw [byIdP_filter] at h4
    split at h4
    · exact absurd h4 (by decide)
    · exact h4
  omega
end
end Go.Proofs.Ytpcjmefchclhhaa

/- Rename where a name was (printed by genren2.py). -/
namespace Go.Proofs.Ytpcjmefchclhhaa
open Go.RowKit Go.MapKept

theorem node_sub {w w7 : World} {f mi mg K : Nat} {r rd : RFs} {N N7 : List Nd} (h : FsN w f mi mg r N) (F7 : FsN w7 f mi mg rd N7) (hWd : Wf rd K) (hsub : ∀ n ∈ N7, n ∈ N) {y : RIn} {n : Nd} (hy : y ∈ rd.ins) (hn : n ∈ N) (hi : n.id = y.id) : n ∈ N7 ∧ NodeR w7 rd y n := by
  obtain ⟨m, hm, hr⟩ := F7.at_ hWd hy
  have : m = n := nodup_inj h.idU (hsub m hm) hn (hr.id.trans hi.symm)
  subst this
  exact ⟨hm, hr⟩
theorem fpL_lt {w : World} {f mi mg K : Nat} {r : RFs} {N : List Nd} (h : FsN w f mi mg r N) (hW : Wf r K) : ∀ k ∈ fpL f mi mg N, k < w.heap.size := by
  obtain ⟨l1, l2, l3, l4⟩ := h.lt hW
  intro k hk
  unfold fpL at hk
  simp only [List.mem_cons, List.mem_flatMap] at hk
  rcases hk with rfl | rfl | rfl | ⟨n, hn, hk⟩
  · exact l1
  · exact l2
  · exact l3
  · exact l4 n hn k hk

set_option maxRecDepth 100000 in
set_option maxHeartbeats 8000000 in
theorem rename_ov0d {w : World} {f mi mg K : Nat} {r : RFs} {N : List Nd} (h : FsN w f mi mg r N) (hW : Wf r K) (i g : Int) (s : ByteArray) (hs : s.size ≤ maxLen) (i2 g2 : Int) (s2 : ByteArray) (hs2 : s2.size ≤ maxLen)
    {p q : RIn} {np nq : Nd} (hp : p ∈ r.ins) (hkp : p.kind = 2) (hnp : np ∈ N) (hrp : NodeR w r p np) (hq : q ∈ r.ins) (hkq : q.kind = 2) (hnq : nq ∈ N) (hrq : NodeR w r q nq) (hpi : p.id = i) (hqi : q.id = i2)
    (hl : liveP r (i, g) = true) (hl2 : liveP r (i2, g2) = true) (hk : (byIdP r.ins i).kind = 2) (hk2 : (byIdP r.ins i2).kind = 2) (hv : validP s = true) (hv2 : validP s2 = true)
    {x : RIn} {nx : Nd} (hx : x ∈ r.ins) (hnx : nx ∈ N) (hrx : NodeR w r x nx) (hxi : entryP r.nms i s = x.id) (hxq : x.id ≠ q.id) {o : RIn} {no : Nd} (ho : o ∈ r.ins) (hno : no ∈ N) (hro : NodeR w r o no) (hoi : entryP r.nms i2 s2 = o.id) (hox : o.id ≠ x.id) (hkx : ¬ x.kind = 2) (hpq : np.blk ≠ nq.blk) (hmy : mayP r o false = 0) :
    Calls Try.prog 54 #[.pointer (some ⟨f, 0, none⟩), .agg #[.int .i64 i, .int .i64 g], .string s, .agg #[.int .i64 i2, .int .i64 g2], .string s2] w fun e w' => e = .returned (.int .i64 0) ∧ StepR w w' f mi mg N (movedP (dropP r i2 s2) i s i2 s2 x) := by
  obtain ⟨w2, hw2, hB, hz2, hb0, hb1⟩ := box2 w #[.int .i64 i, .int .i64 g] #[.int .i64 i2, .int .i64 g2] 68 68
  have t0 : w2.cell? ⟨w.heap.size, 0, none⟩ = some (.int .i64 i) := by rw [cell_at hb0]; rfl
  have t1 : w2.cell? ⟨w.heap.size, 1, none⟩ = some (.int .i64 g) := by rw [cell_at hb0]; rfl
  have t2 : w2.cell? ⟨w.heap.size + 1, 0, none⟩ = some (.int .i64 i2) := by rw [cell_at hb1]; rfl
  have t3 : w2.cell? ⟨w.heap.size + 1, 1, none⟩ = some (.int .i64 g2) := by rw [cell_at hb1]; rfl
  have h2 := h.below hW hB
  have HW2 := Lib.hid hw2
  have HB := Lib.hid hB
  have hrp2 := hrp.below (.inr (.inl hkp)) hB
  have hrq2 := hrq.below (.inr (.inl hkq)) hB
  have hpl := places_ok h2 hW i g s hs i2 g2 s2 hs2 hl hl2 hk hk2 hv hv2 hnp hnq (hrp.id.trans hpi) (hrq.id.trans hqi)
  have HP := Lib.hid hpl
  have HAt := Lib.hid (show ∀ w4, Below w2.heap.size w2 w4 → Calls Try.prog 59 #[.agg #[.pointer (some ⟨np.blk, 0, none⟩), .pointer (some ⟨np.b, 0, none⟩), .string s]] w4 fun e w' => e = .returned (.tuple #[.int .i64 (entryP r.nms i s), .bool (decide (entryP r.nms i s ≠ 0))]) ∧ Below w4.heap.size w4 w' from fun w4 hb => by
    have hr4 := hrp2.below (.inr (.inl hkp)) hb
    have := at_any hr4 hkp (hr4.lt (.inr (.inl hkp))) s (some ⟨np.blk, 0, none⟩)
    rw [hpi, hW.entry_some] at this
    exact this)
  have HAt2 := Lib.hid (show ∀ w4, Below w2.heap.size w2 w4 → Calls Try.prog 59 #[.agg #[.pointer (some ⟨nq.blk, 0, none⟩), .pointer (some ⟨nq.b, 0, none⟩), .string s2]] w4 fun e w' => e = .returned (.tuple #[.int .i64 (entryP r.nms i2 s2), .bool (decide (entryP r.nms i2 s2 ≠ 0))]) ∧ Below w4.heap.size w4 w' from fun w4 hb => by
    have hr4 := hrq2.below (.inr (.inl hkq)) hb
    have := at_any hr4 hkq (hr4.lt (.inr (.inl hkq))) s2 (some ⟨nq.blk, 0, none⟩)
    rw [hqi, hW.entry_some] at this
    exact this)
  have hx0 : x.id ≠ 0 := hW.ne0 hx
  rw [hxi, decide_eq_true hx0] at HAt
  have hrx2 := hrx.below (hW.kind x hx) hB
  have HX := Lib.hid (show ∀ w', Below w2.heap.size w2 w' → w'.cell? ⟨f, 1, none⟩ = some (.map (some mi)) ∧ w'.cell? ⟨nx.blk, 5, none⟩ = some (holdsV x nx) ∧ (Instr.lookup 103 (.map (some mi)) (.int .i64 x.id) false).run Try.prog w' = .ok (.pointer (some ⟨nx.blk, 0, none⟩)) w' ∧ w'.cell? ⟨nq.blk, 0, none⟩ = some (.int .i64 i2) ∧ w'.cell? ⟨nq.blk, 4, none⟩ = some (.int .i64 (linksN r q : Int)) from fun w' hb => by
    have h4 := h2.below hW hb
    have hg := h4.get hnx
    rw [hrx.id] at hg
    have hlk := (h4.look x.id).2
    rw [hg] at hlk
    have hq4 := (hrq2.below (.inr (.inl hkq)) hb).cells
    exact ⟨h4.cells.2.1, (hrx2.below (hW.kind x hx) hb).cells.2.2.2.2.2, hlk, by rw [← hqi]; exact hq4.1, hq4.2.2.2.2.1⟩)
  have hta : ∀ w, (Instr.typeAssert (holdsV x nx) 20 108 true).run Try.prog w = .ok (.tuple #[.pointer none, .bool false]) w := fun w => by rw [ta_dir, if_neg hkx]
  have hh0 : entryP r.nms i s ≠ 0 := by rw [hxi]; exact hW.ne0 hx
  obtain ⟨n0, hn0, m1, m2, m3⟩ := entry_mem hh0
  rw [hxi] at m3
  rw [← hpi] at m1
  have hxp : x.id ≠ p.id := by rw [← m3, ← m1]; exact hW.self_ne hn0
  have HH := Lib.hid h
  have HWf := Lib.hid hW
  have HR := Lib.hid (And.intro hrx (And.intro hrp hrq))
  have HM := Lib.hid (And.intro hx (And.intro hp hq))
  have HN := Lib.hid (And.intro hnx (And.intro hnp hnq))
  have H0 := Lib.hid (And.intro hn0 (And.intro m1 (And.intro m2 m3)))
  have HK := Lib.hid (And.intro hkp hkq)
  have HI := Lib.hid (And.intro hpi hqi)
  have HXP := Lib.hid hxp
  have HN6 := Lib.hid (show ∀ w', Below w2.heap.size w2 w' → FsN w' f mi mg r N ∧ NodeR w' r p np ∧ NodeR w' r q nq ∧ NodeR w' r x nx from fun w' hb => ⟨h2.below hW hb, hrp2.below (.inr (.inl hkp)) hb, hrq2.below (.inr (.inl hkq)) hb, hrx2.below (hW.kind x hx) hb⟩)
  have ho0 : o.id ≠ 0 := hW.ne0 ho
  rw [hoi, decide_eq_true ho0] at HAt2
  have hbq : (o.id == x.id) = false := by rw [beq_eq_false_iff_ne]; exact hox
  have hro2 := hro.below (hW.kind o ho) hB
  have HO := Lib.hid (show ∀ w', Below w2.heap.size w2 w' → (Instr.lookup 103 (.map (some mi)) (.int .i64 o.id) false).run Try.prog w' = .ok (.pointer (some ⟨no.blk, 0, none⟩)) w' from fun w' hb => by
    have h4 := h2.below hW hb
    have hg := h4.get hno
    rw [hro.id] at hg
    have hlk := (h4.look o.id).2
    rw [hg] at hlk
    exact hlk)
  have HMy := Lib.hid (show ∀ w', Below w2.heap.size w2 w' → Calls Try.prog 63 #[.pointer (some ⟨f, 0, none⟩), .pointer (some ⟨no.blk, 0, none⟩), .bool false] w' fun e w'' => e = .returned (.int .i64 0) ∧ w' = w'' from fun w' hb => by
    have := may_any (hro2.below (hW.kind o ho) hb) false (some ⟨f, 0, none⟩)
    rw [hmy] at this; exact this)
  have hoi' : entryP r.nms q.id s2 = o.id := by rw [hqi]; exact hoi
  have hctx := drop_ctx hW hx hp hkp hq ho hoi' hox (may_dir hmy).2 hn0 m1 m3
  have HNo := Lib.hid (And.intro hnx (And.intro hnp hnq))
  have HIds := Lib.hid (And.intro hrx.id (And.intro hrp.id hrq.id))
  have HLt := Lib.hid (fpL_lt h hW)
  obtain ⟨rd, erd⟩ : ∃ rd, dropP r q.id s2 = rd := ⟨_, rfl⟩
  have HDr := Lib.hid (show ∀ w', Below w2.heap.size w2 w' → Calls Try.prog 64 #[.pointer (some ⟨f, 0, none⟩), .agg #[.pointer (some ⟨nq.blk, 0, none⟩), .pointer (some ⟨nq.b, 0, none⟩), .string s2]] w' fun e w'' => e = .returned (.tuple #[]) ∧ (∃ N', FsN w'' f mi mg rd N' ∧ ∀ n ∈ N', n ∈ N) ∧ Frm (fpL f mi mg N) w' w'' from fun w' hb => by
    have := drop_any (h2.below hW hb) hW hq hkq hnq (hrq2.below (.inr (.inl hkq)) hb) s2 (by rw [hoi']; exact ho0)
    rw [erd] at this
    exact this)
  rw [erd] at hctx
  obtain ⟨hWd, hxd, hpd, hqd, hnd, hag⟩ := hctx
  have HERd := Lib.hid erd
  have HWd := Lib.hid hWd
  have HMd := Lib.hid (And.intro hxd (And.intro hpd hqd))
  have H0d := Lib.hid (And.intro hnd (And.intro m1 (And.intro m2 m3)))
  have HKX := Lib.hid hkx
  have HXQ := Lib.hid hxq
  have HAg := Lib.hid (show (aget (namesP rd.nms q.id) s2).isSome = false by rw [hag]; rfl)
  have hmm : nq.m ≠ np.m := fun e => hpq (by
    by_cases c : nq = np
    · rw [c]
    · exact absurd (e ▸ Nd.m_mem (hrp.ne hkp).1) (h.apart hnq hnp c _ (Nd.m_mem (hrq.ne hkq).1)))
  have HMm := Lib.hid hmm
  have HPB := Lib.hid hpq
  have HPQ := Lib.hid (show p.id ≠ q.id from fun e => hpq (by rw [nodup_inj h.idU hnp hnq (hrp.id.trans (e.trans hrq.id.symm))]))
  clear hw2 hB hb0 hb1 h h2 hW hrp2 hrq2 hpl hp hkp hnp hrp hq hkq hnq hrq hpi hqi hl hl2 hk hk2 hv hv2 hx hnx hrx hxi hx0 hrx2 hkx hpq hmm hxq hmy ho hno hro hoi hox ho0 hro2 hoi' hWd hxd hpd hqd hnd hag erd hh0 hn0 m1 m2 m3 hxp
  go_enter Try.func54, Try.ntmps54
  go_wp2_with fail
  rw [HW2.out]
  go_upto_region 4 with (go_at_call 72; (with_reducible refine HP.out.mono ?_); rintro e w3 ⟨rfl, hB3⟩; have hs3 := hB3.size; replace hB3 := Lib.hid hB3)
  obtain ⟨w4, hw4, hB4, hs4, hb40, hb41⟩ := box2 w3 #[.pointer (some ⟨np.blk, 0, none⟩), .pointer (some ⟨np.b, 0, none⟩), .string s] #[.pointer (some ⟨nq.blk, 0, none⟩), .pointer (some ⟨nq.b, 0, none⟩), .string s2] 119 119
  rw [hw4]
  have c0 : w4.cell? ⟨w3.heap.size, 0, none⟩ = some (.pointer (some ⟨np.blk, 0, none⟩)) := by rw [cell_at hb40]; rfl
  have c1 : w4.cell? ⟨w3.heap.size, 1, none⟩ = some (.pointer (some ⟨np.b, 0, none⟩)) := by rw [cell_at hb40]; rfl
  have c2 : w4.cell? ⟨w3.heap.size, 2, none⟩ = some (.string s) := by rw [cell_at hb40]; rfl
  have HQ1 := Lib.hid hb40
  have HQ2 := Lib.hid hb41
  have HB4 := Lib.hid (hB3.out.trans (hB4.mono (by omega)))
  clear hw4 hb40 hb41 hB4
  go_upto_region 22 with (first
    | (go_at_call 59; (with_reducible refine (HAt.out w4 HB4.out).mono ?_); rintro e w5 ⟨rfl, hB5⟩; have hs5 := hB5.size; have hY := (hB5.block _ (by omega)).trans HQ2.out; have d0 : w5.cell? ⟨w3.heap.size + 1, 0, none⟩ = _ := cell_at hY 0; have d1 : w5.cell? ⟨w3.heap.size + 1, 1, none⟩ = _ := cell_at hY 1; have d2 : w5.cell? ⟨w3.heap.size + 1, 2, none⟩ = _ := cell_at hY 2; have HQ25 := Lib.hid hY; have HQ15 := Lib.hid ((hB5.block _ (by omega)).trans HQ1.out); clear hY; have HB5 := Lib.hid (HB4.out.trans (hB5.mono HB4.out.size)); obtain ⟨x1, x2, x3, -, -⟩ := HX.out w5 HB5.out; clear hB5)
    | (go_at_call 59; (with_reducible refine (HAt2.out w5 HB5.out).mono ?_); rintro e w6 ⟨rfl, hB6⟩; have hs6 := hB6.size; have HQ26 := Lib.hid ((hB6.block _ (by omega)).trans HQ25.out); have HQ16 := Lib.hid ((hB6.block _ (by omega)).trans HQ15.out); have e0 : w6.cell? ⟨w3.heap.size, 0, none⟩ = _ := cell_at HQ16.out 0; have g0 : w6.cell? ⟨w3.heap.size + 1, 0, none⟩ = _ := cell_at HQ26.out 0; have HB6 := Lib.hid (HB5.out.trans (hB6.mono HB5.out.size)); obtain ⟨y1, y2, y3, y4, y5⟩ := HX.out w6 HB6.out; clear hB6; have z1 := HO.out w6 HB6.out; have g1 : w6.cell? ⟨w3.heap.size + 1, 1, none⟩ = _ := cell_at HQ26.out 1; have g2' : w6.cell? ⟨w3.heap.size + 1, 2, none⟩ = _ := cell_at HQ26.out 2)
    | (go_at_call 63; (with_reducible refine (HMy.out w6 HB6.out).mono ?_); rintro e w7 ⟨rfl, rfl⟩)
    | (go_at_call 64; (with_reducible refine (HDr.out w6 HB6.out).mono ?_); rintro e wd ⟨rfl, hd⟩; have HD := Lib.hid hd; clear hd))
  obtain ⟨⟨N7, F7, hsub⟩, Fr7⟩ := HD.out
  have hb6 := HB.out.trans (HB6.out.mono (show w.heap.size ≤ w2.heap.size by omega))
  have hsz := hb6.size
  have hwz : w.heap.size + 2 ≤ w3.heap.size := by omega
  have HQ17 := Lib.hid ((Fr7.block w3.heap.size (heap_lt HQ16.out) (fun hm => by have := HLt.out _ hm; omega)).trans HQ16.out)
  have HQ27 := Lib.hid ((Fr7.block (w3.heap.size + 1) (heap_lt HQ26.out) (fun hm => by have := HLt.out _ hm; omega)).trans HQ26.out)
  obtain ⟨hx7, X6⟩ := node_sub HH.out F7 HWd.out hsub HMd.out.1 HNo.out.1 HIds.out.1
  obtain ⟨hp7, P6⟩ := node_sub HH.out F7 HWd.out hsub HMd.out.2.1 HNo.out.2.1 HIds.out.2.1
  obtain ⟨hq7, Q6⟩ := node_sub HH.out F7 HWd.out hsub HMd.out.2.2 HNo.out.2.2 HIds.out.2.2
  have F6 := F7
  have HSub := Lib.hid hsub
  have HNd := Lib.hid (And.intro hx7 (And.intro hp7 hq7))
  have FB := Lib.hid ((Frm.of_below (S := fpL f mi mg N) hb6).trans Fr7)
  clear F7 hsub Fr7 hx7 hp7 hq7 hb6
  have a1 : wd.cell? ⟨w3.heap.size, 1, none⟩ = some (.pointer (some ⟨np.b, 0, none⟩)) := by rw [cell_at HQ17.out]; rfl
  have a2 : wd.cell? ⟨np.b, 0, none⟩ = some (.map (some np.m)) := by rw [cell_at (P6.dir HK.out.1).1]; rfl
  have hm6 : MapB wd np.m strK intK (namesP rd.nms p.id) := (P6.dir HK.out.1).2
  obtain ⟨o1, hdel, hmp1⟩ := run_delete (P := Try.prog) (ty := 0) (tk := 9) KS (t := 109) Try.underlying109 hm6 s
  unfold strK at hdel
  have M1 := Lib.hid hmp1
  have G6 := Lib.hid F6
  have P6' := Lib.hid P6
  have Q6' := Lib.hid Q6
  have X6' := Lib.hid X6
  clear F6 P6 Q6 X6 hm6 hmp1
  go_upto_region 23 with fail
  obtain ⟨w7, hw7⟩ : ∃ w7, putObj wd np.m o1 = w7 := ⟨_, rfl⟩
  rw [hw7]
  have k7 : ∀ k, k ≠ np.m → w7.heap[k]? = wd.heap[k]? := fun k hk => by rw [← hw7]; exact putObj_other wd o1 hk
  rw [hw7] at M1
  have W7 := Lib.hid hw7
  have K7 := Lib.hid k7
  have b1 : w7.cell? ⟨w3.heap.size + 1, 1, none⟩ = some (.pointer (some ⟨nq.b, 0, none⟩)) := by rw [cell_at ((k7 _ (map_ne (P6'.out.dir HK.out.1).2 HQ27.out).symm).trans HQ27.out)]; rfl
  have b2 : w7.cell? ⟨nq.b, 0, none⟩ = some (.map (some nq.m)) := by rw [cell_at ((k7 _ (map_ne (P6'.out.dir HK.out.1).2 (Q6'.out.dir HK.out.2).1).symm).trans (Q6'.out.dir HK.out.2).1)]; rfl
  have hm7 : MapB w7 nq.m strK intK (namesP rd.nms q.id) := (Q6'.out.dir HK.out.2).2.of_block (k7 _ HMm.out)
  have hag : (aget (namesP rd.nms q.id) s2).isSome = false := HAg.out
  obtain ⟨o2, hup, hmp2⟩ := run_update KS (P := Try.prog) (t := 109) Try.underlying109 hm7 s2 x.id
  rw [aput_new hag] at hmp2
  unfold strK intK at hup
  have M2 := Lib.hid hmp2
  clear hm7 hag hmp2 hw7 k7 hdel a1 a2
  go_upto_region 24 with fail
  obtain ⟨w8, hw8⟩ : ∃ w8, putObj w7 nq.m o2 = w8 := ⟨_, rfl⟩
  rw [hw8]
  rw [hw8] at M2
  have W8 := Lib.hid hw8
  have K8 := Lib.hid (show ∀ k, k ≠ nq.m → w8.heap[k]? = w7.heap[k]? from fun k hk => by rw [← hw8]; exact putObj_other w7 o2 hk)
  clear hw8 hup b1 b2
  go_wp2
  go_ret
  refine ⟨rfl, ?_⟩
  obtain ⟨ei, eq⟩ := HI.out
  subst ei eq
  rw [HERd.out]
  obtain ⟨hx, hp, hq⟩ := HMd.out
  obtain ⟨hnx, hnp, hnq⟩ := HNd.out
  obtain ⟨hrx, hrp, hrq⟩ := And.intro X6'.out (And.intro P6'.out Q6'.out)
  obtain ⟨hn0, m1, m2, m3⟩ := H0d.out
  have hlk := fun y => moved_links HWd.out hx hn0 m3 q.id s2 (y := y) (y' := y) rfl rfl
  rw [m1, m2] at hlk
  have hns : ∀ j, namesP (movedP rd p.id s q.id s2 x).nms j = _ := fun j => by rw [moved_nms, namesP_named, namesP_unnamed]
  have pm := (P6'.out.dir HK.out.1).2
  have qm := (Q6'.out.dir HK.out.2).2
  have hl : ∀ y, linksN (movedP rd p.id s q.id s2 x) y = linksN rd y := fun y => by
    have := hlk y
    rw [if_neg (fun e => HKX.out e.2.1), if_neg (fun e => HKX.out e.2.1)] at this
    exact this
  refine ⟨N7, moved_fs G6.out HWd.out hx hnx hrx hp HK.out.1 hnp hrp hq HK.out.2 hnq hrq hn0 m1 m2 m3 HXP.out HXQ.out (fun k hk a b _ _ _ => (K8.out k b).trans (K7.out k a)) ?_ ?_ ?_ ?_ (fun e => absurd e HKX.out), fun k hk => .inl (fp_sub HSub.out k hk), ?_⟩
  · rw [hns, if_neg HPQ.out, if_pos rfl]
    exact M1.out.of_block (K8.out _ (fun e => HMm.out e.symm))
  · rw [hns, if_pos rfl, if_neg (fun e => HPQ.out e.symm)]
    exact M2.out
  · rw [hl]
    exact (K8.out _ (map_ne qm P6'.out.head).symm).trans ((K7.out _ (map_ne pm P6'.out.head).symm).trans P6'.out.head)
  · rw [hl]
    exact (K8.out _ (map_ne qm Q6'.out.head).symm).trans ((K7.out _ (map_ne pm Q6'.out.head).symm).trans Q6'.out.head)
  · rw [← W8.out, ← W7.out]
    exact (FB.out.putObj (.inl (fp_node HNo.out.2.1 (Nd.m_mem (hrp.ne HK.out.1).1))) o1).putObj (.inl (fp_node HNo.out.2.2 (Nd.m_mem (hrq.ne HK.out.2).1))) o2

set_option maxRecDepth 100000 in
set_option maxHeartbeats 8000000 in
theorem rename_ov0s {w : World} {f mi mg K : Nat} {r : RFs} {N : List Nd} (h : FsN w f mi mg r N) (hW : Wf r K) (i g : Int) (s : ByteArray) (hs : s.size ≤ maxLen) (i2 g2 : Int) (s2 : ByteArray) (hs2 : s2.size ≤ maxLen)
    {p q : RIn} {np nq : Nd} (hp : p ∈ r.ins) (hkp : p.kind = 2) (hnp : np ∈ N) (hrp : NodeR w r p np) (hq : q ∈ r.ins) (hkq : q.kind = 2) (hnq : nq ∈ N) (hrq : NodeR w r q nq) (hpi : p.id = i) (hqi : q.id = i2)
    (hl : liveP r (i, g) = true) (hl2 : liveP r (i2, g2) = true) (hk : (byIdP r.ins i).kind = 2) (hk2 : (byIdP r.ins i2).kind = 2) (hv : validP s = true) (hv2 : validP s2 = true)
    {x : RIn} {nx : Nd} (hx : x ∈ r.ins) (hnx : nx ∈ N) (hrx : NodeR w r x nx) (hxi : entryP r.nms i s = x.id) (hxq : x.id ≠ q.id) {o : RIn} {no : Nd} (ho : o ∈ r.ins) (hno : no ∈ N) (hro : NodeR w r o no) (hoi : entryP r.nms i2 s2 = o.id) (hox : o.id ≠ x.id) (hkx : ¬ x.kind = 2) (hpq : np = nq) (hmy : mayP r o false = 0) :
    Calls Try.prog 54 #[.pointer (some ⟨f, 0, none⟩), .agg #[.int .i64 i, .int .i64 g], .string s, .agg #[.int .i64 i2, .int .i64 g2], .string s2] w fun e w' => e = .returned (.int .i64 0) ∧ StepR w w' f mi mg N (movedP (dropP r i2 s2) i s i2 s2 x) := by
  subst hpq
  obtain rfl := h.uniq hW hp hrp hq hrq
  obtain rfl : i = i2 := hpi.symm.trans hqi
  obtain ⟨w2, hw2, hB, hz2, hb0, hb1⟩ := box2 w #[.int .i64 i, .int .i64 g] #[.int .i64 i, .int .i64 g2] 68 68
  have t0 : w2.cell? ⟨w.heap.size, 0, none⟩ = some (.int .i64 i) := by rw [cell_at hb0]; rfl
  have t1 : w2.cell? ⟨w.heap.size, 1, none⟩ = some (.int .i64 g) := by rw [cell_at hb0]; rfl
  have t2 : w2.cell? ⟨w.heap.size + 1, 0, none⟩ = some (.int .i64 i) := by rw [cell_at hb1]; rfl
  have t3 : w2.cell? ⟨w.heap.size + 1, 1, none⟩ = some (.int .i64 g2) := by rw [cell_at hb1]; rfl
  have h2 := h.below hW hB
  have HW2 := Lib.hid hw2
  have HB := Lib.hid hB
  have hrp2 := hrp.below (.inr (.inl hkp)) hB
  have hrq2 := hrq.below (.inr (.inl hkq)) hB
  have hpl := places_ok h2 hW i g s hs i g2 s2 hs2 hl hl2 hk hk2 hv hv2 hnp hnq (hrp.id.trans hpi) (hrq.id.trans hqi)
  have HP := Lib.hid hpl
  have HAt := Lib.hid (show ∀ w4, Below w2.heap.size w2 w4 → Calls Try.prog 59 #[.agg #[.pointer (some ⟨np.blk, 0, none⟩), .pointer (some ⟨np.b, 0, none⟩), .string s]] w4 fun e w' => e = .returned (.tuple #[.int .i64 (entryP r.nms i s), .bool (decide (entryP r.nms i s ≠ 0))]) ∧ Below w4.heap.size w4 w' from fun w4 hb => by
    have hr4 := hrp2.below (.inr (.inl hkp)) hb
    have := at_any hr4 hkp (hr4.lt (.inr (.inl hkp))) s (some ⟨np.blk, 0, none⟩)
    rw [hpi, hW.entry_some] at this
    exact this)
  have HAt2 := Lib.hid (show ∀ w4, Below w2.heap.size w2 w4 → Calls Try.prog 59 #[.agg #[.pointer (some ⟨np.blk, 0, none⟩), .pointer (some ⟨np.b, 0, none⟩), .string s2]] w4 fun e w' => e = .returned (.tuple #[.int .i64 (entryP r.nms i s2), .bool (decide (entryP r.nms i s2 ≠ 0))]) ∧ Below w4.heap.size w4 w' from fun w4 hb => by
    have hr4 := hrq2.below (.inr (.inl hkq)) hb
    have := at_any hr4 hkq (hr4.lt (.inr (.inl hkq))) s2 (some ⟨np.blk, 0, none⟩)
    rw [hqi, hW.entry_some] at this
    exact this)
  have hx0 : x.id ≠ 0 := hW.ne0 hx
  rw [hxi, decide_eq_true hx0] at HAt
  have hrx2 := hrx.below (hW.kind x hx) hB
  have HX := Lib.hid (show ∀ w', Below w2.heap.size w2 w' → w'.cell? ⟨f, 1, none⟩ = some (.map (some mi)) ∧ w'.cell? ⟨nx.blk, 5, none⟩ = some (holdsV x nx) ∧ (Instr.lookup 103 (.map (some mi)) (.int .i64 x.id) false).run Try.prog w' = .ok (.pointer (some ⟨nx.blk, 0, none⟩)) w' ∧ w'.cell? ⟨np.blk, 0, none⟩ = some (.int .i64 i) ∧ w'.cell? ⟨np.blk, 4, none⟩ = some (.int .i64 (linksN r p : Int)) from fun w' hb => by
    have h4 := h2.below hW hb
    have hg := h4.get hnx
    rw [hrx.id] at hg
    have hlk := (h4.look x.id).2
    rw [hg] at hlk
    have hq4 := (hrq2.below (.inr (.inl hkq)) hb).cells
    exact ⟨h4.cells.2.1, (hrx2.below (hW.kind x hx) hb).cells.2.2.2.2.2, hlk, by rw [← hqi]; exact hq4.1, hq4.2.2.2.2.1⟩)
  have hta : ∀ w, (Instr.typeAssert (holdsV x nx) 20 108 true).run Try.prog w = .ok (.tuple #[.pointer none, .bool false]) w := fun w => by rw [ta_dir, if_neg hkx]
  have hh0 : entryP r.nms i s ≠ 0 := by rw [hxi]; exact hW.ne0 hx
  obtain ⟨n0, hn0, m1, m2, m3⟩ := entry_mem hh0
  rw [hxi] at m3
  rw [← hpi] at m1
  have hxp : x.id ≠ p.id := by rw [← m3, ← m1]; exact hW.self_ne hn0
  have HH := Lib.hid h
  have HWf := Lib.hid hW
  have HR := Lib.hid (And.intro hrx (And.intro hrp hrq))
  have HM := Lib.hid (And.intro hx (And.intro hp hq))
  have HN := Lib.hid (And.intro hnx (And.intro hnp hnq))
  have H0 := Lib.hid (And.intro hn0 (And.intro m1 (And.intro m2 m3)))
  have HK := Lib.hid (And.intro hkp hkq)
  have HI := Lib.hid (And.intro hpi hqi)
  have HXP := Lib.hid hxp
  have HN6 := Lib.hid (show ∀ w', Below w2.heap.size w2 w' → FsN w' f mi mg r N ∧ NodeR w' r p np ∧ NodeR w' r p np ∧ NodeR w' r x nx from fun w' hb => ⟨h2.below hW hb, hrp2.below (.inr (.inl hkp)) hb, hrq2.below (.inr (.inl hkq)) hb, hrx2.below (hW.kind x hx) hb⟩)
  have ho0 : o.id ≠ 0 := hW.ne0 ho
  rw [hoi, decide_eq_true ho0] at HAt2
  have hbq : (o.id == x.id) = false := by rw [beq_eq_false_iff_ne]; exact hox
  have hro2 := hro.below (hW.kind o ho) hB
  have HO := Lib.hid (show ∀ w', Below w2.heap.size w2 w' → (Instr.lookup 103 (.map (some mi)) (.int .i64 o.id) false).run Try.prog w' = .ok (.pointer (some ⟨no.blk, 0, none⟩)) w' from fun w' hb => by
    have h4 := h2.below hW hb
    have hg := h4.get hno
    rw [hro.id] at hg
    have hlk := (h4.look o.id).2
    rw [hg] at hlk
    exact hlk)
  have HMy := Lib.hid (show ∀ w', Below w2.heap.size w2 w' → Calls Try.prog 63 #[.pointer (some ⟨f, 0, none⟩), .pointer (some ⟨no.blk, 0, none⟩), .bool false] w' fun e w'' => e = .returned (.int .i64 0) ∧ w' = w'' from fun w' hb => by
    have := may_any (hro2.below (hW.kind o ho) hb) false (some ⟨f, 0, none⟩)
    rw [hmy] at this; exact this)
  have hoi' : entryP r.nms p.id s2 = o.id := by rw [hqi]; exact hoi
  have hctx := drop_ctx hW hx hp hkp hq ho hoi' hox (may_dir hmy).2 hn0 m1 m3
  have HNo := Lib.hid (And.intro hnx (And.intro hnp hnq))
  have HIds := Lib.hid (And.intro hrx.id (And.intro hrp.id hrq.id))
  have HLt := Lib.hid (fpL_lt h hW)
  obtain ⟨rd, erd⟩ : ∃ rd, dropP r p.id s2 = rd := ⟨_, rfl⟩
  have HDr := Lib.hid (show ∀ w', Below w2.heap.size w2 w' → Calls Try.prog 64 #[.pointer (some ⟨f, 0, none⟩), .agg #[.pointer (some ⟨np.blk, 0, none⟩), .pointer (some ⟨np.b, 0, none⟩), .string s2]] w' fun e w'' => e = .returned (.tuple #[]) ∧ (∃ N', FsN w'' f mi mg rd N' ∧ ∀ n ∈ N', n ∈ N) ∧ Frm (fpL f mi mg N) w' w'' from fun w' hb => by
    have := drop_any (h2.below hW hb) hW hq hkq hnq (hrq2.below (.inr (.inl hkq)) hb) s2 (by rw [hoi']; exact ho0)
    rw [erd] at this
    exact this)
  rw [erd] at hctx
  obtain ⟨hWd, hxd, hpd, hqd, hnd, hag⟩ := hctx
  have HERd := Lib.hid erd
  have HWd := Lib.hid hWd
  have HMd := Lib.hid (And.intro hxd (And.intro hpd hqd))
  have H0d := Lib.hid (And.intro hnd (And.intro m1 (And.intro m2 m3)))
  have HKX := Lib.hid hkx
  have HXQ := Lib.hid hxq
  have HAg := Lib.hid (show (aget (adel (namesP rd.nms p.id) s) s2).isSome = false from by
    have h1 : aget (namesP rd.nms p.id) s2 = none := hag
    rw [aget_del, h1]
    split <;> rfl)
  clear hw2 hB hb0 hb1 h h2 hW hrp2 hrq2 hpl hp hkp hnp hrp hq hkq hnq hrq hpi hqi hl hl2 hk hk2 hv hv2 hx hnx hrx hxi hx0 hrx2 hkx hxq hmy ho hno hro hoi hox ho0 hro2 hoi' hWd hxd hpd hqd hnd hag erd hh0 hn0 m1 m2 m3 hxp
  go_enter Try.func54, Try.ntmps54
  go_wp2_with fail
  rw [HW2.out]
  go_upto_region 4 with (go_at_call 72; (with_reducible refine HP.out.mono ?_); rintro e w3 ⟨rfl, hB3⟩; have hs3 := hB3.size; replace hB3 := Lib.hid hB3)
  obtain ⟨w4, hw4, hB4, hs4, hb40, hb41⟩ := box2 w3 #[.pointer (some ⟨np.blk, 0, none⟩), .pointer (some ⟨np.b, 0, none⟩), .string s] #[.pointer (some ⟨np.blk, 0, none⟩), .pointer (some ⟨np.b, 0, none⟩), .string s2] 119 119
  rw [hw4]
  have c0 : w4.cell? ⟨w3.heap.size, 0, none⟩ = some (.pointer (some ⟨np.blk, 0, none⟩)) := by rw [cell_at hb40]; rfl
  have c1 : w4.cell? ⟨w3.heap.size, 1, none⟩ = some (.pointer (some ⟨np.b, 0, none⟩)) := by rw [cell_at hb40]; rfl
  have c2 : w4.cell? ⟨w3.heap.size, 2, none⟩ = some (.string s) := by rw [cell_at hb40]; rfl
  have HQ1 := Lib.hid hb40
  have HQ2 := Lib.hid hb41
  have HB4 := Lib.hid (hB3.out.trans (hB4.mono (by omega)))
  clear hw4 hb40 hb41 hB4
  go_upto_region 22 with (first
    | (go_at_call 59; (with_reducible refine (HAt.out w4 HB4.out).mono ?_); rintro e w5 ⟨rfl, hB5⟩; have hs5 := hB5.size; have hY := (hB5.block _ (by omega)).trans HQ2.out; have d0 : w5.cell? ⟨w3.heap.size + 1, 0, none⟩ = _ := cell_at hY 0; have d1 : w5.cell? ⟨w3.heap.size + 1, 1, none⟩ = _ := cell_at hY 1; have d2 : w5.cell? ⟨w3.heap.size + 1, 2, none⟩ = _ := cell_at hY 2; have HQ25 := Lib.hid hY; have HQ15 := Lib.hid ((hB5.block _ (by omega)).trans HQ1.out); clear hY; have HB5 := Lib.hid (HB4.out.trans (hB5.mono HB4.out.size)); obtain ⟨x1, x2, x3, -, -⟩ := HX.out w5 HB5.out; clear hB5)
    | (go_at_call 59; (with_reducible refine (HAt2.out w5 HB5.out).mono ?_); rintro e w6 ⟨rfl, hB6⟩; have hs6 := hB6.size; have HQ26 := Lib.hid ((hB6.block _ (by omega)).trans HQ25.out); have HQ16 := Lib.hid ((hB6.block _ (by omega)).trans HQ15.out); have e0 : w6.cell? ⟨w3.heap.size, 0, none⟩ = _ := cell_at HQ16.out 0; have g0 : w6.cell? ⟨w3.heap.size + 1, 0, none⟩ = _ := cell_at HQ26.out 0; have HB6 := Lib.hid (HB5.out.trans (hB6.mono HB5.out.size)); obtain ⟨y1, y2, y3, y4, y5⟩ := HX.out w6 HB6.out; clear hB6; have z1 := HO.out w6 HB6.out; have g1 : w6.cell? ⟨w3.heap.size + 1, 1, none⟩ = _ := cell_at HQ26.out 1; have g2' : w6.cell? ⟨w3.heap.size + 1, 2, none⟩ = _ := cell_at HQ26.out 2)
    | (go_at_call 63; (with_reducible refine (HMy.out w6 HB6.out).mono ?_); rintro e w7 ⟨rfl, rfl⟩)
    | (go_at_call 64; (with_reducible refine (HDr.out w6 HB6.out).mono ?_); rintro e wd ⟨rfl, hd⟩; have HD := Lib.hid hd; clear hd))
  obtain ⟨⟨N7, F7, hsub⟩, Fr7⟩ := HD.out
  have hb6 := HB.out.trans (HB6.out.mono (show w.heap.size ≤ w2.heap.size by omega))
  have hsz := hb6.size
  have hwz : w.heap.size + 2 ≤ w3.heap.size := by omega
  have HQ17 := Lib.hid ((Fr7.block w3.heap.size (heap_lt HQ16.out) (fun hm => by have := HLt.out _ hm; omega)).trans HQ16.out)
  have HQ27 := Lib.hid ((Fr7.block (w3.heap.size + 1) (heap_lt HQ26.out) (fun hm => by have := HLt.out _ hm; omega)).trans HQ26.out)
  obtain ⟨hx7, X6⟩ := node_sub HH.out F7 HWd.out hsub HMd.out.1 HNo.out.1 HIds.out.1
  obtain ⟨hp7, P6⟩ := node_sub HH.out F7 HWd.out hsub HMd.out.2.1 HNo.out.2.1 HIds.out.2.1
  obtain ⟨hq7, Q6⟩ := node_sub HH.out F7 HWd.out hsub HMd.out.2.2 HNo.out.2.2 HIds.out.2.2
  have F6 := F7
  have HSub := Lib.hid hsub
  have HNd := Lib.hid (And.intro hx7 (And.intro hp7 hq7))
  have FB := Lib.hid ((Frm.of_below (S := fpL f mi mg N) hb6).trans Fr7)
  clear F7 hsub Fr7 hx7 hp7 hq7 hb6
  have a1 : wd.cell? ⟨w3.heap.size, 1, none⟩ = some (.pointer (some ⟨np.b, 0, none⟩)) := by rw [cell_at HQ17.out]; rfl
  have a2 : wd.cell? ⟨np.b, 0, none⟩ = some (.map (some np.m)) := by rw [cell_at (P6.dir HK.out.1).1]; rfl
  have hm6 : MapB wd np.m strK intK (namesP rd.nms p.id) := (P6.dir HK.out.1).2
  obtain ⟨o1, hdel, hmp1⟩ := run_delete (P := Try.prog) (ty := 0) (tk := 9) KS (t := 109) Try.underlying109 hm6 s
  unfold strK at hdel
  have M1 := Lib.hid hmp1
  have G6 := Lib.hid F6
  have P6' := Lib.hid P6
  have Q6' := Lib.hid Q6
  have X6' := Lib.hid X6
  clear F6 P6 Q6 X6 hm6 hmp1
  go_upto_region 23 with fail
  obtain ⟨w7, hw7⟩ : ∃ w7, putObj wd np.m o1 = w7 := ⟨_, rfl⟩
  rw [hw7]
  have k7 : ∀ k, k ≠ np.m → w7.heap[k]? = wd.heap[k]? := fun k hk => by rw [← hw7]; exact putObj_other wd o1 hk
  rw [hw7] at M1
  have W7 := Lib.hid hw7
  have K7 := Lib.hid k7
  have b1 : w7.cell? ⟨w3.heap.size + 1, 1, none⟩ = some (.pointer (some ⟨np.b, 0, none⟩)) := by rw [cell_at ((k7 _ (map_ne (P6'.out.dir HK.out.1).2 HQ27.out).symm).trans HQ27.out)]; rfl
  have b2 : w7.cell? ⟨np.b, 0, none⟩ = some (.map (some np.m)) := by rw [cell_at ((k7 _ (map_ne (P6'.out.dir HK.out.1).2 (Q6'.out.dir HK.out.2).1).symm).trans (Q6'.out.dir HK.out.2).1)]; rfl
  have hm7 : MapB w7 np.m strK intK (adel (namesP rd.nms p.id) s) := M1.out
  have hag : (aget (adel (namesP rd.nms p.id) s) s2).isSome = false := HAg.out
  obtain ⟨o2, hup, hmp2⟩ := run_update KS (P := Try.prog) (t := 109) Try.underlying109 hm7 s2 x.id
  rw [aput_new hag] at hmp2
  unfold strK intK at hup
  have M2 := Lib.hid hmp2
  clear hm7 hag hmp2 hw7 k7 hdel a1 a2
  go_upto_region 24 with fail
  obtain ⟨w8, hw8⟩ : ∃ w8, putObj w7 np.m o2 = w8 := ⟨_, rfl⟩
  rw [hw8]
  rw [hw8] at M2
  have W8 := Lib.hid hw8
  have K8 := Lib.hid (show ∀ k, k ≠ np.m → w8.heap[k]? = w7.heap[k]? from fun k hk => by rw [← hw8]; exact putObj_other w7 o2 hk)
  clear hw8 hup b1 b2
  go_wp2
  go_ret
  refine ⟨rfl, ?_⟩
  obtain ⟨ei, -⟩ := HI.out
  subst ei
  rw [HERd.out]
  obtain ⟨hx, hp, hq⟩ := HMd.out
  obtain ⟨hnx, hnp, hnq⟩ := HNd.out
  obtain ⟨hrx, hrp, hrq⟩ := And.intro X6'.out (And.intro P6'.out Q6'.out)
  obtain ⟨hn0, m1, m2, m3⟩ := H0d.out
  have hlk := fun y => moved_links HWd.out hx hn0 m3 p.id s2 (y := y) (y' := y) rfl rfl
  rw [m1, m2] at hlk
  have hns : ∀ j, namesP (movedP rd p.id s p.id s2 x).nms j = _ := fun j => by rw [moved_nms, namesP_named, namesP_unnamed]
  have pm := (P6'.out.dir HK.out.1).2
  have qm := (Q6'.out.dir HK.out.2).2
  have hl : ∀ y, linksN (movedP rd p.id s p.id s2 x) y = linksN rd y := fun y => by
    have := hlk y
    rw [if_neg (fun e => HKX.out e.2.1)] at this
    exact this
  refine ⟨N7, moved_fs G6.out HWd.out hx hnx hrx hp HK.out.1 hnp hrp hq HK.out.2 hnq hrq hn0 m1 m2 m3 HXP.out HXQ.out (fun k hk a b _ _ _ => (K8.out k b).trans (K7.out k a)) ?_ ?_ ?_ ?_ (fun e => absurd e HKX.out), fun k hk => .inl (fp_sub HSub.out k hk), ?_⟩
  · rw [hns, if_pos rfl, if_pos rfl]
    exact M2.out
  · rw [hns, if_pos rfl, if_pos rfl]
    exact M2.out
  · rw [hl]
    exact (K8.out _ (map_ne qm P6'.out.head).symm).trans ((K7.out _ (map_ne pm P6'.out.head).symm).trans P6'.out.head)
  · rw [hl]
    exact (K8.out _ (map_ne qm Q6'.out.head).symm).trans ((K7.out _ (map_ne pm Q6'.out.head).symm).trans Q6'.out.head)
  · rw [← W8.out, ← W7.out]
    exact (FB.out.putObj (.inl (fp_node HNo.out.2.1 (Nd.m_mem (hrp.ne HK.out.1).1))) o1).putObj (.inl (fp_node HNo.out.2.2 (Nd.m_mem (hrq.ne HK.out.2).1))) o2

set_option maxRecDepth 100000 in
set_option maxHeartbeats 8000000 in
theorem rename_ov1d {w : World} {f mi mg K : Nat} {r : RFs} {N : List Nd} (h : FsN w f mi mg r N) (hW : Wf r K) (i g : Int) (s : ByteArray) (hs : s.size ≤ maxLen) (i2 g2 : Int) (s2 : ByteArray) (hs2 : s2.size ≤ maxLen)
    {p q : RIn} {np nq : Nd} (hp : p ∈ r.ins) (hkp : p.kind = 2) (hnp : np ∈ N) (hrp : NodeR w r p np) (hq : q ∈ r.ins) (hkq : q.kind = 2) (hnq : nq ∈ N) (hrq : NodeR w r q nq) (hpi : p.id = i) (hqi : q.id = i2)
    (hl : liveP r (i, g) = true) (hl2 : liveP r (i2, g2) = true) (hk : (byIdP r.ins i).kind = 2) (hk2 : (byIdP r.ins i2).kind = 2) (hv : validP s = true) (hv2 : validP s2 = true)
    {x : RIn} {nx : Nd} (hx : x ∈ r.ins) (hnx : nx ∈ N) (hrx : NodeR w r x nx) (hxi : entryP r.nms i s = x.id) (hxq : x.id ≠ q.id) {o : RIn} {no : Nd} (ho : o ∈ r.ins) (hno : no ∈ N) (hro : NodeR w r o no) (hoi : entryP r.nms i2 s2 = o.id) (hox : o.id ≠ x.id) (hkx : x.kind = 2) (hbl : belowB r i2 x.id = false) (hpq : np.blk ≠ nq.blk) (hmy : mayP r o true = 0) :
    Calls Try.prog 54 #[.pointer (some ⟨f, 0, none⟩), .agg #[.int .i64 i, .int .i64 g], .string s, .agg #[.int .i64 i2, .int .i64 g2], .string s2] w fun e w' => e = .returned (.int .i64 0) ∧ StepR w w' f mi mg N (movedP (dropP r i2 s2) i s i2 s2 x) := by
  obtain ⟨w2, hw2, hB, hz2, hb0, hb1⟩ := box2 w #[.int .i64 i, .int .i64 g] #[.int .i64 i2, .int .i64 g2] 68 68
  have t0 : w2.cell? ⟨w.heap.size, 0, none⟩ = some (.int .i64 i) := by rw [cell_at hb0]; rfl
  have t1 : w2.cell? ⟨w.heap.size, 1, none⟩ = some (.int .i64 g) := by rw [cell_at hb0]; rfl
  have t2 : w2.cell? ⟨w.heap.size + 1, 0, none⟩ = some (.int .i64 i2) := by rw [cell_at hb1]; rfl
  have t3 : w2.cell? ⟨w.heap.size + 1, 1, none⟩ = some (.int .i64 g2) := by rw [cell_at hb1]; rfl
  have h2 := h.below hW hB
  have HW2 := Lib.hid hw2
  have HB := Lib.hid hB
  have hrp2 := hrp.below (.inr (.inl hkp)) hB
  have hrq2 := hrq.below (.inr (.inl hkq)) hB
  have hpl := places_ok h2 hW i g s hs i2 g2 s2 hs2 hl hl2 hk hk2 hv hv2 hnp hnq (hrp.id.trans hpi) (hrq.id.trans hqi)
  have HP := Lib.hid hpl
  have HAt := Lib.hid (show ∀ w4, Below w2.heap.size w2 w4 → Calls Try.prog 59 #[.agg #[.pointer (some ⟨np.blk, 0, none⟩), .pointer (some ⟨np.b, 0, none⟩), .string s]] w4 fun e w' => e = .returned (.tuple #[.int .i64 (entryP r.nms i s), .bool (decide (entryP r.nms i s ≠ 0))]) ∧ Below w4.heap.size w4 w' from fun w4 hb => by
    have hr4 := hrp2.below (.inr (.inl hkp)) hb
    have := at_any hr4 hkp (hr4.lt (.inr (.inl hkp))) s (some ⟨np.blk, 0, none⟩)
    rw [hpi, hW.entry_some] at this
    exact this)
  have HAt2 := Lib.hid (show ∀ w4, Below w2.heap.size w2 w4 → Calls Try.prog 59 #[.agg #[.pointer (some ⟨nq.blk, 0, none⟩), .pointer (some ⟨nq.b, 0, none⟩), .string s2]] w4 fun e w' => e = .returned (.tuple #[.int .i64 (entryP r.nms i2 s2), .bool (decide (entryP r.nms i2 s2 ≠ 0))]) ∧ Below w4.heap.size w4 w' from fun w4 hb => by
    have hr4 := hrq2.below (.inr (.inl hkq)) hb
    have := at_any hr4 hkq (hr4.lt (.inr (.inl hkq))) s2 (some ⟨nq.blk, 0, none⟩)
    rw [hqi, hW.entry_some] at this
    exact this)
  have hx0 : x.id ≠ 0 := hW.ne0 hx
  rw [hxi, decide_eq_true hx0] at HAt
  have hrx2 := hrx.below (hW.kind x hx) hB
  have HX := Lib.hid (show ∀ w', Below w2.heap.size w2 w' → w'.cell? ⟨f, 1, none⟩ = some (.map (some mi)) ∧ w'.cell? ⟨nx.blk, 5, none⟩ = some (holdsV x nx) ∧ (Instr.lookup 103 (.map (some mi)) (.int .i64 x.id) false).run Try.prog w' = .ok (.pointer (some ⟨nx.blk, 0, none⟩)) w' ∧ w'.cell? ⟨nq.blk, 0, none⟩ = some (.int .i64 i2) ∧ w'.cell? ⟨nq.blk, 4, none⟩ = some (.int .i64 (linksN r q : Int)) from fun w' hb => by
    have h4 := h2.below hW hb
    have hg := h4.get hnx
    rw [hrx.id] at hg
    have hlk := (h4.look x.id).2
    rw [hg] at hlk
    have hq4 := (hrq2.below (.inr (.inl hkq)) hb).cells
    exact ⟨h4.cells.2.1, (hrx2.below (hW.kind x hx) hb).cells.2.2.2.2.2, hlk, by rw [← hqi]; exact hq4.1, hq4.2.2.2.2.1⟩)
  have hta : ∀ w, (Instr.typeAssert (holdsV x nx) 20 108 true).run Try.prog w = .ok (.tuple #[.pointer (some ⟨nx.b, 0, none⟩), .bool true]) w := fun w => by rw [ta_dir, if_pos hkx]; rfl
  have hh0 : entryP r.nms i s ≠ 0 := by rw [hxi]; exact hW.ne0 hx
  obtain ⟨n0, hn0, m1, m2, m3⟩ := entry_mem hh0
  rw [hxi] at m3
  rw [← hpi] at m1
  have hxp : x.id ≠ p.id := by rw [← m3, ← m1]; exact hW.self_ne hn0
  have HH := Lib.hid h
  have HWf := Lib.hid hW
  have HR := Lib.hid (And.intro hrx (And.intro hrp hrq))
  have HM := Lib.hid (And.intro hx (And.intro hp hq))
  have HN := Lib.hid (And.intro hnx (And.intro hnp hnq))
  have H0 := Lib.hid (And.intro hn0 (And.intro m1 (And.intro m2 m3)))
  have HK := Lib.hid (And.intro hkp hkq)
  have HI := Lib.hid (And.intro hpi hqi)
  have HXP := Lib.hid hxp
  have HN6 := Lib.hid (show ∀ w', Below w2.heap.size w2 w' → FsN w' f mi mg r N ∧ NodeR w' r p np ∧ NodeR w' r q nq ∧ NodeR w' r x nx from fun w' hb => ⟨h2.below hW hb, hrp2.below (.inr (.inl hkp)) hb, hrq2.below (.inr (.inl hkq)) hb, hrx2.below (hW.kind x hx) hb⟩)
  have ho0 : o.id ≠ 0 := hW.ne0 ho
  rw [hoi, decide_eq_true ho0] at HAt2
  have hbq : (o.id == x.id) = false := by rw [beq_eq_false_iff_ne]; exact hox
  have hro2 := hro.below (hW.kind o ho) hB
  have HO := Lib.hid (show ∀ w', Below w2.heap.size w2 w' → (Instr.lookup 103 (.map (some mi)) (.int .i64 o.id) false).run Try.prog w' = .ok (.pointer (some ⟨no.blk, 0, none⟩)) w' from fun w' hb => by
    have h4 := h2.below hW hb
    have hg := h4.get hno
    rw [hro.id] at hg
    have hlk := (h4.look o.id).2
    rw [hg] at hlk
    exact hlk)
  have HMy := Lib.hid (show ∀ w', Below w2.heap.size w2 w' → Calls Try.prog 63 #[.pointer (some ⟨f, 0, none⟩), .pointer (some ⟨no.blk, 0, none⟩), .bool true] w' fun e w'' => e = .returned (.int .i64 0) ∧ w' = w'' from fun w' hb => by
    have := may_any (hro2.below (hW.kind o ho) hb) true (some ⟨f, 0, none⟩)
    rw [hmy] at this; exact this)
  have HBl := Lib.hid (show ∀ w', Below w2.heap.size w2 w' → Calls Try.prog 73 #[.pointer (some ⟨f, 0, none⟩), .int .i64 i2, .int .i64 x.id] w' fun e w'' => e = .returned (.bool false) ∧ w' = w'' from fun w' hb => by
    have := below_any (h2.below hW hb) hW hq hkq x.id
    rw [hqi, hbl] at this
    exact this)
  have hoi' : entryP r.nms q.id s2 = o.id := by rw [hqi]; exact hoi
  have hctx := drop_ctx hW hx hp hkp hq ho hoi' hox (may_dir hmy).2 hn0 m1 m3
  have HNo := Lib.hid (And.intro hnx (And.intro hnp hnq))
  have HIds := Lib.hid (And.intro hrx.id (And.intro hrp.id hrq.id))
  have HLt := Lib.hid (fpL_lt h hW)
  obtain ⟨rd, erd⟩ : ∃ rd, dropP r q.id s2 = rd := ⟨_, rfl⟩
  have HDr := Lib.hid (show ∀ w', Below w2.heap.size w2 w' → Calls Try.prog 64 #[.pointer (some ⟨f, 0, none⟩), .agg #[.pointer (some ⟨nq.blk, 0, none⟩), .pointer (some ⟨nq.b, 0, none⟩), .string s2]] w' fun e w'' => e = .returned (.tuple #[]) ∧ (∃ N', FsN w'' f mi mg rd N' ∧ ∀ n ∈ N', n ∈ N) ∧ Frm (fpL f mi mg N) w' w'' from fun w' hb => by
    have := drop_any (h2.below hW hb) hW hq hkq hnq (hrq2.below (.inr (.inl hkq)) hb) s2 (by rw [hoi']; exact ho0)
    rw [erd] at this
    exact this)
  rw [erd] at hctx
  obtain ⟨hWd, hxd, hpd, hqd, hnd, hag⟩ := hctx
  have HERd := Lib.hid erd
  have HWd := Lib.hid hWd
  have HMd := Lib.hid (And.intro hxd (And.intro hpd hqd))
  have H0d := Lib.hid (And.intro hnd (And.intro m1 (And.intro m2 m3)))
  have HKX := Lib.hid hkx
  have HXQ := Lib.hid hxq
  have HLp := Lib.hid (show 2 ≤ linksN rd p ∧ linksN rd p ≤ 20 from ⟨by unfold linksN; rw [if_pos hkp]; omega, hWd.lim p hpd⟩)
  have HLq := Lib.hid (show linksN rd q ≤ 20 from hWd.lim q hqd)
  have HAg := Lib.hid (show (aget (namesP rd.nms q.id) s2).isSome = false by rw [hag]; rfl)
  have hmm : nq.m ≠ np.m := fun e => hpq (by
    by_cases c : nq = np
    · rw [c]
    · exact absurd (e ▸ Nd.m_mem (hrp.ne hkp).1) (h.apart hnq hnp c _ (Nd.m_mem (hrq.ne hkq).1)))
  have HMm := Lib.hid hmm
  have HPB := Lib.hid hpq
  have HPQ := Lib.hid (show p.id ≠ q.id from fun e => hpq (by rw [nodup_inj h.idU hnp hnq (hrp.id.trans (e.trans hrq.id.symm))]))
  clear hw2 hB hb0 hb1 h h2 hW hrp2 hrq2 hpl hp hkp hnp hrp hq hkq hnq hrq hpi hqi hl hl2 hk hk2 hv hv2 hx hnx hrx hxi hx0 hrx2 hkx hpq hmm hxq hmy ho hno hro hoi hox ho0 hro2 hoi' hWd hxd hpd hqd hnd hag erd hbl hh0 hn0 m1 m2 m3 hxp
  go_enter Try.func54, Try.ntmps54
  go_wp2_with fail
  rw [HW2.out]
  go_upto_region 4 with (go_at_call 72; (with_reducible refine HP.out.mono ?_); rintro e w3 ⟨rfl, hB3⟩; have hs3 := hB3.size; replace hB3 := Lib.hid hB3)
  obtain ⟨w4, hw4, hB4, hs4, hb40, hb41⟩ := box2 w3 #[.pointer (some ⟨np.blk, 0, none⟩), .pointer (some ⟨np.b, 0, none⟩), .string s] #[.pointer (some ⟨nq.blk, 0, none⟩), .pointer (some ⟨nq.b, 0, none⟩), .string s2] 119 119
  rw [hw4]
  have c0 : w4.cell? ⟨w3.heap.size, 0, none⟩ = some (.pointer (some ⟨np.blk, 0, none⟩)) := by rw [cell_at hb40]; rfl
  have c1 : w4.cell? ⟨w3.heap.size, 1, none⟩ = some (.pointer (some ⟨np.b, 0, none⟩)) := by rw [cell_at hb40]; rfl
  have c2 : w4.cell? ⟨w3.heap.size, 2, none⟩ = some (.string s) := by rw [cell_at hb40]; rfl
  have HQ1 := Lib.hid hb40
  have HQ2 := Lib.hid hb41
  have HB4 := Lib.hid (hB3.out.trans (hB4.mono (by omega)))
  clear hw4 hb40 hb41 hB4
  go_upto_region 22 with (first
    | (go_at_call 59; (with_reducible refine (HAt.out w4 HB4.out).mono ?_); rintro e w5 ⟨rfl, hB5⟩; have hs5 := hB5.size; have hY := (hB5.block _ (by omega)).trans HQ2.out; have d0 : w5.cell? ⟨w3.heap.size + 1, 0, none⟩ = _ := cell_at hY 0; have d1 : w5.cell? ⟨w3.heap.size + 1, 1, none⟩ = _ := cell_at hY 1; have d2 : w5.cell? ⟨w3.heap.size + 1, 2, none⟩ = _ := cell_at hY 2; have HQ25 := Lib.hid hY; have HQ15 := Lib.hid ((hB5.block _ (by omega)).trans HQ1.out); clear hY; have HB5 := Lib.hid (HB4.out.trans (hB5.mono HB4.out.size)); obtain ⟨x1, x2, x3, -, -⟩ := HX.out w5 HB5.out; clear hB5)
    | (go_at_call 59; (with_reducible refine (HAt2.out w5 HB5.out).mono ?_); rintro e w6 ⟨rfl, hB6⟩; have hs6 := hB6.size; have HQ26 := Lib.hid ((hB6.block _ (by omega)).trans HQ25.out); have HQ16 := Lib.hid ((hB6.block _ (by omega)).trans HQ15.out); have e0 : w6.cell? ⟨w3.heap.size, 0, none⟩ = _ := cell_at HQ16.out 0; have g0 : w6.cell? ⟨w3.heap.size + 1, 0, none⟩ = _ := cell_at HQ26.out 0; have HB6 := Lib.hid (HB5.out.trans (hB6.mono HB5.out.size)); obtain ⟨y1, y2, y3, y4, y5⟩ := HX.out w6 HB6.out; clear hB6; have z1 := HO.out w6 HB6.out; have g1 : w6.cell? ⟨w3.heap.size + 1, 1, none⟩ = _ := cell_at HQ26.out 1; have g2' : w6.cell? ⟨w3.heap.size + 1, 2, none⟩ = _ := cell_at HQ26.out 2)
    | (go_at_call 73; (with_reducible refine (HBl.out w6 HB6.out).mono ?_); rintro e w7 ⟨rfl, rfl⟩)
    | (go_at_call 63; (with_reducible refine (HMy.out w6 HB6.out).mono ?_); rintro e w7 ⟨rfl, rfl⟩)
    | (go_at_call 64; (with_reducible refine (HDr.out w6 HB6.out).mono ?_); rintro e wd ⟨rfl, hd⟩; have HD := Lib.hid hd; clear hd))
  obtain ⟨⟨N7, F7, hsub⟩, Fr7⟩ := HD.out
  have hb6 := HB.out.trans (HB6.out.mono (show w.heap.size ≤ w2.heap.size by omega))
  have hsz := hb6.size
  have hwz : w.heap.size + 2 ≤ w3.heap.size := by omega
  have HQ17 := Lib.hid ((Fr7.block w3.heap.size (heap_lt HQ16.out) (fun hm => by have := HLt.out _ hm; omega)).trans HQ16.out)
  have HQ27 := Lib.hid ((Fr7.block (w3.heap.size + 1) (heap_lt HQ26.out) (fun hm => by have := HLt.out _ hm; omega)).trans HQ26.out)
  obtain ⟨hx7, X6⟩ := node_sub HH.out F7 HWd.out hsub HMd.out.1 HNo.out.1 HIds.out.1
  obtain ⟨hp7, P6⟩ := node_sub HH.out F7 HWd.out hsub HMd.out.2.1 HNo.out.2.1 HIds.out.2.1
  obtain ⟨hq7, Q6⟩ := node_sub HH.out F7 HWd.out hsub HMd.out.2.2 HNo.out.2.2 HIds.out.2.2
  have F6 := F7
  have HSub := Lib.hid hsub
  have HNd := Lib.hid (And.intro hx7 (And.intro hp7 hq7))
  have FB := Lib.hid ((Frm.of_below (S := fpL f mi mg N) hb6).trans Fr7)
  clear F7 hsub Fr7 hx7 hp7 hq7 hb6
  have a1 : wd.cell? ⟨w3.heap.size, 1, none⟩ = some (.pointer (some ⟨np.b, 0, none⟩)) := by rw [cell_at HQ17.out]; rfl
  have a2 : wd.cell? ⟨np.b, 0, none⟩ = some (.map (some np.m)) := by rw [cell_at (P6.dir HK.out.1).1]; rfl
  have hm6 : MapB wd np.m strK intK (namesP rd.nms p.id) := (P6.dir HK.out.1).2
  obtain ⟨o1, hdel, hmp1⟩ := run_delete (P := Try.prog) (ty := 0) (tk := 9) KS (t := 109) Try.underlying109 hm6 s
  unfold strK at hdel
  have M1 := Lib.hid hmp1
  have G6 := Lib.hid F6
  have P6' := Lib.hid P6
  have Q6' := Lib.hid Q6
  have X6' := Lib.hid X6
  clear F6 P6 Q6 X6 hm6 hmp1
  go_upto_region 23 with fail
  obtain ⟨w7, hw7⟩ : ∃ w7, putObj wd np.m o1 = w7 := ⟨_, rfl⟩
  rw [hw7]
  have k7 : ∀ k, k ≠ np.m → w7.heap[k]? = wd.heap[k]? := fun k hk => by rw [← hw7]; exact putObj_other wd o1 hk
  rw [hw7] at M1
  have W7 := Lib.hid hw7
  have K7 := Lib.hid k7
  have b1 : w7.cell? ⟨w3.heap.size + 1, 1, none⟩ = some (.pointer (some ⟨nq.b, 0, none⟩)) := by rw [cell_at ((k7 _ (map_ne (P6'.out.dir HK.out.1).2 HQ27.out).symm).trans HQ27.out)]; rfl
  have b2 : w7.cell? ⟨nq.b, 0, none⟩ = some (.map (some nq.m)) := by rw [cell_at ((k7 _ (map_ne (P6'.out.dir HK.out.1).2 (Q6'.out.dir HK.out.2).1).symm).trans (Q6'.out.dir HK.out.2).1)]; rfl
  have hm7 : MapB w7 nq.m strK intK (namesP rd.nms q.id) := (Q6'.out.dir HK.out.2).2.of_block (k7 _ HMm.out)
  have hag : (aget (namesP rd.nms q.id) s2).isSome = false := HAg.out
  obtain ⟨o2, hup, hmp2⟩ := run_update KS (P := Try.prog) (t := 109) Try.underlying109 hm7 s2 x.id
  rw [aput_new hag] at hmp2
  unfold strK intK at hup
  have M2 := Lib.hid hmp2
  clear hm7 hag hmp2 hw7 k7 hdel a1 a2
  go_upto_region 24 with fail
  obtain ⟨w8, hw8⟩ : ∃ w8, putObj w7 nq.m o2 = w8 := ⟨_, rfl⟩
  rw [hw8]
  rw [hw8] at M2
  have W8 := Lib.hid hw8
  have K8 := Lib.hid (show ∀ k, k ≠ nq.m → w8.heap[k]? = w7.heap[k]? from fun k hk => by rw [← hw8]; exact putObj_other w7 o2 hk)
  clear hw8 hup b1 b2
  have ne : ∀ k, k ≠ np.m → k ≠ nq.m → w8.heap[k]? = wd.heap[k]? := fun k a b => (K8.out k b).trans (K7.out k a)
  have pm := (P6'.out.dir HK.out.1).2
  have qm := (Q6'.out.dir HK.out.2).2
  have xd := (X6'.out.dir HKX.out).1
  have P8 := (ne _ (map_ne pm P6'.out.head).symm (map_ne qm P6'.out.head).symm).trans P6'.out.head
  have Q8 := (ne _ (map_ne pm Q6'.out.head).symm (map_ne qm Q6'.out.head).symm).trans Q6'.out.head
  have X8 := (ne _ (map_ne pm xd).symm (map_ne qm xd).symm).trans xd
  have R8 := (ne _ (map_ne pm HQ17.out).symm (map_ne qm HQ17.out).symm).trans HQ17.out
  have S8 := (ne _ (map_ne pm HQ27.out).symm (map_ne qm HQ27.out).symm).trans HQ27.out
  have f0 : w8.cell? ⟨w3.heap.size, 0, none⟩ = some (.pointer (some ⟨np.blk, 0, none⟩)) := by rw [cell_at R8]; rfl
  have f1 : w8.cell? ⟨w3.heap.size + 1, 0, none⟩ = some (.pointer (some ⟨nq.blk, 0, none⟩)) := by rw [cell_at S8]; rfl
  have f2 : w8.cell? ⟨nq.blk, 0, none⟩ = some (.int .i64 q.id) := by rw [cell_at Q8]; rfl
  have f3 : w8.cell? ⟨np.blk, 4, none⟩ = some (.int .i64 (linksN rd p : Int)) := by rw [cell_at P8]; rfl
  have f4 : w8.cell? ⟨nq.blk, 4, none⟩ = some (.int .i64 (linksN rd q : Int)) := by rw [cell_at Q8]; rfl
  have f5 : w8.cell? ⟨nx.b, 1, none⟩ = some (.int .i64 x.parent) := by rw [cell_at X8]; rfl
  have f6 : w8.frozen? ⟨np.blk, 4, none⟩ = false := frozen_of_row w8 np.blk 4 _ _ P8
  have f7 : w8.frozen? ⟨nq.blk, 4, none⟩ = false := frozen_of_row w8 nq.blk 4 _ _ Q8
  have f8 : w8.frozen? ⟨nx.b, 1, none⟩ = false := frozen_of_row w8 nx.b 1 _ _ X8
  have n1 : w3.heap.size ≠ nx.b := blk_ne R8 X8 (by decide)
  have n2 : w3.heap.size ≠ np.blk := blk_ne R8 P8 (by decide)
  have n3 : w3.heap.size ≠ nq.blk := blk_ne R8 Q8 (by decide)
  have n4 : w3.heap.size + 1 ≠ nx.b := blk_ne S8 X8 (by decide)
  have n5 : w3.heap.size + 1 ≠ np.blk := blk_ne S8 P8 (by decide)
  have n6 : w3.heap.size + 1 ≠ nq.blk := blk_ne S8 Q8 (by decide)
  have n7 : nx.b ≠ np.blk := blk_ne X8 P8 (by decide)
  have n8 : nx.b ≠ nq.blk := blk_ne X8 Q8 (by decide)
  have P8' := Lib.hid P8
  have Q8' := Lib.hid Q8
  have X8' := Lib.hid X8
  have hlp := HLp.out.1
  have hlp2 := HLp.out.2
  have hlq := HLq.out
  clear P8 Q8 X8 R8 S8 ne pm qm xd
  have n9 : np.blk ≠ nq.blk := HPB.out
  obtain ⟨lp, elp⟩ : ∃ lp, linksN rd p = lp := ⟨_, rfl⟩
  obtain ⟨lq, elq⟩ : ∃ lq, linksN rd q = lq := ⟨_, rfl⟩
  rw [elp] at f3 P8' hlp hlp2
  rw [elq] at f4 Q8' hlq
  have ELP := Lib.hid elp
  have ELQ := Lib.hid elq
  clear elp elq
  go_wp2
  go_ret
  refine ⟨rfl, ?_⟩
  obtain ⟨ei, eq⟩ := HI.out
  subst ei eq
  rw [HERd.out]
  obtain ⟨hx, hp, hq⟩ := HMd.out
  obtain ⟨hnx, hnp, hnq⟩ := HNd.out
  obtain ⟨hrx, hrp, hrq⟩ := And.intro X6'.out (And.intro P6'.out Q6'.out)
  obtain ⟨hn0, m1, m2, m3⟩ := H0d.out
  have hlk := fun y => moved_links HWd.out hx hn0 m3 q.id s2 (y := y) (y' := y) rfl rfl
  rw [m1, m2] at hlk
  have hns : ∀ j, namesP (movedP rd p.id s q.id s2 x).nms j = _ := fun j => by rw [moved_nms, namesP_named, namesP_unnamed]
  have pm := (P6'.out.dir HK.out.1).2
  have qm := (Q6'.out.dir HK.out.2).2
  have xd := (X6'.out.dir HKX.out).1
  have c1 : ((lp : Int) - 1) = ((lp - 1 : Nat) : Int) := by omega
  have c2 : ((lq : Int) + 1) = ((lq + 1 : Nat) : Int) := by omega
  rw [c1, c2]
  have lP : linksN (movedP rd p.id s q.id s2 x) p = lp - 1 := by
    have := hlk p
    rw [if_pos ⟨HK.out.1, HKX.out, rfl⟩, if_neg (fun e => HPQ.out e.2.2.symm), ELP.out] at this
    omega
  have lQ : linksN (movedP rd p.id s q.id s2 x) q = lq + 1 := by
    have := hlk q
    rw [if_neg (fun e => HPQ.out e.2.2), if_pos ⟨HK.out.2, HKX.out, rfl⟩, ELQ.out] at this
    omega
  refine ⟨N7, moved_fs G6.out HWd.out hx hnx hrx hp HK.out.1 hnp hrp hq HK.out.2 hnq hrq hn0 m1 m2 m3 HXP.out HXQ.out (fun k hk a b c d e => (setCell_far _ _ _ _ _ d).trans ((setCell_far _ _ _ _ _ c).trans ((setCell_far _ _ _ _ _ (e HKX.out)).trans ((K8.out k b).trans (K7.out k a))))) ?_ ?_ ?_ ?_ (fun _ => ?_), fun k hk => .inl (fp_sub HSub.out k hk), ?_⟩
  · rw [hns, if_neg HPQ.out, if_pos rfl]
    exact M1.out.of_block ((setCell_far _ _ _ _ _ (map_ne pm Q6'.out.head)).trans ((setCell_far _ _ _ _ _ (map_ne pm P6'.out.head)).trans ((setCell_far _ _ _ _ _ (map_ne pm xd)).trans (K8.out _ (fun e => HMm.out e.symm)))))
  · rw [hns, if_pos rfl, if_neg (fun e => HPQ.out e.symm)]
    exact M2.out.of_block ((setCell_far _ _ _ _ _ (map_ne qm Q6'.out.head)).trans ((setCell_far _ _ _ _ _ (map_ne qm P6'.out.head)).trans (setCell_far _ _ _ _ _ (map_ne qm xd))))
  · rw [lP]
    exact (setCell_far _ _ _ _ _ n9).trans (links_set ((setCell_far _ _ _ _ _ n7.symm).trans P8'.out))
  · rw [lQ]
    exact links_set ((setCell_far _ _ _ _ _ n9.symm).trans ((setCell_far _ _ _ _ _ n8.symm).trans Q8'.out))
  · exact (setCell_far _ _ _ _ _ n8).trans ((setCell_far _ _ _ _ _ n7).trans (heap_setCell_same w8 nx.b 1 _ _ _ X8'.out))
  · rw [← W8.out, ← W7.out]
    exact (((((FB.out.putObj (.inl (fp_node HNo.out.2.1 (Nd.m_mem (hrp.ne HK.out.1).1))) o1).putObj (.inl (fp_node HNo.out.2.2 (Nd.m_mem (hrq.ne HK.out.2).1))) o2).setCell (.inl (fp_node HNo.out.1 (Nd.b_mem (hrx.ne HKX.out).1))) _).setCell (.inl (fp_node HNo.out.2.1 np.blk_mem)) _).setCell (.inl (fp_node HNo.out.2.2 nq.blk_mem)) _)

set_option maxRecDepth 100000 in
set_option maxHeartbeats 8000000 in
theorem rename_ov1s {w : World} {f mi mg K : Nat} {r : RFs} {N : List Nd} (h : FsN w f mi mg r N) (hW : Wf r K) (i g : Int) (s : ByteArray) (hs : s.size ≤ maxLen) (i2 g2 : Int) (s2 : ByteArray) (hs2 : s2.size ≤ maxLen)
    {p q : RIn} {np nq : Nd} (hp : p ∈ r.ins) (hkp : p.kind = 2) (hnp : np ∈ N) (hrp : NodeR w r p np) (hq : q ∈ r.ins) (hkq : q.kind = 2) (hnq : nq ∈ N) (hrq : NodeR w r q nq) (hpi : p.id = i) (hqi : q.id = i2)
    (hl : liveP r (i, g) = true) (hl2 : liveP r (i2, g2) = true) (hk : (byIdP r.ins i).kind = 2) (hk2 : (byIdP r.ins i2).kind = 2) (hv : validP s = true) (hv2 : validP s2 = true)
    {x : RIn} {nx : Nd} (hx : x ∈ r.ins) (hnx : nx ∈ N) (hrx : NodeR w r x nx) (hxi : entryP r.nms i s = x.id) (hxq : x.id ≠ q.id) {o : RIn} {no : Nd} (ho : o ∈ r.ins) (hno : no ∈ N) (hro : NodeR w r o no) (hoi : entryP r.nms i2 s2 = o.id) (hox : o.id ≠ x.id) (hkx : x.kind = 2) (hbl : belowB r i2 x.id = false) (hpq : np = nq) (hmy : mayP r o true = 0) :
    Calls Try.prog 54 #[.pointer (some ⟨f, 0, none⟩), .agg #[.int .i64 i, .int .i64 g], .string s, .agg #[.int .i64 i2, .int .i64 g2], .string s2] w fun e w' => e = .returned (.int .i64 0) ∧ StepR w w' f mi mg N (movedP (dropP r i2 s2) i s i2 s2 x) := by
  subst hpq
  obtain rfl := h.uniq hW hp hrp hq hrq
  obtain rfl : i = i2 := hpi.symm.trans hqi
  obtain ⟨w2, hw2, hB, hz2, hb0, hb1⟩ := box2 w #[.int .i64 i, .int .i64 g] #[.int .i64 i, .int .i64 g2] 68 68
  have t0 : w2.cell? ⟨w.heap.size, 0, none⟩ = some (.int .i64 i) := by rw [cell_at hb0]; rfl
  have t1 : w2.cell? ⟨w.heap.size, 1, none⟩ = some (.int .i64 g) := by rw [cell_at hb0]; rfl
  have t2 : w2.cell? ⟨w.heap.size + 1, 0, none⟩ = some (.int .i64 i) := by rw [cell_at hb1]; rfl
  have t3 : w2.cell? ⟨w.heap.size + 1, 1, none⟩ = some (.int .i64 g2) := by rw [cell_at hb1]; rfl
  have h2 := h.below hW hB
  have HW2 := Lib.hid hw2
  have HB := Lib.hid hB
  have hrp2 := hrp.below (.inr (.inl hkp)) hB
  have hrq2 := hrq.below (.inr (.inl hkq)) hB
  have hpl := places_ok h2 hW i g s hs i g2 s2 hs2 hl hl2 hk hk2 hv hv2 hnp hnq (hrp.id.trans hpi) (hrq.id.trans hqi)
  have HP := Lib.hid hpl
  have HAt := Lib.hid (show ∀ w4, Below w2.heap.size w2 w4 → Calls Try.prog 59 #[.agg #[.pointer (some ⟨np.blk, 0, none⟩), .pointer (some ⟨np.b, 0, none⟩), .string s]] w4 fun e w' => e = .returned (.tuple #[.int .i64 (entryP r.nms i s), .bool (decide (entryP r.nms i s ≠ 0))]) ∧ Below w4.heap.size w4 w' from fun w4 hb => by
    have hr4 := hrp2.below (.inr (.inl hkp)) hb
    have := at_any hr4 hkp (hr4.lt (.inr (.inl hkp))) s (some ⟨np.blk, 0, none⟩)
    rw [hpi, hW.entry_some] at this
    exact this)
  have HAt2 := Lib.hid (show ∀ w4, Below w2.heap.size w2 w4 → Calls Try.prog 59 #[.agg #[.pointer (some ⟨np.blk, 0, none⟩), .pointer (some ⟨np.b, 0, none⟩), .string s2]] w4 fun e w' => e = .returned (.tuple #[.int .i64 (entryP r.nms i s2), .bool (decide (entryP r.nms i s2 ≠ 0))]) ∧ Below w4.heap.size w4 w' from fun w4 hb => by
    have hr4 := hrq2.below (.inr (.inl hkq)) hb
    have := at_any hr4 hkq (hr4.lt (.inr (.inl hkq))) s2 (some ⟨np.blk, 0, none⟩)
    rw [hqi, hW.entry_some] at this
    exact this)
  have hx0 : x.id ≠ 0 := hW.ne0 hx
  rw [hxi, decide_eq_true hx0] at HAt
  have hrx2 := hrx.below (hW.kind x hx) hB
  have HX := Lib.hid (show ∀ w', Below w2.heap.size w2 w' → w'.cell? ⟨f, 1, none⟩ = some (.map (some mi)) ∧ w'.cell? ⟨nx.blk, 5, none⟩ = some (holdsV x nx) ∧ (Instr.lookup 103 (.map (some mi)) (.int .i64 x.id) false).run Try.prog w' = .ok (.pointer (some ⟨nx.blk, 0, none⟩)) w' ∧ w'.cell? ⟨np.blk, 0, none⟩ = some (.int .i64 i) ∧ w'.cell? ⟨np.blk, 4, none⟩ = some (.int .i64 (linksN r p : Int)) from fun w' hb => by
    have h4 := h2.below hW hb
    have hg := h4.get hnx
    rw [hrx.id] at hg
    have hlk := (h4.look x.id).2
    rw [hg] at hlk
    have hq4 := (hrq2.below (.inr (.inl hkq)) hb).cells
    exact ⟨h4.cells.2.1, (hrx2.below (hW.kind x hx) hb).cells.2.2.2.2.2, hlk, by rw [← hqi]; exact hq4.1, hq4.2.2.2.2.1⟩)
  have hta : ∀ w, (Instr.typeAssert (holdsV x nx) 20 108 true).run Try.prog w = .ok (.tuple #[.pointer (some ⟨nx.b, 0, none⟩), .bool true]) w := fun w => by rw [ta_dir, if_pos hkx]; rfl
  have hh0 : entryP r.nms i s ≠ 0 := by rw [hxi]; exact hW.ne0 hx
  obtain ⟨n0, hn0, m1, m2, m3⟩ := entry_mem hh0
  rw [hxi] at m3
  rw [← hpi] at m1
  have hxp : x.id ≠ p.id := by rw [← m3, ← m1]; exact hW.self_ne hn0
  have HH := Lib.hid h
  have HWf := Lib.hid hW
  have HR := Lib.hid (And.intro hrx (And.intro hrp hrq))
  have HM := Lib.hid (And.intro hx (And.intro hp hq))
  have HN := Lib.hid (And.intro hnx (And.intro hnp hnq))
  have H0 := Lib.hid (And.intro hn0 (And.intro m1 (And.intro m2 m3)))
  have HK := Lib.hid (And.intro hkp hkq)
  have HI := Lib.hid (And.intro hpi hqi)
  have HXP := Lib.hid hxp
  have HN6 := Lib.hid (show ∀ w', Below w2.heap.size w2 w' → FsN w' f mi mg r N ∧ NodeR w' r p np ∧ NodeR w' r p np ∧ NodeR w' r x nx from fun w' hb => ⟨h2.below hW hb, hrp2.below (.inr (.inl hkp)) hb, hrq2.below (.inr (.inl hkq)) hb, hrx2.below (hW.kind x hx) hb⟩)
  have ho0 : o.id ≠ 0 := hW.ne0 ho
  rw [hoi, decide_eq_true ho0] at HAt2
  have hbq : (o.id == x.id) = false := by rw [beq_eq_false_iff_ne]; exact hox
  have hro2 := hro.below (hW.kind o ho) hB
  have HO := Lib.hid (show ∀ w', Below w2.heap.size w2 w' → (Instr.lookup 103 (.map (some mi)) (.int .i64 o.id) false).run Try.prog w' = .ok (.pointer (some ⟨no.blk, 0, none⟩)) w' from fun w' hb => by
    have h4 := h2.below hW hb
    have hg := h4.get hno
    rw [hro.id] at hg
    have hlk := (h4.look o.id).2
    rw [hg] at hlk
    exact hlk)
  have HMy := Lib.hid (show ∀ w', Below w2.heap.size w2 w' → Calls Try.prog 63 #[.pointer (some ⟨f, 0, none⟩), .pointer (some ⟨no.blk, 0, none⟩), .bool true] w' fun e w'' => e = .returned (.int .i64 0) ∧ w' = w'' from fun w' hb => by
    have := may_any (hro2.below (hW.kind o ho) hb) true (some ⟨f, 0, none⟩)
    rw [hmy] at this; exact this)
  have HBl := Lib.hid (show ∀ w', Below w2.heap.size w2 w' → Calls Try.prog 73 #[.pointer (some ⟨f, 0, none⟩), .int .i64 i, .int .i64 x.id] w' fun e w'' => e = .returned (.bool false) ∧ w' = w'' from fun w' hb => by
    have := below_any (h2.below hW hb) hW hq hkq x.id
    rw [hqi, hbl] at this
    exact this)
  have hoi' : entryP r.nms p.id s2 = o.id := by rw [hqi]; exact hoi
  have hctx := drop_ctx hW hx hp hkp hq ho hoi' hox (may_dir hmy).2 hn0 m1 m3
  have HNo := Lib.hid (And.intro hnx (And.intro hnp hnq))
  have HIds := Lib.hid (And.intro hrx.id (And.intro hrp.id hrq.id))
  have HLt := Lib.hid (fpL_lt h hW)
  obtain ⟨rd, erd⟩ : ∃ rd, dropP r p.id s2 = rd := ⟨_, rfl⟩
  have HDr := Lib.hid (show ∀ w', Below w2.heap.size w2 w' → Calls Try.prog 64 #[.pointer (some ⟨f, 0, none⟩), .agg #[.pointer (some ⟨np.blk, 0, none⟩), .pointer (some ⟨np.b, 0, none⟩), .string s2]] w' fun e w'' => e = .returned (.tuple #[]) ∧ (∃ N', FsN w'' f mi mg rd N' ∧ ∀ n ∈ N', n ∈ N) ∧ Frm (fpL f mi mg N) w' w'' from fun w' hb => by
    have := drop_any (h2.below hW hb) hW hq hkq hnq (hrq2.below (.inr (.inl hkq)) hb) s2 (by rw [hoi']; exact ho0)
    rw [erd] at this
    exact this)
  rw [erd] at hctx
  obtain ⟨hWd, hxd, hpd, hqd, hnd, hag⟩ := hctx
  have HERd := Lib.hid erd
  have HWd := Lib.hid hWd
  have HMd := Lib.hid (And.intro hxd (And.intro hpd hqd))
  have H0d := Lib.hid (And.intro hnd (And.intro m1 (And.intro m2 m3)))
  have HKX := Lib.hid hkx
  have HXQ := Lib.hid hxq
  have HLp := Lib.hid (show 2 ≤ linksN rd p ∧ linksN rd p ≤ 20 from ⟨by unfold linksN; rw [if_pos hkp]; omega, hWd.lim p hpd⟩)
  have HLq := Lib.hid (show linksN rd p ≤ 20 from hWd.lim p hqd)
  have HAg := Lib.hid (show (aget (adel (namesP rd.nms p.id) s) s2).isSome = false from by
    have h1 : aget (namesP rd.nms p.id) s2 = none := hag
    rw [aget_del, h1]
    split <;> rfl)
  clear hw2 hB hb0 hb1 h h2 hW hrp2 hrq2 hpl hp hkp hnp hrp hq hkq hnq hrq hpi hqi hl hl2 hk hk2 hv hv2 hx hnx hrx hxi hx0 hrx2 hkx hxq hmy ho hno hro hoi hox ho0 hro2 hoi' hWd hxd hpd hqd hnd hag erd hbl hh0 hn0 m1 m2 m3 hxp
  go_enter Try.func54, Try.ntmps54
  go_wp2_with fail
  rw [HW2.out]
  go_upto_region 4 with (go_at_call 72; (with_reducible refine HP.out.mono ?_); rintro e w3 ⟨rfl, hB3⟩; have hs3 := hB3.size; replace hB3 := Lib.hid hB3)
  obtain ⟨w4, hw4, hB4, hs4, hb40, hb41⟩ := box2 w3 #[.pointer (some ⟨np.blk, 0, none⟩), .pointer (some ⟨np.b, 0, none⟩), .string s] #[.pointer (some ⟨np.blk, 0, none⟩), .pointer (some ⟨np.b, 0, none⟩), .string s2] 119 119
  rw [hw4]
  have c0 : w4.cell? ⟨w3.heap.size, 0, none⟩ = some (.pointer (some ⟨np.blk, 0, none⟩)) := by rw [cell_at hb40]; rfl
  have c1 : w4.cell? ⟨w3.heap.size, 1, none⟩ = some (.pointer (some ⟨np.b, 0, none⟩)) := by rw [cell_at hb40]; rfl
  have c2 : w4.cell? ⟨w3.heap.size, 2, none⟩ = some (.string s) := by rw [cell_at hb40]; rfl
  have HQ1 := Lib.hid hb40
  have HQ2 := Lib.hid hb41
  have HB4 := Lib.hid (hB3.out.trans (hB4.mono (by omega)))
  clear hw4 hb40 hb41 hB4
  go_upto_region 22 with (first
    | (go_at_call 59; (with_reducible refine (HAt.out w4 HB4.out).mono ?_); rintro e w5 ⟨rfl, hB5⟩; have hs5 := hB5.size; have hY := (hB5.block _ (by omega)).trans HQ2.out; have d0 : w5.cell? ⟨w3.heap.size + 1, 0, none⟩ = _ := cell_at hY 0; have d1 : w5.cell? ⟨w3.heap.size + 1, 1, none⟩ = _ := cell_at hY 1; have d2 : w5.cell? ⟨w3.heap.size + 1, 2, none⟩ = _ := cell_at hY 2; have HQ25 := Lib.hid hY; have HQ15 := Lib.hid ((hB5.block _ (by omega)).trans HQ1.out); clear hY; have HB5 := Lib.hid (HB4.out.trans (hB5.mono HB4.out.size)); obtain ⟨x1, x2, x3, -, -⟩ := HX.out w5 HB5.out; clear hB5)
    | (go_at_call 59; (with_reducible refine (HAt2.out w5 HB5.out).mono ?_); rintro e w6 ⟨rfl, hB6⟩; have hs6 := hB6.size; have HQ26 := Lib.hid ((hB6.block _ (by omega)).trans HQ25.out); have HQ16 := Lib.hid ((hB6.block _ (by omega)).trans HQ15.out); have e0 : w6.cell? ⟨w3.heap.size, 0, none⟩ = _ := cell_at HQ16.out 0; have g0 : w6.cell? ⟨w3.heap.size + 1, 0, none⟩ = _ := cell_at HQ26.out 0; have HB6 := Lib.hid (HB5.out.trans (hB6.mono HB5.out.size)); obtain ⟨y1, y2, y3, y4, y5⟩ := HX.out w6 HB6.out; clear hB6; have z1 := HO.out w6 HB6.out; have g1 : w6.cell? ⟨w3.heap.size + 1, 1, none⟩ = _ := cell_at HQ26.out 1; have g2' : w6.cell? ⟨w3.heap.size + 1, 2, none⟩ = _ := cell_at HQ26.out 2)
    | (go_at_call 73; (with_reducible refine (HBl.out w6 HB6.out).mono ?_); rintro e w7 ⟨rfl, rfl⟩)
    | (go_at_call 63; (with_reducible refine (HMy.out w6 HB6.out).mono ?_); rintro e w7 ⟨rfl, rfl⟩)
    | (go_at_call 64; (with_reducible refine (HDr.out w6 HB6.out).mono ?_); rintro e wd ⟨rfl, hd⟩; have HD := Lib.hid hd; clear hd))
  obtain ⟨⟨N7, F7, hsub⟩, Fr7⟩ := HD.out
  have hb6 := HB.out.trans (HB6.out.mono (show w.heap.size ≤ w2.heap.size by omega))
  have hsz := hb6.size
  have hwz : w.heap.size + 2 ≤ w3.heap.size := by omega
  have HQ17 := Lib.hid ((Fr7.block w3.heap.size (heap_lt HQ16.out) (fun hm => by have := HLt.out _ hm; omega)).trans HQ16.out)
  have HQ27 := Lib.hid ((Fr7.block (w3.heap.size + 1) (heap_lt HQ26.out) (fun hm => by have := HLt.out _ hm; omega)).trans HQ26.out)
  obtain ⟨hx7, X6⟩ := node_sub HH.out F7 HWd.out hsub HMd.out.1 HNo.out.1 HIds.out.1
  obtain ⟨hp7, P6⟩ := node_sub HH.out F7 HWd.out hsub HMd.out.2.1 HNo.out.2.1 HIds.out.2.1
  obtain ⟨hq7, Q6⟩ := node_sub HH.out F7 HWd.out hsub HMd.out.2.2 HNo.out.2.2 HIds.out.2.2
  have F6 := F7
  have HSub := Lib.hid hsub
  have HNd := Lib.hid (And.intro hx7 (And.intro hp7 hq7))
  have FB := Lib.hid ((Frm.of_below (S := fpL f mi mg N) hb6).trans Fr7)
  clear F7 hsub Fr7 hx7 hp7 hq7 hb6
  have a1 : wd.cell? ⟨w3.heap.size, 1, none⟩ = some (.pointer (some ⟨np.b, 0, none⟩)) := by rw [cell_at HQ17.out]; rfl
  have a2 : wd.cell? ⟨np.b, 0, none⟩ = some (.map (some np.m)) := by rw [cell_at (P6.dir HK.out.1).1]; rfl
  have hm6 : MapB wd np.m strK intK (namesP rd.nms p.id) := (P6.dir HK.out.1).2
  obtain ⟨o1, hdel, hmp1⟩ := run_delete (P := Try.prog) (ty := 0) (tk := 9) KS (t := 109) Try.underlying109 hm6 s
  unfold strK at hdel
  have M1 := Lib.hid hmp1
  have G6 := Lib.hid F6
  have P6' := Lib.hid P6
  have Q6' := Lib.hid Q6
  have X6' := Lib.hid X6
  clear F6 P6 Q6 X6 hm6 hmp1
  go_upto_region 23 with fail
  obtain ⟨w7, hw7⟩ : ∃ w7, putObj wd np.m o1 = w7 := ⟨_, rfl⟩
  rw [hw7]
  have k7 : ∀ k, k ≠ np.m → w7.heap[k]? = wd.heap[k]? := fun k hk => by rw [← hw7]; exact putObj_other wd o1 hk
  rw [hw7] at M1
  have W7 := Lib.hid hw7
  have K7 := Lib.hid k7
  have b1 : w7.cell? ⟨w3.heap.size + 1, 1, none⟩ = some (.pointer (some ⟨np.b, 0, none⟩)) := by rw [cell_at ((k7 _ (map_ne (P6'.out.dir HK.out.1).2 HQ27.out).symm).trans HQ27.out)]; rfl
  have b2 : w7.cell? ⟨np.b, 0, none⟩ = some (.map (some np.m)) := by rw [cell_at ((k7 _ (map_ne (P6'.out.dir HK.out.1).2 (Q6'.out.dir HK.out.2).1).symm).trans (Q6'.out.dir HK.out.2).1)]; rfl
  have hm7 : MapB w7 np.m strK intK (adel (namesP rd.nms p.id) s) := M1.out
  have hag : (aget (adel (namesP rd.nms p.id) s) s2).isSome = false := HAg.out
  obtain ⟨o2, hup, hmp2⟩ := run_update KS (P := Try.prog) (t := 109) Try.underlying109 hm7 s2 x.id
  rw [aput_new hag] at hmp2
  unfold strK intK at hup
  have M2 := Lib.hid hmp2
  clear hm7 hag hmp2 hw7 k7 hdel a1 a2
  go_upto_region 24 with fail
  obtain ⟨w8, hw8⟩ : ∃ w8, putObj w7 np.m o2 = w8 := ⟨_, rfl⟩
  rw [hw8]
  rw [hw8] at M2
  have W8 := Lib.hid hw8
  have K8 := Lib.hid (show ∀ k, k ≠ np.m → w8.heap[k]? = w7.heap[k]? from fun k hk => by rw [← hw8]; exact putObj_other w7 o2 hk)
  clear hw8 hup b1 b2
  have ne : ∀ k, k ≠ np.m → k ≠ np.m → w8.heap[k]? = wd.heap[k]? := fun k a b => (K8.out k b).trans (K7.out k a)
  have pm := (P6'.out.dir HK.out.1).2
  have qm := (Q6'.out.dir HK.out.2).2
  have xd := (X6'.out.dir HKX.out).1
  have P8 := (ne _ (map_ne pm P6'.out.head).symm (map_ne qm P6'.out.head).symm).trans P6'.out.head
  have Q8 := (ne _ (map_ne pm Q6'.out.head).symm (map_ne qm Q6'.out.head).symm).trans Q6'.out.head
  have X8 := (ne _ (map_ne pm xd).symm (map_ne qm xd).symm).trans xd
  have R8 := (ne _ (map_ne pm HQ17.out).symm (map_ne qm HQ17.out).symm).trans HQ17.out
  have S8 := (ne _ (map_ne pm HQ27.out).symm (map_ne qm HQ27.out).symm).trans HQ27.out
  have f0 : w8.cell? ⟨w3.heap.size, 0, none⟩ = some (.pointer (some ⟨np.blk, 0, none⟩)) := by rw [cell_at R8]; rfl
  have f1 : w8.cell? ⟨w3.heap.size + 1, 0, none⟩ = some (.pointer (some ⟨np.blk, 0, none⟩)) := by rw [cell_at S8]; rfl
  have f2 : w8.cell? ⟨np.blk, 0, none⟩ = some (.int .i64 p.id) := by rw [cell_at Q8]; rfl
  have f3 : w8.cell? ⟨np.blk, 4, none⟩ = some (.int .i64 (linksN rd p : Int)) := by rw [cell_at P8]; rfl
  have f4 : w8.cell? ⟨np.blk, 4, none⟩ = some (.int .i64 (linksN rd p : Int)) := by rw [cell_at Q8]; rfl
  have f5 : w8.cell? ⟨nx.b, 1, none⟩ = some (.int .i64 x.parent) := by rw [cell_at X8]; rfl
  have f6 : w8.frozen? ⟨np.blk, 4, none⟩ = false := frozen_of_row w8 np.blk 4 _ _ P8
  have f7 : w8.frozen? ⟨np.blk, 4, none⟩ = false := frozen_of_row w8 np.blk 4 _ _ Q8
  have f8 : w8.frozen? ⟨nx.b, 1, none⟩ = false := frozen_of_row w8 nx.b 1 _ _ X8
  have n1 : w3.heap.size ≠ nx.b := blk_ne R8 X8 (by decide)
  have n2 : w3.heap.size ≠ np.blk := blk_ne R8 P8 (by decide)
  have n3 : w3.heap.size ≠ np.blk := blk_ne R8 Q8 (by decide)
  have n4 : w3.heap.size + 1 ≠ nx.b := blk_ne S8 X8 (by decide)
  have n5 : w3.heap.size + 1 ≠ np.blk := blk_ne S8 P8 (by decide)
  have n6 : w3.heap.size + 1 ≠ np.blk := blk_ne S8 Q8 (by decide)
  have n7 : nx.b ≠ np.blk := blk_ne X8 P8 (by decide)
  have n8 : nx.b ≠ np.blk := blk_ne X8 Q8 (by decide)
  have P8' := Lib.hid P8
  have Q8' := Lib.hid Q8
  have X8' := Lib.hid X8
  have hlp := HLp.out.1
  have hlp2 := HLp.out.2
  have hlq := HLq.out
  clear P8 Q8 X8 R8 S8 ne pm qm xd
  obtain ⟨lp, elp⟩ : ∃ lp, linksN rd p = lp := ⟨_, rfl⟩
  obtain ⟨lq, elq⟩ : ∃ lq, linksN rd p = lq := ⟨_, rfl⟩
  rw [elp] at f3 P8' hlp hlp2
  rw [elq] at f4 Q8' hlq
  have ELP := Lib.hid elp
  have ELQ := Lib.hid elq
  clear elp elq
  go_wp2
  go_ret
  refine ⟨rfl, ?_⟩
  obtain ⟨ei, -⟩ := HI.out
  subst ei
  rw [HERd.out]
  obtain ⟨hx, hp, hq⟩ := HMd.out
  obtain ⟨hnx, hnp, hnq⟩ := HNd.out
  obtain ⟨hrx, hrp, hrq⟩ := And.intro X6'.out (And.intro P6'.out Q6'.out)
  obtain ⟨hn0, m1, m2, m3⟩ := H0d.out
  have hlk := fun y => moved_links HWd.out hx hn0 m3 p.id s2 (y := y) (y' := y) rfl rfl
  rw [m1, m2] at hlk
  have hns : ∀ j, namesP (movedP rd p.id s p.id s2 x).nms j = _ := fun j => by rw [moved_nms, namesP_named, namesP_unnamed]
  have pm := (P6'.out.dir HK.out.1).2
  have qm := (Q6'.out.dir HK.out.2).2
  have xd := (X6'.out.dir HKX.out).1
  have c1 : ((lp : Int) - 1) = ((lp - 1 : Nat) : Int) := by omega
  have c3 : ((lp : Int) - 1 + 1) = ((lp : Nat) : Int) := by omega
  try rw [c3]
  rw [c1]
  have lP : linksN (movedP rd p.id s p.id s2 x) p = lp := by
    have := hlk p
    rw [if_pos ⟨HK.out.1, HKX.out, rfl⟩, ELP.out] at this
    omega
  refine ⟨N7, moved_fs G6.out HWd.out hx hnx hrx hp HK.out.1 hnp hrp hq HK.out.2 hnq hrq hn0 m1 m2 m3 HXP.out HXQ.out (fun k hk a b c d e => (setCell_far _ _ _ _ _ d).trans ((setCell_far _ _ _ _ _ c).trans ((setCell_far _ _ _ _ _ (e HKX.out)).trans ((K8.out k b).trans (K7.out k a))))) ?_ ?_ ?_ ?_ (fun _ => ?_), fun k hk => .inl (fp_sub HSub.out k hk), ?_⟩
  · rw [hns, if_pos rfl, if_pos rfl]
    exact M2.out.of_block ((setCell_far _ _ _ _ _ (map_ne pm P6'.out.head)).trans ((setCell_far _ _ _ _ _ (map_ne pm P6'.out.head)).trans (setCell_far _ _ _ _ _ (map_ne pm xd))))
  · rw [hns, if_pos rfl, if_pos rfl]
    exact M2.out.of_block ((setCell_far _ _ _ _ _ (map_ne pm P6'.out.head)).trans ((setCell_far _ _ _ _ _ (map_ne pm P6'.out.head)).trans (setCell_far _ _ _ _ _ (map_ne pm xd))))
  · rw [lP]
    exact links_set (links_set (lk' := lp - 1) ((setCell_far _ _ _ _ _ n7.symm).trans P8'.out))
  · rw [lP]
    exact links_set (links_set (lk' := lp - 1) ((setCell_far _ _ _ _ _ n7.symm).trans P8'.out))
  · exact (setCell_far _ _ _ _ _ n7).trans ((setCell_far _ _ _ _ _ n7).trans (heap_setCell_same w8 nx.b 1 _ _ _ X8'.out))
  · rw [← W8.out, ← W7.out]
    exact (((((FB.out.putObj (.inl (fp_node HNo.out.2.1 (Nd.m_mem (hrp.ne HK.out.1).1))) o1).putObj (.inl (fp_node HNo.out.2.2 (Nd.m_mem (hrq.ne HK.out.2).1))) o2).setCell (.inl (fp_node HNo.out.1 (Nd.b_mem (hrx.ne HKX.out).1))) _).setCell (.inl (fp_node HNo.out.2.1 np.blk_mem)) _).setCell (.inl (fp_node HNo.out.2.2 np.blk_mem)) _)
end Go.Proofs.Ytpcjmefchclhhaa

/- Rename, whole. -/
namespace Go.Proofs.Ytpcjmefchclhhaa
open Go.RowKit Go.MapKept

set_option maxHeartbeats 2000000 in
theorem rename_any {w : World} {f mi mg K : Nat} {r : RFs} {N : List Nd} (h : FsN w f mi mg r N) (hW : Wf r K) (i g : Int) (s : ByteArray) (hs : s.size ≤ maxLen) (i2 g2 : Int) (s2 : ByteArray) (hs2 : s2.size ≤ maxLen) :
    Calls Try.prog 54 #[.pointer (some ⟨f, 0, none⟩), .agg #[.int .i64 i, .int .i64 g], .string s, .agg #[.int .i64 i2, .int .i64 g2], .string s2] w
      fun e w' => e = .returned (.int .i64 (renameP r (i, g) s (i2, g2) s2).2) ∧ StepR w w' f mi mg N (renameP r (i, g) s (i2, g2) s2).1 := by
  have st : ∀ {v : Value} {e : Ending} {w' : World}, e = .returned v ∧ Below w.heap.size w w' → e = .returned v ∧ StepR w w' f mi mg N r := fun ⟨a, b⟩ => ⟨a, stepR_below h hW b⟩
  unfold renameP
  by_cases he : placesE r (i, g) s (i2, g2) s2 ≠ 0
  · rw [if_pos he]
    exact (rename_bad h hW i g s hs i2 g2 s2 hs2 he).mono fun e w' hh => st hh
  · rw [if_neg he]
    obtain ⟨hl, hl2, hk, hk2, hv, hv2⟩ := placesE_ok (Decidable.not_not.1 he)
    dsimp only at hk hk2 ⊢
    obtain ⟨hp, hpi, _⟩ := live_mem hl
    obtain ⟨hq, hqi, _⟩ := live_mem hl2
    dsimp only at hp hpi hq hqi
    obtain ⟨np, hnp, hrp⟩ := h.at_ hW hp
    obtain ⟨nq, hnq, hrq⟩ := h.at_ hW hq
    by_cases h0 : entryP r.nms i s = 0
    · rw [if_pos h0]
      exact (rename_none h hW i g s hs i2 g2 s2 hs2 hp hk hnp hrp hq hk2 hnq hrq hpi hqi hl hl2 hk hk2 hv hv2 h0).mono fun e w' hh => st hh
    · rw [if_neg h0]
      obtain ⟨n0, hn0, m1, m2, m3⟩ := entry_mem h0
      obtain ⟨hx1, x, hx, ex⟩ := hW.nmI n0 hn0
      have hxi : entryP r.nms i s = x.id := by rw [← m3, ← ex]
      obtain ⟨nx, hnx, hrx⟩ := h.at_ hW hx
      have hbx : byIdP r.ins x.id = x := hW.byId hx
      rw [hxi, hbx]
      by_cases hox : x.id = entryP r.nms i2 s2
      · rw [if_pos hox]
        exact (rename_same h hW i g s hs i2 g2 s2 hs2 hp hk hnp hrp hq hk2 hnq hrq hpi hqi hl hl2 hk hk2 hv hv2 hx hnx hrx hxi hox.symm).mono fun e w' hh => st hh
      · rw [if_neg hox]
        by_cases hlp : x.kind = 2 ∧ belowB r i2 x.id = true
        · rw [if_pos hlp]
          by_cases ho : entryP r.nms i2 s2 = 0
          · exact (rename_loop0 h hW i g s hs i2 g2 s2 hs2 hp hk hnp hrp hq hk2 hnq hrq hpi hqi hl hl2 hk hk2 hv hv2 hx hnx hrx hxi hlp.1 hlp.2 ho).mono fun e w' hh => st hh
          · exact (rename_loop1 h hW i g s hs i2 g2 s2 hs2 hp hk hnp hrp hq hk2 hnq hrq hpi hqi hl hl2 hk hk2 hv hv2 hx hnx hrx hxi hlp.1 hlp.2 ho (fun e => hox e.symm)).mono fun e w' hh => st hh
        · rw [if_neg hlp]
          have hbl : x.kind = 2 → belowB r i2 x.id = false := fun k => by
            cases hh : belowB r i2 x.id
            · rfl
            · exact absurd ⟨k, hh⟩ hlp
          have hxq : x.id ≠ (byIdP r.ins i2).id := fun e => by
            have k : x.kind = 2 := by rw [← hW.byId hx, e, hqi]; exact hk2
            have := hbl k
            rw [e, hqi, below_eq] at this
            cases this
          have hpn : np ≠ nq → np.blk ≠ nq.blk := fun hne e => h.apart hnp hnq hne _ np.blk_mem (by rw [e]; exact nq.blk_mem)
          by_cases ho : entryP r.nms i2 s2 = 0
          · rw [if_neg (by simp [ho])]
            by_cases hk3 : x.kind = 2 ∧ i ≠ i2 ∧ 20 ≤ linksN r (byIdP r.ins i2)
            · rw [if_pos hk3]
              have hne : np ≠ nq := fun e => hk3.2.1 (by rw [← hpi, ← hqi, ← hrp.id, ← hrq.id, e])
              exact (rename_links h hW i g s hs i2 g2 s2 hs2 hp hk hnp hrp hq hk2 hnq hrq hpi hqi hl hl2 hk hk2 hv hv2 hx hnx hrx hxi hk3.1 (hbl hk3.1) ho (hpn hne) hk3.2.2).mono fun e w' hh => st hh
            · rw [if_neg hk3]
              by_cases kx : x.kind = 2
              · by_cases hs' : np = nq
                · exact rename_mv1s h hW i g s hs i2 g2 s2 hs2 hp hk hnp hrp hq hk2 hnq hrq hpi hqi hl hl2 hk hk2 hv hv2 hx hnx hrx hxi hxq ho kx (hbl kx) hs'
                · refine rename_mv1d h hW i g s hs i2 g2 s2 hs2 hp hk hnp hrp hq hk2 hnq hrq hpi hqi hl hl2 hk hk2 hv hv2 hx hnx hrx hxi hxq ho kx (hbl kx) (hpn hs') ?_
                  refine Nat.lt_of_not_le fun e => hk3 ⟨kx, fun e2 => hs' ?_, e⟩
                  exact nodup_inj h.idU hnp hnq (by rw [hrp.id, hrq.id, hpi, hqi, e2])
              · by_cases hs' : np = nq
                · exact rename_mv0s h hW i g s hs i2 g2 s2 hs2 hp hk hnp hrp hq hk2 hnq hrq hpi hqi hl hl2 hk hk2 hv hv2 hx hnx hrx hxi hxq ho kx hs'
                · exact rename_mv0d h hW i g s hs i2 g2 s2 hs2 hp hk hnp hrp hq hk2 hnq hrq hpi hqi hl hl2 hk hk2 hv hv2 hx hnx hrx hxi hxq ho kx (hpn hs')
          · rw [if_pos ho]
            obtain ⟨n1, hn1, a1, a2, a3⟩ := entry_mem ho
            obtain ⟨_, o, hO, eo⟩ := hW.nmI n1 hn1
            have hoi : entryP r.nms i2 s2 = o.id := by rw [← a3, ← eo]
            obtain ⟨no, hno, hro⟩ := h.at_ hW hO
            have hox' : o.id ≠ x.id := fun e => hox (by rw [hoi, e])
            rw [hoi, hW.byId hO]
            by_cases kx : x.kind = 2
            · rw [decide_eq_true kx]
              by_cases hmy : mayP r o true ≠ 0
              · rw [if_pos hmy]
                exact (rename_may1 h hW i g s hs i2 g2 s2 hs2 hp hk hnp hrp hq hk2 hnq hrq hpi hqi hl hl2 hk hk2 hv hv2 hx hnx hrx hxi hO hno hro hoi hox' kx (hbl kx) hmy).mono fun e w' hh => st hh
              · rw [if_neg hmy]
                by_cases hs' : np = nq
                · exact rename_ov1s h hW i g s hs i2 g2 s2 hs2 hp hk hnp hrp hq hk2 hnq hrq hpi hqi hl hl2 hk hk2 hv hv2 hx hnx hrx hxi hxq hO hno hro hoi hox' kx (hbl kx) hs' (Decidable.not_not.1 hmy)
                · exact rename_ov1d h hW i g s hs i2 g2 s2 hs2 hp hk hnp hrp hq hk2 hnq hrq hpi hqi hl hl2 hk hk2 hv hv2 hx hnx hrx hxi hxq hO hno hro hoi hox' kx (hbl kx) (hpn hs') (Decidable.not_not.1 hmy)
            · rw [decide_eq_false kx]
              by_cases hmy : mayP r o false ≠ 0
              · rw [if_pos hmy]
                exact (rename_may0 h hW i g s hs i2 g2 s2 hs2 hp hk hnp hrp hq hk2 hnq hrq hpi hqi hl hl2 hk hk2 hv hv2 hx hnx hrx hxi hO hno hro hoi hox' kx hmy).mono fun e w' hh => st hh
              · rw [if_neg hmy]
                by_cases hs' : np = nq
                · exact rename_ov0s h hW i g s hs i2 g2 s2 hs2 hp hk hnp hrp hq hk2 hnq hrq hpi hqi hl hl2 hk hk2 hv hv2 hx hnx hrx hxi hxq hO hno hro hoi hox' kx hs' (Decidable.not_not.1 hmy)
                · exact rename_ov0d h hW i g s hs i2 g2 s2 hs2 hp hk hnp hrp hq hk2 hnq hrq hpi hqi hl hl2 hk hk2 hv hv2 hx hnx hrx hxi hxq hO hno hro hoi hox' kx (hpn hs') (Decidable.not_not.1 hmy)
end Go.Proofs.Ytpcjmefchclhhaa

/- What is always true of a file system stays true behind Rename. -/
namespace Go.Proofs.Ytpcjmefchclhhaa
open Go.RowKit Go.MapKept

theorem drop_sub {r : RFs} {d : Int} {t : ByteArray} : ∀ y ∈ (dropP r d t).ins, y ∈ r.ins := by
  intro y hy
  unfold dropP at hy
  split at hy
  · exact (List.mem_filter.1 hy).1
  · exact hy
theorem under_sub {r rd : RFs} {K : Nat} {top : Int} (hW : Wf r K) (hWd : Wf rd K) (hs : ∀ y ∈ rd.ins, y ∈ r.ins) {id : Int} (hu : Under rd top id) : ∀ y ∈ rd.ins, y.id = id → y.kind = 2 → Under r top id := by
  induction hu with
  | refl => exact fun _ _ _ _ => Under.refl
  | step h1 _ ih =>
    intro y hy e k
    subst e
    rw [hWd.byId hy] at ih
    obtain ⟨p, hp, a, b⟩ := hWd.par y hy k
    have := ih p hp a b
    refine Under.step h1 ?_
    rw [hW.byId (hs y hy)]
    exact this
theorem wf_rename {r : RFs} {K : Nat} (hW : Wf r K) (h g : Int × Int) (s t : ByteArray) : Wf (renameP r h s g t).1 K := by
  unfold renameP
  by_cases he : placesE r h s g t ≠ 0
  · rw [if_pos he]; exact hW
  · rw [if_neg he]
    obtain ⟨hl, hl2, hk, hk2, hv, hv2⟩ := placesE_ok (Decidable.not_not.1 he)
    obtain ⟨hp, hpi, _⟩ := live_mem hl
    obtain ⟨hq, hqi, _⟩ := live_mem hl2
    by_cases h0 : entryP r.nms h.1 s = 0
    · rw [if_pos h0]; exact hW
    · rw [if_neg h0]
      obtain ⟨n0, hn0, m1, m2, m3⟩ := entry_mem h0
      obtain ⟨hx1, x, hx, ex⟩ := hW.nmI n0 hn0
      have hxi : entryP r.nms h.1 s = x.id := by rw [← m3, ← ex]
      have hbx : byIdP r.ins x.id = x := hW.byId hx
      rw [hxi, hbx]
      by_cases hox : x.id = entryP r.nms g.1 t
      · rw [if_pos hox]; exact hW
      · rw [if_neg hox]
        by_cases hlp : x.kind = 2 ∧ belowB r g.1 x.id = true
        · rw [if_pos hlp]; exact hW
        · rw [if_neg hlp]
          have hbl : x.kind = 2 → ¬ Under r x.id g.1 := fun k hu => hlp ⟨k, by unfold belowB; exact @decide_eq_true _ (Classical.propDecidable _) hu⟩
          generalize hpp : byIdP r.ins h.1 = p at *
          generalize hqq : byIdP r.ins g.1 = q at *
          rw [← hpi] at m1 ⊢
          rw [hxi] at m3
          rw [← hqi] at hbl hox ⊢
          by_cases ho : entryP r.nms q.id t = 0
          · rw [if_neg (by simp [ho])]
            by_cases hk3 : x.kind = 2 ∧ p.id ≠ q.id ∧ 20 ≤ linksN r q
            · rw [if_pos hk3]; exact hW
            · rw [if_neg hk3]
              exact wf_moved hW hx hq hk2 hn0 m1 m2 m3 hv2 ho hbl (fun a b => Nat.lt_of_not_le fun c => hk3 ⟨a, b, c⟩)
          · rw [if_pos ho]
            obtain ⟨n1, hn1, a1, a2, a3⟩ := entry_mem ho
            obtain ⟨_, o, hO, eo⟩ := hW.nmI n1 hn1
            have hoi : entryP r.nms q.id t = o.id := by rw [← a3, ← eo]
            rw [hoi, hW.byId hO]
            split
            · exact hW
            · rename_i hmy
              have hmy := Decidable.not_not.1 hmy
              have hmd := may_dir hmy
              obtain ⟨hWd, hxd, hpd, hqd, hnd, hag⟩ := drop_ctx hW hx hp hk hq hO hoi (fun e => hox (by rw [hoi, e])) hmd.2 hn0 m1 m3
              refine wf_moved hWd hxd hqd hk2 hnd m1 m2 m3 hv2 (by rw [← entry_get, hag]; rfl) (fun a hu => hbl a (under_sub hW hWd drop_sub hu q hqd rfl hk2)) (fun a _ => drop_links hW hq hk2 hO (hmd.1.2 (by simp [a])) hoi)
end Go.Proofs.Ytpcjmefchclhhaa

/- What is always true stays true behind Link, Remove, Make. -/
namespace Go.Proofs.Ytpcjmefchclhhaa
open Go.RowKit Go.MapKept

theorem placeE_ok {r : RFs} {h : Int × Int} {s : ByteArray} (he : placeE r h s false = 0) : folderE r h = 0 ∧ validP s = true := by
  unfold placeE at he
  split at he
  · rename_i a; exact absurd he a
  · rename_i a
    refine ⟨Decidable.not_not.1 a, ?_⟩
    rw [if_neg (by simp)] at he
    split at he
    · assumption
    · cases he
theorem wf_link {r : RFs} {K : Nat} (hW : Wf r K) (h d : Int × Int) (s : ByteArray) : Wf (linkP r h d s).1 (K + 1) := by
  have h1 := hW.up (Nat.le_succ K)
  unfold linkP
  split
  · exact h1
  · rename_i a
    split
    · exact h1
    · rename_i b
      split
      · exact h1
      · rename_i c
        split
        · exact h1
        · rename_i e
          split
          · exact h1
          · rename_i q
            obtain ⟨hf, hv⟩ := placeE_ok (Decidable.not_not.1 b)
            obtain ⟨hl, hk⟩ := folder_live hf
            obtain ⟨m1, m2, _⟩ := live_mem hl
            obtain ⟨x1, x2, _⟩ := live_mem (by simpa using a : liveP r h = true)
            have := wf_named hW m1 hk x1 c hv (by rw [m2]; exact Decidable.not_not.1 e) (by omega)
            rw [m2, x2] at this
            exact this
theorem wf_remove {r : RFs} {K : Nat} (hW : Wf r K) (h : Int × Int) (s : ByteArray) (fo : Bool) : Wf (removeP r h s fo).1 K := by
  unfold removeP
  split
  · exact hW
  · rename_i b
    split
    · exact hW
    · rename_i e
      split
      · exact hW
      · rename_i c
        obtain ⟨hf, _⟩ := placeE_ok (Decidable.not_not.1 b)
        obtain ⟨hl, hk⟩ := folder_live hf
        obtain ⟨m1, m2, _⟩ := live_mem hl
        have := wf_drop (d := byIdP r.ins h.1) (s := s) hW (by rw [m2]; exact e) (by rw [m2]; exact (may_dir (Decidable.not_not.1 c)).2)
        rw [m2] at this
        exact this
theorem wf_make_all {r : RFs} {K : Nat} (hW : Wf r K) (h : Int × Int) (s : ByteArray) (m : RMk) : Wf (makeP r h s m).1 (K + 1) := by
  have h1 := hW.up (Nat.le_succ K)
  unfold makeP
  split
  · exact h1
  · rename_i a
    split
    · exact h1
    · rename_i b
      split
      · exact h1
      · rename_i c
        split
        · exact h1
        · rename_i d
          split
          · exact h1
          · rename_i e
            obtain ⟨hf, hv⟩ := placeE_ok (Decidable.not_not.1 a)
            obtain ⟨hl, hk⟩ := folder_live hf
            obtain ⟨m1, m2, _⟩ := live_mem hl
            have := wf_make (g := h.2) hW m1 hk hv (by simpa using b) (by rw [m2]; exact Decidable.not_not.1 c) (fun q => by omega) (by omega)
            rw [m2] at this
            exact this
end Go.Proofs.Ytpcjmefchclhhaa

/- What is always true stays true behind Write, Cut. -/
namespace Go.Proofs.Ytpcjmefchclhhaa
open Go.RowKit Go.MapKept

theorem sheet_mem {r : RFs} {h : Int × Int} (he : sheetE r h = 0) : byIdP r.ins h.1 ∈ r.ins ∧ (byIdP r.ins h.1).kind = 1 := by
  unfold sheetE at he
  split at he
  · rename_i a
    split at he
    · rename_i b
      exact ⟨(live_mem a).1, b⟩
    · split at he <;> cases he
  · cases he
theorem wf_write {w : World} {f mi mg K : Nat} {r : RFs} {N : List Nd} (h : FsN w f mi mg r N) (hW : Wf r K) (hd : Int × Int) (a : Int) (b : List UInt8) (t : Int) : Wf (fwriteP r hd a b t).1 K := by
  unfold fwriteP
  split
  · exact hW
  · rename_i a1
    split
    · exact hW
    · split
      · exact hW
      · rename_i a3
        obtain ⟨m1, m2⟩ := sheet_mem (Decidable.not_not.1 a1)
        obtain ⟨n, hn, hr⟩ := h.at_ hW m1
        obtain ⟨sz, bl, _, hS⟩ := hr.file m2
        refine wf_file hW m1 m2 _ _ _ ?_
        have h1 := same_blocks (same_write hS a b)
        have h2 := same_blocks hS
        have h3 := same_need hS a b.length
        have h4 := room_write (bl := bl) a b
        have h5 : ¬ roomP r < (rneed (byIdP r.ins hd.1).On a b.length : Int) := fun e => a3 (.inl e)
        unfold roomP at h5
        omega
theorem wf_cut {r : RFs} {K : Nat} (hW : Wf r K) (hd : Int × Int) (n t : Int) : Wf (fcutP r hd n t).1 K := by
  unfold fcutP
  split
  · exact hW
  · rename_i a1
    split
    · exact hW
    · split
      · exact hW
      · obtain ⟨m1, m2⟩ := sheet_mem (Decidable.not_not.1 a1)
        refine wf_file hW m1 m2 _ _ _ ?_
        have h1 : (rcOn (byIdP r.ins hd.1).B (byIdP r.ins hd.1).On n).length ≤ (byIdP r.ins hd.1).On.length := by
          unfold rcOn
          split
          · exact List.length_filter_le _ _
          · exact Nat.le_refl _
        have h2 := hW.sp
        unfold usedN
        omega
end Go.Proofs.Ytpcjmefchclhhaa

/- A call of a script: what it leaves and answers. -/
namespace Go.Proofs.Ytpcjmefchclhhaa
open Go.RowKit Go.MapKept

/-- A call (the law's Op). -/
structure OpF where
  kind : Int
  h : Int × Int
  g : Int × Int
  name : ByteArray
  other : ByteArray
  m : RMk
  fo : Bool
  pos : Int
  n : Int
  time : Int
  b : List UInt8
/-- What it leaves; its handle, error and bytes. -/
noncomputable def doP (r : RFs) (o : OpF) : RFs × (Int × Int) × Int × List UInt8 :=
  if o.kind = 0 then ((makeP r o.h o.name o.m).1, (makeP r o.h o.name o.m).2.1, (makeP r o.h o.name o.m).2.2, [])
  else if o.kind = 1 then ((linkP r o.h o.g o.name).1, (0, 0), (linkP r o.h o.g o.name).2, [])
  else if o.kind = 2 then ((removeP r o.h o.name o.fo).1, (0, 0), (removeP r o.h o.name o.fo).2, [])
  else if o.kind = 3 then ((renameP r o.h o.name o.g o.other).1, (0, 0), (renameP r o.h o.name o.g o.other).2, [])
  else if o.kind = 4 then ((fwriteP r o.h o.pos o.b o.time).1, (0, 0), (fwriteP r o.h o.pos o.b o.time).2, [])
  else if o.kind = 5 then ((fcutP r o.h o.n o.time).1, (0, 0), (fcutP r o.h o.n o.time).2, [])
  else if o.kind = 6 then (r, (lookP r o.h o.name).1, (lookP r o.h o.name).2, [])
  else if o.kind = 7 then (r, (0, 0), (freadP r o.h o.pos o.n).2, (freadP r o.h o.pos o.n).1)
  else (r, (0, 0), 0, [])
theorem wf_do {w : World} {f mi mg K : Nat} {r : RFs} {N : List Nd} (h : FsN w f mi mg r N) (hW : Wf r K) (o : OpF) : Wf (doP r o).1 (K + 1) := by
  have up : ∀ {r'}, Wf r' K → Wf r' (K + 1) := fun hh => hh.up (Nat.le_succ K)
  unfold doP
  split
  · exact wf_make_all hW _ _ _
  · split
    · exact wf_link hW _ _ _
    · split
      · exact up (wf_remove hW _ _ _)
      · split
        · exact up (wf_rename hW _ _ _ _)
        · split
          · exact up (wf_write h hW _ _ _ _)
          · split
            · exact up (wf_cut hW _ _ _)
            · split
              · exact up hW
              · split <;> exact up hW
end Go.Proofs.Ytpcjmefchclhhaa

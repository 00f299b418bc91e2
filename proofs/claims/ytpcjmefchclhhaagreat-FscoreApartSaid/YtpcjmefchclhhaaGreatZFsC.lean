/- A part of the proof. -/
import Derived.Test.YtpcjmefchclhhaaGreatZFsB
import Derived.Test.YtpcjmefchclhhaaGreatZIdx
import Derived.WalkLawsBesides
import Derived.Lib.IndexLaws
namespace Go.Proofs.YtpcjmefchclhhaaGreat
open Go.RowKit Go.MapKept
def nameE (s : ByteArray) : Int := if validP s = true then 0 else 176
theorem validP_iff (s : ByteArray) : validP s = true ↔ (1 ≤ s.size ∧ s.size ≤ 60 ∧ s ≠ dotS ∧ s ≠ dot2S) ∧ ∀ c ∈ s.data.toList, c ≠ 47 ∧ c ≠ 0 := by
 unfold validP
 rw [Bool.and_eq_true, decide_eq_true_eq, List.all_eq_true]
 simp only [decide_eq_true_eq]
theorem nameE_no {s : ByteArray} (h : ¬ validP s = true) : nameE s = 176 := if_neg h
theorem toList_data (s : ByteArray) : s.toList = s.data.toList := ByteArray.toList_eq s
theorem size_data (s : ByteArray) : s.size = s.data.toList.length := rfl
theorem of_toList {s : ByteArray} {l : List UInt8} (h : s.toList = l) : s = ⟨l.toArray⟩ := by
 rw [toList_data] at h
 obtain ⟨⟨x⟩⟩ := s
 simp at h
 rw [h]
theorem idx_mem {l : List UInt8} {c : UInt8} (h : 0 ≤ Lib.indexByte l c) : c ∈ l := by
 obtain ⟨o, ho⟩ := Int.eq_ofNat_of_zero_le h
 exact List.mem_of_getElem? (Lib.indexByte_some ho).1
theorem idx_not {l : List UInt8} {c : UInt8} (h : Lib.indexByte l c < 0) : c ∉ l := fun hm => by
 have h1 := Lib.indexByte_ge l c
 obtain ⟨k, hk⟩ := List.getElem?_of_mem hm
 exact Lib.indexByte_none (show Lib.indexByte l c = -1 by omega) k hk
section
variable {s : ByteArray}
theorem nm_a (h : s.toList = []) : nameE s = 176 := nameE_no fun hv => by
 have := ((validP_iff s).1 hv).1.1
 rw [size_data, ← toList_data, h] at this
 simp at this
theorem nm_b (h : 60 < (s.size : Int)) : nameE s = 176 := nameE_no fun hv => by
 have := ((validP_iff s).1 hv).1.2.1
 omega
theorem nm_c (h : s.toList = [46]) : nameE s = 176 := nameE_no fun hv => ((validP_iff s).1 hv).1.2.2.1 (of_toList h)
theorem nm_d (h : s.toList = [46, 46]) : nameE s = 176 := nameE_no fun hv => ((validP_iff s).1 hv).1.2.2.2 (of_toList h)
theorem nm_e (h : 0 ≤ Lib.indexByte s.data.toList 47) : nameE s = 176 := nameE_no fun hv => (((validP_iff s).1 hv).2 _ (idx_mem h)).1 rfl
theorem nm_f (h : 0 ≤ Lib.indexByte s.data.toList 0) : nameE s = 176 := nameE_no fun hv => (((validP_iff s).1 hv).2 _ (idx_mem h)).2 rfl
theorem nm_g (h1 : ¬ s.toList = []) (h2 : (s.size : Int) ≤ 60) (h3 : ¬ s.toList = [46]) (h4 : ¬ s.toList = [46, 46]) (h5 : Lib.indexByte s.data.toList 47 < 0) (h6 : Lib.indexByte s.data.toList 0 < 0) : nameE s = 0 := if_pos ((validP_iff s).2 (by
 refine ⟨⟨?_, by omega, ?_, ?_⟩, fun c hc => ⟨?_, ?_⟩⟩
 ·rw [size_data, ← toList_data]
  exact List.length_pos_iff.2 h1
 ·rintro rfl; exact h3 (toList_data _)
 ·rintro rfl; exact h4 (toList_data _)
 ·rintro rfl; exact idx_not h5 hc
 ·rintro rfl; exact idx_not h6 hc))
end
set_option maxHeartbeats 1000000 in
theorem named_any (s : ByteArray) (w : World) (hs : s.size ≤ maxLen) : Calls Tryz.prog 61 #[.string s] w fun e w' => e = .returned (.int .i64 (nameE s)) ∧ w = w' := by
 unfold maxLen at hs
 have H1 := Lib.hid (fun w => (Tryz.strings_IndexByte s 47 w))
 have H2 := Lib.hid (fun w => (Tryz.strings_IndexByte s 0 w))
 have hcs : 0 ≤ Lib.indexByte s.data.toList 0 ∨ Lib.indexByte s.data.toList 0 < 0 := by omega
 rcases hcs with hcs | hcs
 all_goals
  go_enter Tryz.func61, Tryz.ntmps61
  go_wp2_with (first
   | (go_at_call 90; (with_reducible refine (H1.out _).mono ?_); rintro e w1 ⟨rfl, rfl⟩)
   | (go_at_call 90; (with_reducible refine (H2.out _).mono ?_); rintro e w1 ⟨rfl, rfl⟩))
  all_goals
   go_ret
   refine ⟨ret_int ?_, rfl⟩
   symm
   first
    | exact nm_a (by assumption)
    | exact nm_b (by assumption)
    | exact nm_c (by assumption)
    | exact nm_d (by assumption)
    | exact nm_e (by assumption)
    | exact nm_f (by assumption)
    | exact nm_g (by assumption) (by assumption) (by assumption) (by assumption) (by assumption) (by assumption)
    | (exfalso; simp_all <;> omega)
theorem ta_same {P : Program} (w : World) (t xT : TypeId) (v : Value) {d : TypeDesc} (hu : P.underlying t = some d) (hd : ∀ ms, d ≠ .interface ms) : (Instr.typeAssert (.iface t v) xT t true).run P w = .ok (.tuple #[v, .bool true]) w := by
 simp only [Instr.typeAssert, Sem.run_bind, run_underlying hu, Result.andThen_ok]
 cases d <;> first | exact absurd rfl (hd _) | simp
theorem ta_other {P : Program} (w : World) (t t' xT : TypeId) (v : Value) {d : TypeDesc} (hu : P.underlying t' = some d) (hd : ∀ ms, d ≠ .interface ms) (hne : t ≠ t') {z : Value} (hz : (zeroValue t').run P w = .ok z w) : (Instr.typeAssert (.iface t v) xT t' true).run P w = .ok (.tuple #[z, .bool false]) w := by
 simp only [Instr.typeAssert, Sem.run_bind, run_underlying hu, Result.andThen_ok]
 cases d <;> first | exact absurd rfl (hd _) | simp [hne, hz, Result.andThen]
theorem zdir (w : World) : (zeroValue 68).run Tryz.prog w = .ok (.pointer none) w := by kernel_rfl
theorem zsht (w : World) : (zeroValue 126).run Tryz.prog w = .ok (.pointer none) w := by kernel_rfl
theorem zstr (w : World) : (zeroValue 9).run Tryz.prog w = .ok (.string noStr) w := by kernel_rfl
theorem ta_dir (w : World) (x : RIn) (n : Nd) : (Instr.typeAssert (holdsV x n) 20 68 true).run Tryz.prog w = .ok (if x.kind = 2 then .tuple #[ptrV n.b, .bool true] else .tuple #[.pointer none, .bool false]) w := by
 unfold holdsV
 by_cases h1 : x.kind = 1
 ·rw [if_pos h1, if_neg (by omega)]
  exact ta_other w _ _ _ _ Tryz.underlying68 (fun ms h => by cases h) (by decide) (zdir w)
 ·rw [if_neg h1]
  by_cases h2 : x.kind = 2
  ·rw [if_pos h2, if_pos h2]
   exact ta_same w _ _ _ Tryz.underlying68 (fun ms h => by cases h)
  ·rw [if_neg h2, if_neg h2]
   exact ta_other w _ _ _ _ Tryz.underlying68 (fun ms h => by cases h) (by decide) (zdir w)
set_option maxRecDepth 100000 in
set_option maxHeartbeats 1000000 in
theorem dir_any {w : World} {r : RFs} {x : RIn} {n : Nd} (h : NodeR w r x n) :
  Calls Tryz.prog 60 #[.pointer (some ⟨n.blk, 0, none⟩)] w fun e w' => e = .returned (if x.kind = 2 then .tuple #[ptrV n.b, .int .i64 0] else .tuple #[.pointer none, .int .i64 173]) ∧ w = w' := by
 obtain ⟨-, -, -, -, -, c5⟩ := h.cells
 have hta := fun w => ta_dir w x n
 clear h
 generalize holdsV x n = hv at *
 by_cases h1 : x.kind = 2
 ·simp only [h1, if_true, ptrV] at hta ⊢
  clear h1
  go_enter Tryz.func60, Tryz.ntmps60
  go_wp2
  go_ret2
  exact ⟨rfl, rfl⟩
 ·simp only [h1, if_false] at hta ⊢
  clear h1
  go_enter Tryz.func60, Tryz.ntmps60
  go_wp2
  go_ret2
  exact ⟨rfl, rfl⟩
set_option maxHeartbeats 1000000 in
theorem at_any {w : World} {r : RFs} {x : RIn} {n : Nd} (h : NodeR w r x n) (hk : x.kind = 2) (hb : ∀ k ∈ n.foot, k < w.heap.size) (s : ByteArray) (pv : Option Addr) :
  Calls Tryz.prog 26 #[.agg #[.pointer pv, .pointer (some ⟨n.b, 0, none⟩), .string s]] w fun e w' => e = .returned (.tuple #[.int .i64 (entryP r.nms x.id s), .bool (aget (namesP r.nms x.id) s).isSome]) ∧ Below w.heap.size w w' := by
 obtain ⟨w1, hw1⟩ : ∃ w1, w.alloc (.cells #[.pointer pv, .pointer (some ⟨n.b, 0, none⟩), .string s] 85) = w1 := ⟨_, rfl⟩
 have hB : Below w.heap.size w w1 := by rw [← hw1]; exact (Below.refl _ _).alloc (Nat.le_refl _) _
 have hb0 : w1.heap[w.heap.size]? = some (.cells #[.pointer pv, .pointer (some ⟨n.b, 0, none⟩), .string s] 85 (0, 0)) := by rw [← hw1]; exact heap_alloc_new _ _
 have t0 : w1.cell? ⟨w.heap.size, 1, none⟩ = some (.pointer (some ⟨n.b, 0, none⟩)) := by rw [cell_at hb0]; rfl
 have t1 : w1.cell? ⟨w.heap.size, 2, none⟩ = some (.string s) := by rw [cell_at hb0]; rfl
 have hbig : n.big = true := by rw [h.big, hk]; rfl
 obtain ⟨hd, hm⟩ := h.dir hk
 have hd1 := (hB.block _ (hb _ (Nd.b_mem hbig))).trans hd
 have c0 : w1.cell? ⟨n.b, 0, none⟩ = some (.map (some n.m)) := by rw [cell_at hd1]; rfl
 have hlk : ∀ q, (Instr.lookup 69 (.map (some n.m)) (.string s) true).run Tryz.prog (w1.drewN q) = .ok (.tuple #[.int .i64 (entryP r.nms x.id s), .bool (aget (namesP r.nms x.id) s).isSome]) (w1.drewN q) := fun q => by
  have hm1 : MapB (w1.drewN q) n.m strK intK (namesP r.nms x.id) := hm.of_block (hB.block _ (hb _ (Nd.m_mem hbig)))
  have := run_lookup_ok KS (t := 69) (et := 3) Tryz.underlying69 (zint _) hm1 s
  rw [show ((aget (namesP r.nms x.id) s).map intK).getD (.int .i64 0) = intK (entryP r.nms x.id s) by rw [← entry_get]; cases aget (namesP r.nms x.id) s <;> rfl] at this
  exact this
 have HW1 := Lib.hid hw1
 have HB := Lib.hid hB
 generalize entryP r.nms x.id s = ent at *
 generalize (aget (namesP r.nms x.id) s).isSome = is at *
 clear hw1 hB hb0 hd hm hd1 h hb hk hbig
 go_enter Tryz.func26, Tryz.ntmps26
 go_wp2
 rw [HW1.out]
 go_quiet (fail)
 go_wp2
 go_ret2
 exact ⟨rfl, by repeat (first | exact HB.out | refine below_drewN ?_ _)⟩
end Go.Proofs.YtpcjmefchclhhaaGreat

/- A part of the proof. -/
import Derived.Test.YtpcjmefchclhhaaGreatZFsC
import Derived.Test.YtpcjmefchclhhaaGreatOwnM
namespace Go.Proofs.YtpcjmefchclhhaaGreat
open Go.RowKit Go.MapKept
theorem placeI : (Tryz.prog.info? 85).map (·.size) = some 3 := by kernel_rfl
theorem placeT : Tryz.prog.underlying 85 = some (.struct (Tryz.prog.fieldsOf 85)) := by kernel_rfl
theorem hndI : (Tryz.prog.info? 37).map (·.size) = some 2 := by kernel_rfl
theorem hndT : Tryz.prog.underlying 37 = some (.struct (Tryz.prog.fieldsOf 37)) := by kernel_rfl
theorem placeE_dir {r : RFs} {h : Int × Int} {s : ByteArray} {free : Bool} (hf : folderE r h = 0) : placeE r h s free = if free = true ∧ (s = dotS ∨ s = dot2S) then 0 else nameE s := by
 unfold placeE nameE
 rw [if_neg (by simp [hf])]
theorem folder_live {r : RFs} {h : Int × Int} (hf : folderE r h = 0) : liveP r h = true ∧ (byIdP r.ins h.1).kind = 2 := by
 unfold folderE at hf
 split at hf
 ·rename_i h1
  split at hf
  ·rename_i h2; exact ⟨h1, h2⟩
  ·cases hf
 ·cases hf
theorem agg3_one (a b : Option Addr) (s : ByteArray) : ∀ v ∈ (#[.pointer a, .pointer b, .string s] : Array Value).toList, v.oneCell' = true := fun v hv => by
 simp at hv
 rcases hv with rfl | rfl | rfl <;> rfl
theorem agg2_one (a b : Int) : ∀ v ∈ (#[.int .i64 a, .int .i64 b] : Array Value).toList, v.oneCell' = true := fun v hv => by
 simp at hv
 rcases hv with rfl | rfl <;> rfl
set_option maxRecDepth 100000 in
set_option maxHeartbeats 2000000 in
theorem place_dir {w : World} {f mi mg K : Nat} {r : RFs} {N : List Nd} (h : FsN w f mi mg r N) (hW : Wf r K) (i g : Int) (s : ByteArray) (hs : s.size ≤ maxLen) (free : Bool) (hf : folderE r (i, g) = 0) {n : Nd} (hn : n ∈ N) (hi : n.id = i) :
  Calls Tryz.prog 25 #[.pointer (some ⟨f, 0, none⟩), .agg #[.int .i64 i, .int .i64 g], .string s, .bool free] w
   fun e w' => e = .returned (.tuple #[.agg #[.pointer (some ⟨n.blk, 0, none⟩), .pointer (some ⟨n.b, 0, none⟩), .string s], .int .i64 (placeE r (i, g) s free)]) ∧ Below w.heap.size w w' := by
 obtain ⟨hl, hk2⟩ := folder_live hf
 rw [placeE_dir hf]
 obtain ⟨w2, hw2⟩ : ∃ w2, (w.alloc (.cells #[.int .i64 i, .int .i64 g] 37)).alloc (.cells #[.pointer none, .pointer none, .string ⟨#[]⟩] 85) = w2 := ⟨_, rfl⟩
 have hB : Below w.heap.size w w2 := by rw [← hw2]; exact ((Below.refl _ _).alloc (Nat.le_refl _) _).alloc (by simp) _
 have hs2 : w2.heap.size = w.heap.size + 1 + 1 := by rw [← hw2]; simp
 have hb0 : w2.heap[w.heap.size]? = some (.cells #[.int .i64 i, .int .i64 g] 37 (0, 0)) := by rw [← hw2]; exact (Below.heap_alloc _ _ _ (by simp)).trans (heap_alloc_new _ _)
 have hb1 : w2.heap[w.heap.size + 1]? = some (.cells #[.pointer none, .pointer none, .string ⟨#[]⟩] 85 (0, 0)) := by
  rw [← hw2]; have := heap_alloc_new (w.alloc (.cells #[.int .i64 i, .int .i64 g] 37)) (.cells #[.pointer none, .pointer none, .string ⟨#[]⟩] 85); simpa using this
 have t0 : w2.cell? ⟨w.heap.size, 0, none⟩ = some (.int .i64 i) := by rw [cell_at hb0]; rfl
 have t1 : w2.cell? ⟨w.heap.size, 1, none⟩ = some (.int .i64 g) := by rw [cell_at hb0]; rfl
 have h2 := h.below hW hB
 have HFd := Lib.hid (find_yes h2 hW i g hl hn hi)
 have HDr := Lib.hid (show ∀ w', Below w2.heap.size w2 w' → Calls Tryz.prog 60 #[.pointer (some ⟨n.blk, 0, none⟩)] w' fun e w'' => e = .returned (.tuple #[ptrV n.b, .int .i64 0]) ∧ w' = w'' from fun w' hb => by
  obtain ⟨x, hx, hr⟩ := (h2.below hW hb).node n hn
  have hkx : x.kind = 2 := by
   have e := hW.byId hx
   rw [← hr.id, hi] at e
   rw [← e]; exact hk2
  have := dir_any hr
  rw [if_pos hkx] at this
  exact this)
 have HNm := Lib.hid (fun w => named_any s w hs)
 have HW2 := Lib.hid hw2
 have HB := Lib.hid hB
 have HB1 := Lib.hid hb1
 have HPv := Lib.hid (agg3_one (some ⟨n.blk, 0, none⟩) (some ⟨n.b, 0, none⟩) s)
 have key : ∀ (e0 : Int), (∀ w3, Below w2.heap.size w2 w3 → True) → True := fun _ _ => trivial
 have hcs : free = false ∨ free = true ∧ (s = dotS ∨ s = dot2S ∨ ¬ s.toList = [46] ∧ ¬ s.toList = [46, 46] ∧ s ≠ dotS ∧ s ≠ dot2S) := by
  by_cases h1 : s = dotS
  ·cases free <;> simp [h1]
  ·by_cases h2 : s = dot2S
   ·cases free <;> simp [h2]
   ·have h3 : ¬ s.toList = [46] := fun e => h1 (of_toList e)
    have h4 : ¬ s.toList = [46, 46] := fun e => h2 (of_toList e)
    cases free <;> simp [h1, h2, h3, h4]
 clear hw2 hB hb0 hb1 h h2 hW hn hi hl hk2 hf key
 unfold ptrV at HFd HDr
 rcases hcs with rfl | ⟨rfl, rfl | rfl | ⟨q1, q2, q3, q4⟩⟩
 ·rw [if_neg (by simp)]
  generalize nameE s = ne at *
  go_enter Tryz.func25, Tryz.ntmps25
  go_wp2_with fail
  rw [HW2.out]
  go_wp2_with (first
   | (go_at_call 59; (with_reducible refine HFd.out.mono ?_); rintro e w3 ⟨rfl, hB3⟩; have hX3 := (hB3.block _ (by omega)).trans HB1.out; have hs3 := hB3.size; replace hB3 := Lib.hid hB3; replace hX3 := Lib.hid hX3)
   | (go_at_call 60; (with_reducible refine (HDr.out _ hB3.out).mono ?_); rintro e w4 ⟨rfl, rfl⟩)
   | (go_at_call 61; (with_reducible refine (HNm.out _).mono ?_); rintro e w4 ⟨rfl, rfl⟩)
   | (refine wpList_store_row rfl 85 (.tmp 8) (.tmp 47) rfl w3 (w.heap.size + 1) _ _ _ rfl rfl hX3.out rfl placeI HPv.out ?_; intro w5 hX5 hG5))
  have hb5 := Below.grownBy (HB.out.trans (hB3.out.mono (by omega))) hG5 (by omega) (fun k hk => by injection hk with hk; omega)
  exact end_cell_tmp (p := 8) (u := 9) rfl rfl hX5 placeT rfl placeI rfl rfl ⟨rfl, hb5⟩
 ·rw [if_pos (by simp)]
  unfold dotS at *
  go_enter Tryz.func25, Tryz.ntmps25
  go_wp2_with fail
  rw [HW2.out]
  go_wp2_with (first
   | (go_at_call 59; (with_reducible refine HFd.out.mono ?_); rintro e w3 ⟨rfl, hB3⟩; have hX3 := (hB3.block _ (by omega)).trans HB1.out; have hs3 := hB3.size; replace hB3 := Lib.hid hB3; replace hX3 := Lib.hid hX3)
   | (go_at_call 60; (with_reducible refine (HDr.out _ hB3.out).mono ?_); rintro e w4 ⟨rfl, rfl⟩)
   | (go_at_call 61; (with_reducible refine (HNm.out _).mono ?_); rintro e w4 ⟨rfl, rfl⟩)
   | (refine wpList_store_row rfl 85 (.tmp 8) (.tmp 47) rfl w3 (w.heap.size + 1) _ _ _ rfl rfl hX3.out rfl placeI HPv.out ?_; intro w5 hX5 hG5))
  have hb5 := Below.grownBy (HB.out.trans (hB3.out.mono (by omega))) hG5 (by omega) (fun k hk => by injection hk with hk; omega)
  exact end_cell_tmp (p := 8) (u := 9) rfl rfl hX5 placeT rfl placeI rfl rfl ⟨rfl, hb5⟩
 ·rw [if_pos (by simp)]
  unfold dot2S at *
  go_enter Tryz.func25, Tryz.ntmps25
  go_wp2_with fail
  rw [HW2.out]
  go_wp2_with (first
   | (go_at_call 59; (with_reducible refine HFd.out.mono ?_); rintro e w3 ⟨rfl, hB3⟩; have hX3 := (hB3.block _ (by omega)).trans HB1.out; have hs3 := hB3.size; replace hB3 := Lib.hid hB3; replace hX3 := Lib.hid hX3)
   | (go_at_call 60; (with_reducible refine (HDr.out _ hB3.out).mono ?_); rintro e w4 ⟨rfl, rfl⟩)
   | (go_at_call 61; (with_reducible refine (HNm.out _).mono ?_); rintro e w4 ⟨rfl, rfl⟩)
   | (refine wpList_store_row rfl 85 (.tmp 8) (.tmp 47) rfl w3 (w.heap.size + 1) _ _ _ rfl rfl hX3.out rfl placeI HPv.out ?_; intro w5 hX5 hG5))
  have hb5 := Below.grownBy (HB.out.trans (hB3.out.mono (by omega))) hG5 (by omega) (fun k hk => by injection hk with hk; omega)
  exact end_cell_tmp (p := 8) (u := 9) rfl rfl hX5 placeT rfl placeI rfl rfl ⟨rfl, hb5⟩
 ·rw [if_neg (by simp [q3, q4])]
  generalize nameE s = ne at *
  have q5 : (s.toList == [46]) = false := by simp [q1]
  have q6 : (s.toList == [46, 46]) = false := by simp [q2]
  clear q1 q2 q3 q4
  go_enter Tryz.func25, Tryz.ntmps25
  go_wp2_with fail
  rw [HW2.out]
  go_wp2_with (first
   | (go_at_call 59; (with_reducible refine HFd.out.mono ?_); rintro e w3 ⟨rfl, hB3⟩; have hX3 := (hB3.block _ (by omega)).trans HB1.out; have hs3 := hB3.size; replace hB3 := Lib.hid hB3; replace hX3 := Lib.hid hX3)
   | (go_at_call 60; (with_reducible refine (HDr.out _ hB3.out).mono ?_); rintro e w4 ⟨rfl, rfl⟩)
   | (go_at_call 61; (with_reducible refine (HNm.out _).mono ?_); rintro e w4 ⟨rfl, rfl⟩)
   | (refine wpList_store_row rfl 85 (.tmp 8) (.tmp 47) rfl w3 (w.heap.size + 1) _ _ _ rfl rfl hX3.out rfl placeI HPv.out ?_; intro w5 hX5 hG5))
  have hb5 := Below.grownBy (HB.out.trans (hB3.out.mono (by omega))) hG5 (by omega) (fun k hk => by injection hk with hk; omega)
  exact end_cell_tmp (p := 8) (u := 9) rfl rfl hX5 placeT rfl placeI rfl rfl ⟨rfl, hb5⟩
set_option maxRecDepth 100000 in
set_option maxHeartbeats 2000000 in
theorem place_bad {w : World} {f mi mg K : Nat} {r : RFs} {N : List Nd} (h : FsN w f mi mg r N) (hW : Wf r K) (i g : Int) (s : ByteArray) (free : Bool) (hf : folderE r (i, g) ≠ 0) :
  Calls Tryz.prog 25 #[.pointer (some ⟨f, 0, none⟩), .agg #[.int .i64 i, .int .i64 g], .string s, .bool free] w
   fun e w' => e = .returned (.tuple #[.agg #[.pointer none, .pointer none, .string ⟨#[]⟩], .int .i64 (placeE r (i, g) s free)]) ∧ Below w.heap.size w w' := by
 rw [show placeE r (i, g) s free = folderE r (i, g) by unfold placeE; rw [if_pos hf]]
 obtain ⟨w2, hw2⟩ : ∃ w2, (w.alloc (.cells #[.int .i64 i, .int .i64 g] 37)).alloc (.cells #[.pointer none, .pointer none, .string ⟨#[]⟩] 85) = w2 := ⟨_, rfl⟩
 have hB : Below w.heap.size w w2 := by rw [← hw2]; exact ((Below.refl _ _).alloc (Nat.le_refl _) _).alloc (by simp) _
 have hs2 : w2.heap.size = w.heap.size + 1 + 1 := by rw [← hw2]; simp
 have hb0 : w2.heap[w.heap.size]? = some (.cells #[.int .i64 i, .int .i64 g] 37 (0, 0)) := by rw [← hw2]; exact (Below.heap_alloc _ _ _ (by simp)).trans (heap_alloc_new _ _)
 have hb1 : w2.heap[w.heap.size + 1]? = some (.cells #[.pointer none, .pointer none, .string ⟨#[]⟩] 85 (0, 0)) := by
  rw [← hw2]; have := heap_alloc_new (w.alloc (.cells #[.int .i64 i, .int .i64 g] 37)) (.cells #[.pointer none, .pointer none, .string ⟨#[]⟩] 85); simpa using this
 have t0 : w2.cell? ⟨w.heap.size, 0, none⟩ = some (.int .i64 i) := by rw [cell_at hb0]; rfl
 have t1 : w2.cell? ⟨w.heap.size, 1, none⟩ = some (.int .i64 g) := by rw [cell_at hb0]; rfl
 have h2 := h.below hW hB
 have HW2 := Lib.hid hw2
 have HB := Lib.hid hB
 have HB1 := Lib.hid hb1
 have HPv := Lib.hid (agg3_one none none ⟨#[]⟩)
 cases hl : liveP r (i, g)
 ·rw [show folderE r (i, g) = 175 by unfold folderE; rw [hl]; rfl]
  have HFd := Lib.hid (find_no h2 hW i g hl)
  clear hw2 hB hb0 hb1 h h2 hW hl hf
  go_enter Tryz.func25, Tryz.ntmps25
  go_wp2_with fail
  rw [HW2.out]
  go_wp2_with (first
   | (go_at_call 59; (with_reducible refine HFd.out.mono ?_); rintro e w3 ⟨rfl, hB3⟩; have hX3 := (hB3.block _ (by omega)).trans HB1.out; have hs3 := hB3.size; replace hB3 := Lib.hid hB3; replace hX3 := Lib.hid hX3)
   | (refine wpList_store_row rfl 85 (.tmp 8) (.tmp 21) rfl w3 (w.heap.size + 1) _ _ _ rfl rfl hX3.out rfl placeI HPv.out ?_; intro w5 hX5 hG5))
  have hb5 := Below.grownBy (HB.out.trans (hB3.out.mono (by omega))) hG5 (by omega) (fun k hk => by injection hk with hk; omega)
  exact end_cell_tmp (p := 8) (u := 9) rfl rfl hX5 placeT rfl placeI rfl rfl ⟨rfl, hb5⟩
 ·have hk : (byIdP r.ins i).kind ≠ 2 := fun e => hf (by unfold folderE; rw [if_pos hl, if_pos e])
  rw [show folderE r (i, g) = 173 by unfold folderE; rw [if_pos hl, if_neg hk]]
  obtain ⟨m1, m2, _⟩ := live_mem hl
  obtain ⟨n, hn, hr⟩ := h2.at_ hW m1
  have HFd := Lib.hid (find_yes h2 hW i g hl hn (hr.id.trans m2))
  have HDr := Lib.hid (show ∀ w', Below w2.heap.size w2 w' → Calls Tryz.prog 60 #[.pointer (some ⟨n.blk, 0, none⟩)] w' fun e w'' => e = .returned (.tuple #[.pointer none, .int .i64 173]) ∧ w' = w'' from fun w' hb => by
   have := dir_any (hr.below (hW.kind _ m1) hb)
   rw [if_neg hk] at this
   exact this)
  unfold ptrV at HFd
  clear hw2 hB hb0 hb1 h h2 hW hl hf hk m1 m2 hn hr
  go_enter Tryz.func25, Tryz.ntmps25
  go_wp2_with fail
  rw [HW2.out]
  go_wp2_with (first
   | (go_at_call 59; (with_reducible refine HFd.out.mono ?_); rintro e w3 ⟨rfl, hB3⟩; have hX3 := (hB3.block _ (by omega)).trans HB1.out; have hs3 := hB3.size; replace hB3 := Lib.hid hB3; replace hX3 := Lib.hid hX3)
   | (go_at_call 60; (with_reducible refine (HDr.out _ hB3.out).mono ?_); rintro e w4 ⟨rfl, rfl⟩)
   | (refine wpList_store_row rfl 85 (.tmp 8) (.tmp 30) rfl w3 (w.heap.size + 1) _ _ _ rfl rfl hX3.out rfl placeI HPv.out ?_; intro w5 hX5 hG5))
  have hb5 := Below.grownBy (HB.out.trans (hB3.out.mono (by omega))) hG5 (by omega) (fun k hk => by injection hk with hk; omega)
  exact end_cell_tmp (p := 8) (u := 9) rfl rfl hX5 placeT rfl placeI rfl rfl ⟨rfl, hb5⟩
theorem place_no {w : World} {f mi mg K : Nat} {r : RFs} {N : List Nd} (h : FsN w f mi mg r N) (hW : Wf r K) (i g : Int) (s : ByteArray) (hs : s.size ≤ maxLen) (free : Bool) (_hp : placeE r (i, g) s free ≠ 0) :
  ∃ a b c, Calls Tryz.prog 25 #[.pointer (some ⟨f, 0, none⟩), .agg #[.int .i64 i, .int .i64 g], .string s, .bool free] w
   fun e w' => e = .returned (.tuple #[.agg #[.pointer a, .pointer b, .string c], .int .i64 (placeE r (i, g) s free)]) ∧ Below w.heap.size w w' := by
 by_cases hf : folderE r (i, g) = 0
 ·obtain ⟨hl, _⟩ := folder_live hf
  obtain ⟨m1, m2, _⟩ := live_mem hl
  obtain ⟨n, hn, hr⟩ := h.at_ hW m1
  exact ⟨_, _, _, place_dir h hW i g s hs free hf hn (hr.id.trans m2)⟩
 ·exact ⟨_, _, _, place_bad h hW i g s free hf⟩
end Go.Proofs.YtpcjmefchclhhaaGreat

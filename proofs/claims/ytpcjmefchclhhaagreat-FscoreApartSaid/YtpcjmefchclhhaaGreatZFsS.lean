/- A part of the proof. -/
import Derived.Test.YtpcjmefchclhhaaGreatZFsE
namespace Go.Proofs.YtpcjmefchclhhaaGreat
open Go.RowKit Go.MapKept
theorem results_cell_cell_tmp {fn : Func} {p q u : Tmp} {ty : TypeId} (h : fn.results = #[.cell p ty, .cell q ty, .tmp u]) (tmps : Array Value) (P : Program) (w : World) :
  (results fn tmps).run P w =
   ((asAddr (tmps.getD p undef)).run P w).andThen fun a w₁ => ((loadVar ty a).run P w₁).andThen fun v w₂ => ((asAddr (tmps.getD q undef)).run P w₂).andThen fun b w₃ => ((loadVar ty b).run P w₃).andThen fun v' w₄ => .ok (.tuple #[v, v', tmps.getD u undef]) w₄ := by
 simp only [results, h]
 simp [Sem.run_bind, Result.andThen]
theorem end_cell2_tmp {P : Program} {fn : Func} {R : Ending → World → Prop} {a : Act} {w : World} {p q u : Tmp} {ty : TypeId} (hr : fn.results = #[.cell p ty, .cell q ty, .tmp u]) {g g' : Nat} {cs cs' : Array Value} {t : TypeId} {fr : Nat × Nat} {d : TypeDesc}
  (hp : a.tmps.getD p undef = .pointer (some ⟨g, 0, none⟩)) (hg : w.heap[g]? = some (.cells cs t fr)) (hq : a.tmps.getD q undef = .pointer (some ⟨g', 0, none⟩)) (hg' : w.heap[g']? = some (.cells cs' t fr)) (hu : P.underlying ty = some d) (ha : (match d with | .struct _ | .array _ _ => true | _ => false) = true) {n : Nat} (hs : (P.info? ty).map (·.size) = some n) (hn : cs.size = n) (hn' : cs'.size = n)
  (hd : a.defers = []) (hR : R (.returned (.tuple #[.agg cs, .agg cs', a.tmps.getD u undef])) w) : bodyPost P fn R .ret a w := by
 refine bodyPost_ret (v := .tuple #[.agg cs, .agg cs', a.tmps.getD u undef]) ?_ hd hR
 rw [results_cell_cell_tmp hr, hp, hq]
 have hl := run_loadVar_row (P := P) w g t ty cs fr d hg hu ha (by rw [hn]; exact hs)
 have hl' := run_loadVar_row (P := P) w g' t ty cs' fr d hg' hu ha (by rw [hn']; exact hs)
 simp [asAddr, hl, hl', Result.andThen]
theorem box4 (w : World) (c1 c2 c3 c4 : Array Value) (t1 t2 t3 t4 : TypeId) : ∃ w2, (((w.alloc (.cells c1 t1)).alloc (.cells c2 t2)).alloc (.cells c3 t3)).alloc (.cells c4 t4) = w2 ∧ Below w.heap.size w w2 ∧ w.heap.size + 4 ≤ w2.heap.size ∧
  w2.heap[w.heap.size]? = some (.cells c1 t1 (0, 0)) ∧ w2.heap[w.heap.size + 1]? = some (.cells c2 t2 (0, 0)) ∧ w2.heap[w.heap.size + 1 + 1]? = some (.cells c3 t3 (0, 0)) ∧ w2.heap[w.heap.size + 1 + 1 + 1]? = some (.cells c4 t4 (0, 0)) := by
 obtain ⟨w2, e, h1, h2, h3, h4, h5⟩ := box3 w c1 c2 c3 t1 t2 t3
 have hs : w2.heap.size = w.heap.size + 1 + 1 + 1 := by rw [← e]; simp
 rw [e]
 refine ⟨_, rfl, h1.alloc (by omega) _, by simp [hs], (Below.heap_alloc _ _ _ (by omega)).trans h3, (Below.heap_alloc _ _ _ (by omega)).trans h4, (Below.heap_alloc _ _ _ (by omega)).trans h5, ?_⟩
 have := heap_alloc_new w2 (.cells c4 t4)
 rw [hs] at this
 exact this
def placesE (r : RFs) (h : Int × Int) (s : ByteArray) (g : Int × Int) (t : ByteArray) : Int :=
 if liveP r h = false ∨ liveP r g = false then 175 else if (byIdP r.ins h.1).kind ≠ 2 ∨ (byIdP r.ins g.1).kind ≠ 2 then 173 else if validP s = true ∧ validP t = true then 0 else 176
theorem find_e {w : World} {f mi mg K : Nat} {r : RFs} {N : List Nd} (h : FsN w f mi mg r N) (hW : Wf r K) (i g : Int) :
  ∃ a, (∀ w2, Below w.heap.size w w2 → Calls Tryz.prog 59 #[.pointer (some ⟨f, 0, none⟩), .agg #[.int .i64 i, .int .i64 g]] w2 fun e w' => e = .returned (.tuple #[.pointer a, .int .i64 (findE r (i, g))]) ∧ Below w2.heap.size w2 w') ∧
   (liveP r (i, g) = true → ∃ n ∈ N, NodeR w r (byIdP r.ins i) n ∧ n.id = i ∧ a = some ⟨n.blk, 0, none⟩) := by
 cases hl : liveP r (i, g)
 ·refine ⟨none, fun w2 hb => ?_, fun h => by cases h⟩
  rw [show findE r (i, g) = 175 by unfold findE; rw [hl]; rfl]
  exact find_no (h.below hW hb) hW i g hl
 ·obtain ⟨m1, m2, _⟩ := live_mem hl
  obtain ⟨n, hn, hr⟩ := h.at_ hW m1
  refine ⟨_, fun w2 hb => ?_, fun _ => ⟨n, hn, hr, hr.id.trans m2, rfl⟩⟩
  rw [show findE r (i, g) = 0 by unfold findE; rw [if_pos hl]]
  exact find_yes (h.below hW hb) hW i g hl hn (hr.id.trans m2)
set_option maxRecDepth 100000 in
set_option maxHeartbeats 4000000 in
theorem places_a {w : World} {f mi mg K : Nat} {r : RFs} {N : List Nd} (h : FsN w f mi mg r N) (hW : Wf r K) (i g : Int) (s : ByteArray) (hs : s.size ≤ maxLen) (i2 g2 : Int) (s2 : ByteArray) (hs2 : s2.size ≤ maxLen) (hl : liveP r (i, g) = false) :
  Calls Tryz.prog 44 #[.pointer (some ⟨f, 0, none⟩), .agg #[.int .i64 i, .int .i64 g], .string s, .agg #[.int .i64 i2, .int .i64 g2], .string s2] w
   fun e w' => e = .returned (.tuple #[.agg #[.pointer none, .pointer none, .string ⟨#[]⟩], .agg #[.pointer none, .pointer none, .string ⟨#[]⟩], .int .i64 175]) ∧ Below w.heap.size w w' := by
 obtain ⟨w2, hw2, hB, hz2, hb0, hb1, hb2, hb3⟩ := box4 w #[.int .i64 i, .int .i64 g] #[.int .i64 i2, .int .i64 g2] #[.pointer none, .pointer none, .string ⟨#[]⟩] #[.pointer none, .pointer none, .string ⟨#[]⟩] 37 37 85 85
 have t0 : w2.cell? ⟨w.heap.size, 0, none⟩ = some (.int .i64 i) := by rw [cell_at hb0]; rfl
 have t1 : w2.cell? ⟨w.heap.size, 1, none⟩ = some (.int .i64 g) := by rw [cell_at hb0]; rfl
 have h2 := h.below hW hB
 have HW2 := Lib.hid hw2
 have HB := Lib.hid hB
 have HB1 := Lib.hid hb1
 have HB2 := Lib.hid hb2
 have HB3 := Lib.hid hb3
 have HNm := Lib.hid (fun w => named_any s w hs)
 have HNm2 := Lib.hid (fun w => named_any s2 w hs2)
 obtain ⟨a1, F1, G1⟩ := find_e h2 hW i g
 obtain ⟨a2, F2, G2⟩ := find_e h2 hW i2 g2
 have HF1 := Lib.hid F1
 have HF2 := Lib.hid F2
 have fe1 : findE r (i, g) = 175 := by unfold findE; rw [hl]; rfl
 rw [fe1] at HF1
 generalize findE r (i2, g2) = e2 at *
 have HP1 := Lib.hid (agg3_one none none ⟨#[]⟩)
 have HP2 := Lib.hid (agg3_one none none ⟨#[]⟩)
 clear hw2 hB hb0 hb1 hb2 hb3 h h2 hW F1 F2 G1 G2 hl fe1
 go_enter Tryz.func44, Tryz.ntmps44
 go_wp2_with fail
 rw [HW2.out]
 go_wp2_with (first
  | (go_at_call 59; (with_reducible refine (HF1.out w2 (Below.refl _ _)).mono ?_); rintro e w3 ⟨rfl, hB3⟩; have hs3 := hB3.size; have hY := (hB3.block _ (by omega)).trans HB1.out; have y0 : w3.cell? ⟨w.heap.size + 1, 0, none⟩ = _ := cell_at hY 0; have y1 : w3.cell? ⟨w.heap.size + 1, 1, none⟩ = _ := cell_at hY 1; clear hY; replace hB3 := Lib.hid hB3)
  | (go_at_call 59; (with_reducible refine (HF2.out w3 hB3.out).mono ?_); rintro e w4 ⟨rfl, hB4⟩; have hs4 := hB4.size; have hB4' := Lib.hid (hB3.out.trans (hB4.mono hs3)); clear hB4; have hXa := Lib.hid ((hB4'.out.block _ (by omega)).trans HB2.out); have hXb := Lib.hid ((hB4'.out.block _ (by omega)).trans HB3.out))
  | (go_at_call 61; (with_reducible refine (HNm.out _).mono ?_); rintro e w5 ⟨rfl, rfl⟩)
  | (go_at_call 61; (with_reducible refine (HNm2.out _).mono ?_); rintro e w5 ⟨rfl, rfl⟩)
  | (refine wpList_store_row rfl 85 (.tmp 10) (.tmp 37) rfl w4 (w.heap.size + 1 + 1) _ _ _ rfl rfl hXa.out rfl placeI HP1.out ?_; intro w5 hX5 hG5; have hXb5 := Lib.hid ((hG5.block (w.heap.size + 1 + 1 + 1) (by omega) (by intro e; injection e with e; omega)).trans hXb.out); replace hX5 := Lib.hid hX5; replace hG5 := Lib.hid hG5)
  | (refine wpList_store_row rfl 85 (.tmp 11) (.tmp 38) rfl w5 (w.heap.size + 1 + 1 + 1) _ _ _ rfl rfl hXb5.out rfl placeI HP2.out ?_; intro w6 hX6 hG6))
 have hb5 := Below.grownBy (HB.out.trans (hB4'.out.mono (by omega))) hG5.out (by omega) (fun k hk => by injection hk with hk; omega)
 have hb6 := Below.grownBy hb5 hG6 hb5.size (fun k hk => by injection hk with hk; omega)
 have hX5' := (hG6.block (w.heap.size + 1 + 1) (by have := hG5.out.size; omega) (by intro e; injection e with e; omega)).trans hX5.out
 exact end_cell2_tmp (p := 10) (q := 11) (u := 12) rfl rfl hX5' rfl hX6 placeT rfl placeI rfl rfl rfl ⟨rfl, hb6⟩
set_option maxRecDepth 100000 in
set_option maxHeartbeats 4000000 in
theorem places_b {w : World} {f mi mg K : Nat} {r : RFs} {N : List Nd} (h : FsN w f mi mg r N) (hW : Wf r K) (i g : Int) (s : ByteArray) (hs : s.size ≤ maxLen) (i2 g2 : Int) (s2 : ByteArray) (hs2 : s2.size ≤ maxLen) (hl : liveP r (i, g) = true) (hl2 : liveP r (i2, g2) = false) :
  Calls Tryz.prog 44 #[.pointer (some ⟨f, 0, none⟩), .agg #[.int .i64 i, .int .i64 g], .string s, .agg #[.int .i64 i2, .int .i64 g2], .string s2] w
   fun e w' => e = .returned (.tuple #[.agg #[.pointer none, .pointer none, .string ⟨#[]⟩], .agg #[.pointer none, .pointer none, .string ⟨#[]⟩], .int .i64 175]) ∧ Below w.heap.size w w' := by
 obtain ⟨w2, hw2, hB, hz2, hb0, hb1, hb2, hb3⟩ := box4 w #[.int .i64 i, .int .i64 g] #[.int .i64 i2, .int .i64 g2] #[.pointer none, .pointer none, .string ⟨#[]⟩] #[.pointer none, .pointer none, .string ⟨#[]⟩] 37 37 85 85
 have t0 : w2.cell? ⟨w.heap.size, 0, none⟩ = some (.int .i64 i) := by rw [cell_at hb0]; rfl
 have t1 : w2.cell? ⟨w.heap.size, 1, none⟩ = some (.int .i64 g) := by rw [cell_at hb0]; rfl
 have h2 := h.below hW hB
 have HW2 := Lib.hid hw2
 have HB := Lib.hid hB
 have HB1 := Lib.hid hb1
 have HB2 := Lib.hid hb2
 have HB3 := Lib.hid hb3
 have HNm := Lib.hid (fun w => named_any s w hs)
 have HNm2 := Lib.hid (fun w => named_any s2 w hs2)
 obtain ⟨a1, F1, G1⟩ := find_e h2 hW i g
 obtain ⟨a2, F2, G2⟩ := find_e h2 hW i2 g2
 have HF1 := Lib.hid F1
 have HF2 := Lib.hid F2
 have fe1 : findE r (i, g) = 0 := by unfold findE; rw [if_pos hl]
 rw [fe1] at HF1
 have fe2 : findE r (i2, g2) = 175 := by unfold findE; rw [hl2]; rfl
 rw [fe2] at HF2
 have HP1 := Lib.hid (agg3_one none none ⟨#[]⟩)
 have HP2 := Lib.hid (agg3_one none none ⟨#[]⟩)
 clear hw2 hB hb0 hb1 hb2 hb3 h h2 hW F1 F2 G1 G2 hl hl2 fe1 fe2
 go_enter Tryz.func44, Tryz.ntmps44
 go_wp2_with fail
 rw [HW2.out]
 go_wp2_with (first
  | (go_at_call 59; (with_reducible refine (HF1.out w2 (Below.refl _ _)).mono ?_); rintro e w3 ⟨rfl, hB3⟩; have hs3 := hB3.size; have hY := (hB3.block _ (by omega)).trans HB1.out; have y0 : w3.cell? ⟨w.heap.size + 1, 0, none⟩ = _ := cell_at hY 0; have y1 : w3.cell? ⟨w.heap.size + 1, 1, none⟩ = _ := cell_at hY 1; clear hY; replace hB3 := Lib.hid hB3)
  | (go_at_call 59; (with_reducible refine (HF2.out w3 hB3.out).mono ?_); rintro e w4 ⟨rfl, hB4⟩; have hs4 := hB4.size; have hB4' := Lib.hid (hB3.out.trans (hB4.mono hs3)); clear hB4; have hXa := Lib.hid ((hB4'.out.block _ (by omega)).trans HB2.out); have hXb := Lib.hid ((hB4'.out.block _ (by omega)).trans HB3.out))
  | (go_at_call 61; (with_reducible refine (HNm.out _).mono ?_); rintro e w5 ⟨rfl, rfl⟩)
  | (go_at_call 61; (with_reducible refine (HNm2.out _).mono ?_); rintro e w5 ⟨rfl, rfl⟩)
  | (refine wpList_store_row rfl 85 (.tmp 10) (.tmp 37) rfl w4 (w.heap.size + 1 + 1) _ _ _ rfl rfl hXa.out rfl placeI HP1.out ?_; intro w5 hX5 hG5; have hXb5 := Lib.hid ((hG5.block (w.heap.size + 1 + 1 + 1) (by omega) (by intro e; injection e with e; omega)).trans hXb.out); replace hX5 := Lib.hid hX5; replace hG5 := Lib.hid hG5)
  | (refine wpList_store_row rfl 85 (.tmp 11) (.tmp 38) rfl w5 (w.heap.size + 1 + 1 + 1) _ _ _ rfl rfl hXb5.out rfl placeI HP2.out ?_; intro w6 hX6 hG6))
 have hb5 := Below.grownBy (HB.out.trans (hB4'.out.mono (by omega))) hG5.out (by omega) (fun k hk => by injection hk with hk; omega)
 have hb6 := Below.grownBy hb5 hG6 hb5.size (fun k hk => by injection hk with hk; omega)
 have hX5' := (hG6.block (w.heap.size + 1 + 1) (by have := hG5.out.size; omega) (by intro e; injection e with e; omega)).trans hX5.out
 exact end_cell2_tmp (p := 10) (q := 11) (u := 12) rfl rfl hX5' rfl hX6 placeT rfl placeI rfl rfl rfl ⟨rfl, hb6⟩
set_option maxRecDepth 100000 in
set_option maxHeartbeats 4000000 in
theorem places_c {w : World} {f mi mg K : Nat} {r : RFs} {N : List Nd} (h : FsN w f mi mg r N) (hW : Wf r K) (i g : Int) (s : ByteArray) (hs : s.size ≤ maxLen) (i2 g2 : Int) (s2 : ByteArray) (hs2 : s2.size ≤ maxLen) (hl : liveP r (i, g) = true) (hl2 : liveP r (i2, g2) = true) (hk : (byIdP r.ins i).kind ≠ 2) (hk2 : (byIdP r.ins i2).kind = 2) :
  Calls Tryz.prog 44 #[.pointer (some ⟨f, 0, none⟩), .agg #[.int .i64 i, .int .i64 g], .string s, .agg #[.int .i64 i2, .int .i64 g2], .string s2] w
   fun e w' => e = .returned (.tuple #[.agg #[.pointer none, .pointer none, .string ⟨#[]⟩], .agg #[.pointer none, .pointer none, .string ⟨#[]⟩], .int .i64 173]) ∧ Below w.heap.size w w' := by
 obtain ⟨w2, hw2, hB, hz2, hb0, hb1, hb2, hb3⟩ := box4 w #[.int .i64 i, .int .i64 g] #[.int .i64 i2, .int .i64 g2] #[.pointer none, .pointer none, .string ⟨#[]⟩] #[.pointer none, .pointer none, .string ⟨#[]⟩] 37 37 85 85
 have t0 : w2.cell? ⟨w.heap.size, 0, none⟩ = some (.int .i64 i) := by rw [cell_at hb0]; rfl
 have t1 : w2.cell? ⟨w.heap.size, 1, none⟩ = some (.int .i64 g) := by rw [cell_at hb0]; rfl
 have h2 := h.below hW hB
 have HW2 := Lib.hid hw2
 have HB := Lib.hid hB
 have HB1 := Lib.hid hb1
 have HB2 := Lib.hid hb2
 have HB3 := Lib.hid hb3
 have HNm := Lib.hid (fun w => named_any s w hs)
 have HNm2 := Lib.hid (fun w => named_any s2 w hs2)
 obtain ⟨a1, F1, G1⟩ := find_e h2 hW i g
 obtain ⟨a2, F2, G2⟩ := find_e h2 hW i2 g2
 have HF1 := Lib.hid F1
 have HF2 := Lib.hid F2
 have fe1 : findE r (i, g) = 0 := by unfold findE; rw [if_pos hl]
 rw [fe1] at HF1
 have fe2 : findE r (i2, g2) = 0 := by unfold findE; rw [if_pos hl2]
 rw [fe2] at HF2
 obtain ⟨n1, hn1, hr1, hi1, rfl⟩ := G1 hl
 have HD1 := Lib.hid (show ∀ w', Below w2.heap.size w2 w' → Calls Tryz.prog 60 #[.pointer (some ⟨n1.blk, 0, none⟩)] w' fun e w'' => e = .returned (.tuple #[.pointer none, .int .i64 173]) ∧ w' = w'' from fun w' hb => by
  have := dir_any (hr1.below (hW.kind _ (live_mem hl).1) hb)
  rw [if_neg hk] at this
  exact this)
 obtain ⟨n2, hn2, hr2, hi2, rfl⟩ := G2 hl2
 have HD2 := Lib.hid (show ∀ w', Below w2.heap.size w2 w' → Calls Tryz.prog 60 #[.pointer (some ⟨n2.blk, 0, none⟩)] w' fun e w'' => e = .returned (.tuple #[.pointer (some ⟨n2.b, 0, none⟩), .int .i64 0]) ∧ w' = w'' from fun w' hb => by
  have := dir_any (hr2.below (hW.kind _ (live_mem hl2).1) hb)
  rw [if_pos hk2] at this
  exact this)
 have HP1 := Lib.hid (agg3_one none none ⟨#[]⟩)
 have HP2 := Lib.hid (agg3_one none none ⟨#[]⟩)
 clear hw2 hB hb0 hb1 hb2 hb3 h h2 hW F1 F2 G1 G2 hl hl2 fe1 fe2 hk hk2 hn1 hr1 hi1 hn2 hr2 hi2
 go_enter Tryz.func44, Tryz.ntmps44
 go_wp2_with fail
 rw [HW2.out]
 go_wp2_with (first
  | (go_at_call 59; (with_reducible refine (HF1.out w2 (Below.refl _ _)).mono ?_); rintro e w3 ⟨rfl, hB3⟩; have hs3 := hB3.size; have hY := (hB3.block _ (by omega)).trans HB1.out; have y0 : w3.cell? ⟨w.heap.size + 1, 0, none⟩ = _ := cell_at hY 0; have y1 : w3.cell? ⟨w.heap.size + 1, 1, none⟩ = _ := cell_at hY 1; clear hY; replace hB3 := Lib.hid hB3)
  | (go_at_call 59; (with_reducible refine (HF2.out w3 hB3.out).mono ?_); rintro e w4 ⟨rfl, hB4⟩; have hs4 := hB4.size; have hB4' := Lib.hid (hB3.out.trans (hB4.mono hs3)); clear hB4; have hXa := Lib.hid ((hB4'.out.block _ (by omega)).trans HB2.out); have hXb := Lib.hid ((hB4'.out.block _ (by omega)).trans HB3.out))
  | (go_at_call 60; (with_reducible refine (HD1.out _ hB4'.out).mono ?_); rintro e w5 ⟨rfl, rfl⟩)
  | (go_at_call 60; (with_reducible refine (HD2.out _ hB4'.out).mono ?_); rintro e w5 ⟨rfl, rfl⟩)
  | (go_at_call 61; (with_reducible refine (HNm.out _).mono ?_); rintro e w5 ⟨rfl, rfl⟩)
  | (go_at_call 61; (with_reducible refine (HNm2.out _).mono ?_); rintro e w5 ⟨rfl, rfl⟩)
  | (refine wpList_store_row rfl 85 (.tmp 10) (.tmp 55) rfl w4 (w.heap.size + 1 + 1) _ _ _ rfl rfl hXa.out rfl placeI HP1.out ?_; intro w5 hX5 hG5; have hXb5 := Lib.hid ((hG5.block (w.heap.size + 1 + 1 + 1) (by omega) (by intro e; injection e with e; omega)).trans hXb.out); replace hX5 := Lib.hid hX5; replace hG5 := Lib.hid hG5)
  | (refine wpList_store_row rfl 85 (.tmp 11) (.tmp 56) rfl w5 (w.heap.size + 1 + 1 + 1) _ _ _ rfl rfl hXb5.out rfl placeI HP2.out ?_; intro w6 hX6 hG6))
 have hb5 := Below.grownBy (HB.out.trans (hB4'.out.mono (by omega))) hG5.out (by omega) (fun k hk => by injection hk with hk; omega)
 have hb6 := Below.grownBy hb5 hG6 hb5.size (fun k hk => by injection hk with hk; omega)
 have hX5' := (hG6.block (w.heap.size + 1 + 1) (by have := hG5.out.size; omega) (by intro e; injection e with e; omega)).trans hX5.out
 exact end_cell2_tmp (p := 10) (q := 11) (u := 12) rfl rfl hX5' rfl hX6 placeT rfl placeI rfl rfl rfl ⟨rfl, hb6⟩
set_option maxRecDepth 100000 in
set_option maxHeartbeats 4000000 in
theorem places_d {w : World} {f mi mg K : Nat} {r : RFs} {N : List Nd} (h : FsN w f mi mg r N) (hW : Wf r K) (i g : Int) (s : ByteArray) (hs : s.size ≤ maxLen) (i2 g2 : Int) (s2 : ByteArray) (hs2 : s2.size ≤ maxLen) (hl : liveP r (i, g) = true) (hl2 : liveP r (i2, g2) = true) (hk : (byIdP r.ins i).kind ≠ 2) (hk2 : (byIdP r.ins i2).kind ≠ 2) :
  Calls Tryz.prog 44 #[.pointer (some ⟨f, 0, none⟩), .agg #[.int .i64 i, .int .i64 g], .string s, .agg #[.int .i64 i2, .int .i64 g2], .string s2] w
   fun e w' => e = .returned (.tuple #[.agg #[.pointer none, .pointer none, .string ⟨#[]⟩], .agg #[.pointer none, .pointer none, .string ⟨#[]⟩], .int .i64 173]) ∧ Below w.heap.size w w' := by
 obtain ⟨w2, hw2, hB, hz2, hb0, hb1, hb2, hb3⟩ := box4 w #[.int .i64 i, .int .i64 g] #[.int .i64 i2, .int .i64 g2] #[.pointer none, .pointer none, .string ⟨#[]⟩] #[.pointer none, .pointer none, .string ⟨#[]⟩] 37 37 85 85
 have t0 : w2.cell? ⟨w.heap.size, 0, none⟩ = some (.int .i64 i) := by rw [cell_at hb0]; rfl
 have t1 : w2.cell? ⟨w.heap.size, 1, none⟩ = some (.int .i64 g) := by rw [cell_at hb0]; rfl
 have h2 := h.below hW hB
 have HW2 := Lib.hid hw2
 have HB := Lib.hid hB
 have HB1 := Lib.hid hb1
 have HB2 := Lib.hid hb2
 have HB3 := Lib.hid hb3
 have HNm := Lib.hid (fun w => named_any s w hs)
 have HNm2 := Lib.hid (fun w => named_any s2 w hs2)
 obtain ⟨a1, F1, G1⟩ := find_e h2 hW i g
 obtain ⟨a2, F2, G2⟩ := find_e h2 hW i2 g2
 have HF1 := Lib.hid F1
 have HF2 := Lib.hid F2
 have fe1 : findE r (i, g) = 0 := by unfold findE; rw [if_pos hl]
 rw [fe1] at HF1
 have fe2 : findE r (i2, g2) = 0 := by unfold findE; rw [if_pos hl2]
 rw [fe2] at HF2
 obtain ⟨n1, hn1, hr1, hi1, rfl⟩ := G1 hl
 have HD1 := Lib.hid (show ∀ w', Below w2.heap.size w2 w' → Calls Tryz.prog 60 #[.pointer (some ⟨n1.blk, 0, none⟩)] w' fun e w'' => e = .returned (.tuple #[.pointer none, .int .i64 173]) ∧ w' = w'' from fun w' hb => by
  have := dir_any (hr1.below (hW.kind _ (live_mem hl).1) hb)
  rw [if_neg hk] at this
  exact this)
 obtain ⟨n2, hn2, hr2, hi2, rfl⟩ := G2 hl2
 have HD2 := Lib.hid (show ∀ w', Below w2.heap.size w2 w' → Calls Tryz.prog 60 #[.pointer (some ⟨n2.blk, 0, none⟩)] w' fun e w'' => e = .returned (.tuple #[.pointer none, .int .i64 173]) ∧ w' = w'' from fun w' hb => by
  have := dir_any (hr2.below (hW.kind _ (live_mem hl2).1) hb)
  rw [if_neg hk2] at this
  exact this)
 have HP1 := Lib.hid (agg3_one none none ⟨#[]⟩)
 have HP2 := Lib.hid (agg3_one none none ⟨#[]⟩)
 clear hw2 hB hb0 hb1 hb2 hb3 h h2 hW F1 F2 G1 G2 hl hl2 fe1 fe2 hk hk2 hn1 hr1 hi1 hn2 hr2 hi2
 go_enter Tryz.func44, Tryz.ntmps44
 go_wp2_with fail
 rw [HW2.out]
 go_wp2_with (first
  | (go_at_call 59; (with_reducible refine (HF1.out w2 (Below.refl _ _)).mono ?_); rintro e w3 ⟨rfl, hB3⟩; have hs3 := hB3.size; have hY := (hB3.block _ (by omega)).trans HB1.out; have y0 : w3.cell? ⟨w.heap.size + 1, 0, none⟩ = _ := cell_at hY 0; have y1 : w3.cell? ⟨w.heap.size + 1, 1, none⟩ = _ := cell_at hY 1; clear hY; replace hB3 := Lib.hid hB3)
  | (go_at_call 59; (with_reducible refine (HF2.out w3 hB3.out).mono ?_); rintro e w4 ⟨rfl, hB4⟩; have hs4 := hB4.size; have hB4' := Lib.hid (hB3.out.trans (hB4.mono hs3)); clear hB4; have hXa := Lib.hid ((hB4'.out.block _ (by omega)).trans HB2.out); have hXb := Lib.hid ((hB4'.out.block _ (by omega)).trans HB3.out))
  | (go_at_call 60; (with_reducible refine (HD1.out _ hB4'.out).mono ?_); rintro e w5 ⟨rfl, rfl⟩)
  | (go_at_call 60; (with_reducible refine (HD2.out _ hB4'.out).mono ?_); rintro e w5 ⟨rfl, rfl⟩)
  | (go_at_call 61; (with_reducible refine (HNm.out _).mono ?_); rintro e w5 ⟨rfl, rfl⟩)
  | (go_at_call 61; (with_reducible refine (HNm2.out _).mono ?_); rintro e w5 ⟨rfl, rfl⟩)
  | (refine wpList_store_row rfl 85 (.tmp 10) (.tmp 55) rfl w4 (w.heap.size + 1 + 1) _ _ _ rfl rfl hXa.out rfl placeI HP1.out ?_; intro w5 hX5 hG5; have hXb5 := Lib.hid ((hG5.block (w.heap.size + 1 + 1 + 1) (by omega) (by intro e; injection e with e; omega)).trans hXb.out); replace hX5 := Lib.hid hX5; replace hG5 := Lib.hid hG5)
  | (refine wpList_store_row rfl 85 (.tmp 11) (.tmp 56) rfl w5 (w.heap.size + 1 + 1 + 1) _ _ _ rfl rfl hXb5.out rfl placeI HP2.out ?_; intro w6 hX6 hG6))
 have hb5 := Below.grownBy (HB.out.trans (hB4'.out.mono (by omega))) hG5.out (by omega) (fun k hk => by injection hk with hk; omega)
 have hb6 := Below.grownBy hb5 hG6 hb5.size (fun k hk => by injection hk with hk; omega)
 have hX5' := (hG6.block (w.heap.size + 1 + 1) (by have := hG5.out.size; omega) (by intro e; injection e with e; omega)).trans hX5.out
 exact end_cell2_tmp (p := 10) (q := 11) (u := 12) rfl rfl hX5' rfl hX6 placeT rfl placeI rfl rfl rfl ⟨rfl, hb6⟩
set_option maxRecDepth 100000 in
set_option maxHeartbeats 4000000 in
theorem places_e {w : World} {f mi mg K : Nat} {r : RFs} {N : List Nd} (h : FsN w f mi mg r N) (hW : Wf r K) (i g : Int) (s : ByteArray) (hs : s.size ≤ maxLen) (i2 g2 : Int) (s2 : ByteArray) (hs2 : s2.size ≤ maxLen) (hl : liveP r (i, g) = true) (hl2 : liveP r (i2, g2) = true) (hk : (byIdP r.ins i).kind = 2) (hk2 : (byIdP r.ins i2).kind ≠ 2) :
  Calls Tryz.prog 44 #[.pointer (some ⟨f, 0, none⟩), .agg #[.int .i64 i, .int .i64 g], .string s, .agg #[.int .i64 i2, .int .i64 g2], .string s2] w
   fun e w' => e = .returned (.tuple #[.agg #[.pointer none, .pointer none, .string ⟨#[]⟩], .agg #[.pointer none, .pointer none, .string ⟨#[]⟩], .int .i64 173]) ∧ Below w.heap.size w w' := by
 obtain ⟨w2, hw2, hB, hz2, hb0, hb1, hb2, hb3⟩ := box4 w #[.int .i64 i, .int .i64 g] #[.int .i64 i2, .int .i64 g2] #[.pointer none, .pointer none, .string ⟨#[]⟩] #[.pointer none, .pointer none, .string ⟨#[]⟩] 37 37 85 85
 have t0 : w2.cell? ⟨w.heap.size, 0, none⟩ = some (.int .i64 i) := by rw [cell_at hb0]; rfl
 have t1 : w2.cell? ⟨w.heap.size, 1, none⟩ = some (.int .i64 g) := by rw [cell_at hb0]; rfl
 have h2 := h.below hW hB
 have HW2 := Lib.hid hw2
 have HB := Lib.hid hB
 have HB1 := Lib.hid hb1
 have HB2 := Lib.hid hb2
 have HB3 := Lib.hid hb3
 have HNm := Lib.hid (fun w => named_any s w hs)
 have HNm2 := Lib.hid (fun w => named_any s2 w hs2)
 obtain ⟨a1, F1, G1⟩ := find_e h2 hW i g
 obtain ⟨a2, F2, G2⟩ := find_e h2 hW i2 g2
 have HF1 := Lib.hid F1
 have HF2 := Lib.hid F2
 have fe1 : findE r (i, g) = 0 := by unfold findE; rw [if_pos hl]
 rw [fe1] at HF1
 have fe2 : findE r (i2, g2) = 0 := by unfold findE; rw [if_pos hl2]
 rw [fe2] at HF2
 obtain ⟨n1, hn1, hr1, hi1, rfl⟩ := G1 hl
 have HD1 := Lib.hid (show ∀ w', Below w2.heap.size w2 w' → Calls Tryz.prog 60 #[.pointer (some ⟨n1.blk, 0, none⟩)] w' fun e w'' => e = .returned (.tuple #[.pointer (some ⟨n1.b, 0, none⟩), .int .i64 0]) ∧ w' = w'' from fun w' hb => by
  have := dir_any (hr1.below (hW.kind _ (live_mem hl).1) hb)
  rw [if_pos hk] at this
  exact this)
 obtain ⟨n2, hn2, hr2, hi2, rfl⟩ := G2 hl2
 have HD2 := Lib.hid (show ∀ w', Below w2.heap.size w2 w' → Calls Tryz.prog 60 #[.pointer (some ⟨n2.blk, 0, none⟩)] w' fun e w'' => e = .returned (.tuple #[.pointer none, .int .i64 173]) ∧ w' = w'' from fun w' hb => by
  have := dir_any (hr2.below (hW.kind _ (live_mem hl2).1) hb)
  rw [if_neg hk2] at this
  exact this)
 have HP1 := Lib.hid (agg3_one none none ⟨#[]⟩)
 have HP2 := Lib.hid (agg3_one none none ⟨#[]⟩)
 clear hw2 hB hb0 hb1 hb2 hb3 h h2 hW F1 F2 G1 G2 hl hl2 fe1 fe2 hk hk2 hn1 hr1 hi1 hn2 hr2 hi2
 go_enter Tryz.func44, Tryz.ntmps44
 go_wp2_with fail
 rw [HW2.out]
 go_wp2_with (first
  | (go_at_call 59; (with_reducible refine (HF1.out w2 (Below.refl _ _)).mono ?_); rintro e w3 ⟨rfl, hB3⟩; have hs3 := hB3.size; have hY := (hB3.block _ (by omega)).trans HB1.out; have y0 : w3.cell? ⟨w.heap.size + 1, 0, none⟩ = _ := cell_at hY 0; have y1 : w3.cell? ⟨w.heap.size + 1, 1, none⟩ = _ := cell_at hY 1; clear hY; replace hB3 := Lib.hid hB3)
  | (go_at_call 59; (with_reducible refine (HF2.out w3 hB3.out).mono ?_); rintro e w4 ⟨rfl, hB4⟩; have hs4 := hB4.size; have hB4' := Lib.hid (hB3.out.trans (hB4.mono hs3)); clear hB4; have hXa := Lib.hid ((hB4'.out.block _ (by omega)).trans HB2.out); have hXb := Lib.hid ((hB4'.out.block _ (by omega)).trans HB3.out))
  | (go_at_call 60; (with_reducible refine (HD1.out _ hB4'.out).mono ?_); rintro e w5 ⟨rfl, rfl⟩)
  | (go_at_call 60; (with_reducible refine (HD2.out _ hB4'.out).mono ?_); rintro e w5 ⟨rfl, rfl⟩)
  | (go_at_call 61; (with_reducible refine (HNm.out _).mono ?_); rintro e w5 ⟨rfl, rfl⟩)
  | (go_at_call 61; (with_reducible refine (HNm2.out _).mono ?_); rintro e w5 ⟨rfl, rfl⟩)
  | (refine wpList_store_row rfl 85 (.tmp 10) (.tmp 55) rfl w4 (w.heap.size + 1 + 1) _ _ _ rfl rfl hXa.out rfl placeI HP1.out ?_; intro w5 hX5 hG5; have hXb5 := Lib.hid ((hG5.block (w.heap.size + 1 + 1 + 1) (by omega) (by intro e; injection e with e; omega)).trans hXb.out); replace hX5 := Lib.hid hX5; replace hG5 := Lib.hid hG5)
  | (refine wpList_store_row rfl 85 (.tmp 11) (.tmp 56) rfl w5 (w.heap.size + 1 + 1 + 1) _ _ _ rfl rfl hXb5.out rfl placeI HP2.out ?_; intro w6 hX6 hG6))
 have hb5 := Below.grownBy (HB.out.trans (hB4'.out.mono (by omega))) hG5.out (by omega) (fun k hk => by injection hk with hk; omega)
 have hb6 := Below.grownBy hb5 hG6 hb5.size (fun k hk => by injection hk with hk; omega)
 have hX5' := (hG6.block (w.heap.size + 1 + 1) (by have := hG5.out.size; omega) (by intro e; injection e with e; omega)).trans hX5.out
 exact end_cell2_tmp (p := 10) (q := 11) (u := 12) rfl rfl hX5' rfl hX6 placeT rfl placeI rfl rfl rfl ⟨rfl, hb6⟩
set_option maxRecDepth 100000 in
set_option maxHeartbeats 4000000 in
theorem places_f {w : World} {f mi mg K : Nat} {r : RFs} {N : List Nd} (h : FsN w f mi mg r N) (hW : Wf r K) (i g : Int) (s : ByteArray) (hs : s.size ≤ maxLen) (i2 g2 : Int) (s2 : ByteArray) (hs2 : s2.size ≤ maxLen) (hl : liveP r (i, g) = true) (hl2 : liveP r (i2, g2) = true) (hk : (byIdP r.ins i).kind = 2) (hk2 : (byIdP r.ins i2).kind = 2) (hv : ¬ validP s = true) :
  Calls Tryz.prog 44 #[.pointer (some ⟨f, 0, none⟩), .agg #[.int .i64 i, .int .i64 g], .string s, .agg #[.int .i64 i2, .int .i64 g2], .string s2] w
   fun e w' => e = .returned (.tuple #[.agg #[.pointer none, .pointer none, .string ⟨#[]⟩], .agg #[.pointer none, .pointer none, .string ⟨#[]⟩], .int .i64 176]) ∧ Below w.heap.size w w' := by
 obtain ⟨w2, hw2, hB, hz2, hb0, hb1, hb2, hb3⟩ := box4 w #[.int .i64 i, .int .i64 g] #[.int .i64 i2, .int .i64 g2] #[.pointer none, .pointer none, .string ⟨#[]⟩] #[.pointer none, .pointer none, .string ⟨#[]⟩] 37 37 85 85
 have t0 : w2.cell? ⟨w.heap.size, 0, none⟩ = some (.int .i64 i) := by rw [cell_at hb0]; rfl
 have t1 : w2.cell? ⟨w.heap.size, 1, none⟩ = some (.int .i64 g) := by rw [cell_at hb0]; rfl
 have h2 := h.below hW hB
 have HW2 := Lib.hid hw2
 have HB := Lib.hid hB
 have HB1 := Lib.hid hb1
 have HB2 := Lib.hid hb2
 have HB3 := Lib.hid hb3
 have HNm := Lib.hid (fun w => named_any s w hs)
 have HNm2 := Lib.hid (fun w => named_any s2 w hs2)
 obtain ⟨a1, F1, G1⟩ := find_e h2 hW i g
 obtain ⟨a2, F2, G2⟩ := find_e h2 hW i2 g2
 have HF1 := Lib.hid F1
 have HF2 := Lib.hid F2
 have fe1 : findE r (i, g) = 0 := by unfold findE; rw [if_pos hl]
 rw [fe1] at HF1
 have fe2 : findE r (i2, g2) = 0 := by unfold findE; rw [if_pos hl2]
 rw [fe2] at HF2
 rw [show nameE s = 176 by unfold nameE; rw [if_neg hv]] at HNm
 generalize nameE s2 = e2 at *
 obtain ⟨n1, hn1, hr1, hi1, rfl⟩ := G1 hl
 have HD1 := Lib.hid (show ∀ w', Below w2.heap.size w2 w' → Calls Tryz.prog 60 #[.pointer (some ⟨n1.blk, 0, none⟩)] w' fun e w'' => e = .returned (.tuple #[.pointer (some ⟨n1.b, 0, none⟩), .int .i64 0]) ∧ w' = w'' from fun w' hb => by
  have := dir_any (hr1.below (hW.kind _ (live_mem hl).1) hb)
  rw [if_pos hk] at this
  exact this)
 obtain ⟨n2, hn2, hr2, hi2, rfl⟩ := G2 hl2
 have HD2 := Lib.hid (show ∀ w', Below w2.heap.size w2 w' → Calls Tryz.prog 60 #[.pointer (some ⟨n2.blk, 0, none⟩)] w' fun e w'' => e = .returned (.tuple #[.pointer (some ⟨n2.b, 0, none⟩), .int .i64 0]) ∧ w' = w'' from fun w' hb => by
  have := dir_any (hr2.below (hW.kind _ (live_mem hl2).1) hb)
  rw [if_pos hk2] at this
  exact this)
 have HP1 := Lib.hid (agg3_one none none ⟨#[]⟩)
 have HP2 := Lib.hid (agg3_one none none ⟨#[]⟩)
 clear hw2 hB hb0 hb1 hb2 hb3 h h2 hW F1 F2 G1 G2 hl hl2 fe1 fe2 hk hk2 hv hn1 hr1 hi1 hn2 hr2 hi2
 go_enter Tryz.func44, Tryz.ntmps44
 go_wp2_with fail
 rw [HW2.out]
 go_wp2_with (first
  | (go_at_call 59; (with_reducible refine (HF1.out w2 (Below.refl _ _)).mono ?_); rintro e w3 ⟨rfl, hB3⟩; have hs3 := hB3.size; have hY := (hB3.block _ (by omega)).trans HB1.out; have y0 : w3.cell? ⟨w.heap.size + 1, 0, none⟩ = _ := cell_at hY 0; have y1 : w3.cell? ⟨w.heap.size + 1, 1, none⟩ = _ := cell_at hY 1; clear hY; replace hB3 := Lib.hid hB3)
  | (go_at_call 59; (with_reducible refine (HF2.out w3 hB3.out).mono ?_); rintro e w4 ⟨rfl, hB4⟩; have hs4 := hB4.size; have hB4' := Lib.hid (hB3.out.trans (hB4.mono hs3)); clear hB4; have hXa := Lib.hid ((hB4'.out.block _ (by omega)).trans HB2.out); have hXb := Lib.hid ((hB4'.out.block _ (by omega)).trans HB3.out))
  | (go_at_call 60; (with_reducible refine (HD1.out _ hB4'.out).mono ?_); rintro e w5 ⟨rfl, rfl⟩)
  | (go_at_call 60; (with_reducible refine (HD2.out _ hB4'.out).mono ?_); rintro e w5 ⟨rfl, rfl⟩)
  | (go_at_call 61; (with_reducible refine (HNm.out _).mono ?_); rintro e w5 ⟨rfl, rfl⟩)
  | (go_at_call 61; (with_reducible refine (HNm2.out _).mono ?_); rintro e w5 ⟨rfl, rfl⟩)
  | (refine wpList_store_row rfl 85 (.tmp 10) (.tmp 65) rfl w4 (w.heap.size + 1 + 1) _ _ _ rfl rfl hXa.out rfl placeI HP1.out ?_; intro w5 hX5 hG5; have hXb5 := Lib.hid ((hG5.block (w.heap.size + 1 + 1 + 1) (by omega) (by intro e; injection e with e; omega)).trans hXb.out); replace hX5 := Lib.hid hX5; replace hG5 := Lib.hid hG5)
  | (refine wpList_store_row rfl 85 (.tmp 11) (.tmp 66) rfl w5 (w.heap.size + 1 + 1 + 1) _ _ _ rfl rfl hXb5.out rfl placeI HP2.out ?_; intro w6 hX6 hG6))
 have hb5 := Below.grownBy (HB.out.trans (hB4'.out.mono (by omega))) hG5.out (by omega) (fun k hk => by injection hk with hk; omega)
 have hb6 := Below.grownBy hb5 hG6 hb5.size (fun k hk => by injection hk with hk; omega)
 have hX5' := (hG6.block (w.heap.size + 1 + 1) (by have := hG5.out.size; omega) (by intro e; injection e with e; omega)).trans hX5.out
 exact end_cell2_tmp (p := 10) (q := 11) (u := 12) rfl rfl hX5' rfl hX6 placeT rfl placeI rfl rfl rfl ⟨rfl, hb6⟩
set_option maxRecDepth 100000 in
set_option maxHeartbeats 4000000 in
theorem places_g {w : World} {f mi mg K : Nat} {r : RFs} {N : List Nd} (h : FsN w f mi mg r N) (hW : Wf r K) (i g : Int) (s : ByteArray) (hs : s.size ≤ maxLen) (i2 g2 : Int) (s2 : ByteArray) (hs2 : s2.size ≤ maxLen) (hl : liveP r (i, g) = true) (hl2 : liveP r (i2, g2) = true) (hk : (byIdP r.ins i).kind = 2) (hk2 : (byIdP r.ins i2).kind = 2) (hv : validP s = true) (hv2 : ¬ validP s2 = true) :
  Calls Tryz.prog 44 #[.pointer (some ⟨f, 0, none⟩), .agg #[.int .i64 i, .int .i64 g], .string s, .agg #[.int .i64 i2, .int .i64 g2], .string s2] w
   fun e w' => e = .returned (.tuple #[.agg #[.pointer none, .pointer none, .string ⟨#[]⟩], .agg #[.pointer none, .pointer none, .string ⟨#[]⟩], .int .i64 176]) ∧ Below w.heap.size w w' := by
 obtain ⟨w2, hw2, hB, hz2, hb0, hb1, hb2, hb3⟩ := box4 w #[.int .i64 i, .int .i64 g] #[.int .i64 i2, .int .i64 g2] #[.pointer none, .pointer none, .string ⟨#[]⟩] #[.pointer none, .pointer none, .string ⟨#[]⟩] 37 37 85 85
 have t0 : w2.cell? ⟨w.heap.size, 0, none⟩ = some (.int .i64 i) := by rw [cell_at hb0]; rfl
 have t1 : w2.cell? ⟨w.heap.size, 1, none⟩ = some (.int .i64 g) := by rw [cell_at hb0]; rfl
 have h2 := h.below hW hB
 have HW2 := Lib.hid hw2
 have HB := Lib.hid hB
 have HB1 := Lib.hid hb1
 have HB2 := Lib.hid hb2
 have HB3 := Lib.hid hb3
 have HNm := Lib.hid (fun w => named_any s w hs)
 have HNm2 := Lib.hid (fun w => named_any s2 w hs2)
 obtain ⟨a1, F1, G1⟩ := find_e h2 hW i g
 obtain ⟨a2, F2, G2⟩ := find_e h2 hW i2 g2
 have HF1 := Lib.hid F1
 have HF2 := Lib.hid F2
 have fe1 : findE r (i, g) = 0 := by unfold findE; rw [if_pos hl]
 rw [fe1] at HF1
 have fe2 : findE r (i2, g2) = 0 := by unfold findE; rw [if_pos hl2]
 rw [fe2] at HF2
 rw [show nameE s = 0 by unfold nameE; rw [if_pos hv]] at HNm
 rw [show nameE s2 = 176 by unfold nameE; rw [if_neg hv2]] at HNm2
 obtain ⟨n1, hn1, hr1, hi1, rfl⟩ := G1 hl
 have HD1 := Lib.hid (show ∀ w', Below w2.heap.size w2 w' → Calls Tryz.prog 60 #[.pointer (some ⟨n1.blk, 0, none⟩)] w' fun e w'' => e = .returned (.tuple #[.pointer (some ⟨n1.b, 0, none⟩), .int .i64 0]) ∧ w' = w'' from fun w' hb => by
  have := dir_any (hr1.below (hW.kind _ (live_mem hl).1) hb)
  rw [if_pos hk] at this
  exact this)
 obtain ⟨n2, hn2, hr2, hi2, rfl⟩ := G2 hl2
 have HD2 := Lib.hid (show ∀ w', Below w2.heap.size w2 w' → Calls Tryz.prog 60 #[.pointer (some ⟨n2.blk, 0, none⟩)] w' fun e w'' => e = .returned (.tuple #[.pointer (some ⟨n2.b, 0, none⟩), .int .i64 0]) ∧ w' = w'' from fun w' hb => by
  have := dir_any (hr2.below (hW.kind _ (live_mem hl2).1) hb)
  rw [if_pos hk2] at this
  exact this)
 have HP1 := Lib.hid (agg3_one none none ⟨#[]⟩)
 have HP2 := Lib.hid (agg3_one none none ⟨#[]⟩)
 clear hw2 hB hb0 hb1 hb2 hb3 h h2 hW F1 F2 G1 G2 hl hl2 fe1 fe2 hk hk2 hv hv2 hn1 hr1 hi1 hn2 hr2 hi2
 go_enter Tryz.func44, Tryz.ntmps44
 go_wp2_with fail
 rw [HW2.out]
 go_wp2_with (first
  | (go_at_call 59; (with_reducible refine (HF1.out w2 (Below.refl _ _)).mono ?_); rintro e w3 ⟨rfl, hB3⟩; have hs3 := hB3.size; have hY := (hB3.block _ (by omega)).trans HB1.out; have y0 : w3.cell? ⟨w.heap.size + 1, 0, none⟩ = _ := cell_at hY 0; have y1 : w3.cell? ⟨w.heap.size + 1, 1, none⟩ = _ := cell_at hY 1; clear hY; replace hB3 := Lib.hid hB3)
  | (go_at_call 59; (with_reducible refine (HF2.out w3 hB3.out).mono ?_); rintro e w4 ⟨rfl, hB4⟩; have hs4 := hB4.size; have hB4' := Lib.hid (hB3.out.trans (hB4.mono hs3)); clear hB4; have hXa := Lib.hid ((hB4'.out.block _ (by omega)).trans HB2.out); have hXb := Lib.hid ((hB4'.out.block _ (by omega)).trans HB3.out))
  | (go_at_call 60; (with_reducible refine (HD1.out _ hB4'.out).mono ?_); rintro e w5 ⟨rfl, rfl⟩)
  | (go_at_call 60; (with_reducible refine (HD2.out _ hB4'.out).mono ?_); rintro e w5 ⟨rfl, rfl⟩)
  | (go_at_call 61; (with_reducible refine (HNm.out _).mono ?_); rintro e w5 ⟨rfl, rfl⟩)
  | (go_at_call 61; (with_reducible refine (HNm2.out _).mono ?_); rintro e w5 ⟨rfl, rfl⟩)
  | (refine wpList_store_row rfl 85 (.tmp 10) (.tmp 65) rfl w4 (w.heap.size + 1 + 1) _ _ _ rfl rfl hXa.out rfl placeI HP1.out ?_; intro w5 hX5 hG5; have hXb5 := Lib.hid ((hG5.block (w.heap.size + 1 + 1 + 1) (by omega) (by intro e; injection e with e; omega)).trans hXb.out); replace hX5 := Lib.hid hX5; replace hG5 := Lib.hid hG5)
  | (refine wpList_store_row rfl 85 (.tmp 11) (.tmp 66) rfl w5 (w.heap.size + 1 + 1 + 1) _ _ _ rfl rfl hXb5.out rfl placeI HP2.out ?_; intro w6 hX6 hG6))
 have hb5 := Below.grownBy (HB.out.trans (hB4'.out.mono (by omega))) hG5.out (by omega) (fun k hk => by injection hk with hk; omega)
 have hb6 := Below.grownBy hb5 hG6 hb5.size (fun k hk => by injection hk with hk; omega)
 have hX5' := (hG6.block (w.heap.size + 1 + 1) (by have := hG5.out.size; omega) (by intro e; injection e with e; omega)).trans hX5.out
 exact end_cell2_tmp (p := 10) (q := 11) (u := 12) rfl rfl hX5' rfl hX6 placeT rfl placeI rfl rfl rfl ⟨rfl, hb6⟩
set_option maxRecDepth 100000 in
set_option maxHeartbeats 4000000 in
theorem places_ok {w : World} {f mi mg K : Nat} {r : RFs} {N : List Nd} (h : FsN w f mi mg r N) (hW : Wf r K) (i g : Int) (s : ByteArray) (hs : s.size ≤ maxLen) (i2 g2 : Int) (s2 : ByteArray) (hs2 : s2.size ≤ maxLen) (hl : liveP r (i, g) = true) (hl2 : liveP r (i2, g2) = true) (hk : (byIdP r.ins i).kind = 2) (hk2 : (byIdP r.ins i2).kind = 2) (hv : validP s = true) (hv2 : validP s2 = true) {n1 n2 : Nd} (hm1 : n1 ∈ N) (hm2 : n2 ∈ N) (hj1 : n1.id = i) (hj2 : n2.id = i2) :
  Calls Tryz.prog 44 #[.pointer (some ⟨f, 0, none⟩), .agg #[.int .i64 i, .int .i64 g], .string s, .agg #[.int .i64 i2, .int .i64 g2], .string s2] w
   fun e w' => e = .returned (.tuple #[.agg #[.pointer (some ⟨n1.blk, 0, none⟩), .pointer (some ⟨n1.b, 0, none⟩), .string s], .agg #[.pointer (some ⟨n2.blk, 0, none⟩), .pointer (some ⟨n2.b, 0, none⟩), .string s2], .int .i64 0]) ∧ Below w.heap.size w w' := by
 obtain ⟨w2, hw2, hB, hz2, hb0, hb1, hb2, hb3⟩ := box4 w #[.int .i64 i, .int .i64 g] #[.int .i64 i2, .int .i64 g2] #[.pointer none, .pointer none, .string ⟨#[]⟩] #[.pointer none, .pointer none, .string ⟨#[]⟩] 37 37 85 85
 have t0 : w2.cell? ⟨w.heap.size, 0, none⟩ = some (.int .i64 i) := by rw [cell_at hb0]; rfl
 have t1 : w2.cell? ⟨w.heap.size, 1, none⟩ = some (.int .i64 g) := by rw [cell_at hb0]; rfl
 have h2 := h.below hW hB
 have HW2 := Lib.hid hw2
 have HB := Lib.hid hB
 have HB1 := Lib.hid hb1
 have HB2 := Lib.hid hb2
 have HB3 := Lib.hid hb3
 have HNm := Lib.hid (fun w => named_any s w hs)
 have HNm2 := Lib.hid (fun w => named_any s2 w hs2)
 obtain ⟨a1, F1, G1⟩ := find_e h2 hW i g
 obtain ⟨a2, F2, G2⟩ := find_e h2 hW i2 g2
 have HF1 := Lib.hid F1
 have HF2 := Lib.hid F2
 have fe1 : findE r (i, g) = 0 := by unfold findE; rw [if_pos hl]
 rw [fe1] at HF1
 have fe2 : findE r (i2, g2) = 0 := by unfold findE; rw [if_pos hl2]
 rw [fe2] at HF2
 rw [show nameE s = 0 by unfold nameE; rw [if_pos hv]] at HNm
 rw [show nameE s2 = 0 by unfold nameE; rw [if_pos hv2]] at HNm2
 obtain ⟨m1, hn1, hr1, hi1, rfl⟩ := G1 hl
 obtain rfl : n1 = m1 := nodup_inj h.idU hm1 hn1 (hj1.trans hi1.symm)
 have HD1 := Lib.hid (show ∀ w', Below w2.heap.size w2 w' → Calls Tryz.prog 60 #[.pointer (some ⟨n1.blk, 0, none⟩)] w' fun e w'' => e = .returned (.tuple #[.pointer (some ⟨n1.b, 0, none⟩), .int .i64 0]) ∧ w' = w'' from fun w' hb => by
  have := dir_any (hr1.below (hW.kind _ (live_mem hl).1) hb)
  rw [if_pos hk] at this
  exact this)
 obtain ⟨m2, hn2, hr2, hi2, rfl⟩ := G2 hl2
 obtain rfl : n2 = m2 := nodup_inj h.idU hm2 hn2 (hj2.trans hi2.symm)
 have HD2 := Lib.hid (show ∀ w', Below w2.heap.size w2 w' → Calls Tryz.prog 60 #[.pointer (some ⟨n2.blk, 0, none⟩)] w' fun e w'' => e = .returned (.tuple #[.pointer (some ⟨n2.b, 0, none⟩), .int .i64 0]) ∧ w' = w'' from fun w' hb => by
  have := dir_any (hr2.below (hW.kind _ (live_mem hl2).1) hb)
  rw [if_pos hk2] at this
  exact this)
 have HP1 := Lib.hid (agg3_one (some ⟨n1.blk, 0, none⟩) (some ⟨n1.b, 0, none⟩) s)
 have HP2 := Lib.hid (agg3_one (some ⟨n2.blk, 0, none⟩) (some ⟨n2.b, 0, none⟩) s2)
 clear hw2 hB hb0 hb1 hb2 hb3 h h2 hW F1 F2 G1 G2 hl hl2 fe1 fe2 hk hk2 hv hv2 hj1 hj2 hn1 hr1 hi1 hn2 hr2 hi2
 go_enter Tryz.func44, Tryz.ntmps44
 go_wp2_with fail
 rw [HW2.out]
 go_wp2_with (first
  | (go_at_call 59; (with_reducible refine (HF1.out w2 (Below.refl _ _)).mono ?_); rintro e w3 ⟨rfl, hB3⟩; have hs3 := hB3.size; have hY := (hB3.block _ (by omega)).trans HB1.out; have y0 : w3.cell? ⟨w.heap.size + 1, 0, none⟩ = _ := cell_at hY 0; have y1 : w3.cell? ⟨w.heap.size + 1, 1, none⟩ = _ := cell_at hY 1; clear hY; replace hB3 := Lib.hid hB3)
  | (go_at_call 59; (with_reducible refine (HF2.out w3 hB3.out).mono ?_); rintro e w4 ⟨rfl, hB4⟩; have hs4 := hB4.size; have hB4' := Lib.hid (hB3.out.trans (hB4.mono hs3)); clear hB4; have hXa := Lib.hid ((hB4'.out.block _ (by omega)).trans HB2.out); have hXb := Lib.hid ((hB4'.out.block _ (by omega)).trans HB3.out))
  | (go_at_call 60; (with_reducible refine (HD1.out _ hB4'.out).mono ?_); rintro e w5 ⟨rfl, rfl⟩)
  | (go_at_call 60; (with_reducible refine (HD2.out _ hB4'.out).mono ?_); rintro e w5 ⟨rfl, rfl⟩)
  | (go_at_call 61; (with_reducible refine (HNm.out _).mono ?_); rintro e w5 ⟨rfl, rfl⟩)
  | (go_at_call 61; (with_reducible refine (HNm2.out _).mono ?_); rintro e w5 ⟨rfl, rfl⟩)
  | (refine wpList_store_row rfl 85 (.tmp 10) (.tmp 70) rfl w4 (w.heap.size + 1 + 1) _ _ _ rfl rfl hXa.out rfl placeI HP1.out ?_; intro w5 hX5 hG5; have hXb5 := Lib.hid ((hG5.block (w.heap.size + 1 + 1 + 1) (by omega) (by intro e; injection e with e; omega)).trans hXb.out); replace hX5 := Lib.hid hX5; replace hG5 := Lib.hid hG5)
  | (refine wpList_store_row rfl 85 (.tmp 11) (.tmp 74) rfl w5 (w.heap.size + 1 + 1 + 1) _ _ _ rfl rfl hXb5.out rfl placeI HP2.out ?_; intro w6 hX6 hG6))
 have hb5 := Below.grownBy (HB.out.trans (hB4'.out.mono (by omega))) hG5.out (by omega) (fun k hk => by injection hk with hk; omega)
 have hb6 := Below.grownBy hb5 hG6 hb5.size (fun k hk => by injection hk with hk; omega)
 have hX5' := (hG6.block (w.heap.size + 1 + 1) (by have := hG5.out.size; omega) (by intro e; injection e with e; omega)).trans hX5.out
 exact end_cell2_tmp (p := 10) (q := 11) (u := 12) rfl rfl hX5' rfl hX6 placeT rfl placeI rfl rfl rfl ⟨rfl, hb6⟩
end Go.Proofs.YtpcjmefchclhhaaGreat

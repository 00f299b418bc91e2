/- A part of the proof. -/
import Derived.Test.YtalfffamppmooaaGreatDoorZIb
import Derived.Lib.AppendZerosOnto
import Derived.Lib.Overlaps
import Derived.Deep.RegionLaw
import Derived.Lib.SliceRun
import Derived.Laws.IdiomCopy
import Derived.Lib.Hide
import Derived.Lib.AppendZeros
import Derived.Laws.NewBlocks
import Derived.Shelf.RegionOpenPlain
namespace Go.Proofs.YtalfffamppmooaaGreatDoor
open Go.RowKit Go.Shelf
set_option maxRecDepth 100000
theorem wpl_copy_run {P : Program} (w : World) {ops : Array Oper} {rest : List Oper} {o : Oper} {a : Act} {Q : Exit → Act → World → Prop} (hgd : o.guard = none) (d s : Operand) (t t' : TypeId)
  (ho : o.op = .call { callee := .builtin .copy, args := #[d, s], argTypes := #[t, t'] }) (v u : Value) (hd : a.eval d = v) (hs : a.eval s = u) {v' : Value} {w' : World}
  (hr : (Builtin.copy_ #[t, t'] o.type #[v, u]).run P w = .ok v' w') (h : wpList P ops Q rest (a.put o.dst v') w') : wpList P ops Q (o :: rest) a w :=
 wpList_plain hgd fun _ hK => by
  unfold Oper.wp execOp
  simp only [ho, resolve, invoke, builtin, Sem.run_bind, Sem.run_pure, Result.andThen_ok, List.map_toArray, List.map_cons, List.map_nil, hd, hs, hr]
  exact hK _ _ h
theorem stp_copy_run {P : Program} {ops : Array Oper} {o : Oper} {a : Act} {w : World} {K : Act → World → Prop} {Q : Exit → Act → World → Prop} {E : Prop}
  (hg : o.guard = none) (d x : Operand) (dT sT : TypeId) (hop : o.op = Op.call { callee := Callee.builtin Builtin.copy, args := #[d, x], argTypes := #[dT, sT] })
  (v u : Value) (hd : a.eval d = v) (hx : a.eval x = u) {v' : Value} {w' : World} (hr : (Builtin.copy_ #[dT, sT] o.type #[v, u]).run P w = .ok v' w') (hK : K (a.put o.dst v') w') :
  if Region.wanted o (yielded ops a.tmps) = true then Oper.wp P o a w K Q else E := by
 have hw : Region.wanted o (yielded ops a.tmps) = true := by simp [Region.wanted, hg]
 rw [if_pos hw]
 unfold Oper.wp execOp
 simp only [hop, resolve, invoke, builtin, Sem.run_bind, Sem.run_pure, Result.andThen_ok, List.map_toArray, List.map_cons, List.map_nil, hd, hx, hr]
 exact hK
abbrev fIns : FuncId := 60
abbrev fOvl : FuncId := 103
theorem size_Le (w : World) : (Go.sizeOf tLe).run Tryz.prog w = .ok 3 w := by kernel_rfl
theorem shape_cells {w : World} {g : Nat} {cur : Array Value} {t : TypeId} (hg : w.heap[g]? = some (.cells cur t (0, 0))) : w.shape? g = some (t, cur.size) := by
 simp [World.shape?, hg]
theorem frozen_cells {w : World} {g o : Nat} {cur : Array Value} {t : TypeId} (hg : w.heap[g]? = some (.cells cur t (0, 0))) : w.frozen? ⟨g, o, none⟩ = false := by
 simp [World.frozen?, hg]
set_option maxHeartbeats 4000000 in
theorem ins_shift (g u n c i uc : Nat) (cur ucur : Array Value) (xs : List Value) (x : RL) (w : World) (hi : i < n) (hroom : n + 1 ≤ c) (hc63 : c ≤ 9223372036854775807) (hne : u ≠ g)
  (hg : w.heap[g]? = some (.cells cur tLe (0, 0))) (hu : w.heap[u]? = some (.cells ucur tLe (0, 0))) (hcs : cur.size = c * 3) (hx : cur.toList.take (n * 3) = xs) (hxl : xs.length = n * 3) (hux : ucur.toList.take 3 = fL [x]) (h1 : ∀ v ∈ xs, v.oneCell' = true) :
  Calls Tryz.prog fIns #[.slice (some ⟨g, 0, none⟩) n c, .int .i64 i, .slice (some ⟨u, 0, none⟩) 1 uc] w fun e w' => e = .returned (.slice (some ⟨g, 0, none⟩) (n + 1) c) ∧
   ∃ r : Array Value, w'.heap[g]? = some (.cells r tLe (0, 0)) ∧ r.size = c * 3 ∧ r.toList.take ((n + 1) * 3) = xs.take (i * 3) ++ fL [x] ++ xs.drop (i * 3) ∧ w.grownBy w' (some g) := by
 have hov : ∀ lb cb, (callFunc fOvl #[.slice (some ⟨u, 0, none⟩) 1 uc, .slice (some ⟨g, (i + 1) * 3, none⟩) lb cb]).run Tryz.prog w = .ok (.value (.bool false)) w := fun lb cb => by
  rw [run_callFunc_extern Tryz.func103 (by kernel_rfl) (by kernel_rfl) (by kernel_rfl) (e := Extern.SlicesOverlaps.overlaps #[tLs, tLs] #[4]) (by kernel_rfl),
   Lib.run_overlaps_apart w tLs 4 tLe und_Ls 3 size_Le ⟨u, 0, none⟩ ⟨g, (i + 1) * 3, none⟩ 1 uc lb cb hne tLe tLe ucur.size cur.size (shape_cells hu) (shape_cells hg) (by omega) (frozen_cells hu) (frozen_cells hu)]
  rfl
 have hz2 : ¬ ((i : Int) = (n : Int)) := by omega
 have hb2 : ¬ (c = i + 1) := by omega
 have hb4 : ¬ (c = i) := by omega
 have hw1 : IntKind.i64.wrap ((i : Int) + 1) = (i : Int) + 1 := by rw [IntKind.wrap_i64]; omega
 have hw2 : IntKind.i64.wrap ((n : Int) + 1) = (n : Int) + 1 := by rw [IntKind.wrap_i64]; omega
 have mixed : Tryz.prog.follows .mixedOrders = true := by kernel_rfl
 have hb1 : (0 : Int) ≤ (i : Int) + 1 := by omega
 have hin : i ≤ n := by omega
 have hb3 : (i : Int) ≤ (n : Int) + 1 := by omega
 have hgl := (Array.getElem?_eq_some_iff.1 hg).1
 have hdl : (xs.drop (i * 3)).length = (n - i) * 3 := by rw [List.length_drop, hxl]; omega
 have hmn1 : Nat.min (n + 1 - i) (n - i) = n - i := by simp only [Nat.min_def]; split <;> omega
 have hcur : ∀ j v, xs[j]? = some v → w.cell? ⟨g, j, none⟩ = some v := fun j v hj => by
  rw [cell_of_row w g j cur tLe (0, 0) hg]
  rw [← hx, List.getElem?_take] at hj
  split at hj
  ·simpa using hj
  ·cases hj
 have hcp1 : ∀ ty dc sc, (Builtin.copy_ #[tLs, tLs] ty #[.slice (some ⟨g, (i + 1) * 3, none⟩) (n - i) dc, .slice (some ⟨g, i * 3, none⟩) (n + 1 - i) sc]).run Tryz.prog w.drew = .ok (goInt ((n - i : Nat) : Int)) (w.drew.setRow g (cur.toList.take ((i + 1) * 3) ++ xs.drop (i * 3) ++ cur.toList.drop ((i + 1) * 3 + (n - i) * 3)).toArray) := fun ty dc sc => by
  have h := run_copy_rowK (P := Tryz.prog) w.drew tLs tLs ty tLe g ((i + 1) * 3) (n - i) dc ⟨g, i * 3, none⟩ (n + 1 - i) sc cur tLe (xs.drop (i * 3)) 3 und_Ls info_Le hg (by rw [hdl, hmn1]) (fun j v hj => by
   rw [Addr.add_lit]
   rw [List.getElem?_drop] at hj
   exact hcur _ v hj) (by rw [hdl, hcs]; omega) (fun v hv => h1 v (List.mem_of_mem_drop hv))
  rw [hmn1, hdl] at h
  exact h
 obtain ⟨A1, hA1⟩ : ∃ A1 : Array Value, A1 = (cur.toList.take ((i + 1) * 3) ++ xs.drop (i * 3) ++ cur.toList.drop ((i + 1) * 3 + (n - i) * 3)).toArray := ⟨_, rfl⟩
 have hA1s : A1.size = c * 3 := by rw [hA1, List.size_toArray, List.length_append, List.length_append, hdl, List.length_take, List.length_drop, Array.length_toList, hcs]; omega
 rw [← hA1] at hcp1
 obtain ⟨W1, hW1⟩ : ∃ W1, W1 = w.drew.setRow g A1 := ⟨_, rfl⟩
 rw [← hW1] at hcp1
 have hW1g : W1.heap[g]? = some (.cells A1 tLe (0, 0)) := by rw [hW1]; exact setRow_heap w.drew g cur A1 tLe (0, 0) hg
 have hW1u : W1.heap[u]? = some (.cells ucur tLe (0, 0)) := by rw [hW1, setRow_other w.drew g u A1 hne]; exact hu
 have hmn2 : Nat.min 1 (n + 1 - i) = 1 := by simp only [Nat.min_def]; split <;> omega
 have hcp2 : ∀ ty dc, (Builtin.copy_ #[tLs, tLs] ty #[.slice (some ⟨g, i * 3, none⟩) (n + 1 - i) dc, .slice (some ⟨u, 0, none⟩) 1 uc]).run Tryz.prog W1 = .ok (goInt 1) (W1.setRow g (A1.toList.take (i * 3) ++ fL [x] ++ A1.toList.drop (i * 3 + 3)).toArray) := fun ty dc => by
  have h := run_copy_rowK (P := Tryz.prog) W1 tLs tLs ty tLe g (i * 3) (n + 1 - i) dc ⟨u, 0, none⟩ 1 uc A1 tLe (fL [x]) 3 und_Ls info_Le hW1g (by rw [hmn2]; rfl) (fun j v hj => by
   rw [Addr.add_lit, cell_of_row W1 u _ ucur tLe (0, 0) hW1u]
   rw [← hux, List.getElem?_take] at hj
   split at hj
   ·simpa using hj
   ·cases hj) (by rw [hA1s]; show i * 3 + 3 ≤ _; omega) (fL_one [x])
  rw [hmn2] at h
  exact h
 obtain ⟨A2, hA2⟩ : ∃ A2 : Array Value, A2 = (A1.toList.take (i * 3) ++ fL [x] ++ A1.toList.drop (i * 3 + 3)).toArray := ⟨_, rfl⟩
 rw [← hA2] at hcp2
 have HA2 : Hid (A2 = (A1.toList.take (i * 3) ++ fL [x] ++ A1.toList.drop (i * 3 + 3)).toArray) := hA2
 clear hA2
 have HW : Hid (W1 = w.drew.setRow g A1) := hW1
 have HA : Hid (A1 = (cur.toList.take ((i + 1) * 3) ++ xs.drop (i * 3) ++ cur.toList.drop ((i + 1) * 3 + (n - i) * 3)).toArray) := hA1
 clear hW1 hA1
 go_enter Tryz.func60, Tryz.ntmps60
 go_wp2_with (simp only [hov])
 go_region_law_o (refine stp_copy_run rfl _ _ tLs tLs rfl _ _ (by simp [Act.eval, Act.put]) (by simp [Act.eval, Act.put]) (hcp1 _ _ _) ?_)
 go_wp2_with (at_builtin; refine wpl_copy_run _ rfl _ _ tLs tLs rfl _ _ rfl rfl (hcp2 _ _) ?_)
 go_ret
 refine ⟨rfl, A2, setRow_heap W1 g A1 _ tLe (0, 0) hW1g, ?_, ?_, ?_⟩
 ·rw [HA2.out, List.size_toArray, List.length_append, List.length_append, List.length_take, List.length_drop, Array.length_toList, hA1s, fL_len]
  show min (i * 3) (c * 3) + 1 * 3 + _ = _
  omega
 ·have t1 : A1.toList.take (i * 3) = xs.take (i * 3) := by
   rw [HA.out]
   show (cur.toList.take ((i + 1) * 3) ++ xs.drop (i * 3) ++ cur.toList.drop ((i + 1) * 3 + (n - i) * 3)).take (i * 3) = _
   rw [List.append_assoc, List.take_append_of_le_length (by rw [List.length_take, Array.length_toList, hcs]; omega), List.take_take, ← hx, List.take_take]
   congr 1; omega
  have t2 : A1.toList.drop (i * 3 + 3) = xs.drop (i * 3) ++ cur.toList.drop ((i + 1) * 3 + (n - i) * 3) := by
   rw [HA.out]
   show (cur.toList.take ((i + 1) * 3) ++ xs.drop (i * 3) ++ cur.toList.drop ((i + 1) * 3 + (n - i) * 3)).drop (i * 3 + 3) = _
   rw [List.append_assoc]
   exact List.drop_left' (by rw [List.length_take, Array.length_toList, hcs]; omega)
  rw [HA2.out]
  show (A1.toList.take (i * 3) ++ fL [x] ++ A1.toList.drop (i * 3 + 3)).take ((n + 1) * 3) = _
  rw [t1, t2, ← List.append_assoc]
  exact List.take_left' (by rw [List.length_append, List.length_append, List.length_take, hxl, hdl, fL_len]; show min (i * 3) (n * 3) + 1 * 3 + _ = _; omega)
 ·refine ⟨by rw [HW.out]; rfl, by rw [HW.out]; rfl, by rw [HW.out]; rfl, by rw [HW.out]; simp, fun k hk hne => ?_⟩
  rw [setRow_other W1 g k _ (fun e => hne (by rw [e])), HW.out, setRow_other w.drew g k _ (fun e => hne (by rw [e]))]
  rfl
theorem cells_new {w : World} {u : Nat} {ucur : Array Value} {x : RL} (hu : w.heap[u]? = some (.cells ucur tLe (0, 0))) (hux : ucur.toList.take 3 = fL [x]) (j : Nat) (y : Value) (hj : (fL [x])[j]? = some y) : w.cell? ((⟨u, 0, none⟩ : Addr).add j) = some y := by
 rw [Addr.add_lit, cell_of_row w u _ ucur tLe (0, 0) hu]
 rw [← hux, List.getElem?_take] at hj
 split at hj
 ·simpa using hj
 ·cases hj
def Moved (w : World) (v : Value) (l : List RL) (e : Ending) (w' : World) : Prop := ∃ v', e = .returned v' ∧ LR w' v' l ∧ w.grownBy w' v.ownBlock ∧ (v'.ownBlock = v.ownBlock ∨ ∃ g, v'.ownBlock = some g ∧ w.heap.size ≤ g ∧ g < w'.heap.size)
set_option maxHeartbeats 4000000 in
theorem ins_end {v : Value} {l : List RL} {w : World} (u uc : Nat) (ucur : Array Value) (x : RL) (hl : l.length ≤ 100000) (hv : LR w v l) (hu : w.heap[u]? = some (.cells ucur tLe (0, 0))) (hux : ucur.toList.take 3 = fL [x]) :
  Calls Tryz.prog fIns #[v, .int .i64 (l.length : Nat), .slice (some ⟨u, 0, none⟩) 1 uc] w (Moved w v (l ++ [x])) := by
 obtain ⟨-, i, z, hi, hz, hs, hzs, -, hby⟩ := (tab_ok tabG tLs _ rfl).elem tLe 3 rfl
 obtain ⟨v', w', hr, h2, h3, h4⟩ := run_app (P := Tryz.prog) (w := w) tLs tLs tLe i z 3 i.bytes und_Ls hi hz hs rfl hzs (by decide) v l.length (fL l) hv (some ⟨u, 0, none⟩) 1 uc (fL [x]) rfl (by simp) (fun a ha j y hj => by cases ha; exact cells_new hu hux j y hj) (fL_one [x]) (by unfold maxLen; omega) (Nat.le_trans (Nat.mul_le_mul (show l.length + 1 ≤ 100001 by omega) hby) (by decide))
 have fin : Moved w v (l ++ [x]) (.returned v') w' := ⟨v', rfl, by unfold LR; rw [fL_app, List.length_append]; exact h2, h3, h4⟩
 generalize hK : Moved w v (l ++ [x]) = K at fin ⊢
 have HK : Hid (Moved w v (l ++ [x]) = K) := hK
 clear hK
 rcases hv.2 with ⟨rfl, hn0⟩ | ⟨g, cap, cur, rfl, -, hg, hnc, hcm, hcs, htake⟩
 ·rw [hn0]
  clear h2 h3 h4 hv
  go_enter Tryz.func60, Tryz.ntmps60
  go_wp2_with (at_builtin; refine Lib.wpList_append_run _ rfl _ _ _ _ rfl _ _ rfl rfl _ _ hr ?_)
  first | exact fin | (go_ret; exact fin)
 ·clear h2 h3 h4 hv
  go_enter Tryz.func60, Tryz.ntmps60
  go_wp2_with (at_builtin; refine Lib.wpList_append_run _ rfl _ _ _ _ rfl _ _ rfl rfl _ _ hr ?_)
  all_goals (first | exact fin | (go_ret; exact fin))
theorem zc_size {z : Value} (hzs : z.cells.size = 3) (n : Nat) : (Builtin.zeroCells z.cells n).size = n * 3 := by rw [size_zeroCells, hzs]
set_option maxHeartbeats 4000000 in
theorem ins_grow (g u n c i uc : Nat) (cur ucur : Array Value) (xs : List Value) (x : RL) (w : World) (hi : i < n) (hnc : n ≤ c) (hroom : c < n + 1) (hn : n ≤ 100000)
  (hg : w.heap[g]? = some (.cells cur tLe (0, 0))) (hu : w.heap[u]? = some (.cells ucur tLe (0, 0))) (hx : cur.toList.take (n * 3) = xs) (hxl : xs.length = n * 3) (hux : ucur.toList.take 3 = fL [x]) (h1 : ∀ v ∈ xs, v.oneCell' = true) :
  Calls Tryz.prog fIns #[.slice (some ⟨g, 0, none⟩) n c, .int .i64 i, .slice (some ⟨u, 0, none⟩) 1 uc] w fun e w' => ∃ G, e = .returned (.slice (some ⟨w.heap.size, 0, none⟩) (n + 1) G) ∧ n + 1 ≤ G ∧ G ≤ maxLen ∧
   ∃ r : Array Value, w'.heap[w.heap.size]? = some (.cells r tLe (0, 0)) ∧ r.size = G * 3 ∧ r.toList.take ((n + 1) * 3) = xs.take (i * 3) ++ fL [x] ++ xs.drop (i * 3) ∧ w.grownBy w' none ∧ w.heap.size < w'.heap.size := by
 obtain ⟨-, ti, z, hti, hz, hs, hzs, -, hby⟩ := (tab_ok tabG tLs _ rfl).elem tLe 3 rfl
 have hgl := (Array.getElem?_eq_some_iff.1 hg).1
 have hul := (Array.getElem?_eq_some_iff.1 hu).1
 have hcur : ∀ j v, xs[j]? = some v → w.cell? ⟨g, j, none⟩ = some v := fun j v hj => by
  rw [cell_of_row w g j cur tLe (0, 0) hg]
  rw [← hx, List.getElem?_take] at hj
  split at hj
  ·simpa using hj
  ·cases hj
 have hold : (Builtin.firstCells ti.size i (.slice (some ⟨g, 0, none⟩) i c)).run Tryz.prog w.drew = .ok (xs.take (i * 3)).toArray w.drew := by
  rw [hs]
  exact run_firstCells_some w.drew 3 i ⟨g, 0, none⟩ i c (xs.take (i * 3)) (by rw [List.length_take]; omega) (fun j v hj => by
   rw [Addr.add_lit, Nat.zero_add]
   rw [List.getElem?_take] at hj
   split at hj
   ·exact hcur j v hj
   ·cases hj)
 have hik : i + (n + 1 - i) = n + 1 := by omega
 have hb0 : (n + 1) * ti.bytes ≤ 100001 * 65536 := Nat.mul_le_mul (by omega) hby
 have hb5 : (n + 1 - i) * ti.bytes ≤ 100001 * 65536 := Nat.mul_le_mul (by omega) hby
 have hrz : ∀ ty, (Builtin.append_ #[tLs, 3] ty #[.slice (some ⟨g, 0, none⟩) i c, .int .i64 ((n : Int) + 1 - (i : Int))]).run Tryz.prog w =
   .ok (.slice (some ⟨w.heap.size, 0, none⟩) (n + 1) (grownCap w (n + 1) c tLe)) (w.drew.alloc (.cells ((xs.take (i * 3)).toArray ++ Builtin.zeroCells z.cells (n + 1 - i) ++ Builtin.zeroCells z.cells (grownCap w (n + 1) c tLe - (n + 1))) tLe)) := fun ty => by
  have h := Lib.run_append_grow_zeros (P := Tryz.prog) w tLs 3 ty tLe ti z .i64 .i64 und_Ls (by kernel_rfl) hti hz (some ⟨g, 0, none⟩) i c (xs.take (i * 3)) hold (n + 1 - i) (by omega) (by rw [hs]; decide) (by omega) (by omega) (by omega) (by rw [hik]; exact growslice_fits hroom (by omega))
  rw [hik] at h
  rw [show (n : Int) + 1 - (i : Int) = ((n + 1 - i : Nat) : Int) by omega]
  exact h
 have hGn : n + 1 ≤ grownCap w (n + 1) c tLe := grownCap_ge w _ _ _
 have hGm : grownCap w (n + 1) c tLe ≤ maxLen := grownCap_le_maxLen w (n + 1) c tLe (by unfold maxLen; omega)
 generalize grownCap w (n + 1) c tLe = G at hrz hGn hGm
 obtain ⟨R, hR⟩ : ∃ R : Array Value, R = (xs.take (i * 3)).toArray ++ Builtin.zeroCells z.cells (n + 1 - i) ++ Builtin.zeroCells z.cells (G - (n + 1)) := ⟨_, rfl⟩
 have hRs : R.size = G * 3 := by
  rw [hR, Array.size_append, Array.size_append, zc_size hzs, zc_size hzs, List.size_toArray, List.length_take, hxl]; omega
 have hRt : R.toList.take (i * 3) = xs.take (i * 3) := by
  rw [hR, Array.toList_append, Array.toList_append, List.append_assoc]
  exact List.take_left' (by rw [List.length_take, hxl]; omega)
 rw [← hR] at hrz
 obtain ⟨W0, hW0⟩ : ∃ W0, W0 = w.drew.alloc (.cells R tLe) := ⟨_, rfl⟩
 rw [← hW0] at hrz
 have h0N : W0.heap[w.heap.size]? = some (.cells R tLe (0, 0)) := by rw [hW0]; exact heap_alloc_new w.drew _
 have h0o : ∀ k, k < w.heap.size → W0.heap[k]? = w.heap[k]? := fun k hk => by rw [hW0]; exact (World.grownBy_alloc w.drew (.cells R tLe) none).block k hk (by simp)
 have h0u : W0.heap[u]? = some (.cells ucur tLe (0, 0)) := (h0o u hul).trans hu
 have h0g : W0.heap[g]? = some (.cells cur tLe (0, 0)) := (h0o g hgl).trans hg
 have hmn1 : Nat.min 1 (n + 1 - i) = 1 := by simp only [Nat.min_def]; split <;> omega
 have hcp1 : ∀ ty dc, (Builtin.copy_ #[tLs, tLs] ty #[.slice (some ⟨w.heap.size, i * 3, none⟩) (n + 1 - i) dc, .slice (some ⟨u, 0, none⟩) 1 uc]).run Tryz.prog W0 = .ok (goInt 1) (W0.setRow w.heap.size (R.toList.take (i * 3) ++ fL [x] ++ R.toList.drop (i * 3 + 3)).toArray) := fun ty dc => by
  have h := run_copy_rowK (P := Tryz.prog) W0 tLs tLs ty tLe w.heap.size (i * 3) (n + 1 - i) dc ⟨u, 0, none⟩ 1 uc R tLe (fL [x]) 3 und_Ls info_Le h0N (by rw [hmn1]; rfl) (cells_new h0u hux) (by rw [hRs]; show i * 3 + 3 ≤ _; omega) (fL_one [x])
  rw [hmn1] at h
  exact h
 obtain ⟨A1, hA1⟩ : ∃ A1 : Array Value, A1 = (R.toList.take (i * 3) ++ fL [x] ++ R.toList.drop (i * 3 + 3)).toArray := ⟨_, rfl⟩
 have hA1s : A1.size = G * 3 := by
  rw [hA1, List.size_toArray, List.length_append, List.length_append, List.length_take, List.length_drop, Array.length_toList, hRs, fL_len]
  show min (i * 3) (G * 3) + 1 * 3 + _ = _
  omega
 rw [← hA1] at hcp1
 obtain ⟨W1, hW1⟩ : ∃ W1, W1 = W0.setRow w.heap.size A1 := ⟨_, rfl⟩
 rw [← hW1] at hcp1
 have h1N : W1.heap[w.heap.size]? = some (.cells A1 tLe (0, 0)) := by rw [hW1]; exact setRow_heap W0 w.heap.size R A1 tLe (0, 0) h0N
 have h1o : ∀ k, k < w.heap.size → W1.heap[k]? = w.heap[k]? := fun k hk => by rw [hW1, setRow_other W0 w.heap.size k A1 (by omega)]; exact h0o k hk
 have h1g : W1.heap[g]? = some (.cells cur tLe (0, 0)) := (h1o g hgl).trans hg
 have hdl : (xs.drop (i * 3)).length = (n - i) * 3 := by rw [List.length_drop, hxl]; omega
 have hmn2 : Nat.min (n - i) (n - i) = n - i := by simp
 have hcp2 : ∀ ty dc sc, (Builtin.copy_ #[tLs, tLs] ty #[.slice (some ⟨w.heap.size, (i + 1) * 3, none⟩) (n - i) dc, .slice (some ⟨g, i * 3, none⟩) (n - i) sc]).run Tryz.prog W1.drew = .ok (goInt ((n - i : Nat) : Int)) (W1.drew.setRow w.heap.size (A1.toList.take ((i + 1) * 3) ++ xs.drop (i * 3) ++ A1.toList.drop ((i + 1) * 3 + (n - i) * 3)).toArray) := fun ty dc sc => by
  have h := run_copy_rowK (P := Tryz.prog) W1.drew tLs tLs ty tLe w.heap.size ((i + 1) * 3) (n - i) dc ⟨g, i * 3, none⟩ (n - i) sc A1 tLe (xs.drop (i * 3)) 3 und_Ls info_Le h1N (by rw [hdl, hmn2]) (fun j v hj => by
   rw [Addr.add_lit]
   rw [List.getElem?_drop] at hj
   have h2 := hcur _ v hj
   rw [cell_of_row w g _ cur tLe (0, 0) hg] at h2
   rw [cell_of_row W1.drew g _ cur tLe (0, 0) h1g]
   exact h2) (by rw [hdl, hA1s]; omega) (fun v hv => h1 v (List.mem_of_mem_drop hv))
  rw [hmn2, hdl] at h
  exact h
 obtain ⟨A2, hA2⟩ : ∃ A2 : Array Value, A2 = (A1.toList.take ((i + 1) * 3) ++ xs.drop (i * 3) ++ A1.toList.drop ((i + 1) * 3 + (n - i) * 3)).toArray := ⟨_, rfl⟩
 rw [← hA2] at hcp2
 have hA2s : A2.size = G * 3 := by rw [hA2, List.size_toArray, List.length_append, List.length_append, hdl, List.length_take, List.length_drop, Array.length_toList, hA1s]; omega
 have hfin : A2.toList.take ((n + 1) * 3) = xs.take (i * 3) ++ fL [x] ++ xs.drop (i * 3) := by
  have t1 : A1.toList.take ((i + 1) * 3) = xs.take (i * 3) ++ fL [x] := by
   rw [hA1]
   show (R.toList.take (i * 3) ++ fL [x] ++ R.toList.drop (i * 3 + 3)).take ((i + 1) * 3) = _
   rw [hRt]
   exact List.take_left' (by rw [List.length_append, List.length_take, hxl, fL_len]; show min (i * 3) (n * 3) + 1 * 3 = _; omega)
  rw [hA2]
  show (A1.toList.take ((i + 1) * 3) ++ xs.drop (i * 3) ++ A1.toList.drop ((i + 1) * 3 + (n - i) * 3)).take ((n + 1) * 3) = _
  rw [t1]
  exact List.take_left' (by rw [List.length_append, List.length_append, List.length_take, hxl, hdl, fL_len]; show min (i * 3) (n * 3) + 1 * 3 + _ = _; omega)
 have hgb : w.grownBy (W1.drew.setRow w.heap.size A2) none := ⟨by rw [hW1, hW0]; rfl, by rw [hW1, hW0]; rfl, by rw [hW1, hW0]; rfl, by rw [hW1, hW0]; simp, fun k hk _ => by rw [setRow_other W1.drew w.heap.size k A2 (by omega)]; exact h1o k hk⟩
 have hsz : w.heap.size < (W1.drew.setRow w.heap.size A2).heap.size := by rw [hW1, hW0]; simp
 have h2N := setRow_heap W1.drew w.heap.size A1 A2 tLe (0, 0) h1N
 obtain ⟨N, hN⟩ : ∃ N, N = w.heap.size := ⟨_, rfl⟩
 rw [← hN] at hcp1 hcp2 hgb hsz h2N ⊢
 rw [← hN] at hrz
 have hz2 : ¬ ((i : Int) = (n : Int)) := by omega
 have hz3 : (c : Int) < (n : Int) + 1 := by omega
 have hw1 : IntKind.i64.wrap ((i : Int) + 1) = (i : Int) + 1 := by rw [IntKind.wrap_i64]; omega
 have hw2 : IntKind.i64.wrap ((n : Int) + 1) = (n : Int) + 1 := by rw [IntKind.wrap_i64]; omega
 have hw3 : IntKind.i64.wrap ((n : Int) + 1 - (i : Int)) = (n : Int) + 1 - (i : Int) := by rw [IntKind.wrap_i64]; omega
 have hGi : ¬ (G = i) := by omega
 have hGim : ¬ (G = i + 1) := by omega
 have hci : ¬ (c = i) := by omega
 have mixed : Tryz.prog.follows .mixedOrders = true := by kernel_rfl
 have hb1 : (0 : Int) ≤ (i : Int) + 1 := by omega
 have hin : i ≤ n := by omega
 have hb3 : (i : Int) ≤ (n : Int) + 1 := by omega
 clear hA1 hA2 hW1 hW0 hR hN hold hRt hRs hA1s h0o h1o hcur hx hux h0N h0u h0g h1N h1g hdl hik
 go_enter Tryz.func60, Tryz.ntmps60
 go_wp2_with (first
  | (at_builtin; refine Lib.wpList_append_run _ rfl _ _ _ _ rfl _ _ rfl rfl _ _ (hrz _) ?_)
  | (at_builtin; refine wpl_copy_run _ rfl _ _ tLs tLs rfl _ _ rfl rfl (hcp1 _ _) ?_))
 go_region_law_o (refine stp_copy_run rfl _ _ tLs tLs rfl _ _ (by simp [Act.eval, Act.put]) (by simp [Act.eval, Act.put]) (hcp2 _ _ _) ?_)
 go_wp2
 go_ret
 exact ⟨G, rfl, hGn, hGm, A2, h2N, hA2s, hfin, hgb, hsz⟩
end Go.Proofs.YtalfffamppmooaaGreatDoor

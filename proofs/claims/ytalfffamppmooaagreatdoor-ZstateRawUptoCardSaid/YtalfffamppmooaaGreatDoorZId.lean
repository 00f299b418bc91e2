/- A part of the proof. -/
import Derived.Test.YtalfffamppmooaaGreatDoorZIc
namespace Go.Proofs.YtalfffamppmooaaGreatDoor
open Go.RowKit Go.Shelf
set_option maxRecDepth 100000
abbrev fDel : FuncId := 124
abbrev fClo : FuncId := 92
theorem stp_append_run {P : Program} {ops : Array Oper} {o : Oper} {a : Act} {w : World} {K : Act → World → Prop} {Q : Exit → Act → World → Prop} {E : Prop}
  (hg : o.guard = none) (d x : Operand) (dT sT : TypeId) (hop : o.op = Op.call { callee := Callee.builtin Builtin.append, args := #[d, x], argTypes := #[dT, sT] })
  (v u : Value) (hd : a.eval d = v) (hx : a.eval x = u) {v' : Value} {w' : World} (hr : (Builtin.append_ #[dT, sT] o.type #[v, u]).run P w = .ok v' w') (hK : K (a.put o.dst v') w') :
  if Region.wanted o (yielded ops a.tmps) = true then Oper.wp P o a w K Q else E := by
 have hw : Region.wanted o (yielded ops a.tmps) = true := by simp [Region.wanted, hg]
 rw [if_pos hw]
 unfold Oper.wp execOp
 simp only [hop, resolve, invoke, builtin, Sem.run_bind, Sem.run_pure, Result.andThen_ok, List.map_toArray, List.map_cons, List.map_nil, hd, hx, hr]
 exact hK
theorem wpl_clear_run {P : Program} (w : World) {ops : Array Oper} {rest : List Oper} {o : Oper} {a : Act} {Q : Exit → Act → World → Prop} (hgd : o.guard = none) (d : Operand) (t : TypeId)
  (ho : o.op = .call { callee := .builtin .clear, args := #[d], argTypes := #[t] }) (v : Value) (hd : a.eval d = v) {v' : Value} {w' : World}
  (hr : (Builtin.clear_ #[t] o.type #[v]).run P w = .ok v' w') (h : wpList P ops Q rest (a.put o.dst v') w') : wpList P ops Q (o :: rest) a w :=
 wpList_plain hgd fun _ hK => by
  unfold Oper.wp execOp
  simp only [ho, resolve, invoke, builtin, Sem.run_bind, Sem.run_pure, Result.andThen_ok, List.map_toArray, List.map_cons, List.map_nil, hd, hr]
  exact hK _ _ h
theorem run_clear_one (w : World) (ty : TypeId) (g o c : Nat) (cur : Array Value) (hg : w.heap[g]? = some (.cells cur tLe (0, 0))) (hfit : o + 3 ≤ cur.size) :
  (Builtin.clear_ #[tLs] ty #[.slice (some ⟨g, o, none⟩) 1 c]).run Tryz.prog w = .ok (.tuple #[]) (w.setRow g (cur.toList.take o ++ fL [rl0] ++ cur.toList.drop (o + 3)).toArray) := by
 have hst := run_storeCells_at Tryz.prog g o tLe (fL [rl0]) 0 cur w hg (by simpa [fL_len] using hfit) (fL_one [rl0])
 have hz : (Builtin.zeroCells #[.int .i64 0, .int .i64 0, .int .i64 0] 1).toList = fL [rl0] := by
  simp [Builtin.zeroCells, Array.toList_range, List.range_succ]
  rfl
 have hz2 : (Value.agg #[.int .i64 0, .int .i64 0, .int .i64 0]).cells = #[.int .i64 0, .int .i64 0, .int .i64 0] := rfl
 simp only [Nat.add_zero] at hst
 have e3 : (fL [rl0]).length = 3 := rfl
 rw [e3] at hst
 simp [Builtin.clear_, run_underlying und_Ls, hz, hz2, hst]
set_option maxHeartbeats 4000000 in
theorem del_raw {v : Value} {l : List RL} {w : World} (i : Nat) (hi : i < l.length) (hl : l.length ≤ 100000) (hv : LR w v l) :
  Calls Tryz.prog fDel #[v, .int .i64 i, .int .i64 ((i : Int) + 1)] w (Moved w v (l.take i ++ l.drop (i + 1))) := by
 rcases hv.2 with ⟨rfl, hn0⟩ | ⟨g, c, cur, rfl, -, hg, hnc, hcm, hcs, hx⟩
 ·omega
 obtain ⟨xs, hxs⟩ : ∃ xs, xs = fL l := ⟨_, rfl⟩
 have hxl : xs.length = l.length * 3 := by rw [hxs, fL_len]
 rw [← hxs] at hx
 have h1 : ∀ v ∈ xs, v.oneCell' = true := by rw [hxs]; exact fL_one l
 obtain ⟨n, hn⟩ : ∃ n, n = l.length := ⟨_, rfl⟩
 obtain ⟨m, hm⟩ : ∃ m, m = n - (i + 1) := ⟨_, rfl⟩
 have hcur : ∀ j v, xs[j]? = some v → w.cell? ⟨g, j, none⟩ = some v := fun j v hj => by
  rw [cell_of_row w g j cur tLe (0, 0) hg]
  rw [← hx, List.getElem?_take] at hj
  split at hj
  ·simpa using hj
  ·cases hj
 have hdl : (xs.drop ((i + 1) * 3)).length = m * 3 := by rw [List.length_drop, hxl]; omega
 have hA : ∃ A : Addr, (if c = i + 1 then (some ⟨g, 0, none⟩ : Option Addr) else some ⟨g, (i + 1) * 3, none⟩) = some A ∧ ∀ (j : Nat) y, (xs.drop ((i + 1) * 3))[j]? = some y → w.drew.cell? (A.add j) = some y := by
  by_cases h : c = i + 1
  ·refine ⟨_, if_pos h, fun j y hj => ?_⟩
   have : m = 0 := by omega
   have h0 : xs.drop ((i + 1) * 3) = [] := List.eq_nil_of_length_eq_zero (by rw [hdl, this])
   rw [h0] at hj; simp at hj
  ·refine ⟨_, if_neg h, fun j y hj => ?_⟩
   rw [List.getElem?_drop] at hj
   rw [Addr.add_lit]
   exact hcur _ y hj
 obtain ⟨A, hA, hsrc⟩ := hA
 obtain ⟨-, ti, z, hti, hz, hs, hzs, -, hby⟩ := (tab_ok tabG tLs _ rfl).elem tLe 3 rfl
 have hap : ∀ ty dc, (Builtin.append_ #[tLs, tLs] ty #[.slice (some ⟨g, 0, none⟩) i c, .slice (some A) (n - (i + 1)) dc]).run Tryz.prog w.drew = .ok (.slice (some ⟨g, 0, none⟩) (i + (n - (i + 1))) c) (w.drew.setRow g (cur.toList.take (i * 3) ++ xs.drop ((i + 1) * 3) ++ cur.toList.drop (i * 3 + m * 3)).toArray) := fun ty dc => by
  have h := run_append_room (P := Tryz.prog) w.drew tLs ty tLe ti und_Ls hti g i c cur hg A m dc (xs.drop ((i + 1) * 3)) (by rw [hdl, hs]) hsrc (fun v hv => h1 v (List.mem_of_mem_drop hv)) (by omega) (by rw [hs, hdl, hcs]; omega)
  rw [hs, hdl] at h
  rw [← hm]
  exact h
 obtain ⟨A1, hA1⟩ : ∃ A1 : Array Value, A1 = (cur.toList.take (i * 3) ++ xs.drop ((i + 1) * 3) ++ cur.toList.drop (i * 3 + m * 3)).toArray := ⟨_, rfl⟩
 rw [← hA1] at hap
 have hA1s : A1.size = c * 3 := by rw [hA1, List.size_toArray, List.length_append, List.length_append, hdl, List.length_take, List.length_drop, Array.length_toList, hcs]; omega
 obtain ⟨W1, hW1⟩ : ∃ W1, W1 = w.drew.setRow g A1 := ⟨_, rfl⟩
 rw [← hW1] at hap
 have h1g : W1.heap[g]? = some (.cells A1 tLe (0, 0)) := by rw [hW1]; exact setRow_heap w.drew g cur A1 tLe (0, 0) hg
 have hcl : ∀ ty dc, (Builtin.clear_ #[tLs] ty #[.slice (some ⟨g, (i + (n - (i + 1))) * 3, none⟩) (n - (i + (n - (i + 1)))) dc]).run Tryz.prog W1 = .ok (.tuple #[]) (W1.setRow g (A1.toList.take ((i + (n - (i + 1))) * 3) ++ fL [rl0] ++ A1.toList.drop ((i + (n - (i + 1))) * 3 + 3)).toArray) := fun ty dc => by
  have h := run_clear_one W1 ty g ((i + (n - (i + 1))) * 3) dc A1 h1g (by rw [hA1s]; omega)
  rw [show n - (i + (n - (i + 1))) = 1 by omega]
  exact h
 obtain ⟨A2, hA2⟩ : ∃ A2 : Array Value, A2 = (A1.toList.take ((i + (n - (i + 1))) * 3) ++ fL [rl0] ++ A1.toList.drop ((i + (n - (i + 1))) * 3 + 3)).toArray := ⟨_, rfl⟩
 rw [← hA2] at hcl
 have fin : Moved w (.slice (some ⟨g, 0, none⟩) n c) (l.take i ++ l.drop (i + 1)) (.returned (.slice (some ⟨g, 0, none⟩) (i + (n - (i + 1))) c)) (W1.setRow g A2) := by
  have hlen : (l.take i ++ l.drop (i + 1)).length = i + (n - (i + 1)) := by rw [List.length_append, List.length_take, List.length_drop]; omega
  refine ⟨_, rfl, ⟨fL_len _, .inr ⟨g, c, A2, by rw [hlen], Nat.zero_le _, setRow_heap W1 g A1 A2 tLe (0, 0) h1g, by omega, hcm, ?_, ?_⟩⟩, ⟨by rw [hW1]; rfl, by rw [hW1]; rfl, by rw [hW1]; rfl, by rw [hW1]; simp, fun k hk hne => ?_⟩, .inl rfl⟩
  ·rw [hA2, List.size_toArray, List.length_append, List.length_append, List.length_take, List.length_drop, Array.length_toList, hA1s, fL_len]
   show min _ (c * 3) + 1 * 3 + _ = _
   omega
  ·have t1 : A1.toList.take ((i + (n - (i + 1))) * 3) = xs.take (i * 3) ++ xs.drop ((i + 1) * 3) := by
    rw [hA1]
    show (cur.toList.take (i * 3) ++ xs.drop ((i + 1) * 3) ++ cur.toList.drop (i * 3 + m * 3)).take _ = _
    have t0 : cur.toList.take (i * 3) = xs.take (i * 3) := by rw [← hx, List.take_take]; congr 1; omega
    rw [t0]
    exact List.take_left' (by rw [List.length_append, List.length_take, hxl, hdl]; omega)
   rw [hlen, hA2]
   show (A1.toList.take ((i + (n - (i + 1))) * 3) ++ fL [rl0] ++ A1.toList.drop ((i + (n - (i + 1))) * 3 + 3)).take _ = _
   rw [t1, fL_app, ← fL_take, ← fL_drop, ← hxs, List.append_assoc]
   exact List.take_left' (by rw [List.length_append, List.length_take, hxl, hdl]; omega)
  ·rw [setRow_other W1 g k _ (fun e => hne (by rw [e]; rfl)), hW1, setRow_other w.drew g k _ (fun e => hne (by rw [e]; rfl))]
   rfl
 rw [← hn]
 generalize hK : Moved w (.slice (some ⟨g, 0, none⟩) n c) (l.take i ++ l.drop (i + 1)) = K at fin ⊢
 have HK : Hid (Moved w (.slice (some ⟨g, 0, none⟩) n c) (l.take i ++ l.drop (i + 1)) = K) := hK
 have HN : Hid (n = l.length) := hn
 have hz2 : ¬ ((i : Int) = (i : Int) + 1) := by omega
 have hw1 : IntKind.i64.wrap ((i : Int) + 1) = (i : Int) + 1 := by rw [IntKind.wrap_i64]; omega
 have mixed : Tryz.prog.follows .mixedOrders = true := by kernel_rfl
 have hb1 : (0 : Int) ≤ (i : Int) + 1 := by omega
 have hb2 : (i : Int) + 1 ≤ (n : Int) := by omega
 have hb3 : (i : Int) ≤ (i : Int) + 1 := by omega
 have hb4 : i + 1 ≤ n := by omega
 have hb5 : i ≤ n := by omega
 have hb6 : i ≤ c := by omega
 have hb7 : i + 1 ≤ c := by omega
 have hb8 : n ≤ c := by omega
 have hb9 : i + (n - (i + 1)) ≤ n := by omega
 have hb10 : ¬ (c = i + (n - (i + 1))) := by omega
 clear hn hK hA2 hA1 hW1 hx hcs hxl hxs hv hl hi hm h1 hcur hsrc hdl hA1s h1g hg hti hz hs hzs hby
 go_enter Tryz.func124, Tryz.ntmps124
 go_wp2_with fail
 go_region_law_o (refine stp_append_run rfl (.tmp 22) (.tmp 25) tLs tLs rfl (.slice (some ⟨g, 0, none⟩) i c) (.slice (some A) (n - (i + 1)) (c - (i + 1))) (by simp [Act.eval, Act.put]) (by simp [Act.eval, Act.put]) (hap _ _) ?_)
 go_wp2_with (at_builtin; refine wpl_clear_run _ rfl _ tLs rfl _ rfl (hcl _ _) ?_)
 first | exact fin | (go_ret; exact fin)
def Fresh (w : World) (l : List RL) (e : Ending) (w' : World) : Prop := ∃ v', e = .returned v' ∧ LR w' v' l ∧ Below w.heap.size w w' ∧ ∀ b, v'.ownBlock = some b → w.heap.size ≤ b ∧ b < w'.heap.size
theorem eql_nil (w : World) (a : Option Addr) (n c n' c' : Nat) : (binOp .eql tLs (.slice a n c) (.slice none n' c')).run Tryz.prog w = .ok (.bool a.isNone) w := Lib.run_eql_slice_nil w _ _ a n c n' c' und_Ls
set_option maxHeartbeats 4000000 in
theorem clo_raw {v : Value} {l : List RL} {w : World} (hl : l.length ≤ 100000) (hv : LR w v l) : Calls Tryz.prog fClo #[v] w (Fresh w l) := by
 rcases hv.2 with ⟨rfl, hn0⟩ | ⟨g, c, cur, rfl, -, hg, hnc, hcm, hcs, hx⟩
 ·have fin : Fresh w l (.returned (.slice none 0 0)) w := ⟨_, rfl, hv, .refl _ _, fun b h => by cases h⟩
  generalize Fresh w l = K at fin ⊢
  clear hv
  have q22 := eql_nil
  go_enter Tryz.func92, Tryz.ntmps92
  go_wp2_with fail
  first | exact fin | (go_ret; exact fin)
 ·have hgl := (Array.getElem?_eq_some_iff.1 hg).1
  obtain ⟨-, i, z, hi, hz, hs, hzs, -, hby⟩ := (tab_ok tabG tLs _ rfl).elem tLe 3 rfl
  obtain ⟨wa, hwa⟩ : ∃ wa, wa = w.alloc (.cells #[] tLe) := ⟨_, rfl⟩
  have hmade : wa.ownsRow 0 tLe 3 (.slice (some ⟨w.heap.size, 0, none⟩) 0 0) 0 [] := by rw [hwa]; exact World.ownsRow_made w #[] 0 (Nat.zero_le _) (Nat.zero_le _) rfl
  have hag : wa.heap[g]? = some (.cells cur tLe (0, 0)) := by rw [hwa]; exact ((World.grownBy_alloc w (.cells #[] tLe) none).block g hgl (by simp)).trans hg
  obtain ⟨v', w', hr, h2, h3, h4⟩ := run_app (P := Tryz.prog) (w := wa) tLs tLs tLe i z 3 i.bytes und_Ls hi hz hs rfl hzs (by decide) (.slice (some ⟨w.heap.size, 0, none⟩) 0 0) 0 [] hmade (some ⟨g, 0, none⟩) l.length c (fL l) (fL_len l) (by simp) (fun a ha j y hj => by
   cases ha
   rw [Addr.add_lit, cell_of_row wa g _ cur tLe (0, 0) hag]
   rw [← hx, List.getElem?_take] at hj
   split at hj
   ·simpa using hj
   ·cases hj) (fL_one l) (by unfold maxLen; omega) (Nat.le_trans (Nat.mul_le_mul (show 0 + l.length ≤ 100001 by omega) hby) (by decide))
  have hsz : wa.heap.size = w.heap.size + 1 := by rw [hwa]; simp
  have fin : Fresh w l (.returned v') w' := by
   refine ⟨v', rfl, ?_, ⟨h3.os.trans (by rw [hwa]; rfl), h3.tape.trans (by rw [hwa]; rfl), h3.output.trans (by rw [hwa]; rfl), by have := h3.size; omega, fun b hb => ?_⟩, fun b hb => ?_⟩
   ·rw [Nat.zero_add, List.nil_append] at h2; exact h2
   ·rw [h3.block b (by omega) (fun e => by have e : b = w.heap.size := Option.some.inj e; omega), hwa]
    exact (World.grownBy_alloc w (.cells #[] tLe) none).block b hb (by simp)
   ·rcases h4 with h4 | ⟨k, h4, h5, h6⟩
    ·rw [h4] at hb; have hb : w.heap.size = b := Option.some.inj hb; have := h3.size; omega
    ·rw [h4] at hb; have hb : k = b := Option.some.inj hb; omega
  generalize Fresh w l = K at fin ⊢
  have HWA : Hid (wa = w.alloc (.cells #[] tLe)) := hwa
  have q22 := eql_nil
  clear hv h2 h3 h4 hmade hag hx hcs hcm hnc hg hgl hsz hwa
  go_enter Tryz.func92, Tryz.ntmps92
  go_wp2_with (first
   | (at_builtin; rw [← HWA.out]; refine Lib.wpList_append_run _ rfl _ _ _ _ rfl _ _ rfl rfl _ _ hr ?_))
  first | exact fin | (go_ret; exact fin)
end Go.Proofs.YtalfffamppmooaaGreatDoor

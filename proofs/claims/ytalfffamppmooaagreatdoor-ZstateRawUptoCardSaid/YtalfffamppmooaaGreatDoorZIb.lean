/- A part of the proof. -/
import Derived.Test.YtalfffamppmooaaGreatDoorZIa
import Derived.Test.YtalfffamppmooaaGreatDoorSM1
namespace Go.Proofs.YtalfffamppmooaaGreatDoor
open Go.RowKit
set_option maxRecDepth 100000
abbrev tLs : Nat := 102
abbrev tLe : Nat := 95
def cL (x : RL) : List Value := [.int .i64 x.id, .int .i64 x.span, .int .i64 x.last]
def fL (l : List RL) : List Value := (l.map cL).flatten
theorem fL_cons (x : RL) (l : List RL) : fL (x :: l) = .int .i64 x.id :: .int .i64 x.span :: .int .i64 x.last :: fL l := rfl
theorem fL_app (l m : List RL) : fL (l ++ m) = fL l ++ fL m := by unfold fL; rw [List.map_append, List.flatten_append]
theorem fL_len : ∀ l : List RL, (fL l).length = l.length * 3
 | [] => rfl
 | x :: l => by rw [fL_cons, List.length_cons, List.length_cons, List.length_cons, List.length_cons, fL_len l]; omega
theorem fL_take : ∀ (l : List RL) (i : Nat), (fL l).take (i * 3) = fL (l.take i)
 | [], i => by simp [fL]
 | x :: l, 0 => by simp [fL]
 | x :: l, i + 1 => by
  rw [show (i + 1) * 3 = i * 3 + 1 + 1 + 1 by omega, fL_cons, List.take_succ_cons, List.take_succ_cons, List.take_succ_cons, fL_take l i, List.take_succ_cons, fL_cons]
theorem fL_drop : ∀ (l : List RL) (i : Nat), (fL l).drop (i * 3) = fL (l.drop i)
 | [], i => by simp [fL]
 | x :: l, 0 => by simp
 | x :: l, i + 1 => by
  rw [show (i + 1) * 3 = i * 3 + 1 + 1 + 1 by omega, fL_cons, List.drop_succ_cons, List.drop_succ_cons, List.drop_succ_cons, fL_drop l i, List.drop_succ_cons]
theorem fL_one : ∀ (l : List RL), ∀ v ∈ fL l, v.oneCell' = true
 | [], v, h => by simp [fL] at h
 | x :: l, v, h => by
  rw [fL_cons] at h
  rcases List.mem_cons.1 h with rfl | h
  ·rfl
  rcases List.mem_cons.1 h with rfl | h
  ·rfl
  rcases List.mem_cons.1 h with rfl | h
  ·rfl
  exact fL_one l v h
def LR (w : World) (v : Value) (l : List RL) : Prop := w.ownsRow 0 tLe 3 v l.length (fL l)
theorem enL_cells {I : Imm} {x : RL} {u : List Value} (h : PW (VRep I) (enL x) u) : u = cL x := by
 obtain ⟨a, u, rfl, ha, h⟩ := h.uncons
 obtain ⟨b, u, rfl, hb, h⟩ := h.uncons
 obtain ⟨c, u, rfl, hc, h⟩ := h.uncons
 obtain rfl := h.of_nil
 rw [vrep_v ha, vrep_v hb, vrep_v hc]; rfl
theorem cells_enL {I : Imm} (x : RL) : PW (VRep I) (enL x) (cL x) := .cons (.v _) (.cons (.v _) (.cons (.v _) .nil))
theorem slc_rows {I : Imm} : ∀ {l : List RL} {rs : List (List Value)}, rs.length = (l.map enL).length → (∀ (i : Nat) r u, (l.map enL)[i]? = some r → rs[i]? = some u → PW (VRep I) r u) → rs = l.map cL
 | [], rs, h, _ => List.eq_nil_of_length_eq_zero (by simpa using h)
 | x :: l, [], h, _ => by simp at h
 | x :: l, u :: rs, h, hp => by
  rw [List.map_cons, enL_cells (hp 0 (enL x) u rfl rfl), slc_rows (l := l) (rs := rs) (by simpa using h) fun i r u hr hu => hp (i + 1) r u (by simpa using hr) (by simpa using hu)]
theorem lr_of {I : Imm} {V : Va} {k : Nat} {w : World} {l : List RL} (h : RRep I V k w (.slc (l.map enL) tLe 3)) : (∀ b, V.f k b ↔ (V.s k).ownBlock = some b) ∧ LR w (V.s k) l := by
 obtain ⟨h1, rs, h2, h3, h4, -⟩ := h
 have e := slc_rows (I := I) (l := l) (rs := rs) h3 h4
 subst e
 refine ⟨h1, ?_⟩
 rw [List.length_map] at h2
 exact h2
theorem of_lr {I : Imm} {V : Va} {k : Nat} {w : World} {l : List RL} (h1 : ∀ b, V.f k b ↔ (V.s k).ownBlock = some b) (h : LR w (V.s k) l) : RRep I V k w (.slc (l.map enL) tLe 3) := by
 refine ⟨h1, l.map cL, by rw [List.length_map]; exact h, by simp, fun i r u hr hu => ?_, fun u hu => ?_, fun u hu x hx => ?_, by decide⟩
 ·rw [List.getElem?_map] at hr hu
  obtain ⟨x, h2, rfl⟩ := Option.map_eq_some_iff.1 hr
  rw [h2] at hu; cases hu
  exact cells_enL x
 ·obtain ⟨x, -, rfl⟩ := List.mem_map.1 hu; rfl
 ·refine fL_one l x (List.mem_flatten.2 ⟨u, hu, hx⟩)
theorem und_Ls : Tryz.prog.underlying tLs = some (.slice tLe) := by kernel_rfl
theorem info_Le : (Tryz.prog.info? tLe).map (·.size) = some 3 := by kernel_rfl
end Go.Proofs.YtalfffamppmooaaGreatDoor

/- A part of the proof. -/
import Derived.Test.YtalfffamppmooaaGreatDoorZZSj
namespace Go.Proofs.YtalfffamppmooaaGreatDoor
open Go.RowKit
set_option maxRecDepth 100000
theorem find_ps {s : RSt} (h : WS s) (id : Int) : (findS s id).r.ps.length ≤ 1000 := by
 unfold findS
 cases hf : findA s.la id with
 | none => exact Nat.zero_le _
 | some y => exact h.la.ps y (findA_se hf).1
def tA11 : RT := ⟨1, 0, 0, 10, 0, []⟩
def tB11 : RT := ⟨4, 1, 1, 0, 0, [⟨1, aS, noS, 0, false, false⟩]⟩
def ap1 : RSA := applyS newSt 1 tA11
def ap2 : RSA := applyS ap1.s 2 tB11
theorem ap1_e : ap1.r.se = 1 := by decide +kernel
theorem ap2_e : ap2.r.code = 0 ∧ ap2.r.ps.length = 1 ∧ ap2.ev.length = 2 ∧ ap2.s.zx = 2 := by decide +kernel
set_option maxHeartbeats 1000000 in
theorem alive11_v : FnV Tryz.prog 12 [] fun g => g = .v (.bool true) := by
 refine fnG Tryz.func12 (by kernel_rfl) rfl (Nat.le_of_ble_eq_true (by kernel_rfl)) (by kernel_rfl) ?_
 have w1 : WS ap1.s := ws_apply ws_new 1 tA11
 refine (newS_o).cal fun q rs hq => ?_
 obtain ⟨rfl, m, L, hm, rfl⟩ := hq
 refine (apply_o ws_new hm 1 tA11 (Nat.zero_le _) (fun c hc => by cases hc)).cal fun q rs hq => ?_
 obtain ⟨rfl, m1, L1, q1, rfl⟩ := hq
 refine (apply_o (s := ap1.s) w1 q1 2 tB11 (by decide) (by intro c hc; rw [List.mem_singleton.1 hc]; decide)).cal fun q rs hq => ?_
 obtain ⟨rfl, m2, L2, q2, rfl⟩ := hq
 refine EvIf.beq (fun _ => ?_) fun hh => absurd ap1_e hh
 refine EvIf.beq (fun _ => ?_) fun hh => absurd ap2_e.1 hh
 refine EvIf.beq (fun _ => ?_) fun hh => absurd (by rw [List.length_map]; exact congrArg Nat.cast ap2_e.2.1) hh
 refine EvIf.beq (fun _ => ?_) fun hh => absurd (by rw [List.length_map]; exact congrArg Nat.cast ap2_e.2.2.1) hh
 refine (zxid_o ap2.s.zx m2 ap2.s.ls L2).cal fun q rs hq => ?_
 obtain ⟨rfl, rfl⟩ := hq
 exact bool_eq (b := true) (by rw [ap2_e.2.2.2]; simp)
end Go.Proofs.YtalfffamppmooaaGreatDoor

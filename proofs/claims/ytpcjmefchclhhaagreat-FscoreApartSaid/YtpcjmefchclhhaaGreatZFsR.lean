/- A part of the proof. -/
import Derived.Test.YtpcjmefchclhhaaGreatZFsH
import Derived.Deep.LoopGhost
namespace Go.Proofs.YtpcjmefchclhhaaGreat
open Go.RowKit Go.MapKept
inductive Under (r : RFs) (top : Int) : Int → Prop
 | refl : Under r top top
 | step {id : Int} : id ≠ 1 → Under r top (byIdP r.ins id).parent → Under r top id
open Classical in
noncomputable def belowB (r : RFs) (id top : Int) : Bool := decide (Under r top id)
theorem below_eq (r : RFs) (top : Int) : belowB r top top = true := by unfold belowB; exact @decide_eq_true _ (Classical.propDecidable _) Under.refl
theorem below_step {r : RFs} {id top : Int} (h : id ≠ top) (h1 : id ≠ 1) : belowB r id top = belowB r (byIdP r.ins id).parent top := by
 unfold belowB
 rw [decide_eq_decide]
 constructor
 ·intro h2
  cases h2 with
  | refl => exact absurd rfl h
  | step _ h3 => exact h3
 ·exact fun h2 => Under.step h1 h2
theorem below_root {r : RFs} {top : Int} (h : 1 ≠ top) : belowB r 1 top = false := by
 unfold belowB
 rw [decide_eq_false_iff_not]
 intro h2
 cases h2 with
 | refl => exact h rfl
 | step h3 _ => exact h3 rfl
set_option maxRecDepth 100000 in
set_option maxHeartbeats 2000000 in
theorem below_any {w : World} {f mi mg K : Nat} {r : RFs} {N : List Nd} (h : FsN w f mi mg r N) (hW : Wf r K) {x : RIn} (hx : x ∈ r.ins) (hk : x.kind = 2) (top : Int) :
  Calls Tryz.prog 45 #[.pointer (some ⟨f, 0, none⟩), .int .i64 x.id, .int .i64 top] w fun e w' => e = .returned (.bool (belowB r x.id top)) ∧ w = w' := by
 obtain ⟨ρ, hρ⟩ := hW.tree
 obtain ⟨_, c1, _⟩ := h.cells
 have HLk := Lib.hid (show ∀ y ∈ r.ins, y.kind = 2 → ∃ n : Nd, (Instr.lookup 63 (.map (some mi)) (.int .i64 y.id) false).run Tryz.prog w = .ok (.pointer (some ⟨n.blk, 0, none⟩)) w ∧
   Calls Tryz.prog 60 #[.pointer (some ⟨n.blk, 0, none⟩)] w (fun e w' => e = .returned (.tuple #[.pointer (some ⟨n.b, 0, none⟩), .int .i64 0]) ∧ w = w') ∧
   w.cell? ⟨n.b, 1, none⟩ = some (.int .i64 y.parent) from fun y hy hk => by
  obtain ⟨n, hn, hr⟩ := h.at_ hW hy
  have hlk := (h.look y.id).2
  have hg := h.get hn
  rw [hr.id] at hg
  rw [hg] at hlk
  have hd := dir_any hr
  rw [if_pos hk] at hd
  exact ⟨n, hlk, hd, by rw [cell_at (hr.dir hk).1]; rfl⟩)
 have HPar := Lib.hid (show ∀ y ∈ r.ins, y.kind = 2 → byIdP r.ins y.id = y ∧ (y.id ≠ 1 → ρ y.parent < ρ y.id) ∧ ∃ p ∈ r.ins, p.id = y.parent ∧ p.kind = 2 from fun y hy hk => ⟨hW.byId hy, hρ y hy hk, hW.par y hy hk⟩)
 have HX := Lib.hid hx
 have HK := Lib.hid hk
 have H0 := Lib.hid (show belowB r x.id top = belowB r x.id top from rfl)
 obtain ⟨b, hb⟩ : ∃ b, belowB r x.id top = b := ⟨_, rfl⟩
 rw [hb]
 have HBx := Lib.hid hb
 clear h hW hρ hx hk H0 hb
 go_enter Tryz.func45, Tryz.ntmps45
 go_wp2
 go_loopg [1] (ρ x.id) (fun gg v wr => ∃ y ∈ r.ins, y.kind = 2 ∧ v = .int .i64 y.id ∧ belowB r y.id top = b ∧ ρ y.id ≤ gg ∧ w = wr)
 case atStart => exact ⟨x, HX.out, HK.out, rfl, HBx.out, Nat.le_refl _, rfl⟩
 case round =>
  obtain ⟨y, hy, hk, rfl, hb, hg, rfl⟩ := hrel
  obtain ⟨hby, hlt, p, hp, hpi, hpk⟩ := HPar.out y hy hk
  obtain ⟨n, l1, l2, l3⟩ := HLk.out y hy hk
  have HD := Lib.hid l2
  clear l2
  have HP := Lib.hid (And.intro hp (And.intro hpi hpk))
  have HLt := Lib.hid hlt
  have HB := Lib.hid hb
  have HG := Lib.hid hg
  have HBy := Lib.hid hby
  clear hp hpi hpk hlt hb hg hby hy hk
  by_cases q1 : y.id = top
  ·have e1 : belowB r y.id top = true := by rw [q1]; exact below_eq _ _
   have HE := Lib.hid e1
   clear e1
   go_wp2
   go_ret
   refine ⟨ret_bool ?_, rfl⟩
   rw [← HB.out, HE.out]
  ·by_cases q2 : y.id = 1
   ·have e1 : belowB r y.id top = false := by rw [q2]; exact below_root (fun e => q1 (q2.trans e))
    have HE := Lib.hid e1
    clear e1
    go_wp2
    go_ret
    refine ⟨ret_bool ?_, rfl⟩
    rw [← HB.out, HE.out]
    rw [beq_eq_false_iff_ne]
    assumption
   ·have e1 : belowB r y.id top = belowB r y.parent top := by rw [below_step q1 q2, HBy.out]
    have HE := Lib.hid e1
    clear e1
    have b1 : (y.id != top) = true := by rw [bne_iff_ne]; exact q1
    have b2 : (y.id != 1) = true := by rw [bne_iff_ne]; exact q2
    obtain ⟨gg, rfl⟩ : ∃ gg, gk = gg + 1 := ⟨gk - 1, by have := HLt.out q2; have := HG.out; omega⟩
    go_wp2_with (go_at_call 60; (with_reducible refine HD.out.mono ?_); rintro e w3 ⟨rfl, rfl⟩)
    go_roundg gg
    case rel => exact ⟨p, HP.out.1, HP.out.2.2, by rw [HP.out.2.1], by rw [HP.out.2.1, ← HE.out, HB.out], by rw [HP.out.2.1]; have := HLt.out q2; have := HG.out; omega, rfl⟩
    case measure => omega
end Go.Proofs.YtpcjmefchclhhaaGreat

/- A part of the proof. -/
import Derived.Test.YtpcjmefchclhhaaGreatQM1
import Derived.Test.YtpcjmefchclhhaaGreatZFsQ
import Derived.Test.YtpcjmefchclhhaaGreatZFsM
namespace Go.Proofs.YtpcjmefchclhhaaGreat
open Go.RowKit Go.MapKept
set_option maxHeartbeats 1000000 in
theorem target_any {w : World} {f mi mg K : Nat} {r : RFs} {N : List Nd} (h : FsN w f mi mg r N) (hW : Wf r K) (i g : Int) :
  Calls Tryz.prog 35 #[.pointer (some ⟨f, 0, none⟩), .agg #[.int .i64 i, .int .i64 g]] w fun e w' => e = .returned (.tuple #[.string (targetP r (i, g)).1, .int .i64 (targetP r (i, g)).2]) ∧ Below w.heap.size w w' := by
 obtain ⟨w1, hw1, hB, hs1, hb0⟩ := box1 w #[.int .i64 i, .int .i64 g] 37
 have t0 : w1.cell? ⟨w.heap.size, 0, none⟩ = some (.int .i64 i) := by rw [cell_at hb0]; rfl
 have t1 : w1.cell? ⟨w.heap.size, 1, none⟩ = some (.int .i64 g) := by rw [cell_at hb0]; rfl
 have h1 := h.below hW hB
 have HW1 := Lib.hid hw1
 have HB := Lib.hid hB
 cases hl : liveP r (i, g)
 ·have hT : targetP r (i, g) = (noStr, 175) := by unfold targetP; rw [hl]; rfl
  rw [hT]
  have HFd := Lib.hid (find_no h1 hW i g hl)
  clear hw1 hB hb0 h1 h hW hl hT
  go_enter Tryz.func35, Tryz.ntmps35
  go_wp2_with fail
  rw [HW1.out]
  go_wp2_with (go_at_call 59; (with_reducible refine HFd.out.mono ?_); rintro e w2 ⟨rfl, hB2⟩)
  go_ret2
  exact ⟨rfl, HB.out.trans (hB2.mono HB.out.size)⟩
 ·obtain ⟨m1, m2, m3⟩ := live_mem hl
  obtain ⟨n, hn, hr⟩ := h1.at_ hW m1
  have HFd := Lib.hid (find_yes h1 hW i g hl hn (hr.id.trans m2))
  unfold ptrV at HFd
  have hxk := hW.kind _ m1
  have HX := Lib.hid (show ∀ w3, Below w1.heap.size w1 w3 → NodeR w3 r (byIdP r.ins i) n from fun w3 hb => hr.below hxk hb)
  have hT : targetP r (i, g) = if (byIdP r.ins i).kind = 3 then ((byIdP r.ins i).target, 0) else (noStr, 1) := by unfold targetP; rw [if_pos hl]
  rw [hT]
  obtain ⟨x, hxe⟩ : ∃ x, byIdP r.ins i = x := ⟨_, rfl⟩
  rw [hxe] at hr hxk HX ⊢
  clear hw1 hB hb0 h1 h hW hl hT m1 m2 m3 hn hr hxe
  by_cases hk : x.kind = 3
  ·have hta : ∀ w, (Instr.typeAssert (holdsV x n) 20 9 true).run Tryz.prog w = .ok (.tuple #[.string x.target, .bool true]) w := fun w => by rw [ta_str, if_pos (by omega)]
   rw [if_pos hk]
   have HX5 := Lib.hid (show ∀ w3, Below w1.heap.size w1 w3 → w3.cell? ⟨n.blk, 5, none⟩ = some (holdsV x n) from fun w3 hb => by obtain ⟨-, -, -, -, -, c5⟩ := (HX.out w3 hb).cells; exact c5)
   clear HX
   generalize holdsV x n = hv at *
   go_enter Tryz.func35, Tryz.ntmps35
   go_wp2_with fail
   rw [HW1.out]
   go_wp2_with (go_at_call 59; (with_reducible refine HFd.out.mono ?_); rintro e w2 ⟨rfl, hB2⟩; have c5 := HX5.out w2 hB2)
   go_ret2
   exact ⟨rfl, HB.out.trans (hB2.mono HB.out.size)⟩
  ·have hta : ∀ w, (Instr.typeAssert (holdsV x n) 20 9 true).run Tryz.prog w = .ok (.tuple #[.string noStr, .bool false]) w := fun w => by rw [ta_str, if_neg (by omega)]
   rw [if_neg hk]
   have HX5 := Lib.hid (show ∀ w3, Below w1.heap.size w1 w3 → w3.cell? ⟨n.blk, 5, none⟩ = some (holdsV x n) from fun w3 hb => by obtain ⟨-, -, -, -, -, c5⟩ := (HX.out w3 hb).cells; exact c5)
   clear HX
   generalize holdsV x n = hv at *
   go_enter Tryz.func35, Tryz.ntmps35
   go_wp2_with fail
   rw [HW1.out]
   go_wp2_with (go_at_call 59; (with_reducible refine HFd.out.mono ?_); rintro e w2 ⟨rfl, hB2⟩; have c5 := HX5.out w2 hB2)
   go_ret2
   exact ⟨rfl, HB.out.trans (hB2.mono HB.out.size)⟩
end Go.Proofs.YtpcjmefchclhhaaGreat

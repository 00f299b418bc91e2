/- A part of the proof. -/
import Derived.Test.YtalfffamppmooaaGreatDoorPM
import Derived.Test.YtalfffamppmooaaGreatDoorZZSi
namespace Go.Proofs.YtalfffamppmooaaGreatDoor
open Go.RowKit Go.Shelf
set_option maxRecDepth 100000
def cloneI_ren : Go.Shelf.Ren := ⟨fun | 5 => 55 | 7 => 94 | n => n, fun | 23 => 90 | 25 => 3 | 3 => 112 | 4 => 4 | 20 => 20 | n => n, fun | n => n⟩
theorem cloneI : Go.Proofs.SlLaysW.n5 Tryz.prog cloneI_ren := {
 mixed := by kernel_rfl
 f5 := ⟨Tryz.f55.name, by decide, Tryz.func55.trans (congrArg some (by kernel_rfl))⟩
 f7 := Tryz.func94.trans (congrArg some (by kernel_rfl))
 t4 := Tryz.underlying4
 a4 := Tryz.isAgg4
 z4 := Tryz.sizeOf4
 v4 := Tryz.zeroValue4
 t20 := Tryz.underlying20
 a20 := Tryz.isAgg20
 z20 := Tryz.sizeOf20
 v20 := Tryz.zeroValue20
 t23 := Tryz.underlying90
 a23 := Tryz.isAgg90
 z23 := Tryz.sizeOf90
 v23 := Tryz.zeroValue90 }
theorem mcloneI_o (l : List (Int × G)) : FnO Tryz.prog 55 [.mp 0] [.mpI l] fun g rs => g = .mp 1 ∧ rs = [.mpI l, .mpI l] :=
 ⟨⟨_, Tryz.func55, by kernel_rfl, by kernel_rfl⟩, fun I V w vs hH hn hp => by
  obtain ⟨x, us, rfl, hx, hq⟩ := hp.uncons
  obtain rfl := hq.of_nil
  obtain ⟨-, rfl⟩ := (show 0 < V.n ∧ x = .map (some (V.b 0)) from hx)
  have hn : V.n = 1 := hn
  obtain ⟨hf, L, hB, hA⟩ := hH.each 0 _ rfl
  have hfoot := fun b hb => hH.foot 0 _ b rfl hb
  obtain ⟨es, clock, hb, hB2⟩ := mapB_copy hB
  refine (AnyW.maps_Clone cloneI (V.b 0) es clock w hb).mono fun e w' ⟨he, hw⟩ => ?_
  subst hw
  have hBl : Below w.heap.size w (w.alloc (.map es clock)) := (Below.refl _ w).alloc (Nat.le_refl _) _
  have hM : Mem I (w.alloc (.map es clock)) := hH.mem.keep fun b o x hx => hBl.block b (hH.mem.lt hx)
  have hlt := hB.lt
  have lk : ∀ k r, look k (objs [R.mpI l, R.mpI l] 0) = some r → (k = 0 ∨ k = 1) ∧ r = R.mpI l := fun k r h => by
   rw [look_objs0] at h
   match k, h with
   | 0, h => simp at h; exact ⟨.inl rfl, h.symm⟩
   | 1, h => simp at h; exact ⟨.inr rfl, h.symm⟩
   | k + 2, h => simp at h
  refine ⟨_, .mp 1, _, I, ⟨2, fun k => if k = 0 then V.b 0 else w.heap.size, V.s, fun k b => b = if k = 0 then V.b 0 else w.heap.size⟩, he, ⟨rfl, rfl⟩, rfl, ⟨hM, fun k r h => ?_, fun k r h => ?_, fun k r b h hb => ?_, fun k k' r r' b h h' hb hb' => ?_⟩, ⟨Nat.lt_succ_self _, rfl⟩, ⟨hBl.os, hBl.tape, hBl.output, hBl.size, fun b hb _ => ⟨hBl.block b hb, fun _ => rfl⟩, fun _ _ _ h => h, fun k r b hk hb hlt => ?_⟩, ⟨by show V.n ≤ 2; omega, fun k hk => ?_⟩⟩
  ·obtain ⟨h1, -⟩ := lk k r h
   show k < 2
   omega
  ·obtain ⟨h1, rfl⟩ := lk k r h
   rcases h1 with rfl | rfl
   ·exact ⟨fun b => Iff.rfl, L, hB.of_block (hBl.block _ hlt), hA⟩
   ·exact ⟨fun b => Iff.rfl, L, hB2, hA⟩
  ·obtain ⟨h1, rfl⟩ := lk k r h
   rcases h1 with rfl | rfl
   ·have hb : b = V.b 0 := hb
    subst hb
    exact ⟨Nat.lt_of_lt_of_le hlt hBl.size, (hfoot _ ((hf _).2 rfl)).2⟩
   ·have hb : b = w.heap.size := hb
    subst hb
    refine ⟨by simp, fun o => ?_⟩
    cases hI : I w.heap.size o with
    | none => rfl
    | some x => exact absurd (hH.mem.lt hI) (by omega)
  ·obtain ⟨h1, -⟩ := lk k r h
   obtain ⟨h2, -⟩ := lk k' r' h'
   rcases h1 with rfl | rfl <;> rcases h2 with rfl | rfl
   ·rfl
   ·have hb : b = V.b 0 := hb
    have hb' : b = w.heap.size := hb'
    omega
   ·have hb : b = w.heap.size := hb
    have hb' : b = V.b 0 := hb'
    omega
   ·rfl
  ·obtain ⟨h1, -⟩ := lk k r hk
   rcases h1 with rfl | rfl
   ·have hb : b = V.b 0 := hb
    exact ⟨0, _, rfl, (hf b).2 hb⟩
   ·have hb : b = w.heap.size := hb
    omega
  ·have : k = 0 := by omega
   subst this
   exact ⟨rfl, rfl⟩⟩
end Go.Proofs.YtalfffamppmooaaGreatDoor

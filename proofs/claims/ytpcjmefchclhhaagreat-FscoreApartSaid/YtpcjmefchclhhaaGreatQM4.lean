/- A part of the proof. -/
import Derived.Test.YtpcjmefchclhhaaGreatQM2
import Derived.Test.YtpcjmefchclhhaaGreatZFtU
namespace Go.Proofs.YtpcjmefchclhhaaGreat
open Go.RowKit
set_option maxRecDepth 100000
theorem two_has {I : Imm} {V : Va} {w : World} {p p' : Ob} (hn : V.n = 2) (hM : Mem I w) (hp : Loc p ∧ p I (V.b 0) (V.f 0) w) (hp' : Loc p' ∧ p' I (V.b 1) (V.f 1) w) (hf : ∀ k b, V.f k b → k < 2 → b < w.heap.size ∧ ∀ o, I b o = none) (hd : ∀ b, V.f 0 b → ¬ V.f 1 b) : Has I V (objs [.abs p, .abs p'] 0) w := by
 have lk : ∀ k r, look k (objs [.abs p, .abs p'] 0) = some r → k = 0 ∧ r = .abs p ∨ k = 1 ∧ r = .abs p' := fun k r h => by
  rw [look_objs0] at h
  match k, h with
  | 0, h => simp at h; exact .inl ⟨rfl, h.symm⟩
  | 1, h => simp at h; exact .inr ⟨rfl, h.symm⟩
  | k + 2, h => simp at h
 refine ⟨hM, fun k r h => ?_, fun k r h => ?_, fun k r b h hb => ?_, fun k k' r r' b h h' hb hb' => ?_⟩
 ·rcases lk k r h with ⟨rfl, -⟩ | ⟨rfl, -⟩ <;> omega
 ·rcases lk k r h with ⟨rfl, rfl⟩ | ⟨rfl, rfl⟩
  ·exact hp
  ·exact hp'
 ·rcases lk k r h with ⟨rfl, -⟩ | ⟨rfl, -⟩
  ·exact hf 0 b hb (by omega)
  ·exact hf 1 b hb (by omega)
 ·rcases lk k r h with ⟨rfl, -⟩ | ⟨rfl, -⟩ <;> rcases lk k' r' h' with ⟨rfl, -⟩ | ⟨rfl, -⟩
  ·rfl
  ·exact absurd hb' (hd b hb)
  ·exact absurd hb (hd b hb')
  ·rfl
theorem clone_o {r : RFs} {K : Nat} (_ : Gd r K) : FnO Tryz.prog 20 [.ptr 0 0] (fP r K) fun g rs => g = .ptr 1 0 ∧ rs = [.abs (fsP r K), .abs (fsP r K)] :=
 ⟨⟨_, Tryz.func20, by kernel_rfl, by kernel_rfl⟩, fun I V w vs hH hn hp => by
  obtain ⟨x, us, rfl, hx, hq⟩ := hp.uncons
  obtain rfl := hq.of_nil
  obtain ⟨-, rfl⟩ := (show 0 < V.n ∧ x = .pointer (some ⟨V.b 0, 0, none⟩) from hx)
  obtain ⟨-, mi, mg, N, hN, hW, hS⟩ := hH.each 0 (.abs (fsP r K)) rfl
  have hfoot := fun b hb => hH.foot 0 (.abs (fsP r K)) b rfl hb
  have hn1 : V.n = 1 := hn
  refine (clonef_any hN hW).mono fun e w' ⟨f', mi', mg', N', he, hF, hB, hnew⟩ => ?_
  have hM : Mem I w' := hH.mem.keep fun b o x hx => hB.block b (hH.mem.lt hx)
  refine ⟨_, .ptr 1 0, _, I, ⟨2, fun k => if k = 0 then V.b 0 else f', V.s, fun k b => if k = 0 then V.f 0 b else b ∈ fpL f' mi' mg' N'⟩, he, ⟨rfl, rfl⟩, rfl, two_has rfl hM ⟨fsP_loc _ _, ?_⟩ ⟨fsP_loc _ _, mi', mg', N', hF, hW, fun k => Iff.rfl⟩ (fun k b hb hk => ?_) (fun b h0 h1 => ?_), ⟨Nat.lt_succ_self _, rfl⟩, ⟨hB.os, hB.tape, hB.output, hB.size, fun b hb _ => ⟨hB.block b hb, fun _ => rfl⟩, fun _ _ _ h => h, fun k r' b hk hb hlt => ?_⟩, ⟨by show V.n ≤ 2; omega, fun k hk => ?_⟩⟩
  ·exact fsP_loc r K _ _ _ _ _ _ ⟨mi, mg, N, hN, hW, hS⟩ (fun _ _ _ h => h) hB.os hB.size fun k hk => hB.block k (hfoot k hk).1
  ·match k, hb, hk with
   | 0, hb, _ => exact ⟨Nat.lt_of_lt_of_le (hfoot b hb).1 hB.size, (hfoot b hb).2⟩
   | 1, hb, _ =>
    have hb : b ∈ fpL f' mi' mg' N' := hb
    refine ⟨?_, fun o => ?_⟩
    ·obtain ⟨l1, l2, l3, l4⟩ := hF.lt hW
     rcases mem_fpL.1 hb with rfl | rfl | rfl | ⟨n, hn, hk⟩
     ·exact l1
     ·exact l2
     ·exact l3
     ·exact l4 n hn b hk
    ·cases hI : I b o with
     | none => rfl
     | some x => exact absurd (hH.mem.lt hI) (by have := hnew b hb; omega)
  ·have h1 : b ∈ fpL f' mi' mg' N' := h1
   have := hnew b h1
   have := (hfoot b h0).1
   omega
  ·by_cases hk0 : k = 0
   ·have hb : V.f 0 b := by have := hb; dsimp only at this; rw [if_pos hk0] at this; exact this
    exact ⟨0, _, rfl, hb⟩
   ·have hb : b ∈ fpL f' mi' mg' N' := by have := hb; dsimp only at this; rw [if_neg hk0] at this; exact this
    have := hnew b hb
    omega
  ·have hk0 : k = 0 := by omega
   subst hk0
   exact ⟨rfl, rfl⟩⟩
set_option maxHeartbeats 4000000 in
theorem fscoreApart_v (l : List OpF) (hO : ∀ o ∈ l, SmallO o) (m : List OpF) (hm : ∀ o ∈ m, SmallO o) : FnV Tryz.prog 7 [.sl (l.map cellO), .sl (m.map cellO)] fun q => q = .v (.bool true) := by
 refine fnG Tryz.func7 (by kernel_rfl) rfl (Nat.le_of_ble_eq_true (by kernel_rfl)) (by kernel_rfl) ?_
 refine (new_o 50 (by decide)).cal fun q rs hq => ?_
 obtain ⟨rfl, rfl, hG⟩ := hq
 refine (few_q l).cal fun q hq => ?_
 subst hq
 cases hb : (decide (l.length ≤ 250) && l.all fewFO) with
 | false =>
  refine EvIf.mk (fun _ => ?_) fun hh => by cases hh
  refine (alive_v).cal fun q hq => ?_
  subst hq
  exact rfl
 | true =>
  have h250 := fewFO_len hb
  refine EvIf.mk (fun hh => by cases hh) fun _ => ?_
  refine (few_q m).cal fun q hq => ?_
  subst hq
  cases hb2 : (decide (m.length ≤ 250) && m.all fewFO) with
  | false =>
   refine EvIf.mk (fun _ => ?_) fun hh => by cases hh
   refine (alive_v).cal fun q hq => ?_
   subst hq
   exact rfl
  | true =>
   have h251 := fewFO_len hb2
   refine EvIf.mk (fun hh => by cases hh) fun _ => ?_
   refine (new_q 50).cal fun q hq => ?_
   subst hq
   refine (plays_o (newP 50) hG l (by omega) hO).cal fun q rs hq => ?_
   obtain ⟨rfl, K', hK', rfl, hG'⟩ := hq
   refine (clone_o hG').cal fun q rs hq => ?_
   obtain ⟨rfl, rfl⟩ := hq
   refine EvIf.mk (fun hh => by cases hh) fun _ => ?_
   refine (plays_o (runF (newP 50) l) hG' m (by omega) hm).cal fun q rs hq => ?_
   obtain ⟨rfl, K2, hK2, rfl, hG2⟩ := hq
   refine (alive_v).cal fun q hq => ?_
   subst hq
   repeat' first
    | refine EvIf.mk (fun _ => ?_) fun hh => by cases hh
   refine (stands_o (runF (runF (newP 50) l) m) _ hG2 (by omega) (by omega) (.refl hG2.wf)).cal fun q rs hq => ?_
   obtain ⟨rfl, rfl⟩ := hq
   refine EvIf.mk (fun _ => ?_) fun hh => by cases hh
   refine (stands_o (runF (newP 50) l) _ hG' (by omega) (by omega) (.refl hG'.wf)).cal fun q rs hq => ?_
   obtain ⟨rfl, rfl⟩ := hq
   exact rfl
end Go.Proofs.YtpcjmefchclhhaaGreat

/- A part of the proof. -/
import Derived.Test.YtalfffamppmooaaGreatDoorZZSf
import Derived.Test.YtalfffamppmooaaGreatDoorSxMc
namespace Go.Proofs.YtalfffamppmooaaGreatDoor
open Go.RowKit Go.Shelf
set_option maxRecDepth 100000
abbrev tSs : Nat := 40
abbrev tSt : Nat := 9
abbrev fClS : FuncId := 105
theorem und_Ss : Tryz.prog.underlying tSs = some (.slice tSt) := by kernel_rfl
def FreshS (w : World) (ss : List ByteArray) (e : Ending) (w' : World) : Prop := ∃ v', e = .returned v' ∧ w'.ownsRow 0 tSt 1 v' ss.length (ss.map Value.string) ∧ Below w.heap.size w w' ∧ ∀ b, v'.ownBlock = some b → w.heap.size ≤ b ∧ b < w'.heap.size
theorem eqlS_nil (w : World) (a : Option Addr) (n c n' c' : Nat) : (binOp .eql tSs (.slice a n c) (.slice none n' c')).run Tryz.prog w = .ok (.bool a.isNone) w := Lib.run_eql_slice_nil w _ _ a n c n' c' und_Ss
set_option maxHeartbeats 4000000 in
theorem cloS_raw {A : Option Addr} {c : Nat} {ss : List ByteArray} {w : World} (hl : ss.length ≤ 100000000) (hA : A = none → ss = []) (hc : ∀ a, A = some a → a.block < w.heap.size ∨ ss = []) (hcell : ∀ a, A = some a → ∀ (j : Nat) s, ss[j]? = some s → w.cell? (a.add j) = some (.string s)) : Calls Tryz.prog fClS #[.slice A ss.length c] w (FreshS w ss) := by
 cases A with
 | none =>
  have h0 := hA rfl
  subst h0
  have fin : FreshS w [] (.returned (.slice none 0 0)) w := ⟨_, rfl, World.ownsRow_nil w 0 tSt 1, .refl _ _, fun b h => by cases h⟩
  generalize FreshS w [] = K at fin ⊢
  have q22 := eqlS_nil
  clear hA hc hcell hl
  go_enter Tryz.func105, Tryz.ntmps105
  go_wp2_with fail
  first | exact fin | (go_ret; exact fin)
 | some a =>
  obtain ⟨-, i, z, hi, hz, hs, hzs, -, hby⟩ := (tab_ok tabG tSs _ rfl).elem tSt 1 rfl
  obtain ⟨wa, hwa⟩ : ∃ wa, wa = w.alloc (.cells #[] tSt) := ⟨_, rfl⟩
  have hmade : wa.ownsRow 0 tSt 1 (.slice (some ⟨w.heap.size, 0, none⟩) 0 0) 0 [] := by rw [hwa]; exact World.ownsRow_made w #[] 0 (Nat.zero_le _) (Nat.zero_le _) rfl
  obtain ⟨v', w', hr, h2, h3, h4⟩ := run_app (P := Tryz.prog) (w := wa) tSs tSs tSt i z 1 i.bytes und_Ss hi hz hs rfl hzs (by decide) (.slice (some ⟨w.heap.size, 0, none⟩) 0 0) 0 [] hmade (some a) ss.length c (ss.map Value.string) (by simp) (by simp) (fun b hb j y hj => by
   cases hb
   rw [List.getElem?_map] at hj
   obtain ⟨s, h1, rfl⟩ := Option.map_eq_some_iff.1 hj
   have h2 := hcell a rfl j s h1
   rw [World.cell?_of_block (w := w) (w' := wa) (a := a.add j) (by rw [hwa]; exact (World.grownBy_alloc w (.cells #[] tSt) none).block _ (World.block_lt_of_cell? w _ h2) (by simp))]
   exact h2) (fun u hu => by obtain ⟨s, -, rfl⟩ := List.mem_map.1 hu; rfl) (by unfold maxLen; omega) (Nat.le_trans (Nat.mul_le_mul (show 0 + ss.length ≤ 100000001 by omega) hby) (by decide))
  have hsz : wa.heap.size = w.heap.size + 1 := by rw [hwa]; simp
  have fin : FreshS w ss (.returned v') w' := by
   refine ⟨v', rfl, ?_, ⟨h3.os.trans (by rw [hwa]; rfl), h3.tape.trans (by rw [hwa]; rfl), h3.output.trans (by rw [hwa]; rfl), by have := h3.size; omega, fun b hb => ?_⟩, fun b hb => ?_⟩
   ·rw [Nat.zero_add, List.nil_append] at h2; exact h2
   ·rw [h3.block b (by omega) (fun e => by have e : b = w.heap.size := Option.some.inj e; omega), hwa]
    exact (World.grownBy_alloc w (.cells #[] tSt) none).block b hb (by simp)
   ·rcases h4 with h4 | ⟨k, h4, h5, h6⟩
    ·rw [h4] at hb; have hb : w.heap.size = b := Option.some.inj hb; have := h3.size; omega
    ·rw [h4] at hb; have hb : k = b := Option.some.inj hb; omega
  generalize FreshS w ss = K at fin ⊢
  have HWA : Hid (wa = w.alloc (.cells #[] tSt)) := hwa
  have q22 := eqlS_nil
  obtain ⟨ab, ao, asp⟩ := a
  generalize ss.length = n at hr ⊢
  clear h2 h3 h4 hmade hsz hwa hA hc hcell hl
  go_enter Tryz.func105, Tryz.ntmps105
  go_wp2_with (first
   | (at_builtin; rw [← HWA.out]; refine Lib.wpList_append_run _ rfl _ _ _ _ rfl _ _ rfl rfl _ _ hr ?_))
  first | exact fin | (go_ret; exact fin)
theorem flat_str : ∀ ss : List ByteArray, (ss.map fun s => [Value.string s]).flatten = ss.map Value.string
 | [] => rfl
 | s :: ss => by rw [List.map_cons, List.flatten_cons, flat_str ss]; rfl
theorem cloS_o (ss : List ByteArray) (hl : ss.length ≤ 100000000) : FnO Tryz.prog fClS [.sl (ss.map gSt)] [] fun g rs => g = .osl 0 ∧ rs = [.slc (ss.map gSt) tSt 1] :=
 ⟨⟨_, Tryz.func105, by kernel_rfl, by kernel_rfl⟩, fun I V w vs hH hn hp => by
  obtain ⟨a, us, rfl, ha, hp⟩ := hp.uncons
  obtain rfl := hp.of_nil
  have hn : V.n = 0 := hn
  have ha : VRep I (.sl (ss.map gSt)) a := ha
  cases ha with
  | sl l A c sz u hc hA hz hI hu =>
   have hcell : ∀ a, A = some a → ∀ (j : Nat) s, ss[j]? = some s → w.cell? (a.add j) = some (.string s) := fun a e j s hj => by
    subst e
    have hj' : (ss.map gSt)[j]? = some (gSt s) := by rw [List.getElem?_map, hj]; rfl
    obtain ⟨b, o, e, h⟩ := hI j _ hj'
    have hsz : sz = 1 := (hz _ (List.mem_of_getElem? hj')).symm
    subst hsz
    cases e
    have h0 := hH.mem _ _ _ (h 0 (by decide))
    have hv := hu j (gSt s) 0 (.v (.string s)) hj' rfl
    rw [vrep_v hv] at h0
    rw [Addr.add_lit]
    simpa using h0
   have hlen : (ss.map gSt).length = ss.length := by simp
   rw [hlen]
   refine (cloS_raw (A := A) (c := c) hl (fun e => ?_) (fun a e => ?_) hcell).mono fun e w' ⟨v', he, hl', hb, hnew⟩ => ?_
   ·have := hA e
    rw [hlen] at hc
    exact List.eq_nil_of_length_eq_zero (by omega)
   ·cases ss with
    | nil => exact .inr rfl
    | cons s ss => exact .inl (World.block_lt_of_cell? w (a.add 0) (hcell a e 0 s rfl))
   ·have hL := later_new (r := .slc (ss.map gSt) tSt 1) hH hb 0 v' (fun b => v'.ownBlock = some b) (fun b hb' => hnew b hb') (by
     refine ⟨fun b => by simp [Va.push], ss.map fun s => [Value.string s], ?_, by simp, fun i r u hr hu => ?_, fun u hu => ?_, fun u hu x hx => ?_, Nat.one_pos⟩
     ·have e1 := flat_str ss
      rw [e1, hlen]
      simp only [Va.push, if_pos]; exact hl'
     ·rw [List.getElem?_map] at hr hu
      obtain ⟨s, h1, rfl⟩ := Option.map_eq_some_iff.1 hr
      rw [h1] at hu; cases hu
      exact .cons (.v _) .nil
     ·obtain ⟨s, -, rfl⟩ := List.mem_map.1 hu; rfl
     ·obtain ⟨s, -, rfl⟩ := List.mem_map.1 hu
      rw [List.mem_singleton.1 hx]; rfl)
    rw [hn] at hL
    exact ⟨v', .osl 0, _, I, V.push 0 v' fun b => v'.ownBlock = some b, he, ⟨rfl, rfl⟩, by show V.n + 1 = _; rw [hn]; rfl, hL.has, ⟨by show 0 < V.n + 1; omega, by simp [Va.push, hn]⟩, hL.fro, hL.va⟩⟩
theorem cl_nil {I : Imm} {b : Nat} {S : Nat → Prop} {w : World} (h : cl [(0, .blk [.nl] tTab)] I b S w) : cl (oTs []) I b S w := by
 obtain ⟨V, h1, hO, hS⟩ := h
 obtain ⟨q1, us, q2, q3⟩ := hO.each 0 (.blk [.nl] tTab) rfl
 obtain ⟨x, us, rfl, hx, hn⟩ := q3.uncons
 obtain rfl := hn.of_nil
 have hx : VRep I .nl x := hx
 cases hx
 let V' : Va := ⟨2, V.b, fun _ => .slice none 0 0, fun k => if k = 0 then V.f 0 else fun _ => False⟩
 have lk : ∀ {k : Nat} {r : R}, look k (oTs []) = some r → (k = 0 ∧ r = .blk [.osl 1] tTab) ∨ (k = 1 ∧ r = slL []) := fun {k r} hk => by
  rw [look_cons] at hk
  split at hk
  ·next e => cases hk; exact .inl ⟨e, rfl⟩
  ·rw [look_cons] at hk
   split at hk
   ·next e => cases hk; exact .inr ⟨e, rfl⟩
   ·cases hk
 refine ⟨V', h1, ⟨fun k r hk => ?_, fun k r hk => ?_, fun k r c hk hf => ?_, fun k k' r r' c hk hk' hf hf' => ?_⟩, fun c => (hS c).trans ⟨fun ⟨k, r, hk, hf⟩ => ?_, fun ⟨k, r, hk, hf⟩ => ?_⟩⟩
 ·rcases lk hk with ⟨rfl, -⟩ | ⟨rfl, -⟩ <;> exact Nat.le_of_ble_eq_true rfl
 ·rcases lk hk with ⟨rfl, rfl⟩ | ⟨rfl, rfl⟩
  ·exact ⟨q1, _, q2, .cons (show CRep I V' (.osl 1) _ from ⟨Nat.le_of_ble_eq_true rfl, rfl⟩) .nil⟩
  ·exact of_lr (fun b => ⟨fun h => h.elim, fun h => by cases h⟩) (World.ownsRow_nil w 0 tLe 3)
 ·rcases lk hk with ⟨rfl, -⟩ | ⟨rfl, -⟩
  ·exact hO.lt 0 _ c rfl hf
  ·exact hf.elim
 ·rcases lk hk with ⟨rfl, -⟩ | ⟨rfl, -⟩
  ·rcases lk hk' with ⟨rfl, -⟩ | ⟨rfl, -⟩
   ·rfl
   ·exact hf'.elim
  ·exact hf.elim
 ·rw [look_cons] at hk
  split at hk
  ·next e => subst e; exact ⟨0, _, rfl, hf⟩
  ·cases hk
 ·rcases lk hk with ⟨rfl, -⟩ | ⟨rfl, -⟩
  ·exact ⟨0, _, rfl, hf⟩
  ·exact hf.elim
theorem newT_o : FnO Tryz.prog 39 [] [] fun g rs => g = .ptr 0 0 ∧ rs = cT [] := by
 refine FnO.wk (Q := fun g rs => g = .ptr 0 0 ∧ rs = [.abs (cl [(0, .blk [.nl] tTab)])]) ?_ fun g rs ⟨h1, h2⟩ => ⟨cT [], by subst h2; exact ⟨.inr ⟨_, _, rfl, rfl, cl_loc _, fun I b S w h => cl_nil h⟩, trivial⟩, h1, rfl⟩
 refine fnoG Tryz.func39 (by kernel_rfl) rfl (Nat.le_of_ble_eq_true (by kernel_rfl)) (by kernel_rfl) (lent0 _) ?_
 exact ⟨[⟨[(0, .blk [.nl] tTab)], [], true⟩], .ptr 0 0, ⟨⟨⟨⟨⟨rfl, rfl, rfl⟩, trivial⟩, _, rfl⟩, trivial⟩, rfl, ⟨_, rfl⟩, rfl, rfl, ⟨rfl, rfl⟩⟩⟩
end Go.Proofs.YtalfffamppmooaaGreatDoor

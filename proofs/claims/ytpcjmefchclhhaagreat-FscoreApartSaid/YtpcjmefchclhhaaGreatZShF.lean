/- A part of the proof. -/
import Derived.Test.YtpcjmefchclhhaaGreatZShE
namespace Go.Proofs.YtpcjmefchclhhaaGreat
open Go.RowKit Go.MapKept
theorem Rd.apart {α : Type} {w w' : World} {S : List Nat} {B sz : Nat} {f : α → List Value} {A : Option Addr} {l : List α} (h : Rd w B sz f A l) (hf : Frm S w w') (hA : ∀ a, A = some a → a.block ∉ S) : Rd w' B sz f A l := fun i x hx => by
 obtain ⟨a, rfl, hB, hc⟩ := h i x hx
 refine ⟨a, rfl, hB, fun j v hv => ?_⟩
 have hcell := hc j v hv
 have hlt := block_lt_of_cell hcell
 rw [World.cell?_of_block (w := w) (hf.block _ hlt (by rw [add_block, add_block]; exact hA a rfl))]
 exact hcell
def wp1 (f t : Nat) (bl : List (Nat × List UInt8)) (k : Nat) : List (Nat × List UInt8) := if k * 16 < t ∧ f < k * 16 + 16 then zr1 bl k (f - k * 16) (min (t - k * 16) 16) else bl
def wipeL (bl : List (Nat × List UInt8)) (f t : Nat) : List (Nat × List UInt8) := (keysS bl).foldl (wp1 f t) bl
theorem zero_int {w : World} {b m size : Nat} {bl : List (Nat × List UInt8)} (h : Raw w b m size bl) (k f t : Nat) (hk : k < 65536) (hf : f ≤ 16) (ht : t ≤ 16) (F T : Int) (hF : F = f) (hT : T = t) :
  Calls Tryz.prog 106 #[.pointer (some ⟨b, 0, none⟩), .int .i64 (k : Int), .int .i64 F, .int .i64 T] w
   fun e w' => e = .returned (.tuple #[]) ∧ Raw w' b m size (zr1 bl k f t) ∧ Frm [b, m] w w' := by
 subst hF hT
 exact zero_any h k f t hk hf ht
set_option maxRecDepth 100000 in
set_option maxHeartbeats 2000000 in
theorem wipe_any {w : World} {b m size : Nat} {bl : List (Nat × List UInt8)} (h : Raw w b m size bl) (f t : Nat) (hf : f ≤ 2097152) (ht : t ≤ 2097152) :
  Calls Tryz.prog 95 #[.pointer (some ⟨b, 0, none⟩), .int .i64 (f : Int), .int .i64 (t : Int)] w
   fun e w' => e = .returned (.tuple #[]) ∧ Raw w' b m size (wipeL bl f t) ∧ Frm [b, m] w w' := by
 have HO := Lib.hid (order_any h)
 have HH := Lib.hid h
 have HK := Lib.hid (show ∀ k ∈ keysS bl, k < 65536 from fun k hk => by
  obtain ⟨p, hp, rfl⟩ := List.mem_map.1 ((keysS_perm bl).mem_iff.1 hk)
  exact h.keys p hp)
 obtain ⟨R, hR⟩ : ∃ R, (keysS bl).foldl (wp1 f t) bl = R := ⟨_, rfl⟩
 have HR := Lib.hid hR
 have HR' := Lib.hid (show wipeL bl f t = R from hR)
 have hn1 : (keysS bl).length ≤ 65536 := by
  have h1 := nodup_lt 65536 (bl.map (·.1)) h.map.nodup (fun x hx => by
   obtain ⟨p, hp, rfl⟩ := List.mem_map.1 hx
   exact h.keys p hp)
  rw [(keysS_perm bl).length_eq]
  exact h1
 clear h hR
 generalize keysS bl = ks at *
 generalize hn : ks.length = n at *
 have HN := Lib.hid hn
 clear hn
 go_enter Tryz.func95, Tryz.ntmps95
 go_wp2_with (go_at_call 105; (with_reducible refine HO.out.mono ?_); rintro e w1 ⟨A, c, rfl, hrd, hA, hb1⟩)
 have hR1 := HH.out.below hb1
 have hA' : ∀ a, A = some a → a.block ∉ [b, m] := fun a ha hm => by
  have h1 := hA a ha
  have h2 := HH.out.lt
  have h3 := HH.out.map.lt
  rcases (by simpa using hm : a.block = b ∨ a.block = m) with e | e <;> omega
 have HA := Lib.hid hA'
 have HF1 := Lib.hid (show Frm [b, m] w w1 from Frm.of_below hb1)
 have HR1 := Lib.hid hR1
 have HD1 := Lib.hid hrd
 clear hrd hA hb1 hR1 hA'
 go_loopw [12] (fun vi wr => ∃ (i : Nat) (bl' : List (Nat × List UInt8)), i ≤ n ∧ vi = .int .i64 (i : Int) ∧ Raw wr b m size bl' ∧ Frm [b, m] w1 wr ∧ (ks.drop i).foldl (wp1 f t) bl' = R) (fun vi _ => n - (intOf vi).toNat)
 case atStart => exact ⟨0, bl, Nat.zero_le _, rfl, HR1.out, Frm.refl _ _, HR.out⟩
 case round =>
  obtain ⟨i, bl', hi, rfl, hRr, hFr, hfold⟩ := hrel
  have HRr := Lib.hid hRr
  have HFr := Lib.hid hFr
  have HFo := Lib.hid hfold
  clear hRr hFr hfold
  by_cases hin : i < n
  ·have hdr := HD1.out.apart HFr.out HA.out
   have hil : i < ks.length := by rw [HN.out]; exact hin
   obtain ⟨ad, had, -⟩ := hdr.addr hil
   subst had
   have hc := hdr.cell hil (j := 0) (v := .int .i64 (ks[i] : Int)) rfl
   rw [add_assoc', Nat.mul_one, Nat.add_zero] at hc
   have hfo := HFo.out
   rw [List.drop_eq_getElem_cons hil, List.foldl_cons] at hfo
   have hk := HK.out _ (List.getElem_mem hil)
   generalize ks[i] = k at *
   have HFo2 := Lib.hid hfo
   clear hfo hil hdr
   by_cases h1 : k * 16 < t
   ·have t1 : decide ((k : Int) * 16 < (t : Int)) = true := by rw [decide_eq_true_eq]; omega
    by_cases h2 : f < k * 16 + 16
    ·have t2 : decide ((f : Int) < (k : Int) * 16 + 16) = true := by rw [decide_eq_true_eq]; omega
     have HW1 := Lib.hid (show wp1 f t bl' k = zr1 bl' k (f - k * 16) (min (t - k * 16) 16) from if_pos ⟨h1, h2⟩)
     have HZ := Lib.hid (zero_int HRr.out k (f - k * 16) (min (t - k * 16) 16) hk (by omega) (by omega) (max ((f : Int) - (k : Int) * 16) 0) (min ((t : Int) - (k : Int) * 16) 16) (by omega) (by omega))
     go_wp2_with (go_at_call 106; (with_reducible refine HZ.out.mono ?_); rintro e w2 ⟨rfl, hR2, hF2⟩)
     have HR2 := Lib.hid hR2
     have HF2 := Lib.hid (HFr.out.trans hF2)
     clear hR2 hF2 HZ
     go_wp2
     go_roundw
     case rel => exact ⟨i + 1, _, by omega, by go_num, HR2.out, HF2.out, by rw [← HW1.out]; exact HFo2.out⟩
     case measure => simp [intOf]; omega
    ·have t2 : decide ((f : Int) < (k : Int) * 16 + 16) = false := by rw [decide_eq_false_iff_not]; omega
     have HW1 := Lib.hid (show wp1 f t bl' k = bl' from if_neg (fun h => h2 h.2))
     go_wp2
     go_roundw
     case rel => exact ⟨i + 1, bl', by omega, by go_num, HRr.out, HFr.out, by rw [← HW1.out]; exact HFo2.out⟩
     case measure => simp [intOf]; omega
   ·have t1 : decide ((k : Int) * 16 < (t : Int)) = false := by rw [decide_eq_false_iff_not]; omega
    have HW1 := Lib.hid (show wp1 f t bl' k = bl' from if_neg (fun h => h1 h.1))
    go_wp2
    go_roundw
    case rel => exact ⟨i + 1, bl', by omega, by go_num, HRr.out, HFr.out, by rw [← HW1.out]; exact HFo2.out⟩
    case measure => simp [intOf]; omega
  ·have hin' : i = n := by omega
   have HFE := Lib.hid (show bl' = R by have := HFo.out; rw [List.drop_eq_nil_of_le (by rw [HN.out]; omega)] at this; exact this)
   clear hin'
   go_wp2
   ((try simp only [Exit.inBlock, Exit.then]); first | refine bodyPost_ret (results_none rfl _ _ _) rfl ?_ | refine bodyPost_end (results_none rfl _ _ _) rfl ?_)
   exact ⟨rfl, by rw [HR'.out, ← HFE.out]; exact HRr.out, HF1.out.trans HFr.out⟩
def cutOk (n : Int) : Bool := decide (0 ≤ n ∧ n ≤ 1048576)
def cutBl (size : Nat) (bl : List (Nat × List UInt8)) (n : Int) : List (Nat × List UInt8) := if cutOk n = true ∧ n.toNat < size then wipeL bl n.toNat (wholeN size) else bl
def cutSize (size : Nat) (n : Int) : Nat := if cutOk n = true then n.toNat else size
set_option maxRecDepth 100000 in
set_option maxHeartbeats 2000000 in
theorem cut_any {w : World} {b m size : Nat} {bl : List (Nat × List UInt8)} (h : Raw w b m size bl) (n : Int) :
  Calls Tryz.prog 77 #[.pointer (some ⟨b, 0, none⟩), .int .i64 n] w
   fun e w' => e = .returned (.bool (cutOk n)) ∧ Raw w' b m (cutSize size n) (cutBl size bl n) ∧ Frm [b, m] w w' := by
 have c0 := h.c0
 have HH := Lib.hid h
 have hs := h.small
 cases hf : cutOk n
 ·have HE := Lib.hid hf
  have t0 : (decide (n < 0) || decide (n > 1048576)) = true := by
   have := of_decide_eq_false hf
   rw [Bool.or_eq_true, decide_eq_true_eq, decide_eq_true_eq]; omega
  clear hf h
  rw [Bool.or_eq_true, decide_eq_true_eq, decide_eq_true_eq] at t0
  rcases Int.lt_or_le n 0 with h0 | h0
  all_goals
   go_enter Tryz.func77, Tryz.ntmps77
   go_wp2
   go_ret
   exact ⟨rfl, by unfold cutSize cutBl; rw [HE.out]; simpa using HH.out, Frm.refl _ _⟩
 ·have HE := Lib.hid hf
  obtain ⟨h0, h1⟩ := of_decide_eq_true hf
  obtain ⟨n, rfl⟩ := Int.eq_ofNat_of_zero_le h0
  have hn1 : n ≤ 1048576 := by omega
  clear h0 h1
  have t1 : decide ((n : Int) < 0) = false := by rw [decide_eq_false_iff_not]; omega
  have t2 : decide (1048576 < (n : Int)) = false := by rw [decide_eq_false_iff_not]; omega
  have HS := Lib.hid (show cutSize size n = n by unfold cutSize; rw [if_pos HE.out, Int.toNat_natCast])
  clear hf h
  by_cases hlt : n < size
  ·have HB := Lib.hid (show cutBl size bl n = wipeL bl n (wholeN size) by unfold cutBl; rw [if_pos ⟨HE.out, by rw [Int.toNat_natCast]; exact hlt⟩, Int.toNat_natCast])
   have HW := Lib.hid (wipe_any HH.out n (wholeN size) (by omega) (by unfold wholeN; omega))
   have HV := Lib.hid (whole_any size hs w)
   go_enter Tryz.func77, Tryz.ntmps77
   go_wp2_with (first | (go_at_call 96; (with_reducible refine HV.out.mono ?_); rintro e w1 ⟨rfl, rfl⟩) | (go_at_call 95; (with_reducible refine HW.out.mono ?_); rintro e w1 ⟨rfl, hR1, hF1⟩; have c1 := hR1.c0; have f1 := hR1.f0 0; have HR1 := Lib.hid hR1; have HF1 := Lib.hid hF1; clear hR1 hF1))
   go_ret
   exact ⟨rfl, by rw [HS.out, HB.out]; exact HR1.out.setSize (by omega), HF1.out.setCell (.inl (by simp)) _⟩
  ·have HB := Lib.hid (show cutBl size bl n = bl by unfold cutBl; rw [if_neg (by rw [Int.toNat_natCast]; omega)])
   have f0 := HH.out.f0 0
   go_enter Tryz.func77, Tryz.ntmps77
   go_wp2
   go_ret
   exact ⟨rfl, by rw [HS.out, HB.out]; exact HH.out.setSize (by omega), (Frm.refl _ _).setCell (.inl (by simp)) _⟩
end Go.Proofs.YtpcjmefchclhhaaGreat

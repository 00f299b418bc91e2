/- A part of the proof. -/
import Derived.Test.YtpcjmefchclhhaaGreatZFrm
namespace Go.Proofs.YtpcjmefchclhhaaGreat
open Go.RowKit Go.MapKept
def byteV (x : UInt8) : Value := .int .u8 (x.toNat : Int)
def byteC (x : UInt8) : List Value := [byteV x]
def blkV (b : List UInt8) : Value := .agg (b.map byteV).toArray
structure Raw (w : World) (b m size : Nat) (bl : List (Nat × List UInt8)) : Prop where
 head : w.heap[b]? = some (.cells #[.int .i64 (size : Int), .map (some m)] 162 (0, 0))
 map : MapB w m natK blkV bl
 full : ∀ p ∈ bl, p.2.length = 16
 small : size ≤ 1048576
 keys : ∀ p ∈ bl, p.1 < 65536
theorem Raw.keep {w w' : World} {b m size : Nat} {bl : List (Nat × List UInt8)} (h : Raw w b m size bl) (hb : w'.heap[b]? = w.heap[b]?) (hm : w'.heap[m]? = w.heap[m]?) : Raw w' b m size bl :=
 ⟨hb.trans h.head, h.map.of_block hm, h.full, h.small, h.keys⟩
theorem Raw.lt {w : World} {b m size : Nat} {bl : List (Nat × List UInt8)} (h : Raw w b m size bl) : b < w.heap.size := (Array.getElem?_eq_some_iff.1 h.head).1
theorem Raw.ne {w : World} {b m size : Nat} {bl : List (Nat × List UInt8)} (h : Raw w b m size bl) : b ≠ m := by
 rintro rfl
 obtain ⟨es, clock, he, _⟩ := h.map
 have := h.head
 rw [he] at this
 cases this
theorem Raw.frm {w w' : World} {S : List Nat} {b m size : Nat} {bl : List (Nat × List UInt8)} (h : Raw w b m size bl) (hf : Frm S w w') (hb : b ∉ S) (hm : m ∉ S) : Raw w' b m size bl :=
 h.keep (hf.block b h.lt hb) (hf.block m h.map.lt hm)
theorem Raw.below {w w' : World} {b m size : Nat} {bl : List (Nat × List UInt8)} (h : Raw w b m size bl) (hf : Below w.heap.size w w') : Raw w' b m size bl :=
 h.keep (hf.block b h.lt) (hf.block m h.map.lt)
theorem Raw.c0 {w : World} {b m size : Nat} {bl : List (Nat × List UInt8)} (h : Raw w b m size bl) : w.cell? ⟨b, 0, none⟩ = some (.int .i64 (size : Int)) := by rw [cell_at h.head]; rfl
theorem Raw.c1 {w : World} {b m size : Nat} {bl : List (Nat × List UInt8)} (h : Raw w b m size bl) : w.cell? ⟨b, 1, none⟩ = some (.map (some m)) := by rw [cell_at h.head]; rfl
theorem Raw.f0 {w : World} {b m size : Nat} {bl : List (Nat × List UInt8)} (h : Raw w b m size bl) (i : Nat) : w.frozen? ⟨b, i, none⟩ = false := by simp [World.frozen?, h.head]
theorem K64 : KeyOk Tryz.prog 3 natK := nat_keyOk Tryz.underlying3
theorem mapT : Tryz.prog.underlying 160 = some (.map 3 165) := Tryz.underlying160
set_option maxHeartbeats 400000 in
theorem new_any (w : World) : Calls Tryz.prog 52 #[] w fun e w' => ∃ b m, e = .returned (.pointer (some ⟨b, 0, none⟩)) ∧ w.heap.size ≤ b ∧ w.heap.size ≤ m ∧ Raw w' b m 0 [] ∧ Below w.heap.size w w' := by
 have hmm := @run_makeMap Tryz.prog
 go_enter Tryz.func52, Tryz.ntmps52
 go_wp2
 go_ret
 refine ⟨w.heap.size + 1, w.heap.size, rfl, by omega, Nat.le_refl _, ⟨?_, ?_, by simp, by omega, by simp⟩, ((Below.refl _ _).alloc (Nat.le_refl _) _).alloc (by simp) _⟩
 ·have h := heap_alloc_new (w.alloc (.map #[] 0)) (.cells #[.int .i64 0, .map (some w.heap.size)] 162)
  simpa using h
 ·exact (mapB_new w natK blkV).of_block (Below.heap_alloc _ _ _ (by simp))
set_option maxHeartbeats 400000 in
theorem size_any {w : World} {b m size : Nat} {bl : List (Nat × List UInt8)} (h : Raw w b m size bl) :
  Calls Tryz.prog 63 #[.pointer (some ⟨b, 0, none⟩)] w fun e w' => e = .returned (.int .i64 (size : Int)) ∧ w = w' := by
 have c0 := h.c0
 clear h
 go_enter Tryz.func63, Tryz.ntmps63
 go_wp2
 go_ret
 exact ⟨rfl, rfl⟩
set_option maxHeartbeats 400000 in
theorem blocks_any {w : World} {b m size : Nat} {bl : List (Nat × List UInt8)} (h : Raw w b m size bl) :
  Calls Tryz.prog 64 #[.pointer (some ⟨b, 0, none⟩)] w fun e w' => e = .returned (.int .i64 (bl.length : Int)) ∧ w = w' := by
 have c1 := h.c1
 have hl := run_len_map (P := Tryz.prog) (ty := 3) mapT h.map
 clear h
 go_enter Tryz.func64, Tryz.ntmps64
 go_wp2
 go_ret
 exact ⟨rfl, rfl⟩
def fitsB (a : Int) (n : Nat) : Bool := decide (0 ≤ a ∧ n ≤ 1048576 ∧ a ≤ 1048576 - n)
set_option maxHeartbeats 400000 in
theorem fits_any (a : Int) (A : Option Addr) (n c : Nat) (hn : n ≤ maxLen) (w : World) :
  Calls Tryz.prog 94 #[.int .i64 a, .slice A n c] w fun e w' => e = .returned (.bool (fitsB a n)) ∧ w = w' := by
 unfold maxLen at hn
 go_enter Tryz.func94, Tryz.ntmps94
 go_wp2
 all_goals (go_ret; refine ⟨ret_bool ?_, rfl⟩)
 all_goals
  unfold fitsB
  first
   | (rw [decide_eq_decide]; omega)
   | (rw [eq_comm, decide_eq_false_iff_not]; omega)
end Go.Proofs.YtpcjmefchclhhaaGreat

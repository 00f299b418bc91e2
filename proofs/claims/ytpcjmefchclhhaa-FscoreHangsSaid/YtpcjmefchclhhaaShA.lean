/- Sheets in memory: a file's size and its blocks. New, Size, Blocks, fits, Need. -/
import Derived.Test.YtpcjmefchclhhaaMap
import Derived.Test.YtpcjmefchclhhaaPure
namespace Go.Proofs.Ytpcjmefchclhhaa
open Go.RowKit Go.MapKept

/-- Of the blocks that were there none but those of S have turned. -/
structure Frm (S : List Nat) (w w' : World) : Prop where
  os : w'.os = w.os
  tape : w'.tape = w.tape
  output : w'.output = w.output
  size : w.heap.size ≤ w'.heap.size
  block : ∀ k, k < w.heap.size → k ∉ S → w'.heap[k]? = w.heap[k]?
theorem Frm.refl (S : List Nat) (w : World) : Frm S w w := ⟨rfl, rfl, rfl, Nat.le_refl _, fun _ _ _ => rfl⟩
theorem Frm.trans {S : List Nat} {a b c : World} (h : Frm S a b) (k : Frm S b c) : Frm S a c :=
  ⟨k.os.trans h.os, k.tape.trans h.tape, k.output.trans h.output, Nat.le_trans h.size k.size, fun i hi hs => (k.block i (Nat.lt_of_lt_of_le hi h.size) hs).trans (h.block i hi hs)⟩
theorem Frm.of_below {S : List Nat} {w w' : World} (h : Below w.heap.size w w') : Frm S w w' := ⟨h.os, h.tape, h.output, h.size, fun k hk _ => h.block k hk⟩
theorem Frm.below {S : List Nat} {w0 w w' : World} {B : Nat} (h : Frm S w w') (hb : Below B w0 w) (hB : B ≤ w.heap.size) (hS : ∀ k ∈ S, B ≤ k) : Below B w0 w' :=
  hb.trans ⟨h.os, h.tape, h.output, h.size, fun k hk => h.block k (by omega) (fun hm => by have := hS k hm; omega)⟩
theorem Frm.mono {S T : List Nat} {w w' : World} (h : Frm S w w') (hST : ∀ k ∈ S, k ∈ T) : Frm T w w' := ⟨h.os, h.tape, h.output, h.size, fun k hk hs => h.block k hk (fun hm => hs (hST k hm))⟩
theorem Frm.setCell {S : List Nat} {a w : World} (h : Frm S a w) {p : Addr} (hp : p.block ∈ S ∨ a.heap.size ≤ p.block) (u : Value) : Frm S a (w.setCell p u) :=
  ⟨h.os, h.tape, h.output, by simpa [World.setCell] using h.size, fun i hi hs => (Below.heap_setCell w p u i (by
    rintro rfl
    rcases hp with hp | hp
    · exact hs hp
    · omega)).trans (h.block i hi hs)⟩
theorem Frm.alloc {S : List Nat} {a w : World} (h : Frm S a w) (o : Obj) : Frm S a (w.alloc o) :=
  ⟨h.os, h.tape, h.output, Nat.le_trans h.size (by simp), fun i hi hs => (Below.heap_alloc w o i (Nat.lt_of_lt_of_le hi h.size)).trans (h.block i hi hs)⟩
theorem Frm.drew {S : List Nat} {a w : World} (h : Frm S a w) : Frm S a w.drew := ⟨h.os, h.tape, h.output, h.size, h.block⟩
theorem Frm.putObj {S : List Nat} {a w : World} (h : Frm S a w) {m : Nat} (hm : m ∈ S ∨ a.heap.size ≤ m) (o : Obj) : Frm S a (putObj w m o) :=
  ⟨h.os, h.tape, h.output, by rw [putObj_size]; exact h.size, fun i hi hs => (putObj_other w o (by
    rintro rfl
    rcases hm with hm | hm
    · exact hs hm
    · omega)).trans (h.block i hi hs)⟩

def byteV (x : UInt8) : Value := .int .u8 (x.toNat : Int)
def byteC (x : UInt8) : List Value := [byteV x]
def blkV (b : List UInt8) : Value := .agg (b.map byteV).toArray

/-- Block b is a sheet of that size, whose map is block m, which holds bl; each of bl has 16 bytes. -/
structure Raw (w : World) (b m size : Nat) (bl : List (Nat × List UInt8)) : Prop where
  head : w.heap[b]? = some (.cells #[.int .i64 (size : Int), .map (some m)] 90 (0, 0))
  map : MapB w m natK blkV bl
  full : ∀ p ∈ bl, p.2.length = 16
  small : size ≤ 1048576
  keys : ∀ p ∈ bl, p.1 < 65536

theorem Raw.keep {w w' : World} {b m size : Nat} {bl : List (Nat × List UInt8)} (h : Raw w b m size bl) (hb : w'.heap[b]? = w.heap[b]?) (hm : w'.heap[m]? = w.heap[m]?) : Raw w' b m size bl :=
  ⟨hb.trans h.head, h.map.of_block hm, h.full, h.small, h.keys⟩
theorem Raw.lt {w : World} {b m size : Nat} {bl : List (Nat × List UInt8)} (h : Raw w b m size bl) : b < w.heap.size := (Array.getElem?_eq_some_iff.1 h.head).1
theorem Raw.ne {w : World} {b m size : Nat} {bl : List (Nat × List UInt8)} (h : Raw w b m size bl) : b ≠ m := by
  rintro rfl
  obtain ⟨es, clock, he, _⟩ := h.map
  have := h.head
  rw [he] at this
  cases this
theorem Raw.frm {w w' : World} {S : List Nat} {b m size : Nat} {bl : List (Nat × List UInt8)} (h : Raw w b m size bl) (hf : Frm S w w') (hb : b ∉ S) (hm : m ∉ S) : Raw w' b m size bl :=
  h.keep (hf.block b h.lt hb) (hf.block m h.map.lt hm)
theorem Raw.below {w w' : World} {b m size : Nat} {bl : List (Nat × List UInt8)} (h : Raw w b m size bl) (hf : Below w.heap.size w w') : Raw w' b m size bl :=
  h.keep (hf.block b h.lt) (hf.block m h.map.lt)
theorem Raw.c0 {w : World} {b m size : Nat} {bl : List (Nat × List UInt8)} (h : Raw w b m size bl) : w.cell? ⟨b, 0, none⟩ = some (.int .i64 (size : Int)) := by rw [cell_at h.head]; rfl
theorem Raw.c1 {w : World} {b m size : Nat} {bl : List (Nat × List UInt8)} (h : Raw w b m size bl) : w.cell? ⟨b, 1, none⟩ = some (.map (some m)) := by rw [cell_at h.head]; rfl
theorem Raw.f0 {w : World} {b m size : Nat} {bl : List (Nat × List UInt8)} (h : Raw w b m size bl) (i : Nat) : w.frozen? ⟨b, i, none⟩ = false := by simp [World.frozen?, h.head]

theorem K64 : KeyOk Try.prog 3 natK := nat_keyOk Try.underlying3
theorem mapT : Try.prog.underlying 88 = some (.map 3 94) := Try.underlying88

set_option maxHeartbeats 400000 in
theorem new_any (w : World) : Calls Try.prog 13 #[] w fun e w' => ∃ b m, e = .returned (.pointer (some ⟨b, 0, none⟩)) ∧ w.heap.size ≤ b ∧ w.heap.size ≤ m ∧ Raw w' b m 0 [] ∧ Below w.heap.size w w' := by
  have hmm := @run_makeMap Try.prog
  go_enter Try.func13, Try.ntmps13
  go_wp2
  go_ret
  refine ⟨w.heap.size + 1, w.heap.size, rfl, by omega, Nat.le_refl _, ⟨?_, ?_, by simp, by omega, by simp⟩, ((Below.refl _ _).alloc (Nat.le_refl _) _).alloc (by simp) _⟩
  · have h := heap_alloc_new (w.alloc (.map #[] 0)) (.cells #[.int .i64 0, .map (some w.heap.size)] 90)
    simpa using h
  · exact (mapB_new w natK blkV).of_block (Below.heap_alloc _ _ _ (by simp))

set_option maxHeartbeats 400000 in
theorem size_any {w : World} {b m size : Nat} {bl : List (Nat × List UInt8)} (h : Raw w b m size bl) :
    Calls Try.prog 22 #[.pointer (some ⟨b, 0, none⟩)] w fun e w' => e = .returned (.int .i64 (size : Int)) ∧ w = w' := by
  have c0 := h.c0
  clear h
  go_enter Try.func22, Try.ntmps22
  go_wp2
  go_ret
  exact ⟨rfl, rfl⟩

set_option maxHeartbeats 400000 in
theorem blocks_any {w : World} {b m size : Nat} {bl : List (Nat × List UInt8)} (h : Raw w b m size bl) :
    Calls Try.prog 21 #[.pointer (some ⟨b, 0, none⟩)] w fun e w' => e = .returned (.int .i64 (bl.length : Int)) ∧ w = w' := by
  have c1 := h.c1
  have hl := run_len_map (P := Try.prog) (ty := 3) mapT h.map
  clear h
  go_enter Try.func21, Try.ntmps21
  go_wp2
  go_ret
  exact ⟨rfl, rfl⟩

def fitsB (a : Int) (n : Nat) : Bool := decide (0 ≤ a ∧ n ≤ 1048576 ∧ a ≤ 1048576 - n)

set_option maxHeartbeats 400000 in
theorem fits_any (a : Int) (A : Option Addr) (n c : Nat) (hn : n ≤ maxLen) (w : World) :
    Calls Try.prog 46 #[.int .i64 a, .slice A n c] w fun e w' => e = .returned (.bool (fitsB a n)) ∧ w = w' := by
  unfold maxLen at hn
  go_enter Try.func46, Try.ntmps46
  go_wp2
  all_goals (go_ret; refine ⟨ret_bool ?_, rfl⟩)
  all_goals
    unfold fitsB
    first
      | (rw [decide_eq_decide]; omega)
      | (rw [eq_comm, decide_eq_false_iff_not]; omega)

end Go.Proofs.Ytpcjmefchclhhaa

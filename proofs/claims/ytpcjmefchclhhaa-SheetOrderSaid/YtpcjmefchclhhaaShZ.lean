/- Words for the laws that read: what Read gives as the caller's own bytes, and bytes that are turned. -/
import Derived.Test.YtpcjmefchclhhaaShY
import Derived.Deep.RegionHeld3
namespace Go.Proofs.Ytpcjmefchclhhaa
open Go.RowKit Go.MapKept

/-- Read's slice as a block of the caller's own. -/
theorem read_own {w : World} {b m size : Nat} {bl : List (Nat × List UInt8)} {B : List UInt8} {On : List Nat} (h : Raw w b m size bl) (hs : SameS size bl B On) (a n : Int) :
    Calls Try.prog 17 #[.pointer (some ⟨b, 0, none⟩), .int .i64 a, .int .i64 n] w
      fun e w' => ∃ P, e = .returned (.slice P (rreadL B a n).length (rreadL B a n).length) ∧ (P = none ∧ rreadL B a n = [] ∨ ∃ g, w.heap.size ≤ g ∧ P = some ⟨g, 0, none⟩ ∧ w'.heap[g]? = some (.cells ((rreadL B a n).map byteV).toArray 5 (0, 0))) ∧ Below w.heap.size w w' := by
  refine (read_any h a n).mono fun e w' ⟨h1, h2, h3⟩ => ?_
  cases hf : readOk size a n
  · have hE : rreadL B a n = [] := by unfold rreadL; rw [hs.len, hf]; rfl
    rw [hE]
    exact ⟨none, h1 hf, .inl ⟨rfl, rfl⟩, h3⟩
  · obtain ⟨g, hg, he, hc⟩ := h2 hf
    obtain ⟨g0, g1, g2⟩ := of_decide_eq_true hf
    have hE : rreadL B a n = readL bl a.toNat (min n.toNat (size - a.toNat)) := by
      unfold rreadL
      rw [hs.len, hf, if_pos rfl, same_read hs _ _ (by omega), List.take_eq_take_iff]
      simp [hs.len]
    rw [hE, readL_len]
    exact ⟨_, he, .inr ⟨g, hg, rfl, hc⟩, h3⟩
theorem rd_bytes {w : World} {g : Nat} {L : List UInt8} (hg : w.heap[g]? = some (.cells (L.map byteV).toArray 5 (0, 0))) : Rd w w.heap.size 1 byteC (some ⟨g, 0, none⟩) L :=
  rd_block hg (Array.getElem?_eq_some_iff.1 hg).1 (fun i x hx j v hv => by
    match j, hv with
    | 0, hv =>
      have hv' : v = byteV x := by simpa [byteC] using hv.symm
      subst hv'
      simp [hx]
    | j + 1, hv => simp [byteC] at hv)
theorem own_rdP {w : World} {P : Option Addr} {L : List UInt8} {B : Nat} (h : P = none ∧ L = [] ∨ ∃ g, B ≤ g ∧ P = some ⟨g, 0, none⟩ ∧ w.heap[g]? = some (.cells (L.map byteV).toArray 5 (0, 0))) : Rd w w.heap.size 1 byteC P L := by
  rcases h with ⟨rfl, rfl⟩ | ⟨g, _, rfl, hc⟩
  · exact Rd.nil _ _ _ _ _
  · exact rd_bytes hc
/-- What is left of the block of bytes that is being turned: all cells from i on are bytes. -/
def Turns (w : World) (g N i : Nat) : Prop := ∃ cs : Array Value, w.heap[g]? = some (.cells cs 5 (0, 0)) ∧ ∀ j, i ≤ j → j < N → ∃ x : UInt8, cs[j]? = some (byteV x)
theorem Turns.cell {w : World} {g N i : Nat} (h : Turns w g N i) (hi : i < N) : (∃ x : UInt8, w.cell? ⟨g, i, none⟩ = some (byteV x)) ∧ w.frozen? ⟨g, i, none⟩ = false ∧ g < w.heap.size := by
  obtain ⟨cs, hg, hc⟩ := h
  obtain ⟨x, hx⟩ := hc i (Nat.le_refl _) hi
  exact ⟨⟨x, by rw [cell_at hg]; exact hx⟩, frozen_of_row w g i cs _ hg, (Array.getElem?_eq_some_iff.1 hg).1⟩
theorem Turns.set {w : World} {g N i : Nat} (h : Turns w g N i) (u : Value) : Turns (w.setCell ⟨g, i, none⟩ u) g N (i + 1) := by
  obtain ⟨cs, hg, hc⟩ := h
  refine ⟨_, heap_setCell_same w g i cs _ u hg, fun j hj hjn => ?_⟩
  obtain ⟨x, hx⟩ := hc j (by omega) hjn
  exact ⟨x, by rw [Array.getElem?_setIfInBounds, if_neg (by omega)]; exact hx⟩
theorem Turns.keep {w w' : World} {g N i : Nat} (h : Turns w g N i) (he : w'.heap[g]? = w.heap[g]?) : Turns w' g N i := by
  obtain ⟨cs, hg, hc⟩ := h
  exact ⟨cs, he.trans hg, hc⟩
theorem own_turns {w : World} {base n c g : Nat} {l : List UInt8} (h : Own w base 5 1 byteC (.slice (some ⟨g, 0, none⟩) n c) l) : Turns w g l.length 0 := by
  rcases h.2 with ⟨hv, _⟩ | ⟨g', cap, cur, e1, _, hg, _, _, _, ht⟩
  · cases hv
  · obtain ⟨e2, -, -⟩ := Value.slice.inj e1
    obtain rfl : g = g' := by injection e2 with e2; injection e2
    refine ⟨cur, hg, fun j _ hj => ⟨l[j], ?_⟩⟩
    have h1 := flat_get (f := byteC) (sz := 1) (fun _ => rfl) l j l[j] (List.getElem?_eq_getElem hj) 0 (byteV l[j]) rfl
    rw [← ht, List.getElem?_take] at h1
    split at h1
    · simpa using h1
    · cases h1
/-- A nil slice has no length and no room. -/
theorem slice_nil {W : World} {H : Type} {enc : TypeId × Value → H} {t e : TypeId} (ht : Try.prog.underlying t = some (.slice e)) {A : Option Addr} {n c : Nat} {d : DataW H} {p : List MemPlace} (h : DataW.Trod enc Try.prog W 0 (fun _ => true) true t (.slice A n c) d p) : A = none → c = 0 := by
  obtain ⟨fuel, hf⟩ := h
  rcases Go.Deep.open_slice ht hf with ⟨hcs, _⟩ | ⟨a, len', cap', m, n, D, Pl, hcs, _, hl, hm, hmm, hdd, hi⟩
  · simp [Value.cells] at hcs
    exact fun _ => hcs.2.2
  · simp [Value.cells] at hcs
    obtain ⟨rfl, rfl, rfl⟩ := hcs
    exact fun h => by cases h
/-- What is held in a region may be strengthened on the way. -/
theorem wpAnyH_weaken {P : Program} {md : Region.Mode} {ops : Array Oper} {Q : Exit → Act → World → Prop} {S S' : World → Prop} (hS : ∀ w, S w → S' w) : ∀ (fuel : Nat) (listed : Array Bool) (a : Act) (w : World), wpAnyH P md ops Q S fuel listed a w → wpAnyH P md ops Q S' fuel listed a w
  | 0, _, _, _, h => h
  | fuel + 1, _, _, _, h => ⟨h.1, fun i hi => wpOp_mono (fun a' w' h' => ⟨hS _ h'.1, wpAnyH_weaken hS fuel _ a' w' h'.2⟩) (h.2 i hi)⟩
theorem rread_all {B : List UInt8} (h : B.length ≤ 1048576) : rreadL B 0 1048576 = B := by
  unfold rreadL
  cases hf : readOk B.length 0 1048576
  · have := of_decide_eq_false hf
    have hz : B.length = 0 := by omega
    rw [List.eq_nil_of_length_eq_zero hz]; simp
  · simp only [if_true, Int.toNat_zero, List.drop_zero]
    exact List.take_of_length_le (by omega)
theorem rread_back {B b : List UInt8} {a : Nat} (hb : 0 < b.length) (hf : fitsB a b.length = true) : rreadL (rwB B a b) a b.length = b := by
  have hl : (rwB B a b).length = max B.length (a + b.length) := by
    unfold rwB; rw [if_pos ⟨hf, hb⟩, length_splice _ _ _ (by rw [padTo_len, Int.toNat_natCast]; omega), padTo_len, Int.toNat_natCast]
  unfold rreadL
  rw [show readOk (rwB B a b).length (a : Int) (b.length : Int) = true from decide_eq_true (by rw [hl]; omega), if_pos rfl]
  rw [Int.toNat_natCast, Int.toNat_natCast]
  unfold rwB
  rw [if_pos ⟨hf, hb⟩, Int.toNat_natCast]
  unfold splice
  rw [List.drop_append, List.length_take, padTo_len, List.drop_eq_nil_of_le (by rw [List.length_take, padTo_len]; omega), List.nil_append, show a - min a (max B.length (a + b.length)) = 0 by omega, List.drop_zero, List.take_left']
  rfl
theorem rwB_len {B b : List UInt8} {a : Nat} : B.length ≤ (rwB B a b).length := by
  unfold rwB
  split
  · rw [length_splice _ _ _ (by rw [padTo_len, Int.toNat_natCast]; omega), padTo_len]; omega
  · exact Nat.le_refl _
theorem rwB_else {B b : List UInt8} {a i : Nat} (hi : i < a ∨ a + b.length ≤ i) (hB : i < B.length) (h2 : i < (rwB B a b).length) : (rwB B a b)[i] = B[i] := by
  have h : (rwB B a b).getD i 0 = B.getD i 0 := by
    unfold rwB
    split
    · rw [getD_splice _ _ _ (by rw [padTo_len, Int.toNat_natCast]; omega), Int.toNat_natCast, if_neg (by omega), getD_padTo]
    · rfl
  rw [List.getD_eq_getElem?_getD, List.getD_eq_getElem?_getD, List.getElem?_eq_getElem h2, List.getElem?_eq_getElem hB] at h
  simpa using h

end Go.Proofs.Ytpcjmefchclhhaa

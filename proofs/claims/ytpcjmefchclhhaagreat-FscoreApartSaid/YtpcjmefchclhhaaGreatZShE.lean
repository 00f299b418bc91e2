/- A part of the proof. -/
import Derived.Test.YtpcjmefchclhhaaGreatZShD
import Derived.Test.YtpcjmefchclhhaaGreatZShelf
namespace Go.Proofs.YtpcjmefchclhhaaGreat
open Go.RowKit Go.MapKept Go.Shelf Go.Sort Go.Maps
theorem nodup_lt : ∀ (n : Nat) (l : List Nat), l.Nodup → (∀ x ∈ l, x < n) → l.length ≤ n
 | 0, [], _, _ => by simp
 | 0, x :: l, _, h => absurd (h x (by simp)) (by omega)
 | n + 1, l, hn, h => by
  by_cases hm : n ∈ l
  ·have h1 := nodup_lt n (l.erase n) (hn.erase n) (fun x hx => by
    have := (List.Nodup.mem_erase_iff hn).1 hx
    have := h x this.2
    omega)
   rw [List.length_erase_of_mem hm] at h1
   omega
  ·have h1 := nodup_lt n l hn (fun x hx => by
    have := h x hx
    have : x ≠ n := fun e => hm (e ▸ hx)
    omega)
   omega
def keysS (bl : List (Nat × List UInt8)) : List Nat := (bl.map (·.1)).mergeSort (fun x y => decide (x ≤ y))
theorem keysS_perm (bl : List (Nat × List UInt8)) : (keysS bl).Perm (bl.map (·.1)) := List.mergeSort_perm _ _
theorem keysS_sorted (bl : List (Nat × List UInt8)) : (keysS bl).Pairwise (· ≤ ·) := by
 have h := List.pairwise_mergeSort (le := fun x y : Nat => decide (x ≤ y)) (fun a b c h1 h2 => by simp at *; omega) (fun a b => by simp; omega) (bl.map (·.1))
 exact h.imp (fun h => by simpa using h)
theorem sort_ints {ss : List Int} {bl : List (Nat × List UInt8)} (h : ss.Perm ((bl.map (·.1)).map Int.ofNat)) : ss.mergeSort (fun x y => decide (x ≤ y)) = (keysS bl).map Int.ofNat := by
 refine List.Perm.eq_of_pairwise (le := fun a b : Int => a ≤ b) (fun a b _ _ h1 h2 => by omega) ?_ ?_ (((List.mergeSort_perm ss _).trans h).trans ((keysS_perm bl).map _).symm)
 ·have h := List.pairwise_mergeSort (le := fun x y : Int => decide (x ≤ y)) (fun a b c h1 h2 => by simp at *; omega) (fun a b => by simp; omega) ss
  exact h.imp (fun h => by simpa using h)
 ·exact List.pairwise_map.2 ((keysS_sorted bl).imp (fun h => by exact Int.ofNat_le.2 h))
def noR (_ : Value) : Option (DataW Unit × List MemPlace) := some (.lit (.bool false), [])
theorem owns_of {w : World} {m : Nat} {bl : List (Nat × List UInt8)} (h : MapB w m natK blkV bl) (hk : ∀ p ∈ bl, p.1 < 65536) (hl : bl.length ≤ maxLen) :
  ∃ D : DataW Unit, w.ownsMap Tryz.prog 3 noR m bl.length D ∧ Maps.size D = bl.length ∧ (intKeys D).Perm ((bl.map (·.1)).map Int.ofNat) := by
 obtain ⟨es, clock, hb, hst, he⟩ := h
 have hsz : es.size = bl.length := by
  have := congrArg List.length he
  simpa using this
 have hrd : ∀ k : Nat, k < 65536 → keyOf Tryz.prog 3 (natK k) = some (.int .i64 (k : Int)) := fun k hk => by
  have hu : Tryz.prog.underlying 3 = some (.int .i64) := Tryz.underlying3
  have hw : (Lit.int .i64 (k : Int)).wf = true := by
   simp only [Lit.wf, IntKind.max_i64, show IntKind.i64.min = -9223372036854775808 from rfl, Bool.and_eq_true, decide_eq_true_eq]
   omega
  simp [keyOf, hu, mapKey, natK, hw]
 have hmap : es.toList.map (WideElems.rg Tryz.prog 3 noR) = bl.map fun p => (Lit.int .i64 (p.1 : Int), (DataW.lit (.bool false) : DataW Unit)) := by
  apply List.ext_getElem?
  intro i
  have h1 := congrArg (·[i]?) he
  simp only [List.getElem?_map] at h1 ⊢
  cases hx : es.toList[i]? with
  | none =>
   cases hy : bl[i]? with
   | none => rfl
   | some q => rw [hx, hy] at h1; cases h1
  | some x =>
   cases hy : bl[i]? with
   | none => rw [hx, hy] at h1; cases h1
   | some q =>
    rw [hx, hy] at h1
    simp only [Option.map_some, Option.some.injEq, Prod.mk.injEq] at h1
    have hq := hk q (List.mem_of_getElem? hy)
    simp [WideElems.rg, WideElems.rd, h1.1, hrd _ hq, noR]
 refine ⟨.map ((es.toList.map (WideElems.rg Tryz.prog 3 noR)).foldr DataW.insert []), ⟨es, clock, hb, ⟨by omega, hst, fun x hx => ?_⟩, by omega, rfl⟩, ?_, ?_⟩
 ·obtain ⟨i, hi⟩ := List.getElem?_of_mem hx
  have h1 := congrArg (·[i]?) he
  simp only [List.getElem?_map, hi, Option.map_some] at h1
  cases hy : bl[i]? with
  | none => rw [hy] at h1; cases h1
  | some q =>
   rw [hy] at h1
   simp only [Option.map_some, Option.some.injEq, Prod.mk.injEq] at h1
   have hq := hk q (List.mem_of_getElem? hy)
   exact ⟨(.int .i64 (q.1 : Int), .lit (.bool false)), by simp [WideElems.rd, h1.1, hrd _ hq, noR]⟩
 ·show (List.foldr DataW.insert [] _).length = _
  rw [(WideShapes.sorted_perm _).length_eq, hmap, List.length_map]
 ·show (List.map _ (List.foldr DataW.insert [] _)).Perm _
  refine ((WideShapes.sorted_perm _).map _).trans ?_
  rw [hmap, List.map_map, List.map_map]
  exact List.Perm.of_eq rfl
theorem sortsL (m : Nat) : AnyZI.SortsIn Tryz.prog Tryz.sortedL_ren Fence.wide m :=
 ⟨fun blk off cap ss W hH hblk hsz => callsIn_wide.2 (AnyM.slices_Sort_int Tryz.sortL blk off cap ss W hH hblk hsz),
  fun p cap W => callsIn_wide.2 (AnyM.slices_Sort_int_none Tryz.sortL p cap W)⟩
def numC (k : Nat) : List Value := [.int .i64 (k : Int)]
set_option maxHeartbeats 1000000 in
theorem order_any {w : World} {b m size : Nat} {bl : List (Nat × List UInt8)} (h : Raw w b m size bl) :
  Calls Tryz.prog 105 #[.pointer (some ⟨b, 0, none⟩)] w
   fun e w' => ∃ A c, e = .returned (.slice A (keysS bl).length c) ∧ Rd w' w'.heap.size 1 numC A (keysS bl) ∧ (∀ a, A = some a → w.heap.size ≤ a.block) ∧ Below w.heap.size w w' := by
 refine (callsIn_wide (n := 6)).1 ?_
 have hkeys : bl.length ≤ 65536 := by
  have := nodup_lt 65536 (bl.map (·.1)) h.map.nodup (fun x hx => by
   obtain ⟨p, hp, rfl⟩ := List.mem_map.1 hx
   exact h.keys p hp)
  simpa using this
 have hml : bl.length ≤ maxLen := by unfold maxLen; omega
 have hmb := h.map.lt
 obtain ⟨D, hown, hD1, hD2⟩ := owns_of h.map h.keys hml
 have c1 := h.c1
 have hseq : SeqGives Fence.wide 2 Tryz.prog 129 #[.pointer (some ⟨w.heap.size, 0, none⟩)] encZ (fun ss => ss.Perm (intKeys D)) (Maps.size D) (w.alloc (.cells #[.map (some m)] 160)) :=
  AnyZI.keys_gives (ρ := Tryz.keysL_ren) { Tryz.keysL with } Fence.wide _ trivial rfl (by omega) w.heap.size m bl.length D _ (by simp) (by simp) (by
   obtain ⟨es, clock, hb, Ft, hs, hD⟩ := hown
   exact ⟨es, clock, (Below.heap_alloc _ _ m hmb).trans hb, Ft, hs, hD⟩)
 have cK : ∀ mb W, CallsIn Fence.wide 5 Tryz.prog 120 #[.map mb] W fun e w' => e = .returned (.func (.func 129) #[] #[.pointer (some ⟨W.heap.size, 0, none⟩)]) ∧ w' = W.alloc (.cells #[.map mb] 160) := fun mb W => AnyZI.keys_in Tryz.keysL Fence.wide 5 trivial rfl mb W
 have cS := AnyZI.sorted_in Tryz.sortedL Fence.wide 5 trivial trivial trivial trivial rfl (by omega) (sortsL _) (enters_of Tryz.func128 (by kernel_rfl) rfl) 129 #[.pointer (some ⟨w.heap.size, 0, none⟩)] trivial (enters_of Tryz.func129 (by kernel_rfl) rfl) _ _ (by omega) (by omega) _ hseq
 change CallsIn _ _ Tryz.prog 119 _ _ _ at cS
 have HD1 := Lib.hid hD1
 have HD2 := Lib.hid hD2
 have hfK : Fence.wide.fn 120 := trivial
 have hfS : Fence.wide.fn 119 := trivial
 clear h hD1 hD2 hseq hown
 refine callsIn_of_wp Tryz.func105 rfl trivial ?_ rfl
 simp only [Tryz.ntmps105, List.size_toArray, List.length_cons, List.length_nil, Nat.reduceAdd, Nat.reduceSub, Array.replicate_succ, Array.replicate_zero, List.push_toArray, List.append_toArray, List.nil_append, List.cons_append]
 gi_wp2_with (first
  | (gi_at_call 120; refine (cK _ _).mono ?_; rintro e w' ⟨rfl, rfl⟩)
  | (gi_at_call 119; refine cS.mono ?_; rintro e w' ⟨v, ss, rfl, hS, hrow, hnil, hb⟩))
 go_ret
 have hB : Below w.heap.size w w' := ((Below.refl _ w).alloc (Nat.le_refl _) _).trans (hb.mono (by simp))
 have hp := hS.trans HD2.out
 have hlen : ss.length = (keysS bl).length := by
  rw [hp.length_eq, List.length_map, ← (keysS_perm bl).length_eq]
 rw [sort_ints hp] at hrow
 rcases hrow.2 with ⟨rfl, hz⟩ | ⟨g, cap, cur, rfl, hg, hgb, r1, r2, r3, r4⟩
 ·have hk0 : keysS bl = [] := List.eq_nil_of_length_eq_zero (by omega)
  exact ⟨none, 0, by rw [hk0]; rfl, by rw [hk0]; exact Rd.nil _ _ _ _ _, by simp, hB⟩
 ·refine ⟨some ⟨g, 0, none⟩, cap, by rw [hlen]; rfl, ?_, fun a ha => by injection ha with ha; subst ha; simp at hg ⊢; omega, hB⟩
  refine rd_block hgb (Array.getElem?_eq_some_iff.1 hgb).1 (fun i x hx j v hv => ?_)
  match j, hv with
  | 0, hv =>
   have hv' : v = .int .i64 (x : Int) := by simpa [numC] using hv.symm
   subst hv'
   have h4 := congrArg (·[i]?) r4
   simp only [List.getElem?_take, List.getElem?_map, hx, Option.map_some] at h4
   split at h4
   ·rw [Nat.mul_one, Nat.add_zero]; simpa using h4
   ·cases h4
  | j + 1, hv => simp [numC] at hv
end Go.Proofs.YtpcjmefchclhhaaGreat

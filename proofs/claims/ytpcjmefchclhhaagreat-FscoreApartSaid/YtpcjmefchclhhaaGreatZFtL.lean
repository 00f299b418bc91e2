/- A part of the proof. -/
import Derived.Test.YtpcjmefchclhhaaGreatFsXW
import Derived.Test.YtpcjmefchclhhaaGreatZKeysS
namespace Go.Proofs.YtpcjmefchclhhaaGreat
open Go.RowKit Go.MapKept Go.Shelf Go.Sort Go.Maps
def sortedN (l : List (ByteArray × Int)) : List (List UInt8) := (l.map fun p => p.1.data.toList).mergeSort (fun x y => decide (x ≤ y))
theorem sortedN_perm (l : List (ByteArray × Int)) : (sortedN l).Perm (l.map fun p => p.1.data.toList) := List.mergeSort_perm _ _
theorem leB_total (a b : List UInt8) : (decide (a ≤ b) || decide (b ≤ a)) = true := by
 rcases List.le_total a b with h | h <;> simp [h]
theorem leB_trans (a b c : List UInt8) (h1 : decide (a ≤ b) = true) (h2 : decide (b ≤ c) = true) : decide (a ≤ c) = true := by
 simp at *
 exact List.le_trans h1 h2
theorem sort_names {ss : List (List UInt8)} {l : List (ByteArray × Int)} (h : ss.Perm (l.map fun p => p.1.data.toList)) : ss.mergeSort (fun x y => decide (x ≤ y)) = sortedN l := by
 refine List.Perm.eq_of_pairwise (le := fun a b : List UInt8 => a ≤ b) (fun a b _ _ h1 h2 => List.le_antisymm h1 h2) ?_ ?_ (((List.mergeSort_perm ss _).trans h).trans (sortedN_perm l).symm)
 ·exact (List.pairwise_mergeSort leB_trans leB_total ss).imp (fun h => by simpa using h)
 ·exact (List.pairwise_mergeSort leB_trans leB_total _).imp (fun h => by simpa using h)
def noRS (_ : Value) : Option (DataW Unit × List MemPlace) := some (.lit (.bool false), [])
theorem owns_names {w : World} {m : Nat} {l : List (ByteArray × Int)} (h : MapB w m strK intK l) (hk : ∀ p ∈ l, p.1.size ≤ maxLen) (hl : l.length ≤ maxLen) :
  ∃ D : DataW Unit, w.ownsMap Tryz.prog 9 noRS m l.length D ∧ Maps.size D = l.length ∧ (strKeys D).Perm (l.map fun p => p.1.data.toList) := by
 obtain ⟨es, clock, hb, hst, he⟩ := h
 have hsz : es.size = l.length := by
  have := congrArg List.length he
  simpa using this
 have hrd : ∀ s : ByteArray, s.size ≤ maxLen → keyOf Tryz.prog 9 (strK s) = some (.string s.data.toList) := fun s hs => by
  have hu : Tryz.prog.underlying 9 = some .string := Tryz.underlying9
  simp [keyOf, hu, mapKey, strK, hs]
 have hmap : es.toList.map (WideElems.rg Tryz.prog 9 noRS) = l.map fun p => (Lit.string p.1.data.toList, (DataW.lit (.bool false) : DataW Unit)) := by
  apply List.ext_getElem?
  intro i
  have h1 := congrArg (·[i]?) he
  simp only [List.getElem?_map] at h1 ⊢
  cases hx : es.toList[i]? with
  | none =>
   cases hy : l[i]? with
   | none => rfl
   | some q => rw [hx, hy] at h1; cases h1
  | some x =>
   cases hy : l[i]? with
   | none => rw [hx, hy] at h1; cases h1
   | some q =>
    rw [hx, hy] at h1
    simp only [Option.map_some, Option.some.injEq, Prod.mk.injEq] at h1
    have hq := hk q (List.mem_of_getElem? hy)
    simp [WideElems.rg, WideElems.rd, h1.1, hrd _ hq, noRS]
 refine ⟨.map ((es.toList.map (WideElems.rg Tryz.prog 9 noRS)).foldr DataW.insert []), ⟨es, clock, hb, ⟨by omega, hst, fun x hx => ?_⟩, by omega, rfl⟩, ?_, ?_⟩
 ·obtain ⟨i, hi⟩ := List.getElem?_of_mem hx
  have h1 := congrArg (·[i]?) he
  simp only [List.getElem?_map, hi, Option.map_some] at h1
  cases hy : l[i]? with
  | none => rw [hy] at h1; cases h1
  | some q =>
   rw [hy] at h1
   simp only [Option.map_some, Option.some.injEq, Prod.mk.injEq] at h1
   have hq := hk q (List.mem_of_getElem? hy)
   exact ⟨(.string q.1.data.toList, .lit (.bool false)), by simp [WideElems.rd, h1.1, hrd _ hq, noRS]⟩
 ·show (List.foldr DataW.insert [] _).length = _
  rw [(WideShapes.sorted_perm _).length_eq, hmap, List.length_map]
 ·show (List.map _ (List.foldr DataW.insert [] _)).Perm _
  refine ((WideShapes.sorted_perm _).map _).trans ?_
  rw [hmap, List.map_map]
  exact List.Perm.of_eq rfl
theorem sortsSL (m : Nat) : AnyZ.SortsIn Tryz.prog Tryz.sortedSL_ren Fence.wide m :=
 ⟨fun blk off cap ss W hH hblk hsz => callsIn_wide.2 (AnyM.slices_Sort_string Tryz.sortSL blk off cap ss W hH hblk hsz),
  fun p cap W => callsIn_wide.2 (AnyM.slices_Sort_string_none Tryz.sortSL p cap W)⟩
def strC (s : List UInt8) : List Value := [.string ⟨s.toArray⟩]
def ListR (w w' : World) (r : RFs) (h : Int × Int) (e : Ending) : Prop :=
 if folderE r h ≠ 0 then e = .returned (.tuple #[.slice none 0 0, .int .i64 (folderE r h)])
 else ∃ A c, e = .returned (.tuple #[.slice A (sortedN (namesP r.nms h.1)).length c, .int .i64 0]) ∧ Rd w' w'.heap.size 1 strC A (sortedN (namesP r.nms h.1)) ∧ (∀ a, A = some a → w.heap.size ≤ a.block) ∧ (∀ a, A = some a → a = ⟨a.block, 0, none⟩) ∧ (sortedN (namesP r.nms h.1)).length ≤ c ∧ (A = none → c = 0)
theorem listR_err {w w' : World} {r : RFs} {h : Int × Int} {k : Int} (hE : folderE r h = k) (hk : k ≠ 0) : ListR w w' r h (.returned (.tuple #[.slice none 0 0, .int .i64 k])) := by
 unfold ListR
 rw [hE, if_pos hk]
set_option maxHeartbeats 4000000 in
theorem list_any {w : World} {f mi mg K : Nat} {r : RFs} {N : List Nd} (h : FsN w f mi mg r N) (hW : Wf r K) (hK : K ≤ 1000000) (i g : Int) :
  Calls Tryz.prog 33 #[.pointer (some ⟨f, 0, none⟩), .agg #[.int .i64 i, .int .i64 g]] w fun e w' => ListR w w' r (i, g) e ∧ Below w.heap.size w w' := by
 refine (callsIn_wide (n := 6)).1 ?_
 obtain ⟨w1, hw1, hB, hs1, hb0⟩ := box1 w #[.int .i64 i, .int .i64 g] 37
 have t0 : w1.cell? ⟨w.heap.size, 0, none⟩ = some (.int .i64 i) := by rw [cell_at hb0]; rfl
 have t1 : w1.cell? ⟨w.heap.size, 1, none⟩ = some (.int .i64 g) := by rw [cell_at hb0]; rfl
 have h1 := h.below hW hB
 have HW1 := Lib.hid hw1
 have HB := Lib.hid hB
 have hffind : Fence.wide.fn 59 := trivial
 have hfdir : Fence.wide.fn 60 := trivial
 cases hl : liveP r (i, g)
 ·have hE : folderE r (i, g) = 175 := by unfold folderE; rw [hl]; rfl
  have HFd := Lib.hid (callsIn_wide (n := 5).2 (find_no h1 hW i g hl))
  have HE := Lib.hid hE
  clear hw1 hB hb0 h1 h hW hl hE
  refine callsIn_of_wp Tryz.func33 rfl trivial ?_ rfl
  simp only [Tryz.ntmps33, List.size_toArray, List.length_cons, List.length_nil, Nat.reduceAdd, Nat.reduceSub, Array.replicate_succ, Array.replicate_zero, List.push_toArray, List.append_toArray, List.nil_append, List.cons_append]
  gi_wp2_with fail
  rw [HW1.out]
  gi_wp2_with (gi_at_call 59; (with_reducible refine HFd.out.mono ?_); rintro e w2 ⟨rfl, hB2⟩)
  go_ret2
  exact ⟨listR_err HE.out (by decide), HB.out.trans (hB2.mono HB.out.size)⟩
 ·obtain ⟨m1, m2, m3⟩ := live_mem hl
  obtain ⟨n, hn, hr⟩ := h1.at_ hW m1
  have HFd := Lib.hid (callsIn_wide (n := 5).2 (find_yes h1 hW i g hl hn (hr.id.trans m2)))
  unfold ptrV at HFd
  have hxk := hW.kind _ m1
  have HX := Lib.hid (show ∀ w3, Below w1.heap.size w1 w3 → NodeR w3 r (byIdP r.ins i) n from fun w3 hb => hr.below hxk hb)
  have HXi := Lib.hid m2
  have HMk := Lib.hid (show ∀ p ∈ namesP r.nms i, p.1.size ≤ maxLen from fun p hp => by
   unfold namesP at hp
   obtain ⟨q, hq, rfl⟩ := List.mem_map.1 hp
   have := hW.nmV q (List.mem_filter.1 hq).1
   unfold validP at this
   simp only [Bool.and_eq_true, decide_eq_true_eq] at this
   have h60 := this.1.2.1
   unfold maxLen
   show q.name.size ≤ _
   omega)
  have hML : (namesP r.nms i).length ≤ 1000000 := by
   rw [namesP_len]
   have h2 := List.countP_le_length (p := fun n : RNm => decide (n.dir = i)) (l := r.nms)
   have h3 := hW.nmK
   unfold manyP
   omega
  obtain ⟨x, hxe⟩ : ∃ x, byIdP r.ins i = x := ⟨_, rfl⟩
  rw [hxe] at m1 m2 m3 hr hxk HX HXi
  clear HXi
  have HXi := Lib.hid m2
  have hDr := Lib.hid (show ∀ w3, Below w1.heap.size w1 w3 → Calls Tryz.prog 60 #[.pointer (some ⟨n.blk, 0, none⟩)] w3 fun e w' => e = .returned (if x.kind = 2 then .tuple #[ptrV n.b, .int .i64 0] else .tuple #[.pointer none, .int .i64 173]) ∧ w3 = w' from fun w3 hb => dir_any (HX.out w3 hb))
  by_cases hk : x.kind = 2
  ·have hE : folderE r (i, g) = 0 := by unfold folderE; rw [if_pos hl]; exact if_pos (by rw [hxe]; exact hk)
   have HE := Lib.hid hE
   have HDr := Lib.hid (show ∀ w3, Below w1.heap.size w1 w3 → CallsIn Fence.wide 5 Tryz.prog 60 #[.pointer (some ⟨n.blk, 0, none⟩)] w3 fun e w' => e = .returned (.tuple #[.pointer (some ⟨n.b, 0, none⟩), .int .i64 0]) ∧ w3 = w' from fun w3 hb => callsIn_wide.2 (by have := hDr.out w3 hb; rw [if_pos hk] at this; exact this))
   have HL := Lib.hid (show ∀ w3, Below w1.heap.size w1 w3 → w3.cell? ⟨n.b, 0, none⟩ = some (.map (some n.m)) ∧ n.m < w3.heap.size ∧ ∃ D : DataW Unit, w3.ownsMap Tryz.prog 9 noRS n.m (namesP r.nms i).length D ∧ Maps.size D = (namesP r.nms i).length ∧ (strKeys D).Perm ((namesP r.nms i).map fun p => p.1.data.toList) from fun w3 hb => by
    obtain ⟨hd, hm⟩ := (HX.out w3 hb).dir hk
    rw [HXi.out] at hm
    exact ⟨by rw [cell_at hd]; rfl, hm.lt, owns_names hm HMk.out (by unfold maxLen; omega)⟩)
   have cK : ∀ mb W, CallsIn Fence.wide 5 Tryz.prog 68 #[.map mb] W fun e w' => e = .returned (.func (.func 93) #[] #[.pointer (some ⟨W.heap.size, 0, none⟩)]) ∧ w' = W.alloc (.cells #[.map mb] 69) := fun mb W => AnyZ.keys_in Tryz.keysSL Fence.wide 5 trivial rfl mb W
   have HS := Lib.hid (show ∀ w3, Below w1.heap.size w1 w3 → CallsIn Fence.wide 5 Tryz.prog 67 #[.func (.func 93) #[] #[.pointer (some ⟨w3.heap.size, 0, none⟩)]] (w3.alloc (.cells #[.map (some n.m)] 69)) (fun e w' => ∃ (v : Value) (ss : List (List UInt8)), e = .returned v ∧ ss.Perm ((namesP r.nms i).map fun p => p.1.data.toList) ∧
     w'.ownsRow (w3.alloc (.cells #[.map (some n.m)] 69)).heap.size 9 1 v ss.length ((ss.mergeSort (fun x y => decide (x ≤ y))).map encStr) ∧ (v = .slice none 0 0 ↔ ss = []) ∧ Below (w3.alloc (.cells #[.map (some n.m)] 69)).heap.size (w3.alloc (.cells #[.map (some n.m)] 69)) w') from fun w3 hb => by
    obtain ⟨c1, hmb, D, hown, hD1, hD2⟩ := HL.out w3 hb
    have hseq : SeqGives Fence.wide 2 Tryz.prog 93 #[.pointer (some ⟨w3.heap.size, 0, none⟩)] encStr (fun ss => ss.Perm (strKeys D)) (Maps.size D) (w3.alloc (.cells #[.map (some n.m)] 69)) :=
     AnyZ.keys_gives (ρ := Tryz.keysSL_ren) { Tryz.keysSL with } Fence.wide _ trivial rfl (by omega) w3.heap.size n.m (namesP r.nms i).length D _ (by simp) (by simp) (by
      obtain ⟨es, clock, hb, Ft, hs, hD⟩ := hown
      exact ⟨es, clock, (Below.heap_alloc _ _ n.m hmb).trans hb, Ft, hs, hD⟩)
    have cS := AnyZ.sorted_in Tryz.sortedSL Fence.wide 5 trivial trivial trivial trivial rfl (by omega) (sortsSL _) (enters_of Tryz.func92 (by kernel_rfl) rfl) 93 #[.pointer (some ⟨w3.heap.size, 0, none⟩)] trivial (enters_of Tryz.func93 (by kernel_rfl) rfl) _ _ (by unfold maxLen; omega) (by omega) _ hseq
    exact cS.mono fun e w' ⟨v, ss, he, hS, h3, h4, h5⟩ => ⟨v, ss, he, hS.trans hD2, h3, h4, h5⟩)
   have hfK : Fence.wide.fn 68 := trivial
   have hfS : Fence.wide.fn 67 := trivial
   clear hw1 hB hb0 h1 h hW hl hE m1 m2 m3 hn hr hxk hDr hk hxe
   refine callsIn_of_wp Tryz.func33 rfl trivial ?_ rfl
   simp only [Tryz.ntmps33, List.size_toArray, List.length_cons, List.length_nil, Nat.reduceAdd, Nat.reduceSub, Array.replicate_succ, Array.replicate_zero, List.push_toArray, List.append_toArray, List.nil_append, List.cons_append]
   gi_wp2_with fail
   rw [HW1.out]
   gi_wp2_with (first
    | (gi_at_call 59; (with_reducible refine HFd.out.mono ?_); rintro e w2 ⟨rfl, hB2⟩; have c1 := (HL.out w2 hB2).1)
    | (gi_at_call 60; (with_reducible refine (HDr.out w2 hB2).mono ?_); rintro e w3 ⟨rfl, rfl⟩)
    | (gi_at_call 68; refine (cK _ _).mono ?_; rintro e w' ⟨rfl, rfl⟩)
    | (gi_at_call 67; (with_reducible refine (HS.out w2 hB2).mono ?_); rintro e w' ⟨v, ss, rfl, hS, hrow, hnil, hb⟩))
   go_ret2
   have hBw : Below w.heap.size w w' := (HB.out.trans (hB2.mono HB.out.size)).trans ((((Below.refl _ w2).alloc (Nat.le_refl _) _).trans (hb.mono (by simp))).mono (Nat.le_trans HB.out.size hB2.size))
   refine ⟨?_, hBw⟩
   unfold ListR
   rw [HE.out, if_neg (by decide)]
   have hlen : ss.length = (sortedN (namesP r.nms i)).length := by rw [hS.length_eq, (sortedN_perm _).length_eq]
   rw [sort_names hS] at hrow
   have hsz2 := hB2.size
   rcases hrow.2 with ⟨rfl, hz⟩ | ⟨g', cap, cur, rfl, hg, hgb, r1, r2, r3, r4⟩
   ·have hk0 : sortedN (namesP r.nms i) = [] := List.eq_nil_of_length_eq_zero (by omega)
    exact ⟨none, 0, by rw [hk0]; rfl, by rw [hk0]; exact Rd.nil _ _ _ _ _, fun a ha => (by cases ha), fun a ha => (by cases ha), by rw [hk0]; simp, fun _ => rfl⟩
   ·refine ⟨some ⟨g', 0, none⟩, cap, by rw [hlen]; rfl, ?_, fun a ha => (by injection ha with ha; subst ha; simp at hg ⊢; omega), fun a ha => (by injection ha with ha; subst ha; rfl), by rw [← hlen]; exact r1, fun e => by cases e⟩
    refine rd_block hgb (Array.getElem?_eq_some_iff.1 hgb).1 (fun j x hx k v hv => ?_)
    match k, hv with
    | 0, hv =>
     have hv' : v = encStr x := by simpa [strC] using hv.symm
     subst hv'
     have h4 := congrArg (·[j]?) r4
     simp only [List.getElem?_take, List.getElem?_map, hx, Option.map_some] at h4
     split at h4
     ·rw [Nat.mul_one, Nat.add_zero]; simpa using h4
     ·cases h4
    | k + 1, hv => simp [strC] at hv
  ·have hE : folderE r (i, g) = 173 := by unfold folderE; rw [if_pos hl]; exact if_neg (by rw [hxe]; exact hk)
   have HE := Lib.hid hE
   have HDr := Lib.hid (show ∀ w3, Below w1.heap.size w1 w3 → CallsIn Fence.wide 5 Tryz.prog 60 #[.pointer (some ⟨n.blk, 0, none⟩)] w3 fun e w' => e = .returned (.tuple #[.pointer none, .int .i64 173]) ∧ w3 = w' from fun w3 hb => callsIn_wide.2 (by have := hDr.out w3 hb; rw [if_neg hk] at this; exact this))
   clear hw1 hB hb0 h1 h hW hl hE m1 m2 m3 hn hr hxk hDr hk hxe
   refine callsIn_of_wp Tryz.func33 rfl trivial ?_ rfl
   simp only [Tryz.ntmps33, List.size_toArray, List.length_cons, List.length_nil, Nat.reduceAdd, Nat.reduceSub, Array.replicate_succ, Array.replicate_zero, List.push_toArray, List.append_toArray, List.nil_append, List.cons_append]
   gi_wp2_with fail
   rw [HW1.out]
   gi_wp2_with (first
    | (gi_at_call 59; (with_reducible refine HFd.out.mono ?_); rintro e w2 ⟨rfl, hB2⟩)
    | (gi_at_call 60; (with_reducible refine (HDr.out w2 hB2).mono ?_); rintro e w3 ⟨rfl, rfl⟩))
   go_ret2
   exact ⟨listR_err HE.out (by decide), HB.out.trans (hB2.mono HB.out.size)⟩
end Go.Proofs.YtpcjmefchclhhaaGreat

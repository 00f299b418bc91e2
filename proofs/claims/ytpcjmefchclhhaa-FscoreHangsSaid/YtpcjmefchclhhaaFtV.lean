/- A part of the proof, merged from several texts. -/
import Derived.Test.YtpcjmefchclhhaaFsXW
import Derived.Test.YtpcjmefchclhhaaKeysS
import Derived.Test.YtpcjmefchclhhaaFtW
/- Contract of List: a folder's names, in order. -/
namespace Go.Proofs.Ytpcjmefchclhhaa
open Go.RowKit Go.MapKept Go.Shelf Go.Sort Go.Maps

/-- A folder's names, as bytes, in order. -/
def sortedN (l : List (ByteArray × Int)) : List (List UInt8) := (l.map fun p => p.1.data.toList).mergeSort (fun x y => decide (x ≤ y))
theorem sortedN_perm (l : List (ByteArray × Int)) : (sortedN l).Perm (l.map fun p => p.1.data.toList) := List.mergeSort_perm _ _
theorem leB_total (a b : List UInt8) : (decide (a ≤ b) || decide (b ≤ a)) = true := by
  rcases List.le_total a b with h | h <;> simp [h]
theorem leB_trans (a b c : List UInt8) (h1 : decide (a ≤ b) = true) (h2 : decide (b ≤ c) = true) : decide (a ≤ c) = true := by
  simp at *
  exact List.le_trans h1 h2
theorem sort_names {ss : List (List UInt8)} {l : List (ByteArray × Int)} (h : ss.Perm (l.map fun p => p.1.data.toList)) : ss.mergeSort (fun x y => decide (x ≤ y)) = sortedN l := by
  refine List.Perm.eq_of_pairwise (le := fun a b : List UInt8 => a ≤ b) (fun a b _ _ h1 h2 => List.le_antisymm h1 h2) ?_ ?_ (((List.mergeSort_perm ss _).trans h).trans (sortedN_perm l).symm)
  · exact (List.pairwise_mergeSort leB_trans leB_total ss).imp (fun h => by simpa using h)
  · exact (List.pairwise_mergeSort leB_trans leB_total _).imp (fun h => by simpa using h)

def noRS (_ : Value) : Option (DataW Unit × List MemPlace) := some (.lit (.bool false), [])
theorem owns_names {w : World} {m : Nat} {l : List (ByteArray × Int)} (h : MapB w m strK intK l) (hk : ∀ p ∈ l, p.1.size ≤ maxLen) (hl : l.length ≤ maxLen) :
    ∃ D : DataW Unit, w.ownsMap Try.prog 9 noRS m l.length D ∧ Maps.size D = l.length ∧ (strKeys D).Perm (l.map fun p => p.1.data.toList) := by
  obtain ⟨es, clock, hb, hst, he⟩ := h
  have hsz : es.size = l.length := by
    have := congrArg List.length he
    simpa using this
  have hrd : ∀ s : ByteArray, s.size ≤ maxLen → keyOf Try.prog 9 (strK s) = some (.string s.data.toList) := fun s hs => by
    have hu : Try.prog.underlying 9 = some .string := Try.underlying9
    simp [keyOf, hu, mapKey, strK, hs]
  have hmap : es.toList.map (WideElems.rg Try.prog 9 noRS) = l.map fun p => (Lit.string p.1.data.toList, (DataW.lit (.bool false) : DataW Unit)) := by
    apply List.ext_getElem?
    intro i
    have h1 := congrArg (·[i]?) he
    simp only [List.getElem?_map] at h1 ⊢
    cases hx : es.toList[i]? with
    | none =>
      cases hy : l[i]? with
      | none => rfl
      | some q => rw [hx, hy] at h1; cases h1
    | some x =>
      cases hy : l[i]? with
      | none => rw [hx, hy] at h1; cases h1
      | some q =>
        rw [hx, hy] at h1
        simp only [Option.map_some, Option.some.injEq, Prod.mk.injEq] at h1
        have hq := hk q (List.mem_of_getElem? hy)
        simp [WideElems.rg, WideElems.rd, h1.1, hrd _ hq, noRS]
  refine ⟨.map ((es.toList.map (WideElems.rg Try.prog 9 noRS)).foldr DataW.insert []), ⟨es, clock, hb, ⟨by omega, hst, fun x hx => ?_⟩, by omega, rfl⟩, ?_, ?_⟩
  · obtain ⟨i, hi⟩ := List.getElem?_of_mem hx
    have h1 := congrArg (·[i]?) he
    simp only [List.getElem?_map, hi, Option.map_some] at h1
    cases hy : l[i]? with
    | none => rw [hy] at h1; cases h1
    | some q =>
      rw [hy] at h1
      simp only [Option.map_some, Option.some.injEq, Prod.mk.injEq] at h1
      have hq := hk q (List.mem_of_getElem? hy)
      exact ⟨(.string q.1.data.toList, .lit (.bool false)), by simp [WideElems.rd, h1.1, hrd _ hq, noRS]⟩
  · show (List.foldr DataW.insert [] _).length = _
    rw [(WideShapes.sorted_perm _).length_eq, hmap, List.length_map]
  · show (List.map _ (List.foldr DataW.insert [] _)).Perm _
    refine ((WideShapes.sorted_perm _).map _).trans ?_
    rw [hmap, List.map_map]
    exact List.Perm.of_eq rfl

theorem sortsSL (m : Nat) : AnyZ.SortsIn Try.prog Try.sortedSL_ren Fence.wide m :=
  ⟨fun blk off cap ss W hH hblk hsz => callsIn_wide.2 (AnyM.slices_Sort_string Try.sortSL blk off cap ss W hH hblk hsz),
   fun p cap W => callsIn_wide.2 (AnyM.slices_Sort_string_none Try.sortSL p cap W)⟩

def strC (s : List UInt8) : List Value := [.string ⟨s.toArray⟩]
/-- What List answers. -/
def ListR (w w' : World) (r : RFs) (h : Int × Int) (e : Ending) : Prop :=
  if folderE r h ≠ 0 then e = .returned (.tuple #[.slice none 0 0, .int .i64 (folderE r h)])
  else ∃ A c, e = .returned (.tuple #[.slice A (sortedN (namesP r.nms h.1)).length c, .int .i64 0]) ∧ Rd w' w'.heap.size 1 strC A (sortedN (namesP r.nms h.1)) ∧ ∀ a, A = some a → w.heap.size ≤ a.block

theorem listR_err {w w' : World} {r : RFs} {h : Int × Int} {k : Int} (hE : folderE r h = k) (hk : k ≠ 0) : ListR w w' r h (.returned (.tuple #[.slice none 0 0, .int .i64 k])) := by
  unfold ListR
  rw [hE, if_pos hk]

set_option maxHeartbeats 4000000 in
theorem list_any {w : World} {f mi mg K : Nat} {r : RFs} {N : List Nd} (h : FsN w f mi mg r N) (hW : Wf r K) (hK : K ≤ 1000000) (i g : Int) :
    Calls Try.prog 65 #[.pointer (some ⟨f, 0, none⟩), .agg #[.int .i64 i, .int .i64 g]] w fun e w' => ListR w w' r (i, g) e ∧ Below w.heap.size w w' := by
  refine (callsIn_wide (n := 6)).1 ?_
  obtain ⟨w1, hw1, hB, hs1, hb0⟩ := box1 w #[.int .i64 i, .int .i64 g] 68
  have t0 : w1.cell? ⟨w.heap.size, 0, none⟩ = some (.int .i64 i) := by rw [cell_at hb0]; rfl
  have t1 : w1.cell? ⟨w.heap.size, 1, none⟩ = some (.int .i64 g) := by rw [cell_at hb0]; rfl
  have h1 := h.below hW hB
  have HW1 := Lib.hid hw1
  have HB := Lib.hid hB
  have hffind : Fence.wide.fn 57 := trivial
  have hfdir : Fence.wide.fn 74 := trivial
  cases hl : liveP r (i, g)
  · have hE : folderE r (i, g) = 175 := by unfold folderE; rw [hl]; rfl
    have HFd := Lib.hid (callsIn_wide (n := 5).2 (find_no h1 hW i g hl))
    have HE := Lib.hid hE
    clear hw1 hB hb0 h1 h hW hl hE
    refine callsIn_of_wp Try.func65 rfl trivial ?_ rfl
    simp only [Try.ntmps65, List.size_toArray, List.length_cons, List.length_nil, Nat.reduceAdd, Nat.reduceSub, Array.replicate_succ, Array.replicate_zero, List.push_toArray, List.append_toArray, List.nil_append, List.cons_append]
    gi_wp2_with fail
    rw [HW1.out]
    gi_wp2_with (gi_at_call 57; (with_reducible refine HFd.out.mono ?_); rintro e w2 ⟨rfl, hB2⟩)
    go_ret2
    exact ⟨listR_err HE.out (by decide), HB.out.trans (hB2.mono HB.out.size)⟩
  · obtain ⟨m1, m2, m3⟩ := live_mem hl
    obtain ⟨n, hn, hr⟩ := h1.at_ hW m1
    have HFd := Lib.hid (callsIn_wide (n := 5).2 (find_yes h1 hW i g hl hn (hr.id.trans m2)))
    unfold ptrV at HFd
    have hxk := hW.kind _ m1
    have HX := Lib.hid (show ∀ w3, Below w1.heap.size w1 w3 → NodeR w3 r (byIdP r.ins i) n from fun w3 hb => hr.below hxk hb)
    have HXi := Lib.hid m2
    have HMk := Lib.hid (show ∀ p ∈ namesP r.nms i, p.1.size ≤ maxLen from fun p hp => by
      unfold namesP at hp
      obtain ⟨q, hq, rfl⟩ := List.mem_map.1 hp
      have := hW.nmV q (List.mem_filter.1 hq).1
      unfold validP at this
      simp only [Bool.and_eq_true, decide_eq_true_eq] at this
      have h60 := this.1.2.1
      unfold maxLen
      show q.name.size ≤ _
      omega)
    have hML : (namesP r.nms i).length ≤ 1000000 := by
      rw [namesP_len]
      have h2 := List.countP_le_length (p := fun n : RNm => decide (n.dir = i)) (l := r.nms)
      have h3 := hW.nmK
      unfold manyP
      omega
    obtain ⟨x, hxe⟩ : ∃ x, byIdP r.ins i = x := ⟨_, rfl⟩
    rw [hxe] at m1 m2 m3 hr hxk HX HXi
    clear HXi
    have HXi := Lib.hid m2
    have hDr := Lib.hid (show ∀ w3, Below w1.heap.size w1 w3 → Calls Try.prog 74 #[.pointer (some ⟨n.blk, 0, none⟩)] w3 fun e w' => e = .returned (if x.kind = 2 then .tuple #[ptrV n.b, .int .i64 0] else .tuple #[.pointer none, .int .i64 173]) ∧ w3 = w' from fun w3 hb => dir_any (HX.out w3 hb))
    by_cases hk : x.kind = 2
    · have hE : folderE r (i, g) = 0 := by unfold folderE; rw [if_pos hl]; exact if_pos (by rw [hxe]; exact hk)
      have HE := Lib.hid hE
      have HDr := Lib.hid (show ∀ w3, Below w1.heap.size w1 w3 → CallsIn Fence.wide 5 Try.prog 74 #[.pointer (some ⟨n.blk, 0, none⟩)] w3 fun e w' => e = .returned (.tuple #[.pointer (some ⟨n.b, 0, none⟩), .int .i64 0]) ∧ w3 = w' from fun w3 hb => callsIn_wide.2 (by have := hDr.out w3 hb; rw [if_pos hk] at this; exact this))
      have HL := Lib.hid (show ∀ w3, Below w1.heap.size w1 w3 → w3.cell? ⟨n.b, 0, none⟩ = some (.map (some n.m)) ∧ n.m < w3.heap.size ∧ ∃ D : DataW Unit, w3.ownsMap Try.prog 9 noRS n.m (namesP r.nms i).length D ∧ Maps.size D = (namesP r.nms i).length ∧ (strKeys D).Perm ((namesP r.nms i).map fun p => p.1.data.toList) from fun w3 hb => by
        obtain ⟨hd, hm⟩ := (HX.out w3 hb).dir hk
        rw [HXi.out] at hm
        exact ⟨by rw [cell_at hd]; rfl, hm.lt, owns_names hm HMk.out (by unfold maxLen; omega)⟩)
      have cK : ∀ mb W, CallsIn Fence.wide 5 Try.prog 77 #[.map mb] W fun e w' => e = .returned (.func (.func 83) #[] #[.pointer (some ⟨W.heap.size, 0, none⟩)]) ∧ w' = W.alloc (.cells #[.map mb] 109) := fun mb W => AnyZ.keys_in Try.keysSL Fence.wide 5 trivial rfl mb W
      have HS := Lib.hid (show ∀ w3, Below w1.heap.size w1 w3 → CallsIn Fence.wide 5 Try.prog 76 #[.func (.func 83) #[] #[.pointer (some ⟨w3.heap.size, 0, none⟩)]] (w3.alloc (.cells #[.map (some n.m)] 109)) (fun e w' => ∃ (v : Value) (ss : List (List UInt8)), e = .returned v ∧ ss.Perm ((namesP r.nms i).map fun p => p.1.data.toList) ∧
          w'.ownsRow (w3.alloc (.cells #[.map (some n.m)] 109)).heap.size 9 1 v ss.length ((ss.mergeSort (fun x y => decide (x ≤ y))).map encStr) ∧ (v = .slice none 0 0 ↔ ss = []) ∧ Below (w3.alloc (.cells #[.map (some n.m)] 109)).heap.size (w3.alloc (.cells #[.map (some n.m)] 109)) w') from fun w3 hb => by
        obtain ⟨c1, hmb, D, hown, hD1, hD2⟩ := HL.out w3 hb
        have hseq : SeqGives Fence.wide 2 Try.prog 83 #[.pointer (some ⟨w3.heap.size, 0, none⟩)] encStr (fun ss => ss.Perm (strKeys D)) (Maps.size D) (w3.alloc (.cells #[.map (some n.m)] 109)) :=
          AnyZ.keys_gives (ρ := Try.keysSL_ren) { Try.keysSL with } Fence.wide _ trivial rfl (by omega) w3.heap.size n.m (namesP r.nms i).length D _ (by simp) (by simp) (by
            obtain ⟨es, clock, hb, Ft, hs, hD⟩ := hown
            exact ⟨es, clock, (Below.heap_alloc _ _ n.m hmb).trans hb, Ft, hs, hD⟩)
        have cS := AnyZ.sorted_in Try.sortedSL Fence.wide 5 trivial trivial trivial trivial rfl (by omega) (sortsSL _) (enters_of Try.func82 (by kernel_rfl) rfl) 83 #[.pointer (some ⟨w3.heap.size, 0, none⟩)] trivial (enters_of Try.func83 (by kernel_rfl) rfl) _ _ (by unfold maxLen; omega) (by omega) _ hseq
        exact cS.mono fun e w' ⟨v, ss, he, hS, h3, h4, h5⟩ => ⟨v, ss, he, hS.trans hD2, h3, h4, h5⟩)
      have hfK : Fence.wide.fn 77 := trivial
      have hfS : Fence.wide.fn 76 := trivial
      clear hw1 hB hb0 h1 h hW hl hE m1 m2 m3 hn hr hxk hDr hk hxe
      refine callsIn_of_wp Try.func65 rfl trivial ?_ rfl
      simp only [Try.ntmps65, List.size_toArray, List.length_cons, List.length_nil, Nat.reduceAdd, Nat.reduceSub, Array.replicate_succ, Array.replicate_zero, List.push_toArray, List.append_toArray, List.nil_append, List.cons_append]
      gi_wp2_with fail
      rw [HW1.out]
      gi_wp2_with (first
        | (gi_at_call 57; (with_reducible refine HFd.out.mono ?_); rintro e w2 ⟨rfl, hB2⟩; have c1 := (HL.out w2 hB2).1)
        | (gi_at_call 74; (with_reducible refine (HDr.out w2 hB2).mono ?_); rintro e w3 ⟨rfl, rfl⟩)
        | (gi_at_call 77; refine (cK _ _).mono ?_; rintro e w' ⟨rfl, rfl⟩)
        | (gi_at_call 76; (with_reducible refine (HS.out w2 hB2).mono ?_); rintro e w' ⟨v, ss, rfl, hS, hrow, hnil, hb⟩))
      go_ret2
      have hBw : Below w.heap.size w w' := (HB.out.trans (hB2.mono HB.out.size)).trans ((((Below.refl _ w2).alloc (Nat.le_refl _) _).trans (hb.mono (by simp))).mono (Nat.le_trans HB.out.size hB2.size))
      refine ⟨?_, hBw⟩
      unfold ListR
      rw [HE.out, if_neg (by decide)]
      have hlen : ss.length = (sortedN (namesP r.nms i)).length := by rw [hS.length_eq, (sortedN_perm _).length_eq]
      rw [sort_names hS] at hrow
      have hsz2 := hB2.size
      rcases hrow.2 with ⟨rfl, hz⟩ | ⟨g', cap, cur, rfl, hg, hgb, r1, r2, r3, r4⟩
      · have hk0 : sortedN (namesP r.nms i) = [] := List.eq_nil_of_length_eq_zero (by omega)
        exact ⟨none, 0, by rw [hk0]; rfl, by rw [hk0]; exact Rd.nil _ _ _ _ _, fun a ha => by cases ha⟩
      · refine ⟨some ⟨g', 0, none⟩, cap, by rw [hlen]; rfl, ?_, fun a ha => by injection ha with ha; subst ha; simp at hg ⊢; omega⟩
        refine rd_block hgb (Array.getElem?_eq_some_iff.1 hgb).1 (fun j x hx k v hv => ?_)
        match k, hv with
        | 0, hv =>
          have hv' : v = encStr x := by simpa [strC] using hv.symm
          subst hv'
          have h4 := congrArg (·[j]?) r4
          simp only [List.getElem?_take, List.getElem?_map, hx, Option.map_some] at h4
          split at h4
          · rw [Nat.mul_one, Nat.add_zero]; simpa using h4
          · cases h4
        | k + 1, hv => simp [strC] at hv
    · have hE : folderE r (i, g) = 173 := by unfold folderE; rw [if_pos hl]; exact if_neg (by rw [hxe]; exact hk)
      have HE := Lib.hid hE
      have HDr := Lib.hid (show ∀ w3, Below w1.heap.size w1 w3 → CallsIn Fence.wide 5 Try.prog 74 #[.pointer (some ⟨n.blk, 0, none⟩)] w3 fun e w' => e = .returned (.tuple #[.pointer none, .int .i64 173]) ∧ w3 = w' from fun w3 hb => callsIn_wide.2 (by have := hDr.out w3 hb; rw [if_neg hk] at this; exact this))
      clear hw1 hB hb0 h1 h hW hl hE m1 m2 m3 hn hr hxk hDr hk hxe
      refine callsIn_of_wp Try.func65 rfl trivial ?_ rfl
      simp only [Try.ntmps65, List.size_toArray, List.length_cons, List.length_nil, Nat.reduceAdd, Nat.reduceSub, Array.replicate_succ, Array.replicate_zero, List.push_toArray, List.append_toArray, List.nil_append, List.cons_append]
      gi_wp2_with fail
      rw [HW1.out]
      gi_wp2_with (first
        | (gi_at_call 57; (with_reducible refine HFd.out.mono ?_); rintro e w2 ⟨rfl, hB2⟩)
        | (gi_at_call 74; (with_reducible refine (HDr.out w2 hB2).mono ?_); rintro e w3 ⟨rfl, rfl⟩))
      go_ret2
      exact ⟨listR_err HE.out (by decide), HB.out.trans (hB2.mono HB.out.size)⟩
end Go.Proofs.Ytpcjmefchclhhaa

/- FscoreHangs, said plainly: how many names hang below a folder, and how many links and folders there are. -/
namespace Go.Proofs.Ytpcjmefchclhhaa
open Go.RowKit Go.MapKept

section
variable {r : RFs} {K : Nat}
/-- The way up from a folder. -/
inductive Chain (r : RFs) : Int → List Int → Prop
  | root : Chain r 1 [1]
  | step {x : RIn} {L : List Int} : x ∈ r.ins → x.kind = 2 → x.id ≠ 1 → Chain r x.parent L → Chain r x.id (x.id :: L)
theorem Chain.folder (hW : Wf r K) {d : Int} {L : List Int} (h : Chain r d L) : ∃ x ∈ r.ins, x.id = d ∧ x.kind = 2 := by
  cases h with
  | root => obtain ⟨x, hx, e1, _, e3, _⟩ := hW.root; exact ⟨x, hx, e1, e3⟩
  | step hx hk _ _ => exact ⟨_, hx, rfl, hk⟩
theorem Chain.len (hW : Wf r K) {d : Int} {L : List Int} (h : Chain r d L) : L.length ≤ 200 ∧ 1 ≤ L.length := by
  obtain ⟨ρ, hρ⟩ := hW.tree
  have key : ∀ {d L}, Chain r d L → L.Nodup ∧ (∀ j ∈ L, ρ j ≤ ρ d ∧ ∃ x ∈ r.ins, x.id = j) ∧ 1 ≤ L.length := by
    intro d L h
    induction h with
    | root =>
      obtain ⟨x, hx, e1, _⟩ := hW.root
      exact ⟨by simp, by intro j hj; rw [List.mem_singleton.1 hj]; exact ⟨Nat.le_refl _, x, hx, e1⟩, by simp⟩
    | @step x L hx hk h1 _ ih =>
      obtain ⟨i1, i2, i3⟩ := ih
      have hlt := hρ x hx hk h1
      refine ⟨List.nodup_cons.2 ⟨fun hm => by have := (i2 _ hm).1; omega, i1⟩, fun j hj => ?_, by simp⟩
      rcases List.mem_cons.1 hj with rfl | hj
      · exact ⟨Nat.le_refl _, x, hx, rfl⟩
      · exact ⟨by have := (i2 j hj).1; omega, (i2 j hj).2⟩
  obtain ⟨h1, h2, h3⟩ := key h
  refine ⟨?_, h3⟩
  have h4 := nodup_sub_len (l := L) (m := r.ins.map (·.id)) h1 (fun j hj => by
    obtain ⟨x, hx, e⟩ := (h2 j hj).2
    exact List.mem_map.2 ⟨x, hx, e⟩)
  have h5 := hW.cnt
  rw [List.length_map] at h4
  omega
def kidsP (r : RFs) (d : Int) : List Int := ((namesP r.nms d).map (·.2)).filter fun c => decide ((byIdP r.ins c).kind = 2)
def metF (r : RFs) : Nat → Int → Nat
  | 0, _ => 0
  | k + 1, d => (namesP r.nms d).length + ((kidsP r d).map (metF r k)).sum
theorem names_mem {d : Int} {p : ByteArray × Int} : p ∈ namesP r.nms d ↔ ∃ n ∈ r.nms, n.dir = d ∧ n.name = p.1 ∧ n.id = p.2 := by
  unfold namesP
  rw [List.mem_map]
  constructor
  · rintro ⟨n, hn, rfl⟩
    obtain ⟨h1, h2⟩ := List.mem_filter.1 hn
    exact ⟨n, h1, by simpa using h2, rfl, rfl⟩
  · rintro ⟨n, hn, h1, h2, h3⟩
    exact ⟨n, List.mem_filter.2 ⟨hn, by simpa using h1⟩, by rw [h2, h3]⟩
theorem one_dir (hW : Wf r K) {x : RIn} (hx : x ∈ r.ins) (hk : x.kind = 2) {n : RNm} (hn : n ∈ r.nms) (e : n.id = x.id) : n.dir = x.parent ∧ x.id ≠ 1 := by
  have h1 : x.id ≠ 1 := by rw [← e]; exact (hW.nmI n hn).1
  have h2 := hW.one x hx hk h1
  have h3 : n.dir ∈ (r.nms.filter fun n => decide (n.id = x.id)).map (·.dir) := List.mem_map.2 ⟨n, List.mem_filter.2 ⟨hn, by simpa using e⟩, rfl⟩
  rw [h2, List.mem_singleton] at h3
  exact ⟨h3, h1⟩
theorem mem_kids (hW : Wf r K) {d c : Int} : c ∈ kidsP r d ↔ ∃ x ∈ r.ins, x.id = c ∧ x.kind = 2 ∧ x.id ≠ 1 ∧ x.parent = d := by
  unfold kidsP
  rw [List.mem_filter, List.mem_map]
  constructor
  · rintro ⟨⟨p, hp, rfl⟩, hk⟩
    obtain ⟨n, hn, e1, _, e3⟩ := names_mem.1 hp
    obtain ⟨_, x, hx, ex⟩ := hW.nmI n hn
    have hb := hW.byId hx
    rw [ex, e3] at hb
    have hk2 : x.kind = 2 := by simpa [hb] using hk
    obtain ⟨q1, q2⟩ := one_dir hW hx hk2 hn ex.symm
    exact ⟨x, hx, ex.trans e3, hk2, q2, by rw [← q1, e1]⟩
  · rintro ⟨x, hx, rfl, hk, h1, rfl⟩
    have h2 := hW.one x hx hk h1
    have h3 : x.parent ∈ (r.nms.filter fun n => decide (n.id = x.id)).map (·.dir) := by rw [h2]; simp
    obtain ⟨n, hn, e⟩ := List.mem_map.1 h3
    obtain ⟨hn1, hn2⟩ := List.mem_filter.1 hn
    exact ⟨⟨(n.name, n.id), names_mem.2 ⟨n, hn1, e, rfl, rfl⟩, by simpa using hn2⟩, by rw [hW.byId hx]; simpa using hk⟩
theorem kids_nodup (hW : Wf r K) (d : Int) : (kidsP r d).Nodup := by
  rw [List.nodup_iff_count]
  intro c
  by_cases hc : c ∈ kidsP r d
  · obtain ⟨x, hx, rfl, hk, h1, _⟩ := (mem_kids hW).1 hc
    have h2 := congrArg List.length (hW.one x hx hk h1)
    rw [List.length_map] at h2
    simp only [List.length_singleton] at h2
    unfold kidsP namesP
    rw [List.count_eq_countP, List.countP_filter, List.countP_map, List.countP_map, List.countP_filter]
    rw [← h2, ← List.countP_eq_length_filter]
    refine List.countP_mono_left fun n _ hn => ?_
    simp at hn ⊢
    exact hn.1.1
  · rw [List.count_eq_zero_of_not_mem hc]; omega
theorem rank_under (hW : Wf r K) {ρ : Int → Nat} (hρ : ∀ x ∈ r.ins, x.kind = 2 → x.id ≠ 1 → ρ x.parent < ρ x.id) {c e : Int} (h : Under r c e) : (∃ x ∈ r.ins, x.id = e ∧ x.kind = 2) → ρ c ≤ ρ e := by
  induction h with
  | refl => intro _; exact Nat.le_refl _
  | @step id h1 _ ih =>
    rintro ⟨x, hx, rfl, hk⟩
    rw [hW.byId hx] at ih
    obtain ⟨p, hp, e1, e2⟩ := hW.par x hx hk
    have := ih ⟨p, hp, e1, e2⟩
    have := hρ x hx hk h1
    omega
theorem belowB_false {e c : Int} (h : ¬ Under r c e) : belowB r e c = false := by unfold belowB; exact @decide_eq_false _ (Classical.propDecidable _) h
theorem belowB_true {e c : Int} (h : Under r c e) : belowB r e c = true := by unfold belowB; exact @decide_eq_true _ (Classical.propDecidable _) h
theorem belowB_iff {e c : Int} : belowB r e c = true ↔ Under r c e := by unfold belowB; exact @decide_eq_true_iff _ (Classical.propDecidable _)
/-- Below a folder is it itself, or what is below one of its folders. -/
theorem kids_count (hW : Wf r K) (d : Int) : ∀ (m : Nat) (ρ : Int → Nat), (∀ x ∈ r.ins, x.kind = 2 → x.id ≠ 1 → ρ x.parent < ρ x.id) → ∀ x ∈ r.ins, x.kind = 2 → ρ x.id ≤ m →
    (if belowB r x.id d = true then 1 else 0) = (if x.id = d then 1 else 0) + (kidsP r d).countP fun c => belowB r x.id c := by
  intro m
  induction m with
  | zero =>
    intro ρ hρ x hx hk hm
    have h1 : x.id = 1 := Decidable.byContradiction fun h => by have := hρ x hx hk h; omega
    have h0 : ((kidsP r d).countP fun c => belowB r x.id c) = 0 := List.countP_eq_zero.2 fun c hc => by
      obtain ⟨y, hy, e1, _, e3, _⟩ := (mem_kids hW).1 hc
      rw [h1, below_root (by omega)]; decide
    rw [h0]
    by_cases hd : x.id = d
    · rw [if_pos hd, hd, below_eq, if_pos rfl]
    · rw [if_neg hd, h1, below_root (by omega)]; rfl
  | succ m ih =>
    intro ρ hρ x hx hk hm
    have hzero : ∀ y ∈ r.ins, y.kind = 2 → y.id = d → ∀ c ∈ kidsP r d, belowB r y.id c = false := fun y hy hky hyd c hc => by
      obtain ⟨z, hz, e1, e2, e3, e4⟩ := (mem_kids hW).1 hc
      refine belowB_false fun hu => ?_
      have h2 := rank_under hW hρ hu ⟨y, hy, rfl, hky⟩
      have h3 := hρ z hz e2 e3
      rw [e4, ← hyd, e1] at h3
      omega
    by_cases hd : x.id = d
    · rw [if_pos hd, List.countP_eq_zero.2 (fun c hc => by rw [hzero x hx hk hd c hc]; decide), hd, below_eq, if_pos rfl]
    · rw [if_neg hd]
      by_cases h1 : x.id = 1
      · have h0 : ((kidsP r d).countP fun c => belowB r x.id c) = 0 := List.countP_eq_zero.2 fun c hc => by
          obtain ⟨y, hy, e1, _, e3, _⟩ := (mem_kids hW).1 hc
          rw [h1, below_root (by omega)]; decide
        rw [h0, h1, below_root (by omega)]; rfl
      · have hb := hW.byId hx
        rw [below_step hd h1, hb]
        obtain ⟨p, hp, e1, e2⟩ := hW.par x hx hk
        have hlt := hρ x hx hk h1
        by_cases hpd : x.parent = d
        · have hmem : x.id ∈ kidsP r d := (mem_kids hW).2 ⟨x, hx, rfl, hk, h1, hpd⟩
          have hcong : ((kidsP r d).countP fun c => belowB r x.id c) = (kidsP r d).countP fun c => decide (c = x.id) := List.countP_congr fun c hc => by
            by_cases hcx : c = x.id
            · subst hcx; simp [below_eq]
            · rw [below_step (fun e => hcx e.symm) h1, hb, ← e1, hzero p hp e2 (e1.trans hpd) c hc]; simp [hcx]
          have h3 : (kidsP r d).countP (fun c => decide (c = x.id)) = 1 := by
            have := (kids_nodup hW d).count (a := x.id)
            rw [if_pos hmem] at this
            rw [List.count_eq_countP] at this
            rw [← this]
            exact List.countP_congr fun c _ => by simp
          rw [hcong, h3, hpd, below_eq, if_pos rfl]
        · have := ih ρ hρ p hp e2 (by rw [e1]; omega)
          rw [e1, if_neg hpd] at this
          rw [this]
          congr 1
          refine List.countP_congr fun c hc => ?_
          obtain ⟨z, hz, q1, q2, q3, q4⟩ := (mem_kids hW).1 hc
          have hcx : x.id ≠ c := fun e => hpd (by
            have a1 := hW.byId hx
            have a2 := hW.byId hz
            rw [e, ← q1, a2] at a1
            rw [← a1]; exact q4)
          rw [below_step hcx h1, hb]
theorem sum_countP {α β : Type} (l : List α) (C : List β) (P : β → α → Bool) : (C.map fun c => l.countP (P c)).sum = (l.map fun a => C.countP fun c => P c a).sum := by
  induction C with
  | nil =>
    have : ∀ l : List α, (l.map fun _ => (0 : Nat)).sum = 0 := fun l => by induction l with
      | nil => rfl
      | cons a l ih => rw [List.map_cons, List.sum_cons, ih]
    simpa using (this l).symm
  | cons c C ih =>
    rw [List.map_cons, List.sum_cons, ih]
    have : ∀ l : List α, l.countP (P c) + (l.map fun a => C.countP fun c => P c a).sum = (l.map fun a => (c :: C).countP fun c => P c a).sum := by
      intro l
      induction l with
      | nil => simp
      | cons a l ih2 =>
        simp only [List.map_cons, List.sum_cons, List.countP_cons] at ih2 ⊢
        omega
    exact this l
theorem countP_sum {α : Type} (l : List α) (p : α → Bool) : l.countP p = (l.map fun a => if p a = true then 1 else 0).sum := by
  induction l with
  | nil => rfl
  | cons a l ih => rw [List.countP_cons, ih, List.map_cons, List.sum_cons]; omega
theorem sum_add {α : Type} (l : List α) (f g : α → Nat) : (l.map f).sum + (l.map g).sum = (l.map fun a => f a + g a).sum := by
  induction l with
  | nil => rfl
  | cons a l ih => simp only [List.map_cons, List.sum_cons]; omega
theorem met_eq (hW : Wf r K) : ∀ (k : Nat) (d : Int) (L : List Int), Chain r d L → 201 ≤ k + L.length → metF r k d = r.nms.countP fun n => belowB r n.dir d := by
  intro k
  induction k with
  | zero => intro d L hc hl; have := (hc.len hW).1; omega
  | succ k ih =>
    intro d L hc hl
    rw [metF]
    have h1 : (kidsP r d).map (metF r k) = (kidsP r d).map fun c => r.nms.countP fun n => belowB r n.dir c := List.map_congr_left fun c hcm => by
      obtain ⟨x, hx, rfl, hk, h1, hp⟩ := (mem_kids hW).1 hcm
      exact ih x.id (x.id :: L) (Chain.step hx hk h1 (by rw [hp]; exact hc)) (by simp; omega)
    rw [h1, sum_countP r.nms (kidsP r d) (fun c n => belowB r n.dir c), namesP_len]
    unfold manyP
    rw [countP_sum, countP_sum, sum_add]
    congr 1
    refine List.map_congr_left fun n hn => ?_
    obtain ⟨x, hx, e1, e2⟩ := hW.nmD n hn
    obtain ⟨ρ, hρ⟩ := hW.tree
    have := kids_count hW d (ρ x.id) ρ hρ x hx e2 (Nat.le_refl _)
    rw [e1] at this
    rw [this]
    simp
theorem under_root (hW : Wf r K) : ∀ (m : Nat) (ρ : Int → Nat), (∀ x ∈ r.ins, x.kind = 2 → x.id ≠ 1 → ρ x.parent < ρ x.id) → ∀ x ∈ r.ins, x.kind = 2 → ρ x.id ≤ m → Under r 1 x.id := by
  intro m
  induction m with
  | zero =>
    intro ρ hρ x hx hk hm
    have h1 : x.id = 1 := Decidable.byContradiction fun h => by have := hρ x hx hk h; omega
    rw [h1]; exact Under.refl
  | succ m ih =>
    intro ρ hρ x hx hk hm
    by_cases h1 : x.id = 1
    · rw [h1]; exact Under.refl
    · obtain ⟨p, hp, e1, e2⟩ := hW.par x hx hk
      have hlt := hρ x hx hk h1
      refine Under.step h1 ?_
      rw [hW.byId hx, ← e1]
      exact ih ρ hρ p hp e2 (by rw [e1]; omega)
theorem met_root (hW : Wf r K) : metF r 200 1 = r.nms.length := by
  rw [met_eq hW 200 1 [1] Chain.root (by decide)]
  obtain ⟨ρ, hρ⟩ := hW.tree
  exact List.countP_eq_length.2 fun n hn => by
    obtain ⟨x, hx, e1, e2⟩ := hW.nmD n hn
    rw [← e1]
    exact belowB_true (under_root hW _ ρ hρ x hx e2 (Nat.le_refl _))
theorem met_le (hW : Wf r K) {k : Nat} {d : Int} {L : List Int} (hc : Chain r d L) (hl : 201 ≤ k + L.length) : metF r k d ≤ K := by
  rw [met_eq hW k d L hc hl]
  exact Nat.le_trans (List.countP_le_length) hW.nmK
/-- All names are those of what is no folder, and one of each folder but the root. -/
theorem names_total (hW : Wf r K) : r.nms.length + 1 = ((r.ins.map fun x => if x.kind = 2 then 0 else linksN r x).sum) + r.ins.countP fun x => decide (x.kind = 2) := by
  have h1 : ((r.ins.map fun x => r.nms.countP fun n => decide (n.id = x.id)).sum) = r.nms.length := by
    rw [sum_countP r.nms r.ins (fun x n => decide (n.id = x.id))]
    have : ∀ n ∈ r.nms, (r.ins.countP fun x => decide (n.id = x.id)) = 1 := fun n hn => by
      obtain ⟨_, x, hx, e⟩ := hW.nmI n hn
      have h2 : (r.ins.map (·.id)).count n.id = 1 := by rw [hW.ids.count, if_pos (List.mem_map.2 ⟨x, hx, e⟩)]
      rw [List.count_eq_countP, List.countP_map] at h2
      rw [← h2]
      exact List.countP_congr fun y _ => by simp only [Function.comp, decide_eq_true_eq, beq_iff_eq]; exact eq_comm
    rw [List.map_congr_left this]
    generalize r.nms = l
    induction l with
    | nil => rfl
    | cons a l ih => rw [List.map_cons, List.sum_cons, ih, List.length_cons]; omega
  have h2 : (r.ins.map fun x => r.nms.countP fun n => decide (n.id = x.id)).sum + 1 = ((r.ins.map fun x => if x.kind = 2 then 0 else linksN r x).sum) + r.ins.countP fun x => decide (x.kind = 2) := by
    have hone : (r.ins.countP fun x => decide (x.id = 1)) = 1 := by
      obtain ⟨x, hx, e, _⟩ := hW.root
      have h3 : (r.ins.map (·.id)).count 1 = 1 := by rw [hW.ids.count, if_pos (List.mem_map.2 ⟨x, hx, e⟩)]
      rw [List.count_eq_countP, List.countP_map] at h3
      rw [← h3]
      exact List.countP_congr fun y _ => by simp
    rw [← hone, countP_sum, countP_sum, sum_add, sum_add]
    congr 1
    refine List.map_congr_left fun x hx => ?_
    by_cases hk : x.kind = 2
    · by_cases h4 : x.id = 1
      · have : (r.nms.countP fun n => decide (n.id = x.id)) = 0 := List.countP_eq_zero.2 fun n hn => by
          have := (hW.nmI n hn).1
          simp [h4, this]
        rw [this]
        simp [hk, h4]
      · have h5 := congrArg List.length (hW.one x hx hk h4)
        rw [List.length_map, ← List.countP_eq_length_filter] at h5
        simp only [List.length_singleton] at h5
        simp [hk, h4, h5]
    · have h4 : x.id ≠ 1 := fun e => by
        obtain ⟨y, hy, e1, _, e3, _⟩ := hW.root
        have a1 := hW.byId hx
        have a2 := hW.byId hy
        rw [e1] at a2
        rw [e, a2] at a1
        exact hk (a1 ▸ e3)
      simp [hk, h4, linksN]
  omega
end
end Go.Proofs.Ytpcjmefchclhhaa

/- The law's walk: all names below a folder are met, and all is as it should be. -/
namespace Go.Proofs.Ytpcjmefchclhhaa
open Go.RowKit Go.MapKept

section
variable {r : RFs} {K : Nat}
theorem uniq_eq {l : List RNm} (h : l.Pairwise fun a b => ¬ (a.dir = b.dir ∧ a.name = b.name)) {n m : RNm} (hn : n ∈ l) (hm : m ∈ l) (e1 : n.dir = m.dir) (e2 : n.name = m.name) : n = m := by
  induction l with
  | nil => simp at hn
  | cons a l ih =>
    obtain ⟨h1, h2⟩ := List.pairwise_cons.1 h
    rcases List.mem_cons.1 hn with en | hn2
    · rcases List.mem_cons.1 hm with em | hm2
      · exact en.trans em.symm
      · rw [en] at e1 e2; exact absurd ⟨e1, e2⟩ (h1 m hm2)
    · rcases List.mem_cons.1 hm with em | hm2
      · rw [em] at e1 e2; exact absurd ⟨e1.symm, e2.symm⟩ (h1 n hn2)
      · exact ih h2 hn2 hm2
theorem entry_eq (hW : Wf r K) {n : RNm} (hn : n ∈ r.nms) : entryP r.nms n.dir n.name = n.id := by
  have h0 : entryP r.nms n.dir n.name ≠ 0 := by
    unfold entryP
    cases hf : r.nms.find? fun m => decide (m.dir = n.dir ∧ m.name = n.name) with
    | none => exact absurd (List.find?_eq_none.1 hf n hn) (by simp)
    | some m =>
      have hm := List.mem_of_find?_eq_some hf
      obtain ⟨_, x, hx, e⟩ := hW.nmI m hm
      have := hW.ne0 hx
      simp
      omega
  obtain ⟨m, hm, e1, e2, e3⟩ := entry_mem h0
  rw [← e3, uniq_eq hW.uniq hn hm e1.symm e2.symm]
def wtP (r : RFs) (k : Nat) (d : Int) (s : List UInt8) : Nat := 1 + if (byIdP r.ins (entryP r.nms d ⟨s.toArray⟩)).kind = 2 then metF r k (entryP r.nms d ⟨s.toArray⟩) else 0
theorem wt_sum (hW : Wf r K) (k : Nat) (d : Int) : ((sortedN (namesP r.nms d)).map (wtP r k d)).sum = metF r (k + 1) d := by
  rw [((sortedN_perm (namesP r.nms d)).map (wtP r k d)).sum_nat, List.map_map]
  have h1 : (namesP r.nms d).map (wtP r k d ∘ fun p => p.1.data.toList) = (namesP r.nms d).map fun p => 1 + if (byIdP r.ins p.2).kind = 2 then metF r k p.2 else 0 := List.map_congr_left fun p hp => by
    obtain ⟨n, hn, e1, e2, e3⟩ := names_mem.1 hp
    have h2 := entry_eq hW hn
    rw [e1, e2, e3] at h2
    show wtP r k d p.1.data.toList = _
    unfold wtP
    rw [show (⟨p.1.data.toList.toArray⟩ : ByteArray) = p.1 from rfl, h2]
  rw [h1, metF]
  unfold kidsP
  generalize namesP r.nms d = l
  induction l with
  | nil => rfl
  | cons p l ih =>
    rw [List.map_cons, List.sum_cons, ih, List.length_cons, List.map_cons, List.filter_cons]
    by_cases hk : (byIdP r.ins p.2).kind = 2
    · simp [hk]; omega
    · simp [hk]; omega
/-- What a name in a folder leads to. -/
theorem item (hW : Wf r K) {d g : Int} (hl : liveP r (d, g) = true) (hk : (byIdP r.ins d).kind = 2) {s : List UInt8} (hs : s ∈ sortedN (namesP r.nms d)) :
    ∃ x ∈ r.ins, s.length ≤ 60 ∧ entryP r.nms d ⟨s.toArray⟩ = x.id ∧ lookP r (d, g) ⟨s.toArray⟩ = ((x.id, x.gen), 0) ∧ 1 ≤ linksN r x ∧ x.id ≠ 1 ∧ (x.kind = 2 → x.parent = d ∧ lookP r (x.id, x.gen) dot2S = ((d, g), 0)) := by
  obtain ⟨p, hp, rfl⟩ := List.mem_map.1 ((sortedN_perm _).mem_iff.1 hs)
  obtain ⟨n, hn, e1, e2, e3⟩ := names_mem.1 hp
  obtain ⟨hn1, x, hx, ex⟩ := hW.nmI n hn
  have he := entry_eq hW hn
  rw [e1, e2] at he
  have hv := hW.nmV n hn
  rw [e2] at hv
  have hb := hW.byId hx
  obtain ⟨m1, m2, m3⟩ := live_mem hl
  rw [show (⟨p.1.data.toList.toArray⟩ : ByteArray) = p.1 from rfl]
  have hfo : folderE r (d, g) = 0 := by unfold folderE; rw [if_pos hl]; exact if_pos hk
  have hpl : placeE r (d, g) p.1 true = 0 := by unfold placeE; rw [if_neg (by rw [hfo]; decide), hv]; simp
  have hv2 := hv
  unfold validP at hv2
  simp only [Bool.and_eq_true, decide_eq_true_eq] at hv2
  have hx0 := hW.ne0 hx
  refine ⟨x, hx, ?_, he.trans ex.symm, ?_, ?_, by rw [ex]; exact hn1, fun hkx => ?_⟩
  · have := hv2.1.2.1
    simpa using this
  · unfold lookP
    rw [if_neg (by rw [hpl]; decide), if_neg hv2.1.2.2.1, if_neg hv2.1.2.2.2]
    rw [show (d, g).1 = d from rfl, he, ← ex, if_neg hx0, hb]
  · unfold linksN
    split
    · omega
    · exact List.countP_pos_iff.2 ⟨n, hn, by simpa using ex.symm⟩
  · obtain ⟨q1, _⟩ := one_dir hW hx hkx hn ex.symm
    refine ⟨by rw [← q1, e1], ?_⟩
    have hlx : liveP r (x.id, x.gen) = true := (live_iff hW _).2 ⟨x, hx, rfl, rfl⟩
    have hfx : folderE r (x.id, x.gen) = 0 := by unfold folderE; rw [if_pos hlx]; exact if_pos (by rw [hb]; exact hkx)
    have hpx : placeE r (x.id, x.gen) dot2S true = 0 := by unfold placeE; rw [if_neg (by rw [hfx]; decide)]; simp
    unfold lookP
    rw [if_neg (by rw [hpx]; decide), if_neg (by decide +kernel), if_pos rfl]
    rw [show (x.id, x.gen).1 = x.id from rfl, hb, ← q1, e1, m3]
end

set_option maxRecDepth 100000 in
set_option maxHeartbeats 16000000 in
theorem walk_any {r : RFs} {K : Nat} (hW : Wf r K) (hK : K ≤ 1000000) : ∀ (k : Nat) (d g : Int) (L : List Int), Chain r d L → 201 ≤ k + L.length → liveP r (d, g) = true → ∀ (w : World) (f mi mg : Nat) (N : List Nd), FsN w f mi mg r N →
    Calls Try.prog 43 #[.pointer (some ⟨f, 0, none⟩), .agg #[.int .i64 d, .int .i64 g], .int .i64 ((L.length : Int) - 1)] w fun e w' => e = .returned (.tuple #[.int .i64 (metF r k d : Int), .bool true]) ∧ Below w.heap.size w w' := by
  intro k
  induction k with
  | zero => intro d g L hc hl; have := (hc.len hW).1; omega
  | succ k ih =>
    intro d g L hc hL hl w f mip mg N h
    obtain ⟨hL1, hL2⟩ := hc.len hW
    have hk : (byIdP r.ins d).kind = 2 := by
      obtain ⟨x, hx, rfl, hkx⟩ := hc.folder hW
      rw [hW.byId hx]; exact hkx
    have hmb := met_le hW hc hL
    have hsum := wt_sum hW k d
    have hfo : folderE r (d, g) = 0 := by unfold folderE; rw [if_pos hl]; exact if_pos hk
    obtain ⟨w1, hw1, hB, hs1, hb0⟩ := box1 w #[.int .i64 d, .int .i64 g] 68
    have HLs := Lib.hid (show Calls Try.prog 65 #[.pointer (some ⟨f, 0, none⟩), .agg #[.int .i64 d, .int .i64 g]] w1 (fun e w' => ∃ A c, e = .returned (.tuple #[.slice A (sortedN (namesP r.nms d)).length c, .int .i64 0]) ∧ Rd w' w'.heap.size 1 strC A (sortedN (namesP r.nms d)) ∧ Below w1.heap.size w1 w') from
      (list_any (h.below hW hB) hW hK d g).mono fun e w' ⟨hR, hb⟩ => by
        unfold ListR at hR
        rw [hfo, if_neg (by decide)] at hR
        obtain ⟨A, c, he, hrd, _⟩ := hR
        exact ⟨A, c, he, hrd, hb⟩)
    have HC := Lib.hid (show ∀ w', Below w1.heap.size w1 w' → w'.cell? ⟨w.heap.size, 0, none⟩ = some (.int .i64 d) ∧ w'.cell? ⟨w.heap.size, 1, none⟩ = some (.int .i64 g) from fun w' hb => by
      have e1 := (hb.block w.heap.size (by omega)).trans hb0
      exact ⟨cell_at e1 0, cell_at e1 1⟩)
    have HF := Lib.hid (show ∀ w', Below w1.heap.size w1 w' → FsN w' f mip mg r N from fun w' hb => (h.below hW hB).below hW hb)
    have HIt := Lib.hid (fun (s : List UInt8) hs => item hW hl hk (s := s) hs)
    have HWf := Lib.hid hW
    have HIh := Lib.hid ih
    have HSum := Lib.hid hsum
    have HCh := Lib.hid hc
    have HW1 := Lib.hid hw1
    have HB := Lib.hid hB
    obtain ⟨c0, c1⟩ := HC.out w1 (Below.refl _ _)
    have hsl : (sortedN (namesP r.nms d)).length ≤ K := by
      rw [(sortedN_perm _).length_eq, List.length_map, namesP_len]
      exact Nat.le_trans List.countP_le_length hW.nmK
    generalize metF r (k + 1) d = M at *
    generalize sortedN (namesP r.nms d) = S at *
    generalize hn : S.length = n at *
    have HNl := Lib.hid hn
    clear hw1 hB hb0 h hW ih hsum hc hl hk hfo hn
    have tdeep : decide (200 < (L.length : Int) - 1) = false := decide_eq_false (by omega)
    generalize hLl : L.length = nl at *
    have HLl := Lib.hid hLl
    clear hLl
    go_enter Try.func43, Try.ntmps43
    go_wp2_with fail
    rw [HW1.out]
    go_wp2_with (go_at_call 65; (with_reducible refine HLs.out.mono ?_); rintro e w2 ⟨A, c, rfl, hrd, hb2⟩)
    have HRd := Lib.hid hrd
    have HB2 := Lib.hid hb2
    clear hrd hb2 c0 c1
    have HF2 := Lib.hid (show ∀ w', Below w2.heap.size w2 w' → FsN w' f mip mg r N from fun w' hb => HF.out w' (HB2.out.trans (hb.mono HB2.out.size)))
    have HC2 := Lib.hid (show ∀ w', Below w2.heap.size w2 w' → w'.cell? ⟨w.heap.size, 0, none⟩ = some (.int .i64 d) ∧ w'.cell? ⟨w.heap.size, 1, none⟩ = some (.int .i64 g) from fun w' hb => HC.out w' (HB2.out.trans (hb.mono HB2.out.size)))
    go_loopw [34, 10] (fun vi vm wr => ∃ (i : Nat), i ≤ n ∧ vi = .int .i64 (i : Int) ∧ vm = .int .i64 ((((S.take i).map (wtP r k d)).sum : Nat) : Int) ∧ Below w2.heap.size w2 wr) (fun vi _ _ => n - (intOf vi).toNat)
    case atStart => exact ⟨0, Nat.zero_le _, rfl, by simp, Below.refl _ _⟩
    case round =>
      obtain ⟨i, hi, rfl, rfl, hBr⟩ := hrel
      have HBr := Lib.hid hBr
      clear hBr
      by_cases hin : i < n
      · have hil : i < S.length := by rw [HNl.out]; exact hin
        have hd := HRd.out.below HBr.out
        obtain ⟨ad, had, hadb⟩ := hd.addr hil
        subst had
        have d0 : wr.cell? (ad.add i) = some (.string ⟨S[i].toArray⟩) := by have := hd.cell hil (j := 0) rfl; rw [add_assoc', Nat.mul_one, Nat.add_zero] at this; exact this
        have hTk := List.take_succ_eq_append_getElem hil
        have hle : ((S.take (i + 1)).map (wtP r k d)).sum ≤ M := by
          rw [← HSum.out]
          conv => rhs; rw [← List.take_append_drop (i + 1) S, List.map_append, List.sum_append]
          omega
        obtain ⟨x, hx, hs60, hent, hlk, hln, hx1, hkd⟩ := HIt.out _ (List.getElem_mem hil)
        rw [hTk, List.map_append, List.sum_append] at hle
        have hst : ((S.take (i + 1)).map (wtP r k d)).sum = ((S.take i).map (wtP r k d)).sum + wtP r k d S[i] := by
          rw [hTk, List.map_append, List.sum_append]; simp
        have hwt : wtP r k d S[i] = 1 + if x.kind = 2 then metF r k x.id else 0 := by unfold wtP; rw [hent, HWf.out.byId hx]
        have hwt2 := hwt
        have hmet : ((S.take i).map (wtP r k d)).sum + wtP r k d S[i] ≤ M := by simpa using hle
        have hxk := HWf.out.kind x hx
        have hlx : liveP r (x.id, x.gen) = true := (live_iff HWf.out _).2 ⟨x, hx, rfl, rfl⟩
        have hbx := HWf.out.byId hx
        have HST := Lib.hid hst
        generalize hmi : ((S.take i).map (wtP r k d)).sum = mi at *
        generalize S[i] = s at *
        have HLk := show ∀ w', Below w2.heap.size w2 w' → Calls Try.prog 36 #[.pointer (some ⟨f, 0, none⟩), .agg #[.int .i64 d, .int .i64 g], .string ⟨s.toArray⟩] w' (fun e w'' => e = .returned (hndV (lookP r (d, g) ⟨s.toArray⟩)) ∧ Below w2.heap.size w2 w'' ∧ Below w'.heap.size w' w'') from fun w' hb =>
          (look_any (HF2.out w' hb) HWf.out d g ⟨s.toArray⟩ (by show s.toArray.size ≤ _; rw [List.size_toArray]; unfold maxLen; omega)).mono fun e w'' ⟨he, hs⟩ => ⟨he, hb.trans (hs.mono hb.size), hs⟩
        rw [hlk] at HLk
        unfold hndV at HLk
        dsimp only at HLk
        replace HLk := Lib.hid HLk
        have HSt := show ∀ w', Below w2.heap.size w2 w' → Calls Try.prog 35 #[.pointer (some ⟨f, 0, none⟩), .agg #[.int .i64 x.id, .int .i64 x.gen]] w' (fun e w'' => e = .returned (statV r (x.id, x.gen)) ∧ Below w2.heap.size w2 w'' ∧ Below w'.heap.size w' w'') from fun w' hb =>
          (stat_any (HF2.out w' hb) HWf.out x.id x.gen).mono fun e w'' ⟨he, hs⟩ => ⟨he, hb.trans (hs.mono hb.size), hs⟩
        rw [show statV r (x.id, x.gen) = .tuple #[infoV x.id x.gen x.kind x.mode (linksN r x) (sizeN r x) ((x.On.length : Nat) : Int) x.time, .int .i64 0] by unfold statV; rw [if_pos hlx, hbx]] at HSt
        unfold infoV at HSt
        have hln' : decide ((linksN r x : Int) < 1) = false := decide_eq_false (by omega)
        generalize (linksN r x : Int) = lk at HSt hln'
        generalize sizeN r x = v5 at HSt
        generalize ((x.On.length : Nat) : Int) = v6 at HSt
        generalize x.mode = v3 at HSt
        generalize x.time = v7 at HSt
        obtain ⟨c0, c1⟩ := HC2.out wr HBr.out
        by_cases hk2 : x.kind = 2
        · obtain ⟨hpar, hup⟩ := hkd hk2
          rw [if_pos hk2] at hwt2
          have HUp := show ∀ w', Below w2.heap.size w2 w' → Calls Try.prog 36 #[.pointer (some ⟨f, 0, none⟩), .agg #[.int .i64 x.id, .int .i64 x.gen], .string ⟨#[46, 46]⟩] w' (fun e w'' => e = .returned (hndV (lookP r (x.id, x.gen) dot2S)) ∧ Below w2.heap.size w2 w'' ∧ Below w'.heap.size w' w'') from fun w' hb =>
            (look_any (HF2.out w' hb) HWf.out x.id x.gen dot2S (by decide)).mono fun e w'' ⟨he, hs⟩ => ⟨he, hb.trans (hs.mono hb.size), hs⟩
          rw [hup] at HUp
          unfold hndV at HUp
          dsimp only at HUp
          replace HUp := Lib.hid HUp
          have HWk := Lib.hid (show ∀ w', Below w2.heap.size w2 w' → Calls Try.prog 43 #[.pointer (some ⟨f, 0, none⟩), .agg #[.int .i64 x.id, .int .i64 x.gen], .int .i64 (nl : Int)] w' (fun e w'' => e = .returned (.tuple #[.int .i64 (metF r k x.id : Int), .bool true]) ∧ Below w2.heap.size w2 w'' ∧ Below w'.heap.size w' w'') from fun w' hb => by
            have := HIh.out x.id x.gen (x.id :: L) (Chain.step hx hk2 hx1 (by rw [hpar]; exact HCh.out)) (by rw [List.length_cons, HLl.out]; omega) hlx w' f mip mg N (HF2.out w' hb)
            rw [show (((x.id :: L).length : Nat) : Int) - 1 = (nl : Int) by rw [List.length_cons, HLl.out]; omega] at this
            exact this.mono fun e w'' ⟨he, hs⟩ => ⟨he, hb.trans (hs.mono hb.size), hs⟩)
          rw [hk2] at HSt
          replace HSt := Lib.hid HSt
          have heq := fun w => neq_hnd w d g d g
          simp only [and_self, decide_true, Bool.not_true] at heq
          generalize metF r k x.id = mm at *
          generalize x.id = xi at *
          generalize x.gen = xg at *
          clear hx hxk hlx hbx hent hlk hln hkd hup hpar hk2 hx1 hwt hst hTk hd hil hmi
          go_wp2_with (first
            | (go_at_call 36; (with_reducible refine (HLk.out _ HBr.out).mono ?_); rintro e w3 ⟨rfl, hb3, hl3⟩; have hb3a := hb3.alloc hb3.size (.cells #[.int .i64 xi, .int .i64 xg] 68); have e3 := Lib.hid (heap_alloc_new w3 (.cells #[.int .i64 xi, .int .i64 xg] 68)))
            | (go_at_call 35; (with_reducible refine (HSt.out _ hb3a).mono ?_); rintro e w4 ⟨rfl, hb4, hl4⟩; have e4 := (hl4.block w3.heap.size (by simp)).trans e3.out; have u0 := cell_at e4 0; have u1 := cell_at e4 1; have hlt4 := heap_lt e4; have e4a := Lib.hid ((Below.heap_alloc w4 (.cells #[.int .i64 xi, .int .i64 xg, .int .i64 2, .int .i64 v3, .int .i64 lk, .int .i64 v5, .int .i64 v6, .int .i64 v7] 71) _ hlt4).trans e4); have hb4a := hb4.alloc hb4.size (.cells #[.int .i64 xi, .int .i64 xg, .int .i64 2, .int .i64 v3, .int .i64 lk, .int .i64 v5, .int .i64 v6, .int .i64 v7] 71); clear e4)
            | (go_at_call 36; (with_reducible refine (HUp.out _ hb4a).mono ?_); rintro e w5 ⟨rfl, hb5, hl5⟩; have e5 := (hl5.block w3.heap.size (heap_lt e4a.out)).trans e4a.out; have p0 := cell_at e5 0; have p1 := cell_at e5 1; have hlt5 := heap_lt e5; have hb5a := hb5.alloc hb5.size (.cells #[.int .i64 d, .int .i64 g] 68); have g5 := Lib.hid (heap_alloc_new w5 (.cells #[.int .i64 d, .int .i64 g] 68)); clear e5 u0 u1)
            | (go_at_call 43; (with_reducible refine (HWk.out _ hb5a).mono ?_); rintro e w6 ⟨rfl, hb6, hl6⟩; have g6 := (hl6.block w5.heap.size (by simp)).trans g5.out; have q0 := cell_at g6 0; have q1 := cell_at g6 1; obtain ⟨z0, z1⟩ := HC2.out w6 hb6; clear g6 p0 p1))
          go_roundw
          case rel => exact ⟨i + 1, by omega, by go_num, congrArg (Value.int .i64) (by rw [HST.out]; omega), hb6⟩
          case measure => simp [intOf]; omega
        · have tk : (x.kind != 2) = true := bne_iff_ne.2 hk2
          rw [if_neg hk2] at hwt2
          replace HSt := Lib.hid HSt
          generalize x.id = xi at *
          generalize x.gen = xg at *
          generalize x.kind = xk at *
          clear hx hxk hlx hbx hent hlk hln hkd hk2 hx1 hwt hst hTk hd hil hmi
          go_wp2_with (first
            | (go_at_call 36; (with_reducible refine (HLk.out _ HBr.out).mono ?_); rintro e w3 ⟨rfl, hb3, hl3⟩; have hb3a := hb3.alloc hb3.size (.cells #[.int .i64 xi, .int .i64 xg] 68))
            | (go_at_call 35; (with_reducible refine (HSt.out _ hb3a).mono ?_); rintro e w4 ⟨rfl, hb4, hl4⟩))
          go_roundw
          case rel => exact ⟨i + 1, by omega, by go_num, congrArg (Value.int .i64) (by rw [HST.out]; omega), hb4.alloc hb4.size _⟩
          case measure => simp [intOf]; omega
      · have hiE : i = n := by omega
        subst hiE
        have hT : S.take i = S := List.take_of_length_le (by rw [HNl.out]; exact Nat.le_refl _)
        rw [hT, HSum.out]
        go_wp2
        go_ret2
        exact ⟨rfl, HB.out.trans ((HB2.out.trans (HBr.out.mono HB2.out.size)).mono (by omega))⟩
end Go.Proofs.Ytpcjmefchclhhaa

/- FscoreHangs, said plainly: links and folders, counted by numbers and generations. -/
namespace Go.Proofs.Ytpcjmefchclhhaa
open Go.RowKit Go.MapKept

section
variable {r : RFs} {K : Nat}
/-- Is an inode ahead of this number and generation? -/
def QB (i g : Int) (x : RIn) : Bool := decide (x.id < i ∨ x.id = i ∧ x.gen < g)
def FNn (r : RFs) (i g : Int) : Nat := (r.ins.map fun x => if QB i g x = true ∧ x.kind = 2 then 1 else 0).sum
def LNn (r : RFs) (i g : Int) : Nat := (r.ins.map fun x => if QB i g x = true ∧ x.kind ≠ 2 then linksN r x else 0).sum
theorem sum_same {α : Type} {l : List α} {a b : α → Nat} (h : ∀ x ∈ l, a x = b x) : (l.map a).sum = (l.map b).sum := by rw [List.map_congr_left h]
theorem sum_split {l : List RIn} (hn : (l.map (·.id)).Nodup) {x0 : RIn} (hx : x0 ∈ l) {a b : RIn → Nat} {c : Nat} (h : ∀ x ∈ l, x.id ≠ x0.id → a x = b x) (h0 : a x0 = b x0 + c) : (l.map a).sum = (l.map b).sum + c := by
  induction l with
  | nil => simp at hx
  | cons y l ih =>
    simp only [List.map_cons, List.nodup_cons] at hn
    rw [List.map_cons, List.map_cons, List.sum_cons, List.sum_cons]
    rcases List.mem_cons.1 hx with e | hx
    · subst e
      rw [sum_same (l := l) (a := a) (b := b) (fun x hxl => h x (List.mem_cons_of_mem _ hxl) (fun e => hn.1 (by rw [← e]; exact List.mem_map.2 ⟨x, hxl, rfl⟩))), h0]
      omega
    · rw [ih hn.2 hx (fun x hxl => h x (List.mem_cons_of_mem _ hxl)), h y (List.mem_cons_self ..) (fun e => hn.1 (by rw [e]; exact List.mem_map.2 ⟨x0, hx, rfl⟩))]
      omega
theorem QB_up {i g : Int} {x : RIn} (h : ¬ (x.id = i ∧ x.gen = g)) : QB i (g + 1) x = QB i g x := by
  unfold QB
  rw [decide_eq_decide]
  omega
theorem QB_at {i g : Int} {x : RIn} (h1 : x.id = i) (h2 : x.gen = g) : QB i (g + 1) x = true ∧ QB i g x = false := by
  unfold QB
  exact ⟨decide_eq_true (by omega), decide_eq_false (by omega)⟩
theorem cnt_dead (hW : Wf r K) {i g : Int} (hl : liveP r (i, g) = false) : FNn r i (g + 1) = FNn r i g ∧ LNn r i (g + 1) = LNn r i g := by
  have hno : ∀ x ∈ r.ins, ¬ (x.id = i ∧ x.gen = g) := fun x hx ⟨e1, e2⟩ => by
    rw [(live_iff hW (i, g)).2 ⟨x, hx, e1, e2⟩] at hl; cases hl
  exact ⟨sum_same fun x hx => by rw [QB_up (hno x hx)], sum_same fun x hx => by rw [QB_up (hno x hx)]⟩
theorem cnt_live (hW : Wf r K) {i g : Int} (hl : liveP r (i, g) = true) : FNn r i (g + 1) = FNn r i g + (if (byIdP r.ins i).kind = 2 then 1 else 0) ∧ LNn r i (g + 1) = LNn r i g + (if (byIdP r.ins i).kind = 2 then 0 else linksN r (byIdP r.ins i)) := by
  obtain ⟨m1, m2, m3⟩ := live_mem hl
  have h1 : ∀ x ∈ r.ins, x.id ≠ (byIdP r.ins i).id → QB i (g + 1) x = QB i g x := fun x hx hne => QB_up (fun e => hne (by rw [e.1, m2]))
  obtain ⟨q1, q2⟩ := QB_at (i := i) (g := g) m2 m3
  refine ⟨sum_split hW.ids m1 (fun x hx hne => by rw [h1 x hx hne]) ?_, sum_split hW.ids m1 (fun x hx hne => by rw [h1 x hx hne]) ?_⟩
  · rw [q1, q2]; by_cases hk : (byIdP r.ins i).kind = 2 <;> simp [hk]
  · rw [q1, q2]; by_cases hk : (byIdP r.ins i).kind = 2 <;> simp [hk]
theorem cnt_begin (hW : Wf r K) (i : Int) : FNn r i 1 = FNn r i 0 ∧ LNn r i 1 = LNn r i 0 := by
  have h : ∀ x ∈ r.ins, QB i 1 x = QB i 0 x := fun x hx => by
    have := (hW.gen x hx).2
    unfold QB; rw [decide_eq_decide]; omega
  exact ⟨sum_same fun x hx => by rw [h x hx], sum_same fun x hx => by rw [h x hx]⟩
theorem gen_le (hW : Wf r K) {x : RIn} (hx : x ∈ r.ins) : x.gen ≤ (K : Int) + 1 := by
  have h1 := hW.gen x hx
  have h2 : gensAt r.gens x.id ≤ (K : Int) + 1 := by
    unfold gensAt
    split
    · rw [List.getD_eq_getElem?_getD]
      cases hg : r.gens[x.id.toNat]? with
      | none => show (0 : Int) ≤ _; omega
      | some v => exact (hW.genK v (List.mem_of_getElem? hg)).2
    · omega
  omega
theorem cnt_next (hW : Wf r K) (i : Int) : FNn r i ((K : Int) + 2) = FNn r (i + 1) 0 ∧ LNn r i ((K : Int) + 2) = LNn r (i + 1) 0 := by
  have h : ∀ x ∈ r.ins, QB i ((K : Int) + 2) x = QB (i + 1) 0 x := fun x hx => by
    have h1 := gen_le hW hx
    have h2 := (hW.gen x hx).2
    unfold QB; rw [decide_eq_decide]; constructor <;> (intro h3; omega)
  exact ⟨sum_same fun x hx => by rw [h x hx], sum_same fun x hx => by rw [h x hx]⟩
theorem cnt_first (hW : Wf r K) : FNn r 1 0 = 0 ∧ LNn r 1 0 = 0 := by
  have h : ∀ x ∈ r.ins, QB 1 0 x = false := fun x hx => by
    have h2 := hW.rng x hx
    have h3 := (hW.gen x hx).2
    unfold QB; exact decide_eq_false (by omega)
  have h0 : ∀ l : List RIn, (l.map fun _ => (0 : Nat)).sum = 0 := fun l => by
    induction l with
    | nil => rfl
    | cons a l ih => rw [List.map_cons, List.sum_cons, ih]
  refine ⟨?_, ?_⟩
  · unfold FNn; rw [sum_same (b := fun _ => 0) (fun x hx => by rw [h x hx]; simp)]; exact h0 _
  · unfold LNn; rw [sum_same (b := fun _ => 0) (fun x hx => by rw [h x hx]; simp)]; exact h0 _
theorem cnt_last (hW : Wf r K) : LNn r 201 0 + FNn r 201 0 = r.nms.length + 1 := by
  have h : ∀ x ∈ r.ins, QB 201 0 x = true := fun x hx => by
    have h2 := hW.rng x hx
    unfold QB; exact decide_eq_true (by omega)
  have e1 : LNn r 201 0 = (r.ins.map fun x => if x.kind = 2 then 0 else linksN r x).sum := sum_same fun x hx => by rw [h x hx]; by_cases hk : x.kind = 2 <;> simp [hk]
  have e2 : FNn r 201 0 = (r.ins.map fun x => if decide (x.kind = 2) = true then 1 else 0).sum := sum_same fun x hx => by rw [h x hx]; by_cases hk : x.kind = 2 <;> simp [hk]
  rw [names_total hW, countP_sum, e1, e2]
theorem sum_mono {α : Type} {l : List α} {a b : α → Nat} (h : ∀ x ∈ l, a x ≤ b x) : (l.map a).sum ≤ (l.map b).sum := by
  induction l with
  | nil => simp
  | cons y l ih =>
    rw [List.map_cons, List.map_cons, List.sum_cons, List.sum_cons]
    have := h y (List.mem_cons_self ..)
    have := ih fun x hx => h x (List.mem_cons_of_mem _ hx)
    omega
theorem cnt_le (hW : Wf r K) (i g : Int) : LNn r i g + FNn r i g ≤ K + 1 := by
  have h := names_total hW
  have hk := hW.nmK
  have h1 : LNn r i g ≤ (r.ins.map fun x => if x.kind = 2 then 0 else linksN r x).sum := sum_mono fun x _ => by
    by_cases hk : x.kind = 2
    · simp [hk]
    · by_cases hq : QB i g x = true <;> simp [hk, hq]
  have h2 : FNn r i g ≤ r.ins.countP fun x => decide (x.kind = 2) := by
    rw [countP_sum]
    exact sum_mono fun x _ => by
      by_cases hk : x.kind = 2
      · by_cases hq : QB i g x = true <;> simp [hk, hq]
      · simp [hk]
  omega
end
end Go.Proofs.Ytpcjmefchclhhaa

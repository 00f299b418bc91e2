/- The reference's Do; the laws' few. -/
import Derived.Test.YtpcjmefchclhhaaShR
import Derived.Test.YtpcjmefchclhhaaShI
namespace Go.Proofs.Ytpcjmefchclhhaa
open Go.RowKit Go.MapKept

/-- A sheet that stands for the reference's has few enough blocks. -/
theorem SameS.small {size : Nat} {bl : List (Nat × List UInt8)} {B : List UInt8} {On : List Nat} (h : SameS size bl B On) (hs : size ≤ 1048576) : On.length ≤ 65536 ∧ ∀ k ∈ On, k < 65536 := by
  have hk : ∀ k ∈ On, k < 65536 := fun k hk => by
    rw [h.on] at hk
    have := has_inv h.inv ((mem_keysS bl k).1 hk)
    omega
  refine ⟨nodup_lt 65536 On ?_ hk, hk⟩
  rw [h.on]
  exact (keysS_rising h.nodup).imp fun h => by omega

theorem heap_alloc3_new (w : World) (A B C : Obj) : (((w.alloc A).alloc B).alloc C).heap[w.heap.size + 1 + 1]? = some C := by
  have := heap_alloc_new ((w.alloc A).alloc B) C
  simpa using this
/-- Whole numbers that are read do not lie where slices lie. -/
theorem Rd.offI {α : Type} {w w' : World} {B g : Nat} {A : Option Addr} {l : List α} {f : α → List Value} (hf : ∀ x, ∃ k n, f x = [.int k n]) (h : Rd w B 1 f A l) {cs : Array Value} {t : TypeId} {fr : Nat × Nat} (hg : w.heap[g]? = some (.cells cs t fr)) (hcs : ∀ v ∈ cs.toList, ∃ a b c, v = .slice a b c)
    (hb : ∀ k, k < w.heap.size → k ≠ g → w'.heap[k]? = w.heap[k]?) : Rd w' B 1 f A l := fun i x hx => by
  obtain ⟨a, e, hB, hc⟩ := h i x hx
  refine ⟨a, e, hB, fun j v hv => ?_⟩
  have h1 := hc j v hv
  have hne : ((a.add (i * 1)).add j).block ≠ g := by
    intro heq
    generalize (a.add (i * 1)).add j = p at *
    obtain ⟨k, n, hk⟩ := hf x
    have hj : v = .int k n := by
      rw [hk] at hv
      match j, hv with
      | 0, hv => simpa using hv.symm
      | j + 1, hv => simp at hv
    rw [← heq] at hg
    simp only [World.cell?, hg] at h1
    split at h1
    · cases h1
    · obtain ⟨a1, b1, c1, e1⟩ := hcs v (by obtain ⟨hlt, he⟩ := Array.getElem?_eq_some_iff.1 h1; rw [← he]; simp)
      rw [hj] at e1
      cases e1
  rw [World.cell?_of_block (w := w) (hb _ (block_lt_of_cell h1) hne)]
  exact h1
theorem RSh.off {w w' : World} {v : Value} {B : List UInt8} {On : List Nat} {g : Nat} (h : RSh w v B On) {cs : Array Value} {t : TypeId} {fr : Nat × Nat} (hg : w.heap[g]? = some (.cells cs t fr)) (hcs : ∀ v ∈ cs.toList, ∃ a b c, v = .slice a b c) (hgr : w.grownBy w' (some g)) (ht : t ≠ 3) : RSh w' v B On := by
  obtain ⟨⟨A, c, A', c', rfl, h1, h2, h31, h32, h33, h34, h35⟩, h4, h5, h6⟩ := h
  have hb : ∀ k, k < w.heap.size → k ≠ g → w'.heap[k]? = w.heap[k]? := fun k hk hne => hgr.block k hk (fun e => hne (by injection e))
  exact ⟨⟨A, c, A', c', rfl, (h1.offI (fun x => ⟨_, _, rfl⟩) hg hcs hb).more hgr.size, (h2.offI (fun x => ⟨_, _, rfl⟩) hg hcs hb).more hgr.size, h31, h32, h33, h34, h35.grown hgr hg ht⟩, h4, h5, h6⟩
theorem RSh.frm {w w' : World} {v : Value} {B : List UInt8} {On : List Nat} {b m size : Nat} {bl : List (Nat × List UInt8)} (h : RSh w v B On) (hr : Raw w b m size bl) (hf : Frm [b, m] w w') : RSh w' v B On := by
  obtain ⟨⟨A, c, A', c', rfl, h1, h2, h31, h32, h33, h34, h35⟩, h4, h5, h6⟩ := h
  obtain ⟨es, clock, hmb, _⟩ := hr.map
  have hA : ∀ a, A' = some a → a.block ∉ [b, m] := fun a ha hm => by
    have n1 := h35.ne hr.head (fun cs fr e => by injection e with _ e2 _; exact absurd e2 (by decide)) a ha
    have n2 := h35.ne hmb (fun cs fr e => by cases e) a ha
    simp at hm
    rcases hm with e | e
    · exact n1 e
    · exact n2 e
  refine ⟨⟨A, c, A', c', rfl, (h1.frm hr hf).more hf.size, (h2.apart hf hA).more hf.size, h31, h32, h33, h34, fun a ha => ?_⟩, h4, h5, h6⟩
  obtain ⟨cs, fr, hc⟩ := h35 a ha
  exact ⟨cs, fr, (hf.block _ (Array.getElem?_eq_some_iff.1 hc).1 (hA a ha)).trans hc⟩
theorem RSh.agg {w : World} {v : Value} {B : List UInt8} {On : List Nat} (h : RSh w v B On) : ∃ cs : Array Value, v = .agg cs ∧ cs.size = 2 ∧ (∀ u ∈ cs.toList, u.oneCell' = true) ∧ ∀ u ∈ cs.toList, ∃ a b c, u = .slice a b c := by
  obtain ⟨⟨a1, b1, a2, b2, rfl, _⟩, _⟩ := h
  exact ⟨_, rfl, rfl, fun u hu => by simp at hu; rcases hu with rfl | rfl <;> rfl, fun u hu => by simp at hu; rcases hu with rfl | rfl <;> exact ⟨_, _, _, rfl⟩⟩

set_option maxRecDepth 100000 in
set_option maxHeartbeats 4000000 in
theorem rdo_any {w : World} {v : Value} {B : List UInt8} {On : List Nat} (h : RSh w v B On) (o : OpR) (A : Option Addr) (c : Nat) (hl : o.bytes.length ≤ maxLen) (hlc : o.bytes.length ≤ c) (hrd : Rd w w.heap.size 1 byteC A o.bytes) (hOn : (doOn B On o).length ≤ 65536) :
    Calls Try.prog 45 #[v, opV o A c] w fun e w' => ∃ v', e = .returned (.tuple #[v', .bool (stepOk o)]) ∧ RSh w' v' (doB B o) (doOn B On o) ∧ Below w.heap.size w w' := by
  obtain ⟨K, at_, n, l⟩ := o
  obtain ⟨⟨As, cs, As', cs', rfl, h1⟩, h2⟩ := id h
  have hb0 : Below w.heap.size w (w.alloc (.cells #[.slice As B.length cs, .slice As' On.length cs'] 30)) := (Below.refl _ _).alloc (Nat.le_refl _) _
  have hb1 := hb0.alloc (by simp) (.cells #[.int .i64 K, .int .i64 at_, .int .i64 n, .slice A l.length c] 39)
  have hb2 := hb1.alloc (by simp; omega) (.cells #[.slice none 0 0, .slice none 0 0] 30)
  obtain ⟨w2, hw2⟩ : ∃ w2, ((w.alloc (.cells #[.slice As B.length cs, .slice As' On.length cs'] 30)).alloc (.cells #[.int .i64 K, .int .i64 at_, .int .i64 n, .slice A l.length c] 39)).alloc (.cells #[.slice none 0 0, .slice none 0 0] 30) = w2 := ⟨_, rfl⟩
  rw [hw2] at hb2
  have hz2 : w2.heap[w.heap.size + 1 + 1]? = some (.cells #[.slice none 0 0, .slice none 0 0] 30 (0, 0)) := by
    rw [← hw2]
    have := heap_alloc_new ((w.alloc (.cells #[.slice As B.length cs, .slice As' On.length cs'] 30)).alloc (.cells #[.int .i64 K, .int .i64 at_, .int .i64 n, .slice A l.length c] 39)) (.cells #[.slice none 0 0, .slice none 0 0] 30)
    simpa using this
  have HZ2 := Lib.hid hz2
  have HB2 := Lib.hid hb2
  have HW2 := Lib.hid hw2
  have HH := Lib.hid (h.below hb2)
  have HH0 := Lib.hid h
  have HR := Lib.hid ((hrd.below hb2).more hb2.size)
  have HL := Lib.hid hl
  have HOn := Lib.hid hOn
  have hlt : w.heap.size + 1 + 1 < w2.heap.size := by rw [← hw2]; simp
  clear hb0 hb1 hb2 hz2 hw2 h hrd hl hOn h1 h2
  simp only [opV] at *
  have hcase : K = 0 ∨ K = 1 ∨ K = 2 ∨ K ≠ 0 ∧ K ≠ 1 ∧ K ≠ 2 := by omega
  rcases hcase with rfl | rfl | rfl | ⟨h0, h1, h2⟩
  case inr.inr.inr =>
    have E1 := Lib.hid (show doB B ⟨K, at_, n, l⟩ = B by simp [doB, h0, h1, h2])
    have E2 := Lib.hid (show doOn B On ⟨K, at_, n, l⟩ = On by simp [doOn, h0, h1, h2])
    have E3 := Lib.hid (show stepOk ⟨K, at_, n, l⟩ = true by simp [stepOk, h0, h1, h2])
    have t0 : (K == 0) = false := beq_eq_false_iff_ne.2 h0
    have t1 : (K == 1) = false := beq_eq_false_iff_ne.2 h1
    have t2 : (K == 2) = false := beq_eq_false_iff_ne.2 h2
    clear h0 h1 h2
    have HZ3 := Lib.hid (heap_alloc3_new w (.cells #[.slice As B.length cs, .slice As' On.length cs'] 30) (.cells #[.int .i64 K, .int .i64 at_, .int .i64 n, .slice A l.length c] 39) (.cells #[.slice As B.length cs, .slice As' On.length cs'] 30))
    have HB3 := Lib.hid (show Below w.heap.size w (((w.alloc (.cells #[.slice As B.length cs, .slice As' On.length cs'] 30)).alloc (.cells #[.int .i64 K, .int .i64 at_, .int .i64 n, .slice A l.length c] 39)).alloc (.cells #[.slice As B.length cs, .slice As' On.length cs'] 30)) from (((Below.refl _ _).alloc (Nat.le_refl _) _).alloc (by simp) _).alloc (by simp; omega) _)
    have HR3 := Lib.hid (HH0.out.below HB3.out)
    go_enter Try.func45, Try.ntmps45
    go_wp2
    exact end_cell_tmp (p := 4) (u := 5) (ty := 30) (by kernel_rfl) rfl HZ3.out sheetT rfl sheetI rfl rfl ⟨_, by rw [E3.out]; rfl, by rw [E1.out, E2.out]; exact HR3.out, HB3.out⟩
  case inl =>
    have E1 := Lib.hid (show doB B ⟨0, at_, n, l⟩ = rwB B at_ l from rfl)
    have E2 := Lib.hid (show doOn B On ⟨0, at_, n, l⟩ = rwOn On at_ l.length from rfl)
    have E3 := Lib.hid (show stepOk ⟨0, at_, n, l⟩ = fitsB at_ l.length from rfl)
    have HC := Lib.hid (rwrite_any HH.out at_ l A c HL.out hlc HR.out HOn.out)
    go_enter Try.func45, Try.ntmps45
    go_wp2_with (first
      | (go_at_call 28; rw [HW2.out]; (with_reducible refine HC.out.mono ?_); rintro e w3 ⟨v3, rfl, hR3, hb3⟩; obtain ⟨cs3, rfl, hcs1, hcs2, hcs3⟩ := hR3.agg; have HR3 := Lib.hid hR3; have HB3 := Lib.hid hb3; have HZ3 := Lib.hid ((hb3.block _ hlt).trans HZ2.out); have HI3 := Lib.hid (show (Try.prog.info? 30).map (·.size) = some cs3.size by rw [hcs1]; exact sheetI); have HS3 := Lib.hid hcs1.symm; have HO3 := Lib.hid hcs2; clear hR3 hb3 hcs1 hcs2 hcs3)
      | (refine wpList_store_row rfl 30 (.tmp 4) (.tmp 16) rfl w3 (w.heap.size + 1 + 1) _ cs3 _ rfl rfl HZ3.out HS3.out HI3.out HO3.out ?_))
    intro w7 hg7 hgr7
    have HG7 := Lib.hid hg7
    have HR7 := Lib.hid (HR3.out.off HZ3.out (fun u hu => by simp at hu; rcases hu with rfl | rfl <;> exact ⟨_, _, _, rfl⟩) hgr7 (by decide))
    have HB7 := Lib.hid (show Below w.heap.size w w7 from Below.grown (HB2.out.trans (HB3.out.mono (by omega))) hgr7 (by have := HB3.out.size; omega) (fun k hk => by injection hk with hk; omega))
    clear hg7 hgr7
    go_wp2
    exact end_cell_tmp (p := 4) (u := 5) (ty := 30) (by kernel_rfl) rfl HG7.out sheetT rfl sheetI HS3.out.symm rfl ⟨_, by rw [E3.out]; rfl, by rw [E1.out, E2.out]; exact HR7.out, HB7.out⟩
  case inr.inl =>
    have E1 := Lib.hid (show doB B ⟨1, at_, n, l⟩ = rcB B n from rfl)
    have E2 := Lib.hid (show doOn B On ⟨1, at_, n, l⟩ = rcOn B On n from rfl)
    have E3 := Lib.hid (show stepOk ⟨1, at_, n, l⟩ = cutOk n from rfl)
    have HC := Lib.hid (rcut_any HH.out n)
    go_enter Try.func45, Try.ntmps45
    go_wp2_with (first
      | (go_at_call 67; rw [HW2.out]; (with_reducible refine HC.out.mono ?_); rintro e w3 ⟨v3, rfl, hR3, hb3⟩; obtain ⟨cs3, rfl, hcs1, hcs2, hcs3⟩ := hR3.agg; have HR3 := Lib.hid hR3; have HB3 := Lib.hid hb3; have HZ3 := Lib.hid ((hb3.block _ hlt).trans HZ2.out); have HI3 := Lib.hid (show (Try.prog.info? 30).map (·.size) = some cs3.size by rw [hcs1]; exact sheetI); have HS3 := Lib.hid hcs1.symm; have HO3 := Lib.hid hcs2; clear hR3 hb3 hcs1 hcs2 hcs3)
      | (refine wpList_store_row rfl 30 (.tmp 4) (.tmp 24) rfl w3 (w.heap.size + 1 + 1) _ cs3 _ rfl rfl HZ3.out HS3.out HI3.out HO3.out ?_))
    intro w7 hg7 hgr7
    have HG7 := Lib.hid hg7
    have HR7 := Lib.hid (HR3.out.off HZ3.out (fun u hu => by simp at hu; rcases hu with rfl | rfl <;> exact ⟨_, _, _, rfl⟩) hgr7 (by decide))
    have HB7 := Lib.hid (show Below w.heap.size w w7 from Below.grown (HB2.out.trans (HB3.out.mono (by omega))) hgr7 (by have := HB3.out.size; omega) (fun k hk => by injection hk with hk; omega))
    clear hg7 hgr7
    go_wp2
    exact end_cell_tmp (p := 4) (u := 5) (ty := 30) (by kernel_rfl) rfl HG7.out sheetT rfl sheetI HS3.out.symm rfl ⟨_, by rw [E3.out]; rfl, by rw [E1.out, E2.out]; exact HR7.out, HB7.out⟩
  case inr.inr.inl =>
    have E1 := Lib.hid (show doB B ⟨2, at_, n, l⟩ = rpB B at_ n from rfl)
    have E2 := Lib.hid (show doOn B On ⟨2, at_, n, l⟩ = rpOn B On at_ n from rfl)
    have E3 := Lib.hid (show stepOk ⟨2, at_, n, l⟩ = punchOk at_ n from rfl)
    have HC := Lib.hid (rpunch_any HH.out at_ n)
    go_enter Try.func45, Try.ntmps45
    go_wp2_with (first
      | (go_at_call 68; rw [HW2.out]; (with_reducible refine HC.out.mono ?_); rintro e w3 ⟨v3, rfl, hR3, hb3⟩; obtain ⟨cs3, rfl, hcs1, hcs2, hcs3⟩ := hR3.agg; have HR3 := Lib.hid hR3; have HB3 := Lib.hid hb3; have HZ3 := Lib.hid ((hb3.block _ hlt).trans HZ2.out); have HI3 := Lib.hid (show (Try.prog.info? 30).map (·.size) = some cs3.size by rw [hcs1]; exact sheetI); have HS3 := Lib.hid hcs1.symm; have HO3 := Lib.hid hcs2; clear hR3 hb3 hcs1 hcs2 hcs3)
      | (refine wpList_store_row rfl 30 (.tmp 4) (.tmp 34) rfl w3 (w.heap.size + 1 + 1) _ cs3 _ rfl rfl HZ3.out HS3.out HI3.out HO3.out ?_))
    intro w7 hg7 hgr7
    have HG7 := Lib.hid hg7
    have HR7 := Lib.hid (HR3.out.off HZ3.out (fun u hu => by simp at hu; rcases hu with rfl | rfl <;> exact ⟨_, _, _, rfl⟩) hgr7 (by decide))
    have HB7 := Lib.hid (show Below w.heap.size w w7 from Below.grown (HB2.out.trans (HB3.out.mono (by omega))) hgr7 (by have := HB3.out.size; omega) (fun k hk => by injection hk with hk; omega))
    clear hg7 hgr7
    go_wp2
    exact end_cell_tmp (p := 4) (u := 5) (ty := 30) (by kernel_rfl) rfl HG7.out sheetT rfl sheetI HS3.out.symm rfl ⟨_, by rw [E3.out]; rfl, by rw [E1.out, E2.out]; exact HR7.out, HB7.out⟩
end Go.Proofs.Ytpcjmefchclhhaa

/- A part of the proof. -/
import Derived.Test.YtpcjmefchclhhaaGreatZFsO
import Derived.Test.YtpcjmefchclhhaaGreatZFsS
import Derived.Test.YtpcjmefchclhhaaGreatZShG
import Derived.Test.YtpcjmefchclhhaaGreatZClones
import Derived.Deep.DeepCutAuto
import Derived.Deep.RegionHeld3
namespace Go.Proofs.YtpcjmefchclhhaaGreat
open Go.RowKit Go.MapKept Go.Shelf
theorem gclone_any {m : Nat} {es : Array MapEntry} {clock : Nat} (w : World) (hb : w.heap[m]? = some (.map es clock)) :
  Calls Tryz.prog 48 #[.map (some m)] w fun e w' => e = .returned (.map (some w.heap.size)) ∧ w' = w.alloc (.map es clock) :=
 AnyW.maps_Clone Tryz.cloneG m es clock w hb
theorem nclone_any {m : Nat} {es : Array MapEntry} {clock : Nat} (w : World) (hb : w.heap[m]? = some (.map es clock)) :
  Calls Tryz.prog 50 #[.map (some m)] w fun e w' => e = .returned (.map (some w.heap.size)) ∧ w' = w.alloc (.map es clock) :=
 AnyW.maps_Clone Tryz.cloneN m es clock w hb
theorem clone_map {κ β : Type} [DecidableEq κ] {kf : κ → Value} {vf : β → Value} {f : FuncId} (hf : ∀ {m : Nat} {es : Array MapEntry} {clock : Nat} (w : World), w.heap[m]? = some (.map es clock) → Calls Tryz.prog f #[.map (some m)] w fun e w' => e = .returned (.map (some w.heap.size)) ∧ w' = w.alloc (.map es clock))
  {w : World} {m : Nat} {L : List (κ × β)} (h : MapB w m kf vf L) : Calls Tryz.prog f #[.map (some m)] w fun e w' => ∃ k, e = .returned (.map (some k)) ∧ w.heap.size ≤ k ∧ MapB w' k kf vf L ∧ Below w.heap.size w w' ∧ w'.heap.size = k + 1 := by
 obtain ⟨es, clock, hb, hs, he⟩ := h
 exact (hf w hb).mono fun e w' ⟨h1, h2⟩ => ⟨_, h1, Nat.le_refl _, by rw [h2]; exact ⟨es, clock, heap_alloc_new w _, hs, he⟩, by rw [h2]; exact (Below.refl _ _).alloc (Nat.le_refl _) _, by rw [h2]; simp⟩
structure CloI (w w1 : World) (r : RFs) (g0 mi' mg' rr mi : Nat) (L : List (Int × Nat)) (G : List (Int × Int)) (D : List Int) (N' : List Nd) : Prop where
 ran : RanB w1 rr mi intK ptrV L D
 head : w1.heap[g0]? = some (.cells #[.int .i64 r.room, .map (some mi'), .map (some mg')] 66 (0, 0))
 imap : MapB w1 mi' intK ptrV (N'.map fun n => (n.id, n.blk))
 gmap : MapB w1 mg' intK intK G
 node : ∀ n ∈ N', ∃ x ∈ r.ins, NodeR w1 r x n
 ids : N'.map (·.id) = D
 sep : N'.Pairwise fun n n' => ∀ k ∈ n.foot, k ∉ n'.foot
 off : ∀ n ∈ N', g0 ∉ n.foot ∧ mi' ∉ n.foot ∧ mg' ∉ n.foot
 new : ∀ k ∈ fpL g0 mi' mg' N', w.heap.size ≤ k ∧ k ≠ rr
 blw : Below w.heap.size w w1
 mm : mi' ≠ mg'
 rr : w.heap.size ≤ rr
section
variable {w w1 w2 w3 : World} {r : RFs} {g0 mi' mg' rr mi f mg K : Nat} {L : List (Int × Nat)} {G : List (Int × Int)} {D : List Int} {N N' : List Nd}
theorem in_fpL {b k : Nat} : k ∈ fpL b mi mg N ↔ (k = b ∨ k = mi ∨ k = mg ∨ ∃ n ∈ N, k ∈ n.foot) := by
 unfold fpL
 simp only [List.mem_cons, List.mem_flatMap]
theorem clo_start (hr : RanB w2 w1.heap.size mi intK ptrV L []) (hb : Below w1.heap.size w1 w2) (hg0 : w1.heap[g0]? = some (.cells #[.int .i64 r.room, .map (some mi'), .map (some mg')] 66 (0, 0)))
  (hm1 : MapB w1 mi' intK ptrV ([] : List (Int × Nat))) (hm2 : MapB w1 mg' intK intK G) (hB : Below w.heap.size w w1) (h0 : w.heap.size ≤ g0) (h1 : w.heap.size ≤ mi') (h2 : w.heap.size ≤ mg') (hne : mi' ≠ mg') :
  CloI w w2 r g0 mi' mg' w1.heap.size mi L G [] [] where
 ran := hr
 head := (hb.block _ (heap_lt hg0)).trans hg0
 imap := hm1.of_block (hb.block _ hm1.lt)
 gmap := hm2.of_block (hb.block _ hm2.lt)
 node := fun n hn => by simp at hn
 ids := rfl
 sep := .nil
 off := fun n hn => by simp at hn
 new := fun k hk => by
  have e1 := heap_lt hg0
  have e2 := hm1.lt
  have e3 := hm2.lt
  rw [in_fpL] at hk
  rcases hk with rfl | rfl | rfl | ⟨n, hn, -⟩
  ·omega
  ·omega
  ·omega
  ·simp at hn
 blw := hB.trans (hb.mono hB.size)
 mm := hne
 rr := hB.size
theorem clo_end (h : CloI w w1 r g0 mi' mg' rr mi L G D N') (hN : FsN w f mi mg r N) (hL : (N.map fun n => (n.id, n.blk)) = L) (hG : ∀ id, (aget G id).getD 0 = gensAt r.gens id) (hall : ∀ k v, (k, v) ∈ L → k ∈ D) : FsN w1 g0 mi' mg' r N' :=
 ⟨h.head, h.imap, ⟨G, h.gmap, hG⟩, h.node, fun x hx => by
  obtain ⟨n, hn, e⟩ := hN.all x hx
  have hd := hall n.id n.blk (by rw [← hL]; exact List.mem_map.2 ⟨n, hn, rfl⟩)
  rw [← h.ids] at hd
  obtain ⟨n', hn', e'⟩ := List.mem_map.1 hd
  exact ⟨n', hn', e'.trans e⟩, h.sep, h.off, h.mm⟩
theorem clo_step {k : Int} {x : RIn} {n' : Nd} (hW : Wf r K) (h : CloI w w1 r g0 mi' mg' rr mi L G D N') (hkD : k ∉ D) (hR : RanB w2 rr mi intK ptrV L (D ++ [k])) (hg : ∀ b, b < w1.heap.size → b ≠ rr → w2.heap[b]? = w1.heap[b]?) (hs12 : w2.heap.size = w1.heap.size)
  (hb : ∀ b, b < w2.heap.size → b ≠ mi' → w3.heap[b]? = w2.heap[b]?) (hm : MapB w3 mi' intK ptrV (aput (N'.map fun n => (n.id, n.blk)) k n'.blk)) (hmi : mi < w.heap.size) (hx : x ∈ r.ins) (hk : x.id = k) (hn : NodeR w3 r x n') (hnew : ∀ k ∈ n'.foot, w2.heap.size ≤ k)
  (hB : Below w.heap.size w w3) : CloI w w3 r g0 mi' mg' rr mi L G (D ++ [k]) (N' ++ [n']) := by
 have hlt : ∀ n ∈ N', ∀ b ∈ n.foot, b < w1.heap.size := fun n hn' b hb' => by
  obtain ⟨y, hy, hr⟩ := h.node n hn'
  exact hr.lt (hW.kind y hy) b hb'
 have nrr : ∀ b ∈ fpL g0 mi' mg' N', b ≠ rr := fun b hb' => (h.new b hb').2
 have keep : ∀ b, b < w1.heap.size → b ≠ rr → b ≠ mi' → w3.heap[b]? = w1.heap[b]? := fun b h1 h2 h3 => (hb b (by omega) h3).trans (hg b h1 h2)
 have hrl := hR.lt
 have h0l := heap_lt h.head
 have h1l := h.imap.lt
 have h2l := h.gmap.lt
 have m0 : g0 ∈ fpL g0 mi' mg' N' := in_fpL.2 (.inl rfl)
 have m1 : mi' ∈ fpL g0 mi' mg' N' := in_fpL.2 (.inr (.inl rfl))
 have m2 : mg' ∈ fpL g0 mi' mg' N' := in_fpL.2 (.inr (.inr (.inl rfl)))
 have mn : ∀ n ∈ N', ∀ b ∈ n.foot, b ∈ fpL g0 mi' mg' N' := fun n hn b hb => in_fpL.2 (.inr (.inr (.inr ⟨n, hn, hb⟩)))
 have n1 : mi' ≠ rr := nrr _ m1
 have gne : g0 ≠ mi' := fun e => by
  have h3 := h.head
  obtain ⟨es, c, h4, -⟩ := h.imap
  rw [e, h4] at h3
  cases h3
 have hnd : n'.id = k := hn.id.trans hk
 have e : aput (N'.map fun n => (n.id, n.blk)) k n'.blk = (N' ++ [n']).map fun n => (n.id, n.blk) := by
  rw [aput_new, List.map_append, List.map_cons, List.map_nil, hnd]
  cases hh : aget (N'.map fun n => (n.id, n.blk)) k with
  | none => rfl
  | some v =>
   have := aget_mem hh
   obtain ⟨n, hn, e⟩ := List.mem_map.1 this
   exact absurd (by rw [← h.ids]; exact List.mem_map.2 ⟨n, hn, (Prod.mk.inj e).1⟩) hkD
 refine ⟨hR.keep (hb rr hrl (fun e => n1 e.symm)) (hb mi (Nat.lt_of_lt_of_le hmi (by have := h.blw.size; omega)) (fun e => by have := (h.new _ m1).1; omega)), (keep g0 h0l (nrr _ m0) gne).trans h.head, by rw [← e]; exact hm, h.gmap.of_block (keep mg' h2l (nrr _ m2) (fun e => h.mm e.symm)), fun n hn' => ?_, by rw [List.map_append, h.ids, List.map_cons, List.map_nil, hnd], ?_, fun n hn' => ?_, fun b hb' => ?_, hB, h.mm, h.rr⟩
 ·rcases List.mem_append.1 hn' with hn' | hn'
  ·obtain ⟨y, hy, hr⟩ := h.node n hn'
   exact ⟨y, hy, hr.keep (fun b hb' => keep b (hlt n hn' b hb') (nrr _ (mn n hn' b hb')) (fun e => (h.off n hn').2.1 (e ▸ hb'))) rfl (fun _ => rfl)⟩
  ·rw [List.mem_singleton.1 hn']; exact ⟨x, hx, hn⟩
 ·refine List.pairwise_append.2 ⟨h.sep, by simp, fun a ha b hb' c hc hc' => ?_⟩
  rw [List.mem_singleton.1 hb'] at hc'
  have := hlt a ha c hc
  have := hnew c hc'
  omega
 ·rcases List.mem_append.1 hn' with hn' | hn'
  ·exact h.off n hn'
  ·rw [List.mem_singleton.1 hn']
   exact ⟨fun e => by have := hnew _ e; omega, fun e => by have := hnew _ e; omega, fun e => by have := hnew _ e; omega⟩
 ·rw [in_fpL] at hb'
  rcases hb' with hb' | hb' | hb' | ⟨n, hn', hb'⟩
  ·exact h.new b (in_fpL.2 (.inl hb'))
  ·exact h.new b (in_fpL.2 (.inr (.inl hb')))
  ·exact h.new b (in_fpL.2 (.inr (.inr (.inl hb'))))
  ·rcases List.mem_append.1 hn' with hn' | hn'
   ·exact h.new b (mn n hn' b hb')
   ·rw [List.mem_singleton.1 hn'] at hb'
    have h3 := hnew b hb'
    have h4 := h.blw.size
    exact ⟨by omega, by omega⟩
theorem clo_put {w5 : World} {o : Obj} {k : Int} {x : RIn} {n' : Nd} (hW : Wf r K) (h : CloI w w1 r g0 mi' mg' rr mi L G D N') (hkD : k ∉ D) (hR : RanB w2 rr mi intK ptrV L (D ++ [k])) (hg : ∀ b, b < w1.heap.size → b ≠ rr → w2.heap[b]? = w1.heap[b]?) (hs12 : w2.heap.size = w1.heap.size)
  (hb : Below w2.heap.size w2 w5) (hm : MapB (putObj w5 mi' o) mi' intK ptrV (aput (N'.map fun n => (n.id, n.blk)) k n'.blk)) (hmi : mi < w.heap.size) (hx : x ∈ r.ins) (hk : x.id = k) (hn : NodeR w5 r x n') (hnew : ∀ k ∈ n'.foot, w2.heap.size ≤ k)
  (hB : Below w.heap.size w w2) : CloI w (putObj w5 mi' o) r g0 mi' mg' rr mi L G (D ++ [k]) (N' ++ [n']) := by
 have hml := h.imap.lt
 have hn1 := (h.new mi' (in_fpL.2 (.inr (.inl rfl)))).1
 refine clo_step hW h hkD hR hg hs12 (fun b hb' hne => (putObj_other w5 o hne).trans (hb.block b hb')) hm hmi hx hk (hn.keep (fun b hb' => putObj_other w5 o (fun e => by have := hnew b hb'; omega)) rfl (fun _ => rfl)) hnew ?_
 refine Frm.below (S := [mi']) ((Frm.refl _ _).putObj (.inl (by simp)) o) (hB.trans (hb.mono hB.size)) ?_ ?_
 ·exact Nat.le_trans hB.size hb.size
 ·simp; omega
theorem inoI : (Tryz.prog.info? 73).map (·.size) = some 6 := by kernel_rfl
theorem holds_one (x : RIn) (n : Nd) : (holdsV x n).oneCell' = true := by unfold holdsV; split <;> (try split) <;> rfl
end
set_option maxRecDepth 100000 in
set_option maxHeartbeats 4000000 in
theorem clonef_any {w : World} {f mi mg K : Nat} {r : RFs} {N : List Nd} (h : FsN w f mi mg r N) (hW : Wf r K) :
  Calls Tryz.prog 20 #[.pointer (some ⟨f, 0, none⟩)] w fun e w' => ∃ f' mi' mg' N', e = .returned (ptrV f') ∧ FsN w' f' mi' mg' r N' ∧ Below w.heap.size w w' ∧ ∀ k ∈ fpL f' mi' mg' N', w.heap.size ≤ k := by
 obtain ⟨c0, c1, c2⟩ := h.cells
 obtain ⟨G, hG, hG2⟩ := h.gmap
 have hmm := @run_makeMap Tryz.prog
 have hc := fun w2 (hb : Below w.heap.size w w2) => clone_map gclone_any (hG.of_block (hb.block _ hG.lt))
 have HC := Lib.hid hc
 have hbz := Below.refl w.heap.size w
 have hbz2 := hbz.drew
 have hbA : Below w.heap.size w (w.alloc (.map #[] 0)).drew := ((Below.refl _ _).alloc (Nat.le_refl _) _).drew
 have hk : ∀ w2, Below w.heap.size w w2 → w2.cell? ⟨f, 0, none⟩ = some (.int .i64 r.room) ∧ w2.cell? ⟨f, 2, none⟩ = some (.map (some mg)) := fun w2 hb => by
  have h2 := h.below hW hb
  exact ⟨h2.cells.1, h2.cells.2.2⟩
 have HK := Lib.hid hk
 have HH := Lib.hid h
 have HW := Lib.hid hW
 clear h hW hc hk
 go_enter Tryz.func20, Tryz.ntmps20
 go_upto_region 1 with fail
 go_cut [3] (fun v wx => ∃ g0 mi' mg', v = .pointer (some ⟨g0, 0, none⟩) ∧ wx.heap[g0]? = some (.cells #[.int .i64 r.room, .map (some mi'), .map (some mg')] 66 (0, 0)) ∧ MapB wx mi' intK ptrV ([] : List (Int × Nat)) ∧ MapB wx mg' intK intK G ∧ Below w.heap.size w wx ∧ w.heap.size ≤ g0 ∧ w.heap.size ≤ mi' ∧ w.heap.size ≤ mg' ∧ mi' ≠ mg')
 case first =>
  go_region_held3 (fun w' => w'.cell? ⟨f, 0, none⟩ = some (.int .i64 r.room) ∧ w'.cell? ⟨f, 2, none⟩ = some (.map (some mg)))
   (first
    | exact HK.out _ (by assumption)
    | go_keep
    | skip)
   (first
    | (go_at_call 48; (with_reducible refine (HC.out _ hbz2).mono ?_); rintro e w3 ⟨k3, rfl, hk3, hm3, hb3, hs3⟩; have hB3 := hbz2.trans (hb3.mono hbz2.size))
    | (go_at_call 48; (with_reducible refine (HC.out _ hbA).mono ?_); rintro e w3 ⟨k3, rfl, hk3, hm3, hb3, hs3⟩; have hB3 := hbA.trans (hb3.mono hbA.size)))
  all_goals
   go_wp2_with fail
   go_meet
  ·have hk : w.heap.size + 1 ≤ k3 := by simpa using hk3
   refine ⟨k3 + 1, w.heap.size, k3, rfl, ?_, ?_, hm3.of_block (Below.heap_alloc _ _ _ (by omega)), hB3.alloc hB3.size _, by omega, Nat.le_refl _, by omega, by omega⟩
   ·have := heap_alloc_new w3 (.cells #[.int .i64 r.room, .map (some w.heap.size), .map (some k3)] 66)
    rw [hs3] at this
    exact this
   ·exact (mapB_new w intK ptrV).of_block ((Below.heap_alloc _ _ _ (by omega)).trans (hb3.block w.heap.size (by simp)))
  ·have hk : w.heap.size ≤ k3 := by simpa using hk3
   refine ⟨k3 + 1 + 1, k3 + 1, k3, rfl, ?_, ?_, hm3.of_block ((Below.heap_alloc _ _ _ (by simp; omega)).trans (Below.heap_alloc _ _ _ (by omega))), (hB3.alloc hB3.size _).alloc (by simp; omega) _, by omega, by omega, by omega, by omega⟩
   ·have := heap_alloc_new (w3.alloc (.map #[] 0)) (.cells #[.int .i64 r.room, .map (some (k3 + 1)), .map (some k3)] 66)
    rw [show (w3.alloc (.map #[] 0)).heap.size = k3 + 1 + 1 by simp [hs3]] at this
    exact this
   ·have := mapB_new w3 intK ptrV
    rw [hs3] at this
    exact this.of_block (Below.heap_alloc _ _ _ (by simp; omega))
 case rest =>
  obtain ⟨g0, mi', mg', rfl, hg0, hm1, hm2, hB1, hl0, hl1, hl2, hne⟩ := hcut
  have HG0 := Lib.hid hg0
  have HM1 := Lib.hid hm1
  have HM2 := Lib.hid hm2
  have HB1 := Lib.hid hB1
  have hi := (HH.out.below HW.out HB1.out).imap
  have h1 := (HH.out.below HW.out HB1.out).cells.2.1
  have hmil := (HH.out.lt HW.out).2.1
  obtain ⟨L, hL⟩ : ∃ L, (N.map fun n => (n.id, n.blk)) = L := ⟨_, rfl⟩
  rw [hL] at hi
  have HI := Lib.hid hi
  have HL := Lib.hid hL
  have hn := HI.out.lt
  have HG2 := Lib.hid hG2
  clear hg0 hm1 hm2 hB1 hi hL c0 c1 c2 hG hG2 hmm
  go_wp2_with (at_range; refine wpList_range_B rfl (.tmp 24) 63 rfl Tryz.underlying63 rfl HI.out ?_; intro w2 hr2 hb2 hs2)
  go_frame
  have HI0 := Lib.hid (clo_start hr2 hb2 HG0.out HM1.out HM2.out HB1.out hl0 hl1 hl2 hne)
  generalize wc.heap.size = rr at *
  clear hr2 hb2 hs2 h1 HG0 HM1 HM2 HB1 hn hbz hbz2 hbA HK HC
  go_loopg [] N.length (fun gg wr => ∃ D N', D.length + gg = N.length ∧ CloI w wr r g0 mi' mg' rr mi L G D N')
  case atStart => exact ⟨[], [], by simp, HI0.out⟩
  case round =>
   obtain ⟨D, N', hD, hI⟩ := hrel
   have HIr := Lib.hid hI
   have hR := hI.ran
   clear hI
   go_wp2_with (at_next; refine wpList_next_B rfl (.tmp 25) rfl rfl hR ?_ ?_)
   ·intro hall
    have HAll := Lib.hid hall
    clear hall hR
    go_wp2
    go_ret
    exact ⟨g0, mi', mg', N', rfl, clo_end HIr.out HH.out HL.out HG2.out (fun k v hkv => HAll.out k v hkv), HIr.out.blw, fun k hk => (HIr.out.new k hk).1⟩
   ·intro k v w3 hkv hkD hR3 hg3 hs3 hen
    have hlt := hR.len_lt hkv hkD
    have hLl : L.length = N.length := by rw [← HL.out]; simp
    rw [hLl] at hlt
    rw [← HL.out] at hkv
    obtain ⟨n, hn, e⟩ := List.mem_map.1 hkv
    obtain ⟨rfl, rfl⟩ := Prod.mk.inj e
    obtain ⟨g, rfl⟩ : ∃ g, gk = g + 1 := ⟨gk - 1, by omega⟩
    have hb3 : Below w.heap.size w w3 := Below.grownBy HIr.out.blw hg3 HIr.out.blw.size (fun k hk => by injection hk with hk; have := HIr.out.rr; omega)
    have h3 := HH.out.below HW.out hb3
    obtain ⟨x, hx, hr⟩ := h3.node n hn
    obtain ⟨d0, d1, d2, d3, d4, d5⟩ := hr.cells
    have hxk := HW.out.kind x hx
    have hnl := hr.lt hxk
    have HR3 := Lib.hid hR3
    have HB3 := Lib.hid hb3
    have HX := Lib.hid hr
    have HXm := Lib.hid hx
    have HG3 := Lib.hid (show ∀ b, b < wr.heap.size → b ≠ rr → w3.heap[b]? = wr.heap[b]? from fun b h1 h2 => hg3.block b h1 (fun e => h2 (Option.some.inj e)))
    have HS3 := Lib.hid hs3
    have HkD := Lib.hid hkD
    have HM3 := Lib.hid (show MapB w3 mi' intK ptrV (N'.map fun n => (n.id, n.blk)) from HIr.out.imap.of_block (hg3.block _ HIr.out.imap.lt (fun e => (HIr.out.new mi' (in_fpL.2 (.inr (.inl rfl)))).2 (Option.some.inj e))))
    have HH3 := Lib.hid (show w3.heap[g0]? = some (.cells #[.int .i64 r.room, .map (some mi'), .map (some mg')] 66 (0, 0)) from (hg3.block _ (heap_lt HIr.out.head) (fun e => (HIr.out.new g0 (in_fpL.2 (.inl rfl))).2 (Option.some.inj e))).trans HIr.out.head)
    have t1 := fun w => ta_sht w x n
    have t2 := fun w => ta_dir w x n
    unfold intK ptrV at hen
    clear hkv hkD hR3 hg3 hs3 hb3 h3 hr hx e hR hlt hLl
    have hni := HX.out.id
    have HOne := Lib.hid (show ∀ v ∈ (#[.int .i64 x.id, .int .i64 x.gen, .int .i64 x.mode, .int .i64 x.time, .int .i64 (linksN r x : Int), holdsV x n] : Array Value).toList, v.oneCell' = true from by
     intro v hv
     simp at hv
     rcases hv with rfl | rfl | rfl | rfl | rfl | rfl <;> first | rfl | exact holds_one _ _)
    obtain ⟨w4, hw4⟩ : ∃ w4, w3.alloc (.cells #[.int .i64 x.id, .int .i64 x.gen, .int .i64 x.mode, .int .i64 x.time, .int .i64 (linksN r x : Int), holdsV x n] 73) = w4 := ⟨_, rfl⟩
    have hB4 : Below w3.heap.size w3 w4 := by rw [← hw4]; exact (Below.refl _ _).alloc (Nat.le_refl _) _
    have h4n := heap_alloc_new w3 (.cells #[.int .i64 x.id, .int .i64 x.gen, .int .i64 x.mode, .int .i64 x.time, .int .i64 (linksN r x : Int), holdsV x n] 73)
    rw [hw4] at h4n
    have h4s : w4.heap.size = w3.heap.size + 1 := by rw [← hw4]; simp
    have hm4 := HM3.out.of_block (hB4.block _ HM3.out.lt)
    have e5 : w4.cell? ⟨n.blk, 5, none⟩ = some (holdsV x n) := by rw [← d5]; exact World.cell?_of_block (hB4.block _ (hnl _ n.blk_mem))
    rcases hxk with hk | hk | hk
    ·simp only [hk, if_true, ptrV] at t1
     have hbig : n.big = true := by rw [HX.out.big, hk]; rfl
     obtain ⟨sz, bl, g1, g2⟩ := HX.out.file hk
     have HCl := Lib.hid (clone_any (g1.keep (hB4.block _ (hnl _ (Nd.b_mem hbig))) (hB4.block _ (hnl _ (Nd.m_mem hbig)))))
     have HS := Lib.hid g2
     have H4n := Lib.hid h4n
     have HNi := Lib.hid hni
     have HB4 := Lib.hid hB4
     have HW4 := Lib.hid hw4
     have HI6 := Lib.hid inoI
     have H4s := Lib.hid h4s
     have HM4 := Lib.hid hm4
     have HG4 := Lib.hid ((hB4.block _ (heap_lt HH3.out)).trans HH3.out)
     have hg0n : g0 ≠ w3.heap.size := fun e => by have := heap_lt HH3.out; omega
     have hm0n : mi' ≠ w3.heap.size := fun e => by have := HM3.out.lt; omega
     have hk' := Lib.hid hk
     clear hB4 hw4 h4n h4s hm4 hnl hk g1 g2 hbig
     generalize hhv : holdsV x n = hv at *
     clear hhv
     go_wp2_with (first
      | (refine wpList_store_new rfl 73 (.tmp 6) (.tmp 33) rfl w3 _ _ _ rfl rfl rfl HI6.out HOne.out ?_; rw [HW4.out])
      | (go_at_call 49; (with_reducible refine HCl.out.mono ?_); rintro e w5 ⟨b', m', rfl, hb', hm', hraw, hB5⟩;
         have h5n := (hB5.block w3.heap.size (by have := H4s.out; omega)).trans H4n.out;
         have x5 : w5.cell? ⟨w3.heap.size, 5, none⟩ = some hv := by rw [cell_at h5n]; rfl;
         have x5f : w5.frozen? ⟨w3.heap.size, 5, none⟩ = false := frozen_of_row w5 w3.heap.size 5 _ _ h5n;
         have hm6 := (HM4.out.of_block (hB5.block _ HM4.out.lt)).of_block (setCell_far w5 w3.heap.size 5 mi' (.iface 126 (.pointer (some ⟨b', 0, none⟩))) hm0n);
         obtain ⟨o, hup, hmp⟩ := run_update KI (t := 63) Tryz.underlying63 hm6 n.id w3.heap.size;
         have e0 : (w5.setCell ⟨w3.heap.size, 5, none⟩ (.iface 126 (.pointer (some ⟨b', 0, none⟩)))).cell? ⟨g0, 1, none⟩ = some (.map (some mi')) := (by rw [cell_at ((setCell_far w5 w3.heap.size 5 g0 _ hg0n).trans ((hB5.block _ (heap_lt HG4.out)).trans HG4.out))]; rfl);
         rw [HNi.out] at hup; unfold intK ptrV at hup;
         have H5n := Lib.hid h5n; have HUp := Lib.hid hmp; have HRaw := Lib.hid hraw; have HB5 := Lib.hid hB5; clear h5n hm6 hmp hraw hB5))
     go_roundg g
     case rel =>
      have q := hk'.out
      have q4 := H4s.out
      have hnd : NodeR (w5.setCell ⟨w3.heap.size, 5, none⟩ (.iface 126 (.pointer (some ⟨b', 0, none⟩)))) r x ⟨x.id, w3.heap.size, b', m', true⟩ :=
       ⟨rfl, by rw [heap_setCell_same w5 w3.heap.size 5 _ _ _ H5n.out]; unfold inoC holdsV; rw [if_pos q]; rfl, by simp [q], fun _ => ⟨sz, bl, HRaw.out.keep (setCell_far _ _ _ _ _ (by omega)) (setCell_far _ _ _ _ _ (by omega)), HS.out⟩, fun h => by omega⟩
      exact ⟨D ++ [n.id], N' ++ [⟨x.id, w3.heap.size, b', m', true⟩], by simp; omega, clo_put HW.out HIr.out HkD.out HR3.out HG3.out HS3.out ((HB4.out.trans (HB5.out.mono HB4.out.size)).setCell (Nat.le_refl _) _) HUp.out hmil HXm.out HNi.out.symm hnd (fun k hk => by simp [Nd.foot] at hk; omega) HB3.out⟩
     case measure => omega
    ·simp only [hk, if_true, ptrV] at t1 t2
     have hbig : n.big = true := by rw [HX.out.big, hk]; rfl
     obtain ⟨g1, g2⟩ := HX.out.dir hk
     have hm := g2.of_block (hB4.block _ (hnl _ (Nd.m_mem hbig)))
     have HCl := Lib.hid (clone_map nclone_any (show MapB w4.drew n.m strK intK (namesP r.nms x.id) from hm.of_block rfl))
     have hd4 := (hB4.block _ (hnl _ (Nd.b_mem hbig))).trans g1
     have hnbl := hnl _ (Nd.b_mem hbig)
     have f0 : w4.cell? ⟨n.b, 0, none⟩ = some (.map (some n.m)) := by rw [cell_at hd4]; rfl
     have f1 : w4.cell? ⟨n.b, 1, none⟩ = some (.int .i64 x.parent) := by rw [cell_at hd4]; rfl
     have HD4 := Lib.hid hd4
     have H4n := Lib.hid h4n
     have HNi := Lib.hid hni
     have HB4 := Lib.hid hB4
     have HW4 := Lib.hid hw4
     have HI6 := Lib.hid inoI
     have H4s := Lib.hid h4s
     have HM4 := Lib.hid hm4
     have HG4 := Lib.hid ((hB4.block _ (heap_lt HH3.out)).trans HH3.out)
     have hg0n : g0 ≠ w3.heap.size := fun e => by have := heap_lt HH3.out; omega
     have hm0n : mi' ≠ w3.heap.size := fun e => by have := HM3.out.lt; omega
     have hk' := Lib.hid hk
     clear hB4 hw4 h4n h4s hm4 hnl hk g1 g2 hbig hm hd4
     generalize hhv : holdsV x n = hv at *
     clear hhv
     go_upto_region 12 with (first
      | (refine wpList_store_new rfl 73 (.tmp 6) (.tmp 33) rfl w3 _ _ _ rfl rfl rfl HI6.out HOne.out ?_; rw [HW4.out]))
     go_region_held3 (fun w' => w'.cell? ⟨n.b, 0, none⟩ = some (.map (some n.m)) ∧ w'.cell? ⟨n.b, 1, none⟩ = some (.int .i64 x.parent))
      (first
       | assumption
       | go_keep
       | skip)
      (first
       | (go_at_call 50; (with_reducible refine HCl.out.mono ?_); rintro e w5 ⟨k5, rfl, hk5, hm5, hB5, hs5⟩;
          have hk5' : w3.heap.size + 1 ≤ k5 := (by have := H4s.out; simp at hk5; omega);
          have K5 : ∀ b, b < w3.heap.size + 1 → w5.heap[b]? = w4.heap[b]? := fun b hb => hB5.block b (by have := H4s.out; simp; omega);
          have K6 : ∀ b, b < w3.heap.size + 1 → (w5.alloc (.cells #[.map (some k5), .int .i64 x.parent] 71)).heap[b]? = w4.heap[b]? := fun b hb => (Below.heap_alloc w5 _ b (by omega)).trans (K5 b hb);
          have K7 : ∀ b, b < w3.heap.size → ((w5.alloc (.cells #[.map (some k5), .int .i64 x.parent] 71)).setCell ⟨w3.heap.size, 5, none⟩ (.iface 68 (.pointer (some ⟨k5 + 1, 0, none⟩)))).heap[b]? = w4.heap[b]? := fun b hb => (setCell_far _ _ _ _ _ (by omega)).trans (K6 b (by omega));
          have s5 : w5.cell? ⟨n.b, 0, none⟩ = some (.map (some n.m)) ∧ w5.cell? ⟨n.b, 1, none⟩ = some (.int .i64 x.parent) := ⟨(by rw [cell_at ((K5 n.b (by omega)).trans HD4.out)]; rfl), (by rw [cell_at ((K5 n.b (by omega)).trans HD4.out)]; rfl)⟩;
          have s6 : (w5.alloc (.cells #[.map (some k5), .int .i64 x.parent] 71)).cell? ⟨n.b, 0, none⟩ = some (.map (some n.m)) ∧ (w5.alloc (.cells #[.map (some k5), .int .i64 x.parent] 71)).cell? ⟨n.b, 1, none⟩ = some (.int .i64 x.parent) := ⟨(by rw [cell_at ((K6 n.b (by omega)).trans HD4.out)]; rfl), (by rw [cell_at ((K6 n.b (by omega)).trans HD4.out)]; rfl)⟩;
          have s7 : ((w5.alloc (.cells #[.map (some k5), .int .i64 x.parent] 71)).setCell ⟨w3.heap.size, 5, none⟩ (.iface 68 (.pointer (some ⟨k5 + 1, 0, none⟩)))).cell? ⟨n.b, 0, none⟩ = some (.map (some n.m)) ∧ ((w5.alloc (.cells #[.map (some k5), .int .i64 x.parent] 71)).setCell ⟨w3.heap.size, 5, none⟩ (.iface 68 (.pointer (some ⟨k5 + 1, 0, none⟩)))).cell? ⟨n.b, 1, none⟩ = some (.int .i64 x.parent) := ⟨(by rw [cell_at ((K7 n.b hnbl).trans HD4.out)]; rfl), (by rw [cell_at ((K7 n.b hnbl).trans HD4.out)]; rfl)⟩;
          have h6n := (K6 w3.heap.size (by omega)).trans H4n.out;
          have x5 : (w5.alloc (.cells #[.map (some k5), .int .i64 x.parent] 71)).cell? ⟨w3.heap.size, 5, none⟩ = some hv := (by rw [cell_at h6n]; rfl);
          have x5f : (w5.alloc (.cells #[.map (some k5), .int .i64 x.parent] 71)).frozen? ⟨w3.heap.size, 5, none⟩ = false := frozen_of_row _ w3.heap.size 5 _ _ h6n;
          have hm7 := HM4.out.of_block (K7 mi' (by have := HM3.out.lt; omega));
          obtain ⟨o, hup, hmp⟩ := run_update KI (t := 63) Tryz.underlying63 hm7 n.id w3.heap.size;
          have e0 : ((w5.alloc (.cells #[.map (some k5), .int .i64 x.parent] 71)).setCell ⟨w3.heap.size, 5, none⟩ (.iface 68 (.pointer (some ⟨k5 + 1, 0, none⟩)))).cell? ⟨g0, 1, none⟩ = some (.map (some mi')) := (by rw [cell_at ((K7 g0 (by have := heap_lt HH3.out; omega)).trans HG4.out)]; rfl);
          rw [HNi.out] at hup; unfold intK ptrV at hup;
          have H6n := Lib.hid h6n; have HUp := Lib.hid hmp; have HM5 := Lib.hid hm5; have HB5 := Lib.hid hB5; have HK5 := Lib.hid K5; clear h6n hm7 hmp hm5 hB5 K5 K6 K7))
     all_goals go_wp2_with fail
     go_roundg g
     case rel =>
      have q := hk'.out
      have hnd : NodeR ((w5.alloc (.cells #[.map (some k5), .int .i64 x.parent] 71)).setCell ⟨w3.heap.size, 5, none⟩ (.iface 68 (.pointer (some ⟨k5 + 1, 0, none⟩)))) r x ⟨x.id, w3.heap.size, k5 + 1, k5, true⟩ :=
       ⟨rfl, by rw [heap_setCell_same _ w3.heap.size 5 _ _ _ H6n.out]; unfold inoC holdsV; rw [if_neg (by omega), if_pos q]; rfl, by simp [q], fun h => by omega, fun _ => ⟨(setCell_far _ w3.heap.size 5 (k5 + 1) _ (by omega)).trans (by
        have := heap_alloc_new w5 (.cells #[.map (some k5), .int .i64 x.parent] 71)
        rw [hs5] at this
        exact this), HM5.out.of_block ((setCell_far _ w3.heap.size 5 k5 _ (by omega)).trans (Below.heap_alloc w5 _ k5 (by omega)))⟩⟩
      have hBz : Below w3.heap.size w3 ((w5.alloc (.cells #[.map (some k5), .int .i64 x.parent] 71)).setCell ⟨w3.heap.size, 5, none⟩ (.iface 68 (.pointer (some ⟨k5 + 1, 0, none⟩)))) := ((HB4.out.drew.trans (HB5.out.mono HB4.out.drew.size)).alloc (by omega) _).setCell (Nat.le_refl _) _
      exact ⟨D ++ [n.id], N' ++ [⟨x.id, w3.heap.size, k5 + 1, k5, true⟩], by simp; omega, clo_put HW.out HIr.out HkD.out HR3.out HG3.out HS3.out hBz HUp.out hmil HXm.out HNi.out.symm hnd (fun k hk => by simp [Nd.foot] at hk; omega) HB3.out⟩
     case measure => omega
    ·simp only [hk] at t1 t2
     obtain ⟨o, hup, hmp⟩ := run_update KI (t := 63) Tryz.underlying63 hm4 n.id w3.heap.size
     have e0 : w4.cell? ⟨g0, 1, none⟩ = some (.map (some mi')) := by rw [cell_at ((hB4.block _ (heap_lt HH3.out)).trans HH3.out)]; rfl
     have HHv := Lib.hid (show holdsV x n = .iface 9 (.string x.target) by unfold holdsV; rw [if_neg (by omega), if_neg (by omega)])
     have HNd := Lib.hid (show NodeR w4 r x ⟨x.id, w3.heap.size, 0, 0, false⟩ from ⟨rfl, by rw [h4n]; rw [HHv.out]; unfold inoC holdsV; rw [if_neg (by omega), if_neg (by omega)], by simp [hk], fun h => by omega, fun h => by omega⟩)
     rw [hni] at hup
     have HUp := Lib.hid hmp
     have HNi := Lib.hid hni
     have HB4 := Lib.hid hB4
     have HW4 := Lib.hid hw4
     have HI6 := Lib.hid inoI
     have hk' := Lib.hid hk
     unfold intK ptrV at hup
     clear hmp hB4 hw4 h4n h4s hm4 hnl hk
     generalize hhv : holdsV x n = hv at *
     clear hhv
     go_wp2_with (first
      | (refine wpList_store_new rfl 73 (.tmp 6) (.tmp 33) rfl w3 _ _ _ rfl rfl rfl HI6.out HOne.out ?_; rw [HW4.out]))
     go_roundg g
     case rel => exact ⟨D ++ [n.id], N' ++ [⟨x.id, w3.heap.size, 0, 0, false⟩], by simp; omega, clo_put HW.out HIr.out HkD.out HR3.out HG3.out HS3.out HB4.out HUp.out hmil HXm.out HNi.out.symm HNd.out (fun k hk => by simp [Nd.foot] at hk; omega) HB3.out⟩
     case measure => omega
end Go.Proofs.YtpcjmefchclhhaaGreat

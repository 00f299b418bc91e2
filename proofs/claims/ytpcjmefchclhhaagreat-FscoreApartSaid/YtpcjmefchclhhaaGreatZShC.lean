/- A part of the proof. -/
import Derived.Test.YtpcjmefchclhhaaGreatZShB
import Derived.StillTailTactics
namespace Go.Proofs.YtpcjmefchclhhaaGreat
open Go.RowKit Go.MapKept
def wr1 (bl : List (Nat × List UInt8)) (a : Nat) (b : List UInt8) : List (Nat × List UInt8) := aput bl (a / 16) (splice (cont bl (a / 16)) (a % 16) (b.take (16 - a % 16)))
def wrL : Nat → List (Nat × List UInt8) → Nat → List UInt8 → List (Nat × List UInt8)
 | 0, bl, _, _ => bl
 | f + 1, bl, a, b => if b.length = 0 then bl else wrL f (wr1 bl a b) (a + min b.length (16 - a % 16)) (b.drop (16 - a % 16))
theorem wrL_fuel : ∀ (f g : Nat) (bl : List (Nat × List UInt8)) (a : Nat) (b : List UInt8), b.length ≤ f → b.length ≤ g → wrL f bl a b = wrL g bl a b
 | 0, 0, _, _, _, _, _ => rfl
 | 0, g + 1, bl, a, b, h, _ => by simp [wrL, show b.length = 0 by omega]
 | f + 1, 0, bl, a, b, _, h => by simp [wrL, show b.length = 0 by omega]
 | f + 1, g + 1, bl, a, b, h1, h2 => by
  simp only [wrL]
  split
  ·rfl
  ·exact wrL_fuel f g _ _ _ (by rw [List.length_drop]; omega) (by rw [List.length_drop]; omega)
theorem wrL_step {bl : List (Nat × List UInt8)} {a : Nat} {b : List UInt8} {r : List (Nat × List UInt8)} (hb : 0 < b.length) (h : wrL b.length bl a b = r) :
  wrL (b.drop (16 - a % 16)).length (wr1 bl a b) (a + min b.length (16 - a % 16)) (b.drop (16 - a % 16)) = r := by
 obtain ⟨f, hf⟩ : ∃ f, b.length = f + 1 := ⟨b.length - 1, by omega⟩
 rw [hf, wrL, if_neg (by omega)] at h
 rw [← h]
 have := List.length_drop (i := 16 - a % 16) (l := b)
 exact wrL_fuel _ _ _ _ _ (Nat.le_refl _) (by omega)
theorem put_mem {bl : List (Nat × List UInt8)} {k : Nat} {v : List UInt8} {p : Nat × List UInt8} (h : p ∈ aput bl k v) : p ∈ bl ∨ p = (k, v) := by
 unfold aput at h
 split at h
 ·obtain ⟨q, hq, rfl⟩ := List.mem_map.1 h
  split
  ·exact .inr rfl
  ·exact .inl hq
 ·rcases List.mem_append.1 h with h | h
  ·exact .inl h
  ·exact .inr (by simpa using h)
theorem wr1_full {bl : List (Nat × List UInt8)} (h : ∀ p ∈ bl, p.2.length = 16) (a : Nat) (b : List UInt8) : ∀ p ∈ wr1 bl a b, p.2.length = 16 := fun p hp => by
 rcases put_mem hp with hp | rfl
 ·exact h p hp
 ·have hl := cont_len h (a / 16)
  show (splice (cont bl (a / 16)) (a % 16) (b.take (16 - a % 16))).length = 16
  rw [length_splice _ _ _ (by rw [hl, List.length_take]; omega), hl]
theorem wr1_keys {bl : List (Nat × List UInt8)} (h : ∀ p ∈ bl, p.1 < 65536) {a : Nat} (ha : a < 1048576) (b : List UInt8) : ∀ p ∈ wr1 bl a b, p.1 < 65536 := fun p hp => by
 rcases put_mem hp with hp | rfl
 ·exact h p hp
 ·show a / 16 < 65536; omega
theorem Raw.setSize {w : World} {b m size : Nat} {bl : List (Nat × List UInt8)} (h : Raw w b m size bl) {s : Nat} (hs : s ≤ 1048576) : Raw (w.setCell ⟨b, 0, none⟩ (.int .i64 (s : Int))) b m s bl :=
 ⟨by simp [World.setCell, Array.getElem?_modify, h.head], h.map.of_block (Below.heap_setCell w _ _ _ h.ne.symm), h.full, hs, h.keys⟩
theorem Rd.frm {w w' : World} {B b m size : Nat} {bl : List (Nat × List UInt8)} {A : Option Addr} {l : List UInt8} (h : Rd w B 1 byteC A l) (hr : Raw w b m size bl) (hf : Frm [b, m] w w') : Rd w' B 1 byteC A l := fun i x hx => by
 obtain ⟨a, rfl, hB, hc⟩ := h i x hx
 refine ⟨a, rfl, hB, fun j v hv => ?_⟩
 have hcell := hc j v hv
 have hlt : ((a.add (i * 1)).add j).block < w.heap.size := block_lt_of_cell hcell
 have hby : v = byteV x := by
  match j, hv with
  | 0, hv => simpa [byteC] using hv.symm
  | j + 1, hv => simp [byteC] at hv
 have hnb : ((a.add (i * 1)).add j).block ∉ [b, m] := by
  intro hmem
  have hcases : ((a.add (i * 1)).add j).block = b ∨ ((a.add (i * 1)).add j).block = m := by simpa using hmem
  generalize (a.add (i * 1)).add j = p at *
  rcases hcases with e | e
  ·have hh := hr.head
   rw [← e] at hh
   simp only [World.cell?, hh] at hcell
   split at hcell
   ·cases hcell
   ·rw [hby] at hcell
    match p.off, hcell with
    | 0, hcell => simp [byteV] at hcell
    | 1, hcell => simp [byteV] at hcell
    | k + 2, hcell => simp at hcell
  ·obtain ⟨es, clock, hm, _⟩ := hr.map
   rw [← e] at hm
   simp [World.cell?, hm] at hcell
 rw [World.cell?_of_block (w := w) (hf.block _ hlt hnb)]
 exact hcell
theorem Rd.cut {w : World} {B : Nat} {A : Option Addr} {l : List UInt8} {k cap : Nat} (h : Rd w B 1 byteC A l) (hc : l.length ≤ cap) : Rd w B 1 byteC (if cap = k then A else A.map (·.add k)) (l.drop k) := fun i x hx => by
 rw [List.getElem?_drop] at hx
 obtain ⟨a, rfl, hB, hcell⟩ := h _ x hx
 have hlt := (List.getElem?_eq_some_iff.1 hx).1
 rw [if_neg (by omega)]
 refine ⟨a.add k, rfl, by rw [add_block]; exact hB, fun j v hv => ?_⟩
 have := hcell j v hv
 rw [add_assoc'] at this
 rw [add_assoc', add_assoc']
 rw [show k + (i * 1 + j) = (k + i) * 1 + j by omega]
 exact this
theorem splice_map {α β : Type} (f : α → β) (l : List α) (k : Nat) (c : List α) : splice (l.map f) k (c.map f) = (splice l k c).map f := by
 simp [splice, List.map_take, List.map_drop]
theorem slice_block (w : World) (g e : Nat) (he : e < 16) : (Instr.sliceAt 165 (.pointer (some ⟨g, 0, none⟩)) (some (.int .i64 (e : Int))) none none).run Tryz.prog w = .ok (.slice (some ⟨g, e, none⟩) (16 - e) (16 - e)) w := by
 have ha : Tryz.prog.arrayLen 165 = 16 := by kernel_rfl
 rw [run_sliceAt_array_l w 165 ⟨g, 0, none⟩ (by kernel_rfl) .i64 (e : Int) (by omega) (by rw [ha]; omega)]
 have hs : (sizeOf (Tryz.prog.elem 165)).run Tryz.prog w = .ok 1 w := by kernel_rfl
 rw [hs, ha]
 simp only [Result.andThen_ok, slicedAt, Int.toNat_natCast, Nat.mul_one]
 rw [if_neg (by omega)]
 have : Addr.add ⟨g, 0, none⟩ e = ⟨g, e, none⟩ := by unfold Addr.add; split <;> simp_all
 rw [this]
theorem Rd.src {w : World} {B : Nat} {A : Option Addr} {l : List UInt8} (h : Rd w B 1 byteC A l) (k : Nat) (hp : 0 < ((l.take k).map byteV).length) : ∃ ad, A = some ad ∧ ∀ j v, ((l.take k).map byteV)[j]? = some v → w.cell? (ad.add j) = some v := by
 have hl : 0 < l.length := by rw [List.length_map, List.length_take] at hp; omega
 obtain ⟨ad, rfl, _⟩ := h.addr hl
 refine ⟨ad, rfl, fun j v hv => ?_⟩
 rw [List.getElem?_map] at hv
 obtain ⟨x, hx, rfl⟩ := Option.map_eq_some_iff.1 hv
 rw [List.getElem?_take] at hx
 split at hx
 ·obtain ⟨a', e, _, hc⟩ := h j x hx
  injection e with e
  subst e
  have := hc 0 (byteV x) rfl
  rw [add_assoc', Nat.mul_one] at this
  exact this
 ·cases hx
theorem wpStill_load {P : Program} {ops : Array Oper} {w : World} {Q : Act → Prop} {rest : List Oper} {o : Oper} {a : Act} (hgd : o.guard = none) (ty : TypeId) (x : Operand) (ho : o.op = .load ty x) (p : Addr) (v : Value) (hx : a.eval x = .pointer (some p)) (hl : (loadVar ty p).run P w = .ok v w)
  (h : wpStill P ops w Q rest (a.put o.dst v)) : wpStill P ops w Q (o :: rest) a := by
 unfold wpStill
 rw [if_pos (by simp [Region.wanted, hgd])]
 unfold Oper.still execOp
 simp only [ho, hx, Instr.loadAt, Instr.sureAddr, Sem.run_bind, Sem.run_pure, Result.andThen_ok, hl]
 exact ⟨rfl, h⟩
def wrSize (size : Nat) (a : Int) (n : Nat) : Nat := if fitsB a n = true ∧ 0 < n then max size (a.toNat + n) else size
def wrBl (bl : List (Nat × List UInt8)) (a : Int) (l : List UInt8) : List (Nat × List UInt8) := if fitsB a l.length = true then wrL l.length bl a.toNat l else bl
set_option maxRecDepth 100000 in
set_option maxHeartbeats 2000000 in
theorem write_any {w : World} {b m size : Nat} {bl : List (Nat × List UInt8)} (h : Raw w b m size bl) (a : Int) (A : Option Addr) (c : Nat) (l : List UInt8) (hl : l.length ≤ maxLen) (hlc : l.length ≤ c) (hrd : Rd w w.heap.size 1 byteC A l) :
  Calls Tryz.prog 76 #[.pointer (some ⟨b, 0, none⟩), .int .i64 a, .slice A l.length c] w
   fun e w' => e = .returned (.bool (fitsB a l.length)) ∧ Raw w' b m (wrSize size a l.length) (wrBl bl a l) ∧ Frm [b, m] w w' := by
 have HF := Lib.hid (fits_any a A l.length c hl w)
 generalize hn : l.length = n at *
 have HN := Lib.hid hn
 clear hn
 cases hf : fitsB a n
 ·rw [hf] at HF
  have HE := Lib.hid hf
  clear hf
  go_enter Tryz.func76, Tryz.ntmps76
  go_wp2_with (go_at_call 94; (with_reducible refine HF.out.mono ?_); rintro e w1 ⟨rfl, rfl⟩)
  go_ret
  refine ⟨rfl, ?_, Frm.refl _ _⟩
  unfold wrSize wrBl
  rw [HN.out, HE.out]
  simpa using h
 ·rw [hf] at HF
  have HE := Lib.hid hf
  obtain ⟨ha, hn1, ha1⟩ := of_decide_eq_true hf
  clear hf
  obtain ⟨a, rfl⟩ := Int.eq_ofNat_of_zero_le ha
  rcases Nat.eq_zero_or_pos n with h0 | h0
  ·have hl0 : l.length = 0 := by rw [HN.out, h0]
   have HE0 := Lib.hid (show wrBl bl a l = bl by unfold wrBl; rw [hl0]; split <;> rfl)
   have HS0 := Lib.hid (show wrSize size a n = size by unfold wrSize; rw [if_neg (by omega)])
   obtain rfl := h0
   go_enter Tryz.func76, Tryz.ntmps76
   go_wp2_with (go_at_call 94; (with_reducible refine HF.out.mono ?_); rintro e w1 ⟨rfl, rfl⟩)
   go_loopw [1, 2] (fun va vb wr => va = .int .i64 (a : Int) ∧ vb = .slice A 0 c ∧ wr = w) (fun _ _ _ => 0)
   case atStart => exact ⟨rfl, rfl, rfl⟩
   case round =>
    obtain ⟨rfl, rfl, rfl⟩ := hrel
    go_wp2
    go_ret
    exact ⟨rfl, by rw [HE0.out, HS0.out]; exact h, Frm.refl _ _⟩
  ·have c0 := h.c0
   have f0 := h.f0 0
   have hsm := h.small
   have HR := Lib.hid (show wrBl bl a l = wrL l.length bl a l by unfold wrBl; rw [HN.out, HE.out]; rfl)
   generalize hR : wrBl bl a l = R at HR
   have HR' := Lib.hid hR
   clear hR
   obtain ⟨s, hs, hs1⟩ : ∃ s, s = max size (a + n) ∧ s ≤ 1048576 := ⟨_, rfl, by omega⟩
   have HS := Lib.hid (show wrSize size a n = s by unfold wrSize; rw [if_pos ⟨HE.out, h0⟩, Int.toNat_natCast, hs])
   obtain ⟨ws, hws, hwt⟩ : ∃ ws, (a + n ≤ size → w.setCell ⟨b, 0, none⟩ (.int .i64 (size : Int)) = ws) ∧ (¬ a + n ≤ size → w.setCell ⟨b, 0, none⟩ (.int .i64 ((a : Int) + (n : Int))) = ws) := by
    by_cases hm : a + n ≤ size
    ·exact ⟨_, fun _ => rfl, fun h => absurd hm h⟩
    ·exact ⟨_, fun h => absurd h hm, fun _ => rfl⟩
   have hse : w.setCell ⟨b, 0, none⟩ (.int .i64 (s : Int)) = ws := by
    by_cases hm : a + n ≤ size
    ·rw [← hws hm, show s = size by omega]
    ·rw [← hwt hm, show s = a + n by omega]; rfl
   have hRs := h.setSize hs1
   have hFs : Frm [b, m] w (w.setCell ⟨b, 0, none⟩ (.int .i64 (s : Int))) := (Frm.refl _ _).setCell (.inl (by simp)) _
   rw [hse] at hRs hFs
   have hRd := hrd.frm h hFs
   have HRa := Lib.hid hRs
   have HFa := Lib.hid hFs
   have HDa := Lib.hid hRd
   have HWs := Lib.hid hws
   have HWt := Lib.hid hwt
   have HNS := Lib.hid hs
   clear hRs hFs hRd hws hwt hrd h hs hse
   by_cases hm : a + n ≤ size
   all_goals
    have HM := Lib.hid hm
    go_enter Tryz.func76, Tryz.ntmps76
    go_wp2_with (go_at_call 94; (with_reducible refine HF.out.mono ?_); rintro e w1 ⟨rfl, rfl⟩)
    first | rw [HWs.out HM.out] | rw [HWt.out HM.out]
    clear hm HM c0 f0 HWs HWt
    go_loopw [1, 2] (fun va vb wr => ∃ (a' : Nat) (r : List UInt8) (bl' : List (Nat × List UInt8)) (A' : Option Addr) (c' : Nat), va = .int .i64 (a' : Int) ∧ vb = .slice A' r.length c' ∧ wrL r.length bl' a' r = R ∧ a' + r.length = a + n ∧ r.length ≤ c' ∧ c' ≤ c ∧ Raw wr b m s bl' ∧ Rd wr w.heap.size 1 byteC A' r ∧ Frm [b, m] w wr) (fun va _ _ => a + n - (intOf va).toNat)
    case atStart => exact ⟨a, l, bl, A, c, rfl, by rw [HN.out], HR.out.symm, by rw [HN.out], by rw [HN.out]; exact hlc, Nat.le_refl _, HRa.out, HDa.out, HFa.out⟩
    case round =>
     obtain ⟨a', r, bl', A', c', rfl, rfl, hw, har, hrc, hcc, hRw, hRd, hFr⟩ := hrel
     generalize hq : r.length = q at *
     have HQ := Lib.hid hq
     have HWL := Lib.hid hw
     have HRw := Lib.hid hRw
     have HRd := Lib.hid hRd
     have HFr := Lib.hid hFr
     clear hq hw hRd hFr HRa HFa HDa
     rcases Nat.eq_zero_or_pos q with hq0 | hq0
     ·obtain rfl := hq0
      have HZ := Lib.hid (show bl' = R from HWL.out)
      clear hRw
      go_wp2
      go_ret
      exact ⟨rfl, by rw [HS.out, ← HZ.out]; exact HRw.out, HFr.out⟩
     ·have c1 := hRw.c1
      have hl1 := run_lookup_plain (P := Tryz.prog) K64 mapT (zero_block wr) hRw.map (a' / 16)
      rw [cont_val] at hl1
      have hcl := cont_len hRw.full (a' / 16)
      have e16 : natK (a' / 16) = .int .i64 ((a' : Int) / 16) := by simp [natK]
      rw [e16] at hl1
      have hlt := hRw.lt
      clear hRw e16
      have HL := Lib.hid hcl
      clear hcl
      have HZ := Lib.hid (show 16 = ((cont bl' (a' / 16)).map byteV).toArray.size by rw [List.size_toArray, List.length_map, HL.out])
      have HI := Lib.hid (show (Tryz.prog.info? 165).map (·.size) = some ((cont bl' (a' / 16)).map byteV).toArray.size by rw [← HZ.out]; exact block_info)
      have hsz := HFr.out.size
      have hB2 : Below wr.heap.size wr (wr.alloc (Obj.cells ((cont bl' (a' / 16)).map byteV).toArray 165)) := (Below.refl _ _).alloc (Nat.le_refl _) _
      have HB2 := Lib.hid hB2
      have he16 : a' % 16 < 16 := Nat.mod_lt _ (by omega)
      have hsl := slice_block (wr.alloc (Obj.cells ((cont bl' (a' / 16)).map byteV).toArray 165)) wr.heap.size (a' % 16) he16
      rw [show ((a' % 16 : Nat) : Int) = (a' : Int) % 16 by omega] at hsl
      have HRs := Lib.hid ((HRd.out.more hsz).alloc (Nat.le_refl _) (Obj.cells ((cont bl' (a' / 16)).map byteV).toArray 165))
      have H2 := Lib.hid (show ((r.take (16 - a' % 16)).map byteV).length = Nat.min q (16 - a' % 16) by rw [List.length_map, List.length_take, HQ.out]; show min _ _ = min _ _; omega)
      have H4 := Lib.hid (show a' % 16 + ((r.take (16 - a' % 16)).map byteV).length ≤ ((cont bl' (a' / 16)).map byteV).length by rw [H2.out, List.length_map, HL.out]; show _ + min _ _ ≤ _; omega)
      have H5 := Lib.hid (show ∀ v ∈ (r.take (16 - a' % 16)).map byteV, v.oneCell' = true by intro v hv; obtain ⟨x, _, rfl⟩ := List.mem_map.1 hv; rfl)
      clear hB2 he16
      go_wp2_with (first | (refine wpList_store_new rfl 165 (.tmp 9) (.tmp 42) rfl wr _ _ _ rfl rfl HZ.out HI.out (bytes_one _) ?_) | (refine wpList_copy_splice rfl (.tmp 44) (.tmp 45) 50 50 rfl 5 Tryz.underlying50 (by kernel_rfl) (some ⟨wr.heap.size, a' % 16, none⟩) A' (16 - a' % 16) (16 - a' % 16) q c' rfl rfl wr.heap.size (a' % 16) ((cont bl' (a' / 16)).map byteV) 165 (heap_alloc_new wr _) ((r.take (16 - a' % 16)).map byteV) H2.out (fun h => ⟨rfl, HRs.out.src _ h⟩) H4.out H5.out wr.heap.size wr HB2.out (Nat.le_refl _) ?_))
      intro w2 hc2 hb2
      obtain ⟨j, hj⟩ : ∃ j, j = min q (16 - a' % 16) := ⟨_, rfl⟩
      have hj1 : j ≤ q := by omega
      have hj2 : 0 < j := by omega
      have hlen : min (16 - a' % 16) r.length = j := by rw [HQ.out]; omega
      rw [hlen]
      have HJ := Lib.hid hj
      clear hlen hj hsl hl1
      have hnb : w2.heap[wr.heap.size]? = some (.cells ((splice (cont bl' (a' / 16)) (a' % 16) (r.take (16 - a' % 16))).map byteV).toArray 165 (0, 0)) := by rw [hc2.out, ← splice_map, List.map_take]
      clear hc2
      have hnl : (splice (cont bl' (a' / 16)) (a' % 16) (r.take (16 - a' % 16))).length = 16 := by
       have := H4.out
       rw [List.length_map, List.length_map] at this
       rw [length_splice _ _ _ this, HL.out]
      have HU := Lib.hid (show wr1 bl' a' r = aput bl' (a' / 16) (splice (cont bl' (a' / 16)) (a' % 16) (r.take (16 - a' % 16))) from rfl)
      generalize splice (cont bl' (a' / 16)) (a' % 16) (r.take (16 - a' % 16)) = nb at hnb hnl HU
      have hld := run_loadVar_row (P := Tryz.prog) { heap := w2.heap, tape := w2.tape, drawn := w2.drawn + 1, os := w2.os, output := w2.output } wr.heap.size 165 165 _ _ _ hnb Tryz.underlying165 rfl (by rw [List.size_toArray, List.length_map, hnl]; exact block_info)
      have HNL := Lib.hid hnl
      clear hnl hnb HB2 HRs H2 H4 H5 HZ HI
      have hR2 := HRw.out.below hb2
      have c1' := hR2.c1
      have HR2 := Lib.hid hR2
      have HB3 := Lib.hid hb2
      clear c1 hR2 hb2
      go_wp2
      go_still_tail 6, (by kernel_rfl)
      refine wpStill_load rfl 165 (.tmp 9) rfl ⟨wr.heap.size, 0, none⟩ _ rfl hld ?_
      refine wpStill_nil ?_
      change wpList _ _ _ _ _ w2.drew
      have hR3 : Raw w2.drew b m s bl' := HR2.out.keep rfl rfl
      have HF3 := Lib.hid (show Frm [b, m] w w2.drew from (HFr.out.trans (Frm.of_below HB3.out)).drew)
      have HD3 := Lib.hid (show Rd w2.drew w.heap.size 1 byteC A' r from (HRd.out.keep fun p hp => HB3.out.cell (Nat.lt_of_lt_of_le hp hsz)).drew)
      clear HR2 HB3 c1' HRw HFr HRd
      generalize w2.drew = w3 at *
      have HR3 := Lib.hid hR3
      obtain ⟨o, hup, hmp⟩ := run_update (P := Tryz.prog) K64 mapT hR3.map (a' / 16) nb
      rw [show natK (a' / 16) = .int .i64 ((a' : Int) / 16) by simp [natK]] at hup
      change (Instr.mapUpdate _ _ _ (.agg (nb.map byteV).toArray)).run _ _ = _ at hup
      have HMP := Lib.hid hmp
      clear hmp hR3 hld
      go_wp2
      have hF4 : Frm [b, m] w3 (putObj w3 m o) := (Frm.refl _ _).putObj (.inl (by simp)) o
      have HF4 := Lib.hid (HF3.out.trans hF4)
      have HD4 := Lib.hid (HD3.out.frm HR3.out hF4)
      have HN4 := Lib.hid (show Raw (putObj w3 m o) b m s (wr1 bl' a' r) from ⟨(putObj_other w3 o HR3.out.ne).trans HR3.out.head, by rw [HU.out]; exact HMP.out, wr1_full HR3.out.full a' r, HR3.out.small, wr1_keys HR3.out.keys (by omega) r⟩)
      clear hF4 HF3 HD3 HR3 HMP hup
      generalize putObj w3 m o = w4 at *
      go_wp2
      go_quiet (fail)
      have HDc := (HD4.out.cut (k := j) (cap := c') (by rw [HQ.out]; exact hrc))
      generalize (if c' = j then A' else A'.map (·.add j)) = Ap at *
      have HDd := Lib.hid HDc
      clear HDc HD4
      have hdr : r.drop (16 - a' % 16) = r.drop j := by
       have h1 := HJ.out
       have h2 := HQ.out
       rcases Nat.lt_or_ge q (16 - a' % 16) with h3 | h3
       ·rw [List.drop_eq_nil_of_le (by omega), List.drop_eq_nil_of_le (by omega)]
       ·rw [show j = 16 - a' % 16 by omega]
      have hst := wrL_step (by rw [HQ.out]; exact hq0) (show wrL r.length bl' a' r = R by rw [HQ.out]; exact HWL.out)
      rw [hdr, HQ.out, ← HJ.out] at hst
      have HST := Lib.hid hst
      have HLD := Lib.hid (show (r.drop j).length = q - j by rw [List.length_drop, HQ.out])
      clear hdr hst
      go_wp2
      go_roundw
      case rel => exact ⟨a' + j, r.drop j, wr1 bl' a' r, Ap, c' - j, by go_num, by rw [HLD.out], HST.out, by rw [HLD.out]; omega, by rw [HLD.out]; omega, by omega, HN4.out.keep rfl rfl, HDd.out, ⟨HF4.out.os, HF4.out.tape, HF4.out.output, HF4.out.size, HF4.out.block⟩⟩
      case measure => simp [intOf]; omega
end Go.Proofs.YtpcjmefchclhhaaGreat

/- A part of the proof, merged from several texts. -/
import Derived.Test.YtifdeajdlhgglaaDoorPM
import Derived.Test.YtifdeajdlhgglaaDoorRM
import Derived.Test.YtifdeajdlhgglaaDoorSxMb
import Derived.Test.YtifdeajdlhgglaaDoorSxMc
namespace Go.Proofs.YtifdeajdlhgglaaDoor
open Go.RowKit
set_option maxRecDepth 100000
def aS : ByteArray := ⟨#[47, 97]⟩
def anS : ByteArray := ⟨#[47, 97, 47, 110, 45]⟩
def an0S : ByteArray := ⟨#[47, 97, 47, 110, 45, 48, 48, 48, 48, 48, 48, 48, 48, 48, 48]⟩
def al1 : RAns := doZ [zRoot] 1 0 [⟨1, aS, noS, 0, false, false⟩]
def al2 : RAns := doZ al1.t 2 5 [⟨1, anS, noS, 0, true, true⟩]
theorem al1_e : al1.e = 0 := by decide +kernel
theorem al2_e : al2.e = 0 ∧ al2.ps = [an0S] := by decide +kernel
theorem al3_e : (endZ al2.t 3 5).2.length = 2 ∧ (endZ al2.t 3 5).1.length = 2 := by decide +kernel
theorem getC {m : Mp} {T : List RZ} (h : TM m T) (p : ByteArray) : FnO Tryd.prog 11 [.ptr 0 0, gS p] (cP m) fun g rs => ∃ l', (l' = m ∧ g = .tup [gz ((getZ T p).getD rz0), .v (.bool (getZ T p).isSome)]) ∧ rs = cP l' :=
 tree_lift (get_o h p) rfl rfl fun g l' hq => by rw [hq.2]; rfl
theorem allC {m : Mp} {T : List RZ} (h : TM m T) (hw : Wz T) : FnO Tryd.prog 9 [.ptr 0 0] (cP m) fun g rs => ∃ l', (l' = m ∧ g = gT T) ∧ rs = cP l' :=
 tree_lift (all_o h hw) rfl rfl fun g l' hq => by rw [hq.2]; rfl
structure ROp where
 kind : Int
 zx : Int
 se : Int
 l : List RC
def enOp (o : ROp) : List G := [gI o.kind, gI o.zx, gI o.se, .sl (o.l.map enC)]
structure SmO (o : ROp) : Prop where
 len : o.l.length ≤ 2000000
 path : ∀ c ∈ o.l, c.path.size ≤ maxZ
def fewN (l : List ROp) : Nat := (l.map fun o => o.l.length + 1).sum
theorem few_le : ∀ {l : List ROp}, ∀ o ∈ l, o.l.length + 1 ≤ fewN l
 | o' :: l, o, h => by
  unfold fewN
  rw [List.map_cons, List.sum_cons]
  rcases List.mem_cons.1 h with rfl | h
  ·omega
  ·have := few_le o h
   unfold fewN at this
   omega
theorem few_len : ∀ (l : List ROp), l.length ≤ fewN l
 | [] => by simp
 | o :: l => by
  have := few_len l
  unfold fewN at *
  rw [List.map_cons, List.sum_cons, List.length_cons]; omega
theorem few_take {l : List ROp} {i : Nat} {o : ROp} (h : l[i]? = some o) : fewN (l.take (i + 1)) = fewN (l.take i) + (o.l.length + 1) := by
 unfold fewN
 rw [take_more h, List.map_append, List.sum_append]; simp
theorem few_mono (l : List ROp) (i : Nat) : fewN (l.take i) ≤ fewN l := by
 have : fewN l = fewN (l.take i) + fewN (l.drop i) := by
  unfold fewN
  rw [← List.sum_append, ← List.map_append, List.take_append_drop]
 omega
theorem few_q (l : List ROp) (hb : fewN l ≤ 2000000) : FnV Tryd.prog 13 [.sl (l.map enOp)] fun g => g = .v (.bool (decide (fewN l ≤ 300))) := by
 refine fnG Tryd.func13 (by kernel_rfl) rfl (Nat.le_of_ble_eq_true (by kernel_rfl)) (by kernel_rfl) ?_
 refine sx_loop [6, 7] [] (fun i : Nat => [(8, gI i), (3, gI (fewN (l.take i) : Nat))]) (fun _ => []) (fun i => i ≤ l.length) (fun i => l.length - i) 0 (by omega) ⟨⟨rfl, rfl⟩, ⟨rfl, rfl⟩, trivial⟩ trivial rfl fun i hi => ?_
 have hm := few_mono l i
 refine EvIf.dec (fun h => ?_) (fun h => ?_)
 ·refine EvIdx.of (by simpa using h) fun o ho => ?_
  have hlt := lt_of_at ho
  have h1 := few_le o (List.mem_of_getElem? ho)
  have h2 := few_len l
  refine ⟨by simp; omega, ⟨by simp; omega, ⟨by omega, i + 1, by omega, (by dsimp only; omega), ?_⟩⟩⟩
  refine ⟨?_, ?_, rfl⟩ <;> repeat' (first | exact True.intro | with_reducible rfl | exact rfl | refine And.intro ?_ ?_)
  exact eqI (by rw [few_take ho]; simp)
 ·rw [List.take_of_length_le (by simp at h; omega)]
  exact bool_eq (b := decide (fewN l ≤ 300)) (by simp; omega)
set_option maxHeartbeats 2000000 in
theorem alive_v : FnV Tryd.prog 6 [] fun g => g = .v (.bool true) := by
 refine fnG Tryd.func6 (by kernel_rfl) rfl (Nat.le_of_ble_eq_true (by kernel_rfl)) (by kernel_rfl) ?_
 have w1 : Wz al1.t := wz_do wz_new _ _ _
 have w2 : Wz al2.t := wz_do w1 _ _ _
 refine (new_o).cal fun q rs hq => ?_
 obtain ⟨rfl, rfl⟩ := hq
 refine (do_o tm_new wz_new 1 0 [⟨1, aS, noS, 0, false, false⟩] (by simp) (by intro c hc; rw [List.mem_singleton.1 hc]; decide)).cal fun q rs hq => ?_
 obtain ⟨m1, q1, rfl, rfl⟩ := hq
 refine (do_o (T := al1.t) q1 w1 2 5 [⟨1, anS, noS, 0, true, true⟩] (by simp) (by intro c hc; rw [List.mem_singleton.1 hc]; decide)).cal fun q rs hq => ?_
 obtain ⟨m2, q2, rfl, rfl⟩ := hq
 refine EvIf.beq (fun _ => ?_) fun hh => absurd al1_e hh
 refine EvIf.beq (fun _ => ?_) fun hh => absurd al2_e.1 hh
 have hps : (doZ al1.t 2 5 [⟨1, anS, noS, 0, true, true⟩]).ps = [an0S] := al2_e.2
 rw [hps]
 refine EvIf.beq (fun _ => ?_) fun hh => absurd rfl hh
 refine EvIdx.atI (x := an0S) (by decide) rfl (EvIf.beqS (fun _ => ?_) fun hh => absurd rfl hh)
 refine (end_o (T := al2.t) q2 w2 3 5).cal fun q rs hq => ?_
 obtain ⟨m3, q3, rfl, rfl⟩ := hq
 refine EvIf.beq (fun _ => ?_) fun hh => absurd (by rw [List.length_map, al3_e.1]; rfl) hh
 refine (allC q3 (wz_end w2 3 5)).cal fun q rs hq => ?_
 obtain ⟨_, ⟨rfl, rfl⟩, rfl⟩ := hq
 exact bool_eq (b := true) (by rw [List.length_map, al3_e.2]; simp)
end Go.Proofs.YtifdeajdlhgglaaDoor
namespace Go.Proofs.YtifdeajdlhgglaaDoor
open Go.RowKit
set_option maxRecDepth 100000
structure SmS (l : List ROp) : Prop where
 few : fewN l ≤ 2000000
 ops : ∀ o ∈ l, SmO o
theorem SmS.len {l : List ROp} (_ : SmS l) (hf : fewN l ≤ 300) : l.length ≤ 1000000 := by have := few_len l; omega
end Go.Proofs.YtifdeajdlhgglaaDoor
namespace Go.Proofs.YtifdeajdlhgglaaDoor
open Go.RowKit
def chSp : List Sp := [.i .i64, .s, .s, .i .i64, .b, .b]
def zopSp : List Sp := [.i .i64, .i .i64, .i .i64, .sl chSp]
theorem ch_of {r : List G} (h : TyL chSp r) : ∃ c : RC, r = enC c ∧ c.path.size + 1 ≤ bulkR r := by
 obtain ⟨a0, r, rfl, -, h⟩ := h.i_inv
 obtain ⟨a1, r, rfl, -, h⟩ := h.s_inv
 obtain ⟨a2, r, rfl, -, h⟩ := h.s_inv
 obtain ⟨a3, r, rfl, -, h⟩ := h.i_inv
 obtain ⟨a4, r, rfl, -, h⟩ := h.b_inv
 obtain ⟨a5, r, rfl, -, h⟩ := h.b_inv
 obtain rfl := h.nil_inv
 exact ⟨⟨a0, a1, a2, a3, a4, a5⟩, rfl, by simp only [bulkR, bulkG]; omega⟩
theorem rows_len {rows : List (List G)} (h : ∀ r ∈ rows, 1 ≤ bulkR r) : rows.length ≤ bulkRs rows := by
 induction rows with
 | nil => simp
 | cons r rows ih =>
  have h1 := h r (by simp)
  have h2 := ih fun x hx => h x (by simp [hx])
  simp only [bulkRs, List.length_cons]
  omega
theorem chs_of {rows : List (List G)} (h : ∀ r ∈ rows, TyL chSp r) : ∃ l : List RC, rows = l.map enC ∧ l.length ≤ bulkRs rows ∧ ∀ c ∈ l, c.path.size ≤ bulkRs rows := by
 obtain ⟨l, rfl, hq⟩ := rows_of (f := enC) (Q := fun c => c.path.size + 1 ≤ bulkR (enC c)) fun r hr => by
  obtain ⟨c, rfl, hc⟩ := ch_of (h r hr)
  exact ⟨c, rfl, hc⟩
 refine ⟨l, rfl, ?_, fun c hc => ?_⟩
 ·have := rows_len (rows := l.map enC) fun r hr => by
   obtain ⟨c, hc, rfl⟩ := List.mem_map.1 hr
   have := hq c hc; omega
  simpa using this
 ·have h1 := hq c hc
  have h2 := bulkRs_le (List.mem_map_of_mem (f := enC) hc)
  omega
theorem zop_of {r : List G} (h : TyL zopSp r) (hb : bulkR r ≤ 1048576) : ∃ o : ROp, r = enOp o ∧ (SmO o ∧ o.l.length + 1 ≤ bulkR r) := by
 obtain ⟨a0, r, rfl, -, h⟩ := h.i_inv
 obtain ⟨a1, r, rfl, -, h⟩ := h.i_inv
 obtain ⟨a2, r, rfl, -, h⟩ := h.i_inv
 obtain ⟨rows, r, rfl, -, hr, h⟩ := h.sl_inv
 obtain rfl := h.nil_inv
 obtain ⟨l, rfl, h1, h2⟩ := chs_of hr
 simp only [bulkR, bulkG] at hb
 refine ⟨⟨a0, a1, a2, l⟩, rfl, ⟨by show l.length ≤ _; omega, fun c hc => by have := h2 c hc; unfold maxZ; omega⟩, ?_⟩
 simp only [bulkR, bulkG]
 show l.length + 1 ≤ _
 omega
theorem few_bulk : ∀ {l : List ROp}, (∀ o ∈ l, o.l.length + 1 ≤ bulkR (enOp o)) → fewN l ≤ bulkRs (l.map enOp)
 | [], _ => by simp [fewN]
 | o :: l, h => by
  have h1 := h o (by simp)
  have h2 := few_bulk fun x hx => h x (List.mem_cons_of_mem _ hx)
  unfold fewN at *
  simp only [List.map_cons, List.sum_cons, bulkRs]
  omega
theorem zops_of {g : G} (h : TyL [.sl zopSp] [g]) (hb : bulkG g ≤ 1048576) : ∃ l : List ROp, g = .sl (l.map enOp) ∧ SmS l := by
 obtain ⟨rows, r, e, -, hr, h⟩ := h.sl_inv
 obtain rfl := h.nil_inv
 have e : g = .sl rows := by simpa using e
 subst e
 simp only [bulkG] at hb
 obtain ⟨l, rfl, hq⟩ := rows_of (f := enOp) (Q := fun o => SmO o ∧ o.l.length + 1 ≤ bulkR (enOp o)) fun r h => by
  obtain ⟨o, rfl, ho⟩ := zop_of (hr r h) (by have := bulkRs_le h; omega)
  exact ⟨o, rfl, ho⟩
 refine ⟨l, rfl, ?_, fun o ho => (hq o ho).1⟩
 have := few_bulk fun o ho => (hq o ho).2
 omega
end Go.Proofs.YtifdeajdlhgglaaDoor

/- A part of the proof, merged from several texts. -/
import Derived.Test.YtalfffamppmooaaGreatDoorSxMa
import Derived.Great.FillDense
import Derived.Deep.OwnRows
import Derived.Lib.MinMax
import Derived.Laws.IdiomStrings
import Derived.Laws.CopyRow
import Derived.Test.YtalfffamppmooaaGreatDoorOwnM
import Derived.Great.BuildSlice
import Derived.Laws.AppendOwnNone
import Derived.OrdersHeld
import Derived.Deep.RegionHeld
import Derived.Deep.LoopGhost
namespace Go.Proofs.YtalfffamppmooaaGreatDoor
open Go.RowKit
theorem put_fold : ∀ (l : List Value) (k off : Nat) (arr : Array Value), off + k + l.length ≤ arr.size →
  (l.zipIdx k).foldl (fun cs p => cs.setIfInBounds (off + p.2) p.1) arr = (arr.toList.take (off + k) ++ l ++ arr.toList.drop (off + k + l.length)).toArray
 | [], k, off, arr, _ => by simp
 | x :: l, k, off, arr, h => by
  simp only [List.length_cons] at h
  rw [List.zipIdx_cons, List.foldl_cons, put_fold l (k + 1) off _ (by simp; omega)]
  congr 1
  have hlt : off + k < arr.toList.length := by simp; omega
  simp only [Array.toList_setIfInBounds]
  rw [List.drop_set_of_lt (by omega), List.take_set, ← Nat.add_assoc, List.take_succ_eq_append_getElem hlt, List.set_append_right _ _ (by simp; omega)]
  have hlt' : off + k ≤ arr.size := by omega
  simp [Nat.min_eq_left hlt', Nat.add_assoc, Nat.add_comm 1]
section
variable {P : Program} {tb : List (Nat × TI)} {N n : Nat} {I I' I0 : Imm} {V V' V0 : Va} {a : Act} {t : Ts} {own own' own0 : Os} {w w' w0 : World} {g : G} {y : Value} {d : Option Tmp}
variable {XL : List Nat} {S : World → Prop} {K : Ts → Os → Nat → Prop} {next : Act → World → Prop} {Q : Exit → Act → World → Prop} {o : Oper}
theorem bld_ok (hT : ∀ t i, look t tb = some i → TIok P t i) {F : List Field} (hz : ∀ f ∈ F, ∃ m, (P.info? f.type).map (·.size) = some (m + 1)) {places : List (Nat × Nat)} (hpl : F.mapM (fun f => (P.info? f.type).map fun i => (f.offset, i.size)) = some places) (ha : ARep N I V a t) (hH : Has I V own w) :
  ∀ {ps : List (Nat × Operand)} {l : List G} {cs : List Value} {K1 : List G → Prop}, bldK tb t own (F.map fun f => (f.type, f.offset)) ps l K1 → PW (CRep I V) l cs →
   ∃ l' cs', K1 l' ∧ PW (CRep I V) l' cs' ∧ Instr.fill (places.toArray[·]?) cs.toArray (ps.map fun p => (p.1, a.eval p.2)) = some cs'.toArray
 | [], l, cs, K1, h, hp => ⟨l, cs, h, hp, rfl⟩
 | (i, x) :: ps, l, cs, K1, h, hp => by
  unfold bldK at h
  rw [nth_eq] at h
  cases hf : (F.map fun f => (f.type, f.offset))[i]? with
  | none => rw [hf] at h; exact h.elim
  | some q =>
   obtain ⟨ft, fo⟩ := q
   rw [hf] at h
   dsimp only at h
   cases hj : look ft tb with
   | none => rw [hj] at h; exact h.elim
   | some j =>
    rw [hj] at h
    dsimp only at h
    obtain ⟨g, h, hg⟩ := ev_ok h ha hH
    obtain ⟨ds, h, hd, -⟩ := cells_ok h hg hH
    cases hb : Nat.beq ds.length j.zero.length with
    | false => rw [hb] at h; exact h.elim
    | true =>
     rw [hb] at h
     have hb := Nat.eq_of_beq_eq_true hb
     obtain ⟨l1, h, hp1, hfit⟩ := ovr_ok h hp hd
     obtain ⟨l', cs', h1, h2, h3⟩ := bld_ok hT hz hpl ha hH h hp1
     refine ⟨l', cs', h1, h2, ?_⟩
     rw [List.getElem?_map] at hf
     obtain ⟨fd, hf1, hf2⟩ := Option.map_eq_some_iff.1 hf
     injection hf2 with e1 e2
     have hpi : places[i]? = some (fo, j.zero.length) := by
      have hs := (hT ft j hj).size
      have key : ∀ (F : List Field) (pl : List (Nat × Nat)) (i : Nat), F.mapM (fun f => (P.info? f.type).map fun i => (f.offset, i.size)) = some pl → F[i]? = some fd → pl[i]? = (P.info? fd.type).map fun i => (fd.offset, i.size) := by
       intro F
       induction F with
       | nil => intro pl i _ hi; simp at hi
       | cons f F ih =>
        intro pl i hm hi
        simp only [List.mapM_cons, Option.bind_eq_bind, Option.pure_def] at hm
        cases hq : P.info? f.type with
        | none => simp [hq] at hm
        | some iq =>
         cases hr : F.mapM (fun f => (P.info? f.type).map fun i => (f.offset, i.size)) with
         | none => simp [hq, hr] at hm
         | some rest =>
          simp [hq, hr] at hm
          subst hm
          cases i with
          | zero => simp at hi; subst hi; simp [hq]
          | succ i => simpa using ih rest i hr (by simpa using hi)
      rw [key F places i hpl hf1, e1, e2]
      cases hq : P.info? ft with
      | none => rw [hq] at hs; simp at hs
      | some iq => rw [hq] at hs; simp at hs; simp [hs]
     have hlen : (a.eval x).cells.size = j.zero.length := by
      rw [← hb, hd.1]; simp
     have hne : (a.eval x).cells.toList ≠ [] := fun e => by
      obtain ⟨m, hm⟩ := hz fd (List.mem_of_getElem? hf1)
      have hs := (hT ft j hj).size
      rw [e1, hs] at hm
      injection hm with hm
      have := congrArg List.length e
      simp at this
      rw [this] at hlen
      simp at hlen
      omega
     have hfl := hfit hne
     have hlc : (a.eval x).cells.toList.length = (a.eval x).cells.size := by simp
     show Instr.fill (places.toArray[·]?) cs.toArray ((i, a.eval x) :: ps.map fun p => (p.1, a.eval p.2)) = _
     unfold Instr.fill
     have hpi' : places.toArray[i]? = some (fo, j.zero.length) := by simpa using hpi
     simp only [hpi', hlen]
     rw [if_neg (by simp; rw [← hlen, ← hlc]; exact hfl), ← h3]
     congr 1
     rw [← Array.foldl_toList, Array.toList_zipIdx]
     have := put_fold (a.eval x).cells.toList 0 fo cs.toArray (by simpa using hfl)
     simpa using this
theorem bldA_ok {m sz : Nat} (ha : ARep N I V a t) (hH : Has I V own w) :
  ∀ {ps : List (Nat × Operand)} {l : List G} {cs : List Value} {K1 : List G → Prop}, bldA t own m sz ps l K1 → PW (CRep I V) l cs →
   ∃ l' cs', K1 l' ∧ PW (CRep I V) l' cs' ∧ Instr.fill (fun i => some (i * sz, sz)) cs.toArray (ps.map fun p => (p.1, a.eval p.2)) = some cs'.toArray
 | [], l, cs, K1, h, hp => ⟨l, cs, h, hp, rfl⟩
 | (i, x) :: ps, l, cs, K1, h, hp => by
  unfold bldA at h
  split at h
  ·next h1 h2 =>
   have h2 := Nat.le_of_ble_eq_true h2
   obtain ⟨g, h, hg⟩ := ev_ok h ha hH
   obtain ⟨ds, h, hd, -⟩ := cells_ok h hg hH
   cases hb : Nat.beq ds.length sz with
   | false => rw [hb] at h; exact h.elim
   | true =>
    rw [hb] at h
    have hb := Nat.eq_of_beq_eq_true hb
    obtain ⟨l1, h, hp1, hfit⟩ := ovr_ok h hp hd
    obtain ⟨l', cs', k1, k2, k3⟩ := bldA_ok ha hH h hp1
    refine ⟨l', cs', k1, k2, ?_⟩
    have hlen : (a.eval x).cells.size = sz := by rw [← hb, hd.1]; simp
    have hne : (a.eval x).cells.toList ≠ [] := fun e => by
     have := congrArg List.length e
     simp at this
     rw [this] at hlen
     simp at hlen
     omega
    have hfl := hfit hne
    have hlc : (a.eval x).cells.toList.length = (a.eval x).cells.size := by simp
    have hfl : i * sz + (a.eval x).cells.toList.length ≤ cs.length := hfl
    show Instr.fill (fun i => some (i * sz, sz)) cs.toArray ((i, a.eval x) :: ps.map fun p => (p.1, a.eval p.2)) = _
    unfold Instr.fill
    simp only [hlen]
    rw [if_neg (by have hfl' := hfl; rw [hlc, hlen] at hfl'; simp; exact hfl'), ← k3]
    congr 1
    rw [← Array.foldl_toList, Array.toList_zipIdx]
    have := put_fold (a.eval x).cells.toList 0 (i * sz) cs.toArray (by simpa using hfl)
    simpa using this
  ·exact h.elim
theorem bs_ok {sz : Nat} : ∀ {ps : List (Nat × Operand)} {i : Nat} {own : Os} {I : Imm} {V : Va} {K1 : List (List G) → Os → Prop}, bsK t sz ps i own K1 → ARep N I V a t → Has I V own w →
  ∃ rows own' I' V', ∃ vs : List Value, K1 rows own' ∧ (V'.n = V.n ∧ V.kp V') ∧ Later own I V w own' I' V' w ∧ ps.map (fun p => (p.1, a.eval p.2)) = (vs.zipIdx i).map (fun x => (x.2, x.1)) ∧ vs.length = rows.length ∧ ps.length = rows.length ∧
   (∀ (i : Nat) r u, rows[i]? = some r → (vs.map fun v => v.cells.toList)[i]? = some u → PW (VRep I') r u) ∧ (∀ v ∈ vs, v.cells.size = sz) ∧ ∀ v ∈ vs, ∀ x ∈ v.cells.toList, x.oneCell' = true
 | [], i, own, I, V, K1, h, _, hH => ⟨[], own, I, V, [], h, ⟨rfl, .refl _⟩, .refl hH, rfl, rfl, rfl, fun i r u h => by simp at h, by simp, by simp⟩
 | (j, x) :: ps, i, own, I, V, K1, h, ha, hH => by
  unfold bsK at h
  cases hb : Nat.beq j i with
  | false => rw [hb] at h; exact h.elim
  | true =>
   rw [hb] at h
   have hb := Nat.eq_of_beq_eq_true hb
   subst hb
   obtain ⟨g, h, hg⟩ := ev_ok h ha hH
   obtain ⟨cs, h, hp, -⟩ := cells_ok h hg hH
   obtain ⟨cs', o1, I1, V1, h, hn1, hl1, hv1⟩ := purL_ok h hp hH
   cases hb1 : Nat.beq cs'.length sz with
   | false => rw [hb1] at h; exact h.elim
   | true =>
    cases hb2 : allB G.one cs' with
    | false => rw [hb1, hb2] at h; exact h.elim
    | true =>
     rw [hb1, hb2] at h
     have hb1 := Nat.eq_of_beq_eq_true hb1
     obtain ⟨rows, o2, I2, V2, vs, h1, hn2, hl2, h2, h3, h4, h5, h6, h7⟩ := bs_ok (K1 := fun rows w'' => K1 (cs' :: rows) w'') h (ha.mono hl1.fro.mono hl1.va) hl1.has
     refine ⟨_, o2, I2, V2, a.eval x :: vs, h1, ⟨hn2.1.trans hn1.1, hn1.2.trans (Nat.le_of_eq hn1.1.symm) hn2.2⟩, hl1.trans hl2, by simp [h2, List.zipIdx_cons], by simp [h3], by simp [h4], fun i r u hr hu => ?_, fun v hv => ?_, fun v hv y hy => ?_⟩
     ·cases i with
      | zero => simp at hr hu; subst hr hu; exact hv1.mono fun _ _ h => h.mono hl2.fro.mono
      | succ i => exact h5 i r u (by simpa using hr) (by simpa using hu)
     ·rcases List.mem_cons.1 hv with rfl | hv
      ·have := hv1.1; rw [hb1] at this; simpa using this.symm
      ·exact h6 v hv
     ·rcases List.mem_cons.1 hv with rfl | hv
      ·obtain ⟨m, hm, e⟩ := List.mem_iff_getElem.1 hy
       have hm' : m < cs'.length := by rw [hv1.1]; exact hm
       exact one_of (hv1.2 m cs'[m] y (List.getElem?_eq_getElem hm') (by rw [List.getElem?_eq_getElem hm, e])) (allB_mem hb2 _ (List.getElem_mem hm'))
      ·exact h7 v hv y hy
variable (hT : ∀ t i, look t tb = some i → TIok P t i) (hK : NxtB N own I V w K next) (hH : Has I V own w) (ha : ARep N I V a t) (hd : ∀ i, o.dst = some i → i < N)
include hT hH ha
theorem q_build {ty : TypeId} {parts : Array (Nat × Operand)} (ho : o.op = .build ty parts) (h : match look ty tb with
  | none => False
  | some i => match i.flds with
   | [] => match i.kd with
    | .arr m _ sz => bldA t own m sz parts.toList i.zero fun l => mkAgg l fun g => K (put o.dst g t) own V.n
    | _ => False
   | f :: fs => bldK tb t own (f :: fs) parts.toList i.zero fun l => mkAgg l fun g => K (put o.dst g t) own V.n) : QOk S P I V own w a t o K := by
 cases hl : look ty tb with
 | none => rw [hl] at h; exact h.elim
 | some i =>
  rw [hl] at h
  have hi := hT ty i hl
  dsimp only at h
  have hz0 : PW (CRep I V) i.zero (i.zero.map G.val) := zero_pw hi
  obtain ⟨z, hz1, hz2⟩ := Option.map_eq_some_iff.1 hi.zero
  obtain ⟨j, hj1, hj2⟩ := Option.bind_eq_some_iff.1 hz1
  by_cases hfl : i.flds = []
  ·rw [hfl] at h
   dsimp only at h
   have hkd := hi.kd
   split at h
   ·next m e sz hk =>
    rw [hk] at hkd
    obtain ⟨hu, hsz⟩ := (show P.underlying ty = some (.array m e) ∧ (P.info? e).map (·.size) = some sz from hkd)
    obtain ⟨ie, hie, hies⟩ := Option.map_eq_some_iff.1 hsz
    obtain ⟨l', cs', h1, h2, h3⟩ := bldA_ok ha hH h hz0
    obtain ⟨g', h4, h5⟩ := mkAgg_ok h1 h2
    refine ⟨_, _, h4, h5, fun u _ => ?_⟩
    have hb : P.built ty (parts.map fun p => (p.1, a.eval p.2)).toList = some cs'.toArray := by
     unfold Program.built
     have e : z.cells = (i.zero.map G.val).toArray := by rw [← hz2]
     simp only [hj1, hu, hj2, hie, hies, e]
     simpa using h3
    have hr := run_build (P := P) u ty _ _ hb
    simp only [execOp, ho, Sem.run_bind, Sem.run_pure]
    rw [hr]
    rfl
   ·exact h.elim
  ·have h : bldK tb t own i.flds parts.toList i.zero fun l => mkAgg l fun g => K (put o.dst g t) own V.n := by
    cases hq : i.flds with
    | nil => exact absurd hq hfl
    | cons f fs => rw [hq] at h; exact h
   obtain ⟨F, hF, hm, hz⟩ := hi.flds hfl
   have hpl : ∃ places, F.toList.mapM (fun f => (P.info? f.type).map fun i => (f.offset, i.size)) = some places := by
    generalize F.toList = L at hz
    induction L with
    | nil => exact ⟨[], rfl⟩
    | cons f L ih =>
     obtain ⟨pl, hpl⟩ := ih fun f hf => hz f (by simp [hf])
     obtain ⟨m, hm⟩ := hz f (by simp)
     cases hq : P.info? f.type with
     | none => rw [hq] at hm; simp at hm
     | some iq => exact ⟨_, by simp only [List.mapM_cons, hpl, hq]; rfl⟩
   obtain ⟨places, hpl⟩ := hpl
   rw [← hm] at h
   obtain ⟨l', cs', h1, h2, h3⟩ := bld_ok hT hz hpl ha hH h hz0
   obtain ⟨g', h4, h5⟩ := mkAgg_ok h1 h2
   refine ⟨_, _, h4, h5, fun u _ => ?_⟩
   have hb : P.built ty (parts.map fun p => (p.1, a.eval p.2)).toList = some cs'.toArray := by
    unfold Program.built
    have e : z.cells = (i.zero.map G.val).toArray := by rw [← hz2]
    simp only [hj1, hF, hj2, hpl, e]
    simpa using h3
   have hr := run_build (P := P) u ty _ _ hb
   simp only [execOp, ho, Sem.run_bind, Sem.run_pure]
   rw [hr]
   rfl
include hK hd in
theorem op_buildSlice {ty : TypeId} {len : Nat} {parts : Array (Nat × Operand)} (ho : o.op = .buildSlice ty len parts) (h : match look ty tb with
  | some ⟨_, _, some (e, sz), _, _, _, _⟩ => match Nat.beq parts.toList.length len, Nat.ble (len * sz) 16777216 with
   | true, true => bsK t sz parts.toList 0 own fun rows w' => K (put o.dst (.osl V.n) t) ((V.n, .slc rows e sz) :: w') (V.n + 1)
   | _, _ => False
  | _ => False) : o.wp P a w next Q := by
 split at h
 case h_2 => exact h.elim
 next ag ze e sz fl st ik kd hl =>
 split at h
 case h_2 => exact h.elim
 next hb1 hb2 =>
 have hb1 := Nat.eq_of_beq_eq_true hb1
 have hb2 := Nat.le_of_ble_eq_true hb2
 obtain ⟨hu, ie, z, h1, h2, h3, h4, h5, -⟩ := (hT _ _ hl).elem e sz rfl
 obtain ⟨rows, o1, I1, V1, vs, k1, ⟨hn1, hkp⟩, hl1, k2, k3, k4, k5, k6, k7⟩ := bs_ok h ha hH
 have hlen : len = rows.length := by rw [← hb1]; exact k4
 have hfl : (vs.map fun v => v.cells.toList).flatten.length = rows.length * sz := by
  rw [flat_len' (sz := sz) fun u hu => by obtain ⟨v, hv, rfl⟩ := List.mem_map.1 hu; simpa using k6 v hv]
  simp [k3]
 have hrun : (execOp a.eval o).run P w = .ok (.value (.slice (some ⟨w.heap.size, 0, none⟩) len len)) (w.alloc (.cells (vs.map fun v => v.cells.toList).flatten.toArray e)) := by
  by_cases h0 : len = 0
  ·subst h0
   have hr0 : rows = [] := List.eq_nil_of_length_eq_zero hlen.symm
   have hv0 : vs = [] := List.eq_nil_of_length_eq_zero (by rw [k3, hr0]; rfl)
   have hp0 : parts = #[] := Array.eq_empty_of_size_eq_zero (by simpa using hb1)
   subst hv0 hp0
   have hs : (sizeOf e).run P w = .ok sz w := run_sizeOf (by rw [h1]; simp [h3]) w
   have e0 : (Array.range 0 : Array Nat) = #[] := Array.eq_empty_of_size_eq_zero (by simp)
   simp [execOp, ho, Instr.buildSlice, run_underlying hu, hs, Result.andThen, Instr.fill, newRow, e0]
  ·have hwp := run_buildSlice (P := P) w ty e len (parts.map fun p => (p.1, a.eval p.2)) (vs.map fun v => v.cells.toList).flatten.toArray ie z hu h1 h2 (by rw [h3]; omega) (by rw [h3]; exact Nat.mul_ne_zero h0 (by omega)) (by
    have hf := Go.Great.fill_whole (s := sz) h5 vs ((Array.range (len * ie.size)).map (z.cells[· % z.cells.size]!)) k6 (by simp [h3, k3, hlen])
    rw [h3]
    rw [← k2, h3] at hf
    simpa [List.flatMap_def] using hf)
   simp only [execOp, ho, Sem.run_bind, Sem.run_pure]
   rw [hwp]
   rfl
 have hln := later_new (r := .slc rows e sz) hl1.has ((Below.refl _ _).alloc (Nat.le_refl _) (.cells (vs.map fun v => v.cells.toList).flatten.toArray e)) 0 (.slice (some ⟨w.heap.size, 0, none⟩) len len) (· = w.heap.size) (fun k e => ⟨Nat.le_of_eq e.symm, by subst e; simp⟩) ⟨fun b => by simp [Va.push, Value.ownBlock, eq_comm], vs.map fun v => v.cells.toList, ⟨hfl, .inr ⟨w.heap.size, len, _, by simp [Va.push, hlen], Nat.zero_le _, heap_alloc_new _ _, by omega, ?_, by simp only [List.size_toArray]; rw [hfl, hlen], by simp only; rw [← hfl]; exact List.take_length⟩⟩, by simp [k3], fun i r u hr hu => (k5 i r u hr hu), fun u hu => by obtain ⟨v, hv, rfl⟩ := List.mem_map.1 hu; simpa using k6 v hv, fun u hu x hx => by obtain ⟨v, hv, rfl⟩ := List.mem_map.1 hu; exact k7 v hv x hx, h5⟩
 ·have := finB (Q := Q) (g := .osl V.n) hK ha hd hrun (hl1.trans hln) ((Below.refl _ _).alloc (Nat.le_refl _) _) (hkp.trans (Nat.le_of_eq hn1.symm) (.push _ _ _ _)) (TRep.of_c (g := .osl V.n) ⟨by show V.n < V1.n + 1; omega, by simp [Va.push, hn1]⟩) (by
   have hpn : (V1.push 0 (.slice (some ⟨w.heap.size, 0, none⟩) len len) (· = w.heap.size)).n = V.n + 1 := by simp [Va.push, hn1]
   rw [hpn, hn1]
   exact k1)
  exact this
 ·have : len ≤ len * sz := Nat.le_mul_of_pos_right _ h5
  unfold maxLen
  omega
omit hT hK hH ha hd in
theorem vval {I : Imm} {z x : Value} (h : VRep I (.v z) x) : x = z := by cases h; rfl
omit hT hK hH ha hd in
theorem rep_flat {α : Type} (k : Nat) (x : α) : (List.replicate k [x]).flatten = List.replicate k x := by
 induction k with
 | zero => rfl
 | succ k ih => rw [List.replicate_succ, List.replicate_succ, List.flatten_cons, ih]; rfl
include hK hd in
theorem op_makeSlice {ty : TypeId} {len cap : Operand} (ho : o.op = .makeSlice ty len cap) (h : match look ty tb with
  | some ⟨_, _, some (e, sz), _, _, _, _⟩ => match look e tb with
   | some ⟨false, [z], _, _, _, _, _⟩ => match Nat.beq sz 1 with
    | true => ev t own len fun p => ev t own cap fun q => match p, q with
     | .v (.int .i64 m), .v (.int .i64 c) => (0 ≤ m ∧ m ≤ 1073741824 ∧ c = m) ∧ K (put o.dst (.osl V.n) t) ((V.n, .slc (List.replicate m.toNat [z]) e 1) :: own) (V.n + 1)
     | _, _ => False
    | false => False
   | _ => False
  | _ => False) : o.wp P a w next Q := by
 split at h
 case h_2 => exact h.elim
 next ag ze e sz fl st ik kd hl =>
 split at h
 case h_2 => exact h.elim
 next z el2 fl2 st2 ik2 kd2 hl2 =>
 split at h
 case h_2 => exact h.elim
 next hb1 =>
 have hb1 := Nat.eq_of_beq_eq_true hb1
 subst hb1
 obtain ⟨hu, ie, zv, h1, h2, h3, h4, h5, h6⟩ := (hT _ _ hl).elem e _ rfl
 have hz := hT _ _ hl2
 obtain ⟨p, h, hp⟩ := ev_ok h ha hH
 obtain ⟨q, h, hq⟩ := ev_ok h ha hH
 split at h
 case h_2 => exact h.elim
 next m c =>
 obtain ⟨⟨g1, g2, g3⟩, h⟩ := h
 subst g3
 obtain ⟨k, rfl⟩ := Int.eq_ofNat_of_zero_le g1
 have hp : a.eval len = .int .i64 k := vval hp
 have hq : a.eval cap = .int .i64 k := vval hq
 have hzz : (P.info? e).bind (·.zero) = some zv := by rw [h1]; exact h2
 have hz1 : zv.cells = #[zv] := by simpa using hz.zag zv hzz
 have hz2 : zv = z.val := by
  have := hz.zero
  rw [hzz] at this
  simp [hz1] at this
  exact this
 have hinfo : (P.info? e).map (fun i => (i.zero, i.size, i.bytes)) = some (some zv, 1, ie.bytes) := by rw [h1]; simp [h2, h3]
 have hmk := run_make_row' (P := P) ty e zv ie.bytes hu hinfo hz1 .i64 .i64 k (by
  have : ie.bytes * k ≤ 65536 * 1073741824 := Nat.mul_le_mul h6 (by omega)
  omega) (by omega) w
 have hrun : (execOp a.eval o).run P w = .ok (.value (.slice (some ⟨w.heap.size, 0, none⟩) k k)) (w.alloc (.cells (madeCells #[zv] k) e)) := by
  simp only [execOp, ho, hp, hq, Sem.run_bind, Sem.run_pure]
  rw [hmk]
  rfl
 have hcs : (madeCells #[zv] k).toList = List.replicate k zv := by
  refine List.ext_getElem (by simp [madeCells]) fun j h1 h2 => ?_
  simp [madeCells, Nat.mod_one]
 have hfl : (List.replicate k [zv]).flatten = List.replicate k zv := rep_flat k zv
 have hpz : ∀ I2 : Imm, VRep I2 z zv := fun I2 => by
  have hzok := hz.zok
  rw [hz2]
  have hzok : zOK z = true := by simpa [allB] using hzok
  revert hzok
  cases z <;> intro hzok <;> first | (cases hzok; done) | exact .v _ | exact .ff | exact .tt | exact .nl | exact .un
 have hone : zv.oneCell' = true := by
  have hzok : zOK z = true := by simpa [allB] using hz.zok
  rw [hz2]
  revert hzok
  cases z <;> intro hzok <;> first | (cases hzok; done) | rfl | exact hzok | (simpa [zOK] using hzok)
 have hln := later_new (r := .slc (List.replicate k [z]) e 1) hH ((Below.refl _ _).alloc (Nat.le_refl _) (.cells (madeCells #[zv] k) e)) 0 (.slice (some ⟨w.heap.size, 0, none⟩) k k) (· = w.heap.size) (fun k e => ⟨Nat.le_of_eq e.symm, by subst e; simp⟩) ⟨fun b => by simp [Va.push, Value.ownBlock, eq_comm], List.replicate k [zv], ⟨by rw [hfl]; simp, .inr ⟨w.heap.size, k, _, by simp [Va.push], Nat.zero_le _, heap_alloc_new _ _, by simp, ?_, by rw [← Array.length_toList, hcs]; simp, by rw [hcs, hfl]; simp⟩⟩, by simp, fun i r u hr hu => ?_, fun u hu => by rw [List.eq_of_mem_replicate hu]; rfl, fun u hu x hx => by rw [List.eq_of_mem_replicate hu] at hx; rw [List.mem_singleton.1 hx]; exact hone, Nat.one_pos⟩
 ·exact finB (Q := Q) (g := .osl V.n) hK ha hd hrun hln ((Below.refl _ _).alloc (Nat.le_refl _) _) (.push _ _ _ _) (TRep.of_c (g := .osl V.n) ⟨by show V.n < V.n + 1; omega, by simp [Va.push]⟩) h
 ·unfold maxLen; omega
 ·rw [List.eq_of_mem_replicate (List.mem_of_getElem? hr), List.eq_of_mem_replicate (List.mem_of_getElem? hu)]
  exact .cons (hpz _) .nil
end
end Go.Proofs.YtalfffamppmooaaGreatDoor
namespace Go.Proofs.YtalfffamppmooaaGreatDoor
open Go.RowKit
section
variable {P : Program} {tb : List (Nat × TI)} {N n : Nat} {I I' I0 : Imm} {V V' V0 : Va} {a : Act} {t : Ts} {own own' own0 : Os} {w w' w0 : World} {g : G} {y : Value} {d : Option Tmp}
variable {XL : List Nat} {S : World → Prop} {K : Ts → Os → Nat → Prop} {next : Act → World → Prop} {Q : Exit → Act → World → Prop} {o : Oper} {r : R}
theorem rows_ok {K1 : List (List G) → Prop} (h : rowsK own g K1) (hg : TRep I V g y) (hH : Has I V own w) : ∃ rows A c, K1 rows ∧ y = .slice A rows.length c := by
 cases g with
 | nl => cases (show VRep I .nl y from hg); exact ⟨_, none, 0, h, rfl⟩
 | sl l =>
  cases (show VRep I (.sl l) y from hg) with
  | sl _ A c sz u hc hA hz hh hu => exact ⟨_, A, c, h, rfl⟩
 | osl k =>
  obtain ⟨hk, rfl⟩ := (show k < V.n ∧ y = V.s k from hg)
  unfold rowsK at h
  dsimp only at h
  split at h
  ·next rows e sz hr =>
   obtain ⟨-, rs, ⟨-, h6⟩, -⟩ := hH.each k _ hr
   rcases h6 with ⟨h7, h8⟩ | ⟨b, cap, cur, h7, -⟩
   ·exact ⟨_, none, 0, h, by rw [h7, h8]⟩
   ·exact ⟨_, _, _, h, h7⟩
  ·next rows sz hr =>
   have hv := (hH.each k _ hr).2.1
   generalize V.s k = y at hv
   cases hv with
   | sl _ A c sz u hc hA hz hh hu => exact ⟨_, A, c, h, rfl⟩
  ·exact h.elim
 | _ => exact False.elim h
theorem new_ok {sz : Nat} {K1 : List (List G) → Prop} (h : newK own g sz K1) (hg : TRep I V g y) (hH : Has I V own w) : ∃ new A c, ∃ rs : List (List Value), K1 new ∧ y = .slice A new.length c ∧ (A = none → new.length = 0 ∧ c = 0) ∧ rs.length = new.length ∧ (∀ (i : Nat) r u, new[i]? = some r → rs[i]? = some u → PW (VRep I) r u) ∧ (∀ u ∈ rs, u.length = sz) ∧ (∀ u ∈ rs, ∀ x ∈ u, x.oneCell' = true) ∧ ∀ a, A = some a → ∀ (j : Nat) u, rs.flatten[j]? = some u → w.cell? (a.add j) = some u := by
 cases g with
 | nl => cases (show VRep I .nl y from hg); exact ⟨[], none, 0, [], h, rfl, fun _ => ⟨rfl, rfl⟩, rfl, fun i r u h => by simp at h, by simp, by simp, fun a e => by cases e⟩
 | sl l =>
  obtain ⟨hr, h⟩ := h
  obtain ⟨A, c, rs, e, h1, h2, h3, h4, h5, h6⟩ := sl_rows (show VRep I (.sl l) y from hg) hH.mem fun r hm => (hr r hm).1
  refine ⟨l, A, c, rs, h, e, fun e => ⟨by rw [(h2 e).1]; rfl, (h2 e).2⟩, h3, h4, h5, fun u hu x hx => ?_, fun a ha j u hu => (h6 a ha j u hu).2⟩
  obtain ⟨i, hi, e⟩ := List.mem_iff_getElem.1 hu
  have hi' : i < l.length := by omega
  have hp := h4 i l[i] u (List.getElem?_eq_getElem hi') (by rw [List.getElem?_eq_getElem hi, e])
  obtain ⟨m, hm, e2⟩ := List.mem_iff_getElem.1 hx
  have hm' : m < l[i].length := by rw [hp.1]; exact hm
  exact one_of (hp.2 m l[i][m] x (List.getElem?_eq_getElem hm') (by rw [List.getElem?_eq_getElem hm, e2])) (List.all_eq_true.1 (hr _ (List.getElem_mem hi')).2 _ (List.getElem_mem hm'))
 | osl k =>
  obtain ⟨hk, rfl⟩ := (show k < V.n ∧ y = V.s k from hg)
  unfold newK at h
  dsimp only at h
  split at h
  ·next rows e sz' hr =>
   split at h
   ·next hb =>
    have hb := Nat.eq_of_beq_eq_true hb
    subst hb
    obtain ⟨-, rs, ho, h2, h3, h4, h5, h6⟩ := hH.each k _ hr
    rcases ho.2 with ⟨h7, h8⟩ | ⟨b, cap, cur, h7, -⟩
    ·exact ⟨rows, none, 0, rs, h, by rw [h7, h8], fun _ => ⟨h8, rfl⟩, h2, h3, h4, h5, fun a e => by cases e⟩
    ·exact ⟨rows, _, _, rs, h, h7, (fun e => by cases e), h2, h3, h4, h5, fun a e j u hu => by
      cases e
      exact ho.cells (g := b) (by rw [h7]; rfl) j u hu⟩
   ·exact h.elim
  ·exact h.elim
 | _ => exact False.elim h
theorem later_app (h : Has I V own w) {k : Nat} {r0 : R} (hk : look k own = some r0) (hos : w'.os = w.os) (htp : w'.tape = w.tape) (hou : w'.output = w.output) (hsz : w.heap.size ≤ w'.heap.size) (hbl : ∀ b, b < w.heap.size → ¬ V.f k b → w'.heap[b]? = w.heap[b]?)
  (s : Value) (f : Nat → Prop) (hf : ∀ b, f b → (V.f k b ∨ w.heap.size ≤ b) ∧ b < w'.heap.size) (hr : RRep I ((V.drop k).push 0 s f) V.n w' r) : Later own I V w ((V.n, r) :: (k, .gone) :: own) I ((V.drop k).push 0 s f) w' := by
 have hkn := h.num k r0 hk
 have hne : ∀ j r', look j own = some r' → j ≠ k → ∀ b, V.f j b → ¬ V.f k b := fun j r' hj hne b hb hb' => hne (h.disj j k r' r0 b hj hk hb hb')
 have hlk : ∀ j r', look j ((V.n, r) :: (k, .gone) :: own) = some r' → (j = V.n ∧ r' = r) ∨ (j ≠ V.n ∧ j = k ∧ r' = .gone) ∨ (j ≠ V.n ∧ j ≠ k ∧ look j own = some r') := fun j r' hj => by
  rw [look_cons] at hj
  split at hj
  ·next e => cases hj; exact .inl ⟨e, rfl⟩
  ·next e =>
   rw [look_cons] at hj
   split at hj
   ·next e' => cases hj; exact .inr (.inl ⟨e, e', rfl⟩)
   ·next e' => exact .inr (.inr ⟨e, e', hj⟩)
 have hV : V.le ((V.drop k).push 0 s f) := ⟨Nat.le_succ _, fun j hj => by simp [Va.push, Va.drop, Nat.ne_of_lt hj]⟩
 have hfn : ((V.drop k).push 0 s f).f V.n = f := by simp [Va.push, Va.drop]
 have hfj : ∀ j, j ≠ V.n → j ≠ k → ((V.drop k).push 0 s f).f j = V.f j := fun j h1 h2 => by simp [Va.push, Va.drop, h1, h2]
 have hfk : ∀ b, ¬ ((V.drop k).push 0 s f).f k b := fun b => by simp [Va.push, Va.drop, Nat.ne_of_lt hkn]
 refine ⟨⟨h.mem.keep fun b o x hx => hbl b (h.mem.lt hx) fun hfb => (by have := (h.foot k r0 b hk hfb).2 o; rw [hx] at this; cases this), fun j r' hj => ?_, fun j r' hj => ?_, fun j r' b hj hb => ?_, fun j j' r1 r2 b hj hj' hb hb' => ?_⟩, ⟨hos, htp, hou, hsz, fun b hb hn => ⟨hbl b hb (hn k r0 hk), fun _ => rfl⟩, fun _ _ _ h => h, fun j r' b hj hb hlt => ?_⟩, hV⟩
 ·rcases hlk j r' hj with ⟨e, -⟩ | ⟨-, e, -⟩ | ⟨-, -, e⟩
  ·rw [e]; exact Nat.lt_succ_self _
  ·rw [e]; exact Nat.lt_succ_of_lt hkn
  ·exact Nat.lt_succ_of_lt (h.num j r' e)
 ·rcases hlk j r' hj with ⟨e, e'⟩ | ⟨-, e, e'⟩ | ⟨e1, e2, e⟩
  ·rw [e, e']; exact hr
  ·rw [e, e']; exact hfk
  ·exact (h.each j r' e).keep (.refl _) hV (h.num j r' e) (hfj j e1 e2) hos hsz fun b hb => hbl b (h.foot j r' b e hb).1 (hne j r' e e2 b hb)
 ·rcases hlk j r' hj with ⟨e, e'⟩ | ⟨-, e, e'⟩ | ⟨e1, e2, e⟩
  ·rw [e, hfn] at hb
   refine ⟨(hf b hb).2, fun o => ?_⟩
   rcases (hf b hb).1 with h1 | h1
   ·exact (h.foot k r0 b hk h1).2 o
   ·cases hI : I b o with
    | none => rfl
    | some x => exact absurd (h.mem.lt hI) (by omega)
  ·rw [e] at hb; exact absurd hb (hfk b)
  ·rw [hfj j e1 e2] at hb
   exact ⟨Nat.lt_of_lt_of_le (h.foot j r' b e hb).1 hsz, (h.foot j r' b e hb).2⟩
 ·have key : ∀ j r', look j own = some r' → j ≠ V.n → j ≠ k → V.f j b → ¬ f b := fun j r' hj e1 e2 hb hfb => by
   rcases (hf b hfb).1 with h1 | h1
   ·exact hne j r' hj e2 b hb h1
   ·have := (h.foot j r' b hj hb).1; omega
  rcases hlk j r1 hj with ⟨e, -⟩ | ⟨-, e, -⟩ | ⟨e1, e2, e⟩
  ·rcases hlk j' r2 hj' with ⟨e', -⟩ | ⟨-, e', -⟩ | ⟨e1', e2', e'⟩
   ·rw [e, e']
   ·rw [e'] at hb'; exact absurd hb' (hfk b)
   ·rw [e, hfn] at hb; rw [hfj j' e1' e2'] at hb'; exact absurd hb (key j' r2 e' e1' e2' hb')
  ·rw [e] at hb; exact absurd hb (hfk b)
  ·rw [hfj j e1 e2] at hb
   rcases hlk j' r2 hj' with ⟨e', -⟩ | ⟨-, e', -⟩ | ⟨e1', e2', e'⟩
   ·rw [e', hfn] at hb'; exact absurd hb' (key j r1 e e1 e2 hb)
   ·rw [e'] at hb'; exact absurd hb' (hfk b)
   ·rw [hfj j' e1' e2'] at hb'; exact h.disj j j' r1 r2 b e e' hb hb'
 ·rcases hlk j r' hj with ⟨e, -⟩ | ⟨-, e, -⟩ | ⟨e1, e2, e⟩
  ·rw [e, hfn] at hb
   rcases (hf b hb).1 with h1 | h1
   ·exact ⟨k, r0, hk, h1⟩
   ·omega
  ·rw [e] at hb; exact absurd hb (hfk b)
  ·rw [hfj j e1 e2] at hb; exact ⟨j, r', e, hb⟩
variable (hT : ∀ t i, look t tb = some i → TIok P t i) (hH : Has I V own w) (hK : Nxt N own0 I0 V0 w0 K next) (hL : Since own0 I0 V0 w0 own I V w) (ha : ARep N I V a t) (hd : ∀ i, o.dst = some i → i < N)
include ha
include hH in
theorem q_lenS {x : Operand} {ty : TypeId} (hty : P.underlying ty = some .string) (ho : o.op = .call { callee := .builtin .len, args := #[x], argTypes := #[ty] }) (h : ev t own x fun g => match g with
  | .v (.string s) => K (put o.dst (.v (.int .i64 s.size)) t) own V.n
  | _ => False) : QOk S P I V own w a t o K := by
 obtain ⟨g, hk, hg⟩ := ev_ok h ha hH
 clear h
 split at hk
 ·next s =>
  have e := trep_v hg
  exact ⟨_, _, hk, (.of_v (.v _)), fun u _ => (by simp [execOp, ho, resolve, invoke, builtin, Builtin.len_, run_underlying hty, e, goInt])⟩
 ·exact hk.elim
include hH in
theorem q_max {x z : Operand} {at' : Array TypeId} (ho : o.op = .call { callee := .builtin .max, args := #[x, z], argTypes := at' }) (h : ev t own x fun g => ev t own z fun q => match g, q with
  | .v (.int .i64 a), .v (.int .i64 b) => K (put o.dst (.v (.int .i64 (max a b))) t) own V.n
  | _, _ => False) : QOk S P I V own w a t o K := by
 obtain ⟨g, hk1, hg⟩ := ev_ok h ha hH
 obtain ⟨q, hk, hq⟩ := ev_ok hk1 ha hH
 clear h hk1
 split at hk
 ·have e := trep_v hg
  have e2 := trep_v hq
  exact ⟨_, _, hk, (.of_v (.v _)), fun u _ => (by simp [execOp, ho, resolve, invoke, builtin, e, e2, Go.Lib.run_max_ints])⟩
 ·exact hk.elim
include hH in
theorem q_min {x z : Operand} {at' : Array TypeId} (ho : o.op = .call { callee := .builtin .min, args := #[x, z], argTypes := at' }) (h : ev t own x fun g => ev t own z fun q => match g, q with
  | .v (.int .i64 a), .v (.int .i64 b) => K (put o.dst (.v (.int .i64 (min a b))) t) own V.n
  | _, _ => False) : QOk S P I V own w a t o K := by
 obtain ⟨g, hk1, hg⟩ := ev_ok h ha hH
 obtain ⟨q, hk, hq⟩ := ev_ok hk1 ha hH
 clear h hk1
 split at hk
 ·have e := trep_v hg
  have e2 := trep_v hq
  exact ⟨_, _, hk, (.of_v (.v _)), fun u _ => (by simp [execOp, ho, resolve, invoke, builtin, e, e2, Go.Lib.run_min_ints])⟩
 ·exact hk.elim
include hH in
theorem q_lenL {x : Operand} {ty e : TypeId} (hty : P.underlying ty = some (.slice e)) (ho : o.op = .call { callee := .builtin .len, args := #[x], argTypes := #[ty] }) (h : ev t own x fun g => rowsK own g fun rows => K (put o.dst (.v (.int .i64 rows.length)) t) own V.n) : QOk S P I V own w a t o K := by
 obtain ⟨g, hk, hg⟩ := ev_ok h ha hH
 obtain ⟨rows, A, c, hk, he⟩ := rows_ok hk hg hH
 exact ⟨_, _, hk, (.of_v (.v _)), fun u _ => (by simp [execOp, ho, resolve, invoke, builtin, Builtin.len_, run_underlying hty, he, goInt])⟩
include hT hK hL hd in
theorem op_append {x z : Operand} {ty e sz : Nat} {ag : Bool} {ze : List G} {fl : List (TypeId × Nat)} {st : Bool} {ik : Option IntKind} {kd : KD} (hl : look ty tb = some ⟨ag, ze, some (e, sz), fl, st, ik, kd⟩) (ho : o.op = .call { callee := .builtin .append, args := #[x, z], argTypes := #[ty, ty] }) (h : ev t own x fun g => ev t own z fun q => newK own q sz fun new => match g with
  | .osl k => match look k own with
   | some (.slc rows e' sz') => match Nat.beq e e', Nat.beq sz sz' with
    | true, true => EvRoom (rows.length + new.length) (K (put o.dst (.osl V.n) t) ((V.n, .slc (rows ++ new) e sz) :: (k, .gone) :: own) (V.n + 1))
    | _, _ => False
   | _ => False
  | .nl => EvRoom new.length (K (put o.dst (.osl V.n) t) ((V.n, .slc new e sz) :: own) (V.n + 1))
  | _ => False) : o.wp P a w next Q := by
 obtain ⟨g, hk1, hg⟩ := ev_ok h ha hL.has
 obtain ⟨q, hk2, hq⟩ := ev_ok hk1 ha hL.has
 obtain ⟨new, A, c, rs, hk, he, hA, k1, k2, k3, k4, k5⟩ := new_ok hk2 hq hL.has
 clear h hk1 hk2
 obtain ⟨hu, ie, zv, h1, h2, h3, h4, h5, h6⟩ := (hT _ _ hl).elem e sz rfl
 have hfl : rs.flatten.length = new.length * sz := by rw [flat_len' k3, k1]
 have hro : ∀ u ∈ rs.flatten, u.oneCell' = true := fun u hu => by
  obtain ⟨v, hv, hu⟩ := List.mem_flatten.1 hu
  exact k4 v hv u hu
 have hap : ∀ (v : Value) (rows : List (List G)) (rs0 : List (List Value)), a.eval x = v → w.ownsRow 0 e sz v rows.length rs0.flatten → rows.length + new.length ≤ 1073741824 → ∃ v' w', (execOp a.eval o).run P w = .ok (.value v') w' ∧ w'.ownsRow 0 e sz v' (rows.length + new.length) (rs0.flatten ++ rs.flatten) ∧ w.grownBy w' v.ownBlock ∧ (v'.ownBlock = v.ownBlock ∨ ∃ g, v'.ownBlock = some g ∧ w.heap.size ≤ g ∧ g < w'.heap.size) := fun v rows rs0 hx ho0 hroom => by
  obtain ⟨v', w', hr, r1, r2, r3⟩ := run_app (P := P) (w := w) ty o.type e ie zv sz ie.bytes hu h1 h2 h3 rfl h4 h5 v rows.length rs0.flatten ho0 A new.length c rs.flatten hfl (fun e => hA e) k5 hro (by unfold maxLen; omega) (by
   have := Nat.mul_le_mul hroom h6
   omega)
  exact ⟨v', w', by simp only [execOp, ho, resolve, invoke, builtin, Sem.run_bind, Sem.run_pure, Result.andThen_ok, List.map_toArray, List.map_cons, List.map_nil, hx, he, hr], r1, r2, r3⟩
 cases g with
 | nl =>
  obtain ⟨hroom, hk⟩ := hk
  have hx : a.eval x = .slice none 0 0 := by generalize a.eval x = X at hg; cases (show VRep I .nl X from hg); rfl
  obtain ⟨v', w', hr, r1, r2, r3⟩ := hap _ [] [] hx (World.ownsRow_nil w 0 e sz) (by simpa using hroom)
  simp only [List.length_nil, Nat.zero_add, List.flatten_nil, List.nil_append] at r1
  have hB : Below w.heap.size w w' := ⟨r2.os, r2.tape, r2.output, r2.size, fun b hb => r2.block b hb (by simp [Value.ownBlock])⟩
  refine fin (g := .osl V.n) hK hL ha hd hr (later_new (r := .slc new e sz) hL.has hB 0 v' (fun b => v'.ownBlock = some b) (fun b hb => ?_) ⟨fun b => by simp [Va.push], rs, by simpa [Va.push] using r1, k1, k2, k3, k4, h5⟩) (TRep.of_c (g := .osl V.n) ⟨Nat.lt_succ_self _, by simp [Va.push]⟩) hk
  rcases r3 with h | ⟨b', h, hb'⟩
  ·rw [h] at hb; simp [Value.ownBlock] at hb
  ·rw [h] at hb; cases hb; exact hb'
 | osl k =>
  obtain ⟨hkn, hx⟩ := (show k < V.n ∧ a.eval x = V.s k from hg)
  dsimp only at hk
  split at hk
  ·next rows e' sz' hr0 =>
   split at hk
   ·next hb1 hb2 =>
    have hb1 := Nat.eq_of_beq_eq_true hb1
    have hb2 := Nat.eq_of_beq_eq_true hb2
    subst hb1 hb2
    obtain ⟨hroom, hk⟩ := hk
    obtain ⟨hff, rs0, ho0, g2, g3, g4, g5, g6⟩ := hL.has.each k _ hr0
    obtain ⟨v', w', hr, r1, r2, r3⟩ := hap _ rows rs0 hx ho0 hroom
    have hfit : ∀ b, v'.ownBlock = some b → b < w'.heap.size := fun b hb => (r1.lt b hb).2
    refine fin (g := .osl V.n) hK hL ha hd hr (later_app (r := .slc (rows ++ new) e sz) hL.has hr0 r2.os r2.tape r2.output r2.size (fun b hb hn => r2.block b hb (fun e => hn ((hff b).2 e.symm))) v' (fun b => v'.ownBlock = some b) (fun b hb => ⟨?_, hfit b hb⟩) ⟨fun b => by simp [Va.push, Va.drop], rs0 ++ rs, ?_, by simp [g2, k1], ?_, ?_, ?_, h5⟩) (TRep.of_c (g := .osl V.n) ⟨Nat.lt_succ_self _, by simp [Va.push, Va.drop]⟩) hk
    ·rcases r3 with h | ⟨b', h, hb'⟩
     ·exact .inl ((hff b).2 (by rw [← h]; exact hb))
     ·rw [h] at hb; cases hb; exact .inr hb'.1
    ·simpa [Va.push, Va.drop] using r1
    ·intro i r u hr' hu'
     rcases Nat.lt_or_ge i rows.length with hlt | hge
     ·rw [List.getElem?_append_left hlt] at hr'
      rw [List.getElem?_append_left (by omega)] at hu'
      exact g3 i r u hr' hu'
     ·rw [List.getElem?_append_right hge] at hr'
      rw [List.getElem?_append_right (by omega), g2] at hu'
      exact k2 _ r u hr' hu'
    ·intro u hu
     rcases List.mem_append.1 hu with hu | hu
     ·exact g4 u hu
     ·exact k3 u hu
    ·intro u hu
     rcases List.mem_append.1 hu with hu | hu
     ·exact g5 u hu
     ·exact k4 u hu
   ·exact hk.elim
  ·exact hk.elim
 | _ => exact hk.elim
end
end Go.Proofs.YtalfffamppmooaaGreatDoor
namespace Go.Proofs.YtalfffamppmooaaGreatDoor
open Go.RowKit
section
variable {P : Program} {tb : List (Nat × TI)} {N n : Nat} {I I' I0 : Imm} {V V' V0 : Va} {a : Act} {t : Ts} {own own' own0 : Os} {w w' w0 : World} {g : G} {x y : Value} {d : Option Tmp}
variable {XL : List Nat} {S : World → Prop} {K : Ts → Os → Nat → Prop} {next : Act → World → Prop} {Q : Exit → Act → World → Prop} {o : Oper} {r : R}
theorem evO_ok {z : Option Operand} {d : Int} {K1 : Int → Prop} (h : evO t own z d K1) (ha : ARep N I V a t) (hH : Has I V own w) : ∃ n, K1 n ∧ (∀ u, z = some u → a.eval u = .int .i64 n) ∧ (z = none → n = d) := by
 cases z with
 | none => exact ⟨d, h, fun u e => (by cases e), fun _ => rfl⟩
 | some u =>
  unfold evO at h
  dsimp only at h
  obtain ⟨q, hk, hq⟩ := ev_ok h ha hH
  clear h
  split at hk
  ·next m => exact ⟨m, hk, fun u e => (by cases e; exact trep_v hq), fun e => (by cases e)⟩
  ·exact hk.elim
theorem run_bounds {sl : Bool} {len cap : Nat} {lo hi : Option Value} {l h : Int} (hl : (∀ u, lo = some u → u = .int .i64 l) ∧ (lo = none → l = 0)) (hh : (∀ u, hi = some u → u = .int .i64 h) ∧ (hi = none → h = len)) (h1 : 0 ≤ l) (h2 : l ≤ h) (h3 : h ≤ len) (h4 : len ≤ cap) (w : World) :
  (Instr.sliceBounds sl len cap lo hi none).run P w = .ok (l.toNat, h.toNat, cap) w := by
 unfold Instr.sliceBounds
 cases hi with
 | none =>
  have e := hh.2 rfl
  subst e
  cases lo with
  | none =>
   have e := hl.2 rfl
   subst e
   simp
  | some u =>
   have e := hl.1 u rfl
   subst e
   have : l ≤ (len : Int) := h2
   simp [Instr.sliceBound, asIntOf, h1, this]
 | some v =>
  have e := hh.1 v rfl
  subst e
  have h5 : 0 ≤ h := by omega
  have h6 : h ≤ (cap : Int) := by omega
  cases lo with
  | none =>
   have e := hl.2 rfl
   subst e
   simp [Instr.sliceBound, asIntOf, h5, h6]
  | some u =>
   have e := hl.1 u rfl
   subst e
   have h7 : (h.toNat : Int) = h := Int.toNat_of_nonneg h5
   simp [Instr.sliceBound, asIntOf, h5, h6, h7, h1, h2]
theorem opt_val {z : Option Operand} {m : Int} {d : Int} (h1 : ∀ u, z = some u → a.eval u = .int .i64 m) (h2 : z = none → m = d) : (∀ u, z.map a.eval = some u → u = .int .i64 m) ∧ (z.map a.eval = none → m = d) := by
 cases z with
 | none => exact ⟨fun u e => (by cases e), fun _ => h2 rfl⟩
 | some v => exact ⟨fun u e => (by cases e; exact h1 v rfl), fun e => by cases e⟩
theorem own_slice (hH : Has I V own w) {k e sz : Nat} {rows : List (List G)} (hk : look k own = some (.slc rows e sz)) : ∃ A c, V.s k = .slice A rows.length c ∧ rows.length ≤ c := by
 obtain ⟨-, rs, ⟨-, h6⟩, -⟩ := hH.each k _ hk
 rcases h6 with ⟨h7, h8⟩ | ⟨b, cap, cur, h7, -, -, h9, -⟩
 ·exact ⟨none, 0, by rw [h7, h8], by omega⟩
 ·exact ⟨_, cap, h7, h9⟩
theorem q_slice (hT : ∀ t i, look t tb = some i → TIok P t i) (hH : Has I V own w) (ha : ARep N I V a t) {ty : TypeId} {z : Operand} {lo hi : Option Operand} (ho : o.op = .slice ty z lo hi none) (hq : (match look ty tb with
      | some ⟨_, _, none, _, false, _, .arr _ _ _⟩ => false
      | _ => true) = true) (h : match look ty tb with
      | some ⟨_, _, none, _, true, _, _⟩ => ev t own z fun g => match g with
       | .v (.string s) => evO t own lo 0 fun l => evO t own hi s.size fun h => EvSl l h s.size (K (put o.dst (.v (.string (s.extract l.toNat h.toNat))) t) own V.n)
       | _ => False
      | some ⟨_, _, some (_, sz), _, _, _, _⟩ => ev t own z fun g => slK own g sz (fun K d => evO t own lo d K) (fun K d => evO t own hi d K) fun g => K (put o.dst g t) own V.n
      | some ⟨_, _, none, _, false, _, .arr m _ 1⟩ => match (generalizing := false) lo, hi with
       | none, none => ev t own z fun g => match g with
        | .ptr k 0 => match look k own with
         | some (.blk cs _) => match Nat.beq cs.length m, allB isV1 cs with
          | true, true => K (put o.dst (.sl (cs.map fun g => [g])) t) ((k, .gone) :: own) V.n
          | _, _ => False
         | _ => False
        | _ => False
       | _, _ => False
      | _ => False) : QOk S P I V own w a t o K := by
 split at h
 ·next hl =>
  have hty := (hT _ _ hl).str rfl
  obtain ⟨g, h, hg⟩ := ev_ok h ha hH
  split at h
  ·next s =>
   have e := trep_v hg
   obtain ⟨l, h, l1, l2⟩ := evO_ok h ha hH
   obtain ⟨q, h, q1, q2⟩ := evO_ok h ha hH
   obtain ⟨⟨r1, r2, r3⟩, h⟩ := h
   refine ⟨_, _, h, .of_v (.v _), fun u _ => ?_⟩
   have hb := run_bounds (P := P) (sl := false) (len := s.size) (cap := s.size) (opt_val l1 l2) (opt_val q1 q2) r1 r2 r3 (Nat.le_refl _) u
   simp only [execOp, ho, Instr.sliceAt, Instr.slice, Sem.run_bind, run_underlying hty, Result.andThen_ok, e, Sem.run_pure, Option.map_none, Option.isSome_none, Bool.false_eq_true, if_false, hb]
  ·exact h.elim
 ·next e sz fl st ik kd hl =>
  obtain ⟨hu, ie, zv, h1, h2, h3, h4, h5, h6⟩ := (hT _ _ hl).elem _ _ rfl
  have hsz : ∀ w, (sizeOf e).run P w = .ok sz w := run_sizeOf (by rw [h1]; simp [h3])
  obtain ⟨g, h, hg⟩ := ev_ok h ha hH
  have run : ∀ {A : Option Addr} {len c : Nat} {l q : Int}, a.eval z = .slice A len c → len ≤ c → (∀ u, lo = some u → a.eval u = .int .i64 l) → (lo = none → l = 0) → (∀ u, hi = some u → a.eval u = .int .i64 q) → (hi = none → q = len) → 0 ≤ l → l ≤ q → q ≤ len → ∀ u, (execOp a.eval o).run P u = .ok (.value (subV sz (.slice A len c) l.toNat q.toNat)) u := fun he hc l1 l2 q1 q2 r1 r2 r3 u => by
   have hb := run_bounds (P := P) (sl := true) (opt_val l1 l2) (opt_val q1 q2) r1 r2 r3 hc u
   simp only [execOp, ho, Instr.sliceAt, Instr.slice, Sem.run_bind, run_underlying hu, Result.andThen_ok, he, Sem.run_pure, Option.map_none, hb, hsz, subV]
  cases g with
  | sl rows =>
   unfold slK at h
   dsimp only at h
   obtain ⟨l, h, l1, l2⟩ := evO_ok h ha hH
   obtain ⟨q, h, q1, q2⟩ := evO_ok h ha hH
   obtain ⟨⟨r1, r2, r3⟩, hr, h⟩ := h
   have hv := (show VRep I (.sl rows) (a.eval z) from hg)
   obtain ⟨A, c, he, hc⟩ : ∃ A c, a.eval z = .slice A rows.length c ∧ rows.length ≤ c := by
    generalize a.eval z = X at hv
    cases hv with
    | sl _ A c sz u hc => exact ⟨A, c, rfl, hc⟩
   rw [he] at hv
   exact ⟨_, _, h, .of_v (sub_ok hv hr (by omega) (by omega)), fun u _ => run he hc l1 l2 q1 q2 r1 r2 r3 u⟩
  | osl k =>
   unfold slK at h
   dsimp only at h
   split at h
   ·next rows e' sz' hk =>
    split at h
    ·next hb =>
     have hb := Nat.eq_of_beq_eq_true hb
     subst hb
     obtain ⟨l, h, l1, l2⟩ := evO_ok h ha hH
     obtain ⟨q, h, q1, q2⟩ := evO_ok h ha hH
     obtain ⟨⟨r1, r2, r3⟩, h⟩ := h
     obtain ⟨hkn, he⟩ := (show k < V.n ∧ a.eval z = V.s k from hg)
     obtain ⟨A, c, hv, hc⟩ := own_slice hH hk
     exact ⟨_, _, h, .of_c (g := .osv k sz l.toNat q.toNat) ⟨hkn, ⟨by omega, by rw [hv]; show q.toNat ≤ rows.length; omega⟩, rfl⟩, fun u _ => by rw [hv]; exact run (he.trans hv) hc l1 l2 q1 q2 r1 r2 r3 u⟩
    ·exact h.elim
   ·exact h.elim
  | _ => exact False.elim h
 ·next hl => rw [hl] at hq; cases hq
 ·exact h.elim
theorem isV1_val : ∀ {cs : List G} {us : List Value}, allB isV1 cs = true → PW (CRep I V) cs us → cs = us.map .v ∧ ∀ u ∈ us, u.oneCell' = true
 | [], us, _, h => by rw [h.of_nil]; exact ⟨rfl, fun u hu => by cases hu⟩
 | g :: cs, us, hv, h => by
  obtain ⟨x, us', rfl, hx, hp⟩ := h.uncons
  have h1 := allB_mem hv g (by simp)
  have h2 : allB isV1 cs = true := by unfold allB at hv; rw [h1] at hv; exact hv
  obtain ⟨i1, i2⟩ := isV1_val h2 hp
  cases g with
  | v z =>
   cases (show VRep I (.v z) x from hx)
   exact ⟨by rw [i1]; rfl, fun u hu => (List.mem_cons.1 hu).elim (fun e => by rw [e]; exact h1) (i2 u)⟩
  | _ => cases h1
theorem op_arrsl (hT : ∀ t i, look t tb = some i → TIok P t i) (hH : Has I V own w) (ha : ARep N I V a t) (hd : ∀ i, o.dst = some i → i < N) (hK : NxtB N own I V w K next) {ty m e : TypeId} {z : Operand} {lo hi : Option Operand} {ag : Bool} {ze : List G} {fl : List (TypeId × Nat)} {ik : Option IntKind} (hl : look ty tb = some ⟨ag, ze, none, fl, false, ik, .arr m e 1⟩) (ho : o.op = .slice ty z lo hi none)
  (h : match (generalizing := false) lo, hi with
    | none, none => ev t own z fun g => match g with
     | .ptr k 0 => match look k own with
      | some (.blk cs _) => match Nat.beq cs.length m, allB isV1 cs with
       | true, true => K (put o.dst (.sl (cs.map fun g => [g])) t) ((k, .gone) :: own) V.n
       | _, _ => False
      | _ => False
     | _ => False
    | _, _ => False) : o.wp P a w next Q := by
 obtain ⟨hu, hsz⟩ := (hT _ _ hl).kd
 have hsz : ∀ w, (sizeOf e).run P w = .ok 1 w := run_sizeOf hsz
 cases lo with
 | some _ => exact h.elim
 | none =>
 cases hi with
 | some _ => exact h.elim
 | none =>
  obtain ⟨g, hh, hg⟩ := ev_ok h ha hH
  clear h
  have h := hh
  clear hh
  split at h
  ·next k =>
   obtain ⟨hkn, he⟩ := trep_ptr hg
   split at h
   ·next cs ty' hr =>
    split at h
    ·next hb hv =>
     have hb := Nat.eq_of_beq_eq_true hb
     obtain ⟨us, h1, h2, h3⟩ := blk_at hH hr
     obtain ⟨e1, h4⟩ := isV1_val hv h2
     have hlen : us.length = m := by rw [← hb, e1]; simp
     have hf := (hH.each k _ hr).1
     have hno := (hH.foot k _ (V.b k) hr ((hf _).2 rfl)).2
     let I' : Imm := fun b o => if b = V.b k then us[o]? else I b o
     have hle : I.le I' := fun b o x hx => by
      show (if b = V.b k then _ else I b o) = _
      rw [if_neg (fun e => by rw [e, hno o] at hx; cases hx)]
      exact hx
     have hmem : Mem I' w := fun b o x hx => by
      change (if b = V.b k then _ else I b o) = _ at hx
      split at hx
      ·next e => rw [e, h3]; exact hx
      ·exact hH.mem b o x hx
     have hla : Later own I V w ((k, .gone) :: own) I' (V.drop k) w := later_drop hH hr hle hmem (fun b o hb => by
      show (if b = V.b k then _ else I b o) = _
      rw [if_neg (fun e => hb ((hf b).2 e))]) (fun b => by simp [Va.drop])
     have hvr : VRep I' (.sl (cs.map fun g => [g])) (.slice (some ⟨V.b k, 0, none⟩) m m) := by
      have hl2 : (cs.map fun g => [g]).length = m := by simp [hb]
      rw [← hl2]
      refine .sl _ (some ⟨V.b k, 0, none⟩) _ 1 (fun i _ => us.getD i undef) (Nat.le_refl _) (fun e => by cases e) (fun r hr => ?_) (fun i r hr => ⟨V.b k, 0, rfl, fun j hj => ?_⟩) fun i r j g hr hg => ?_
      ·obtain ⟨g, -, rfl⟩ := List.mem_map.1 hr
       rfl
      ·have hi : i < us.length := by have := (List.getElem?_eq_some_iff.1 hr).1; omega
       have e0 : 0 + i * 1 + j = i := by omega
       rw [e0]
       show (if V.b k = V.b k then us[i]? else _) = _
       rw [if_pos rfl]
       simp [hi]
      ·rw [List.getElem?_map] at hr
       obtain ⟨g0, h5, rfl⟩ := Option.map_eq_some_iff.1 hr
       rw [e1, List.getElem?_map] at h5
       obtain ⟨u, h6, rfl⟩ := Option.map_eq_some_iff.1 h5
       cases j with
       | zero =>
        simp at hg
        subst hg
        simp only [List.getD, h6, Option.getD_some]
        exact .v u
       | succ j => simp at hg
     refine finB (y := .slice (some ⟨V.b k, 0, none⟩) m m) hK ha hd ?_ hla (Below.refl _ _) (.drop _ _) (.of_v hvr) h
     have hb2 := run_bounds (P := P) (sl := false) (len := m) (cap := m) (lo := none) (hi := none) (l := 0) (h := m) ⟨fun u e => by (cases e), fun _ => rfl⟩ ⟨fun u e => (by cases e), fun _ => rfl⟩ (by omega) (by omega) (by omega) (Nat.le_refl _) w
     simp only [execOp, ho, Instr.sliceAt, Instr.sureAddr, Sem.run_bind, run_underlying hu, Result.andThen_ok, he, Sem.run_pure, Option.map_none, hb2, hsz]
     simp [add_off]
    ·exact h.elim
   ·exact h.elim
  ·exact h.elim
theorem TIok.u8 (hT : ∀ t i, look t tb = some i → TIok P t i) {e : TypeId} (h : isU8 tb e = true) : P.underlying e = some (.int .u8) := by
 unfold isU8 at h
 split at h
 ·next hl => exact (hT _ _ hl).ik _ rfl
 ·cases h
theorem bytes_ok {bs : List UInt8} {rows : List (List G)} {A : Option Addr} {c : Nat} (he : rows = bs.map gBy) (hr : ∃ rs : List (List Value), rs.length = rows.length ∧ (∀ (i : Nat) r u, rows[i]? = some r → rs[i]? = some u → PW (VRep I) r u) ∧ (∀ u ∈ rs, u.length = 1) ∧ ∀ a, A = some a → ∀ (m : Nat) x, rs.flatten[m]? = some x → w.cell? (a.add m) = some x) (hA : A = none → rows = []) {src dst e : TypeId} (hs : P.underlying src = some (.slice e)) (hu : P.underlying e = some (.int .u8)) (hd : P.underlying dst = some .string) :
  (convert src dst (.slice A rows.length c)).run P w = .ok (.string ⟨bs.toArray⟩) w := by
 subst he
 cases A with
 | none =>
  have h0 : bs = [] := by simpa using hA rfl
  subst h0
  rw [run_convert_bytes_string w src dst e none _ c hs hu hd]
  simp [Conv.bytesToString]; rfl
 | some ad =>
  obtain ⟨rs, h1, h2, h3, h4⟩ := hr
  have := run_convert_bytes_back (P := P) w src dst e ad c bs hs hu hd fun j hj => by
   have hj1 : j < (bs.map gBy).length := by simpa using hj
   have hj2 : j < rs.length := by omega
   have hp := h2 j _ _ (List.getElem?_eq_getElem hj1) (List.getElem?_eq_getElem hj2)
   have hl := h3 rs[j] (List.getElem_mem hj2)
   have hg := flat_get' h3 (List.getElem?_eq_getElem hj2) (List.getElem?_eq_getElem (by omega : 0 < rs[j].length))
   have hc := h4 ad rfl _ _ hg
   rw [Nat.mul_one, Nat.add_zero] at hc
   rw [hc]
   have hv := hp.2 0 (.v (.int .u8 (bs[j].toNat : Int))) rs[j][0] (by simp [gBy]) (List.getElem?_eq_getElem _)
   generalize rs[j][0] = z at hv
   cases hv
   rfl
  rw [List.length_map]
  exact this
theorem Has.below (h : Has I V own w) (hb : Below w.heap.size w w') : Has I V own w' :=
 (later_call h (h.mem.keep fun b _ _ hx => hb.block b (h.mem.lt hx)) (.refl _) (fun _ _ _ => rfl) hb).has
theorem q_conv (hT : ∀ t i, look t tb = some i → TIok P t i) (hS : ∀ u, S u → Agree V XL w u) (hH : Has I V own w) (ha : ARep N I V a t) {src dst : TypeId} {z : Operand} (ho : o.op = .convert src dst z) {p q : TI} (hp : look src tb = some p) (hq : look dst tb = some q) (h : ev t own z fun g => cvK own g p q (cvU tb p XL) fun g => K (put o.dst g t) own V.n) : QOk S P I V own w a t o K := by
 obtain ⟨g, h, hg⟩ := ev_ok h ha hH
 have hrun : ∀ {v u}, (convert src dst (a.eval z)).run P u = .ok v u → (execOp a.eval o).run P u = .ok (.value v) u := fun hr => by
  simp only [execOp, ho, Sem.run_bind, hr, Result.andThen_ok, Sem.run_pure]
 have hp' := hT _ _ hp
 have hq' := hT _ _ hq
 obtain ⟨pag, pz, pe, pf, ps, pk, pd⟩ := p
 obtain ⟨qag, qz, qe, qf, qs, qk, qd⟩ := q
 unfold cvK cvU at h
 dsimp only at h
 cases pe with
 | some es =>
  obtain ⟨e, sz⟩ := es
  cases qs with
  | false => exact False.elim h
  | true =>
   cases XL with
   | cons k XL => exact False.elim h
   | nil =>
   dsimp only at h
   cases hu : isU8 tb e with
   | false => rw [hu] at h; exact h.elim
   | true =>
    rw [hu] at h
    dsimp only at h
    have hu8 := TIok.u8 hT hu
    have hst := hq'.str rfl
    have hel := (hp'.elem e sz rfl).1
    have main : ∀ {rows : List (List G)} {K1 : List UInt8 → Prop}, EvBytes rows K1 → newK own g 1 (fun r => r = rows) → ∃ bs, K1 bs ∧ ∀ u, S u → (convert src dst (a.eval z)).run P u = .ok (.string ⟨bs.toArray⟩) u := fun {rows K1} ⟨bs, e1, hk⟩ hn => by
     refine ⟨bs, hk, fun u hb => ?_⟩
     obtain ⟨new, A, c, rs, e2, e3, k1, k2, k3, k4, -, k5⟩ := new_ok hn (hg : TRep I V g (a.eval z)) hH
     subst e2
     rw [e3]
     refine bytes_ok e1 ⟨rs, k2, k3, k4, fun a ha m x hx => ?_⟩ (fun e => List.eq_nil_of_length_eq_zero (k1 e).1) hel hu8 hst
     have hc := k5 a ha m x hx
     have hlt := World.block_lt_of_cell? w _ hc
     rw [World.cell?_of_block (w := w) (w' := u) (hS u hb _ hlt (fun k hk => by simp at hk))]
     exact hc
    have rws : ∀ {rows : List (List G)} {K1 : List UInt8 → Prop}, EvBytes rows K1 → ∀ r ∈ rows, r.length = 1 ∧ r.all G.one = true := fun ⟨bs, e1, _⟩ r hr => by
     subst e1
     obtain ⟨b, -, rfl⟩ := List.mem_map.1 hr
     exact ⟨rfl, rfl⟩
    cases g with
    | nl =>
     obtain ⟨bs, hk, hr⟩ := main h rfl
     exact ⟨_, _, hk, .of_v (.v _), fun u hb => hrun (hr u hb)⟩
    | sl rows =>
     obtain ⟨bs, hk, hr⟩ := main h ⟨rws h, rfl⟩
     exact ⟨_, _, hk, .of_v (.v _), fun u hb => hrun (hr u hb)⟩
    | osl k =>
     unfold byK at h
     dsimp only at h
     split at h
     ·next rows e' hk' =>
      obtain ⟨bs, hk, hr⟩ := main h (by unfold newK; dsimp only; rw [hk'])
      exact ⟨_, _, hk, .of_v (.v _), fun u hb => hrun (hr u hb)⟩
     ·exact h.elim
    | _ => exact False.elim h
 | none =>
  cases ps with
  | true =>
   cases qs with
   | false => exact False.elim h
   | true =>
    dsimp only at h
    split at h
    ·next s =>
     have e := trep_v hg
     exact ⟨_, _, h, .of_v (.v _), fun u _ => hrun (by rw [e]; simp [convert, run_underlying (hp'.str rfl), run_underlying (hq'.str rfl)])⟩
    ·exact h.elim
  | false =>
   cases pk with
   | none => exact False.elim h
   | some k1 =>
    cases qs with
    | true => exact False.elim h
    | false =>
     cases qk with
     | none => exact False.elim h
     | some k2 =>
      dsimp only at h
      split at h
      ·next k n =>
       have e := trep_v hg
       have hc : ∀ u, (convert src dst (.int k n)).run P u = .ok (.int k2 (k2.wrap n)) u := fun u => by
        simp [convert, run_underlying (hp'.ik k1 rfl), run_underlying (hq'.ik k2 rfl), Conv.intToInt]
       cases k2 with
       | i64 =>
        obtain ⟨hr, hk⟩ := h
        exact ⟨_, _, hk, .of_v (.v _), fun u _ => hrun (by rw [e, hc, IntWalk.i64_in _ hr])⟩
       | u8 => exact ⟨_, _, h, .of_v (.v _), fun u _ => hrun (by rw [e, hc, IntKind.wrap_u8])⟩
       | u64 => exact ⟨_, _, h, .of_v (.v _), fun u _ => hrun (by rw [e, hc])⟩
       | _ => exact False.elim h
      ·exact h.elim
theorem op_bytes (hH : Has I V own w) (ha : ARep N I V a t) (hd : ∀ i, o.dst = some i → i < N) (hK : NxtB N own I V w K next) {src dst e : TypeId} {z : Operand} (ho : o.op = .convert src dst z) (hs : P.underlying src = some .string) (hde : P.underlying dst = some (.slice e)) (hu : P.underlying e = some (.int .u8)) (h : ev t own z fun g => match g with
  | .v (.string s) => K (put o.dst (.sl (s.data.toList.map gBy)) t) own V.n
  | _ => False) : o.wp P a w next Q := by
 obtain ⟨g, h, hg⟩ := ev_ok h ha hH
 split at h
 ·next s =>
  have ez := trep_v hg
  have hr := run_bytes_of_string (P := P) w src dst e s hs hde hu
  obtain ⟨w', hw'⟩ : ∃ w', w' = (w.drew.alloc (.cells (bytesRow s (grownCap w s.size 0 e)) e ((bytesRow s (grownCap w s.size 0 e)).size, (bytesRow s (grownCap w s.size 0 e)).size + 1))) := ⟨_, rfl⟩
  rw [← hw'] at hr
  have hb : Below w.heap.size w w' := by rw [hw']; exact ((Below.refl _ _).drew).alloc (Nat.le_refl _) _
  have hh : w'.heap[w.heap.size]? = some (.cells (bytesRow s (grownCap w s.size 0 e)) e ((bytesRow s (grownCap w s.size 0 e)).size, (bytesRow s (grownCap w s.size 0 e)).size + 1)) := by rw [hw']; exact heap_alloc_new w.drew _
  let I' : Imm := fun b o => if b = w.heap.size then (bytesRow s (grownCap w s.size 0 e))[o]? else I b o
  have hle : I.le I' := fun b o x hx => by
   show (if b = w.heap.size then _ else I b o) = _
   rw [if_neg (fun e' => by have := hH.mem.lt hx; omega)]
   exact hx
  have hm : Mem I' w' := fun b o x hx => by
   change (if b = w.heap.size then _ else I b o) = _ at hx
   split at hx
   ·next e' => subst e'; rw [cell_of_row w' _ o _ e _ hh]; exact hx
   ·exact (hH.mem.keep (w' := w') fun b o x hx => hb.block b (hH.mem.lt hx)) b o x hx
  have hl := later_call hH hm hle (fun b o hlt => if_neg (Nat.ne_of_lt hlt)) hb
  have hcap : s.size ≤ grownCap w s.size 0 e := grownCap_ge w s.size 0 e
  refine finB (g := .sl (s.data.toList.map gBy)) (y := .slice (some ⟨w.heap.size, 0, none⟩) s.size (grownCap w s.size 0 e)) hK ha hd (by simp only [execOp, ho, Sem.run_bind, ez, hr, Result.andThen_ok, Sem.run_pure]) hl hb (.refl _) (.of_v ?_) h
  have hrow : ∀ (i : Nat) (b : UInt8), s.data.toList[i]? = some b → (bytesRow s (grownCap w s.size 0 e))[i]? = some (Value.int .u8 (b.toNat : Int)) := fun i b hi => by
   have hlt := (List.getElem?_eq_some_iff.1 hi).1
   unfold bytesRow
   rw [Array.getElem?_append_left (by simpa using hlt)]
   have h2 : s.data[i]? = some b := by simpa using hi
   simp [h2]
  have hmap : ∀ (i : Nat) r, (s.data.toList.map gBy)[i]? = some r → ∃ b, s.data.toList[i]? = some b ∧ r = gBy b := fun i r hr => by
   rw [List.getElem?_map] at hr
   obtain ⟨b, h1, h2⟩ := Option.map_eq_some_iff.1 hr
   exact ⟨b, h1, h2.symm⟩
  have key := VRep.sl (I := I') (s.data.toList.map gBy) (some ⟨w.heap.size, 0, none⟩) (grownCap w s.size 0 e) 1 (fun i _ => ((bytesRow s (grownCap w s.size 0 e))[i]?).getD undef) (by simpa using hcap) (fun e => by cases e) (fun r hr => by obtain ⟨b, -, rfl⟩ := List.mem_map.1 hr; rfl) (fun i r hr => ⟨_, _, rfl, fun j hj => ?_⟩) (fun i r j g hr hg => ?_)
  ·simpa using key
  ·obtain ⟨b, h1, -⟩ := hmap i r hr
   obtain rfl : j = 0 := by omega
   show (if w.heap.size = w.heap.size then _ else _) = _
   rw [if_pos rfl, Nat.zero_add, Nat.mul_one, Nat.add_zero, hrow i b h1]
   rfl
  ·obtain ⟨b, h1, rfl⟩ := hmap i r hr
   cases j with
   | succ j => simp [gBy] at hg
   | zero =>
    simp [gBy] at hg
    subst hg
    rw [hrow i b h1]
    exact .v _
 ·exact h.elim
theorem flat_take1 : ∀ {rs : List (List Value)} (_ : ∀ u ∈ rs, u.length = 1) (k : Nat), (rs.take k).flatten = rs.flatten.take k ∧ (rs.drop k).flatten = rs.flatten.drop k
 | [], _, k => by simp
 | u :: rs, h, 0 => by simp
 | u :: rs, h, k + 1 => by
  have hu := h u (by simp)
  obtain ⟨x, rfl⟩ : ∃ x, u = [x] := List.length_eq_one_iff.1 hu
  have ih := flat_take1 (rs := rs) (fun u hu => h u (by simp [hu])) k
  simp [ih.1, ih.2]
theorem copy_onto (hH : Has I V own w) {k e lo d : Nat} {rows new : List (List G)} (hk : look k own = some (.slc rows e 1)) (hlo : lo + d ≤ rows.length) {A : Option Addr} {c : Nat} {rs : List (List Value)} (hA : A = none → new.length = 0 ∧ c = 0) (k1 : rs.length = new.length) (k2 : ∀ (i : Nat) r u, new[i]? = some r → rs[i]? = some u → PW (VRep I) r u) (k3 : ∀ u ∈ rs, u.length = 1) (k4 : ∀ u ∈ rs, ∀ x ∈ u, x.oneCell' = true) (k5 : ∀ a, A = some a → ∀ (j : Nat) u, rs.flatten[j]? = some u → w.cell? (a.add j) = some u)
  {dT sT el : TypeId} (hu : P.underlying dT = some (.slice el)) (hs : (P.info? el).map (·.size) = some 1) (ty : TypeId) :
  ∃ w', (Builtin.copy_ #[dT, sT] ty #[subV 1 (V.s k) lo (lo + d), .slice A new.length c]).run P w = .ok (.int .i64 (min new.length d : Nat)) w' ∧ Later own I V w ((k, .slc (rows.take lo ++ new.take (min new.length d) ++ rows.drop (lo + min new.length d)) e 1) :: own) I V w' := by
 obtain ⟨hf, rs0, ho, g2, g3, g4, g5, g6⟩ := hH.each k _ hk
 obtain ⟨m, hm⟩ : ∃ m, m = min new.length d := ⟨_, rfl⟩
 have hmd : m ≤ d := by rw [hm]; exact Nat.min_le_right _ _
 have hmn : m ≤ new.length := by rw [hm]; exact Nat.min_le_left _ _
 rw [← hm]
 obtain ⟨A0, c0, hv, hc0⟩ := own_slice hH hk
 by_cases h0 : m = 0
 ·subst h0
  refine ⟨w, ?_, later_upd hH hk rfl rfl rfl rfl (fun _ _ => rfl) ?_⟩
  ·rw [hv]
   unfold subV
   dsimp only
   have := run_copy_none (P := P) w dT sT ty el (if c0 = lo then A0 else A0.map (·.add (lo * 1))) A (lo + d - lo) (c0 - lo) new.length c hu hs (by rw [Nat.add_sub_cancel_left]; exact hm.symm)
   exact this
  ·simpa using hH.each k _ hk
 ·rcases ho.2 with ⟨h7, h8⟩ | ⟨b, cap, cur, h7, -, hg, hnc, hcm, hcs, ht⟩
  ·omega
  ·rw [h7] at hv
   injection hv with e1 e2 e3
   subst e1 e3
   cases A with
   | none => have := hA rfl; omega
   | some ad =>
    have hne : ¬ cap = lo := by omega
    obtain ⟨cs, hcsd⟩ : ∃ cs, cs = (rs.take m).flatten := ⟨_, rfl⟩
    have k3' : ∀ u ∈ rs.take m, u.length = 1 := fun u hu => k3 u (List.mem_of_mem_take hu)
    have hl : cs.length = m := by rw [hcsd, flat_len' k3']; simp; omega
    have hsub : ∀ j x, cs[j]? = some x → rs.flatten[j]? = some x := fun j x hx => by
     rw [hcsd] at hx
     obtain ⟨i, q, u, rfl, hq, hu', hx'⟩ := flat_at k3' hx
     exact flat_get' k3 (by rw [List.getElem?_take] at hu'; split at hu'; exact hu'; cases hu') hx'
    have h1 : ∀ v ∈ cs, v.oneCell' = true := fun v hv => by
     rw [hcsd] at hv
     obtain ⟨u, hu', hv⟩ := List.mem_flatten.1 hv
     exact k4 u (List.mem_of_mem_take hu') v hv
    have hrun := run_copy_row (P := P) w dT sT ty el b (0 + lo * 1) (lo + d - lo) (cap - lo) ad new.length c cur e cs hu hs hg (by rw [hl, hm, Nat.add_sub_cancel_left]) (fun j v hv => k5 ad rfl j v (hsub j v hv)) (by rw [hl]; omega) h1
    rw [hl] at hrun
    have hrl : ∀ u ∈ rs0, u.length = 1 := g4
    refine ⟨w.setRow b (cur.toList.take (0 + lo * 1) ++ cs ++ cur.toList.drop (0 + lo * 1 + m)).toArray, ?_, later_upd (w' := w.setRow b _) hH hk rfl rfl rfl (by simp [World.setRow]) (fun b' hb' => setRow_other w _ b' _ (fun e => hb' ((hf b').2 (by rw [h7, e]; rfl)))) ⟨hf, rs0.take lo ++ rs.take m ++ rs0.drop (lo + m), ⟨?_, .inr ⟨b, cap, _, (by rw [h7]; congr 1; simp; first | done | omega), Nat.zero_le _, setRow_heap w b cur _ e _ hg, by simp; omega, hcm, by simp; omega, ?_⟩⟩, by simp; omega, fun i r u hr hu' => ?_, fun u hu' => ?_, fun u hu' => ?_, g6⟩⟩
    ·rw [h7]
     unfold subV
     dsimp only
     rw [if_neg hne]
     simp only [Option.map_some, add_off]
     exact hrun
    ·have : ∀ u ∈ rs0.take lo ++ rs.take m ++ rs0.drop (lo + m), u.length = 1 := fun u hu' => by
      rcases List.mem_append.1 hu' with h | h
      ·rcases List.mem_append.1 h with h | h
       ·exact g4 u (List.mem_of_mem_take h)
       ·exact k3 u (List.mem_of_mem_take h)
      ·exact g4 u (List.mem_of_mem_drop h)
     rw [flat_len' this]
     simp
     omega
    ·have ht' : cur.toList.take (rows.length * 1) = rs0.flatten := ht
     have hcl : cur.toList.length = cap * 1 := by simpa using hcs
     rw [List.flatten_append, List.flatten_append, (flat_take1 g4 lo).1, (flat_take1 g4 (lo + m)).2, ← hcsd, ← ht']
     have hn : (rows.take lo ++ new.take m ++ rows.drop (lo + m)).length = rows.length := by simp; omega
     rw [hn, show 0 + lo * 1 = lo by omega]
     simp only [List.take_append, List.take_take, List.drop_take, List.length_take, List.length_append, hl]
     rw [Nat.min_eq_right (by omega : lo ≤ rows.length * 1), Nat.min_eq_left (by omega : lo ≤ rows.length * 1), Nat.min_eq_left (by omega : lo ≤ cur.toList.length), List.take_of_length_le (by omega : cs.length ≤ rows.length * 1 - lo)]
    ·have e1 : (rows.take lo).length = lo := by simp; omega
     have e2 : (rs0.take lo).length = lo := by simp; omega
     have e3 : (new.take m).length = m := by simp; omega
     have e4 : (rs.take m).length = m := by simp; omega
     rcases Nat.lt_or_ge i (lo + m) with hlt | hge
     ·rw [List.getElem?_append_left (by simp; omega)] at hr hu'
      rcases Nat.lt_or_ge i lo with hlt2 | hge2
      ·rw [List.getElem?_append_left (by omega), List.getElem?_take, if_pos hlt2] at hr hu'
       exact g3 i r u hr hu'
      ·rw [List.getElem?_append_right (by omega), e1, List.getElem?_take, if_pos (by omega)] at hr
       rw [List.getElem?_append_right (by omega), e2, List.getElem?_take, if_pos (by omega)] at hu'
       exact k2 _ r u hr hu'
     ·rw [List.getElem?_append_right (by simp; omega)] at hr hu'
      have e5 : (rows.take lo ++ new.take m).length = lo + m := by simp; omega
      have e6 : (rs0.take lo ++ rs.take m).length = lo + m := by simp; omega
      rw [e5, List.getElem?_drop] at hr
      rw [e6, List.getElem?_drop] at hu'
      exact g3 _ r u hr hu'
    ·rcases List.mem_append.1 hu' with h | h
     ·rcases List.mem_append.1 h with h | h
      ·exact g4 u (List.mem_of_mem_take h)
      ·exact k3 u (List.mem_of_mem_take h)
     ·exact g4 u (List.mem_of_mem_drop h)
    ·rcases List.mem_append.1 hu' with h | h
     ·rcases List.mem_append.1 h with h | h
      ·exact g5 u (List.mem_of_mem_take h)
      ·exact k4 u (List.mem_of_mem_take h)
     ·exact g5 u (List.mem_of_mem_drop h)
theorem op_copy (hT : ∀ t i, look t tb = some i → TIok P t i) (hK : Nxt N own0 I0 V0 w0 K next) (hL : Since own0 I0 V0 w0 own I V w) (ha : ARep N I V a t) (hd : ∀ i, o.dst = some i → i < N) {x z : Operand} {ty ty' : TypeId} {ag : Bool} {ze : List G} {e : Nat} {fl : List (TypeId × Nat)} {st : Bool} {ik : Option IntKind} {kd : KD} (hl : look ty tb = some ⟨ag, ze, some (e, 1), fl, st, ik, kd⟩) (ho : o.op = .call { callee := .builtin .copy, args := #[x, z], argTypes := #[ty, ty'] }) (h : ev t own x fun g => ev t own z fun q => newK own q 1 fun new => match g with
          | .osl k => match look k own with
           | some (.slc rows e 1) => K (put o.dst (.v (.int .i64 (min new.length rows.length : Nat))) t) ((k, .slc (new.take (min new.length rows.length) ++ rows.drop (min new.length rows.length)) e 1) :: own) V.n
           | _ => False
          | .osv k 1 lo hi => match look k own with
           | some (.slc rows e 1) => K (put o.dst (.v (.int .i64 (min new.length (hi - lo) : Nat))) t) ((k, .slc (rows.take lo ++ new.take (min new.length (hi - lo)) ++ rows.drop (lo + min new.length (hi - lo))) e 1) :: own) V.n
           | _ => False
          | _ => False) : o.wp P a w next Q := by
 obtain ⟨g, hk1, hg⟩ := ev_ok h ha hL.has
 obtain ⟨q, hk2, hq⟩ := ev_ok hk1 ha hL.has
 obtain ⟨new, A, c, rs, hk, he, hA, k1, k2, k3, k4, k5⟩ := new_ok hk2 hq hL.has
 clear h hk1 hk2
 obtain ⟨hu, ie, zv, h1, h2, h3, h4, h5, h6⟩ := (hT _ _ hl).elem e 1 rfl
 have hs : (P.info? e).map (·.size) = some 1 := by rw [h1]; simp [h3]
 have hrun : ∀ {v w'}, (Builtin.copy_ #[ty, ty'] o.type #[a.eval x, .slice A new.length c]).run P w = .ok v w' → (execOp a.eval o).run P w = .ok (.value v) w' := fun hr => by
  simp only [execOp, ho, resolve, invoke, builtin, Sem.run_bind, Sem.run_pure, Result.andThen_ok, List.map_toArray, List.map_cons, List.map_nil, he, hr]
 cases g with
 | osl k =>
  obtain ⟨hkn, hx⟩ := (show k < V.n ∧ a.eval x = V.s k from hg)
  dsimp only at hk
  split at hk
  ·next rows e' hr0 =>
   obtain ⟨w', c1, c2⟩ := copy_onto (P := P) (lo := 0) (d := rows.length) hL.has hr0 (by omega) hA k1 k2 k3 k4 k5 hu hs (sT := ty') o.type
   obtain ⟨A0, c0, hv, hc0⟩ := own_slice hL.has hr0
   have e0 : subV 1 (V.s k) 0 (0 + rows.length) = V.s k := by
    rw [hv]
    unfold subV
    dsimp only
    cases A0 <;> simp [Addr.add]
   rw [e0] at c1
   refine fin hK hL ha hd (hrun (by rw [hx]; exact c1)) c2 (.of_v (.v _)) ?_
   simpa using hk
  ·exact hk.elim
 | osv k sz lo hi =>
  obtain ⟨hkn, ⟨b1, b2⟩, hx⟩ := (show k < V.n ∧ (lo ≤ hi ∧ hi ≤ lenV (V.s k)) ∧ a.eval x = subV sz (V.s k) lo hi from hg)
  cases hsz : Nat.beq sz 1 with
  | false =>
   exfalso
   cases sz with
   | zero => exact hk.elim
   | succ n => cases n with
    | zero => cases hsz
    | succ n => exact hk.elim
  | true =>
   have hsz := Nat.eq_of_beq_eq_true hsz
   subst hsz
   have hk : match look k own with
    | some (.slc rows e 1) => K (put o.dst (.v (.int .i64 (min new.length (hi - lo) : Nat))) t) ((k, .slc (rows.take lo ++ new.take (min new.length (hi - lo)) ++ rows.drop (lo + min new.length (hi - lo))) e 1) :: own) V.n
    | _ => False := hk
   split at hk
   ·next rows e' hr0 =>
    obtain ⟨A0, c0, hv, hc0⟩ := own_slice hL.has hr0
    have b3 : hi ≤ rows.length := by rw [hv] at b2; exact b2
    obtain ⟨w', c1, c2⟩ := copy_onto (P := P) (lo := lo) (d := hi - lo) hL.has hr0 (by omega) hA k1 k2 k3 k4 k5 hu hs (sT := ty') o.type
    rw [show lo + (hi - lo) = hi by omega] at c1
    exact fin hK hL ha hd (hrun (by rw [hx]; exact c1)) c2 (.of_v (.v _)) hk
   ·exact hk.elim
 | _ => exact hk.elim
end
end Go.Proofs.YtalfffamppmooaaGreatDoor
namespace Go.Proofs.YtalfffamppmooaaGreatDoor
open Go.RowKit
theorem look_objs : ∀ (rs : List R) (j i : Nat), look i (objs rs j) = if j ≤ i then rs[i - j]? else none
 | [], j, i => by simp [objs, look]
 | r :: rs, j, i => by
  rw [objs, look_cons, look_objs rs (j + 1) i]
  by_cases h : i = j
  ·subst h; simp
  ·by_cases h2 : j ≤ i
   ·obtain ⟨d, rfl⟩ := Nat.exists_eq_add_of_le h2
    cases d with
    | zero => simp at h
    | succ d =>
     rw [if_neg h, if_pos (by omega), if_pos h2, show j + (d + 1) - (j + 1) = d by omega, show j + (d + 1) - j = d + 1 by omega]
     simp
   ·rw [if_neg h, if_neg h2, if_neg (by omega)]
theorem look_objs0 (rs : List R) (i : Nat) : look i (objs rs 0) = rs[i]? := by rw [look_objs]; simp
def outIdx (ks : List Nat) (n i : Nat) : Nat := match ks[i]? with
 | some k => k
 | none => n + (i - ks.length)
theorem outIdx_nil (n i : Nat) : outIdx [] n i = n + i := by simp [outIdx]
theorem outIdx_succ (k : Nat) (ks : List Nat) (n i : Nat) : outIdx (k :: ks) n (i + 1) = outIdx ks n i := by
 unfold outIdx
 simp only [List.getElem?_cons_succ, List.length_cons]
 cases ks[i]? with
 | some k => rfl
 | none => simp only; congr 1; omega
theorem outM_look : ∀ (ks : List Nat) (n : Nat) (rs : List R) (j i : Nat), look i (outM ks n rs j) = if j ≤ i ∧ i - j < rs.length then some (outIdx ks n (i - j)) else none
 | [], n, [], j, i => by simp [outM, look]
 | k :: ks, n, [], j, i => by simp [outM, look]
 | k :: ks, n, r :: rs, j, i => by
  rw [outM, look_cons, outM_look ks n rs (j + 1) i]
  by_cases h : i = j
  ·subst h; simp [outIdx]
  ·by_cases h2 : j + 1 ≤ i ∧ i - (j + 1) < rs.length
   ·rw [if_neg h, if_pos h2, if_pos ⟨by omega, by simp; omega⟩, show i - j = i - (j + 1) + 1 by omega, outIdx_succ]
   ·rw [if_neg h, if_neg h2, if_neg (fun h3 => h2 ⟨by omega, by simp at h3; omega⟩)]
 | [], n, r :: rs, j, i => by
  rw [outM, look_cons, outM_look [] (n + 1) rs (j + 1) i]
  by_cases h : i = j
  ·subst h; simp [outIdx]
  ·by_cases h2 : j + 1 ≤ i ∧ i - (j + 1) < rs.length
   ·rw [if_neg h, if_pos h2, if_pos ⟨by omega, by simp; omega⟩, outIdx_nil, outIdx_nil]; congr 1; omega
   ·rw [if_neg h, if_neg h2, if_neg (fun h3 => h2 ⟨by omega, by simp at h3; omega⟩)]
def backO (m : List (Nat × Nat)) : List R → List Nat → Os → Nat → Os
 | [], _, own, _ => own
 | r :: rs, k :: ks, own, n => backO m rs ks ((k, renR m r) :: own) n
 | r :: rs, [], own, n => backO m rs [] ((n, renR m r) :: own) (n + 1)
theorem noKeyC_ren {m : List (Nat × Nat)} {g : G} (h : noKey g = true) : renC m g = g := by cases g <;> first | rfl | cases h
theorem map_ren {m : List (Nat × Nat)} {l : List G} (h : allB noKey l = true) : l.map (renC m) = l := by
 induction l with
 | nil => rfl
 | cons g l ih =>
  have h1 := allB_mem h g (by simp)
  have h2 : allB noKey l = true := by
   unfold allB at h
   rw [h1] at h
   exact h
  rw [List.map_cons, noKeyC_ren h1, ih h2]
theorem noKeyR_ren {m : List (Nat × Nat)} {r : R} (h : noKeyR r = true) : renR m r = r := by
 cases r with
 | blk cs t => simp only [renR, map_ren (show allB noKey cs = true from h)]
 | _ => rfl
theorem noKey1_ren {m : List (Nat × Nat)} {g : G} (h : noKey1 g = true) : ren1 m g = g := by
 cases g with
 | oag l => simp only [ren1, map_ren (show allB noKey l = true from h)]
 | clo f a c => cases h
 | tup l => cases h
 | ptr k o => cases h
 | osl k => cases h
 | osv k a b c => cases h
 | oel k a b c => cases h
 | mp k => cases h
 | _ => rfl
theorem noKeyB_ren {m : List (Nat × Nat)} {g : G} (h : noKeyB g = true) : renG m g = g := by
 cases g with
 | tup l =>
  have key : ∀ l : List G, allB noKey1 l = true → l.map (ren1 m) = l := fun l h => by
   induction l with
   | nil => rfl
   | cons g l ih =>
    have h1 := allB_mem h g (by simp)
    have h2 : allB noKey1 l = true := by
     unfold allB at h
     rw [h1] at h
     exact h
    rw [List.map_cons, noKey1_ren h1, ih h2]
  simp only [renG, key l h]
 | v x => exact noKey1_ren (m := m) (g := .v x) h
 | oag l => exact noKey1_ren (m := m) (g := .oag l) h
 | clo f a c => cases h
 | ptr k o => cases h
 | osl k => cases h
 | osv k a b c => cases h
 | oel k a b c => cases h
 | mp k => cases h
 | _ => rfl
theorem backK_eq {m : List (Nat × Nat)} {K : Os → Nat → Prop} : ∀ {rs : List R} {ks : List Nat} {own : Os} {n : Nat}, backK m rs ks own n K → K (backO m rs ks own n) (n + (rs.length - ks.length))
 | [], ks, own, n, h => by simpa [backK, backO] using h
 | r :: rs, k :: ks, own, n, h => by
  have h2 : backK m rs ks ((k, renR m r) :: own) n K := by
   unfold backK at h
   split at h
   ·next e => rw [noKeyR_ren e]; exact h
   ·exact h
  have := backK_eq h2
  simpa [backO] using this
 | r :: rs, [], own, n, h => by
  have h2 : backK m rs [] ((n, renR m r) :: own) (n + 1) K := by
   unfold backK at h
   split at h
   ·next e => rw [noKeyR_ren e]; exact h
   ·exact h
  have := backK_eq h2
  simp only [List.length_nil, Nat.sub_zero] at this
  simpa [backO, Nat.add_assoc, Nat.add_comm 1] using this
theorem retK_eq {ks : List Nat} {own : Os} {n : Nat} {g : G} {rs : List R} {K : G → Os → Nat → Prop} (h : retK ks own n g rs K) : K (renG (outM ks n rs 0) g) (backO (outM ks n rs 0) rs ks own n) (n + (rs.length - ks.length)) := by
 unfold retK at h
 split at h
 ·next e => rw [noKeyB_ren e]; exact backK_eq (K := fun own n => K g own n) h
 ·exact backK_eq (K := fun own' n' => K (renG (outM ks n rs 0) g) own' n') h
theorem backO_look {m : List (Nat × Nat)} : ∀ {rs : List R} {ks : List Nat} {own : Os} {n k : Nat} {r : R}, look k (backO m rs ks own n) = some r →
  (∃ i r0, outIdx ks n i = k ∧ rs[i]? = some r0 ∧ r = renR m r0) ∨ ((∀ i, i < rs.length → outIdx ks n i ≠ k) ∧ look k own = some r)
 | [], ks, own, n, k, r, h => .inr ⟨fun i hi => by simp at hi, h⟩
 | r0 :: rs, k0 :: ks, own, n, k, r, h => by
  rcases backO_look (rs := rs) (ks := ks) (own := (k0, renR m r0) :: own) (n := n) h with ⟨i, r1, h1, h2, h3⟩ | ⟨h1, h2⟩
  ·exact .inl ⟨i + 1, r1, by rw [outIdx_succ]; exact h1, by simpa using h2, h3⟩
  ·rw [look_cons] at h2
   split at h2
   ·next e => cases h2; exact .inl ⟨0, r0, by simp [outIdx, e], rfl, rfl⟩
   ·next e => exact .inr ⟨fun i hi => by
     cases i with
     | zero => simp [outIdx]; exact fun e' => e e'.symm
     | succ i => rw [outIdx_succ]; exact h1 i (by simpa using hi), h2⟩
 | r0 :: rs, [], own, n, k, r, h => by
  rcases backO_look (rs := rs) (ks := []) (own := (n, renR m r0) :: own) (n := n + 1) h with ⟨i, r1, h1, h2, h3⟩ | ⟨h1, h2⟩
  ·exact .inl ⟨i + 1, r1, by rw [outIdx_nil] at h1 ⊢; omega, by simpa using h2, h3⟩
  ·rw [look_cons] at h2
   split at h2
   ·next e => cases h2; exact .inl ⟨0, r0, by rw [outIdx_nil]; omega, rfl, rfl⟩
   ·next e => exact .inr ⟨fun i hi => by
     cases i with
     | zero => rw [outIdx_nil]; exact fun e' => e (by omega)
     | succ i =>
      have := h1 i (by simpa using hi)
      rw [outIdx_nil] at this ⊢
      omega, h2⟩
section
variable {I I' : Imm} {V V1 V' : Va} {w w' : World} {own : Os} {k n : Nat} {g : G} {x : Value} {r : R} {ks : List Nat} {rs : List R}
theorem VRep.cr (h : VRep I g x) : CRep I V g x := .of_v h
def Va.lend (V : Va) (ks : List Nat) : Va := ⟨ks.length, fun i => V.b (outIdx ks 0 i), fun i => V.s (outIdx ks 0 i), fun i => V.f (outIdx ks 0 i)⟩
theorem crep_noKey (hn : noKey g = true) (h : CRep I V g x) : CRep I V' g x := by
 cases g with
 | ptr k o => cases hn
 | osl k => cases hn
 | osv k a b c => cases hn
 | oel k a b c => cases hn
 | mp k => cases hn
 | _ => exact h
theorem pw_noKey {cs : List G} {us : List Value} (hn : allB noKey cs = true) (h : PW (CRep I V) cs us) : PW (CRep I V') cs us := ⟨h.1, fun j g u hg hu => crep_noKey (allB_mem hn g (List.mem_of_getElem? hg)) (h.2 j g u hg hu)⟩
theorem RRep.lend (hn : noKeyR r = true) (h : RRep I V k w r) {j : Nat} (hb : V'.b j = V.b k) (hs : V'.s j = V.s k) (hf : V'.f j = V.f k) : RRep I V' j w r := by
 cases r with
 | blk cs t =>
  obtain ⟨h1, us, h2, h3⟩ := h
  exact ⟨fun b => by rw [hf, hb]; exact h1 b, us, by rw [hb]; exact h2, pw_noKey hn h3⟩
 | slc rows e sz =>
  obtain ⟨h1, h2⟩ := h
  exact ⟨fun b => by rw [hf, hs]; exact h1 b, by rw [hs]; exact h2⟩
 | froz rows sz => exact ⟨fun b => by rw [hf]; exact h.1 b, by rw [hs]; exact h.2.1, h.2.2⟩
 | gone => exact fun b => by rw [hf]; exact h b
 | mpI l => exact ⟨fun b => by rw [hf, hb]; exact h.1 b, by rw [hb]; exact h.2⟩
 | mpS l => exact ⟨fun b => by rw [hf, hb]; exact h.1 b, by rw [hb]; exact h.2⟩
 | sit s pos => exact ⟨fun b => by rw [hf, hb]; exact h.1 b, by rw [hb]; exact h.2⟩
 | mpX l m ob => exact ⟨fun b => by rw [hf, hb]; exact h.1 b, by rw [hb]; exact h.2⟩
 | mit i l D last m ob => exact ⟨fun b => by rw [hf, hb]; exact h.1 b, by rw [hb]; exact h.2⟩
 | abs p => exact ⟨h.1, by rw [hf, hb]; exact h.2⟩
theorem outIdx_get {i : Nat} (h : ks[i]? = some k) : outIdx ks n i = k := by simp [outIdx, h]
def Va.back (V : Va) (ks : List Nat) (V1 : Va) : Va := ⟨V.n + (V1.n - ks.length), fun k => if k < V.n then V.b k else V1.b (ks.length + (k - V.n)), fun k => if k < V.n then V.s k else V1.s (ks.length + (k - V.n)), fun k b => (∃ i, i < V1.n ∧ outIdx ks V.n i = k ∧ V1.f i b) ∨ ((∀ i, i < V1.n → outIdx ks V.n i ≠ k) ∧ V.f k b)⟩
theorem outIdx_inj (hd : ks.Nodup) (hn : ∀ k ∈ ks, k < n) {i j : Nat} (h : outIdx ks n i = outIdx ks n j) : i = j := by
 unfold outIdx at h
 cases hi : ks[i]? with
 | some k =>
  cases hj : ks[j]? with
  | some k' =>
   rw [hi, hj] at h
   dsimp only at h
   subst h
   exact (List.getElem?_inj (List.getElem?_eq_some_iff.1 hi).1 hd).1 (by rw [hi, hj])
  | none =>
   rw [hi, hj] at h
   have := hn k (List.mem_of_getElem? hi)
   dsimp only at h
   omega
 | none =>
  have hi2 := List.getElem?_eq_none_iff.1 hi
  cases hj : ks[j]? with
  | some k' =>
   rw [hi, hj] at h
   have := hn k' (List.mem_of_getElem? hj)
   dsimp only at h
   omega
  | none =>
   have hj2 := List.getElem?_eq_none_iff.1 hj
   rw [hi, hj] at h
   dsimp only at h
   omega
theorem crep_out {m : List (Nat × Nat)} {out : Nat → Nat} (hm : ∀ i, i < V1.n → (look i m).getD i = out i ∧ out i < V'.n ∧ V'.b (out i) = V1.b i ∧ V'.s (out i) = V1.s i) (h : CRep I V1 g x) : CRep I V' (renC m g) x := by
 cases g with
 | ptr k o => obtain ⟨h1, h2, h3, -⟩ := hm k h.1; exact ⟨by rw [h1]; exact h2, by rw [h1, h3]; exact h.2⟩
 | osl k => obtain ⟨h1, h2, -, h3⟩ := hm k h.1; exact ⟨by rw [h1]; exact h2, by rw [h1, h3]; exact h.2⟩
 | osv k sz lo hi => obtain ⟨h1, h2, -, h3⟩ := hm k h.1; exact ⟨by rw [h1]; exact h2, by rw [h1, h3]; exact h.2⟩
 | mp k => obtain ⟨h1, h2, h3, -⟩ := hm k h.1; exact ⟨by rw [h1]; exact h2, by rw [h1, h3]; exact h.2⟩
 | _ => exact h
theorem pw_out {m : List (Nat × Nat)} {out : Nat → Nat} (hm : ∀ i, i < V1.n → (look i m).getD i = out i ∧ out i < V'.n ∧ V'.b (out i) = V1.b i ∧ V'.s (out i) = V1.s i) {l : List G} {us : List Value} (h : PW (CRep I V1) l us) : PW (CRep I V') (l.map (renC m)) us :=
 ⟨by simpa using h.1, fun j g u hg hu => by
  rw [List.getElem?_map] at hg
  obtain ⟨g0, h1, h2⟩ := Option.map_eq_some_iff.1 hg
  subst h2
  exact crep_out hm (h.2 j g0 u h1 hu)⟩
theorem trep1_out {m : List (Nat × Nat)} {out : Nat → Nat} (hm : ∀ i, i < V1.n → (look i m).getD i = out i ∧ out i < V'.n ∧ V'.b (out i) = V1.b i ∧ V'.s (out i) = V1.s i) (h : TRep1 I V1 g x) : TRep1 I V' (ren1 m g) x := by
 cases g with
 | oag l =>
  obtain ⟨cs, e, h⟩ := h
  exact ⟨cs, e, pw_out hm h⟩
 | clo f a c =>
  obtain ⟨h0, us, cs, e, h1, h2⟩ := h
  refine ⟨?_, us, cs, e, pw_out hm h1, pw_out hm h2⟩
  obtain ⟨g, hg, hk⟩ := h0
  have hk2 : noKey (renC m g) = false := by cases g <;> first | rfl | cases hk
  exact ⟨renC m g, hg.imp (fun h => List.mem_map.2 ⟨g, h, rfl⟩) (fun h => List.mem_map.2 ⟨g, h, rfl⟩), hk2⟩
 | oel k i sz off =>
  obtain ⟨hk, h⟩ := h
  obtain ⟨h1, h2, -, h3⟩ := hm k hk
  exact ⟨by rw [h1]; exact h2, by rw [h1, h3]; exact h⟩
 | elp row off => exact h
 | tup l => exact h.elim
 | ptr k o => exact crep_out (I := I) (m := m) (g := .ptr k o) hm h
 | osl k => exact crep_out (I := I) (m := m) (g := .osl k) hm h
 | osv k a b c => exact crep_out (I := I) (m := m) (g := .osv k a b c) hm h
 | mp k => exact crep_out (I := I) (m := m) (g := .mp k) hm h
 | v y => exact crep_out (I := I) (m := m) (g := .v y) hm h
 | tt => exact crep_out (I := I) (m := m) (g := .tt) hm h
 | ff => exact crep_out (I := I) (m := m) (g := .ff) hm h
 | un => exact crep_out (I := I) (m := m) (g := .un) hm h
 | nl => exact crep_out (I := I) (m := m) (g := .nl) hm h
 | agg l => exact crep_out (I := I) (m := m) (g := .agg l) hm h
 | sl l => exact crep_out (I := I) (m := m) (g := .sl l) hm h
theorem trep_out {m : List (Nat × Nat)} {out : Nat → Nat} (hm : ∀ i, i < V1.n → (look i m).getD i = out i ∧ out i < V'.n ∧ V'.b (out i) = V1.b i ∧ V'.s (out i) = V1.s i) (h : TRep I V1 g x) : TRep I V' (renG m g) x := by
 cases g with
 | tup l =>
  obtain ⟨cs, e, h⟩ := h
  exact ⟨cs, e, by simpa using h.1, fun j g u hg hu => by
   rw [List.getElem?_map] at hg
   obtain ⟨g0, h1, h2⟩ := Option.map_eq_some_iff.1 hg
   subst h2
   exact trep1_out hm (h.2 j g0 u h1 hu)⟩
 | oag l => exact .of_1 (trep1_out (I := I) (m := m) (g := .oag l) hm h)
 | clo f a c => exact .of_1 (trep1_out (I := I) (m := m) (g := .clo f a c) hm h)
 | oel k i sz off => exact .of_1 (trep1_out (I := I) (m := m) (g := .oel k i sz off) hm h)
 | elp row off => exact .of_1 (trep1_out (I := I) (m := m) (g := .elp row off) hm h)
 | ptr k o => exact .of_1 (trep1_out (I := I) (m := m) (g := .ptr k o) hm h)
 | osl k => exact .of_1 (trep1_out (I := I) (m := m) (g := .osl k) hm h)
 | osv k a b c => exact .of_1 (trep1_out (I := I) (m := m) (g := .osv k a b c) hm h)
 | mp k => exact .of_1 (trep1_out (I := I) (m := m) (g := .mp k) hm h)
 | v y => exact .of_1 (trep1_out (I := I) (m := m) (g := .v y) hm h)
 | tt => exact .of_1 (trep1_out (I := I) (m := m) (g := .tt) hm h)
 | ff => exact .of_1 (trep1_out (I := I) (m := m) (g := .ff) hm h)
 | un => exact .of_1 (trep1_out (I := I) (m := m) (g := .un) hm h)
 | nl => exact .of_1 (trep1_out (I := I) (m := m) (g := .nl) hm h)
 | agg l => exact .of_1 (trep1_out (I := I) (m := m) (g := .agg l) hm h)
 | sl l => exact .of_1 (trep1_out (I := I) (m := m) (g := .sl l) hm h)
theorem later_lend (hH : Has I V own w) (hd : ks.Nodup) (hl : rs.length = ks.length) (hr : ∀ (i k : Nat), ks[i]? = some k → ∃ r r', rs[i]? = some r' ∧ look k own = some r)
  {rs' : List R} (hn : V1.n = rs'.length) (h1 : Has I' V1 (objs rs' 0) w') (hF : Fro (objs rs 0) I (V.lend ks) w (objs rs' 0) I' V1 w') (hV : (V.lend ks).le V1) :
  Later own I V w (backO (outM ks V.n rs' 0) rs' ks own V.n) I' (V.back ks V1) w' ∧ ∀ g x, TRep I' V1 g x → TRep I' (V.back ks V1) (renG (outM ks V.n rs' 0) g) x := by
 have hkn : ∀ k ∈ ks, k < V.n := fun k hk => by
  obtain ⟨i, hi, e⟩ := List.mem_iff_getElem.1 hk
  obtain ⟨r, -, -, h2⟩ := hr i k (by rw [List.getElem?_eq_getElem hi, e])
  exact hH.num k r h2
 have hge : ks.length ≤ rs'.length := by rw [← hn]; exact hV.1
 have hout : ∀ i, i < V1.n → (look i (outM ks V.n rs' 0)).getD i = outIdx ks V.n i ∧ outIdx ks V.n i < (V.back ks V1).n ∧ (V.back ks V1).b (outIdx ks V.n i) = V1.b i ∧ (V.back ks V1).s (outIdx ks V.n i) = V1.s i := fun i hi => by
  refine ⟨by rw [outM_look, if_pos ⟨by omega, by omega⟩]; simp, ?_⟩
  cases hk : ks[i]? with
  | some k =>
   have hlt := hkn k (List.mem_of_getElem? hk)
   have hi' := (List.getElem?_eq_some_iff.1 hk).1
   have h2 := hV.2 i hi'
   rw [outIdx_get hk]
   refine ⟨by show k < V.n + _; omega, ?_, ?_⟩
   ·show (if k < V.n then V.b k else _) = _
    rw [if_pos hlt, h2.1]; simp [Va.lend, outIdx_get hk]
   ·show (if k < V.n then V.s k else _) = _
    rw [if_pos hlt, h2.2]; simp [Va.lend, outIdx_get hk]
  | none =>
   have hi2 := List.getElem?_eq_none_iff.1 hk
   have e : outIdx ks V.n i = V.n + (i - ks.length) := by simp [outIdx, hk]
   rw [e]
   have e2 : ks.length + (V.n + (i - ks.length) - V.n) = i := by omega
   refine ⟨by show _ < V.n + _; omega, ?_, ?_⟩
   ·show (if _ < V.n then _ else _) = _
    rw [if_neg (by omega), e2]
   ·show (if _ < V.n then _ else _) = _
    rw [if_neg (by omega), e2]
 have hfo : ∀ i, i < V1.n → (V.back ks V1).f (outIdx ks V.n i) = V1.f i := fun i hi => by
  funext b
  apply propext
  constructor
  ·rintro (⟨j, hj, e, hf⟩ | ⟨h, -⟩)
   ·have := outIdx_inj hd hkn e
    subst this
    exact hf
   ·exact absurd rfl (h i hi)
  ·exact fun hf => .inl ⟨i, hi, rfl, hf⟩
 have hfk : ∀ k, (∀ i, i < V1.n → outIdx ks V.n i ≠ k) → (V.back ks V1).f k = V.f k := fun k hk => by
  funext b
  apply propext
  constructor
  ·rintro (⟨j, hj, e, -⟩ | ⟨-, hf⟩)
   ·exact absurd e (hk j hj)
   ·exact hf
  ·exact fun hf => .inr ⟨hk, hf⟩
 have hle : V.le (V.back ks V1) := ⟨Nat.le_add_right _ _, fun k hk => ⟨if_pos hk, if_pos hk⟩⟩
 have lent : ∀ j r b, look j (objs rs 0) = some r → (V.lend ks).f j b → ∃ k r, ks[j]? = some k ∧ look k own = some r ∧ V.f k b := fun j r b h hf => by
  rw [look_objs0] at h
  have hj := (List.getElem?_eq_some_iff.1 h).1
  have hj' : j < ks.length := by omega
  obtain ⟨r0, r', k1, k2⟩ := hr j ks[j] (List.getElem?_eq_getElem hj')
  refine ⟨_, r0, List.getElem?_eq_getElem hj', k2, ?_⟩
  have := outIdx_get (n := 0) (List.getElem?_eq_getElem hj' : ks[j]? = some ks[j])
  simpa [Va.lend, this] using hf
 have hnl : ∀ k r, look k own = some r → (∀ i, i < V1.n → outIdx ks V.n i ≠ k) → ∀ b, V.f k b → ∀ j r', look j (objs rs 0) = some r' → ¬ (V.lend ks).f j b := fun k r hk hno b hb j r' hj hf => by
  obtain ⟨k', r2, h2, h3, h4⟩ := lent j r' b hj hf
  have := hH.disj k k' r r2 b hk h3 hb h4
  subst this
  have hj' := (List.getElem?_eq_some_iff.1 h2).1
  exact hno j (by omega) (outIdx_get h2)
 have hnot : ∀ k, (∀ i, i < rs'.length → outIdx ks V.n i ≠ k) → ∀ i, i < V1.n → outIdx ks V.n i ≠ k := fun k h i hi => h i (by omega)
 refine ⟨⟨⟨h1.mem, fun k r hk => ?_, fun k r hk => ?_, fun k r b hk hb => ?_, fun k k' r r' b hk hk' hb hb' => ?_⟩, ⟨hF.os, hF.tape, hF.output, hF.size, fun b hb hn => hF.blk b hb fun j r hj hf => ?_, hF.mono, fun k r b hk hb hlt => ?_⟩, hle⟩, fun g x h => trep_out hout h⟩
 ·rcases backO_look hk with ⟨i, r0, e, h2, -⟩ | ⟨h2, h3⟩
  ·have hi := (List.getElem?_eq_some_iff.1 h2).1
   rw [← e]
   exact (hout i (by omega)).2.1
  ·exact Nat.lt_of_lt_of_le (hH.num k r h3) hle.1
 ·rcases backO_look hk with ⟨i, r0, e, h2, rfl⟩ | ⟨h2, h3⟩
  ·have hi := (List.getElem?_eq_some_iff.1 h2).1
   have hi' : i < V1.n := by omega
   have hr0 := h1.each i r0 (by rw [look_objs0]; exact h2)
   obtain ⟨-, o1, o2, o3⟩ := hout i hi'
   have o4 := hfo i hi'
   rw [← e]
   cases r0 with
   | blk cs t =>
    obtain ⟨q1, us, q2, q3⟩ := hr0
    exact ⟨fun b => by rw [o4, o2]; exact q1 b, us, by rw [o2]; exact q2, pw_out hout q3⟩
   | slc rows ty sz => exact ⟨fun b => by rw [o4, o3]; exact hr0.1 b, by rw [o3]; exact hr0.2⟩
   | froz rows sz => exact ⟨fun b => by rw [o4]; exact hr0.1 b, by rw [o3]; exact hr0.2.1, hr0.2.2⟩
   | gone => exact fun b => by rw [o4]; exact hr0 b
   | mpI l => exact ⟨fun b => by rw [o4, o2]; exact hr0.1 b, by rw [o2]; exact hr0.2⟩
   | mpS l => exact ⟨fun b => by rw [o4, o2]; exact hr0.1 b, by rw [o2]; exact hr0.2⟩
   | sit s pos => exact ⟨fun b => by rw [o4, o2]; exact hr0.1 b, by rw [o2]; exact hr0.2⟩
   | mpX l m ob => exact ⟨fun b => by rw [o4, o2]; exact hr0.1 b, by rw [o2]; exact hr0.2⟩
   | mit j l D last m ob => exact ⟨fun b => by rw [o4, o2]; exact hr0.1 b, by rw [o2]; exact hr0.2⟩
   | abs p => exact ⟨hr0.1, by rw [o4, o2]; exact hr0.2⟩
  ·exact (hH.each k r h3).keep hF.mono hle (hH.num k r h3) (hfk k (hnot k h2)) hF.os hF.size fun b hb => (hF.blk b (hH.foot k r b h3 hb).1 (hnl k r h3 (hnot k h2) b hb)).1
 ·rcases backO_look hk with ⟨i, r0, e, h2, rfl⟩ | ⟨h2, h3⟩
  ·have hi := (List.getElem?_eq_some_iff.1 h2).1
   rw [← e, hfo i (by omega)] at hb
   exact h1.foot i r0 b (by rw [look_objs0]; exact h2) hb
  ·rw [hfk k (hnot k h2)] at hb
   have h4 := hH.foot k r b h3 hb
   exact ⟨Nat.lt_of_lt_of_le h4.1 hF.size, fun o => ((hF.blk b h4.1 (hnl k r h3 (hnot k h2) b hb)).2 o).trans (h4.2 o)⟩
 ·have cross : ∀ i r0 k r, i < V1.n → rs'[i]? = some r0 → V1.f i b → look k own = some r → (∀ i, i < V1.n → outIdx ks V.n i ≠ k) → V.f k b → False := fun i r0 k r hi h2 hf hk hno hb => by
   have h4 := (hH.foot k r b hk hb).1
   obtain ⟨j, r', hj, hf'⟩ := hF.foot i r0 b (by rw [look_objs0]; exact h2) hf h4
   exact hnl k r hk hno b hb j r' hj hf'
  rcases backO_look hk with ⟨i, r0, e, h2, -⟩ | ⟨h2, h3⟩
  ·have hi := (List.getElem?_eq_some_iff.1 h2).1
   rw [← e, hfo i (by omega)] at hb
   rcases backO_look hk' with ⟨i', r0', e', h2', -⟩ | ⟨h2', h3'⟩
   ·have hi' := (List.getElem?_eq_some_iff.1 h2').1
    rw [← e', hfo i' (by omega)] at hb'
    rw [← e, ← e', h1.disj i i' r0 r0' b (by rw [look_objs0]; exact h2) (by rw [look_objs0]; exact h2') hb hb']
   ·rw [hfk k' (hnot k' h2')] at hb'
    exact (cross i r0 k' r' (by omega) h2 hb h3' (hnot k' h2') hb').elim
  ·rw [hfk k (hnot k h2)] at hb
   rcases backO_look hk' with ⟨i', r0', e', h2', -⟩ | ⟨h2', h3'⟩
   ·have hi' := (List.getElem?_eq_some_iff.1 h2').1
    rw [← e', hfo i' (by omega)] at hb'
    exact (cross i' r0' k r (by omega) h2' hb' h3 (hnot k h2) hb).elim
   ·rw [hfk k' (hnot k' h2')] at hb'
    exact hH.disj k k' r r' b h3 h3' hb hb'
 ·obtain ⟨k, r2, -, h3, h4⟩ := lent j r b hj hf
  exact hn k r2 h3 h4
 ·rcases backO_look hk with ⟨i, r0, e, h2, -⟩ | ⟨h2, h3⟩
  ·have hi := (List.getElem?_eq_some_iff.1 h2).1
   rw [← e, hfo i (by omega)] at hb
   obtain ⟨j, r', hj, hf⟩ := hF.foot i r0 b (by rw [look_objs0]; exact h2) hb hlt
   obtain ⟨k', r2, -, h4, h5⟩ := lent j r' b hj hf
   exact ⟨k', r2, h4, h5⟩
  ·rw [hfk k (hnot k h2)] at hb
   exact ⟨k, r, h3, hb⟩
end
end Go.Proofs.YtalfffamppmooaaGreatDoor
namespace Go.Proofs.YtalfffamppmooaaGreatDoor
open Go.RowKit
def inC (k : Nat) : G → Prop
 | .ptr j _ | .osl j | .osv j _ _ _ | .oel j _ _ _ | .mp j => j = k
 | _ => False
def in1 (k : Nat) : G → Prop
 | .oag l => ∃ g ∈ l, inC k g
 | .clo _ a c => ∃ g, (g ∈ a ∨ g ∈ c) ∧ inC k g
 | g => inC k g
def Gath (F : List Nat → (List Nat → Prop) → Prop) (p : Nat → Prop) : Prop := ∀ l : List Nat, ∃ l' : List Nat, (∀ K : List Nat → Prop, F l K = K l') ∧ (∀ j, j ∈ l → j ∈ l') ∧ (∀ j, p j → j ∈ l') ∧ (l.Nodup → l'.Nodup)
theorem Gath.none : Gath (fun l K => K l) (fun _ => False) := fun l => ⟨l, fun _ => rfl, fun _ h => h, fun _ h => h.elim, fun h => h⟩
theorem Gath.seq {F F' : List Nat → (List Nat → Prop) → Prop} {p p' : Nat → Prop} (h : Gath F p) (h' : Gath F' p') : Gath (fun l K => F l fun l => F' l K) (fun j => p j ∨ p' j) := fun l => by
 obtain ⟨l1, a1, a2, a3, a4⟩ := h l
 obtain ⟨l2, b1, b2, b3, b4⟩ := h' l1
 exact ⟨l2, fun K => (a1 _).trans (b1 K), fun j hj => b2 j (a2 j hj), fun j hj => hj.elim (fun h => b2 j (a3 j h)) (fun h => b3 j h), fun hn => b4 (a4 hn)⟩
theorem Gath.sub {F : List Nat → (List Nat → Prop) → Prop} {p p' : Nat → Prop} (h : Gath F p) (hp : ∀ j, p' j → p j) : Gath F p' := fun l => by
 obtain ⟨l1, a1, a2, a3, a4⟩ := h l
 exact ⟨l1, a1, a2, fun j hj => a3 j (hp j hj), a4⟩
theorem gath_add (k : Nat) : Gath (fun l K => addK k l K) (fun j => j = k) := fun l => by
 induction l with
 | nil => exact ⟨[k], fun _ => rfl, fun j h => by simp at h, fun j h => by simp [h], fun _ => by simp⟩
 | cons i l ih =>
  obtain ⟨l', h1, h2, h3, h4⟩ := ih
  have hsub : ∀ j, j ∈ l' → j ∈ l ∨ j = k := by
   have : ∀ (l : List Nat) (l' : List Nat), (∀ K : List Nat → Prop, addK k l K = K l') → ∀ j, j ∈ l' → j ∈ l ∨ j = k := fun l => by
    induction l with
    | nil => intro l' h j hj; have e := h (fun r => r = [k]); simp [addK] at e; rw [e] at hj; exact .inr (by simpa using hj)
    | cons i l ih =>
     intro l' h j hj
     cases hb : Nat.beq k i with
     | true =>
      have e := h (fun r => r = i :: l)
      unfold addK at e
      rw [hb] at e
      simp at e
      rw [e] at hj
      exact .inl hj
     | false =>
      have e : ∃ r, l' = i :: r ∧ ∀ K : List Nat → Prop, addK k l K = K r := by
       have key : ∀ l : List Nat, ∃ r, ∀ K : List Nat → Prop, addK k l K = K r := fun l => by
        induction l with
        | nil => exact ⟨[k], fun _ => rfl⟩
        | cons i l ih =>
         obtain ⟨r, hr⟩ := ih
         cases hb : Nat.beq k i with
         | true => exact ⟨i :: l, fun K => by unfold addK; rw [hb]⟩
         | false => exact ⟨i :: r, fun K => by unfold addK; rw [hb]; exact hr _⟩
       obtain ⟨r, hr⟩ := key l
       refine ⟨r, ?_, hr⟩
       have e := h (fun q => q = i :: r)
       unfold addK at e
       rw [hb] at e
       dsimp only at e
       rw [hr] at e
       simp at e
       exact e
      obtain ⟨r, rfl, hr⟩ := e
      rcases List.mem_cons.1 hj with rfl | hj
      ·exact .inl (by simp)
      ·exact (ih r hr j hj).imp (fun h => by simp [h]) id
   exact this l l' h1
  cases hb : Nat.beq k i with
  | true =>
   have := Nat.eq_of_beq_eq_true hb
   subst this
   exact ⟨k :: l, fun K => by show addK k (k :: l) K = _; unfold addK; rw [hb], fun j hj => hj, fun j hj => by simp [hj], fun h => h⟩
  | false =>
   refine ⟨i :: l', fun K => by show addK k (i :: l) K = _; unfold addK; rw [hb]; exact h1 _, fun j hj => ?_, fun j hj => by simp [h3 j hj], fun h => ?_⟩
   ·rcases List.mem_cons.1 hj with rfl | hj
    ·simp
    ·simp [h2 j hj]
   ·have hn := List.nodup_cons.1 h
    refine List.nodup_cons.2 ⟨fun hm => ?_, h4 hn.2⟩
    rcases hsub i hm with h | h
    ·exact hn.1 h
    ·subst h; rw [Nat.beq_refl] at hb; cases hb
theorem gath_C (g : G) : Gath (fun l K => gkC g l K) (fun j => inC j g) := by
 cases g with
 | ptr k o => exact (gath_add k).sub fun j h => Eq.symm h
 | osl k => exact (gath_add k).sub fun j h => Eq.symm h
 | osv k a b c => exact (gath_add k).sub fun j h => Eq.symm h
 | oel k a b c => exact (gath_add k).sub fun j h => Eq.symm h
 | mp k => exact (gath_add k).sub fun j h => Eq.symm h
 | _ => exact Gath.none.sub fun j h => h
theorem gath_CL : ∀ l : List G, Gath (fun ks K => gkCL l ks K) (fun j => ∃ g ∈ l, inC j g)
 | [] => Gath.none.sub fun j h => by simp at h
 | g :: l => ((gath_C g).seq (gath_CL l)).sub fun j ⟨g', h, hk⟩ => by
  rcases List.mem_cons.1 h with rfl | h
  ·exact .inl hk
  ·exact .inr ⟨g', h, hk⟩
theorem gath_1 (g : G) : Gath (fun l K => gk1 g l K) (fun j => in1 j g) := by
 cases g with
 | oag l => exact gath_CL l
 | clo f a c => exact ((gath_CL a).seq (gath_CL c)).sub fun j ⟨g, h, hk⟩ => h.imp (fun h => ⟨g, h, hk⟩) (fun h => ⟨g, h, hk⟩)
 | ptr k o => exact gath_C (.ptr k o)
 | osl k => exact gath_C (.osl k)
 | osv k a b c => exact gath_C (.osv k a b c)
 | oel k a b c => exact gath_C (.oel k a b c)
 | mp k => exact gath_C (.mp k)
 | _ => exact Gath.none.sub fun j h => h
theorem gath_L : ∀ l : List G, Gath (fun ks K => gkL l ks K) (fun j => ∃ g ∈ l, in1 j g)
 | [] => Gath.none.sub fun j h => by simp at h
 | g :: l => ((gath_1 g).seq (gath_L l)).sub fun j ⟨g', h, hk⟩ => by
  rcases List.mem_cons.1 h with rfl | h
  ·exact .inl hk
  ·exact .inr ⟨g', h, hk⟩
theorem posM_look {k : Nat} : ∀ {ks : List Nat} {j : Nat}, k ∈ ks → ∃ i, look k (posM ks j) = some (j + i) ∧ ks[i]? = some k
 | [], _, h => by simp at h
 | k0 :: ks, j, h => by
  unfold posM
  rw [look_cons]
  by_cases e : k = k0
  ·subst e; exact ⟨0, by simp, rfl⟩
  ·rw [if_neg e]
   obtain ⟨i, h1, h2⟩ := posM_look (ks := ks) (j := j + 1) ((List.mem_cons.1 h).resolve_left e)
   exact ⟨i + 1, by rw [h1]; congr 1; omega, by simpa using h2⟩
theorem gath_step (own : Os) : ∀ l : List Nat, Gath (fun acc K => stepK own l acc K) (fun _ => False)
 | [] => Gath.none
 | k :: l => fun acc => by
  have ih := gath_step own l
  show ∃ l' : List Nat, (∀ K : List Nat → Prop, stepK own (k :: l) acc K = K l') ∧ _
  unfold stepK
  split
  ·exact (((gath_CL _).seq ih).sub fun j h => h.elim) acc
  ·exact ih acc
theorem gath_tr (own : Os) : ∀ n : Nat, Gath (fun ks K => trK own n ks K) (fun _ => False)
 | 0 => Gath.none
 | n + 1 => fun ks => by
  obtain ⟨l1, a1, a2, -, a4⟩ := gath_step own ks ks
  obtain ⟨l2, b1, b2, -, b4⟩ := gath_tr own n l1
  exact ⟨l2, fun K => (a1 _).trans (b1 K), fun j h => b2 j (a2 j h), fun j h => h.elim, fun h => b4 (a4 h)⟩
theorem inRB_noKey {ks : List Nat} {r : R} (h : noKeyR r = true) : inRB ks r = true := by
 cases r with
 | blk cs t =>
  have key : ∀ {l : List G}, allB noKey l = true → allB (inCB ks) l = true := fun {l} => by
   induction l with
   | nil => intro _; rfl
   | cons g l ih =>
    intro h
    unfold allB at h ⊢
    cases hg : noKey g with
    | false => rw [hg] at h; cases h
    | true =>
     rw [hg] at h
     have : inCB ks g = true := by cases g <;> first | rfl | cases hg
     rw [this]
     exact ih h
  exact key (show allB noKey cs = true from h)
 | _ => rfl
theorem rsK_ok {own : Os} {ks0 : List Nat} : ∀ {ks : List Nat} {K : List R → Prop}, rsK own ks0 ks K → ∃ rs : List R, K rs ∧ rs.length = ks.length ∧ ∀ (i k : Nat), ks[i]? = some k → ∃ r, rs[i]? = some (renR (posM ks0 0) r) ∧ look k own = some r ∧ inRB ks0 r = true
 | [], K, h => ⟨[], h, rfl, fun i k h => by simp at h⟩
 | k :: ks, K, h => by
  unfold rsK at h
  cases hr : look k own with
  | none => rw [hr] at h; exact h.elim
  | some r =>
   rw [hr] at h
   dsimp only at h
   have key : inRB ks0 r = true → rsK own ks0 ks (fun rs => K (renR (posM ks0 0) r :: rs)) → ∃ rs : List R, K rs ∧ rs.length = (k :: ks).length ∧ ∀ (i k' : Nat), (k :: ks)[i]? = some k' → ∃ r, rs[i]? = some (renR (posM ks0 0) r) ∧ look k' own = some r ∧ inRB ks0 r = true := fun hi h => by
    obtain ⟨rs, h1, h2, h3⟩ := rsK_ok h
    refine ⟨_, h1, by simp [h2], fun i k' hk => ?_⟩
    cases i with
    | zero => simp at hk; subst hk; exact ⟨r, rfl, hr, hi⟩
    | succ i => simpa using h3 i k' (by simpa using hk)
   cases hn : noKeyR r with
   | true =>
    rw [hn] at h
    exact key (inRB_noKey hn) (by rw [noKeyR_ren hn]; exact h)
   | false =>
    rw [hn] at h
    dsimp only at h
    cases hi : inRB ks0 r with
    | false => rw [hi] at h; exact h.elim
    | true => rw [hi] at h; exact key hi h
section
variable {P : Program} {I I' I0 : Imm} {V V1 V' V0 : Va} {w w' w0 : World} {own own0 own' : Os} {k n N : Nat} {g : G} {x y : Value} {r : R} {ks : List Nat} {rs : List R} {a : Act} {t : Ts} {o : Oper}
theorem crep_in (hin : ∀ k, inC k g → k ∈ ks) (h : CRep I V g x) : CRep I (V.lend ks) (renC (posM ks 0) g) x := by
 have key : ∀ k, inC k g → ∃ i, (look k (posM ks 0)).getD k = i ∧ i < ks.length ∧ (V.lend ks).b i = V.b k ∧ (V.lend ks).s i = V.s k := fun k hk => by
  obtain ⟨i, h1, h2⟩ := posM_look (j := 0) (hin k hk)
  refine ⟨i, by rw [h1]; simp, (List.getElem?_eq_some_iff.1 h2).1, ?_, ?_⟩ <;> simp [Va.lend, outIdx_get h2]
 cases g with
 | ptr k o => obtain ⟨i, h1, h2, h3, -⟩ := key k rfl; exact ⟨by rw [h1]; exact h2, by rw [h1, h3]; exact h.2⟩
 | osl k => obtain ⟨i, h1, h2, -, h3⟩ := key k rfl; exact ⟨by rw [h1]; exact h2, by rw [h1, h3]; exact h.2⟩
 | osv k a b c => obtain ⟨i, h1, h2, -, h3⟩ := key k rfl; exact ⟨by rw [h1]; exact h2, by rw [h1, h3]; exact h.2⟩
 | mp k => obtain ⟨i, h1, h2, h3, -⟩ := key k rfl; exact ⟨by rw [h1]; exact h2, by rw [h1, h3]; exact h.2⟩
 | _ => exact h
theorem pw_in {l : List G} {us : List Value} (hin : ∀ k g, g ∈ l → inC k g → k ∈ ks) (h : PW (CRep I V) l us) : PW (CRep I (V.lend ks)) (l.map (renC (posM ks 0))) us :=
 ⟨by simpa using h.1, fun j g u hg hu => by
  rw [List.getElem?_map] at hg
  obtain ⟨g0, h1, h2⟩ := Option.map_eq_some_iff.1 hg
  subst h2
  exact crep_in (fun k hk => hin k g0 (List.mem_of_getElem? h1) hk) (h.2 j g0 u h1 hu)⟩
theorem RRep.lendK {j : Nat} (hin : inRB ks r = true) (h : RRep I V k w r) (hb : (V.lend ks).b j = V.b k) (hs : (V.lend ks).s j = V.s k) (hf : (V.lend ks).f j = V.f k) : RRep I (V.lend ks) j w (renR (posM ks 0) r) := by
 cases r with
 | blk cs t =>
  obtain ⟨h1, us, h2, h3⟩ := h
  refine ⟨fun b => by rw [hf, hb]; exact h1 b, us, by rw [hb]; exact h2, pw_in (fun k g hg hk => ?_) h3⟩
  have hc := allB_mem (show allB (inCB ks) cs = true from hin) g hg
  cases g <;> first | (obtain rfl := (show _ = k from hk); exact memB_mem.1 hc) | exact hk.elim
 | slc rows e sz => exact ⟨fun b => by rw [hf, hs]; exact h.1 b, by rw [hs]; exact h.2⟩
 | froz rows sz => exact ⟨fun b => by rw [hf]; exact h.1 b, by rw [hs]; exact h.2.1, h.2.2⟩
 | gone => exact fun b => by rw [hf]; exact h b
 | mpI l => exact ⟨fun b => by rw [hf, hb]; exact h.1 b, by rw [hb]; exact h.2⟩
 | mpS l => exact ⟨fun b => by rw [hf, hb]; exact h.1 b, by rw [hb]; exact h.2⟩
 | sit s pos => exact ⟨fun b => by rw [hf, hb]; exact h.1 b, by rw [hb]; exact h.2⟩
 | mpX l m ob => exact ⟨fun b => by rw [hf, hb]; exact h.1 b, by rw [hb]; exact h.2⟩
 | mit i l D last m ob => exact ⟨fun b => by rw [hf, hb]; exact h.1 b, by rw [hb]; exact h.2⟩
 | abs p => exact ⟨h.1, by rw [hf, hb]; exact h.2⟩
theorem has_lend (hH : Has I V own w) (hd : ks.Nodup) (hl : rs.length = ks.length) (hr : ∀ (i k : Nat), ks[i]? = some k → ∃ r, rs[i]? = some (renR (posM ks 0) r) ∧ look k own = some r ∧ inRB ks r = true) : Has I (V.lend ks) (objs rs 0) w := by
 have key : ∀ i r', look i (objs rs 0) = some r' → ∃ k r, ks[i]? = some k ∧ look k own = some r ∧ inRB ks r = true ∧ r' = renR (posM ks 0) r := fun i r' h => by
  rw [look_objs0] at h
  have hi := (List.getElem?_eq_some_iff.1 h).1
  have hi' : i < ks.length := by omega
  obtain ⟨r, h1, h2, h3⟩ := hr i ks[i] (List.getElem?_eq_getElem hi')
  rw [h] at h1
  cases h1
  exact ⟨_, r, List.getElem?_eq_getElem hi', h2, h3, rfl⟩
 refine ⟨hH.mem, fun i r h => ?_, fun i r h => ?_, fun i r b h hf => ?_, fun i i' r r' b h h' hf hf' => ?_⟩
 ·obtain ⟨k, -, h1, -⟩ := key i r h
  exact (List.getElem?_eq_some_iff.1 h1).1
 ·obtain ⟨k, r0, h1, h2, h3, rfl⟩ := key i r h
  exact (hH.each k r0 h2).lendK h3 (by simp [Va.lend, outIdx_get h1]) (by simp [Va.lend, outIdx_get h1]) (by simp [Va.lend, outIdx_get h1])
 ·obtain ⟨k, r0, h1, h2, -⟩ := key i r h
  have hf : V.f k b := by simpa [Va.lend, outIdx_get h1] using hf
  exact hH.foot k r0 b h2 hf
 ·obtain ⟨k, r0, h1, h2, -⟩ := key i r h
  obtain ⟨k', r0', h1', h2', -⟩ := key i' r' h'
  have hf : V.f k b := by simpa [Va.lend, outIdx_get h1] using hf
  have hf' : V.f k' b := by simpa [Va.lend, outIdx_get h1'] using hf'
  have := hH.disj k k' r0 r0' b h2 h2' hf hf'
  subst this
  have hi := (List.getElem?_eq_some_iff.1 h1).1
  exact (List.getElem?_inj hi hd).1 (by rw [h1, h1'])
theorem prep_in (hin : ∀ k, in1 k g → k ∈ ks) (h : PRep I V g x) : PRep I (V.lend ks) (renG (posM ks 0) g) x := by
 cases g with
 | ptr k o => exact crep_in (I := I) (g := .ptr k o) hin h
 | osl k => exact crep_in (I := I) (g := .osl k) hin h
 | osv k a b c => exact crep_in (I := I) (g := .osv k a b c) hin h
 | mp k => exact crep_in (I := I) (g := .mp k) hin h
 | oel k i sz off =>
  obtain ⟨hk, h⟩ := (show k < V.n ∧ _ from h)
  obtain ⟨i', h1, h2⟩ := posM_look (j := 0) (hin k rfl)
  have e : (look k (posM ks 0)).getD k = i' := by rw [h1]; simp
  refine (show TRep1 I (V.lend ks) (.oel ((look k (posM ks 0)).getD k) i sz off) x from ?_)
  rw [e]
  exact ⟨(List.getElem?_eq_some_iff.1 h2).1, by simpa [Va.lend, outIdx_get h2] using h⟩
 | clo f a c =>
  obtain ⟨h0, us, cs, e, h1, h2⟩ := h
  refine ⟨?_, us, cs, e, pw_in (fun k g hg hk => hin k ⟨g, .inl hg, hk⟩) h1, pw_in (fun k g hg hk => hin k ⟨g, .inr hg, hk⟩) h2⟩
  obtain ⟨g, hg, hk⟩ := h0
  have hk2 : noKey (renC (posM ks 0) g) = false := by cases g <;> first | rfl | cases hk
  exact ⟨renC (posM ks 0) g, hg.imp (fun h => List.mem_map.2 ⟨g, h, rfl⟩) (fun h => List.mem_map.2 ⟨g, h, rfl⟩), hk2⟩
 | v z => exact h
 | tt => exact h
 | ff => exact h
 | un => exact h
 | nl => exact h
 | agg l => exact h
 | sl l => exact h
 | oag l => cases (show VRep I (.oag l) x from h)
 | tup l => cases (show VRep I (.tup l) x from h)
 | elp l o => cases (show VRep I (.elp l o) x from h)
def CallPost (mo : Mo) (own : Os) (I : Imm) (V : Va) (w : World) (K : G → Os → Nat → Prop) (e : Ending) (w' : World) : Prop :=
 ∃ x g own' I' V', e = .returned x ∧ K g own' V'.n ∧ Later own I V w own' I' V' w' ∧ TRep I' V' g x ∧ (mo ≠ .row → ∃ ks : List Nat, mo.lends ks = true ∧ (∀ k ∈ ks, k < V.n) ∧ (∀ b, b < w.heap.size → (∀ k ∈ ks, ¬ V.f k b) → w'.heap[b]? = w.heap[b]?) ∧ ∀ k, k < V.n → ∀ b, V'.f k b → V.f k b ∨ (ks ≠ [] ∧ ((∃ k' ∈ ks, V.f k' b) ∨ w.heap.size ≤ b)))
theorem callK_ok {f : FuncId} {mo : Mo} {gs : List G} {vs : List Value} {B : Prop} {K : G → Os → Nat → Prop} {Z : Prop} (h : callK P f mo gs own V.n B K) (hH : Has I V own w) (hg : PW (PRep I V) gs vs) (hB : B → Z) (hR : Ent P f ∧ Calls P f vs.toArray w (CallPost mo own I V w K) → Z) : Z := by
 unfold callK at h
 obtain ⟨ks1, q1, -, q3, q4⟩ := gath_L gs []
 obtain ⟨ks, k1, k2, -, k4⟩ := gath_tr own 3 ks1
 have hd : ks.Nodup := k4 (q4 (by simp))
 have k3 : ∀ j, (∃ g ∈ gs, in1 j g) → j ∈ ks := fun j h => k2 j (q3 j h)
 have q1 : ∀ K : List Nat → Prop, gkL gs [] K = K ks1 := q1
 have k1 : ∀ K : List Nat → Prop, trK own 3 ks1 K = K ks := k1
 rw [q1, k1] at h
 have hargs : PW (PRep I (V.lend ks)) (gs.map (renG (posM ks 0))) vs := ⟨by simpa using hg.1, fun j g u h1 h2 => by
  rw [List.getElem?_map] at h1
  obtain ⟨g0, h3, rfl⟩ := Option.map_eq_some_iff.1 h1
  exact prep_in (fun k hk => k3 k ⟨g0, List.mem_of_getElem? h3, hk⟩) (hg.2 j g0 u h3 h2)⟩
 have main : mo.lends ks = true → ∀ rs : List R, rs.length = ks.length → (∀ (i k : Nat), ks[i]? = some k → ∃ r, rs[i]? = some (renR (posM ks 0) r) ∧ look k own = some r ∧ inRB ks r = true) → FnO P f (gs.map (renG (posM ks 0))) rs (fun g rs => retK ks own V.n g rs K) → Ent P f ∧ Calls P f vs.toArray w (CallPost mo own I V w K) := fun hlend rs hl hr hF => by
  refine ⟨hF.1, (hF.2 I (V.lend ks) w vs (has_lend hH hd hl hr) (by rw [hl]; rfl) hargs).mono fun e w' ⟨x, g, rs', I', V1, he, hq, hn, h1, hx, hfro, hle⟩ => ?_⟩
  obtain ⟨l1, l2⟩ := later_lend hH hd hl (fun i k hk => by obtain ⟨r, h1, h2, -⟩ := hr i k hk; exact ⟨r, _, h1, h2⟩) hn h1 hfro hle
  have lent : ∀ j r b, look j (objs rs 0) = some r → (V.lend ks).f j b → ∃ k ∈ ks, V.f k b := fun j r b h hf => by
   rw [look_objs0] at h
   have hj := (List.getElem?_eq_some_iff.1 h).1
   have hj' : j < ks.length := by omega
   have e := outIdx_get (n := 0) (List.getElem?_eq_getElem hj' : ks[j]? = some ks[j])
   exact ⟨ks[j], List.getElem_mem hj', by simpa [Va.lend, e] using hf⟩
  refine ⟨x, _, _, I', V.back ks V1, he, (by
   have := retK_eq hq
   rw [show V.n + (rs'.length - ks.length) = (V.back ks V1).n by show _ = V.n + (V1.n - ks.length); rw [hn]] at this
   exact this), l1, l2 g x hx.to_t, fun _ => ⟨ks, hlend, fun k hk => ?_, fun b hb hno => (hfro.blk b hb fun j r hj hf => ?_).1, fun k hk b hb => ?_⟩⟩
  ·obtain ⟨i, hi, e⟩ := List.mem_iff_getElem.1 hk
   obtain ⟨r, -, h2, -⟩ := hr i k (by rw [List.getElem?_eq_getElem hi, e])
   exact hH.num k r h2
  ·obtain ⟨k, h2, h3⟩ := lent j r b hj hf
   exact hno k h2 h3
  ·rcases hb with ⟨i, hi, e, hf⟩ | ⟨-, hf⟩
   ·cases hks : ks with
    | nil => subst hks; rw [outIdx_nil] at e; omega
    | cons k0 ks0 =>
     rw [← hks]
     refine .inr ⟨by rw [hks]; simp, ?_⟩
     by_cases hlt : b < w.heap.size
     ·have hi' : i < rs'.length := by omega
      obtain ⟨j, r', hj, hf'⟩ := hfro.foot i _ b (by rw [look_objs0]; exact List.getElem?_eq_getElem hi') hf hlt
      exact .inl (lent j r' b hj hf')
     ·exact .inr (by omega)
   ·exact .inl hf
 cases hlend : mo.lends ks with
 | false => rw [hlend] at h; exact h.elim
 | true =>
  rw [hlend] at h
  dsimp only at h
  cases ks with
  | nil =>
   cases h with
   | lend h => exact hB h
   | pure h =>
    refine hR (main hlend [] rfl (fun i k h => by simp at h) ?_)
    have e : gs.map (renG (posM [] 0)) = gs := by
     show gs.map (renG []) = gs
     rw [funext renG_nil]; simp
    rw [e]
    exact h
  | cons k0 ks0 =>
   obtain ⟨rs, h1, h2, h3⟩ := rsK_ok h
   cases h1 with
   | lend h => exact hB h
   | pure h => exact hR (main hlend rs h2 h3 h)
theorem purB_ok (h : TRep I V g x) (hl : g.lent = true) : PRep I V (purB g) x := by
 cases g with
 | nl => cases (show VRep I .nl x from h); exact .sl [] none 0 0 (fun _ _ => undef) (Nat.le_refl _) (fun _ => rfl) (by simp) (fun i r h => by simp at h) (fun i r j g h => by simp at h)
 | tt => cases (show VRep I .tt x from h); exact .v _
 | ff => cases (show VRep I .ff x from h); exact .v _
 | oag l => cases hl
 | tup l => cases hl
 | elp l o => cases hl
 | _ => exact h
theorem lendK_ok {f : FuncId} {mo : Mo} {gs : List G} {vs : List Value} {K : G → Os → Nat → Prop} (h : lendK P f mo gs own V.n K) (hH : Has I V own w) (hg : PW (TRep I V) gs vs) : Ent P f ∧ Calls P f vs.toArray w (CallPost mo own I V w K) := by
 unfold lendK at h
 split at h
 ·next hl =>
  refine callK_ok h hH ⟨by simpa using hg.1, fun j g u h1 h2 => ?_⟩ False.elim id
  rw [List.getElem?_map] at h1
  obtain ⟨g0, h3, rfl⟩ := Option.map_eq_some_iff.1 h1
  exact purB_ok (hg.2 j g0 u h3 h2) (allB_mem hl g0 (List.mem_of_getElem? h3))
 ·exact h.elim
theorem callB_ok {f : FuncId} {mo : Mo} {gs p q : List G} {vs : List Value} {K : G → Os → Nat → Prop} (h : callB P f mo gs p q own V.n K) (hH : Has I V own w) (hg : PW (TRep I V) (p ++ (gs ++ q)) vs) : Ent P f ∧ Calls P f vs.toArray w (CallPost mo own I V w K) := by
 unfold callB at h
 split at h
 ·exact lendK_ok h hH hg
 ·obtain ⟨gs', o1, I1, V1, h1, hn1, hl1, hv1⟩ := purs_ok h hg hH
  have h1 : callK P f mo gs' o1 V1.n (lendK P f mo (p ++ (gs ++ q)) own V.n K) K := by rw [hn1.1]; exact h1
  refine callK_ok h1 hl1.has hv1 (fun hb => lendK_ok hb hH hg) fun ⟨k1, k2⟩ => ?_
  refine ⟨k1, k2.mono fun e w' ⟨x, g, own', I', V', he, hk, hl, hx, hm⟩ => ⟨x, g, own', I', V', he, hk, hl1.trans hl, hx, fun hmo => ?_⟩⟩
  obtain ⟨ks, m1, m2, m3, m4⟩ := hm hmo
  have hkn : ∀ k ∈ ks, k < V.n := fun k hk => by have := m2 k hk; omega
  refine ⟨ks, m1, hkn, fun b hb hno => m3 b hb fun k hk hf => hno k hk (hn1.2 k (hkn k hk) b hf), fun k hk b hb => ?_⟩
  rcases m4 k (by omega) b hb with h | ⟨h, ⟨k', h2, h3⟩ | h3⟩
  ·exact .inl (hn1.2 k hk b h)
  ·exact .inr ⟨h, .inl ⟨k', h2, hn1.2 k' (hkn k' h2) b h3⟩⟩
  ·exact .inr ⟨h, .inr h3⟩
theorem run_enter {f : FuncId} (he : Ent P f) (w : World) (args : Array Value) : (callFunc f args).run P w = .ok (.enter f args) w := by
 obtain ⟨fn, hf, hname, hbody⟩ := he
 have hname' : ¬ fn.name = "runtime.NumGoroutine" := by simpa using hname
 cases hb : fn.body with
 | none => rw [hb] at hbody; cases hbody
 | some c => simp [callFunc, hf, hname', hb]
def CallW (P : Program) (t : Ts) (own : Os) (n : Nat) (mo : Mo) (cl : Call) (d : Option Tmp) (fo : Operand) (K : Ts → Os → Nat → Prop) : Prop := match fo with
 | .func f => evs t own cl.args.toList fun gs => callB P f mo gs [] [] own n fun g w n => K (put d g t) w n
 | .tmp j => match look j t with
  | some (.clo f p q) => evs t own cl.args.toList fun gs => callB P f mo gs p q own n fun g w n => K (put d g t) w n
  | some (.v (.func (.func f) p q)) => match p.toList, q.toList with
   | [], [] => evs t own cl.args.toList fun gs => callB P f mo gs [] [] own n fun g w n => K (put d g t) w n
   | _, _ => False
  | _ => False
 | _ => False
theorem call_args {mo : Mo} {cl : Call} {K : Ts → Os → Nat → Prop} {d : Option Tmp} {fo : Operand} (ha : ARep N I V a t) (hH : Has I V own w) (h : CallW P t own n mo cl d fo K) (hfo : cl.callee = .value fo) : ∃ (f : FuncId) (gs p q : List G) (vs : List Value), callB P f mo gs p q own n (fun g w n => K (put d g t) w n) ∧ PW (TRep I V) (p ++ (gs ++ q)) vs ∧ ∀ ty (u : World), (do let d ← resolve a.eval cl ty; invoke d.target d.args : Sem Next).run P u = (callFunc f vs.toArray).run P u := by
 unfold CallW at h
 obtain ⟨callee, args, ats⟩ := cl
 dsimp only at hfo
 subst hfo
 have e : ∀ l : Array Operand, (l.toList.map a.eval).toArray = l.map a.eval := fun l => by cases l; simp
 cases fo with
 | func f =>
  dsimp only at h
  obtain ⟨gs, hk, hg⟩ := evs_ok h ha hH
  refine ⟨f, gs, [], [], _, hk, by simpa using hg, fun ty u => ?_⟩
  have hev : a.eval (.func f) = .func (.func f) #[] #[] := rfl
  simp [resolve, Deferred.ofValue, hev, invoke, e]
 | tmp d =>
  dsimp only at h
  cases hl : look d t with
  | none => rw [hl] at h; exact h.elim
  | some g =>
   rw [hl] at h
   obtain ⟨z, hz, hgz⟩ := ha.get _ _ hl
   have hev : a.eval (.tmp d) = z := by simp [Act.eval, hz]
   cases g with
   | clo f p q =>
    obtain ⟨gs, hk, hg⟩ := evs_ok h ha hH
    obtain ⟨-, us, cs, rfl, hp, hq⟩ := (show TRep1 I V (.clo f p q) z from hgz)
    refine ⟨f, gs, p, q, us ++ (args.toList.map a.eval ++ cs), hk, (hp.mono fun _ _ h => .of_c h).append (hg.append (hq.mono fun _ _ h => .of_c h)), fun ty u => ?_⟩
    simp [resolve, Deferred.ofValue, hev, invoke, ← e]
   | v z' =>
    have ez := trep_v hgz
    subst ez
    split at h
    ·next f p q heq =>
     cases heq
    ·next f p q heq =>
     cases heq
     split at h
     ·next h1 h2 =>
      obtain ⟨gs, hk, hg⟩ := evs_ok h ha hH
      refine ⟨f, gs, [], [], _, hk, by simpa using hg, fun ty u => ?_⟩
      have e1 : p = #[] := by cases p; simp at h1; simp [h1]
      have e2 : q = #[] := by cases q; simp at h2; simp [h2]
      subst e1 e2
      simp [resolve, Deferred.ofValue, hev, invoke, e]
     ·exact h.elim
    ·exact h.elim
   | _ => exact h.elim
 | _ => exact False.elim h
variable {XL : List Nat} {K : Ts → Os → Nat → Prop} {next : Act → World → Prop} {Q : Exit → Act → World → Prop}
theorem op_call {mo : Mo} {cl : Call} {fo : Operand} (ho : o.op = .call cl) (hfo : cl.callee = .value fo) (hH : Has I V own w) (ha : ARep N I V a t) (hd : ∀ i, o.dst = some i → i < N) (h : CallW P t own V.n mo cl o.dst fo K)
  (hn : ∀ t own' I' V' a' w', K t own' V'.n → Later own I V w own' I' V' w' → (mo ≠ .row → ∃ ks : List Nat, mo.lends ks = true ∧ (∀ k ∈ ks, k < V.n) ∧ (∀ b, b < w.heap.size → (∀ k ∈ ks, ¬ V.f k b) → w'.heap[b]? = w.heap[b]?) ∧ ∀ k, k < V.n → ∀ b, V'.f k b → V.f k b ∨ (ks ≠ [] ∧ ((∃ k' ∈ ks, V.f k' b) ∨ w.heap.size ≤ b))) → ARep N I' V' a' t → next a' w') : o.wp P a w next Q := by
 obtain ⟨f, gs, p, q, vs, hF, hg, hrun⟩ := call_args ha hH h hfo
 obtain ⟨k1, k2⟩ := callB_ok hF hH hg
 have hrun : (execOp a.eval o).run P w = .ok (.enter f vs.toArray) w := by
  have := (hrun o.type w).trans (run_enter k1 w vs.toArray)
  simpa only [execOp, ho] using this
 unfold Oper.wp
 rw [hrun, Oper.upon_enter]
 refine k2.mono fun e w' ⟨x, g, own', I', V', he, hk, hl, hx, hm⟩ => ?_
 subst he
 exact hn _ _ _ _ _ _ hk hl hm ((ha.mono hl.fro.mono hl.va).put hd hx)
theorem FnV.toO {f : FuncId} {gs : List G} {Q : G → Prop} (h : FnV P f gs Q) : FnO P f gs [] fun g rs => rs = [] ∧ Q g :=
 ⟨h.1, fun I V w vs hH hn hp => by
  have hp' : PW (VRep I) gs vs := hp.mono fun g x h => by
   have hn : V.n = 0 := hn
   cases g with
   | ptr k o => have := h.1; omega
   | osl k => have := h.1; omega
   | osv k a b c => have := h.1; omega
   | oel k a b c => have := h.1; omega
   | mp k => have := h.1; omega
   | clo f a c =>
    obtain ⟨⟨g, hg, hk⟩, us, cs, -, h1, h2⟩ := h
    have key : ∀ {l : List G} {us : List Value}, g ∈ l → PW (CRep I V) l us → False := fun hm hp => by
     obtain ⟨j, hj, e⟩ := List.mem_iff_getElem.1 hm
     obtain ⟨u, -, hr⟩ := hp.get (by rw [List.getElem?_eq_getElem hj, e])
     cases g with
     | ptr k o => have := hr.1; omega
     | osl k => have := hr.1; omega
     | osv k a b c => have := hr.1; omega
     | oel k a b c => exact hr
     | mp k => have := hr.1; omega
     | _ => cases hk
    rcases hg with hg | hg
    ·exact (key hg h1).elim
    ·exact (key hg h2).elim
   | _ => exact h
  refine (h.2 I w vs hH.mem hp').mono fun e w' ⟨x, g, I', he, hq, hm, hx, hle, hI, hB⟩ => ⟨x, g, [], I', V, he, ⟨rfl, hq⟩, hn, ⟨hm, fun k r h => (by cases h), fun k r h => (by cases h), fun k r b h => (by cases h), fun k k' r r' b h => (by cases h)⟩, ?_, ⟨hB.os, hB.tape, hB.output, hB.size, fun b hb _ => ⟨hB.block b hb, fun o => hI b o hb⟩, hle, fun k r b h => (by cases h)⟩, .refl _⟩
  cases g with
  | tup l => obtain ⟨cs, e, hp⟩ := hx; exact ⟨cs, e, hp.mono fun _ _ h => .of_v h⟩
  | oag l => cases (show VRep I' (.oag l) x from hx)
  | _ => exact PRep.of_v (V := V) hx⟩
theorem FnO.mono {f : FuncId} {gs : List G} {rs : List R} {Q Q' : G → List R → Prop} (h : FnO P f gs rs Q) (hq : ∀ g rs, Q g rs → Q' g rs) : FnO P f gs rs Q' :=
 ⟨h.1, fun I V w vs h1 h2 h3 => (h.2 I V w vs h1 h2 h3).mono fun _ _ ⟨x, g, rs', I', V', e, k1, k2⟩ => ⟨x, g, rs', I', V', e, hq _ _ k1, k2⟩⟩
theorem FnV.cal {f : FuncId} {gs : List G} {Q : G → Prop} {K : G → Os → Nat → Prop} {B : Prop} (h : FnV P f gs Q) (hk : ∀ g, Q g → retK [] own n g [] K) : EvCall (FnO P f gs [] fun g rs => retK [] own n g rs K) B :=
 .pure (h.toO.mono fun g rs ⟨e, hq⟩ => by rw [e]; exact hk g hq)
theorem FnO.cal {f : FuncId} {gs : List G} {rs : List R} {Q : G → List R → Prop} {K : G → Os → Nat → Prop} {B : Prop} (h : FnO P f gs rs Q) (hk : ∀ g rs, Q g rs → retK ks own n g rs K) : EvCall (FnO P f gs rs fun g rs => retK ks own n g rs K) B :=
 .pure (h.mono hk)
end
end Go.Proofs.YtalfffamppmooaaGreatDoor
namespace Go.Proofs.YtalfffamppmooaaGreatDoor
open Go.RowKit
section
variable {κ : Type} {I : Imm} {u : G} {v : Value}
theorem Al.len : ∀ {l : List (κ × G)} {L : List (κ × Value)}, Al I l L → L.length = l.length
 | [], [], _ => rfl
 | _ :: _, _ :: _, h => by simp [Al.len h.2.2]
theorem Al.app (k : κ) : ∀ {l : List (κ × G)} {L : List (κ × Value)}, Al I l L → VRep I u v → Al I (l ++ [(k, u)]) (L ++ [(k, v)])
 | [], [], _, h => ⟨rfl, h, trivial⟩
 | _ :: _, _ :: _, h, h' => ⟨h.1, h.2.1, Al.app k h.2.2 h'⟩
variable [DecidableEq κ]
theorem Al.get (k : κ) : ∀ {l : List (κ × G)} {L : List (κ × Value)}, Al I l L → (aget l k = none → aget L k = none) ∧ ∀ g, aget l k = some g → ∃ v, aget L k = some v ∧ VRep I g v
 | [], [], _ => ⟨fun _ => rfl, fun g h => by cases h⟩
 | (j, g0) :: l, (j', v0) :: L, h => by
  obtain ⟨e, h1, h2⟩ := h
  have e : j' = j := e
  subst e
  obtain ⟨i1, i2⟩ := Al.get k h2
  rw [aget_cons, aget_cons]
  by_cases hk : j' = k
  ·subst hk
   simp only [if_pos]
   exact ⟨fun h => (by cases h), fun g h => (by cases h; exact ⟨_, rfl, h1⟩)⟩
  ·simp only [if_neg hk]
   exact ⟨i1, i2⟩
theorem Al.upd (k : κ) : ∀ {l : List (κ × G)} {L : List (κ × Value)}, Al I l L → VRep I u v → Al I (l.map fun p => if p.1 = k then (k, u) else p) (L.map fun p => if p.1 = k then (k, v) else p)
 | [], [], _, _ => trivial
 | p :: l, q :: L, h, h' => by
  have ih := Al.upd k h.2.2 h'
  rw [List.map_cons, List.map_cons]
  by_cases e : p.1 = k
  ·rw [if_pos e, if_pos (h.1.trans e)]
   exact ⟨rfl, h', ih⟩
  ·rw [if_neg e, if_neg (fun e' => e (h.1.symm.trans e'))]
   exact ⟨h.1, h.2.1, ih⟩
theorem Al.put (k : κ) {l : List (κ × G)} {L : List (κ × Value)} (h : Al I l L) (h' : VRep I u v) : Al I (aput l k u) (aput L k v) := by
 obtain ⟨h1, h2⟩ := h.get k
 unfold aput
 cases hg : aget l k with
 | none => rw [h1 hg]; exact h.app k h'
 | some g =>
  obtain ⟨x, e, -⟩ := h2 g hg
  rw [e]
  exact h.upd k h'
theorem Al.del (k : κ) : ∀ {l : List (κ × G)} {L : List (κ × Value)}, Al I l L → Al I (adel l k) (adel L k)
 | [], [], _ => trivial
 | p :: l, q :: L, h => by
  have ih := Al.del k h.2.2
  unfold adel at ih ⊢
  rw [List.filter_cons, List.filter_cons, h.1]
  by_cases e : p.1 = k
  ·rw [if_neg (by simp [e]), if_neg (by simp [e])]; exact ih
  ·rw [if_pos (by simp [e]), if_pos (by simp [e])]; exact ⟨h.1, h.2.1, ih⟩
end
section
variable {P : Program} {tb : List (Nat × TI)} {N n : Nat} {I I' I0 : Imm} {V V' V0 : Va} {a : Act} {t : Ts} {own own' own0 : Os} {w w' w0 : World} {g : G} {x y : Value} {d : Option Tmp}
variable {XL : List Nat} {S : World → Prop} {K : Ts → Os → Nat → Prop} {next : Act → World → Prop} {Q : Exit → Act → World → Prop} {o : Oper} {r : R}
theorem trep_mp {k : Nat} (h : TRep I V (.mp k) y) : k < V.n ∧ y = .map (some (V.b k)) := h
theorem zero_ok {e : TypeId} {i : TI} (hi : TIok P e i) {K1 : G → Prop} (h : zeroK i K1) : ∃ g z, K1 g ∧ TRep1 I V g z ∧ ∀ w : World, (zeroValue e).run P w = .ok z w := by
 obtain ⟨z, hz1, hz2⟩ := Option.map_eq_some_iff.1 hi.zero
 obtain ⟨j, hj1, hj2⟩ := Option.bind_eq_some_iff.1 hz1
 have hzv : ∀ w : World, (zeroValue e).run P w = .ok z w := fun w => by simp [zeroValue, typeInfo, hj1, hj2]
 have hp : PW (CRep I V) i.zero (i.zero.map G.val) := zero_pw hi
 have hza := hi.zag z hz1
 unfold zeroK at h
 cases hb : i.agg with
 | true =>
  rw [hb, if_pos rfl] at hza
  obtain ⟨cs, rfl⟩ := hza
  rw [hb] at h
  have e2 : cs = (i.zero.map G.val).toArray := by rw [← hz2]; rfl
  subst e2
  dsimp only at h
  unfold mkAgg at h
  split at h
  ·next hall => exact ⟨_, _, h, .of_c (.of_v (.agg i.zero _ hp.1 fun j g u hg hu => (hp.2 j g u hg hu).to_v (allB_mem hall g (List.mem_of_getElem? hg)))), hzv⟩
  ·exact ⟨_, _, h, (⟨_, rfl, hp⟩ : TRep1 I V (.oag i.zero) _), hzv⟩
 | false =>
  rw [hb, if_neg (by simp)] at hza
  rw [hb] at h
  dsimp only at h
  rw [hza] at hz2
  split at h
  ·next g hg =>
   rw [hg] at hz2 hp
   have e2 : z = G.val g := by simpa using hz2
   subst e2
   exact ⟨_, _, h, .of_c (hp.2 0 g _ rfl rfl), hzv⟩
  ·exact h.elim
theorem mget_ok {κ : Type} [DecidableEq κ] {kf : κ → Value} {kt e ty : TypeId} {m : Nat} {l : List (κ × G)} {ti : TI} (hk : KeyOk P kt kf) (ht : P.underlying ty = some (.map kt e)) (hti : TIok P e ti) (hM : MapR I w m kf l) (key : κ) {K1 : G → Bool → Prop} (h : EvGet (aget l key) (fun g => K1 g true) (zeroK ti fun g => K1 g false)) :
  ∃ g b v, K1 g b ∧ TRep1 I V g v ∧ ∀ u : World, u.heap[m]? = w.heap[m]? → (Instr.lookup ty (.map (some m)) (kf key) true).run P u = .ok (.tuple #[v, .bool b]) u ∧ (Instr.lookup ty (.map (some m)) (kf key) false).run P u = .ok v u := by
 obtain ⟨L, hB, hA⟩ := hM
 obtain ⟨h1, h2⟩ := hA.get key
 have hz : ∃ z, ∀ w : World, (zeroValue e).run P w = .ok z w := by
  obtain ⟨z, hz1, hz2⟩ := Option.map_eq_some_iff.1 hti.zero
  obtain ⟨j, hj1, hj2⟩ := Option.bind_eq_some_iff.1 hz1
  exact ⟨z, fun w => by simp [zeroValue, typeInfo, hj1, hj2]⟩
 cases hg : aget l key with
 | some g =>
  obtain ⟨v, e1, hv⟩ := h2 g hg
  obtain ⟨z, hz⟩ := hz
  refine ⟨g, true, v, h.yes g hg, .of_c (.of_v hv), fun u hu => ?_⟩
  have hB' := hB.of_block hu
  have r1 := run_lookup_ok (P := P) hk ht (hz u) hB' key
  have r2 := run_lookup_plain (P := P) hk ht (hz u) hB' key
  rw [e1] at r1 r2
  exact ⟨r1, r2⟩
 | none =>
  obtain ⟨g, z, hk1, hz1, hz2⟩ := zero_ok (I := I) (V := V) hti (h.no hg)
  refine ⟨g, false, z, hk1, hz1, fun u hu => ?_⟩
  have hB' := hB.of_block hu
  have r1 := run_lookup_ok (P := P) hk ht (hz2 u) hB' key
  have r2 := run_lookup_plain (P := P) hk ht (hz2 u) hB' key
  rw [h1 hg] at r1 r2
  exact ⟨r1, r2⟩
theorem MapR.lt {κ : Type} {kf : κ → Value} {m : Nat} {l : List (κ × G)} (h : MapR I w m kf l) : m < w.heap.size := by
 obtain ⟨L, hB, -⟩ := h
 exact hB.lt
theorem q_lookup (hT : ∀ t i, look t tb = some i → TIok P t i) (hXL : ∀ k ∈ XL, ∃ r, look k own = some r) (hS : ∀ u, S u → Agree V XL w u) (hH : Has I V own w) (ha : ARep N I V a t) {ty : TypeId} {z i : Operand} {ok : Bool} (ho : o.op = .lookup ty z i ok)
  (h : match isKd tb ty with
   | .map str e => match look e tb with
    | some ti => ev t own z fun g => ev t own i fun q => mgetK own XL g q str ti (lkK ok fun g => K (put o.dst g t) own V.n)
    | none => False
   | _ => False) : QOk S P I V own w a t o K := by
 unfold isKd at h
 cases hl : look ty tb with
 | none => rw [hl] at h; exact h.elim
 | some ti0 =>
  rw [hl] at h
  dsimp only at h
  have hkd := (hT _ _ hl).kd
  split at h
  ·next str e he =>
   rw [he] at hkd
   obtain ⟨kt, ht, hkt⟩ := hkd
   cases hle : look e tb with
   | none => rw [hle] at h; exact h.elim
   | some ti =>
    rw [hle] at h
    dsimp only at h
    have hti := hT _ _ hle
    obtain ⟨g, hh, hg⟩ := ev_ok h ha hH
    clear h
    have h := hh
    clear hh
    obtain ⟨q, hh, hq⟩ := ev_ok h ha hH
    clear h
    have h := hh
    clear hh
    obtain ⟨K1, hK1⟩ : ∃ K1 : G → Bool → Prop, K1 = lkK ok fun g => K (put o.dst g t) own V.n := ⟨_, rfl⟩
    rw [← hK1] at h
    have fin : ∀ {κ : Type} [DecidableEq κ] {kf : κ → Value} {l : List (κ × G)} (key : κ) {k : Nat}, KeyOk P kt kf → a.eval z = .map (some (V.b k)) → a.eval i = kf key → MapR I w (V.b k) kf l → V.f k (V.b k) → (∃ r, look k own = some r) → k ∉ XL → EvGet (aget l key) (fun g => K1 g true) (zeroK ti fun g => K1 g false) → QOk S P I V own w a t o K := fun {κ _ kf l} key {k} hko e1 e2 hM hf ⟨r, hr⟩ hkX hev => by
     obtain ⟨g, b, v, k1, k2, k3⟩ := mget_ok (V := V) hko ht hti hM key hev
     have hsame : ∀ u, S u → u.heap[V.b k]? = w.heap[V.b k]? := fun u hu => hS u hu _ hM.lt fun k' hk' hf' => by
      obtain ⟨r', hr'⟩ := hXL k' hk'
      exact hkX (hH.disj k k' r r' _ hr hr' hf hf' ▸ hk')
     rw [hK1] at k1
     cases ok with
     | true => exact ⟨_, _, k1, (⟨[v, .bool b], rfl, .cons k2 (.cons (by cases b; exact .of_c (.of_v .ff); exact .of_c (.of_v .tt)) .nil)⟩ : TRep I V (.tup _) (.tuple [v, .bool b].toArray)), fun u hu => by
       simp only [execOp, ho, Sem.run_bind, e1, e2, (k3 u (hsame u hu)).1, Result.andThen_ok, Sem.run_pure]⟩
     | false => exact ⟨_, _, k1, .of_1 k2, fun u hu => by
       simp only [execOp, ho, Sem.run_bind, e1, e2, (k3 u (hsame u hu)).2, Result.andThen_ok, Sem.run_pure]⟩
    unfold mgetK at h
    split at h
    ·next k =>
     obtain ⟨hkn, e1⟩ := trep_mp hg
     split at h
     ·exact h.elim
     ·next hm =>
      have hnm : k ∉ XL := fun h => by rw [memB_mem.2 h] at hm; cases hm
      split at h
      ·next l s hr =>
       have hR := hH.each k _ hr
       exact fin s (str_keyOk (by simpa using hkt)) e1 (trep_v hq) hR.2 ((hR.1 _).2 rfl) ⟨_, hr⟩ hnm h
      ·next l n hr =>
       have hR := hH.each k _ hr
       exact fin n (int_keyOk (by simpa using hkt)) e1 (trep_v hq) hR.2 ((hR.1 _).2 rfl) ⟨_, hr⟩ hnm h
      ·next l m ob s hr =>
       have hR := hH.each k _ hr
       exact fin s (str_keyOk (by simpa using hkt)) e1 (trep_v hq) (by rw [hR.2.1]; exact hR.2.2.2) ((hR.1 _).2 rfl) ⟨_, hr⟩ hnm h
      ·exact h.elim
    ·exact h.elim
  ·exact h.elim
theorem q_lenM (hT : ∀ t i, look t tb = some i → TIok P t i) (hXL : ∀ k ∈ XL, ∃ r, look k own = some r) (hS : ∀ u, S u → Agree V XL w u) (hH : Has I V own w) (ha : ARep N I V a t) {ty : TypeId} {z : Operand} {ti : TI} {str : Bool} {e : TypeId} (hl : look ty tb = some ti) (hkd : ti.kd = .map str e) (ho : o.op = .call { callee := .builtin .len, args := #[z], argTypes := #[ty] })
  (h : ev t own z fun g => match g with
        | .mp k => match look k own, memB k XL with
         | some (.mpS l), false => K (put o.dst (.v (.int .i64 l.length)) t) own V.n
         | some (.mpI l), false => K (put o.dst (.v (.int .i64 l.length)) t) own V.n
         | _, _ => False
        | _ => False) : QOk S P I V own w a t o K := by
 have hk := (hT _ _ hl).kd
 rw [hkd] at hk
 obtain ⟨kt, ht, -⟩ := hk
 obtain ⟨g, hh, hg⟩ := ev_ok h ha hH
 clear h
 have h := hh
 clear hh
 split at h
 ·next k =>
  obtain ⟨hkn, e1⟩ := trep_mp hg
  have fin : ∀ {κ : Type} {kf : κ → Value} {l : List (κ × G)}, [DecidableEq κ] → MapR I w (V.b k) kf l → V.f k (V.b k) → (∃ r, look k own = some r) → memB k XL = false → K (put o.dst (.v (.int .i64 l.length)) t) own V.n → QOk S P I V own w a t o K := fun {κ kf l _} hM hf ⟨r, hr⟩ hm hk => by
   have hnm : k ∉ XL := fun h => by rw [memB_mem.2 h] at hm; cases hm
   have hlt := hM.lt
   obtain ⟨L, hB, hA⟩ := hM
   refine ⟨_, _, hk, .of_v (.v _), fun u hu => ?_⟩
   have hsame : u.heap[V.b k]? = w.heap[V.b k]? := hS u hu _ hlt fun k' hk' hf' => by
    obtain ⟨r', hr'⟩ := hXL k' hk'
    exact hnm (hH.disj k k' r r' _ hr hr' hf hf' ▸ hk')
   have hrun := run_len_map (P := P) (ty := o.type) ht (hB.of_block hsame)
   rw [hA.len] at hrun
   simp [execOp, ho, resolve, invoke, builtin, e1, hrun]
  split at h
  ·next l hr hm =>
   have hR := hH.each k _ hr
   exact fin hR.2 ((hR.1 _).2 rfl) ⟨_, hr⟩ hm h
  ·next l hr hm =>
   have hR := hH.each k _ hr
   exact fin hR.2 ((hR.1 _).2 rfl) ⟨_, hr⟩ hm h
  ·exact h.elim
 ·exact h.elim
theorem q_makeFunc (hH : Has I V own w) (ha : ARep N I V a t) {f : FuncId} {p q : Array Operand} (ho : o.op = .makeFunc (.func f) p q) (h : evs t own p.toList fun a => evs t own q.toList fun c => match allB G.cap a, allB G.cap c with
  | true, true => match allB noKey a, allB noKey c with
   | true, true => match a, c with
    | [], [] => K (put o.dst (.v (.func (.func f) #[] #[])) t) own V.n
    | _, _ => False
   | _, _ => K (put o.dst (.clo f a c) t) own V.n
  | _, _ => False) : QOk S P I V own w a t o K := by
 obtain ⟨a1, h, h1⟩ := evs_ok h ha hH
 obtain ⟨c1, h, h2⟩ := evs_ok h ha hH
 have e : ∀ l : Array Operand, (l.toList.map a.eval).toArray = l.map a.eval := fun l => by cases l; simp
 have run : ∀ u : World, (execOp a.eval o).run P u = .ok (.value (.func (.func f) (p.toList.map a.eval).toArray (q.toList.map a.eval).toArray)) u := fun u => by
  simp only [execOp, ho, Instr.makeFunc, Sem.run_bind, Sem.run_pure, Result.andThen_ok, e]
 have cap : ∀ {l : List G} {us : List Value}, allB G.cap l = true → PW (TRep I V) l us → PW (CRep I V) l us := fun hc hp => ⟨hp.1, fun j g u hg hu => by
  have hh := hp.2 j g u hg hu
  have hc := allB_mem hc g (List.mem_of_getElem? hg)
  cases g <;> first | exact hh | cases hc⟩
 have ex : ∀ {l : List G}, allB noKey l = false → ∃ g ∈ l, noKey g = false := fun {l} => by
  induction l with
  | nil => intro h; cases h
  | cons g l ih =>
   intro h
   unfold allB at h
   cases hg : noKey g with
   | false => exact ⟨g, by simp, hg⟩
   | true =>
    rw [hg] at h
    obtain ⟨g', h1, h2⟩ := ih h
    exact ⟨g', by simp [h1], h2⟩
 split at h
 ·next hc1 hc2 =>
  split at h
  ·split at h
   ·have e1 : p.toList = [] := by have := h1.of_nil; simpa using this
    have e2 : q.toList = [] := by have := h2.of_nil; simpa using this
    refine ⟨_, _, h, .of_v (.v _), fun u _ => ?_⟩
    rw [run u, e1, e2]
    rfl
   ·exact h.elim
  ·next hno =>
   refine ⟨_, _, h, .of_1 (⟨?_, _, _, rfl, cap hc1 h1, cap hc2 h2⟩ : TRep1 I V (.clo f a1 c1) _), fun u _ => run u⟩
   cases hn1 : allB noKey a1 with
   | false => obtain ⟨g, h3, h4⟩ := ex hn1; exact ⟨g, .inl h3, h4⟩
   | true =>
    cases hn2 : allB noKey c1 with
    | false => obtain ⟨g, h3, h4⟩ := ex hn2; exact ⟨g, .inr h3, h4⟩
    | true => exact (hno hn1 hn2).elim
 ·exact h.elim
theorem op_makeMap (hH : Has I V own w) (ha : ARep N I V a t) (hd : ∀ i, o.dst = some i → i < N) (hK : NxtB N own I V w K next) {ty : TypeId} (ho : o.op = .makeMap ty none) (h : match isKd tb ty with
  | .map true _ => K (put o.dst (.mp V.n) t) ((V.n, .mpS []) :: own) (V.n + 1)
  | .map false _ => K (put o.dst (.mp V.n) t) ((V.n, .mpI []) :: own) (V.n + 1)
  | _ => False) : o.wp P a w next Q := by
 have hrun : (execOp a.eval o).run P w = .ok (.value (.map (some w.heap.size))) (w.alloc (.map #[] 0)) := by
  simp only [execOp, ho, Instr.makeMap, Option.map_none, Sem.run_bind, run_newObj_alloc, Sem.run_pure, Result.andThen_ok]
 have fin : ∀ r : R, RRep I (V.push w.heap.size undef (· = w.heap.size)) V.n (w.alloc (.map #[] 0)) r → K (put o.dst (.mp V.n) t) ((V.n, r) :: own) (V.n + 1) → o.wp P a w next Q := fun r hr hk =>
  finB (g := .mp V.n) (y := .map (some w.heap.size)) hK ha hd hrun (later_new hH ((Below.refl _ _).alloc (Nat.le_refl _) _) w.heap.size undef (· = w.heap.size) (fun k e => ⟨Nat.le_of_eq e.symm, by subst e; simp⟩) hr) ((Below.refl _ _).alloc (Nat.le_refl _) _) (.push _ _ _ _) (TRep.of_c (g := .mp V.n) ⟨Nat.lt_succ_self _, by simp [Va.push]⟩) hk
 split at h
 ·exact fin (.mpS []) ⟨fun b => by simp [Va.push], [], by simpa [Va.push] using mapB_new w strK id, trivial⟩ h
 ·exact fin (.mpI []) ⟨fun b => by simp [Va.push], [], by simpa [Va.push] using mapB_new w intK id, trivial⟩ h
 ·exact h.elim
theorem op_range (hT : ∀ t i, look t tb = some i → TIok P t i) (hH : Has I V own w) (ha : ARep N I V a t) (hd : ∀ i, o.dst = some i → i < N) (hK : NxtB N own I V w K next) {ty : TypeId} {z : Operand} (ho : o.op = .range ty z) (h : match look ty tb with
  | some ⟨_, _, none, _, true, _, _⟩ => ev t own z fun g => match g with
   | .v (.string s) => K (put o.dst (.ptr V.n 0) t) ((V.n, .sit s 0) :: own) (V.n + 1)
   | _ => False
  | some ⟨_, _, none, _, false, _, .map true _⟩ => ev t own z fun g => match g with
   | .mp k => match look k own with
    | some (.mpS l) => ∀ m ob, K (put o.dst (.ptr V.n 0) t) ((V.n, .mit k l [] none m ob) :: (k, .mpX l m ob) :: own) (V.n + 1)
    | _ => False
   | _ => False
  | _ => False) : o.wp P a w next Q := by
 split at h
 ·next hl =>
  have hty := (hT _ _ hl).str rfl
  obtain ⟨g, hh, hg⟩ := ev_ok h ha hH
  clear h
  have h := hh
  clear hh
  split at h
  ·next s =>
   have e := trep_v hg
   refine finB (g := .ptr V.n 0) (y := .pointer (some ⟨w.heap.size, 0, none⟩)) hK ha hd (w' := w.alloc (.stringIter s 0)) ?_ (later_new (r := .sit s 0) hH ((Below.refl _ _).alloc (Nat.le_refl _) _) w.heap.size undef (· = w.heap.size) (fun k e => ⟨Nat.le_of_eq e.symm, by subst e; simp⟩) ⟨fun b => by simp [Va.push], by simpa [Va.push] using heap_alloc_new w (.stringIter s 0)⟩) ((Below.refl _ _).alloc (Nat.le_refl _) _) (.push _ _ _ _) (TRep.of_c (g := .ptr V.n 0) ⟨Nat.lt_succ_self _, by simp [Va.push]⟩) h
   simp only [execOp, ho, Instr.range, Sem.run_bind, run_underlying hty, Result.andThen_ok, e, Sem.run_pure, run_newObj_alloc]
  ·exact h.elim
 ·next hl =>
  have hkd := (hT _ _ hl).kd
  obtain ⟨kt, ht, -⟩ := hkd
  obtain ⟨g, hh, hg⟩ := ev_ok h ha hH
  clear h
  have h := hh
  clear hh
  split at h
  ·next k =>
   obtain ⟨hkn, e⟩ := trep_mp hg
   split at h
   ·next l hr =>
    obtain ⟨hf, L, hB, hA⟩ := hH.each k _ hr
    have hB0 := hB
    obtain ⟨es, clock, hb, -, -⟩ := hB
    obtain ⟨w', hrun, hR, hBl, hsz⟩ := run_range_B (P := P) ht hB0
    have hlt := hB0.lt
    have l1 : Later own I V w ((k, .mpX l (V.b k) (.map es clock)) :: own) I V w := later_upd hH hr rfl rfl rfl rfl (fun _ _ => rfl) ⟨hf, rfl, hb, L, hB0, hA⟩
    obtain ⟨it, hit⟩ : ∃ it, w'.heap[w.heap.size]? = some it := ⟨_, Array.getElem?_eq_getElem (by omega)⟩
    refine finB (g := .ptr V.n 0) (y := .pointer (some ⟨w.heap.size, 0, none⟩)) hK ha hd (w' := w') ?_ (l1.trans (later_new (r := .mit k l [] none (V.b k) (.map es clock)) l1.has hBl w.heap.size undef (· = w.heap.size) (fun k e => ⟨Nat.le_of_eq e.symm, by rw [e, hsz]; exact Nat.lt_succ_self _⟩) ⟨fun b => by simp [Va.push], it, L, by simpa [Va.push] using hit, hA, fun w2 e1 e2 => ?_⟩)) hBl (.push _ _ _ _) (TRep.of_c (g := .ptr V.n 0) ⟨Nat.lt_succ_self _, by simp [Va.push]⟩) (h (V.b k) (.map es clock))
    ·simp only [execOp, ho, Sem.run_bind, e, hrun, Result.andThen_ok, Sem.run_pure]
    ·have e3 : (V.push w.heap.size undef (· = w.heap.size)).b V.n = w.heap.size := by simp [Va.push]
     rw [e3] at e2 ⊢
     exact ⟨hR.keep (e2.trans hit.symm) (e1.trans ((hBl.block _ hlt).trans hb).symm), fun kg hk => by cases hk⟩
   ·exact h.elim
  ·exact h.elim
 ·exact h.elim
theorem later_map (h : Has I V own w) {k : Nat} {r0 r : R} (hk : look k own = some r0) (hf : ∀ b, V.f k b ↔ b = V.b k) {ob : Obj} (hr : RRep I V k (putObj w (V.b k) ob) r) : Later own I V w ((k, r) :: own) I V (putObj w (V.b k) ob) :=
 later_upd h hk rfl rfl rfl (putObj_size _ _ _) (fun b hb => putObj_other w ob fun e => hb ((hf b).2 e)) hr
theorem mput_ok (hT : ∀ t i, look t tb = some i → TIok P t i) (hL : Since own0 I0 V0 w0 own I V w) (hK : Nxt N own0 I0 V0 w0 K next) (ha : ARep N I V a t) (hd : ∀ i, o.dst = some i → i < N) {ty : TypeId} {m k z : Operand} (ho : o.op = .mapUpdate ty m k z ∨ o.op = .insert ty m k z) (h : match isKd tb ty with
  | .map str _ => ev t own m fun g => ev t own k fun q => ev t own z fun u => mputK own g q u str fun w => K (put o.dst .un t) w V.n
  | _ => False) : o.wp P a w next Q := by
 unfold isKd at h
 cases hl : look ty tb with
 | none => rw [hl] at h; exact h.elim
 | some ti =>
  rw [hl] at h
  dsimp only at h
  have hkd := (hT _ _ hl).kd
  split at h
  ·next str e he =>
   rw [he] at hkd
   obtain ⟨kt, ht, hkt⟩ := hkd
   obtain ⟨g, hh, hg⟩ := ev_ok h ha hL.has
   clear h
   have h := hh
   clear hh
   obtain ⟨q, hh, hq⟩ := ev_ok h ha hL.has
   clear h
   have h := hh
   clear hh
   obtain ⟨u, hh, hu⟩ := ev_ok h ha hL.has
   clear h
   have h := hh
   clear hh
   unfold mputK at h
   obtain ⟨u', o1, I1, V1, hh, hn1, hl1, hv1⟩ := pur_ok h hu hL.has
   clear h
   have h := hh
   clear hh
   replace hg := hg.mono hl1.fro.mono hl1.va
   replace hq := hq.mono hl1.fro.mono hl1.va
   have fin : ∀ {κ : Type} [DecidableEq κ] {kf : κ → Value} {l : List (κ × G)} (key : κ) {j : Nat} (mk : List (κ × G) → R), (∀ l w, RRep I1 V1 j w (mk l) ↔ (∀ b, V1.f j b ↔ b = V1.b j) ∧ MapR I1 w (V1.b j) kf l) → KeyOk P kt kf → a.eval m = .map (some (V1.b j)) → a.eval k = kf key → look j o1 = some (mk l) → K (put o.dst .un t) ((j, mk (aput l key u')) :: o1) V.n → o.wp P a w next Q := fun {κ _ kf l} key {j} mk hmk hko e1 e2 hr hk => by
    obtain ⟨hf, L, hB, hA⟩ := (hmk l w).1 (hl1.has.each j _ hr)
    obtain ⟨ob, hrun, hB'⟩ := run_update (P := P) hko ht hB key (a.eval z)
    refine fin_skip hK hL ha hd (w' := putObj w (V1.b j) ob) ?_ (hl1.trans (later_map (r := mk (aput l key u')) hl1.has hr hf ((hmk _ _).2 ⟨hf, _, hB', hA.put _ hv1⟩))) (hn1.1 ▸ hk)
    have hrun : (Instr.mapUpdate ty (a.eval m) (a.eval k) (a.eval z)).run P w = .ok () (putObj w (V1.b j) ob) := by rw [e1, e2]; exact hrun
    rcases ho with ho | ho <;> simp only [execOp, ho, Sem.run_bind, hrun, Result.andThen_ok, Sem.run_pure]
   split at h
   ·next j =>
    obtain ⟨hjn, e1⟩ := trep_mp hg
    split at h
    ·next l s hr => exact fin s .mpS (fun l w => Iff.rfl) (str_keyOk (by simpa using hkt)) e1 (trep_v hq) hr h
    ·next l n hr => exact fin n .mpI (fun l w => Iff.rfl) (int_keyOk (by simpa using hkt)) e1 (trep_v hq) hr h
    ·exact h.elim
   ·exact h.elim
  ·exact h.elim
theorem op_delete (hT : ∀ t i, look t tb = some i → TIok P t i) (hL : Since own0 I0 V0 w0 own I V w) (hK : Nxt N own0 I0 V0 w0 K next) (ha : ARep N I V a t) (hd : ∀ i, o.dst = some i → i < N) {ty tk : TypeId} {m k : Operand} (ho : o.op = .call { callee := .builtin .delete, args := #[m, k], argTypes := #[ty, tk] }) (h : match isKd tb ty with
        | .map str _ => ev t own m fun g => ev t own k fun q => mdelK own g q str fun w => K (put o.dst (.tup []) t) w V.n
        | _ => False) : o.wp P a w next Q := by
 unfold isKd at h
 cases hl : look ty tb with
 | none => rw [hl] at h; exact h.elim
 | some ti =>
  rw [hl] at h
  dsimp only at h
  have hkd := (hT _ _ hl).kd
  split at h
  ·next str e he =>
   rw [he] at hkd
   obtain ⟨kt, ht, hkt⟩ := hkd
   obtain ⟨g, hh, hg⟩ := ev_ok h ha hL.has
   clear h
   have h := hh
   clear hh
   obtain ⟨q, hh, hq⟩ := ev_ok h ha hL.has
   clear h
   have h := hh
   clear hh
   have fin : ∀ {κ : Type} [DecidableEq κ] {kf : κ → Value} {l : List (κ × G)} (key : κ) {j : Nat} (mk : List (κ × G) → R), (∀ l w, RRep I V j w (mk l) ↔ (∀ b, V.f j b ↔ b = V.b j) ∧ MapR I w (V.b j) kf l) → KeyOk P kt kf → a.eval m = .map (some (V.b j)) → a.eval k = kf key → look j own = some (mk l) → K (put o.dst (.tup []) t) ((j, mk (adel l key)) :: own) V.n → o.wp P a w next Q := fun {κ _ kf l} key {j} mk hmk hko e1 e2 hr hk => by
    obtain ⟨hf, L, hB, hA⟩ := (hmk l w).1 (hL.has.each j _ hr)
    obtain ⟨ob, hrun, hB'⟩ := run_delete (P := P) (ty := o.type) (tk := tk) hko ht hB key
    refine fin hK hL ha hd (g := .tup []) (y := .tuple #[]) (w' := putObj w (V.b j) ob) ?_ (later_map (r := mk (adel l key)) hL.has hr hf ((hmk _ _).2 ⟨hf, _, hB', hA.del _⟩)) (⟨[], rfl, .nil⟩ : TRep I V (.tup []) (.tuple #[])) hk
    simp [execOp, ho, resolve, invoke, builtin, e1, e2, hrun]
   unfold mdelK at h
   split at h
   ·next j =>
    obtain ⟨hjn, e1⟩ := trep_mp hg
    split at h
    ·next l s hr => exact fin s .mpS (fun l w => Iff.rfl) (str_keyOk (by simpa using hkt)) e1 (trep_v hq) hr h
    ·next l n hr => exact fin n .mpI (fun l w => Iff.rfl) (int_keyOk (by simpa using hkt)) e1 (trep_v hq) hr h
    ·exact h.elim
   ·exact h.elim
  ·exact h.elim
theorem op_next (hL : Since own0 I0 V0 w0 own I V w) (hK : Nxt N own0 I0 V0 w0 K next) (ha : ARep N I V a t) (hd : ∀ i, o.dst = some i → i < N) {z : Operand} (ho : o.op = .next z true) (h : ev t own z fun g => match g with
  | .ptr k 0 => match look k own with
   | some (.sit s pos) => EvIf (decide (pos < s.size)) (K (put o.dst (.tup [.tt, .v (.int .i64 pos), .v (.int .i32 (Utf8.decode s pos).1)]) t) ((k, .sit s (pos + (Utf8.decode s pos).2)) :: own) V.n) (K (put o.dst (.tup [.ff]) t) own V.n)
   | _ => False
  | _ => False) : o.wp P a w next Q := by
 obtain ⟨g, hh, hg⟩ := ev_ok h ha hL.has
 clear h
 have h := hh
 clear hh
 split at h
 ·next k =>
  obtain ⟨hkn, e⟩ := trep_ptr hg
  split at h
  ·next s pos hr =>
   obtain ⟨hf, hb⟩ := hL.has.each k _ hr
   have hlt := (Array.getElem?_eq_some_iff.1 hb).1
   have hget : (getObj (V.b k)).run P w = .ok (.stringIter s pos) w := by simp [getObj, Sem.run, hb]
   have hset : ∀ ob, (setObj (V.b k) ob).run P w = .ok () (putObj w (V.b k) ob) := fun ob => by simp [setObj, Sem.run, hb, putObj]
   by_cases hp : pos < s.size
   ·refine fin hK hL ha hd (g := .tup [.tt, .v (.int .i64 pos), .v (.int .i32 (Utf8.decode s pos).1)]) (y := .tuple #[.bool true, .int .i64 pos, .int .i32 (Utf8.decode s pos).1]) (w' := putObj w (V.b k) (.stringIter s (pos + (Utf8.decode s pos).2))) ?_ (later_map (r := .sit s (pos + (Utf8.decode s pos).2)) hL.has hr hf ⟨hf, putObj_heap w _ hlt⟩) (⟨[.bool true, .int .i64 pos, .int .i32 (Utf8.decode s pos).1], rfl, .cons (.of_c (.of_v .tt)) (.cons (.of_c (.of_v (.v _))) (.cons (.of_c (.of_v (.v _))) .nil))⟩ : TRep I V (.tup [.tt, .v (.int .i64 pos), .v (.int .i32 (Utf8.decode s pos).1)]) _) (h.yes (by simpa using hp))
    simp [execOp, ho, Instr.next, e, hget, hp, hset, goInt]
   ·refine fin hK hL ha hd (g := .tup [.ff]) (y := .tuple #[.bool false]) (w' := w) ?_ (.refl hL.has) (⟨[.bool false], rfl, .cons (.of_c (.of_v .ff)) .nil⟩ : TRep I V (.tup [.ff]) _) (h.no (by simpa using hp))
    simp [execOp, ho, Instr.next, e, hget, hp]
  ·exact h.elim
 ·exact h.elim
theorem Al.keys {κ : Type} : ∀ {l : List (κ × G)} {L : List (κ × Value)}, Al I l L → L.map (·.1) = l.map (·.1)
 | [], [], _ => rfl
 | p :: l, q :: L, h => by simp [h.1, Al.keys h.2.2]
theorem Al.mem {κ : Type} {k : κ} {v : Value} : ∀ {l : List (κ × G)} {L : List (κ × Value)}, Al I l L → (k, v) ∈ L → ∃ g, (k, g) ∈ l ∧ VRep I g v
 | [], [], _, hm => by cases hm
 | p :: l, q :: L, h, hm => by
  rcases List.mem_cons.1 hm with e | hm
  ·subst e
   exact ⟨p.2, by rw [show k = p.1 from h.1]; simp, h.2.1⟩
  ·obtain ⟨g, h1, h2⟩ := Al.mem h.2.2 hm
   exact ⟨g, by simp [h1], h2⟩
theorem op_nextM (hL : Since own0 I0 V0 w0 own I V w) (hK : Nxt N own0 I0 V0 w0 K next) (ha : ARep N I V a t) (hd : ∀ i, o.dst = some i → i < N) {z : Operand} (ho : o.op = .next z false) (h : ev t own z fun g => match g with
  | .ptr j 0 => match look j own with
   | some (.mit k l D _ m ob) => match look k own with
    | some (.mpX l' m' ob') => (m' = m ∧ ob' = ob) ∧ EvRan l D (fun key g => K (put o.dst (.tup [.tt, .v (.string key), g]) t) ((j, .mit k l (D ++ [key]) (some (key, g)) m ob) :: own) V.n) (K (put o.dst (.tup [.ff]) t) ((k, .mpS l') :: own) V.n)
    | _ => False
   | _ => False
  | _ => False) : o.wp P a w next Q := by
 obtain ⟨g, hh, hg⟩ := ev_ok h ha hL.has
 clear h
 have h := hh
 clear hh
 split at h
 ·next j =>
  obtain ⟨hkn, e⟩ := trep_ptr hg
  split at h
  ·next k l D last m ob hr =>
   obtain ⟨hf, it, L, hit, hA, hU⟩ := hL.has.each j _ hr
   split at h
   ·next l' m' ob' hr2 =>
    obtain ⟨⟨rfl, rfl⟩, h⟩ := h
    obtain ⟨hf2, hbk, hob, hM⟩ := hL.has.each k _ hr2
    have hR := (hU w hob hit).1
    have hlj := hR.lt
    have hlm : m' < w.heap.size := (Array.getElem?_eq_some_iff.1 hob).1
    have hjm : m' ≠ V.b j := fun e => by
     have e1 : V.f j m' := (hf _).2 e
     have e2 : V.f k m' := (hf2 _).2 hbk.symm
     have e3 := hL.has.disj j k _ _ m' hr hr2 e1 e2
     subst e3
     rw [hr] at hr2
     cases hr2
    rcases run_next_B (P := P) hR o.type with ⟨hall, hrun⟩ | ⟨key, v, w', hmem, hnd, hrun, hR', hgr, hsz, hent⟩
    ·have hkeys := hA.keys
     have hn := hR.map.nodup
     refine fin hK hL ha hd (g := .tup [.ff]) (y := .tuple #[.bool false]) (w' := w) ?_ (later_upd (r := .mpS l') hL.has hr2 rfl rfl rfl rfl (fun _ _ => rfl) ⟨hf2, by rw [hbk]; exact hM⟩) (⟨[.bool false], rfl, .cons (.of_c (.of_v .ff)) .nil⟩ : TRep I V (.tup [.ff]) _) (h.done (by rw [← hkeys]; exact hn) ((List.perm_ext_iff_of_nodup (by rw [← hkeys]; exact hn) hR.nodup).2 fun x => ?_))
     ·simp only [execOp, ho, Sem.run_bind, e, hrun, Result.andThen_ok, Sem.run_pure]
     ·rw [← hkeys]
      constructor
      ·intro hx
       obtain ⟨p, hp, rfl⟩ := List.mem_map.1 hx
       exact hall p hp
      ·intro hx
       obtain ⟨v, hv⟩ := hR.sub x hx
       exact List.mem_map.2 ⟨_, hv, rfl⟩
    ·obtain ⟨gv, hgl, hgv⟩ := hA.mem hmem
     have hbl : ∀ b, ¬ V.f j b → w'.heap[b]? = w.heap[b]? := fun b hb => by
      by_cases hlt : b < w.heap.size
      ·exact hgr.block b hlt fun e => hb ((hf b).2 (by cases e; rfl))
      ·rw [Array.getElem?_eq_none (by omega), Array.getElem?_eq_none (by omega)]
     obtain ⟨it', hit'⟩ : ∃ it', w'.heap[V.b j]? = some it' := ⟨_, Array.getElem?_eq_getElem (by omega)⟩
     have hm' : w'.heap[m']? = some ob' := (hbl m' fun hb => hjm ((hf _).1 hb)).trans hob
     have hlen := hR.len_lt hmem hnd
     rw [hA.len] at hlen
     refine fin hK hL ha hd (g := .tup [.tt, .v (.string key), gv]) (y := .tuple #[.bool true, strK key, id v]) (w' := w') ?_ (later_upd (r := .mit k l (D ++ [key]) (some (key, gv)) m' ob') hL.has hr hgr.os hgr.tape hgr.output hsz hbl ⟨hf, it', L, hit', hA, fun w2 e1 e2 => ⟨hR'.keep (e2.trans hit'.symm) (e1.trans hm'.symm), fun kg hk => ?_⟩⟩) (⟨[.bool true, strK key, id v], rfl, .cons (.of_c (.of_v .tt)) (.cons (.of_c (.of_v (.v _))) (.cons (.of_c (.of_v hgv)) .nil))⟩ : TRep I V (.tup [.tt, .v (.string key), gv]) _) (h.next key gv hgl hnd hlen)
     ·simp only [execOp, ho, Sem.run_bind, e, hrun, Result.andThen_ok, Sem.run_pure]
     ·cases hk
      exact ⟨v, hgv, fun P' => hent P' w2 (e2.trans hit'.symm) (e1.trans hm'.symm)⟩
   ·exact h.elim
  ·exact h.elim
 ·exact h.elim
theorem op_entry (hL : Since own0 I0 V0 w0 own I V w) (hK : Nxt N own0 I0 V0 w0 K next) (ha : ARep N I V a t) (hd : ∀ i, o.dst = some i → i < N) {z : Operand} (ho : o.op = .entry z) (h : ev t own z fun g => match g with
  | .ptr j 0 => match look j own with
   | some (.mit k _ _ (some (key, g)) m ob) => match look k own with
    | some (.mpX _ m' ob') => (m' = m ∧ ob' = ob) ∧ K (put o.dst (.tup [.v (.string key), g]) t) own V.n
    | _ => False
   | _ => False
  | _ => False) : o.wp P a w next Q := by
 obtain ⟨g, hh, hg⟩ := ev_ok h ha hL.has
 clear h
 have h := hh
 clear hh
 split at h
 ·next j =>
  obtain ⟨hkn, e⟩ := trep_ptr hg
  split at h
  ·next k l D key gv m ob hr =>
   obtain ⟨hf, it, L, hit, hA, hU⟩ := hL.has.each j _ hr
   split at h
   ·next l' m' ob' hr2 =>
    obtain ⟨⟨rfl, rfl⟩, h⟩ := h
    obtain ⟨hf2, hbk, hob, hM⟩ := hL.has.each k _ hr2
    obtain ⟨v, hv, hrun⟩ := (hU w hob hit).2 _ rfl
    refine fin hK hL ha hd (g := .tup [.v (.string key), gv]) (y := .tuple #[.string key, v]) (w' := w) ?_ (.refl hL.has) (⟨[.string key, v], rfl, .cons (.of_c (.of_v (.v _))) (.cons (.of_c (.of_v hv)) .nil)⟩ : TRep I V (.tup [.v (.string key), gv]) _) h
    simp only [execOp, ho, Sem.run_bind, e, hrun P, Result.andThen_ok, Sem.run_pure]
   ·exact h.elim
  ·exact h.elim
 ·exact h.elim
theorem q_nilCheck (hH : Has I V own w) (ha : ARep N I V a t) {z : Operand} (ho : o.op = .nilCheck z) (h : ev t own z fun g => match g with
  | .ptr k off => K (put o.dst (.ptr k off) t) own V.n
  | .clo f a c => K (put o.dst (.clo f a c) t) own V.n
  | .v (.func (.func f) a c) => K (put o.dst (.v (.func (.func f) a c)) t) own V.n
  | _ => False) : QOk S P I V own w a t o K := by
 obtain ⟨g, hh, hg⟩ := ev_ok h ha hH
 clear h
 split at hh
 ·next k off =>
  obtain ⟨-, e⟩ := trep_ptr hg
  exact ⟨_, _, hh, hg, fun u _ => by simp only [execOp, ho, e]; rfl⟩
 ·next f p q =>
  have hg2 := hg
  obtain ⟨-, us, cs, e, -⟩ := hg2
  exact ⟨_, _, hh, hg, fun u _ => by simp only [execOp, ho, e]; rfl⟩
 ·next f p q =>
  have e := trep_v hg
  exact ⟨_, _, hh, hg, fun u _ => by simp only [execOp, ho, e]; rfl⟩
 ·exact hh.elim
end
end Go.Proofs.YtalfffamppmooaaGreatDoor
namespace Go.Proofs.YtalfffamppmooaaGreatDoor
open Go.RowKit
section
variable {P : Program} {md : Region.Mode} {ops : Array Oper} {Q : Exit → Act → World → Prop} {S : World → Prop} {late : List Nat}
def reachB (md : Region.Mode) (ops : Array Oper) : Nat → Nat → Nat → Bool
 | 0, _, _ => false
 | n + 1, j, i => match ops[j]? with
  | some o => o.after.toList.any fun e => Region.binds md e && (e.on == i || reachB md ops n e.on i)
  | none => false
def Closed (md : Region.Mode) (ops : Array Oper) (listed : Array Bool) : Prop := ∀ j o, ops[j]? = some o → listed.getD j false = true → ∀ e ∈ o.after, Region.binds md e = true → listed.getD e.on false = true
theorem reach_listed {listed : Array Bool} (hc : Closed md ops listed) {i : Nat} : ∀ (n j : Nat), (∀ o, ops[j]? = some o → ∀ e ∈ o.after, Region.binds md e = true → listed.getD e.on false = true) → reachB md ops n j i = true → listed.getD i false = true
 | 0, _, _, h => by cases h
 | n + 1, j, hj, h => by
  unfold reachB at h
  cases ho : ops[j]? with
  | none => rw [ho] at h; cases h
  | some o =>
   rw [ho] at h
   obtain ⟨e, he, hb⟩ := List.any_eq_true.1 h
   rw [Bool.and_eq_true, Bool.or_eq_true] at hb
   have he' : e ∈ o.after := by simpa using he
   have hl := hj o ho e he' hb.1
   rcases hb.2 with h1 | h1
   ·have : e.on = i := by simpa using h1
    rw [← this]; exact hl
   ·exact reach_listed hc n e.on (fun o' ho' => hc e.on o' ho' hl) h1
theorem closed_set {listed : Array Bool} (hc : Closed md ops listed) {i : Nat} (hr : i ∈ Region.ready md ops listed) : Closed md ops (listed.setIfInBounds i true) := fun j o ho hj e he hb => by
 by_cases hji : i = j
 ·subst hji
  obtain ⟨_, o', ho', hall⟩ := mem_ready.1 hr
  rw [ho] at ho'
  injection ho' with ho'
  subst ho'
  exact getD_set_true (hall e he hb)
 ·rw [getD_set_ne false hji] at hj
  exact getD_set_true (hc j o ho hj e he hb)
theorem closed_start (n : Nat) (hn : n = ops.size) : Closed md ops (Array.replicate n false) := fun j o ho hj => by
 have hlt : j < ops.size := (Array.getElem?_eq_some_iff.1 ho).1
 subst hn
 simp [hlt] at hj
def wpAnyL (P : Program) (md : Region.Mode) (ops : Array Oper) (Q : Exit → Act → World → Prop) (S : World → Prop) (late : List Nat) : Nat → Array Bool → Act → World → Prop
 | 0, listed, a, w => Region.ready md ops listed = [] ∧ Q .normal a w
 | fuel + 1, listed, a, w =>
  (Region.ready md ops listed = [] → Q .normal a w) ∧
  ∀ i ∈ Region.ready md ops listed, wpOp P ops Q i (fun a' w' => (i ∉ late → S w') ∧ (Closed md ops (listed.setIfInBounds i true) → wpAnyL P md ops Q S late fuel (listed.setIfInBounds i true) a' w')) a w
def lateOk (md : Region.Mode) (ops : Array Oper) (late : List Nat) (i : Nat) : Bool := late.all fun j => reachB md ops ops.size j i
def AllL (P : Program) (md : Region.Mode) (ops : Array Oper) (Q : Exit → Act → World → Prop) (S : World → Prop) (late : List Nat) (fuel : Nat) (listed : Array Bool) (a : Act) (w : World) (rs : List Nat) : Prop :=
 ∀ i ∈ rs, wpOp P ops Q i (fun a' w' => (i ∉ late → S w') ∧ (Closed md ops (listed.setIfInBounds i true) → wpAnyL P md ops Q S late fuel (listed.setIfInBounds i true) a' w')) a w
theorem AllL.nil {fuel : Nat} {listed : Array Bool} {a : Act} {w : World} : AllL P md ops Q S late fuel listed a w [] := fun _ h => by cases h
theorem AllL.cons {fuel : Nat} {listed : Array Bool} {a : Act} {w : World} {i : Nat} {oi : Oper} {rs : List Nat} (hi : ops[i]? = some oi)
  (h : ∀ K : Act → World → Prop, Shut (∀ a w, (i ∉ late → S w) → ((i ∉ late → S w) → Closed md ops (listed.setIfInBounds i true) → wpAnyL P md ops Q S late fuel (listed.setIfInBounds i true) a w) → K a w) → if Region.wanted oi (yielded ops a.tmps) = true then oi.wp P a w K Q else K (a.put oi.dst undef) w)
  (hs : AllL P md ops Q S late fuel listed a w rs) : AllL P md ops Q S late fuel listed a w (i :: rs) := fun j hj => by
 rcases List.mem_cons.1 hj with rfl | hj
 ·exact wpOp_step hi (fun K hK => h K (fun a w hS hW => hK a w ⟨hS, hW hS⟩))
 ·exact hs j hj
end
section
variable {P : Program} {ops : Array Oper} {Q : Exit → Act → World → Prop} {w0 w : World} {L : List (Nat × List Value × TypeId)} {U : List (World × List Nat)} {a : Act} {o : Oper} {ty t : TypeId} {i g k : Nat} {row : List Value} {v : Value}
theorem Env.sub {U' : List (World × List Nat)} (h : Env w0 w L U) (hU : ∀ q ∈ U', q ∈ U) : Env w0 w L U' := ⟨h.blw, h.own, h.sep, fun q hq => h.sn q (hU q hq)⟩
theorem wanted_none (hg : o.guard = none) : Region.wanted o (yielded ops a.tmps) = true := by unfold Region.wanted; rw [hg]
theorem yi_pass {S : World → Prop} (hw : Region.wanted o (yielded ops a.tmps) = false) : YieldsIf P ops S o undef a := .inr ⟨hw, rfl⟩
theorem yi_run {S : World → Prop} (hw : Region.wanted o (yielded ops a.tmps) = true) (hr : ∀ w, S w → (execOp a.eval o).run P w = .ok (.value v) w) : YieldsIf P ops S o v a := .inl ⟨hw, hr⟩
end
section
variable {P : Program} {ops : Array Oper} {w0 w : World} {L : List (Nat × List Value × TypeId)} {U : List (World × List Nat)} {a : Act} {o : Oper} {α : Type} {sz : Nat} {f : α → List Value} {l : List α}
end
end Go.Proofs.YtalfffamppmooaaGreatDoor
namespace Go.Proofs.YtalfffamppmooaaGreatDoor
open Go.RowKit
section
variable {P : Program} {md : Region.Mode} {ops : Array Oper} {Q : Exit → Act → World → Prop} {S : World → Prop} {late : List Nat}
def wpAnyG (P : Program) (md : Region.Mode) (ops : Array Oper) (Q : Exit → Act → World → Prop) (late : List Nat) : Nat → (World → Prop) → Array Bool → Act → World → Prop
 | 0, _, listed, a, w => Region.ready md ops listed = [] ∧ Q .normal a w
 | fuel + 1, S, listed, a, w =>
  (Region.ready md ops listed = [] → Q .normal a w) ∧
  ∀ i ∈ Region.ready md ops listed, wpOp P ops Q i (fun a' w' => ∃ S' : World → Prop, (i ∉ late → ∀ u, S' u → S u) ∧ S' w' ∧ (Closed md ops (listed.setIfInBounds i true) → wpAnyG P md ops Q late fuel S' (listed.setIfInBounds i true) a' w')) a w
theorem wpAny_of_G : ∀ (fuel : Nat) (S : World → Prop) (listed : Array Bool) (a : Act) (w : World), Closed md ops listed → wpAnyG P md ops Q late fuel S listed a w → wpAny P md ops Q fuel listed a w
 | 0, _, _, _, _, _, h => h
 | fuel + 1, _, _, _, _, hc, h => ⟨h.1, fun i hi => wpOp_mono (fun a' w' ⟨S', _, _, h'⟩ => wpAny_of_G fuel S' _ a' w' (closed_set hc hi) (h' (closed_set hc hi))) (h.2 i hi)⟩
theorem YieldsIf.sub {o : Oper} {v : Value} {a : Act} {S' : World → Prop} (h : YieldsIf P ops S o v a) (hs : ∀ u, S' u → S u) : YieldsIf P ops S' o v a :=
 h.imp (fun h => ⟨h.1, fun u hu => h.2 u (hs u hu)⟩) id
theorem wpAnyG_first {i N : Nat} {oi : Oper} {v : Value} (hi : ops[i]? = some oi) (hsel : ∀ (j : Nat) (o : Oper) cs b, ops[j]? = some o → o.op ≠ .select cs b)
  (hQ : ∀ c a w, Q (.panic c) (a.put oi.dst v) w → Q (.panic c) a w) (hlate : ∀ j ∈ late, reachB md ops N j i = true) :
  ∀ (fuel : Nat) (S : World → Prop) (listed : Array Bool) (a : Act) (w : World), Closed md ops listed →
   (∀ j oj, ops[j]? = some oj → j ≠ i → listed.getD j true = false → (∀ e ∈ oj.after, Region.binds md e = true → e.on ≠ i) → oi.apart ops oj = true) →
   i ∈ Region.ready md ops listed → YieldsIf P ops S oi v a → S w →
   wpAnyG P md ops Q late fuel S (listed.setIfInBounds i true) (a.put oi.dst v) w → wpAnyG P md ops Q late (fuel + 1) S listed a w := by
 intro fuel
 induction fuel with
 | zero =>
  intro S listed a w hc _ hr hy hS H
  refine ⟨fun h => (by rw [h] at hr; cases hr), fun j hj => ?_⟩
  by_cases hji : j = i
  ·subst hji; exact hy.wpOp hi hS ⟨S, fun _ _ h => h, hS, fun _ => H⟩
  ·have := ready_mono hj hji
   rw [H.1] at this
   cases this
 | succ fuel ih =>
  intro S listed a w hc hfree hr hy hS H
  refine ⟨fun h => (by rw [h] at hr; cases hr), fun j hj => ?_⟩
  by_cases hji : j = i
  ·subst hji; exact hy.wpOp hi hS ⟨S, fun _ _ h => h, hS, fun _ => H⟩
  ·have h1 := H.2 j (ready_mono hj hji)
   obtain ⟨hjun, oj, hoj, hall⟩ := mem_ready.1 hj
   have hiun := (mem_ready.1 hr).1
   have hcon : ∀ {b : Bool}, listed.getD i b = true → b = false → False := fun hb hb0 => by
    subst hb0
    rcases Nat.lt_or_ge i listed.size with h' | h'
    ·simp [h'] at hiun hb; rw [hiun] at hb; cases hb
    ·simp [Array.getElem?_eq_none h'] at hb
   have hjl : j ∉ late := fun hm => hcon (reach_listed hc N j (fun o ho => by
    rw [hoj] at ho
    injection ho with ho
    subst ho
    exact hall) (hlate j hm)) rfl
   have hnot : ∀ e ∈ oj.after, Region.binds md e = true → e.on ≠ i := fun e he hb heq => by
    have h1 := hall e he hb
    rw [heq] at h1
    exact hcon h1 rfl
   have h2 := wpOp_putIf hoj (hfree j oj hoj hji hjun hnot) (fun cs b => hsel i oi cs b hi) (fun cs b => hsel j oj cs b hoj) hQ hy h1
   have hfree' : ∀ k ok, ops[k]? = some ok → k ≠ i → (listed.setIfInBounds j true).getD k true = false →
     (∀ e ∈ ok.after, Region.binds md e = true → e.on ≠ i) → oi.apart ops ok = true := fun k ok hk hki hun hno => by
    refine hfree k ok hk hki ?_ hno
    by_cases hjk : j = k
    ·subst hjk; exact hjun
    ·rw [getD_set_ne true hjk] at hun; exact hun
   refine wpOp_mono (fun a' w' h3 => ?_) h2
   obtain ⟨hy3, S', hs1, hs2, h3⟩ := h3
   refine ⟨S', hs1, hs2, fun hcj => ih S' (listed.setIfInBounds j true) a' w' hcj hfree' (ready_mono hr (Ne.symm hji)) (YieldsIf.sub (S := S) hy3 (hs1 hjl)) hs2 ?_⟩
   rw [Array.setIfInBounds_comm _ _ hji]
   exact h3 (by rw [Array.setIfInBounds_comm _ _ (Ne.symm hji)]; exact closed_set hcj (ready_mono hr (Ne.symm hji)))
theorem wpAnyG_firstP {i : Nat} {oi : Oper} {v : Value} (hi : ops[i]? = some oi) (hsel : ∀ (j : Nat) (o : Oper) cs b, ops[j]? = some o → o.op ≠ .select cs b)
  (hQ : ∀ c a w, Q (.panic c) (a.put oi.dst v) w → Q (.panic c) a w) :
  ∀ (fuel : Nat) (S : World → Prop) (listed : Array Bool) (a : Act) (w : World), Closed md ops listed →
   (∀ j oj, ops[j]? = some oj → j ≠ i → listed.getD j true = false → (∀ e ∈ oj.after, Region.binds md e = true → e.on ≠ i) → oi.apart ops oj = true) →
   i ∈ Region.ready md ops listed → YieldsIf P ops (fun _ => True) oi v a → S w →
   wpAnyG P md ops Q late fuel S (listed.setIfInBounds i true) (a.put oi.dst v) w → wpAnyG P md ops Q late (fuel + 1) S listed a w := by
 intro fuel
 induction fuel with
 | zero =>
  intro S listed a w hc _ hr hy hS H
  refine ⟨fun h => (by rw [h] at hr; cases hr), fun j hj => ?_⟩
  by_cases hji : j = i
  ·subst hji; exact hy.wpOp hi trivial ⟨S, fun _ _ h => h, hS, fun _ => H⟩
  ·have := ready_mono hj hji
   rw [H.1] at this
   cases this
 | succ fuel ih =>
  intro S listed a w hc hfree hr hy hS H
  refine ⟨fun h => (by rw [h] at hr; cases hr), fun j hj => ?_⟩
  by_cases hji : j = i
  ·subst hji; exact hy.wpOp hi trivial ⟨S, fun _ _ h => h, hS, fun _ => H⟩
  ·have h1 := H.2 j (ready_mono hj hji)
   obtain ⟨hjun, oj, hoj, hall⟩ := mem_ready.1 hj
   have hiun := (mem_ready.1 hr).1
   have hnot : ∀ e ∈ oj.after, Region.binds md e = true → e.on ≠ i := fun e he hb heq => by
    have h1 := hall e he hb
    rw [heq] at h1
    rcases Nat.lt_or_ge i listed.size with h' | h'
    ·simp [h'] at hiun h1; rw [hiun] at h1; cases h1
    ·simp [Array.getElem?_eq_none h'] at h1
   have h2 := wpOp_putIf hoj (hfree j oj hoj hji hjun hnot) (fun cs b => hsel i oi cs b hi) (fun cs b => hsel j oj cs b hoj) hQ hy h1
   have hfree' : ∀ k ok, ops[k]? = some ok → k ≠ i → (listed.setIfInBounds j true).getD k true = false →
     (∀ e ∈ ok.after, Region.binds md e = true → e.on ≠ i) → oi.apart ops ok = true := fun k ok hk hki hun hno => by
    refine hfree k ok hk hki ?_ hno
    by_cases hjk : j = k
    ·subst hjk; exact hjun
    ·rw [getD_set_ne true hjk] at hun; exact hun
   refine wpOp_mono (fun a' w' h3 => ?_) h2
   obtain ⟨hy3, S', hs1, hs2, h3⟩ := h3
   refine ⟨S', hs1, hs2, fun hcj => ih S' (listed.setIfInBounds j true) a' w' hcj hfree' (ready_mono hr (Ne.symm hji)) hy3 hs2 ?_⟩
   rw [Array.setIfInBounds_comm _ _ hji]
   exact h3 (by rw [Array.setIfInBounds_comm _ _ (Ne.symm hji)]; exact closed_set hcj (ready_mono hr (Ne.symm hji)))
end
section
variable {P : Program} {tb : List (Nat × TI)} {N n : Nat} {I I' I0 : Imm} {V V' V0 : Va} {a : Act} {t : Ts} {own own' own0 : Os} {w w' w0 : World} {g : G} {y : Value} {d : Option Tmp}
variable {XL : List Nat} {mo : Mo} {S : World → Prop} {K : Ts → Os → Nat → Prop} {next : Act → World → Prop} {Q : Exit → Act → World → Prop} {o : Oper}
theorem sxOp_q (hT : ∀ t i, look t tb = some i → TIok P t i) (hXL : ∀ k ∈ mo.xl, ∃ r, look k own = some r) (hS : isR tb o = true → ∀ u, S u → Agree V mo.xl w u) (hq : isQ tb o = true) (h : sxOp P tb mo o t own V.n K) (hH : Has I V own w) (ha : ARep N I V a t) : QOk S P I V own w a t o K := by
 obtain ⟨dst, op, type, pos, after, guard⟩ := o
 cases op with
 | move x => exact q_move hH ha (.inl rfl) h
 | assign x =>
  unfold sxOp at h
  unfold isQ at hq
  dsimp only at h hq
  split at h
  ·cases hq
  ·exact q_move hH ha (.inr rfl) h
 | pick c x y => exact q_pick hH ha rfl h
 | load ty x => exact q_load hT hH ha hXL (hS rfl) rfl h
 | fieldAddr ty x f => exact q_fieldAddr hT hH ha rfl h
 | field ty x f => exact q_field hT hH ha rfl h
 | indexAddr ty x i => exact q_indexAddr hT hH ha rfl h
 | index ty x i => exact q_index hT hH ha rfl h
 | binOp op ty x y ty' => exact q_bin hT hH ha rfl h
 | unOp op ty x =>
  cases op with
  | not => exact q_not hH ha rfl h
  | _ => exact False.elim h
 | extract x i => exact q_extract hH ha rfl h
 | nilCheck x => exact q_nilCheck hH ha rfl h
 | makeFunc fn p q =>
  cases fn with
  | func f => exact q_makeFunc hH ha rfl h
  | _ => exact False.elim h
 | lookup ty x i ok => exact q_lookup hT hXL (hS rfl) hH ha rfl h
 | build ty parts => exact q_build hT hH ha rfl h
 | slice ty x lo hi mx =>
  cases mx with
  | some _ => exact False.elim h
  | none => exact q_slice hT hH ha rfl hq h
 | convert src dst x =>
  unfold sxOp at h
  unfold isQ at hq
  dsimp only at h hq
  split at h
  ·next p q hp hq2 =>
   rw [hp, hq2] at hq
   dsimp only at hq
   split at h
   ·next e sz h1 h2 => rw [h1, h2] at hq; cases hq
   ·exact q_conv hT (hS rfl) hH ha rfl hp hq2 h
  ·exact h.elim
 | call c =>
  obtain ⟨callee, args, argTypes⟩ := c
  cases callee with
  | builtin b =>
   cases b with
   | len =>
    obtain ⟨args⟩ := args
    obtain ⟨argTypes⟩ := argTypes
    unfold sxOp at h
    dsimp only at h
    split at h
    ·next x ty =>
     split at h
     ·next hl => exact q_lenS hH ha ((hT _ _ hl).str rfl) rfl h
     ·next e hl => exact q_lenL hH ha ((hT _ _ hl).elem _ _ rfl).1 rfl h
     ·next str e hl =>
      refine q_lenM hT hXL (hS ?_) hH ha hl rfl rfl h
      show anyB (isPt tb) [ty] = true
      unfold anyB isPt isKd
      rw [hl]
      rfl
     ·exact h.elim
    ·exact h.elim
   | max =>
    obtain ⟨args⟩ := args
    unfold sxOp at h
    dsimp only at h
    split at h
    ·exact q_max hH ha rfl h
    ·exact h.elim
   | min =>
    obtain ⟨args⟩ := args
    unfold sxOp at h
    dsimp only at h
    split at h
    ·exact q_min hH ha rfl h
    ·exact h.elim
   | _ => cases hq
  | _ => cases hq
 | _ => cases hq
def isCallV (o : Oper) : Bool := match o.op with
 | .call c => match c.callee with
  | .value _ => true
  | _ => false
 | _ => false
theorem sxOp_b (hT : ∀ t i, look t tb = some i → TIok P t i) (hmo : isCallV o = true → mo = .new) (hq : isQ tb o = false) (hl : isL tb o = false) (h : sxOp P tb mo o t own V.n K) (hH : Has I V own w) (ha : ARep N I V a t) (hd : ∀ i, o.dst = some i → i < N) (hK : NxtB N own I V w K next) : o.wp P a w next Q := by
 obtain ⟨dst, op, type, pos, after, guard⟩ := o
 cases op with
 | assign x =>
  unfold sxOp at h
  unfold isQ at hq
  dsimp only at h hq
  split at h
  ·split at h
   ·next e sz _ _ hl => exact op_nil hK hH ha hd ((hT _ _ hl).elem _ _ rfl).2.choose_spec.choose_spec.2.2.2.2.1 rfl h
   ·exact finB (g := .nl) hK ha hd (by rfl) (.refl hH) (Below.refl _ _) (.refl _) (.of_v .nl) h
  ·next hx =>
   split at hq
   ·exact absurd rfl (hx · )
   ·cases hq
 | convert src dst x =>
  unfold sxOp at h
  unfold isQ at hq
  dsimp only at h hq
  split at h
  ·next p q hp hq2 =>
   rw [hp, hq2] at hq
   dsimp only at hq
   split at h
   ·next e sz h1 h2 =>
    split at h
    ·next hu => exact op_bytes hH ha hd hK rfl ((hT _ _ hp).str h1) ((hT _ _ hq2).elem _ _ h2).1 (TIok.u8 hT hu) h
    ·exact h.elim
   ·next hne =>
    split at hq
    ·next e h1 h2 => exact absurd h2 (fun h2 => (by obtain ⟨e, sz⟩ := e; exact hne e sz h1 h2))
    ·cases hq
  ·exact h.elim
 | alloc ty => exact op_alloc hT hK hH ha hd rfl h
 | box ty x => exact op_box hK hH ha hd rfl h
 | slice ty z lo hi mx =>
  cases mx with
  | some _ => exact False.elim h
  | none =>
   unfold isQ at hq
   unfold sxOp at h
   dsimp only at hq h
   split at hq
   ·next e1 sz e2 e3 e4 hl =>
    rw [hl] at h
    split at h
    ·next h1 => cases h1
    ·next h1 => cases h1
    ·next h1 => cases h1; exact op_arrsl hT hH ha hd hK hl rfl h
    ·exact h.elim
   ·cases hq
 | buildSlice ty len parts => exact op_buildSlice hT hK hH ha hd rfl h
 | makeSlice ty len cap => exact op_makeSlice hT hK hH ha hd rfl h
 | call c =>
  obtain ⟨callee, args, argTypes⟩ := c
  cases callee with
  | builtin b => cases b <;> first | (cases hq; done) | (cases hl; done) | exact False.elim h
  | value f =>
   have hmo := hmo rfl
   subst hmo
   refine op_call (fo := f) rfl rfl hH ha hd h fun t own' I' V' a' w' hk hl2 hm har => ?_
   obtain ⟨ks, m1, m2, m3, m4⟩ := hm (fun e => by cases e)
   cases ks with
   | cons k ks => cases m1
   | nil => exact hK _ _ _ _ _ _ hk hl2 ⟨hl2.fro.os, hl2.fro.tape, hl2.fro.output, hl2.fro.size, fun b hb => m3 b hb fun k hk => by simp at hk⟩ (fun k hk b hb => (m4 k hk b hb).elim id fun h => (h.1 rfl).elim) har
  | invoke r m => exact False.elim h
 | makeMap ty r =>
  cases r with
  | some r => exact False.elim h
  | none => exact op_makeMap hH ha hd hK rfl h
 | range ty x => exact op_range hT hH ha hd hK rfl h
 | _ => first | (cases hq; done) | (cases hl; done) | exact False.elim h
theorem sxOp_l (hT : ∀ t i, look t tb = some i → TIok P t i) (hl : isL tb o = true) (h : sxOp P tb mo o t own V.n K) (hL : Since own0 I0 V0 w0 own I V w) (ha : ARep N I V a t) (hd : ∀ i, o.dst = some i → i < N) (hK : Nxt N own0 I0 V0 w0 K next) : o.wp P a w next Q := by
 obtain ⟨dst, op, type, pos, after, guard⟩ := o
 cases op with
 | store ty x y => exact op_store hT hK hL ha hd rfl h
 | mapUpdate ty m k x => exact mput_ok hT hL hK ha hd (.inl rfl) h
 | insert ty m k x => exact mput_ok hT hL hK ha hd (.inr rfl) h
 | next x b =>
  cases b with
  | true => exact op_next hL hK ha hd rfl h
  | false => exact op_nextM hL hK ha hd rfl h
 | entry x => exact op_entry hL hK ha hd rfl h
 | call c =>
  obtain ⟨callee, args, argTypes⟩ := c
  cases callee with
  | builtin b =>
   cases b with
   | append =>
    obtain ⟨args⟩ := args
    obtain ⟨argTypes⟩ := argTypes
    unfold sxOp at h
    dsimp only at h
    split at h
    ·next x y ty ty' =>
     split at h
     ·next e sz _ _ hb hlk =>
      have hb := Nat.eq_of_beq_eq_true hb
      subst hb
      exact op_append hT hK hL ha hd hlk rfl h
     ·exact h.elim
    ·exact h.elim
   | copy =>
    obtain ⟨args⟩ := args
    obtain ⟨argTypes⟩ := argTypes
    unfold sxOp at h
    dsimp only at h
    split at h
    ·next x y ty ty' =>
     split at h
     ·next hlk => exact op_copy hT hK hL ha hd hlk rfl h
     ·exact h.elim
    ·exact h.elim
   | delete =>
    obtain ⟨args⟩ := args
    obtain ⟨argTypes⟩ := argTypes
    unfold sxOp at h
    dsimp only at h
    split at h
    ·exact op_delete hT hL hK ha hd rfl h
    ·exact h.elim
   | _ => cases hl
  | value f => exact op_call (fo := f) rfl rfl hL.has ha hd h fun t own' I' V' a' w' hk hl2 _ har => hK _ _ _ _ _ _ hk (hL.trans hl2) har
  | _ => cases hl
 | _ => cases hl
theorem sxOp_vs (hT : ∀ t i, look t tb = some i → TIok P t i) (hv : vsB XL t o = true) (h : sxOp P tb (.vs XL) o t own V.n K) (hH : Has I V own w) (hkX : ∀ k ∈ XL, k < V.n) (ha : ARep N I V a t) (hd : ∀ i, o.dst = some i → i < N) (hK : ∀ t own' I' V' a' w', K t own' V'.n → Later own I V w own' I' V' w' → Agree V XL w w' → (∀ k ∈ XL, ∀ b, V'.f k b → b < w.heap.size → ∃ k' ∈ XL, V.f k' b) → ARep N I' V' a' t → next a' w') : o.wp P a w next Q := by
 obtain ⟨dst, op, type, pos, after, guard⟩ := o
 have hv0 := hv
 unfold vsB at hv
 cases guard with
 | some g => cases hv
 | none =>
 cases op with
 | store ty x z =>
  cases x with
  | tmp d =>
   dsimp only at hv
   cases hl : look d t with
   | none => rw [hl] at hv; cases hv
   | some g =>
    rw [hl] at hv
    cases g with
    | ptr k off =>
     dsimp only at hv
     have hm := memB_mem.1 hv
     obtain ⟨y, hy, hg⟩ := ha.get d _ hl
     obtain ⟨hkn, rfl⟩ := trep_ptr hg
     have he : a.eval (.tmp d) = .pointer (some ⟨V.b k, off, none⟩) := by simp [Act.eval, hy]
     unfold sxOp at h
     dsimp only at h
     unfold ev at h
     dsimp only at h
     rw [hl] at h
     dsimp only at h
     obtain ⟨u, hk, hu⟩ := ev_ok (K := fun u => cellsK own u fun cs => match allB (oneO own) cs, look ty tb with
      | true, some i => match Nat.beq cs.length i.zero.length, cs with
       | true, _ :: _ => match look k own with
        | some (.blk cells ty') => ovr cells off cs fun cells' => K (put dst .un t) ((k, .blk cells' ty') :: own) V.n
        | _ => False
       | _, _ => False
      | _, _ => False) h ha hH
     obtain ⟨cs, hk, hp, -⟩ := cells_ok hk hu hH
     obtain ⟨ds, hds⟩ : ∃ ds, (a.eval z).cells.toList = ds := ⟨_, rfl⟩
     rw [hds] at hp
     split at hk
     ·next i h1 hty =>
      split at hk
      ·next c0 cs0 hb =>
       split at hk
       ·next cells ty' hr =>
        obtain ⟨us, k1, k2, -⟩ := blk_at hH hr
        obtain ⟨cells', k3, k4, k5⟩ := ovr_ok hk k2 hp
        have hone := one_pw hH h1 hp
        have hlen : ds.length = i.zero.length := hp.1.symm.trans (Nat.eq_of_beq_eq_true hb)
        have hdn : ds ≠ [] := fun e => by
         have := hp.1
         rw [e] at this
         simp at this
        have hrun := run_storeAt (P := P) (w := w) (hT ty i hty).size hds hlen k1 (k5 hdn : off + ds.length ≤ us.length) hone
        have hl2 := later_upd (w' := w.setRow (V.b k) _) (r := .blk cells' ty') hH hr rfl rfl rfl (by simp [World.setRow]) (fun b hb => setRow_other w _ b _ (fun e => hb (((hH.each k _ hr).1 b).2 e))) ⟨(hH.each k _ hr).1, _, setRow_heap w _ us.toArray _ ty' _ k1, k4⟩
        unfold Oper.wp
        have hex : (execOp a.eval (⟨dst, .store ty (.tmp d) z, type, pos, after, none⟩ : Oper)).run P w = .ok .skip (w.setRow (V.b k) (List.take off us ++ ds ++ List.drop (off + ds.length) us).toArray) := by
         simp only [execOp, Sem.run_bind, he, hrun, Result.andThen_ok, Sem.run_pure]
        rw [hex]
        exact hK _ _ _ _ _ _ k3 hl2 (fun b hlt hX => setRow_other w _ b _ (fun e => hX k hm (((hH.each k _ hr).1 b).2 e))) (fun k hk b hb _ => ⟨k, hk, hb⟩) ((ha.mono hl2.fro.mono hl2.va).put hd (.of_v .un))
       ·exact hk.elim
      ·exact hk.elim
     ·exact hk.elim
    | _ => cases hv
  | _ => cases hv
 | call cl =>
  cases hce : cl.callee with
  | value f =>
   refine op_call (mo := .vs XL) (K := K) (fo := f) rfl hce hH ha hd ?_ fun t own' I' V' a' w' hk hl2 hm har => ?_
   ·have h := h
    unfold sxOp at h
    dsimp only at h
    rw [hce] at h
    exact h
   ·obtain ⟨ks, m1, m2, m3, m4⟩ := hm (fun e => by cases e)
    have hsub : ∀ k ∈ ks, k ∈ XL := fun k hk => memB_mem.1 (allB_mem (show allB (fun k => memB k XL) ks = true from m1) k hk)
    refine hK _ _ _ _ _ _ hk hl2 (fun b hb hX => m3 b hb fun k hk => hX k (hsub k hk)) (fun k hk b hb hlt => ?_) har
    rcases m4 k (hkX k hk) b hb with h1 | ⟨-, ⟨k', h1, h2⟩ | h1⟩
    ·exact ⟨k, hk, h1⟩
    ·exact ⟨k', hsub k' h1, h2⟩
    ·omega
  | _ => rw [show vsB XL t ⟨dst, .call cl, type, pos, after, none⟩ = false from ?_] at hv0 <;> first | cases hv0 | (unfold vsB; dsimp only; rw [hce])
 | _ => cases hv
theorem sxOp_ok (hT : ∀ t i, look t tb = some i → TIok P t i) (h : sxOp P tb .row o t own V.n K) (hL : Since own0 I0 V0 w0 own I V w) (ha : ARep N I V a t) (hd : ∀ i, o.dst = some i → i < N) (hK : Nxt N own0 I0 V0 w0 K next) : o.wp P a w next Q := by
 cases hq : isQ tb o with
 | true => exact (sxOp_q (S := fun u => u = w) (mo := .row) hT (fun k hk => by simp [Mo.xl] at hk) (fun _ u hu => by subst hu; exact fun _ _ _ => rfl) hq h hL.has ha).wp rfl hK hL ha hd
 | false =>
  cases hl : isL tb o with
  | true => exact sxOp_l hT hl h hL ha hd hK
  | false =>
   cases hc : isCallV o with
   | false => exact sxOp_b hT (fun h => by rw [hc] at h; cases h) hq hl h hL.has ha hd (NxtB.of hK hL)
   | true =>
    obtain ⟨dst, op, type, pos, after, guard⟩ := o
    cases op with
    | call cl =>
     obtain ⟨callee, args, ats⟩ := cl
     cases callee with
     | value f => exact op_call (fo := f) rfl rfl hL.has ha hd h fun t own' I' V' a' w' hk hl2 _ har => hK _ _ _ _ _ _ hk (hL.trans hl2) har
     | _ => cases hc
    | _ => cases hc
end
end Go.Proofs.YtalfffamppmooaaGreatDoor
namespace Go.Proofs.YtalfffamppmooaaGreatDoor
open Go.RowKit
section
variable {P : Program} {tb : List (Nat × TI)} {N n : Nat} {I I' I0 : Imm} {V V' V0 : Va} {a : Act} {t : Ts} {own own' own0 : Os} {w w' w0 : World} {g : G} {y : Value} {d : Option Tmp}
variable {K : Ts → Os → Nat → Prop} {next : Act → World → Prop} {Q : Exit → Act → World → Prop} {o : Oper} {ops : Array Oper} {rest : List Oper}
theorem ARep.redo (h : ARep N I V a t) {i : Nat} {g' : G} {x : Value} (hx : a.tmps[i]? = some x) (hg : TRep I V g' x) : ARep N I V a ((i, g') :: t) :=
 ⟨h.defers, h.size, fun j g hj => by
  rw [look_cons] at hj
  split at hj
  ·next e => subst e; cases hj; exact ⟨x, hx, hg⟩
  ·exact h.get j g hj⟩
theorem sxG_cases {mo : Mo} (h : sxG P tb mo ops.toList o t own n K) (ha : ARep N I V a t) :
  ∃ t', ARep N I V a t' ∧ ((Region.wanted o (yielded ops a.tmps) = true ∧ sxOp P tb mo o t' own n K) ∨ (Region.wanted o (yielded ops a.tmps) = false ∧ K (put o.dst .un t') own n)) := by
 unfold sxG at h
 split at h
 ·next hg => exact ⟨t, ha, .inl ⟨wanted_none hg, h⟩⟩
 ·next j want hg =>
  rw [nth_eq, Array.getElem?_toList] at h
  have hw : Region.wanted o (yielded ops a.tmps) = (yielded ops a.tmps j == some want) := by unfold Region.wanted; rw [hg]
  cases hd : (ops[j]?).bind (·.dst) with
  | none =>
   rw [hd] at h
   exact ⟨t, ha, .inr ⟨by rw [hw]; simp [yielded, hd], h⟩⟩
  | some d =>
   rw [hd] at h
   dsimp only at h
   have hy : ∀ {x}, a.tmps[d]? = some x → yielded ops a.tmps j = match x with | .bool b => some b | _ => none := fun hx => by
    simp only [yielded, hd, Option.bind_some, hx]
    rename_i x
    cases x <;> rfl
   cases hl : look d t with
   | none => rw [hl] at h; exact h.elim
   | some g =>
    obtain ⟨x, hx, hr⟩ := ha.get d g hl
    rw [hl] at h
    cases g with
    | tt =>
     cases (show VRep I .tt x from hr)
     dsimp only at h
     cases want with
     | true => exact ⟨t, ha, .inl ⟨by rw [hw, hy hx]; rfl, h⟩⟩
     | false => exact ⟨t, ha, .inr ⟨by rw [hw, hy hx]; rfl, h⟩⟩
    | ff =>
     cases (show VRep I .ff x from hr)
     dsimp only at h
     cases want with
     | true => exact ⟨t, ha, .inr ⟨by rw [hw, hy hx]; rfl, h⟩⟩
     | false => exact ⟨t, ha, .inl ⟨by rw [hw, hy hx]; rfl, h⟩⟩
    | un =>
     cases (show VRep I .un x from hr)
     exact ⟨t, ha, .inr ⟨by rw [hw, hy hx]; cases want <;> rfl, h⟩⟩
    | v z =>
     have e := trep_v hr
     subst e
     cases x with
     | bool b =>
      dsimp only at h
      cases want with
      | true =>
       obtain ⟨h1, h2⟩ := h
       cases b with
       | true => exact ⟨_, ha.redo hx (.of_v .tt), .inl ⟨by rw [hw, hy hx]; rfl, h1 rfl⟩⟩
       | false => exact ⟨_, ha.redo hx (.of_v .ff), .inr ⟨by rw [hw, hy hx]; rfl, h2 rfl⟩⟩
      | false =>
       obtain ⟨h1, h2⟩ := h
       cases b with
       | true => exact ⟨_, ha.redo hx (.of_v .tt), .inr ⟨by rw [hw, hy hx]; rfl, h1 rfl⟩⟩
       | false => exact ⟨_, ha.redo hx (.of_v .ff), .inl ⟨by rw [hw, hy hx]; rfl, h2 rfl⟩⟩
     | _ => exact h.elim
    | _ => exact h.elim
theorem sxO_ok (hT : ∀ t i, look t tb = some i → TIok P t i) (hK : Nxt N own0 I0 V0 w0 K (fun a w => Q .normal a w)) : ∀ {rest : List Oper} {t : Ts} {own : Os} {I : Imm} {V : Va} {a : Act} {w : World}, sxO P tb ops.toList rest t own V.n K → Since own0 I0 V0 w0 own I V w → ARep N I V a t → (∀ o ∈ rest, ∀ i, o.dst = some i → i < N) → wpList P ops Q rest a w
 | [], t, own, I, V, a, w, h, hL, ha, _ => hK _ _ _ _ _ _ h hL ha
 | o :: rest, t, own, I, V, a, w, h, hL, ha, hd => by
  have hd0 := hd o (by simp)
  have hdr : ∀ o ∈ rest, ∀ i, o.dst = some i → i < N := fun o ho => hd o (by simp [ho])
  obtain ⟨t', ha', h⟩ := sxG_cases h ha
  rcases h with ⟨hw, h⟩ | ⟨hw, h⟩
  ·unfold wpList
   rw [if_pos hw]
   exact .inl (sxOp_ok hT h hL ha' hd0 fun t own I V a w hk hl har => sxO_ok hT hK hk hl har hdr)
  ·unfold wpList
   rw [if_neg (by rw [hw]; exact Bool.false_ne_true)]
   exact sxO_ok hT hK h hL (ha'.put hd0 (.of_v .un)) hdr
/-! ### Drawn -/
theorem getB_eq (l : List Bool) (i : Nat) : getB l i = l.toArray.getD i false := by
 unfold getB
 rw [nth_eq]
 cases h : l[i]? <;> simp [h]
theorem setB_eq (l : List Bool) (i : Nat) : (setB l i).toArray = l.toArray.setIfInBounds i true := by
 have : setB l i = l.set i true := by
  induction l generalizing i with
  | nil => simp [setB]
  | cons b l ih => cases i <;> simp [setB, ih]
 rw [this]; simp
theorem edges_ok (l : List Bool) (es : List Edge) : edgesB l es = true ↔ ∀ e ∈ es, Region.binds .any e = true → l.toArray.getD e.on false = true := by
 induction es with
 | nil => simp [edgesB]
 | cons e es ih =>
  unfold edgesB
  rw [getB_eq]
  constructor
  ·intro h e' he' hb'
   cases hx : (!Region.binds .any e || l.toArray.getD e.on false) with
   | false => rw [hx] at h; cases h
   | true =>
    rw [hx] at h
    rcases List.mem_cons.1 he' with rfl | he'
    ·rw [hb', Bool.not_true, Bool.false_or] at hx; exact hx
    ·exact ih.1 h e' he' hb'
  ·intro h
   have hx : (!Region.binds .any e || l.toArray.getD e.on false) = true := by
    cases hb : Region.binds .any e with
    | false => rfl
    | true => rw [h e (by simp) hb]; rfl
   rw [hx]
   exact ih.2 fun e' he' => h e' (by simp [he'])
theorem rdy_mem (l : List Bool) : ∀ (os : List Oper) (bs : List Bool) (k i : Nat), i ∈ rdy l os bs k ↔ ∃ j o, i = k + j ∧ os[j]? = some o ∧ bs[j]? = some false ∧ edgesB l o.after.toList = true
 | [], bs, k, i => by simp [rdy]
 | o :: os, [], k, i => by simp [rdy]
 | o :: os, b :: bs, k, i => by
  have ih := rdy_mem l os bs (k + 1) i
  have key : (∃ j o', i = k + j ∧ (o :: os)[j]? = some o' ∧ (b :: bs)[j]? = some false ∧ edgesB l o'.after.toList = true) ↔ ((i = k ∧ b = false ∧ edgesB l o.after.toList = true) ∨ ∃ j o', i = k + 1 + j ∧ os[j]? = some o' ∧ bs[j]? = some false ∧ edgesB l o'.after.toList = true) := by
   constructor
   ·rintro ⟨j, o', e, h1, h2, h3⟩
    cases j with
    | zero => simp at h1 h2; subst h1 h2; exact .inl ⟨by omega, rfl, h3⟩
    | succ j => exact .inr ⟨j, o', by omega, by simpa using h1, by simpa using h2, h3⟩
   ·rintro (⟨e, h1, h2⟩ | ⟨j, o', e, h1, h2, h3⟩)
    ·exact ⟨0, o, by omega, by simp, by simp [h1], h2⟩
    ·exact ⟨j + 1, o', by omega, by simpa using h1, by simpa using h2, h3⟩
  rw [key, ← ih]
  show i ∈ (bif (!b && edgesB l o.after.toList) then k :: rdy l os bs (k + 1) else rdy l os bs (k + 1)) ↔ _
  cases hb : b <;> cases he : edgesB l o.after.toList <;> simp
theorem ready_iff {l : List Bool} (hl : l.length = ops.size) (i : Nat) : i ∈ Region.ready .any ops l.toArray ↔ i ∈ rdy l ops.toList l 0 := by
 rw [mem_ready, rdy_mem]
 constructor
 ·rintro ⟨h1, o, h2, h3⟩
  have hi := (Array.getElem?_eq_some_iff.1 h2).1
  refine ⟨i, o, by omega, by simpa using h2, ?_, (edges_ok l _).2 fun e he => h3 e (by simpa using he)⟩
  have : i < l.length := by omega
  simp [this] at h1
  simp [this, h1]
 ·rintro ⟨j, o, e, h1, h2, h3⟩
  obtain rfl : i = j := by omega
  exact ⟨by simp [h2], o, by simpa using h1, fun e he => (edges_ok l _).1 h3 e (by simpa using he)⟩
theorem firstQ_mem {ops : List Oper} : ∀ {rs : List Nat} {i : Nat}, firstQ tb ops rs = some i → i ∈ rs ∧ ∃ o, ops[i]? = some o ∧ isQ tb o = true
 | [], i, h => by cases h
 | j :: rs, i, h => by
  unfold firstQ at h
  rw [nth_eq] at h
  cases ho : ops[j]? with
  | none =>
   rw [ho] at h
   obtain ⟨h1, h2⟩ := firstQ_mem h
   exact ⟨by simp [h1], h2⟩
  | some o =>
   rw [ho] at h
   cases hq : isQ tb o with
   | true =>
    simp [hq] at h
    subst h
    exact ⟨by simp, o, ho, hq⟩
   | false =>
    simp [hq] at h
    obtain ⟨h1, h2⟩ := firstQ_mem h
    exact ⟨by simp [h1], h2⟩
theorem firstQ_none {ops : List Oper} : ∀ {rs : List Nat}, firstQ tb ops rs = none → ∀ i ∈ rs, ∀ o, ops[i]? = some o → isQ tb o = false
 | [], _, i, hi, _, _ => by cases hi
 | j :: rs, h, i, hi, o, ho => by
  unfold firstQ at h
  rw [nth_eq] at h
  cases hj : ops[j]? with
  | none =>
   rw [hj] at h
   rcases List.mem_cons.1 hi with rfl | hi
   ·rw [hj] at ho; cases ho
   ·exact firstQ_none h i hi o ho
  | some o' =>
   rw [hj] at h
   cases hq : isQ tb o' with
   | true => simp [hq] at h
   | false =>
    simp [hq] at h
    rcases List.mem_cons.1 hi with rfl | hi
    ·rw [hj] at ho; cases ho; exact hq
    ·exact firstQ_none h i hi o ho
def drawOK (tb : List (Nat × TI)) (ops : Array Oper) (late : List Nat) : Nat → List Bool → Bool
 | 0, l => (rdy l ops.toList l 0).isEmpty
 | fuel + 1, l => match firstQ tb ops.toList (rdy l ops.toList l 0) with
  | some i => Region.free .any ops l.toArray i && (match nth ops.toList i with | some o => !isR tb o || lateOk .any ops late i | none => false) && drawOK tb ops late fuel (setB l i)
  | none => (rdy l ops.toList l 0).all fun i => drawOK tb ops late fuel (setB l i)
theorem allOf_mem {f : Nat → Prop} : ∀ {l : List Nat}, allOf f l → ∀ i ∈ l, f i
 | [], _, i, hi => by cases hi
 | [j], h, i, hi => by rw [List.mem_singleton.1 hi]; exact h
 | j :: k :: l, h, i, hi => by
  rcases List.mem_cons.1 hi with rfl | hi
  ·exact h.1
  ·exact allOf_mem h.2 i hi
theorem agree_refl (V : Va) (XL : List Nat) (w : World) : Agree V XL w w := fun _ _ _ => rfl
theorem setK_eq {α : Type} (l : List Bool) (i : Nat) (K : List Bool → α) : setK l i K = K (setB l i) := by
 induction l generalizing i K with
 | nil => rfl
 | cons b l ih => cases i <;> simp [setK, setB, ih]
theorem addK_p (k : Nat) : ∀ (r : List Nat) (K : List Nat → Prop), addK k r K → ∃ r', K r'
 | [], _, h => ⟨_, h⟩
 | j :: l, K, h => by
  unfold addK at h
  split at h
  ·exact ⟨_, h⟩
  ·obtain ⟨r', h⟩ := addK_p k l _ h; exact ⟨_, h⟩
theorem dstK_p : ∀ (l : List Oper) (r : List Nat) (K : List Nat → Prop), dstK l r K → ∃ r', K r'
 | [], _, _, h => ⟨_, h⟩
 | o :: l, r, K, h => by
  unfold dstK at h
  split at h
  ·obtain ⟨r', h⟩ := addK_p _ _ _ h; exact dstK_p l r' K h
  ·exact dstK_p l r K h
theorem slotK_p : ∀ (l : Ts) (r : List Nat) (K : List Nat → Prop), slotK l r K → ∃ r', K r'
 | [], _, _, h => ⟨_, h⟩
 | (i, g) :: l, r, K, h => by
  obtain ⟨r', h⟩ := addK_p _ _ _ h; exact slotK_p l r' K h
theorem look_cons1 {α : Type} {i j : Nat} {g x : α} {r : List (Nat × α)} (h : look i ((j, g) :: r) = some x) : i = j ∧ g = x ∨ look i r = some x := by
 unfold look at h
 cases hb : Nat.beq i j with
 | true => rw [hb] at h; exact .inl ⟨Nat.eq_of_beq_eq_true hb, Option.some.inj h⟩
 | false => rw [hb] at h; exact .inr h
theorem normT_p (t : Ts) : ∀ (l : List Nat) (acc : Ts) (K : Ts → Prop), (∀ i g, look i acc = some g → look i t = some g) → normT t l acc K → ∃ t', (∀ i g, look i t' = some g → look i t = some g) ∧ K t'
 | [], _, _, ha, h => ⟨_, ha, h⟩
 | i :: l, acc, K, ha, h => by
  unfold normT at h
  split at h
  ·next g hg =>
   refine normT_p t l _ K (fun j x hj => ?_) h
   rcases look_cons1 hj with ⟨rfl, rfl⟩ | hj
   ·exact hg
   ·exact ha _ _ hj
  ·exact normT_p t l acc K ha h
theorem normO_p (w : Os) : ∀ (n : Nat) (acc : Os) (K : Os → Prop), (∀ i g, look i acc = some g → look i w = some g) → normO w n acc K → ∃ w', (∀ i g, look i w' = some g → look i w = some g) ∧ K w'
 | 0, _, _, ha, h => ⟨_, ha, h⟩
 | n + 1, acc, K, ha, h => by
  have h : (match look n w with
   | some r => normO w n ((n, r) :: acc) K
   | none => normO w n acc K) := h
  split at h
  ·next g hg =>
   refine normO_p w n _ K (fun j x hj => ?_) h
   rcases look_cons1 hj with ⟨rfl, rfl⟩ | hj
   ·exact hg
   ·exact ha _ _ hj
  ·exact normO_p w n acc K ha h
theorem Since.sub (h : Since own0 I0 V0 w0 own I V w) (hs : ∀ k r, look k own' = some r → look k own = some r) : Since own0 I0 V0 w0 own' I V w :=
 ⟨⟨h.has.mem, fun k r e => h.has.num k r (hs k r e), fun k r e => h.has.each k r (hs k r e), fun k r b e => h.has.foot k r b (hs k r e), fun k k' r r' b e e' => h.has.disj k k' r r' b (hs k r e) (hs k' r' e')⟩,
  ⟨h.fro.os, h.fro.tape, h.fro.output, h.fro.size, h.fro.blk, h.fro.mono, fun k r b e => h.fro.foot k r b (hs k r e)⟩, h.n, h.bb⟩
theorem brK_p {next : Act → World → Prop} {ol : List Oper} {K : Ts → Os → Nat → Prop} {c : (Ts → Os → Nat → Prop) → Prop} (hK : Nxt N own0 I0 V0 w0 K next) : ∀ {rs : List Nat}, brK ol t K c rs → ∃ K', Nxt N own0 I0 V0 w0 K' next ∧ c K'
 | [], h => ⟨K, hK, h⟩
 | [_], h => ⟨K, hK, h⟩
 | _ :: _ :: _, h => by
  obtain ⟨L, h⟩ := dstK_p _ _ _ h
  obtain ⟨L, h⟩ := slotK_p _ _ _ h
  refine ⟨_, fun t own I V a w hk hS ha => ?_, h⟩
  obtain ⟨t', ht, hk⟩ := normT_p t L [] _ (fun i g h => by cases h) hk
  obtain ⟨w', hw, hk⟩ := normO_p own V.n [] _ (fun i g h => by cases h) hk
  exact hK _ _ _ _ _ _ hk (hS.sub hw) (ha.sub ht)
theorem sxD_ok {XL late : List Nat} (hT : ∀ t i, look t tb = some i → TIok P t i) (hQ : ∀ c d v a w, Q (.panic c) (a.put d v) w → Q (.panic c) a w) (hsel : Region.noSelect ops = true) (hd : ∀ o ∈ ops.toList, ∀ i, o.dst = some i → i < N) :
  ∀ {K : Ts → Os → Nat → Prop} (_ : Nxt N own0 I0 V0 w0 K (fun a w => Q .normal a w)) {fu : List Oper} {l : List Bool} {t : Ts} {own : Os} {I : Imm} {V : Va} {a : Act} {w : World}, l.length = ops.size → Closed .any ops l.toArray → drawOK tb ops late fu.length l = true → sxD P tb XL late ops.toList fu l t own V.n K → Since own0 I0 V0 w0 own I V w → ARep N I V a t → (∀ k ∈ XL, k < V.n) → wpAnyG P .any ops Q late fu.length (Agree V XL w) l.toArray a w
 | K, hK, [], l, t, own, I, V, a, w, hl, hc, hok, h, hL, ha, hkX => by
  refine ⟨?_, hK _ _ _ _ _ _ h hL ha⟩
  rw [List.length_nil] at hok
  unfold drawOK at hok
  refine List.eq_nil_iff_forall_not_mem.2 fun i hi => ?_
  rw [ready_iff hl, List.isEmpty_iff.1 hok] at hi
  cases hi
 | K, hK, o0 :: fu, l, t, own, I, V, a, w, hl, hc, hok, h, hL, ha, hkX => by
  rw [List.length_cons] at hok
  show wpAnyG P .any ops Q late (fu.length + 1) (Agree V XL w) l.toArray a w
  have hl' : ∀ i, (setB l i).length = ops.size := fun i => by
   have := congrArg Array.size (setB_eq l i)
   simp at this
   omega
  unfold drawOK at hok
  have h : sxD1 P tb XL late ops.toList o0 fu (sxD P tb XL late ops.toList fu) l t own V.n K := h
  unfold sxD1 at h
  cases hf : firstQ tb ops.toList (rdy l ops.toList l 0) with
  | some i =>
   rw [hf] at h hok
   dsimp only at h hok
   simp only [Bool.and_eq_true] at hok
   obtain ⟨⟨k1, k2⟩, k3⟩ := hok
   obtain ⟨hi, o, ho, hq⟩ := firstQ_mem hf
   rw [nth_eq, ho] at h k2
   dsimp only at h k2
   cases hvb : volB own XL with
   | false => rw [hvb] at h; exact h.elim
   | true =>
   rw [hvb] at h
   dsimp only at h
   have hXL : ∀ k ∈ (Mo.quiet XL).xl, ∃ r, look k own = some r := fun k hk => by
    have := allB_mem hvb k hk
    split at this
    ·next r hr => exact ⟨r, hr⟩
    ·cases this
   have ho' : ops[i]? = some o := by simpa using ho
   have hr := (ready_iff hl i).2 hi
   have hd0 := hd o (List.mem_of_getElem? ho)
   have hcn := closed_set hc hr
   obtain ⟨t', ha', h⟩ := sxG_cases h ha
   have rest : ∀ {v g}, TRep I V g v → (setK l i fun l => sxD P tb XL late ops.toList fu l (put o.dst g t') own V.n K) → wpAnyG P .any ops Q late fu.length (Agree V XL w) (l.toArray.setIfInBounds i true) (a.put o.dst v) w := fun hg hk => by
    rw [← setB_eq]
    rw [setK_eq] at hk
    exact sxD_ok hT hQ hsel hd hK (hl' i) (by rw [setB_eq]; exact hcn) k3 hk hL (ha'.put hd0 hg) hkX
   have finP : ∀ (v : Value) (g : G), YieldsIf P ops (fun _ => True) o v a → TRep I V g v → (setK l i fun l => sxD P tb XL late ops.toList fu l (put o.dst g t') own V.n K) → wpAnyG P .any ops Q late (fu.length + 1) (Agree V XL w) l.toArray a w := fun v g hy hg hk =>
    wpAnyG_firstP ho' (Region.noSelect_spec hsel) (fun c a w => hQ c _ _ a w) fu.length _ l.toArray a w hc (Region.free_spec ho' k1) hr hy (agree_refl _ _ _) (rest hg hk)
   rcases h with ⟨hw, h⟩ | ⟨hw, h⟩
   ·cases hR : isR tb o with
    | false =>
     obtain ⟨g, y, hk, hy, hrun⟩ := sxOp_q (S := fun _ => True) (mo := .quiet XL) hT hXL (fun h => by rw [hR] at h; cases h) hq h hL.has ha'
     exact finP y g (yi_run hw fun u _ => hrun u trivial) hy hk
    | true =>
     obtain ⟨g, y, hk, hy, hrun⟩ := sxOp_q (S := Agree V XL w) (mo := .quiet XL) hT hXL (fun _ u hu => hu) hq h hL.has ha'
     rw [hR] at k2
     exact wpAnyG_first ho' (Region.noSelect_spec hsel) (fun c a w => hQ c _ _ a w) (fun j hj => List.all_eq_true.1 k2 j hj) fu.length _ l.toArray a w hc (Region.free_spec ho' k1) hr (yi_run hw fun u hu => hrun u hu) (agree_refl _ _ _) (rest hy hk)
   ·exact finP undef .un (yi_pass hw) (.of_v .un) h
  | none =>
   rw [hf] at h hok
   dsimp only at h hok
   refine ⟨fun h0 => ?_, fun i hi => ?_⟩
   ·have : rdy l ops.toList l 0 = [] := List.eq_nil_iff_forall_not_mem.2 fun i hi => by
     rw [← ready_iff hl, h0] at hi
     cases hi
    rw [this] at h
    exact hK _ _ _ _ _ _ h hL ha
   ·have hi' := (ready_iff hl i).1 hi
    have hk3 := List.all_eq_true.1 hok i hi'
    have hcn := closed_set hc hi
    obtain ⟨-, o, ho', -⟩ := mem_ready.1 hi
    have ho : ops.toList[i]? = some o := by simpa using ho'
    have hd0 := hd o (List.mem_of_getElem? ho)
    have hq := firstQ_none hf i hi' o ho
    obtain ⟨K, hK, h⟩ := (by
     cases hr : rdy l ops.toList l 0 with
     | nil => rw [hr] at hi'; cases hi'
     | cons j rs => rw [hr] at h hi'; obtain ⟨K', hK', h⟩ := brK_p hK h; exact ⟨K', hK', allOf_mem h i hi'⟩ : ∃ K, Nxt N own0 I0 V0 w0 K (fun a w => Q .normal a w) ∧ match nth ops.toList i with
      | some o => match isL tb o with
       | false => sxG P tb .new ops.toList o t own V.n fun t w n => setK l i fun l => sxD P tb XL late ops.toList fu l t w n K
       | true => match memB i late with
        | true => sxG P tb .late ops.toList o t own V.n fun t w n => setK l i fun l => sxD P tb XL late ops.toList fu l t w n K
        | false => match vsG XL t o, volB own XL with
         | true, true => sxG P tb (.vs XL) ops.toList o t own V.n fun t w n => setK l i fun l => sxD P tb XL late ops.toList fu l t w n K
         | _, _ => False
      | none => False)
    rw [nth_eq, ho] at h
    dsimp only at h
    have again : ∀ {t own' I' V' a' w'}, (setK l i fun l => sxD P tb XL late ops.toList fu l t own' V'.n K) → Since own I V w own' I' V' w' → ARep N I' V' a' t → Closed .any ops (l.toArray.setIfInBounds i true) → wpAnyG P .any ops Q late fu.length (Agree V' XL w') (l.toArray.setIfInBounds i true) a' w' := fun hk hl2 har hcc => by
     rw [← setB_eq]
     rw [setK_eq] at hk
     exact sxD_ok hT hQ hsel hd hK (hl' i) (by rw [setB_eq]; exact hcn) hk3 hk (hL.tail hl2) har (fun k hk => Nat.lt_of_lt_of_le (hkX k hk) hl2.n)
    have sub : ∀ {own' I' V' w'}, Later own I V w own' I' V' w' → Agree V XL w w' → (∀ k ∈ XL, ∀ b, V'.f k b → b < w.heap.size → ∃ k' ∈ XL, V.f k' b) → ∀ u, Agree V' XL w' u → Agree V XL w u := fun hl2 hA hf u hu b hb hX => by
     rw [← hA b hb hX]
     exact hu b (Nat.lt_of_lt_of_le hb hl2.fro.size) fun k hk hfb => by
      obtain ⟨k', h1, h2⟩ := hf k hk b hfb hb
      exact hX k' h1 h2
    refine wpOp_step ho' fun K1 hK1 => ?_
    have skip : ∀ {t'}, ARep N I V a t' → (setK l i fun l => sxD P tb XL late ops.toList fu l (put o.dst .un t') own V.n K) → K1 (a.put o.dst undef) w := fun ha' h => hK1 _ _ ⟨_, fun _ _ h => h, agree_refl _ _ _, fun hcc => again h (Later.refl hL.has).since (ha'.put hd0 (.of_v .un)) hcc⟩
    cases hli : isL tb o with
    | false =>
     rw [hli] at h
     dsimp only at h
     obtain ⟨t', ha', h⟩ := sxG_cases h ha
     rcases h with ⟨hw, h⟩ | ⟨hw, h⟩
     ·rw [if_pos hw]
      exact sxOp_b (mo := .new) hT (fun _ => rfl) hq hli h hL.has ha' hd0 fun t own I V a w1 hk hl2 hb hkp har => hK1 _ _ ⟨_, fun _ => sub hl2 (fun b hb' _ => hb.block b hb') (fun k hk b hf _ => ⟨k, hk, hkp k (hkX k hk) b hf⟩), agree_refl _ _ _, fun hcc => again hk hl2.since har hcc⟩
     ·rw [if_neg (by rw [hw]; exact Bool.false_ne_true)]
      exact skip ha' h
    | true =>
     rw [hli] at h
     dsimp only at h
     cases hm : memB i late with
     | true =>
      rw [hm] at h
      dsimp only at h
      obtain ⟨t', ha', h⟩ := sxG_cases h ha
      rcases h with ⟨hw, h⟩ | ⟨hw, h⟩
      ·rw [if_pos hw]
       exact sxOp_l (mo := .late) (own0 := own) (I0 := I) (V0 := V) (w0 := w) hT hli h (Later.refl hL.has).since ha' hd0 fun t own I V a w1 hk hl2 har => hK1 _ _ ⟨_, fun hn => absurd (memB_mem.1 hm) hn, agree_refl _ _ _, fun hcc => again hk hl2 har hcc⟩
      ·rw [if_neg (by rw [hw]; exact Bool.false_ne_true)]
       exact skip ha' h
     | false =>
      rw [hm] at h
      dsimp only at h
      cases hvs : vsG XL t o with
      | false => rw [hvs] at h; exact h.elim
      | true =>
       cases hvb : volB own XL with
       | false => rw [hvs, hvb] at h; exact h.elim
       | true =>
       rw [hvs, hvb] at h
       cases hgn : o.guard with
       | none =>
        have hvs : vsB XL t o = true := by
         unfold vsG at hvs
         rw [hgn] at hvs
         exact hvs
        dsimp only at h
        unfold sxG at h
        rw [hgn] at h
        rw [if_pos (wanted_none hgn)]
        exact sxOp_vs hT hvs h hL.has hkX ha hd0 fun t own I V a w1 hk hl2 hA hf har => hK1 _ _ ⟨_, fun _ => sub hl2 hA hf, agree_refl _ _ _, fun hcc => again hk hl2.since har hcc⟩
       | some gd =>
        dsimp only at h
        obtain ⟨t', ha', h⟩ := sxG_cases h ha
        rcases h with ⟨hw, h⟩ | ⟨hw, h⟩
        ·rw [if_pos hw]
         have hvs2 : vsB XL t' { o with guard := none } = true := by
          unfold vsG at hvs
          rw [hgn] at hvs
          obtain ⟨dst, op, type, pos, after, guard⟩ := o
          cases op with
          | call cl => exact hvs
          | _ => cases hvs
         have h2 : sxOp P tb (.vs XL) { o with guard := none } t' own V.n fun t w n => setK l i fun l => sxD P tb XL late ops.toList fu l t w n K := by
          obtain ⟨dst, op, type, pos, after, guard⟩ := o
          exact h
         have key := sxOp_vs (o := { o with guard := none }) (Q := Q) (K := fun t w n => setK l i fun l => sxD P tb XL late ops.toList fu l t w n K) hT hvs2 h2 hL.has hkX ha' hd0 fun t own I V a w1 hk hl2 hA hf har => hK1 _ _ ⟨_, fun _ => sub hl2 hA hf, agree_refl _ _ _, fun hcc => again hk hl2.since har hcc⟩
         exact key
        ·rw [if_neg (by rw [hw]; exact Bool.false_ne_true)]
         exact skip ha' h
end
end Go.Proofs.YtalfffamppmooaaGreatDoor
namespace Go.Proofs.YtalfffamppmooaaGreatDoor
open Go.RowKit
def opsB (N : Nat) (l : List Oper) : Bool := l.all fun o => match o.dst with | some i => Nat.blt i N | none => true
def codeB (tb : List (Nat × TI)) (N : Nat) : Code → Bool
 | .region _ ops d => opsB N ops.toList && (match d with | true => Region.noSelect ops && lateK tb ops.toList ops.toList 0 fun late => drawOK tb ops late ops.toList.length (noB ops.toList) | false => true)
 | .seq a b | .cond _ a b => codeB tb N a && codeB tb N b
 | .block _ a | .loop a => codeB tb N a
 | _ => true
def Ex.to : Ex → Exit
 | .normal => .normal
 | .exit id => .exit id
 | .ret => .ret
def ren (m : List (Nat × Nat)) (k : Nat) : Nat := (look k m).getD k
def Va.renS (V : Va) (m : List (Nat × Nat)) (n : Nat) : Va := ⟨n, V.b, fun k => V.s (Go.Proofs.YtalfffamppmooaaGreatDoor.ren m k), fun k => V.f (Go.Proofs.YtalfffamppmooaaGreatDoor.ren m k)⟩
def Va.ren (V : Va) (m : List (Nat × Nat)) (n : Nat) : Va := ⟨n, fun k => V.b (Go.Proofs.YtalfffamppmooaaGreatDoor.ren m k), fun k => V.s (Go.Proofs.YtalfffamppmooaaGreatDoor.ren m k), fun k => V.f (Go.Proofs.YtalfffamppmooaaGreatDoor.ren m k)⟩
section
variable {P : Program} {tb : List (Nat × TI)} {N n : Nat} {I I' I0 : Imm} {V V' V0 : Va} {a : Act} {t t' : Ts} {own own' own0 : Os} {w w' w0 : World} {g : G} {x y : Value} {d : Option Tmp} {m : List (Nat × Nat)} {r : R}
theorem crep_ren (hk : keyC n g = true) (h : CRep I V (renC m g) x) : CRep I (V.ren m n) g x := by
 cases g with
 | ptr k o => exact ⟨Nat.lt_of_lt_of_le (Nat.le_of_ble_eq_true hk) (Nat.le_refl _), h.2⟩
 | osl k => exact ⟨Nat.lt_of_lt_of_le (Nat.le_of_ble_eq_true hk) (Nat.le_refl _), h.2⟩
 | osv k sz lo hi => exact ⟨Nat.lt_of_lt_of_le (Nat.le_of_ble_eq_true hk) (Nat.le_refl _), h.2⟩
 | mp k => exact ⟨Nat.lt_of_lt_of_le (Nat.le_of_ble_eq_true hk) (Nat.le_refl _), h.2⟩
 | oel k i s o => exact h
 | _ => exact h
theorem pw_ren {cs : List G} {us : List Value} (hk : allB (keyC n) cs = true) (h : PW (CRep I V) (cs.map (renC m)) us) : PW (CRep I (V.ren m n)) cs us :=
 ⟨by have := h.1; simpa using this, fun j g u hg hu => crep_ren (allB_mem hk g (List.mem_of_getElem? hg)) (h.2 j _ u (by rw [List.getElem?_map, hg]; rfl) hu)⟩
theorem crep_renS (hk : keyC n g = true) (h : CRep I V (renSC m g) x) : CRep I (V.renS m n) g x := by
 cases g with
 | ptr k o => exact ⟨Nat.lt_of_lt_of_le (Nat.le_of_ble_eq_true hk) (Nat.le_refl _), h.2⟩
 | osl k => exact ⟨Nat.lt_of_lt_of_le (Nat.le_of_ble_eq_true hk) (Nat.le_refl _), h.2⟩
 | osv k sz lo hi => exact ⟨Nat.lt_of_lt_of_le (Nat.le_of_ble_eq_true hk) (Nat.le_refl _), h.2⟩
 | mp k => exact ⟨Nat.lt_of_lt_of_le (Nat.le_of_ble_eq_true hk) (Nat.le_refl _), h.2⟩
 | oel k i s o => exact h
 | _ => exact h
theorem pw_renS {cs : List G} {us : List Value} (hk : allB (keyC n) cs = true) (h : PW (CRep I V) (cs.map (renSC m)) us) : PW (CRep I (V.renS m n)) cs us :=
 ⟨by have := h.1; simpa using this, fun j g u hg hu => crep_renS (allB_mem hk g (List.mem_of_getElem? hg)) (h.2 j _ u (by rw [List.getElem?_map, hg]; rfl) hu)⟩
theorem trep1_renS (hk : key1 n g = true) (h : TRep1 I V (renS1 m g) x) : TRep1 I (V.renS m n) g x := by
 cases g with
 | oag l =>
  obtain ⟨cs, e, hp⟩ := (show ∃ cs : List Value, x = .agg cs.toArray ∧ PW (CRep I V) (l.map (renSC m)) cs from h)
  exact ⟨cs, e, pw_renS hk hp⟩
 | clo f a c =>
  obtain ⟨⟨g, hg, hn⟩, us, cs, e, h1, h2⟩ := (show (∃ g, (g ∈ a.map (renSC m) ∨ g ∈ c.map (renSC m)) ∧ noKey g = false) ∧ _ from h)
  have hk : (match allB (keyC n) a with | true => allB (keyC n) c | false => false) = true := hk
  split at hk
  ·next ha =>
   have hne : ∀ {g : G}, noKey (renSC m g) = false → noKey g = false := fun {g} h => by cases g <;> first | rfl | exact h
   refine ⟨?_, us, cs, e, pw_renS ha h1, pw_renS hk h2⟩
   rcases hg with hg | hg
   ·obtain ⟨g0, h3, rfl⟩ := List.mem_map.1 hg
    exact ⟨g0, .inl h3, hne hn⟩
   ·obtain ⟨g0, h3, rfl⟩ := List.mem_map.1 hg
    exact ⟨g0, .inr h3, hne hn⟩
  ·cases hk
 | oel k i s o =>
  obtain ⟨h1, h2⟩ := (show _ ∧ _ from h)
  exact ⟨Nat.lt_of_lt_of_le (Nat.le_of_ble_eq_true hk) (Nat.le_refl _), h2⟩
 | elp row o => exact h
 | tup l => cases hk
 | ptr k o => exact .of_c (crep_renS (g := .ptr k o) hk h)
 | osl k => exact .of_c (crep_renS (g := .osl k) hk h)
 | osv k sz lo hi => exact .of_c (crep_renS (g := .osv k sz lo hi) hk h)
 | mp k => exact .of_c (crep_renS (g := .mp k) hk h)
 | v z => exact .of_c (crep_renS (m := m) (V := V) (g := .v z) rfl h)
 | tt => exact .of_c (crep_renS (m := m) (V := V) (g := .tt) rfl h)
 | ff => exact .of_c (crep_renS (m := m) (V := V) (g := .ff) rfl h)
 | un => exact .of_c (crep_renS (m := m) (V := V) (g := .un) rfl h)
 | nl => exact .of_c (crep_renS (m := m) (V := V) (g := .nl) rfl h)
 | agg l => exact .of_c (crep_renS (m := m) (V := V) (g := .agg l) rfl h)
 | sl l => exact .of_c (crep_renS (m := m) (V := V) (g := .sl l) rfl h)
theorem trep_renS (hk : keyB n g = true) (h : TRep I V (renS m g) x) : TRep I (V.renS m n) g x := by
 cases g with
 | tup l =>
  obtain ⟨cs, e, hp⟩ := (show ∃ cs : List Value, x = .tuple cs.toArray ∧ PW (TRep1 I V) (l.map (renS1 m)) cs from h)
  exact ⟨cs, e, by simpa using hp.1, fun j g u hg hu => trep1_renS (allB_mem (show allB (key1 n) l = true from hk) g (List.mem_of_getElem? hg)) (hp.2 j _ u (by rw [List.getElem?_map, hg]; rfl) hu)⟩
 | oag l => exact .of_1 (trep1_renS (g := .oag l) hk h)
 | clo f a c => exact .of_1 (trep1_renS (g := .clo f a c) hk h)
 | oel k i s o => exact .of_1 (trep1_renS (g := .oel k i s o) hk h)
 | elp row o => exact .of_1 (g := .elp row o) h
 | ptr k o => exact .of_1 (trep1_renS (g := .ptr k o) hk h)
 | osl k => exact .of_1 (trep1_renS (g := .osl k) hk h)
 | osv k a b c => exact .of_1 (trep1_renS (g := .osv k a b c) hk h)
 | mp k => exact .of_1 (trep1_renS (g := .mp k) hk h)
 | v z => exact .of_1 (trep1_renS (m := m) (V := V) (g := .v z) rfl h)
 | tt => exact .of_1 (trep1_renS (m := m) (V := V) (g := .tt) rfl h)
 | ff => exact .of_1 (trep1_renS (m := m) (V := V) (g := .ff) rfl h)
 | un => exact .of_1 (trep1_renS (m := m) (V := V) (g := .un) rfl h)
 | nl => exact .of_1 (trep1_renS (m := m) (V := V) (g := .nl) rfl h)
 | agg l => exact .of_1 (trep1_renS (m := m) (V := V) (g := .agg l) rfl h)
 | sl l => exact .of_1 (trep1_renS (m := m) (V := V) (g := .sl l) rfl h)
theorem leT_get : ∀ {T : Ts}, leT m t n T → ∀ {i g}, look i T = some g → keyB n g = true ∧ look i t = some (renS m g)
 | [], _, i, g, h => by cases h
 | (j, g') :: T, hT, i, g, h => by
  rw [look_cons] at h
  split at h
  ·next e => subst e; cases h; exact hT.1
  ·exact leT_get hT.2 h
theorem leO_get : ∀ {T : Os}, leO m own n T → ∀ {i r}, look i T = some r → i < n ∧ (isS r = true ∨ ren m i = i) ∧ keyR n r = true ∧ look (ren m i) own = some (renSR m r)
 | [], _, i, g, h => by cases h
 | (j, g') :: T, hT, i, g, h => by
  rw [look_cons] at h
  split at h
  ·next e =>
   subst e; cases h
   have h1 := hT.1.1
   simp only [Bool.and_eq_true, Bool.or_eq_true] at h1
   exact ⟨Nat.le_of_ble_eq_true h1.1, h1.2.imp id Nat.eq_of_beq_eq_true, hT.1.2⟩
  ·exact leO_get hT.2 h
theorem leI_get : ∀ {T : Os}, leI m own n T → ∀ {i r}, look i T = some r → i < n ∧ keyR n r = true ∧ look (ren m i) own = some (renR m r)
 | [], _, i, g, h => by cases h
 | (j, g') :: T, hT, i, g, h => by
  rw [look_cons] at h
  split at h
  ·next e => subst e; cases h; exact ⟨Nat.le_of_ble_eq_true hT.1.1, hT.1.2⟩
  ·exact leI_get hT.2 h
theorem nod_inj : ∀ {l : Os}, nodB (l.map fun p => ren m p.1) = true → ∀ {k k' r r'}, look k l = some r → look k' l = some r' → ren m k = ren m k' → k = k'
 | [], _, k, k', r, r', h, _, _ => by cases h
 | (j, q) :: l, hn, k, k', r, r', h, h', e => by
  simp only [List.map_cons, nodB] at hn
  cases hm : memB (ren m j) (l.map fun p => ren m p.1) with
  | true => rw [hm] at hn; cases hn
  | false =>
   rw [hm] at hn
   have hno : ∀ k r, look k l = some r → ren m k ≠ ren m j := fun k r hk he => by
    have : ren m j ∈ l.map fun p => ren m p.1 := List.mem_map.2 ⟨(k, r), look_mem hk, he⟩
    rw [memB_mem.2 this] at hm
    cases hm
   rw [look_cons] at h h'
   split at h <;> split at h'
   ·next e1 e2 => rw [e1, e2]
   ·next e1 e2 => exact absurd (e ▸ e1 ▸ rfl : ren m k' = ren m j) (hno _ _ h')
   ·next e1 e2 => exact absurd (e.trans (by rw [e2])) (hno _ _ h)
   ·exact nod_inj hn h h' e
theorem le_ok (hn : V0.n ≤ n) (hS : Since own0 I0 V0 w0 own I V w) (ha : ARep N I V a t) (h : le m t own n t' own') : Since own0 I0 V0 w0 own' I (V.renS m n) w ∧ ARep N I (V.renS m n) a t' := by
 obtain ⟨h1, h2, h3⟩ := h
 have hH := hS.has
 refine ⟨⟨⟨hH.mem, fun k r hk => (leO_get h2 hk).1, fun k r hk => ?_, fun k r b hk hb => ?_, fun k k' r r' b hk hk' hb hb' => ?_⟩, ⟨hS.fro.os, hS.fro.tape, hS.fro.output, hS.fro.size, hS.fro.blk, hS.fro.mono, fun k r b hk hb hlt => ?_⟩, hn, hS.bb⟩, ⟨ha.defers, ha.size, fun i g hg => ?_⟩⟩
 ·obtain ⟨-, k1, k2, k3⟩ := leO_get h2 hk
  have hr := hH.each _ _ k3
  have hb : isS r = true ∨ V.b k = V.b (ren m k) := k1.imp id fun e => by rw [e]
  cases r with
  | blk cs ty =>
   have hb := hb.resolve_left (fun h => by cases h)
   obtain ⟨q1, us, q2, q3⟩ := hr
   exact ⟨fun b => by show V.f (ren m k) b ↔ b = V.b k; rw [hb]; exact q1 b, us, by show w.heap[V.b k]? = _; rw [hb]; exact q2, pw_renS k2 q3⟩
  | slc rows e sz => exact hr
  | froz rows sz => exact hr
  | gone => exact hr
  | mpI l =>
   have hb := hb.resolve_left (fun h => by cases h)
   exact ⟨fun b => by show V.f (ren m k) b ↔ b = V.b k; rw [hb]; exact hr.1 b, by show MapR I w (V.b k) _ _; rw [hb]; exact hr.2⟩
  | mpS l =>
   have hb := hb.resolve_left (fun h => by cases h)
   exact ⟨fun b => by show V.f (ren m k) b ↔ b = V.b k; rw [hb]; exact hr.1 b, by show MapR I w (V.b k) _ _; rw [hb]; exact hr.2⟩
  | sit s pos =>
   have hb := hb.resolve_left (fun h => by cases h)
   exact ⟨fun b => by show V.f (ren m k) b ↔ b = V.b k; rw [hb]; exact hr.1 b, by show w.heap[V.b k]? = _; rw [hb]; exact hr.2⟩
  | mpX l m2 ob =>
   have hb := hb.resolve_left (fun h => by cases h)
   exact ⟨fun b => by show V.f (ren m k) b ↔ b = V.b k; rw [hb]; exact hr.1 b, (show V.b k = m2 from hb.trans hr.2.1), hr.2.2⟩
  | mit j l D last m2 ob =>
   have hb := hb.resolve_left (fun h => by cases h)
   obtain ⟨a1, it, L, a2, a3, a4⟩ := hr
   exact ⟨fun b => by show V.f (ren m k) b ↔ b = V.b k; rw [hb]; exact a1 b, it, L, by show w.heap[V.b k]? = _; rw [hb]; exact a2, a3, fun w2 e1 e2 => by
    change w2.heap[V.b k]? = _ at e2
    show RanB w2 (V.b k) m2 strK id L D ∧ ∀ kg, last = some kg → ∃ v, VRep I kg.2 v ∧ ∀ P : Program, (Instr.entry (.pointer (some ⟨V.b k, 0, none⟩))).run P w2 = _
    rw [hb] at e2 ⊢
    exact a4 w2 e1 e2⟩
  | abs p =>
   have hb := hb.resolve_left (fun h => by cases h)
   exact ⟨hr.1, by show p I (V.b k) (V.f (ren m k)) w; rw [hb]; exact hr.2⟩
 ·obtain ⟨-, -, k2, k3⟩ := leO_get h2 hk
  exact hH.foot _ _ b k3 hb
 ·obtain ⟨-, -, -, k3⟩ := leO_get h2 hk
  obtain ⟨-, -, -, k3'⟩ := leO_get h2 hk'
  exact nod_inj h3 hk hk' (hH.disj _ _ _ _ b k3 k3' hb hb')
 ·obtain ⟨-, -, -, k3⟩ := leO_get h2 hk
  exact hS.fro.foot _ _ b k3 hb hlt
 ·obtain ⟨k1, k2⟩ := leT_get h1 hg
  obtain ⟨x, hx, hr⟩ := ha.get i _ k2
  exact ⟨x, hx, trep_renS k1 hr⟩
def NxtC (N : Nat) (own0 : Os) (I0 : Imm) (V0 : Va) (w0 : World) (K : KC) (Q : Exit → Act → World → Prop) : Prop :=
 ∀ e t own I V a w, K e t own V.n → Since own0 I0 V0 w0 own I V w → ARep N I V a t → Q e.to a w
theorem wanted_draw (hm : P.follows .mixedOrders = true) {id : Nat} {ops : Array Oper} {Q : Exit → Act → World → Prop} {S : World → Prop} {late : List Nat} (hc : wpAnyG P .any ops Q late ops.size S (Array.replicate ops.size false) a w.drew) : (Code.region id ops true).wp P Q a w :=
 wp_region_any hm (wpAny_of_G _ _ _ _ _ (closed_start _ rfl) hc)
theorem noB_eq (l : List Oper) : (noB l).toArray = Array.replicate l.length false ∧ (noB l).length = l.length := by
 have : noB l = List.replicate l.length false := by
  induction l with
  | nil => rfl
  | cons o l ih => rw [noB, ih]; rfl
 rw [this]; simp
theorem markE_ex (es : List Edge) (m : List Bool) : ∃ m', ∀ {α : Type} (K : List Bool → α), markE es m K = K m' := by
 induction es generalizing m with
 | nil => exact ⟨m, fun _ => rfl⟩
 | cons e es ih =>
  cases hb : Region.binds .any e with
  | true =>
   obtain ⟨m', h⟩ := ih (setB m e.on)
   exact ⟨m', fun K => by unfold markE; rw [hb]; dsimp only; rw [setK_eq]; exact h K⟩
  | false =>
   obtain ⟨m', h⟩ := ih m
   exact ⟨m', fun K => by unfold markE; rw [hb]; exact h K⟩
theorem reachK_ex (ops : List Oper) (n : Nat) (m : List Bool) : ∃ m', ∀ {α : Type} (K : List Bool → α), reachK ops n m K = K m' := by
 induction n generalizing m with
 | zero => exact ⟨m, fun _ => rfl⟩
 | succ n ih =>
  cases hb : getB m n with
  | true =>
   cases ho : nth ops n with
   | none =>
    obtain ⟨m', h⟩ := ih m
    exact ⟨m', fun K => by unfold reachK; rw [hb, ho]; exact h K⟩
   | some o =>
    obtain ⟨m1, h1⟩ := markE_ex o.after.toList m
    obtain ⟨m', h⟩ := ih m1
    exact ⟨m', fun K => by unfold reachK; rw [hb, ho]; dsimp only; rw [h1]; exact h K⟩
  | false =>
   obtain ⟨m', h⟩ := ih m
   exact ⟨m', fun K => by unfold reachK; rw [hb]; exact h K⟩
theorem lateK_ex (ops : List Oper) (l : List Oper) (i : Nat) : ∃ r, ∀ {α : Type} (K : List Nat → α), lateK tb ops l i K = K r := by
 induction l generalizing i with
 | nil => exact ⟨[], fun _ => rfl⟩
 | cons o l ih =>
  obtain ⟨r, h⟩ := ih (i + 1)
  cases hl : isL tb o with
  | false => exact ⟨r, fun K => by unfold lateK; rw [hl]; exact h K⟩
  | true =>
   obtain ⟨m, hm⟩ := reachK_ex ops (i + 1) (setB (noB ops) i)
   cases ha : allR tb ops m with
   | true => exact ⟨i :: r, fun K => by unfold lateK; rw [hl]; dsimp only; rw [setK_eq, hm, ha]; exact h _⟩
   | false => exact ⟨r, fun K => by unfold lateK; rw [hl]; dsimp only; rw [setK_eq, hm, ha]; exact h _⟩
theorem addK_ex (k : Nat) : ∀ r : List Nat, ∃ r' : List Nat, (∀ {α : Type} (K : List Nat → α), addK k r K = K r') ∧ ∀ j ∈ r', j ∈ r ∨ j = k
 | [] => ⟨[k], fun _ => rfl, fun j h => .inr (by simpa using h)⟩
 | i :: r => by
  obtain ⟨r', h1, h2⟩ := addK_ex k r
  cases hb : Nat.beq k i with
  | true => exact ⟨i :: r, fun K => by unfold addK; rw [hb], fun j h => .inl h⟩
  | false =>
   refine ⟨i :: r', fun K => by unfold addK; rw [hb]; exact h1 _, fun j h => ?_⟩
   rcases List.mem_cons.1 h with rfl | h
   ·exact .inl (by simp)
   ·exact (h2 j h).imp (fun h => by simp [h]) id
def GathLt {α : Type} (n : Nat) (F : List Nat → (List Nat → α) → α) : Prop := ∀ r, (∀ k ∈ r, k < n) → ∃ r' : List Nat, (∀ k ∈ r', k < n) ∧ ∀ K : List Nat → α, F r K = K r'
theorem GathLt.seq {α : Type} {n : Nat} {F F' : List Nat → (List Nat → α) → α} (h : GathLt n F) (h' : GathLt n F') : GathLt n (fun r K => F r fun r => F' r K) := fun r hr => by
 obtain ⟨r1, a1, a2⟩ := h r hr
 obtain ⟨r2, b1, b2⟩ := h' r1 a1
 exact ⟨r2, b1, fun K => (a2 _).trans (b2 K)⟩
theorem GathLt.none {α : Type} {n : Nat} : GathLt n (fun r (K : List Nat → α) => K r) := fun r hr => ⟨r, hr, fun _ => rfl⟩
theorem gathLt_add {α : Type} {n k : Nat} (hk : k < n) : GathLt (α := α) n (fun r K => addK k r K) := fun r hr => by
 obtain ⟨r', h1, h2⟩ := addK_ex k r
 exact ⟨r', fun j hj => (h2 j hj).elim (hr j) (fun e => by omega), fun K => h1 K⟩
theorem va_C {α : Type} (h : CRep I V g x) : GathLt (α := α) V.n (fun r K => vaC g r K) := by
 cases g with
 | ptr k o => exact gathLt_add h.1
 | _ => exact GathLt.none
theorem va_CL {α : Type} : ∀ {l : List G} {us : List Value}, PW (CRep I V) l us → GathLt (α := α) V.n (fun r K => vaCL l r K)
 | [], _, _ => GathLt.none
 | g :: l, us, h => by
  obtain ⟨x, us', rfl, h1, h2⟩ := h.uncons
  exact (va_C h1).seq (va_CL h2)
theorem va_1 {α : Type} (h : TRep I V g x) : GathLt (α := α) V.n (fun r K => va1 g r K) := by
 cases g with
 | clo f a c =>
  obtain ⟨-, us, cs, -, h1, h2⟩ := (show TRep1 I V (.clo f a c) x from h)
  exact (va_CL h1).seq (va_CL h2)
 | ptr k o => exact gathLt_add (trep_ptr h).1
 | _ => exact GathLt.none
theorem rootOf_look {ops : List Oper} {k : Nat} : ∀ {n d : Nat}, rootOf t ops n d = some k → ∃ d' o, look d' t = some (.ptr k o)
 | 0, _, h => by cases h
 | n + 1, d, h => by
  unfold rootOf at h
  split at h
  ·next hl => cases h; exact ⟨d, _, hl⟩
  ·cases h
  ·split at h
   ·exact rootOf_look h
   ·cases h
theorem va_L {α : Type} (ha : ARep N I V a t) (ops : List Oper) : ∀ l : List Operand, GathLt (α := α) V.n (fun r K => vaL t ops l r K)
 | [] => GathLt.none
 | y :: l => fun r hr => by
  have ih := va_L (α := α) ha ops l
  cases y with
  | tmp d =>
   cases hl : look d t with
   | none =>
    cases hro : rootOf t ops 8 d with
    | none =>
     obtain ⟨r', h1, h2⟩ := ih r hr
     exact ⟨r', h1, fun K => by show vaL t ops (.tmp d :: l) r K = _; unfold vaL; dsimp only; rw [hl]; dsimp only; rw [hro]; exact h2 K⟩
    | some k =>
     obtain ⟨_, _, hl2⟩ := rootOf_look hro
     obtain ⟨y, hy, hg⟩ := ha.get _ _ hl2
     obtain ⟨r1, a1, a2⟩ := gathLt_add (α := α) (trep_ptr hg).1 r hr
     obtain ⟨r2, b1, b2⟩ := ih r1 a1
     exact ⟨r2, b1, fun K => by show vaL t ops (.tmp d :: l) r K = _; unfold vaL; dsimp only; rw [hl]; dsimp only; rw [hro]; exact (a2 _).trans (b2 K)⟩
   | some g =>
    obtain ⟨z, hz, hg⟩ := ha.get d g hl
    obtain ⟨r1, a1, a2⟩ := va_1 (α := α) hg r hr
    obtain ⟨r2, b1, b2⟩ := ih r1 a1
    exact ⟨r2, b1, fun K => by show vaL t ops (.tmp d :: l) r K = _; unfold vaL; dsimp only; rw [hl]; exact (a2 _).trans (b2 K)⟩
  | _ => exact ih r hr
theorem gkC_lt (h : CRep I V g x) : GathLt (α := Prop) V.n (fun r K => gkC g r K) := by
 cases g with
 | ptr k o => exact gathLt_add h.1
 | osl k => exact gathLt_add h.1
 | osv k a b c => exact gathLt_add h.1
 | oel k i s o => exact h.elim
 | mp k => exact gathLt_add h.1
 | _ => exact GathLt.none
theorem gkCL_lt : ∀ {l : List G} {us : List Value}, PW (CRep I V) l us → GathLt (α := Prop) V.n (fun r K => gkCL l r K)
 | [], _, _ => GathLt.none
 | g :: l, us, h => by
  obtain ⟨x, us', rfl, h1, h2⟩ := h.uncons
  exact (gkC_lt h1).seq (gkCL_lt h2)
theorem stepK_lt (hH : Has I V own w) : ∀ l : List Nat, GathLt (α := Prop) V.n (fun r K => stepK own l r K)
 | [] => GathLt.none
 | k :: l => fun r hr => by
  have ih := stepK_lt hH l
  show ∃ r' : List Nat, _ ∧ ∀ K : List Nat → Prop, stepK own (k :: l) r K = K r'
  unfold stepK
  split
  ·next cs t hl =>
   obtain ⟨-, us, -, hp⟩ := hH.each k _ hl
   obtain ⟨r1, a1, a2⟩ := gkCL_lt hp r hr
   obtain ⟨r2, b1, b2⟩ := ih r1 a1
   exact ⟨r2, b1, fun K => (a2 _).trans (b2 K)⟩
  ·exact ih r hr
theorem trK_lt (hH : Has I V own w) : ∀ n : Nat, GathLt (α := Prop) V.n (fun r K => trK own n r K)
 | 0 => GathLt.none
 | n + 1 => fun r hr => by
  obtain ⟨r1, a1, a2⟩ := stepK_lt hH r r hr
  obtain ⟨r2, b1, b2⟩ := trK_lt hH n r1 a1
  exact ⟨r2, b1, fun K => (a2 _).trans (b2 K)⟩
theorem absK_lt {α : Type} {n : Nat} : ∀ w : Os, (∀ k r, (k, r) ∈ w → k < n) → GathLt (α := α) n (fun r K => absK w r K)
 | [], _ => GathLt.none
 | (k, q) :: l, h => fun r hr => by
  have ih := absK_lt (α := α) l fun k r hk => h k r (by simp [hk])
  cases q with
  | abs p =>
   obtain ⟨r1, a1, a2⟩ := gathLt_add (α := α) (h k _ (by simp : (k, R.abs p) ∈ _)) r hr
   obtain ⟨r2, b1, b2⟩ := ih r1 a1
   exact ⟨r2, b1, fun K => (a2 _).trans (b2 K)⟩
  | _ => exact ih r hr
theorem mapK_lt {α : Type} {n : Nat} : ∀ w : Os, (∀ k r, (k, r) ∈ w → k < n) → GathLt (α := α) n (fun r K => mapK w r K)
 | [], _ => GathLt.none
 | (k, q) :: l, h => fun r hr => by
  have ih := mapK_lt (α := α) l fun k r hk => h k r (by simp [hk])
  cases q with
  | mpI p =>
   obtain ⟨r1, a1, a2⟩ := gathLt_add (α := α) (h k _ (by simp : (k, R.mpI p) ∈ _)) r hr
   obtain ⟨r2, b1, b2⟩ := ih r1 a1
   exact ⟨r2, b1, fun K => (a2 _).trans (b2 K)⟩
  | mpS p =>
   obtain ⟨r1, a1, a2⟩ := gathLt_add (α := α) (h k _ (by simp : (k, R.mpS p) ∈ _)) r hr
   obtain ⟨r2, b1, b2⟩ := ih r1 a1
   exact ⟨r2, b1, fun K => (a2 _).trans (b2 K)⟩
  | _ => exact ih r hr
theorem look_of_mem {α : Type} {k : Nat} {x : α} : ∀ {l : List (Nat × α)}, (k, x) ∈ l → ∃ y, look k l = some y
 | [], h => by simp at h
 | (j, y) :: l, h => by
  rw [look_cons]
  by_cases e : k = j
  ·rw [if_pos e]; exact ⟨y, rfl⟩
  ·rw [if_neg e]
   rcases List.mem_cons.1 h with h | h
   ·exact absurd (congrArg Prod.fst h) e
   ·exact look_of_mem h
theorem volK_ex (hH : Has I V own w) (ha : ARep N I V a t) (late : List Nat) (ops l : List Oper) (i : Nat) (r0 : List Nat) (h0 : ∀ k ∈ r0, k < V.n) : ∃ r : List Nat, (∀ k ∈ r, k < V.n) ∧ ∀ K : List Nat → Prop, volK tb late t own ops l i r0 K = K r := by
 have key : ∀ (l : List Oper) (i : Nat) (r0 : List Nat), (∀ k ∈ r0, k < V.n) → ∃ r : List Nat, (∀ k ∈ r, k < V.n) ∧ ∀ K : List Nat → Prop, volK tb late t own ops l i r0 K = K r := fun l => by
  induction l with
  | nil => exact fun i r0 h0 => ⟨r0, h0, fun _ => rfl⟩
  | cons o l ih =>
   intro i r0 h0
   unfold volK
   split
   ·split
    ·next hro =>
     obtain ⟨_, _, hl⟩ := rootOf_look hro
     obtain ⟨y, hy, hg⟩ := ha.get _ _ hl
     obtain ⟨r1, a1, a2⟩ := addK_ex _ r0
     obtain ⟨r, b1, b2⟩ := ih (i + 1) r1 (fun j hj => (a2 j hj).elim (h0 j) fun e => by rw [e]; exact (trep_ptr hg).1)
     exact ⟨r, b1, fun K => (a1 _).trans (b2 K)⟩
    ·exact ih (i + 1) r0 h0
   ·split
    ·next f _ =>
     obtain ⟨r1, a1, a2⟩ := va_L (α := Prop) ha ops (f :: _) r0 h0
     obtain ⟨r2, c1, c2⟩ := absK_lt (α := Prop) own (fun k r hk => by obtain ⟨y, hy⟩ := look_of_mem hk; exact hH.num k y hy) r1 a1
     cases anyB (isMpT tb) _ with
     | true =>
      obtain ⟨r3, d1, d2⟩ := mapK_lt (α := Prop) own (fun k r hk => by obtain ⟨y, hy⟩ := look_of_mem hk; exact hH.num k y hy) r2 c1
      obtain ⟨r, b1, b2⟩ := ih (i + 1) r3 d1
      exact ⟨r, b1, fun K => (a2 _).trans ((c2 _).trans ((d2 _).trans (b2 K)))⟩
     | false =>
      obtain ⟨r, b1, b2⟩ := ih (i + 1) r2 c1
      exact ⟨r, b1, fun K => (a2 _).trans ((c2 _).trans (b2 K))⟩
    ·exact ih (i + 1) r0 h0
   ·exact ih (i + 1) r0 h0
 exact key l i r0 h0
theorem sxC_ok (hT : ∀ t i, look t tb = some i → TIok P t i) (hm : P.follows .mixedOrders = true) : ∀ {c : Code} {t : Ts} {own : Os} {I : Imm} {V : Va} {a : Act} {w : World} {K : KC} {Q : Exit → Act → World → Prop}, sxC P tb c t own V.n K → Since own0 I0 V0 w0 own I V w → ARep N I V a t → codeB tb N c = true → (∀ ch d v a w, Q (.panic ch) (a.put d v) w → Q (.panic ch) a w) → NxtC N own0 I0 V0 w0 K Q → c.wp P Q a w := by
 intro c
 induction c with
 | skip => intro t own I V a w K Q h hL ha _ _ hK; exact wp_skip (hK .normal _ _ _ _ _ _ h hL ha)
 | label l => intro t own I V a w K Q h hL ha _ _ hK; exact wp_label (hK .normal _ _ _ _ _ _ h hL ha)
 | ret => intro t own I V a w K Q h hL ha _ _ hK; exact wp_ret (hK .ret _ _ _ _ _ _ h hL ha)
 | exit id => intro t own I V a w K Q h hL ha _ _ hK; exact wp_exit (hK (.exit id) _ _ _ _ _ _ h hL ha)
 | seq x y ihx ihy =>
  intro t own I V a w K Q h hL ha hc hQ hK
  simp only [codeB, Bool.and_eq_true] at hc
  have h : sxSeq x y (sxC P tb x) (sxC P tb y) t own V.n K := h
  unfold sxSeq at h
  refine wp_seq (ihx h hL ha hc.1 (fun ch d v a w => hQ ch d v a w) fun e t own I V a w hk hL ha => ?_)
  cases e with
  | normal => exact ihy hk hL ha hc.2 hQ hK
  | exit id => exact hK (.exit id) _ _ _ _ _ _ hk hL ha
  | ret => exact hK .ret _ _ _ _ _ _ hk hL ha
 | cond c x y ihx ihy =>
  intro t own I V a w K Q h hL ha hc hQ hK
  simp only [codeB, Bool.and_eq_true] at hc
  have h : sxCond c x y (sxC P tb x) (sxC P tb y) t own V.n K := h
  unfold sxCond at h
  obtain ⟨g, h, hg⟩ := ev_ok h ha hL.has
  cases g with
  | tt => exact wp_cond_true (by generalize a.eval c = z at hg; cases (show VRep I .tt z from hg); rfl) (ihx h hL ha hc.1 hQ hK)
  | ff => exact wp_cond_false (by generalize a.eval c = z at hg; cases (show VRep I .ff z from hg); rfl) (ihy h hL ha hc.2 hQ hK)
  | v z =>
   have e := trep_v hg
   cases z with
   | bool b => exact wp_cond_split e (fun hb => ihx (h.1 hb) hL ha hc.1 hQ hK) (fun hb => ihy (h.2 hb) hL ha hc.2 hQ hK)
   | _ => exact h.elim
  | _ => exact h.elim
 | block id x ih =>
  intro t own I V a w K Q h hL ha hc hQ hK
  have h : sxBlock id x (sxC P tb x) t own V.n K := h
  unfold sxBlock at h
  refine wp_block (ih h hL ha hc (fun ch d v a w => hQ ch d v a w) fun e t own I V a w hk hL ha => ?_)
  cases e with
  | normal => exact hK .normal _ _ _ _ _ _ hk hL ha
  | exit id' =>
   show if id' = id then Q .normal a w else Q (.exit id') a w
   dsimp only at hk
   by_cases hi : id' = id
   ·subst hi
    rw [if_pos rfl]
    rw [Nat.beq_refl] at hk
    exact hK .normal _ _ _ _ _ _ hk hL ha
   ·rw [if_neg hi]
    have h2 : Nat.beq id' id = false := by
     cases hb : Nat.beq id' id with
     | false => rfl
     | true => exact absurd (Nat.eq_of_beq_eq_true hb) hi
    rw [h2] at hk
    exact hK (.exit id') _ _ _ _ _ _ hk hL ha
  | ret => exact hK .ret _ _ _ _ _ _ hk hL ha
 | loop x ih =>
  intro t own I V a w K Q h hL ha hc hQ hK
  have h : sxLoop x (sxC P tb x) t own V.n K := h
  unfold sxLoop at h
  obtain ⟨X, st, dd, In, μ, ⟨x0, h0, hle⟩, hround⟩ := h
  have hn0 := hL.n
  let At : X → Act → World → Prop := fun x a w => In x ∧ ∃ I V', V'.n = V.n ∧ Since own0 I0 V0 w0 (st x).2 I V' w ∧ ARep N I V' a (st x).1
  have h1 := le_ok hL.n hL ha hle
  refine wp_loop_ghost (fun k a w => ∃ x, At x a w ∧ μ x = k) (μ x0) ⟨x0, ⟨h0, I, _, rfl, h1.1, h1.2⟩, rfl⟩ fun k a1 w1 hI => ?_
  obtain ⟨x1, ⟨hi, I1, V1, hn, hS, hA⟩, rfl⟩ := hI
  have hb := hround x1 hi
  rw [← hn] at hb
  refine ih hb hS hA hc (fun ch d v a w => hQ ch d v a w) fun e t own I V a w hk hL ha => ?_
  cases e with
  | normal =>
   obtain ⟨y, hy, hlt, hle⟩ := hk
   have h2 := le_ok (n := V1.n) (by omega) hL ha hle
   exact ⟨μ y, hlt, y, ⟨hy, I, _, by simp [Va.renS, hn], h2.1, h2.2⟩, rfl⟩
  | exit id => exact hK (.exit id) _ _ _ _ _ _ hk hL ha
  | ret => exact hK .ret _ _ _ _ _ _ hk hL ha
 | region id ops dr =>
  intro t own I V a w K Q h hL ha hc hQ hK
  simp only [codeB, Bool.and_eq_true] at hc
  have hd : ∀ o ∈ ops.toList, ∀ i, o.dst = some i → i < N := fun o ho i hi => by
   have := List.all_eq_true.1 hc.1 o ho
   rw [hi] at this
   exact Nat.le_of_ble_eq_true this
  have h : sxReg P tb id ops dr t own V.n K := h
  unfold sxReg at h
  cases dr with
  | false => exact wp_region_list (sxO_ok hT (fun t own I V a w hk hL ha => hK .normal _ _ _ _ _ _ hk hL ha) h hL ha hd)
  | true =>
   have hc2 := hc.2
   simp only [Bool.and_eq_true] at hc2
   have hH : Has I V own w.drew := hL.has.heap rfl rfl
   have hL2 : Since own0 I0 V0 w0 own I V w.drew := ⟨hH, ⟨hL.fro.os, hL.fro.tape, hL.fro.output, hL.fro.size, hL.fro.blk, hL.fro.mono, hL.fro.foot⟩, hL.n, hL.bb⟩
   have hn := noB_eq ops.toList
   obtain ⟨late, hlate⟩ := lateK_ex (tb := tb) ops.toList ops.toList 0
   obtain ⟨XL, hXL, hvol⟩ := volK_ex (tb := tb) hL.has ha late ops.toList ops.toList 0 [] (fun k hk => by simp at hk)
   have h : lateK tb ops.toList ops.toList 0 fun late => volK tb late t own ops.toList ops.toList 0 [] fun XL => trK own 3 XL fun XL => sxD P tb XL late ops.toList ops.toList (noB ops.toList) t own V.n (K .normal) := h
   rw [hlate] at hc2
   obtain ⟨XL2, hXL2, htr⟩ := trK_lt hL.has 3 XL hXL
   have htr : ∀ K : List Nat → Prop, trK own 3 XL K = K XL2 := htr
   rw [hlate, hvol, htr] at h
   refine wanted_draw hm (late := late) (S := Agree V XL2 w.drew) ?_
   have := sxD_ok (fu := ops.toList) (l := noB ops.toList) hT hQ hc2.1 hd (fun t own I V a w hk hL ha => hK .normal _ _ _ _ _ _ hk hL ha) (by rw [hn.2]; simp) (by rw [hn.1]; exact closed_start _ (by simp)) hc2.2 h hL2 ha hXL2
   rw [hn.1] at this
   simpa using this
 | _ => intro t own I V a w K Q h; exact False.elim h
end
end Go.Proofs.YtalfffamppmooaaGreatDoor
namespace Go.Proofs.YtalfffamppmooaaGreatDoor
open Go.RowKit
section
variable {P : Program} {tb : List (Nat × TI)} {N n : Nat} {I I' I0 : Imm} {V V' V0 : Va} {a : Act} {t t' : Ts} {own own' own0 : Os} {w w' w0 : World} {g : G} {x y : Value}
def resSem (tmps : Array Value) : ResultVar → Sem Value
 | .tmp t => pure (tmps.getD t undef)
 | .cell x t => do loadVar t (← asAddr (tmps.getD x undef))
def resRun (P : Program) (a : Act) (w : World) (r : ResultVar) (v : Value) : Prop := (resSem a.tmps r).run P w = .ok v w
theorem resK_okn (hT : ∀ t i, look t tb = some i → TIok P t i) {r : ResultVar} {K1 : G → Os → Prop} (h : resK tb t own K1 r) (hH : Has I V own w) (ha : ARep N I V a t) : ∃ g own' I' V' v, K1 g own' ∧ V'.n = V.n ∧ Later own I V w own' I' V' w ∧ VRep I' g v ∧ resRun P a w r v := by
 cases r with
 | tmp i =>
  unfold resK at h
  dsimp only at h
  cases hl : look i t with
  | none => rw [hl] at h; exact h.elim
  | some g =>
   rw [hl] at h
   obtain ⟨x, hx, hr⟩ := ha.get i g hl
   obtain ⟨g', o1, I1, V1, h1, hn, h3, h4⟩ := pur_ok h hr hH
   exact ⟨g', o1, I1, V1, x, h1, hn.1, h3, h4, by unfold resRun resSem; simp [hx]⟩
 | cell i ty =>
  unfold resK at h
  dsimp only at h
  split at h
  ·next k off ti hl hty =>
   obtain ⟨x, hx, hr⟩ := ha.get i _ hl
   obtain ⟨hk, rfl⟩ := trep_ptr hr
   split at h
   ·next cs ty' hb =>
    obtain ⟨us, h1, h2, h3⟩ := blk_at hH hb
    have hti := hT _ _ hty
    cases hag : ti.agg with
    | true =>
     rw [hag] at h
     obtain ⟨l, k1, k2, -⟩ := seg_ok h h2
     obtain ⟨l', o1, I1, V1, q1, qn, q3, q4⟩ := purL_ok k1 k2 hH
     have hlen : ((us.drop off).take ti.zero.length).length = ti.zero.length := by
      rcases Nat.eq_zero_or_pos ti.zero.length with h0 | h0
      ·rw [h0]; simp
      ·have := seg_len h h2 h0; simp; omega
     refine ⟨_, o1, I1, V1, _, q1, qn.1, q3, pw_v q4, ?_⟩
     have := run_loadVar_part (P := P) (w := w) (g := V.b k) (k := off) (ty := ty) (cs := (us.drop off).take ti.zero.length) (by rw [hti.agg, hag]) (by rw [hti.size, hlen]) (fun j v hv => by rw [h3]; exact drop_get hv)
     unfold resRun resSem
     simp [hx, asAddr, this]
    | false =>
     rw [hag, nth_eq] at h
     dsimp only at h
     cases hc : cs[off]? with
     | none => rw [hc] at h; exact h.elim
     | some g =>
      rw [hc] at h
      obtain ⟨v, hv, hg⟩ := h2.get hc
      obtain ⟨g', o1, I1, V1, q1, qn, q3, q4⟩ := pur1_ok h hg hH
      refine ⟨g', o1, I1, V1, v, q1, qn.1, q3, q4, ?_⟩
      have hcell := (h3 off).trans hv
      unfold resRun resSem
      simp [hx, asAddr, loadVar, run_isAgg (P := P) (show aggB P ty = some false by rw [hti.agg, hag]), hcell]
   ·exact h.elim
  ·exact h.elim
theorem resK_ok (hT : ∀ t i, look t tb = some i → TIok P t i) {r : ResultVar} {K1 : G → Os → Prop} (h : resK tb t own K1 r) (hH : Has I V own w) (ha : ARep N I V a t) : ∃ g own' I' V' v, K1 g own' ∧ Later own I V w own' I' V' w ∧ VRep I' g v ∧ resRun P a w r v := by
 obtain ⟨g, o, I', V', v, h1, -, h2⟩ := resK_okn hT h hH ha
 exact ⟨g, o, I', V', v, h1, h2⟩
theorem resL_ok (hT : ∀ t i, look t tb = some i → TIok P t i) : ∀ {rs : List ResultVar} {own : Os} {I : Imm} {V : Va} {K1 : List G → Prop}, resL tb t own rs K1 → Has I V own w → ARep N I V a t → ∃ gs own' I' V', ∃ vs : List Value, K1 gs ∧ Later own I V w own' I' V' w ∧ PW (VRep I') gs vs ∧ vs.length = rs.length ∧ ∀ (i : Nat) r v, rs[i]? = some r → vs[i]? = some v → resRun P a w r v
 | [], own, I, V, K1, h, hH, _ => ⟨[], own, I, V, [], h, .refl hH, .nil, rfl, fun i r v h => by simp at h⟩
 | r :: rs, own, I, V, K1, h, hH, ha => by
  obtain ⟨g, o1, I1, V1, v, h1, h2, h3, h4⟩ := resK_ok (K1 := fun g w' => resL tb t w' rs fun gs => K1 (g :: gs)) hT h hH ha
  obtain ⟨gs, o2, I2, V2, vs, k1, k2, k3, k4, k5⟩ := resL_ok hT h1 h2.has (ha.mono h2.fro.mono h2.va)
  refine ⟨g :: gs, o2, I2, V2, v :: vs, k1, h2.trans k2, .cons (h3.mono k2.fro.mono) k3, by simp [k4], fun i r' v' hr hv => ?_⟩
  cases i with
  | zero => simp at hr hv; subst hr hv; exact h4
  | succ i => exact k5 i r' v' (by simpa using hr) (by simpa using hv)
theorem res_list : ∀ {rs : List ResultVar} {vs : List Value}, vs.length = rs.length → (∀ (i : Nat) r v, rs[i]? = some r → vs[i]? = some v → resRun P a w r v) → (rs.mapM (resSem a.tmps)).run P w = .ok vs w
 | [], vs, h, _ => by rw [List.eq_nil_of_length_eq_zero h]; simp
 | r :: rs, [], h, _ => by simp at h
 | r :: rs, v :: vs, h, hr => by
  have h1 := hr 0 r v rfl rfl
  have h2 := res_list (rs := rs) (vs := vs) (by simpa using h) fun i r v h h' => hr (i + 1) r v (by simpa using h) (by simpa using h')
  unfold resRun at h1
  rw [List.mapM_cons, Sem.run_bind, h1, Result.andThen_ok, Sem.run_bind, h2, Result.andThen_ok, Sem.run_pure]
def packV : List Value → Value
 | [v] => v
 | vs => .tuple vs.toArray
theorem run_results {fn : Func} {vs : List Value} (hl : vs.length = fn.results.toList.length) (hr : ∀ (i : Nat) r v, fn.results.toList[i]? = some r → vs[i]? = some v → resRun P a w r v) : (results fn a.tmps).run P w = .ok (packV vs) w := by
 have h := res_list hl hr
 have e : results fn a.tmps = (do let vs ← fn.results.mapM (resSem a.tmps); pure (if h : vs.size = 1 then vs[0] else .tuple vs)) := by
  unfold results
  congr 2
 rw [e, Sem.run_bind, Array.mapM_eq_mapM_toList]
 simp only [Sem.run_map, h, Result.andThen_ok, Sem.run_pure]
 cases vs with
 | nil => simp [packV]
 | cons v vs =>
  cases vs with
  | nil => simp [packV]
  | cons u vs => simp [packV]
theorem args0_look : ∀ {l : List G} {k i : Nat} {g : G}, look i (args0 k l) = some g → ∃ j, i = k + j ∧ l[j]? = some g
 | [], k, i, g, h => by cases h
 | g' :: l, k, i, g, h => by
  unfold args0 at h
  rw [look_cons] at h
  split at h
  ·next e => cases h; exact ⟨0, by omega, rfl⟩
  ·obtain ⟨j, h1, h2⟩ := args0_look h
   exact ⟨j + 1, by omega, by simpa using h2⟩
theorem fn_of_sx (hT : ∀ t i, look t tb = some i → TIok P t i) (hm : P.follows .mixedOrders = true) {f : FuncId} {fn : Func} {c : Code} {gs : List G} {Q : G → Prop} (hf : P.funcs[f]? = some fn) (hname : (fn.name == "runtime.NumGoroutine") = false) (hb : fn.body = some c) (hn : gs.length ≤ fn.ntmps) (hc : codeB tb fn.ntmps c = true)
  (h : sxC P tb c (args0 0 gs) [] 0 (sxRes tb fn Q)) : FnV P f gs Q := by
 refine ⟨⟨fn, hf, hname, by rw [hb]; rfl⟩, fun I w vs hM hp => ?_⟩
 let V : Va := ⟨0, fun _ => 0, fun _ => undef, fun _ _ => False⟩
 have hH : Has I V [] w := ⟨hM, fun k r h => (by cases h), fun k r h => (by cases h), fun k r b h => (by cases h), fun k k' r r' b h => (by cases h)⟩
 refine calls_of_wp hf hb ?_
 have hlen : vs.length = gs.length := hp.1.symm
 have ha : ARep fn.ntmps I V { tmps := vs.toArray ++ Array.replicate (fn.ntmps - vs.toArray.size) undef, defers := [] } (args0 0 gs) := by
  refine ⟨rfl, by simp; omega, fun i g hg => ?_⟩
  obtain ⟨j, e, hj⟩ := args0_look hg
  obtain rfl : i = j := by omega
  obtain ⟨u, hu, hr⟩ := hp.get hj
  refine ⟨u, ?_, .of_v hr⟩
  have hi := (List.getElem?_eq_some_iff.1 hu).1
  show (vs.toArray ++ _)[i]? = _
  rw [Array.getElem?_append_left (by simpa using hi)]
  simpa using hu
 refine sxC_ok (own0 := []) (I0 := I) (V0 := V) (w0 := w) hT hm (V := V) h ⟨hH, .refl _ _ _ _, Nat.le_refl _, fun _ _ => rfl⟩ ha hc (fun ch d v a w hq => ?_) fun e t own I1 V1 a w1 hk hS hA => ?_
 ·cases d <;> exact hq
 ·have key : (∀ id, e ≠ .exit id) → bodyPost P fn (fun e w' => ∃ x g I', e = .returned x ∧ Q g ∧ Mem I' w' ∧ VR I' g x ∧ (∀ b o x, I b o = some x → I' b o = some x) ∧ (∀ b o, b < w.heap.size → I' b o = I b o) ∧ Below w.heap.size w w') .ret a w1 := fun he => by
   refine ⟨hA.defers, ?_⟩
   have hk : match fn.results.toList with
     | [r] => resL tb t own [r] fun gs => match gs with
      | [g] => Q g
      | _ => False
     | rs => resL tb t own rs fun gs => Q (.tup gs) := by
    cases e with
    | exit id => exact absurd rfl (he id)
    | normal => exact hk
    | ret => exact hk
   have fin : ∀ {gs own' I' V' vs}, Later own I1 V1 w1 own' I' V' w1 → PW (VRep I') gs vs → ∀ {g x}, Q g → VR I' g x → ∃ x' g I', Ending.returned x = .returned x' ∧ Q g ∧ Mem I' w1 ∧ VR I' g x' ∧ (∀ b o x, I b o = some x → I' b o = some x) ∧ (∀ b o, b < w.heap.size → I' b o = I b o) ∧ Below w.heap.size w w1 := fun {gs own' I' V' vs} hl _ {g x} hq hv => by
    have hfro := hS.fro.trans hl.fro
    exact ⟨x, g, I', rfl, hq, hl.has.mem, hv, hfro.mono, fun b o hb => (hfro.blk b hb fun k r hk => (by cases hk)).2 o, ⟨hfro.os, hfro.tape, hfro.output, hfro.size, fun b hb => (hfro.blk b hb fun k r hk => (by cases hk)).1⟩⟩
   split at hk
   ·next r hr =>
    obtain ⟨gs, o2, I2, V2, vs, k1, k2, k3, k4, k5⟩ := resL_ok hT hk hS.has hA
    rw [← hr] at k4 k5
    refine ⟨_, run_results k4 k5, ?_⟩
    cases gs with
    | nil => exact k1.elim
    | cons g gs =>
     cases gs with
     | cons g' gs => exact k1.elim
     | nil =>
      obtain ⟨v, vs', rfl, hv, hn⟩ := k3.uncons
      obtain rfl := hn.of_nil
      refine fin k2 k3 k1 ?_
      cases g with
      | tup l => cases hv
      | _ => exact hv
   ·next rs hr =>
    obtain ⟨gs, o2, I2, V2, vs, k1, k2, k3, k4, k5⟩ := resL_ok hT hk hS.has hA
    refine ⟨_, run_results k4 k5, ?_⟩
    have hv1 : ∀ v, vs ≠ [v] := fun v e => by
     rw [e] at k4
     cases hq : fn.results.toList with
     | nil => rw [hq] at k4; simp at k4
     | cons r l =>
      cases l with
      | nil => exact hr r hq
      | cons r' l => rw [hq] at k4; simp at k4
    have e : packV vs = .tuple vs.toArray := by
     unfold packV
     split
     ·next v => exact absurd rfl (hv1 v)
     ·rfl
    rw [e]
    exact fin k2 k3 k1 ⟨vs, rfl, k3⟩
  cases e with
  | normal => exact key fun id h => by cases h
  | exit id => exact hk.elim
  | ret => exact key fun id h => by cases h
theorem FnV.mono {f : FuncId} {gs : List G} {Q Q' : G → Prop} (h : FnV P f gs Q) (hq : ∀ g, Q g → Q' g) : FnV P f gs Q' :=
 ⟨h.1, fun I w vs hM hp => (h.2 I w vs hM hp).mono fun _ _ ⟨x, g, I', h1, h2, h3⟩ => ⟨x, g, I', h1, hq g h2, h3⟩⟩
/-! ### A function that is lent something -/
theorem resKO_ok (hT : ∀ t i, look t tb = some i → TIok P t i) {r : ResultVar} {K1 : G → Os → Prop} (h : resKO tb t own K1 r) (hH : Has I V own w) (ha : ARep N I V a t) : ∃ g own' I' V' v, K1 g own' ∧ V'.n = V.n ∧ Later own I V w own' I' V' w ∧ PRep I' V' g v ∧ resRun P a w r v := by
 cases r with
 | tmp i =>
  unfold resKO at h
  dsimp only at h
  cases hl : look i t with
  | none => rw [hl] at h; exact h.elim
  | some g =>
   rw [hl] at h
   obtain ⟨x, hx, hr⟩ := ha.get i g hl
   obtain ⟨g', o1, I1, V1, h1, h2, h3, h4⟩ := purA_ok h hr hH
   exact ⟨g', o1, I1, V1, x, h1, h2.1, h3, h4, by unfold resRun resSem; simp [hx]⟩
 | cell i ty =>
  obtain ⟨g', o1, I1, V1, v, h1, h2, h3, h4, h5⟩ := resK_okn (K1 := K1) hT (show resK tb t own K1 (.cell i ty) from h) hH ha
  exact ⟨g', o1, I1, V1, v, h1, h2, h3, .of_v h4, h5⟩
theorem resLO_ok (hT : ∀ t i, look t tb = some i → TIok P t i) : ∀ {rs : List ResultVar} {own : Os} {I : Imm} {V : Va} {K1 : List G → Os → Prop}, resLO tb t own rs K1 → Has I V own w → ARep N I V a t → ∃ gs own' I' V', ∃ vs : List Value, K1 gs own' ∧ V'.n = V.n ∧ Later own I V w own' I' V' w ∧ PW (PRep I' V') gs vs ∧ vs.length = rs.length ∧ ∀ (i : Nat) r v, rs[i]? = some r → vs[i]? = some v → resRun P a w r v
 | [], own, I, V, K1, h, hH, _ => ⟨[], own, I, V, [], h, rfl, .refl hH, .nil, rfl, fun i r v h => by simp at h⟩
 | r :: rs, own, I, V, K1, h, hH, ha => by
  obtain ⟨g, o1, I1, V1, v, h1, hn, h2, h3, h4⟩ := resKO_ok (K1 := fun g w' => resLO tb t w' rs fun gs w'' => K1 (g :: gs) w'') hT h hH ha
  obtain ⟨gs, o2, I2, V2, vs, k1, kn, k2, k3, k4, k5⟩ := resLO_ok hT h1 h2.has (ha.mono h2.fro.mono h2.va)
  refine ⟨g :: gs, o2, I2, V2, v :: vs, k1, kn.trans hn, h2.trans k2, .cons (h3.mono k2.fro.mono k2.va) k3, by simp [k4], fun i r' v' hr hv => ?_⟩
  cases i with
  | zero => simp at hr hv; subst hr hv; exact h4
  | succ i => exact k5 i r' v' (by simpa using hr) (by simpa using hv)
end
end Go.Proofs.YtalfffamppmooaaGreatDoor
namespace Go.Proofs.YtalfffamppmooaaGreatDoor
open Go.RowKit
def cap1 : G → Bool
 | .osl _ | .osv _ _ _ _ | .oel _ _ _ _ => false
 | _ => true
def argB : G → Bool
 | .osl _ | .osv _ _ _ _ | .oel _ _ _ _ => false
 | .clo _ a c => match allB cap1 a with
  | true => allB cap1 c
  | false => false
 | _ => true
structure Lent (rs : List R) (gs : List G) (own0 : Os) (n0 : Nat) (gs0 : List G) (roots : List Nat) : Prop where
 run : ∀ I V w vs, Has I V (objs rs 0) w → V.n = rs.length → PW (PRep I V) gs vs → ∃ V2 : Va, V2.n = n0 ∧ Has I V2 own0 w ∧ PW (TRep I V2) gs0 vs ∧ Fro (objs rs 0) I V w own0 I V2 w ∧ ∀ (i r : Nat), roots[i]? = some r → V2.b r = V.b i ∧ r < n0
 len : roots.length = rs.length
def keysB (n : Nat) : Os → Bool
 | [] => true
 | (k, r) :: l => match Nat.blt k n, keyR n r with
  | true, true => keysB n l
  | _, _ => false
def opM : Nat → Nat → List R → List (Nat × Nat)
 | _, _, [] => []
 | i, n, _ :: rs => (i, n) :: opM (i + 1) (n + 1) rs
section
variable {P : Program} {tb : List (Nat × TI)} {N n n0 : Nat} {I I' I0 : Imm} {V V' V0 V2 : Va} {a : Act} {t t' : Ts} {own own' own0 : Os} {w w' w0 : World} {g : G} {x y : Value} {r : R} {k : Nat}
theorem lent_id (rs : List R) (gs : List G) : Lent rs gs (objs rs 0) rs.length gs (List.range rs.length) :=
 ⟨fun I V w vs hH hn hp => ⟨V, hn, hH, hp.mono fun _ _ h => h.to_t, .refl _ _ _ _, fun i r h => by
  have hi := (List.getElem?_eq_some_iff.1 h).1
  rw [List.getElem?_range (by simpa using hi)] at h
  cases h
  exact ⟨rfl, by simpa using hi⟩⟩, by simp⟩
theorem keysB_get : ∀ {O : Os}, keysB n O = true → ∀ {k r}, look k O = some r → k < n ∧ keyR n r = true
 | [], _, k, r, h => by cases h
 | (j, q) :: O, hk, k, r, h => by
  unfold keysB at hk
  split at hk
  ·next h1 h2 =>
   rw [look_cons] at h
   split at h
   ·next e => subst e; cases h; exact ⟨Nat.le_of_ble_eq_true h1, h2⟩
   ·exact keysB_get hk h
  ·cases hk
theorem crep_val (hk : keyC n g = true) (hn : n ≤ V2.n) (hb : ∀ j, j < n → V2.b j = V.b j ∧ V2.s j = V.s j) (h : CRep I V g x) : CRep I V2 g x := by
 cases g with
 | ptr k o => have := Nat.le_of_ble_eq_true hk; exact ⟨Nat.lt_of_lt_of_le this hn, by rw [(hb k this).1]; exact h.2⟩
 | mp k => have := Nat.le_of_ble_eq_true hk; exact ⟨Nat.lt_of_lt_of_le this hn, by rw [(hb k this).1]; exact h.2⟩
 | osl k => have := Nat.le_of_ble_eq_true hk; exact ⟨Nat.lt_of_lt_of_le this hn, by rw [(hb k this).2]; exact h.2⟩
 | osv k a b c => have := Nat.le_of_ble_eq_true hk; exact ⟨Nat.lt_of_lt_of_le this hn, by rw [(hb k this).2]; exact h.2⟩
 | _ => exact h
theorem RRep.val (hk : keyR n r = true) (hn : n ≤ V2.n) (hb : ∀ j, j < n → V2.b j = V.b j ∧ V2.s j = V.s j) {k : Nat} (hkn : k < n) (hf : V2.f k = V.f k) (h : RRep I V k w r) : RRep I V2 k w r := by
 have h1 := (hb k hkn).1
 have h2 := (hb k hkn).2
 cases r with
 | blk cs t =>
  obtain ⟨q1, us, q2, q3⟩ := h
  exact ⟨fun b => by rw [hf, h1]; exact q1 b, us, by rw [h1]; exact q2, q3.1, fun j g u hg hu => crep_val (allB_mem (show allB (keyC n) cs = true from hk) g (List.mem_of_getElem? hg)) hn hb (q3.2 j g u hg hu)⟩
 | slc rows e sz => exact ⟨fun b => by rw [hf, h2]; exact h.1 b, by rw [h2]; exact h.2⟩
 | froz rows sz => exact ⟨fun b => by rw [hf]; exact h.1 b, by rw [h2]; exact h.2.1, h.2.2⟩
 | gone => exact fun b => by rw [hf]; exact h b
 | mpI l => exact ⟨fun b => by rw [hf, h1]; exact h.1 b, by rw [h1]; exact h.2⟩
 | mpS l => exact ⟨fun b => by rw [hf, h1]; exact h.1 b, by rw [h1]; exact h.2⟩
 | sit s pos => exact ⟨fun b => by rw [hf, h1]; exact h.1 b, by rw [h1]; exact h.2⟩
 | mpX l m ob => exact ⟨fun b => by rw [hf, h1]; exact h.1 b, by rw [h1]; exact h.2⟩
 | mit j l D last m ob => exact ⟨fun b => by rw [hf, h1]; exact h.1 b, by rw [h1]; exact h.2⟩
 | abs p => exact ⟨h.1, by rw [hf, h1]; exact h.2⟩
theorem look_app {α : Type} (k : Nat) : ∀ (l m : List (Nat × α)), look k (l ++ m) = (look k l).or (look k m)
 | [], m => by simp [look]
 | (j, g) :: l, m => by
  rw [List.cons_append, look_cons, look_cons, look_app k l m]
  split <;> simp
theorem opM_look : ∀ (rs : List R) (i n k : Nat), look k (opM i n rs) = if i ≤ k ∧ k - i < rs.length then some (n + (k - i)) else none
 | [], i, n, k => by simp [opM, look]
 | r :: rs, i, n, k => by
  rw [opM, look_cons, opM_look rs (i + 1) (n + 1) k]
  by_cases h : k = i
  ·subst h; simp
  ·by_cases h2 : i + 1 ≤ k ∧ k - (i + 1) < rs.length
   ·rw [if_neg h, if_pos h2, if_pos ⟨by omega, by simp; omega⟩]; congr 1; omega
   ·rw [if_neg h, if_neg h2, if_neg (fun h3 => h2 ⟨by omega, by simp at h3; omega⟩)]
theorem cl_loc (O : Os) : Loc (cl O) := fun I I' b S w w' ⟨V, h1, h2, h3⟩ hI hos hs hb => by
 have hbl : ∀ k r, look k O = some r → ∀ c, V.f k c → w'.heap[c]? = w.heap[c]? := fun k r hk c hf => hb c ((h3 c).2 ⟨k, r, hk, hf⟩)
 exact ⟨V, h1, ⟨h2.num, fun k r hk => (h2.each k r hk).keep hI (.refl _) (h2.num k r hk) rfl hos hs (hbl k r hk), fun k r c hk hf => Nat.lt_of_lt_of_le (h2.lt k r c hk hf) hs, h2.disj⟩, h3⟩
theorem lent_cl {O : Os} {n0 : Nat} {rest : List R} {gs gs0 : List G} {own0 : Os} {roots : List Nat} (hk : (keysB n0 O && allB noKeyR rest && allB argB gs && (look 0 O).isSome) = true) (ho : O ++ objs rest n0 = own0) (hg : gs.map (renG (opM 1 n0 rest)) = gs0) (hr : 0 :: (List.range rest.length).map (n0 + ·) = roots) : Lent (.abs (cl O) :: rest) gs own0 (n0 + rest.length) gs0 roots := by
 subst ho hg hr
 simp only [Bool.and_eq_true] at hk
 obtain ⟨⟨⟨hk, hno⟩, harg⟩, hO0⟩ := hk
 obtain ⟨r0, hr0⟩ := Option.isSome_iff_exists.1 hO0
 have h0 : 0 < n0 := (keysB_get hk hr0).1
 refine ⟨fun I V w vs hH hn hp => ?_, by simp⟩
 have hn : V.n = rest.length + 1 := hn
 obtain ⟨-, VO, hb0, hO, hS⟩ := hH.each 0 (.abs (cl O)) rfl
 let V2 : Va := ⟨n0 + rest.length, fun k => if k < n0 then VO.b k else V.b (k - n0 + 1), fun k => if k < n0 then VO.s k else V.s (k - n0 + 1), fun k => if k < n0 then VO.f k else V.f (k - n0 + 1)⟩
 have lk : ∀ k r, look k (O ++ objs rest n0) = some r → (k < n0 ∧ look k O = some r) ∨ (n0 ≤ k ∧ rest[k - n0]? = some r) := fun k r h => by
  rw [look_app] at h
  cases hkO : look k O with
  | some r' => rw [hkO] at h; cases h; exact .inl ⟨(keysB_get hk hkO).1, rfl⟩
  | none =>
   rw [hkO] at h
   have h : look k (objs rest n0) = some r := h
   rw [look_objs] at h
   split at h
   ·next hle => exact .inr ⟨hle, h⟩
   ·cases h
 have lo : ∀ i r, rest[i]? = some r → look (i + 1) (objs (.abs (cl O) :: rest) 0) = some r := fun i r h => by rw [look_objs0]; simpa using h
 have hf1 : ∀ k, k < n0 → V2.f k = VO.f k := fun k hk => if_pos hk
 have hf2 : ∀ k, n0 ≤ k → V2.f k = V.f (k - n0 + 1) := fun k hk => if_neg (by omega)
 have inS : ∀ k r b, look k O = some r → VO.f k b → V.f 0 b := fun k r b hk hb => (hS b).2 ⟨k, r, hk, hb⟩
 refine ⟨V2, rfl, ⟨hH.mem, fun k r h => ?_, fun k r h => ?_, fun k r b h hb => ?_, fun k k' r r' b h h' hb hb' => ?_⟩, ?_, ⟨rfl, rfl, rfl, Nat.le_refl _, fun _ _ _ => ⟨rfl, fun _ => rfl⟩, fun _ _ _ h => h, fun k r b h hb _ => ?_⟩, fun i r h => ?_⟩
 ·show k < n0 + rest.length
  rcases lk k r h with ⟨h1, -⟩ | ⟨h1, h2⟩
  ·omega
  ·have := (List.getElem?_eq_some_iff.1 h2).1; omega
 ·rcases lk k r h with ⟨h1, h2⟩ | ⟨h1, h2⟩
  ·exact (hO.each k r h2).val (keysB_get hk h2).2 (Nat.le_add_right _ _) (fun j hj => ⟨if_pos hj, if_pos hj⟩) h1 (hf1 k h1)
  ·exact (hH.each _ r (lo _ r h2)).lend (allB_mem hno r (List.mem_of_getElem? h2)) (if_neg (by omega)) (if_neg (by omega)) (hf2 k h1)
 ·rcases lk k r h with ⟨h1, h2⟩ | ⟨h1, h2⟩
  ·rw [hf1 k h1] at hb; exact hH.foot 0 _ b rfl (inS k r b h2 hb)
  ·rw [hf2 k h1] at hb; exact hH.foot _ r b (lo _ r h2) hb
 ·rcases lk k r h with ⟨h1, h2⟩ | ⟨h1, h2⟩
  ·rw [hf1 k h1] at hb
   rcases lk k' r' h' with ⟨h1', h2'⟩ | ⟨h1', h2'⟩
   ·rw [hf1 k' h1'] at hb'; exact hO.disj k k' r r' b h2 h2' hb hb'
   ·rw [hf2 k' h1'] at hb'
    have := hH.disj _ _ _ _ b rfl (lo _ r' h2') (inS k r b h2 hb) hb'
    omega
  ·rw [hf2 k h1] at hb
   rcases lk k' r' h' with ⟨h1', h2'⟩ | ⟨h1', h2'⟩
   ·rw [hf1 k' h1'] at hb'
    have := hH.disj _ _ _ _ b rfl (lo _ r h2) (inS k' r' b h2' hb') hb
    omega
   ·rw [hf2 k' h1'] at hb'
    have := hH.disj _ _ _ _ b (lo _ r h2) (lo _ r' h2') hb hb'
    omega
 ·have kb : ∀ k, k < V.n → (look k (opM 1 n0 rest)).getD k < V2.n ∧ V2.b ((look k (opM 1 n0 rest)).getD k) = V.b k := fun k hk => by
   rw [opM_look]
   cases k with
   | zero => rw [if_neg (by omega)]; exact ⟨by show 0 < n0 + _; omega, by show (if 0 < n0 then _ else _) = _; rw [if_pos h0]; exact hb0⟩
   | succ k =>
    rw [if_pos ⟨by omega, by omega⟩, Option.getD_some]
    have e : n0 + (k + 1 - 1) - n0 + 1 = k + 1 := by omega
    exact ⟨by show n0 + (k + 1 - 1) < n0 + _; omega, by show (if _ < n0 then _ else _) = _; rw [if_neg (by omega), e]⟩
  have cr : ∀ g x, cap1 g = true → CRep I V g x → CRep I V2 (renC (opM 1 n0 rest) g) x := fun g x hc h => by
   cases g with
   | ptr k o => exact ⟨(kb k h.1).1, by rw [(kb k h.1).2]; exact h.2⟩
   | mp k => exact ⟨(kb k h.1).1, by rw [(kb k h.1).2]; exact h.2⟩
   | osl k => cases hc
   | osv k a b c => cases hc
   | _ => exact h
  have crl : ∀ l us, allB cap1 l = true → PW (CRep I V) l us → PW (CRep I V2) (l.map (renC (opM 1 n0 rest))) us := fun l us hc h => ⟨by simpa using h.1, fun j g u hg hu => by
   rw [List.getElem?_map] at hg
   obtain ⟨g0, h1, rfl⟩ := Option.map_eq_some_iff.1 hg
   exact cr g0 u (allB_mem hc g0 (List.mem_of_getElem? h1)) (h.2 j g0 u h1 hu)⟩
  refine ⟨by simpa using hp.1, fun j g u hg hu => ?_⟩
  rw [List.getElem?_map] at hg
  obtain ⟨g0, h1, rfl⟩ := Option.map_eq_some_iff.1 hg
  have hc := allB_mem harg g0 (List.mem_of_getElem? h1)
  have hq := hp.2 j g0 u h1 hu
  cases g0 with
  | ptr k o => exact .of_c (cr (.ptr k o) u rfl hq)
  | mp k => exact .of_c (cr (.mp k) u rfl hq)
  | osl k => cases hc
  | osv k a b c => cases hc
  | oel k a b c => cases hc
  | clo f a c =>
   obtain ⟨⟨g, hg, hk⟩, us, cs, e, k1, k2⟩ := hq
   have hc : (match allB cap1 a with | true => allB cap1 c | false => false) = true := hc
   split at hc
   ·next hc1 =>
    have hk2 : noKey (renC (opM 1 n0 rest) g) = false := by cases g <;> first | rfl | cases hk
    exact .of_1 (g := .clo f _ _) ⟨⟨_, hg.imp (fun h => List.mem_map.2 ⟨g, h, rfl⟩) (fun h => List.mem_map.2 ⟨g, h, rfl⟩), hk2⟩, us, cs, e, crl _ _ hc1 k1, crl _ _ hc k2⟩
   ·cases hc
  | v z => exact .of_v (g := .v z) hq
  | tt => exact .of_v (g := .tt) hq
  | ff => exact .of_v (g := .ff) hq
  | un => exact .of_v (g := .un) hq
  | nl => exact .of_v (g := .nl) hq
  | agg l => exact .of_v (g := .agg l) hq
  | sl l => exact .of_v (g := .sl l) hq
  | oag l => cases (show VRep I (.oag l) u from hq)
  | tup l => cases (show VRep I (.tup l) u from hq)
  | elp l o => cases (show VRep I (.elp l o) u from hq)
 ·rcases lk k r h with ⟨h1, h2⟩ | ⟨h1, h2⟩
  ·rw [hf1 k h1] at hb; exact ⟨0, _, rfl, inS k r b h2 hb⟩
  ·rw [hf2 k h1] at hb; exact ⟨_, r, lo _ r h2, hb⟩
 ·cases i with
  | zero =>
   simp at h
   subst h
   exact ⟨(if_pos h0 : (if 0 < n0 then VO.b 0 else _) = VO.b 0).trans hb0, by omega⟩
  | succ i =>
   simp only [List.getElem?_cons_succ, List.getElem?_map] at h
   obtain ⟨j, h1, rfl⟩ := Option.map_eq_some_iff.1 h
   have hi : i < rest.length := by simpa using (List.getElem?_eq_some_iff.1 h1).1
   rw [List.getElem?_range hi] at h1
   cases h1
   exact ⟨(if_neg (by omega) : (if n0 + i < n0 then VO.b (n0 + i) else V.b (n0 + i - n0 + 1)) = _).trans (by congr 1; omega), by omega⟩
theorem keysL_mem : ∀ {its : List It} {i : Nat} {it : It} {k : Nat}, its[i]? = some it → k ∈ it.keys → k ∈ keysL its
 | [], _, _, _, h, _ => by simp at h
 | it0 :: its, 0, it, k, h, hk => by simp at h; subst h; exact List.mem_append_left _ hk
 | it0 :: its, i + 1, it, k, h, hk => List.mem_append_right _ (keysL_mem (by simpa using h) hk)
theorem nodB_app : ∀ {l m : List Nat}, nodB (l ++ m) = true → nodB l = true ∧ nodB m = true ∧ ∀ k, k ∈ l → k ∉ m
 | [], m, h => ⟨rfl, h, fun k hk => by simp at hk⟩
 | k :: l, m, h => by
  rw [List.cons_append] at h
  unfold nodB at h
  cases hm : memB k (l ++ m) with
  | true => rw [hm] at h; cases h
  | false =>
   rw [hm] at h
   obtain ⟨h1, h2, h3⟩ := nodB_app h
   have hn : k ∉ l ++ m := fun hk => by rw [memB_mem.2 hk] at hm; cases hm
   refine ⟨?_, h2, fun j hj => ?_⟩
   ·unfold nodB
    have : memB k l = false := by
     cases hb : memB k l with
     | false => rfl
     | true => exact absurd (List.mem_append_left _ (memB_mem.1 hb)) hn
    rw [this]; exact h1
   ·rcases List.mem_cons.1 hj with rfl | hj
    ·exact fun h => hn (List.mem_append_right _ h)
    ·exact h3 j hj
theorem keysL_uniq : ∀ {its : List It}, nodB (keysL its) = true → ∀ {i j : Nat} {a b : It} {k : Nat}, its[i]? = some a → its[j]? = some b → k ∈ a.keys → k ∈ b.keys → i = j
 | [], _, i, _, _, _, _, h, _, _, _ => by simp at h
 | it0 :: its, hn, i, j, a, b, k, hi, hj, hk, hk' => by
  obtain ⟨-, h2, h3⟩ := nodB_app (show nodB (it0.keys ++ keysL its) = true from hn)
  cases i with
  | zero =>
   cases j with
   | zero => rfl
   | succ j => simp at hi; subst hi; exact absurd (keysL_mem (by simpa using hj) hk') (h3 k hk)
  | succ i =>
   cases j with
   | zero => simp at hj; subst hj; exact absurd (keysL_mem (by simpa using hi) hk) (h3 k hk')
   | succ j =>
    have := keysL_uniq h2 (i := i) (j := j) (by simpa using hi) (by simpa using hj) hk hk'
    omega
theorem keysL_nod : ∀ {its : List It}, nodB (keysL its) = true → ∀ {i : Nat} {a : It}, its[i]? = some a → nodB a.keys = true
 | [], _, i, _, h => by simp at h
 | it0 :: its, hn, i, a, hi => by
  obtain ⟨h1, h2, -⟩ := nodB_app (show nodB (it0.keys ++ keysL its) = true from hn)
  cases i with
  | zero => simp at hi; subst hi; exact h1
  | succ i => exact keysL_nod h2 (by simpa using hi)
theorem itsOK_get {n0 N : Nat} {M : List (Nat × Nat)} : ∀ {its : List It} {j : Nat}, itsOK own n n0 N M j its → ∀ {i : Nat} {a : It}, its[i]? = some a → a.ok own n n0 N M (j + i)
 | [], _, _, i, _, h => by simp at h
 | it0 :: its, j, hn, i, a, hi => by
  cases i with
  | zero => simp at hi; subst hi; exact hn.1
  | succ i =>
   have := itsOK_get (j := j + 1) hn.2 (i := i) (by simpa using hi)
   rw [show j + 1 + i = j + (i + 1) by omega] at this
   exact this
theorem rootM_look : ∀ (its : List It) (j i : Nat), look i (rootM its j) = if j ≤ i then (its[i - j]?).map It.root else none
 | [], j, i => by simp [rootM, look]
 | it :: its, j, i => by
  rw [rootM, look_cons, rootM_look its (j + 1) i]
  by_cases h : i = j
  ·subst h; simp
  ·by_cases h2 : j ≤ i
   ·obtain ⟨d, rfl⟩ := Nat.exists_eq_add_of_le h2
    cases d with
    | zero => simp at h
    | succ d => rw [if_neg h, if_pos (by omega), if_pos h2, show j + (d + 1) - (j + 1) = d by omega, show j + (d + 1) - j = d + 1 by omega]; simp
   ·rw [if_neg h, if_neg h2, if_neg (by omega)]
theorem rrep_ren {m : List (Nat × Nat)} {k : Nat} (hk : keyR n r = true) (h : RRep I V (ren m k) w (renR m r)) : RRep I (V.ren m n) k w r := by
 cases r with
 | blk cs ty =>
  obtain ⟨q1, us, q2, q3⟩ := h
  exact ⟨q1, us, q2, pw_ren hk q3⟩
 | _ => exact h
theorem mem_keys {it : It} {k : Nat} {r : R} (h : look k it.O = some r) : ren it.m k ∈ it.keys := List.mem_map.2 ⟨(k, r), look_mem h, rfl⟩
theorem close_ok {roots : List Nat} {Q : G → List R → Prop} {its : List It} {g' : G} (hE : EndK roots own V.n g Q its g') (hH : Has I V own w) (hx : PRes I V g x) (s0 : Nat → Value) : ∃ V' : Va, V'.n = its.length ∧ Has I V' (objs (its.map It.res) 0) w ∧ PRes I V' g' x ∧ (∀ i b, V'.f i b → ∃ k r, look k own = some r ∧ V.f k b) ∧ (∀ (i k : Nat), roots[i]? = some k → V'.b i = V.b k ∧ i < its.length) ∧ ∀ i, i < roots.length → V'.s i = s0 i := by
 let V' : Va := ⟨its.length, fun i => V.b ((its[i]?).elim 0 It.root), fun i => if i < roots.length then s0 i else V.s ((its[i]?).elim 0 It.root), fun i b => ∃ it k r, its[i]? = some it ∧ look k it.O = some r ∧ V.f (ren it.m k) b⟩
 have own_of : ∀ {i : Nat} {it : It} {k : Nat} {r : R}, its[i]? = some it → look k it.O = some r → ∃ r', look (ren it.m k) own = some r' := fun {i it k r} hi hk => by
  have hok := itsOK_get hE.ok hi
  obtain ⟨O, m, c⟩ := it
  cases c with
  | true =>
   obtain ⟨-, -, h4⟩ := leI_get (show leI m own V.n O from hok.1) hk
   exact ⟨_, h4⟩
  | false =>
   obtain ⟨r0, e, h1, -⟩ := hok
   have e : O = [(0, r0)] := e
   subst e
   have hk : look k [(0, r0)] = some r := hk
   rw [look_cons] at hk
   split at hk
   ·next e => subst e; exact ⟨_, h1⟩
   ·cases hk
 have lk : ∀ {i : Nat} {r : R}, look i (objs (its.map It.res) 0) = some r → ∃ it, its[i]? = some it ∧ r = it.res := fun {i r} h => by
  rw [look_objs0, List.getElem?_map] at h
  obtain ⟨it, h1, h2⟩ := Option.map_eq_some_iff.1 h
  exact ⟨it, h1, h2.symm⟩
 have hb : ∀ {i : Nat} {it : It}, its[i]? = some it → V'.b i = V.b (ren it.m 0) := fun {i it} h => by
  show V.b ((its[i]?).elim 0 It.root) = _
  rw [h]; rfl
 have hs : ∀ {i : Nat} {it : It}, its[i]? = some it → roots.length ≤ i → V'.s i = V.s (ren it.m 0) := fun {i it} h hi => by
  show (if i < roots.length then s0 i else V.s ((its[i]?).elim 0 It.root)) = _
  rw [if_neg (by omega), h]; rfl
 have key : ∀ k, k < its.length → ∃ it, its[k]? = some it ∧ (look k (rootM its 0)).getD k = ren it.m 0 := fun k hk => by
  refine ⟨its[k], List.getElem?_eq_getElem hk, ?_⟩
  rw [rootM_look, if_pos (Nat.zero_le _), Nat.sub_zero, List.getElem?_eq_getElem hk]
  rfl
 refine ⟨V', rfl, ⟨hH.mem, fun i r h => ?_, fun i r h => ?_, fun i r b h hf => ?_, fun i j r r' b h h' hf hf' => ?_⟩, ?_, fun i b ⟨it, k, r, h1, h2, h3⟩ => (by obtain ⟨r', h4⟩ := own_of h1 h2; exact ⟨_, r', h4, h3⟩), fun i k hk => ?_, fun i hi => if_pos hi⟩
 ·obtain ⟨it, h1, -⟩ := lk h
  exact (List.getElem?_eq_some_iff.1 h1).1
 ·obtain ⟨it, h1, rfl⟩ := lk h
  have hok := itsOK_get hE.ok h1
  obtain ⟨O, m, c⟩ := it
  cases c with
  | true =>
   obtain ⟨h2, r0, h3⟩ := hok
   have h2 : leI m own V.n O := h2
   refine ⟨cl_loc O, V.ren m V.n, ?_, ⟨fun k r hk => (leI_get h2 hk).1, fun k r hk => rrep_ren (leI_get h2 hk).2.1 (hH.each _ _ (leI_get h2 hk).2.2), fun k r b hk hf => (hH.foot _ _ b (leI_get h2 hk).2.2 hf).1, fun k k' r r' b hk hk' hf hf' => ?_⟩, fun c => ?_⟩
   ·exact (hb h1).symm
   ·exact nod_inj (m := m) (l := O) (keysL_nod hE.nod h1) hk hk' (hH.disj _ _ _ _ b (leI_get h2 hk).2.2 (leI_get h2 hk').2.2 hf hf')
   ·constructor
    ·rintro ⟨it', k, r, e, hk, hf⟩
     rw [h1] at e
     cases e
     exact ⟨k, r, hk, hf⟩
    ·rintro ⟨k, r, hk, hf⟩
     exact ⟨_, k, r, h1, hk, hf⟩
  | false =>
   obtain ⟨r, e, hlk, hr⟩ := hok
   have e : O = [(0, r)] := e
   subst e
   simp only [Bool.and_eq_true] at hr
   obtain ⟨hr1, hr2, hr3⟩ := hr
   have hrr := hH.each _ _ hlk
   have hfe : V'.f i = V.f (ren m 0) := by
    funext b
    apply propext
    constructor
    ·rintro ⟨it', k, r', e, hk, hf⟩
     rw [h1] at e
     cases e
     have hk : look k [(0, r)] = some r' := hk
     rw [look_cons] at hk
     split at hk
     ·next e => subst e; exact hf
     ·cases hk
    ·exact fun hf => ⟨_, 0, r, h1, rfl, hf⟩
   have hbe := hb h1
   have hse := hs h1
   show RRep I V' i w r
   have hrr : RRep I V (ren m 0) w (renR (rootM its 0) r) := hrr
   cases r with
   | blk cs t =>
    obtain ⟨q1, us, q2, q3⟩ := hrr
    refine ⟨fun b => by rw [hfe, hbe]; exact q1 b, us, by rw [hbe]; exact q2, by simpa using q3.1, fun j g u hg hu => ?_⟩
    have hk := allB_mem (show allB (keyC its.length) cs = true from hr1) g (List.mem_of_getElem? hg)
    have hn := allB_mem (show allB (newS roots.length) cs = true from hr2) g (List.mem_of_getElem? hg)
    have h := q3.2 j _ u (by rw [List.getElem?_map, hg]; rfl) hu
    cases g with
    | ptr k o =>
     have hk := Nat.le_of_ble_eq_true hk
     obtain ⟨it, h3, h4⟩ := key k hk
     have h : CRep I V (.ptr ((look k (rootM its 0)).getD k) o) u := h
     rw [h4] at h
     exact ⟨hk, by rw [hb h3]; exact h.2⟩
    | mp k =>
     have hk := Nat.le_of_ble_eq_true hk
     obtain ⟨it, h3, h4⟩ := key k hk
     have h : CRep I V (.mp ((look k (rootM its 0)).getD k)) u := h
     rw [h4] at h
     exact ⟨hk, by rw [hb h3]; exact h.2⟩
    | osl k =>
     have hk := Nat.le_of_ble_eq_true hk
     obtain ⟨it, h3, h4⟩ := key k hk
     have h : CRep I V (.osl ((look k (rootM its 0)).getD k)) u := h
     rw [h4] at h
     exact ⟨hk, by rw [hs h3 (Nat.le_of_ble_eq_true hn)]; exact h.2⟩
    | osv k a b c =>
     have hk := Nat.le_of_ble_eq_true hk
     obtain ⟨it, h3, h4⟩ := key k hk
     have h : CRep I V (.osv ((look k (rootM its 0)).getD k) a b c) u := h
     rw [h4] at h
     exact ⟨hk, by rw [hs h3 (Nat.le_of_ble_eq_true hn)]; exact h.2⟩
    | _ => exact h
   | slc rows e sz =>
    have hge : roots.length ≤ 0 + i := Nat.le_of_ble_eq_true (by simpa using hr3)
    have hse := hse (by omega)
    exact ⟨fun b => by rw [hfe, hse]; exact hrr.1 b, by rw [hse]; exact hrr.2⟩
   | froz rows sz =>
    have hge : roots.length ≤ 0 + i := Nat.le_of_ble_eq_true (by simpa using hr3)
    have hse := hse (by omega)
    exact ⟨fun b => by rw [hfe]; exact hrr.1 b, by rw [hse]; exact hrr.2.1, hrr.2.2⟩
   | gone => exact fun b => by rw [hfe]; exact hrr b
   | mpI l => exact ⟨fun b => by rw [hfe, hbe]; exact hrr.1 b, by rw [hbe]; exact hrr.2⟩
   | mpS l => exact ⟨fun b => by rw [hfe, hbe]; exact hrr.1 b, by rw [hbe]; exact hrr.2⟩
   | sit s pos => exact ⟨fun b => by rw [hfe, hbe]; exact hrr.1 b, by rw [hbe]; exact hrr.2⟩
   | mpX l m ob => exact ⟨fun b => by rw [hfe, hbe]; exact hrr.1 b, by rw [hbe]; exact hrr.2⟩
   | mit j l D last m ob => exact ⟨fun b => by rw [hfe, hbe]; exact hrr.1 b, by rw [hbe]; exact hrr.2⟩
   | abs p => exact ⟨hrr.1, by rw [hfe, hbe]; exact hrr.2⟩
 ·obtain ⟨it, k, r', h1, h2, h3⟩ := hf
  obtain ⟨r2, h4⟩ := own_of h1 h2
  exact hH.foot _ _ b h4 h3
 ·obtain ⟨it, k, r1, h1, h2, h3⟩ := hf
  obtain ⟨it', k', r1', h1', h2', h3'⟩ := hf'
  obtain ⟨r2, h4⟩ := own_of h1 h2
  obtain ⟨r2', h4'⟩ := own_of h1' h2'
  have := hH.disj _ _ _ _ b h4 h4' h3 h3'
  exact keysL_uniq hE.nod h1 h1' (mem_keys h2) (this ▸ mem_keys h2')
 ·have hres := hE.res
  have hkey := hE.key
  simp only [Bool.and_eq_true] at hkey
  obtain ⟨⟨hkey, hrb⟩, hrn⟩ := hkey
  have one : ∀ g' x, key1 its.length g' = true → res1 g' = true → resN1 roots.length g' = true → PRe1 I V (ren1 (rootM its 0) g') x → PRe1 I V' g' x := fun g' x h1 h2 h5 h => by
   cases g' with
   | ptr k o =>
    have hk := Nat.le_of_ble_eq_true h1
    obtain ⟨it, h3, h4⟩ := key k hk
    have h : PRep I V (.ptr ((look k (rootM its 0)).getD k) o) x := h
    rw [h4] at h
    exact (show PRep I V' (.ptr k o) x from ⟨hk, by rw [hb h3]; exact h.2⟩)
   | mp k =>
    have hk := Nat.le_of_ble_eq_true h1
    obtain ⟨it, h3, h4⟩ := key k hk
    have h : PRep I V (.mp ((look k (rootM its 0)).getD k)) x := h
    rw [h4] at h
    exact (show PRep I V' (.mp k) x from ⟨hk, by rw [hb h3]; exact h.2⟩)
   | osl k =>
    have hk := Nat.le_of_ble_eq_true h1
    obtain ⟨it, h3, h4⟩ := key k hk
    have h : PRep I V (.osl ((look k (rootM its 0)).getD k)) x := h
    rw [h4] at h
    exact (show PRep I V' (.osl k) x from ⟨hk, by rw [hs h3 (Nat.le_of_ble_eq_true h5)]; exact h.2⟩)
   | osv k a b c => cases h2
   | oel k a b c => cases h2
   | clo f a c => cases h2
   | v z => exact h
   | tt => exact h
   | ff => exact h
   | un => exact h
   | nl => exact h
   | agg l => exact h
   | sl l => exact h
   | oag l =>
    obtain ⟨cs, e, hp⟩ := (show TRep1 I V (.oag (l.map (renC (rootM its 0)))) x from h)
    refine (show TRep1 I V' (.oag l) x from ⟨cs, e, by simpa using hp.1, fun j g u hg hu => ?_⟩)
    have hk := allB_mem (show allB (keyC its.length) l = true from h1) g (List.mem_of_getElem? hg)
    have hn := allB_mem (show allB (newS roots.length) l = true from h5) g (List.mem_of_getElem? hg)
    have h := hp.2 j _ u (by rw [List.getElem?_map, hg]; rfl) hu
    cases g with
    | ptr k o =>
     have hk := Nat.le_of_ble_eq_true hk
     obtain ⟨it, h3, h4⟩ := key k hk
     have h : CRep I V (.ptr ((look k (rootM its 0)).getD k) o) u := h
     rw [h4] at h
     exact ⟨hk, by rw [hb h3]; exact h.2⟩
    | mp k =>
     have hk := Nat.le_of_ble_eq_true hk
     obtain ⟨it, h3, h4⟩ := key k hk
     have h : CRep I V (.mp ((look k (rootM its 0)).getD k)) u := h
     rw [h4] at h
     exact ⟨hk, by rw [hb h3]; exact h.2⟩
    | osl k =>
     have hk := Nat.le_of_ble_eq_true hk
     obtain ⟨it, h3, h4⟩ := key k hk
     have h : CRep I V (.osl ((look k (rootM its 0)).getD k)) u := h
     rw [h4] at h
     exact ⟨hk, by rw [hs h3 (Nat.le_of_ble_eq_true hn)]; exact h.2⟩
    | osv k a b c =>
     have hk := Nat.le_of_ble_eq_true hk
     obtain ⟨it, h3, h4⟩ := key k hk
     have h : CRep I V (.osv ((look k (rootM its 0)).getD k) a b c) u := h
     rw [h4] at h
     exact ⟨hk, by rw [hs h3 (Nat.le_of_ble_eq_true hn)]; exact h.2⟩
    | _ => exact h
   | tup l => cases h1
   | elp l o => cases (show VRep I (.elp l o) x from h)
  rw [← hres] at hx
  cases g' with
  | tup l =>
   obtain ⟨cs, e, hp⟩ := hx
   exact ⟨cs, e, by simpa using hp.1, fun j g u hg hu => one g u (allB_mem (show allB (key1 its.length) l = true from hkey) g (List.mem_of_getElem? hg)) (allB_mem (show allB res1 l = true from hrb) g (List.mem_of_getElem? hg)) (allB_mem (show allB (resN1 roots.length) l = true from hrn) g (List.mem_of_getElem? hg)) (hp.2 j _ u (by rw [List.getElem?_map, hg]; rfl) hu)⟩
  | ptr k o => exact one (.ptr k o) x hkey hrb hrn hx
  | mp k => exact one (.mp k) x hkey hrb hrn hx
  | osl k => exact one (.osl k) x hkey hrb hrn hx
  | osv k a b c => cases hrb
  | oel k a b c => cases hrb
  | clo f a c => cases hrb
  | v z => exact hx
  | tt => exact hx
  | ff => exact hx
  | un => exact hx
  | nl => exact hx
  | agg l => exact hx
  | sl l => exact hx
  | oag l => exact one (.oag l) x hkey hrb hrn hx
  | elp l o => cases (show VRep I (.elp l o) x from hx)
 ·obtain ⟨l, hl⟩ := hE.rts
  have h1 : (its.map It.root)[i]? = some k := by rw [hl, List.getElem?_append_left (List.getElem?_eq_some_iff.1 hk).1]; exact hk
  rw [List.getElem?_map] at h1
  obtain ⟨it, h2, h3⟩ := Option.map_eq_some_iff.1 h1
  exact ⟨by rw [hb h2, ← h3]; rfl, (List.getElem?_eq_some_iff.1 h2).1⟩
theorem fno_of_sx (hT : ∀ t i, look t tb = some i → TIok P t i) (hm : P.follows .mixedOrders = true) {f : FuncId} {fn : Func} {c : Code} {gs gs0 : List G} {rs : List R} {roots : List Nat} {Q : G → List R → Prop} (hf : P.funcs[f]? = some fn) (hname : (fn.name == "runtime.NumGoroutine") = false) (hb : fn.body = some c) (hn : gs0.length ≤ fn.ntmps) (hc : codeB tb fn.ntmps c = true)
  (ho : Lent rs gs own0 n0 gs0 roots) (h : sxC P tb c (args0 0 gs0) own0 n0 (sxResO tb fn roots Q)) : FnO P f gs rs Q := by
 refine ⟨⟨fn, hf, hname, by rw [hb]; rfl⟩, fun I V w vs hH hVn hp => ?_⟩
 obtain ⟨V2, h2n, hH2, hp2, hF2, hroot⟩ := ho.run I V w vs hH hVn hp
 refine calls_of_wp hf hb ?_
 have hlen : vs.length = gs0.length := hp2.1.symm
 have ha : ARep fn.ntmps I V2 { tmps := vs.toArray ++ Array.replicate (fn.ntmps - vs.toArray.size) undef, defers := [] } (args0 0 gs0) := by
  refine ⟨rfl, by simp; omega, fun i g hg => ?_⟩
  obtain ⟨j, e, hj⟩ := args0_look hg
  obtain rfl : i = j := by omega
  obtain ⟨u, hu, hr⟩ := hp2.get hj
  refine ⟨u, ?_, hr⟩
  have hi := (List.getElem?_eq_some_iff.1 hu).1
  show (vs.toArray ++ _)[i]? = _
  rw [Array.getElem?_append_left (by simpa using hi)]
  simpa using hu
 rw [← h2n] at h
 refine sxC_ok (own0 := own0) (I0 := I) (V0 := V2) (w0 := w) hT hm (V := V2) h ⟨hH2, .refl _ _ _ _, Nat.le_refl _, fun _ _ => rfl⟩ ha hc (fun ch d v a w hq => ?_) fun e t own I1 V1 a w1 hk hS hA => ?_
 ·cases d <;> exact hq
 ·have key : (∀ id, e ≠ .exit id) → bodyPost P fn (fun e w' => ∃ x g rs' I' V', e = .returned x ∧ Q g rs' ∧ V'.n = rs'.length ∧ Has I' V' (objs rs' 0) w' ∧ PRes I' V' g x ∧ Fro (objs rs 0) I V w (objs rs' 0) I' V' w' ∧ V.le V') .ret a w1 := fun he => by
   refine ⟨hA.defers, ?_⟩
   have hk : match fn.results.toList with
     | [r] => resLO tb t own [r] fun gs own => match gs with
      | [g] => ∃ its g', EndK roots own V1.n g Q its g'
      | _ => False
     | rs => resLO tb t own rs fun gs own => ∃ its g', EndK roots own V1.n (.tup gs) Q its g' := by
    cases e with
    | exit id => exact absurd rfl (he id)
    | normal => exact hk
    | ret => exact hk
   have fin : ∀ {own' I' V' g x}, V'.n = V1.n → Later own I1 V1 w1 own' I' V' w1 → PRes I' V' g x → (∃ its g', EndK roots own' V1.n g Q its g') → ∃ x' g rs' I' V', Ending.returned x = .returned x' ∧ Q g rs' ∧ V'.n = rs'.length ∧ Has I' V' (objs rs' 0) w1 ∧ PRes I' V' g x' ∧ Fro (objs rs 0) I V w (objs rs' 0) I' V' w1 ∧ V.le V' := fun {own' I' V' g x} hn hl hx ⟨its, g', hE⟩ => by
    rw [← hn] at hE
    obtain ⟨V4, k1, k2, k3, k4, k5, k6⟩ := close_ok hE hl.has hx V.s
    have hfro := (hF2.trans hS.fro).trans hl.fro
    refine ⟨x, g', its.map It.res, I', V4, rfl, hE.post, by simpa using k1, k2, k3, ⟨hfro.os, hfro.tape, hfro.output, hfro.size, hfro.blk, hfro.mono, fun i r b hi hb hlt => ?_⟩, ?_, fun i hi => ⟨?_, k6 i (by rw [ho.len]; omega)⟩⟩
    ·obtain ⟨k, r', h1, h2⟩ := k4 i b hb
     exact hfro.foot k r' b h1 h2 hlt
    ·rw [k1, hVn, ← ho.len]
     obtain ⟨l, hl⟩ := hE.rts
     have := congrArg List.length hl
     simp at this
     omega
    ·have hi' : i < roots.length := by rw [ho.len]; omega
     have hr := List.getElem?_eq_getElem hi'
     obtain ⟨h1, h2⟩ := hroot i _ hr
     rw [(k5 i _ hr).1, (hl.va.2 _ (Nat.lt_of_lt_of_le (by omega) hS.n)).1, hS.bb _ (by omega), h1]
   split at hk
   ·next r hr =>
    obtain ⟨gs, o2, I2, V2', vs, k1, kn, k2, k3, k4, k5⟩ := resLO_ok hT hk hS.has hA
    rw [← hr] at k4 k5
    refine ⟨_, run_results k4 k5, ?_⟩
    cases gs with
    | nil => exact k1.elim
    | cons g gs =>
     cases gs with
     | cons g' gs => exact k1.elim
     | nil =>
      obtain ⟨v, vs', rfl, hv, hn⟩ := k3.uncons
      obtain rfl := hn.of_nil
      refine fin kn k2 ?_ k1
      cases g with
      | tup l => cases (show VRep I2 (.tup l) v from hv)
      | oag l => cases (show VRep I2 (.oag l) v from hv)
      | _ => exact hv
   ·next rs' hr =>
    obtain ⟨gs, o2, I2, V2', vs, k1, kn, k2, k3, k4, k5⟩ := resLO_ok hT hk hS.has hA
    refine ⟨_, run_results k4 k5, ?_⟩
    have hv1 : ∀ v, vs ≠ [v] := fun v e => by
     rw [e] at k4
     cases hq : fn.results.toList with
     | nil => rw [hq] at k4; simp at k4
     | cons r l =>
      cases l with
      | nil => exact hr r hq
      | cons r' l => rw [hq] at k4; simp at k4
    have e : packV vs = .tuple vs.toArray := by
     unfold packV
     split
     ·next v => exact absurd rfl (hv1 v)
     ·rfl
    rw [e]
    exact fin (g := .tup gs) kn k2 ⟨vs, rfl, k3.mono fun _ _ h => .of_p h⟩ k1
  cases e with
  | normal => exact key fun id h => by cases h
  | exit id => exact hk.elim
  | ret => exact key fun id h => by cases h
theorem allB_imp {α : Type} {p q : α → Bool} (hpq : ∀ x, p x = true → q x = true) : ∀ {l : List α}, allB p l = true → allB q l = true
 | [], _ => rfl
 | x :: l, h => by
  unfold allB at h ⊢
  cases hp : p x with
  | false => rw [hp] at h; cases h
  | true =>
   rw [hp] at h
   rw [hpq x hp]
   exact allB_imp hpq h
theorem noKey_key {n : Nat} (g : G) (h : noKey g = true) : keyC n g = true := by cases g <;> first | rfl | cases h
theorem noKey1_key {n : Nat} (g : G) (h : noKey1 g = true) : key1 n g = true := by
 cases g with
 | oag l => exact allB_imp noKey_key (show allB noKey l = true from h)
 | clo f a c => cases h
 | tup l => cases h
 | ptr k o => cases h
 | osl k => cases h
 | osv k a b c => cases h
 | oel k a b c => cases h
 | mp k => cases h
 | _ => rfl
theorem noKeyB_key {n : Nat} (g : G) (h : noKeyB g = true) : keyB n g = true := by
 cases g with
 | tup l => exact allB_imp noKey1_key (show allB noKey1 l = true from h)
 | oag l => exact noKey1_key (.oag l) h
 | clo f a c => cases h
 | ptr k o => cases h
 | osl k => cases h
 | osv k a b c => cases h
 | oel k a b c => cases h
 | mp k => cases h
 | _ => rfl
theorem noKey1_N {n : Nat} {g : G} (h : noKey1 g = true) : resN1 n g = true := by
 cases g with
 | oag l => exact allB_imp (fun g h => by cases g <;> first | rfl | cases h) (show allB noKey l = true from h)
 | osl k => cases h
 | _ => rfl
theorem noKeyB_N {n : Nat} {g : G} (h : noKeyB g = true) : resN n g = true := by
 cases g with
 | tup l => exact allB_imp (fun g h => noKey1_N h) (show allB noKey1 l = true from h)
 | oag l => exact noKey1_N (g := .oag l) h
 | osl k => cases h
 | _ => rfl
theorem lent1 (r : R) (gs : List G) : Lent [r] gs [(0, r)] 1 gs [0] := lent_id [r] gs
theorem lent0 (gs : List G) : Lent [] gs [] 0 gs [] := lent_id [] gs
theorem lent_cl0 {O : Os} {n0 : Nat} {gs : List G} (hk : (keysB n0 O && allB noKeyR [] && allB argB gs && (look 0 O).isSome) = true) : Lent [.abs (cl O)] gs O n0 gs [0] :=
 lent_cl hk (by simp [objs]) (by show gs.map (renG []) = gs; rw [funext renG_nil]; simp) rfl
def itL : List (Nat × R) → List It
 | [] => []
 | (k, r) :: l => ⟨[(0, r)], [(0, k)], false⟩ :: itL l
theorem end_cl {Q : G → List R → Prop} (O : Os) (m : List (Nat × Nat)) (hl : leI m own n O) (h0 : (look 0 m).getD 0 = 0) (hO : ∃ r, look 0 O = some r) (hd : nodB (O.map fun p => (look p.1 m).getD p.1) = true) (hg : (noKeyB g && resB g) = true) (hq : Q g [.abs (cl O)]) : ∃ its g', EndK [0] own n g Q its g' := by
 simp only [Bool.and_eq_true] at hg
 refine ⟨[⟨O, m, true⟩], g, ⟨⟨⟨hl, hO⟩, trivial⟩, ?_, ⟨[], ?_⟩, noKeyB_ren hg.1, by rw [noKeyB_key g hg.1, hg.2, noKeyB_N hg.1]; rfl, hq⟩⟩
 ·show nodB (O.map (fun p => (look p.1 m).getD p.1) ++ []) = true
  rw [List.append_nil]; exact hd
 ·show [(look 0 m).getD 0] = [0] ++ []
  rw [h0]; rfl
end
end Go.Proofs.YtalfffamppmooaaGreatDoor

/- A part of the proof, merged from several texts. -/
import Derived.Test.YtifdeajdlhgglaaGreatDoorSxMb
import Derived.Test.YtifdeajdlhgglaaGreatDoorProg
import Derived.Test.YtifdeajdlhgglaaGreatDoorZLaw
namespace Go.Proofs.YtifdeajdlhgglaaGreatDoor
open Go.RowKit
inductive Sh where
 | i (k : IntKind)
 | s
 | b
def typB : List Sh → List Value → Bool
 | [], [] => true
 | .i k :: sh, .int k' _ :: cs => decide (k = k') && typB sh cs
 | .s :: sh, .string _ :: cs => typB sh cs
 | .b :: sh, .bool _ :: cs => typB sh cs
 | _, _ => false
def eqC : Value → Value → Bool
 | .int _ a, .int _ b => a == b
 | .string a, .string b => a.toList == b.toList
 | .bool a, .bool b => a == b
 | _, _ => false
def eqCs : List Value → List Value → Bool
 | [], [] => true
 | a :: l, b :: m => eqC a b && eqCs l m
 | _, _ => false
def flatF (P : Program) (F : TypeId → Option (List Sh)) : List Field → Nat → Option (List Sh)
 | [], _ => some []
 | f :: fs, off => match f.name == "_", Nat.beq f.offset off, F f.type, flatF P F fs (off + (match F f.type with | some sh => sh.length | none => 0)) with
  | false, true, some sh, some sh' => match (P.info? f.type).map (·.size) with
   | some n => bif Nat.beq n sh.length then some (sh ++ sh') else none
   | none => none
  | _, _, _, _ => none
def flatT (P : Program) : Nat → TypeId → Option (List Sh)
 | 0, _ => none
 | d + 1, t => match P.underlying t, aggB P t with
  | some (.int k), some false => some [.i k]
  | some .string, some false => some [.s]
  | some .bool, some false => some [.b]
  | some (.struct fs), some true => bif P.stoodInHeld t then none else flatF P (flatT P d) fs.toList 0
  | _, _ => none
section
variable {P : Program}
theorem typB_cons {x : Sh} {c : Value} {sh : List Sh} {cs : List Value} (h : typB (x :: sh) (c :: cs) = true) : typB sh cs = true := by
 cases x <;> cases c <;> first
  | (cases h; done)
  | (simp only [typB, Bool.and_eq_true] at h; exact h.2)
  | exact h
theorem typB_len : ∀ {sh : List Sh} {cs : List Value}, typB sh cs = true → cs.length = sh.length
 | [], [], _ => rfl
 | [], _ :: _, h => by cases h
 | x :: _, [], h => by cases x <;> cases h
 | x :: sh, c :: cs, h => by simp [typB_len (typB_cons h)]
theorem typB_app : ∀ {sh sh' : List Sh} {cs : List Value}, typB (sh ++ sh') cs = true → typB sh (cs.take sh.length) = true ∧ typB sh' (cs.drop sh.length) = true
 | [], sh', cs, h => ⟨by simp [typB], by simpa using h⟩
 | x :: sh, sh', [], h => by cases x <;> cases h
 | x :: sh, sh', c :: cs, h => by
  have key : typB (sh ++ sh') cs = true ∧ ∀ l, typB sh l = true → typB (x :: sh) (c :: l) = true := by
   cases x <;> cases c <;> first
    | (cases h; done)
    | (simp only [List.cons_append, typB, Bool.and_eq_true] at h; exact ⟨h.2, fun l hl => by simp only [typB, Bool.and_eq_true]; exact ⟨h.1, hl⟩⟩)
    | exact ⟨h, fun l hl => hl⟩
  obtain ⟨h1, h2⟩ := typB_app key.1
  exact ⟨by simpa using key.2 _ h1, by simpa using h2⟩
theorem eqCs_app : ∀ {l m l' m' : List Value}, l.length = m.length → eqCs (l ++ l') (m ++ m') = (eqCs l m && eqCs l' m')
 | [], [], l', m', _ => by simp [eqCs]
 | a :: l, b :: m, l', m', h => by
  simp only [List.cons_append, eqCs]
  rw [eqCs_app (by simpa using h), Bool.and_assoc]
theorem eqCs_iff : ∀ {sh : List Sh} {cs ds : List Value}, typB sh cs = true → typB sh ds = true → (eqCs cs ds = true ↔ cs = ds)
 | [], cs, ds, h, h' => by
  rw [List.eq_nil_of_length_eq_zero (typB_len h), List.eq_nil_of_length_eq_zero (typB_len h')]
  simp [eqCs]
 | x :: sh, [], ds, h, h' => by cases x <;> cases h
 | x :: sh, c :: cs, [], h, h' => by cases x <;> cases h'
 | x :: sh, c :: cs, d :: ds, h, h' => by
  have key : typB sh cs = true ∧ typB sh ds = true ∧ (eqC c d = true ↔ c = d) := by
   cases x <;> cases c <;> first
    | (cases h; done)
    | (cases d <;> first
     | (cases h'; done)
     | (simp only [typB, Bool.and_eq_true, decide_eq_true_eq] at h h'
        refine ⟨h.2, h'.2, ?_⟩
        rw [← h.1, ← h'.1]
        simp [eqC])
     | (refine ⟨h, h', ?_⟩; simp [eqC, bytes_eq]))
  simp only [eqCs, Bool.and_eq_true]
  rw [key.2.2, eqCs_iff key.1 key.2.1]
  simp
theorem run_part' {ft : TypeId} {b : Bool} {n : Nat} (ha : aggB P ft = some b) (hs : (P.info? ft).map (·.size) = some n) (cs : List Value) (off : Nat) (w : World) : (part ft cs.toArray off).run P w =
  if b = true then .ok (.agg ((cs.drop off).take n).toArray) w else (match cs[off]? with | some v => .ok v w | none => .halt (.stuck "part: no such cell") w) := by
 unfold part
 have hs := run_sizeOf (P := P) hs w
 simp only [Sem.run_bind, run_isAgg ha, Result.andThen_ok]
 cases b with
 | true => simp [hs, Result.andThen]
 | false => simp; split <;> simp_all [Go.stuck]
theorem eq_flat : ∀ (d : Nat) (t : TypeId) (sh : List Sh), flatT P d t = some sh → ∀ cs ds : List Value, typB sh cs = true → typB sh ds = true → ∀ w : World,
  (aggB P t = some true → (Op.equalIn d t (.agg cs.toArray) (.agg ds.toArray)).run P w = .ok (eqCs cs ds) w) ∧ (aggB P t = some false → ∀ a b, cs = [a] → ds = [b] → (Op.equalIn d t a b).run P w = .ok (eqCs cs ds) w) ∧ (aggB P t = some true ∨ (aggB P t = some false ∧ sh.length = 1))
 | 0, t, sh, h => by cases h
 | d + 1, t, sh, h => by
  intro cs ds hc hd w
  unfold flatT at h
  split at h
  ·next k h1 h2 =>
   cases h
   refine ⟨fun e => (by rw [h2] at e; cases e), fun _ a b ea eb => ?_, .inr ⟨h2, rfl⟩⟩
   subst ea eb
   cases a <;> first | (cases hc; done) | skip
   cases b <;> first | (cases hd; done) | skip
   simp only [typB, Bool.and_eq_true, decide_eq_true_eq] at hc hd
   rw [← hc.1, ← hd.1, run_equalIn_int w d t k k _ _ h1]
   simp [eqCs, eqC]
  ·next h1 h2 =>
   cases h
   refine ⟨fun e => (by rw [h2] at e; cases e), fun _ a b ea eb => ?_, .inr ⟨h2, rfl⟩⟩
   subst ea eb
   cases a <;> first | (cases hc; done) | skip
   cases b <;> first | (cases hd; done) | skip
   rw [run_equalIn_string w d t _ _ h1]
   simp [eqCs, eqC]
  ·next h1 h2 =>
   cases h
   refine ⟨fun e => (by rw [h2] at e; cases e), fun _ a b ea eb => ?_, .inr ⟨h2, rfl⟩⟩
   subst ea eb
   cases a <;> first | (cases hc; done) | skip
   cases b <;> first | (cases hd; done) | skip
   rw [run_equalIn_bool w d t _ _ h1]
   simp [eqCs, eqC]
  ·next fs h1 h2 =>
   cases hst : P.stoodInHeld t with
   | true => rw [hst] at h; cases h
   | false =>
    rw [hst] at h
    have h : flatF P (flatT P d) fs.toList 0 = some sh := h
    refine ⟨fun _ => ?_, fun e => (by rw [h2] at e; cases e), .inl h2⟩
    have hft : P.underlying t = some (.struct (P.fieldsOf t)) := by unfold Program.fieldsOf; rw [h1]
    have hfe : P.fieldsOf t = fs := by unfold Program.fieldsOf; rw [h1]
    rw [run_equalIn_struct w d t _ _ hft hst, hfe]
    have key : ∀ (fs : List Field) (off : Nat) (sh : List Sh), flatF P (flatT P d) fs off = some sh → typB sh (cs.drop off) = true → typB sh (ds.drop off) = true → (Op.eqFields d cs.toArray ds.toArray fs).run P w = .ok (eqCs (cs.drop off) (ds.drop off)) w := fun fs => by
     induction fs with
     | nil =>
      intro off sh h hc hd
      cases h
      rw [List.eq_nil_of_length_eq_zero (typB_len hc), List.eq_nil_of_length_eq_zero (typB_len hd)]
      simp [Op.eqFields, eqCs]
     | cons f fs ih =>
      intro off sh h hc hd
      unfold flatF at h
      split at h
      ·next sh1 sh2 e1 e2 e3 e4 =>
       split at h
       ·next n e5 =>
        cases e6 : Nat.beq n sh1.length with
        | false => rw [e6] at h; cases h
        | true =>
         rw [e6] at h
         have h : some (sh1 ++ sh2) = some sh := h
         cases h
         have e6 := Nat.eq_of_beq_eq_true e6
         subst e6
         have e2 := Nat.eq_of_beq_eq_true e2
         rw [e3] at e4
         obtain ⟨c1, c2⟩ := typB_app hc
         obtain ⟨d1, d2⟩ := typB_app hd
         have hlc : ((cs.drop off).take sh1.length).length = sh1.length := typB_len c1
         have hld : ((ds.drop off).take sh1.length).length = sh1.length := typB_len d1
         obtain ⟨q1, q2, q3⟩ := eq_flat d f.type sh1 e3 _ _ c1 d1 w
         have e1 : f.name ≠ "_" := by simpa using e1
         have hrest := ih (off + sh1.length) sh2 e4 (by rw [← List.drop_drop]; exact c2) (by rw [← List.drop_drop]; exact d2)
         have hsplit : eqCs (cs.drop off) (ds.drop off) = (eqCs ((cs.drop off).take sh1.length) ((ds.drop off).take sh1.length) && eqCs (cs.drop (off + sh1.length)) (ds.drop (off + sh1.length))) := by
          rw [← List.drop_drop, ← List.drop_drop, ← eqCs_app (by rw [hlc, hld]), List.take_append_drop, List.take_append_drop]
         have fin : ∀ (b : Bool), (if (!b) = true then pure false else Op.eqFields d cs.toArray ds.toArray fs : Sem Bool).run P w = .ok (b && eqCs (cs.drop (off + sh1.length)) (ds.drop (off + sh1.length))) w := fun b => by
          cases b with
          | true => simpa using hrest
          | false => simp
         simp only [Op.eqFields, e1, ne_eq, not_false_eq_true, if_true, Sem.run_bind, e2]
         rw [hsplit, ← fin]
         rcases q3 with q3 | ⟨q3, q4⟩
         ·rw [run_part' q3 e5, if_pos rfl, Result.andThen_ok, run_part' q3 e5, if_pos rfl, Result.andThen_ok, q1 q3, Result.andThen_ok]
         ·obtain ⟨a, ha⟩ : ∃ a, (cs.drop off).take sh1.length = [a] := List.length_eq_one_iff.1 (by rw [hlc, q4])
          obtain ⟨b, hb⟩ : ∃ b, (ds.drop off).take sh1.length = [b] := List.length_eq_one_iff.1 (by rw [hld, q4])
          have get : ∀ {l : List Value} {a : Value}, (l.drop off).take sh1.length = [a] → l[off]? = some a := fun {l a} h => by
           have := congrArg (·[0]?) h
           rw [List.getElem?_take, List.getElem?_drop, if_pos (by omega)] at this
           simpa using this
          rw [run_part' q3 e5, if_neg (by simp), get ha]
          simp only [Result.andThen_ok]
          rw [run_part' q3 e5, if_neg (by simp), get hb]
          simp only [Result.andThen_ok]
          rw [q2 q3 a b ha hb, Result.andThen_ok]
       ·cases h
      ·cases h
    simpa using key fs.toList 0 sh h (by simpa using hc) (by simpa using hd)
  ·cases h
theorem EvEq.flat {t : TypeId} {l m : List G} {K : Bool → Prop} (sh : List Sh) (cs ds : List Value) (hf : flatT P 10000 t = some sh) (hg : P.eqGuardType P.depth t = false) (ha : aggB P t = some true) (hl : Cells l cs) (hm : Cells m ds) (hc : typB sh cs = true) (hd : typB sh ds = true) (h1 : cs = ds → K true) (h2 : cs ≠ ds → K false) : EvEq P t l m K := by
 refine ⟨cs, ds, eqCs cs ds, hl, hm, hg, fun w => (eq_flat 10000 t sh hf cs ds hc hd w).1 ha, ?_⟩
 cases hb : eqCs cs ds with
 | true => exact h1 ((eqCs_iff hc hd).1 hb)
 | false => exact h2 fun e => by rw [(eqCs_iff hc hd).2 e] at hb; cases hb
end
end Go.Proofs.YtifdeajdlhgglaaGreatDoor
namespace Go.Proofs.YtifdeajdlhgglaaGreatDoor
set_option maxRecDepth 100000 in
def tab : List (Nat × TI) := [
 (1, ⟨false, [.v (.nilFunc)], none, [], false, none, .fn⟩),
 (2, ⟨false, [.v (.int .i64 0)], none, [], false, some .i64, .no⟩),
 (3, ⟨false, [.v (.int .i64 0)], none, [], false, some .i64, .no⟩),
 (4, ⟨false, [.ff], none, [], false, none, .bool⟩),
 (5, ⟨false, [.v (.int .u8 0)], none, [], false, some .u8, .no⟩),
 (6, ⟨false, [.v (.int .u8 0)], none, [], false, some .u8, .no⟩),
 (7, ⟨true, [.v (.int .i64 0), .v (.int .i64 0), .ff, .v (.int .u8 0)], none, [(2, 0), (3, 1), (4, 2), (6, 3)], false, none, .no⟩),
 (8, ⟨true, [.v (.int .i64 0), .v (.int .i64 0), .ff, .v (.int .u8 0)], none, [(2, 0), (3, 1), (4, 2), (6, 3)], false, none, .no⟩),
 (9, ⟨false, [.v (.string ⟨#[]⟩)], none, [], true, none, .no⟩),
 (10, ⟨false, [.v (.string ⟨#[]⟩)], none, [], true, none, .no⟩),
 (11, ⟨false, [.v (.string ⟨#[]⟩)], none, [], true, none, .no⟩),
 (12, ⟨false, [.v (.int .u64 0)], none, [], false, some .u64, .no⟩),
 (13, ⟨true, [.v (.string ⟨#[]⟩), .v (.int .u64 0)], none, [(9, 0), (12, 1)], false, none, .no⟩),
 (14, ⟨true, [.v (.string ⟨#[]⟩), .v (.int .u64 0)], none, [(9, 0), (12, 1)], false, none, .no⟩),
 (15, ⟨false, [.v (.pointer none)], none, [], false, none, .ptr⟩),
 (16, ⟨false, [.v (.pointer none)], none, [], false, none, .ptr⟩),
 (17, ⟨false, [.v (.pointer none)], none, [], false, none, .ptr⟩),
 (18, ⟨true, [.v (.pointer none)], none, [(17, 0)], false, none, .no⟩),
 (19, ⟨true, [.v (.pointer none)], none, [(17, 0)], false, none, .no⟩),
 (20, ⟨false, [.v (.nilIface)], none, [], false, none, .no⟩),
 (21, ⟨false, [.v (.int .i32 0)], none, [], false, some .i32, .no⟩),
 (22, ⟨false, [.nl], some (68, 4), [], false, none, .no⟩),
 (23, ⟨false, [.v (.pointer none)], none, [], false, none, .ptr⟩),
 (24, ⟨false, [.v (.nilFunc)], none, [], false, none, .fn⟩),
 (25, ⟨false, [.v (.nilFunc)], none, [], false, none, .fn⟩),
 (26, ⟨false, [.v (.nilFunc)], none, [], false, none, .fn⟩),
 (27, ⟨false, [.nl], some (35, 9), [], false, none, .no⟩),
 (29, ⟨false, [.v (.nilFunc)], none, [], false, none, .fn⟩),
 (30, ⟨false, [.v (.nilFunc)], none, [], false, none, .fn⟩),
 (31, ⟨false, [.v (.nilFunc)], none, [], false, none, .fn⟩),
 (32, ⟨true, [.v (.int .i64 0), .v (.int .i64 0), .v (.int .i64 0), .v (.int .i64 0), .v (.int .i64 0), .v (.int .i64 0)], none, [(3, 0), (3, 1), (3, 2), (3, 3), (3, 4), (3, 5)], false, none, .no⟩),
 (33, ⟨true, [.v (.int .i64 0), .v (.int .i64 0), .v (.int .i64 0), .v (.int .i64 0), .v (.int .i64 0), .v (.int .i64 0)], none, [(3, 0), (3, 1), (3, 2), (3, 3), (3, 4), (3, 5)], false, none, .no⟩),
 (34, ⟨true, [.v (.string ⟨#[]⟩), .v (.string ⟨#[]⟩), .v (.int .i64 0), .v (.int .i64 0), .v (.int .i64 0), .v (.int .i64 0), .v (.int .i64 0), .v (.int .i64 0), .v (.int .i64 0)], none, [(9, 0), (9, 1), (33, 2), (3, 8)], false, none, .no⟩),
 (35, ⟨true, [.v (.string ⟨#[]⟩), .v (.string ⟨#[]⟩), .v (.int .i64 0), .v (.int .i64 0), .v (.int .i64 0), .v (.int .i64 0), .v (.int .i64 0), .v (.int .i64 0), .v (.int .i64 0)], none, [(9, 0), (9, 1), (33, 2), (3, 8)], false, none, .no⟩),
 (37, ⟨false, [.v (.nilFunc)], none, [], false, none, .fn⟩),
 (38, ⟨false, [.v (.nilFunc)], none, [], false, none, .fn⟩),
 (39, ⟨false, [.nl], some (9, 1), [], false, none, .no⟩),
 (41, ⟨false, [.v (.nilFunc)], none, [], false, none, .fn⟩),
 (42, ⟨false, [.v (.nilFunc)], none, [], false, none, .fn⟩),
 (43, ⟨false, [.v (.nilFunc)], none, [], false, none, .fn⟩),
 (44, ⟨false, [.v (.nilFunc)], none, [], false, none, .fn⟩),
 (45, ⟨false, [.v (.nilFunc)], none, [], false, none, .fn⟩),
 (46, ⟨false, [.v (.nilFunc)], none, [], false, none, .fn⟩),
 (47, ⟨true, [.v (.int .i64 0), .v (.int .i64 0)], none, [], false, none, .arr 2 3 1⟩),
 (48, ⟨false, [.nl], some (54, 6), [], false, none, .no⟩),
 (49, ⟨false, [.nl], some (93, 3), [], false, none, .no⟩),
 (50, ⟨false, [.v (.int .i64 0)], none, [], false, some .i64, .no⟩),
 (52, ⟨false, [.v (.nilFunc)], none, [], false, none, .fn⟩),
 (53, ⟨true, [.v (.int .i64 0), .v (.string ⟨#[]⟩), .v (.string ⟨#[]⟩), .v (.int .i64 0), .ff, .ff], none, [(3, 0), (9, 1), (9, 2), (3, 3), (4, 4), (4, 5)], false, none, .no⟩),
 (54, ⟨true, [.v (.int .i64 0), .v (.string ⟨#[]⟩), .v (.string ⟨#[]⟩), .v (.int .i64 0), .ff, .ff], none, [(3, 0), (9, 1), (9, 2), (3, 3), (4, 4), (4, 5)], false, none, .no⟩),
 (55, ⟨false, [.v (.nilFunc)], none, [], false, none, .fn⟩),
 (56, ⟨false, [.v (.nilFunc)], none, [], false, none, .fn⟩),
 (57, ⟨false, [.v (.nilFunc)], none, [], false, none, .fn⟩),
 (58, ⟨false, [.v (.nilFunc)], none, [], false, none, .fn⟩),
 (60, ⟨false, [.v (.nilFunc)], none, [], false, none, .fn⟩),
 (61, ⟨false, [.v (.nilFunc)], none, [], false, none, .fn⟩),
 (62, ⟨false, [.v (.nilFunc)], none, [], false, none, .fn⟩),
 (63, ⟨false, [.v (.nilFunc)], none, [], false, none, .fn⟩),
 (64, ⟨false, [.v (.map none)], none, [], false, none, .map true 35⟩),
 (65, ⟨true, [.v (.map none)], none, [(64, 0)], false, none, .no⟩),
 (66, ⟨true, [.v (.map none)], none, [(64, 0)], false, none, .no⟩),
 (67, ⟨true, [.v (.int .i64 0), .v (.int .i64 0), .v (.int .i64 0), .nl], none, [(3, 0), (3, 1), (3, 2), (48, 3)], false, none, .no⟩),
 (68, ⟨true, [.v (.int .i64 0), .v (.int .i64 0), .v (.int .i64 0), .nl], none, [(3, 0), (3, 1), (3, 2), (48, 3)], false, none, .no⟩),
 (70, ⟨false, [.v (.nilFunc)], none, [], false, none, .fn⟩),
 (71, ⟨false, [.v (.nilFunc)], none, [], false, none, .fn⟩),
 (73, ⟨false, [.v (.nilFunc)], none, [], false, none, .fn⟩),
 (74, ⟨false, [.v (.nilFunc)], none, [], false, none, .fn⟩),
 (75, ⟨false, [.v (.nilFunc)], none, [], false, none, .fn⟩),
 (76, ⟨false, [.v (.nilFunc)], none, [], false, none, .fn⟩),
 (77, ⟨false, [.v (.nilFunc)], none, [], false, none, .fn⟩),
 (79, ⟨false, [.v (.nilFunc)], none, [], false, none, .fn⟩),
 (80, ⟨false, [.v (.nilFunc)], none, [], false, none, .fn⟩),
 (81, ⟨false, [.v (.nilFunc)], none, [], false, none, .fn⟩),
 (83, ⟨false, [.v (.nilFunc)], none, [], false, none, .fn⟩),
 (84, ⟨true, [.v (.int .i64 0), .v (.string ⟨#[]⟩), .v (.string ⟨#[]⟩), .v (.int .i64 0), .ff, .ff, .v (.int .i64 0), .v (.int .i64 0)], none, [(54, 0), (3, 6), (3, 7)], false, none, .no⟩),
 (85, ⟨true, [.v (.int .i64 0), .v (.string ⟨#[]⟩), .v (.string ⟨#[]⟩), .v (.int .i64 0), .ff, .ff, .v (.int .i64 0), .v (.int .i64 0)], none, [(54, 0), (3, 6), (3, 7)], false, none, .no⟩),
 (86, ⟨false, [.v (.nilFunc)], none, [], false, none, .fn⟩),
 (87, ⟨false, [.v (.nilFunc)], none, [], false, none, .fn⟩),
 (88, ⟨false, [.v (.nilFunc)], none, [], false, none, .fn⟩),
 (89, ⟨true, [.nl, .v (.string ⟨#[]⟩), .nl, .v (.int .i64 0)], none, [(27, 0), (9, 1), (49, 2), (50, 3)], false, none, .no⟩),
 (90, ⟨true, [.nl, .v (.string ⟨#[]⟩), .nl, .v (.int .i64 0)], none, [(27, 0), (9, 1), (49, 2), (50, 3)], false, none, .no⟩),
 (91, ⟨false, [.v (.nilFunc)], none, [], false, none, .fn⟩),
 (92, ⟨true, [.v (.int .i64 0), .v (.int .i64 0), .v (.string ⟨#[]⟩)], none, [(3, 0), (3, 1), (9, 2)], false, none, .no⟩),
 (93, ⟨true, [.v (.int .i64 0), .v (.int .i64 0), .v (.string ⟨#[]⟩)], none, [(3, 0), (3, 1), (9, 2)], false, none, .no⟩),
 (94, ⟨false, [.v (.nilFunc)], none, [], false, none, .fn⟩),
 (95, ⟨false, [.v (.nilFunc)], none, [], false, none, .fn⟩),
 (96, ⟨false, [.v (.nilFunc)], none, [], false, none, .fn⟩),
 (97, ⟨false, [.v (.nilFunc)], none, [], false, none, .fn⟩),
 (99, ⟨false, [.v (.nilFunc)], none, [], false, none, .fn⟩),
 (100, ⟨false, [.v (.nilFunc)], none, [], false, none, .fn⟩),
 (101, ⟨false, [.v (.nilFunc)], none, [], false, none, .fn⟩),
 (102, ⟨false, [.nl], some (3, 1), [], false, none, .no⟩),
 (103, ⟨false, [.v (.nilFunc)], none, [], false, none, .fn⟩),
 (104, ⟨false, [.v (.nilFunc)], none, [], false, none, .fn⟩),
 (105, ⟨false, [.v (.nilFunc)], none, [], false, none, .fn⟩),
 (106, ⟨false, [.v (.nilFunc)], none, [], false, none, .fn⟩),
 (107, ⟨false, [.v (.nilFunc)], none, [], false, none, .fn⟩),
 (108, ⟨false, [.v (.nilFunc)], none, [], false, none, .fn⟩),
 (109, ⟨false, [.v (.nilFunc)], none, [], false, none, .fn⟩),
 (110, ⟨false, [.v (.int .u64 0)], none, [], false, some .u64, .no⟩),
 (111, ⟨false, [.v (.nilFunc)], none, [], false, none, .fn⟩),
 (112, ⟨false, [.v (.nilFunc)], none, [], false, none, .fn⟩),
 (113, ⟨false, [.v (.nilFunc)], none, [], false, none, .fn⟩),
 (114, ⟨false, [.v (.nilFunc)], none, [], false, none, .fn⟩),
 (115, ⟨false, [.v (.nilFunc)], none, [], false, none, .fn⟩),
 (116, ⟨false, [.v (.nilFunc)], none, [], false, none, .fn⟩),
 (117, ⟨false, [.v (.int .i64 0)], none, [], false, some .i64, .no⟩),
 (119, ⟨false, [.v (.nilFunc)], none, [], false, none, .fn⟩),
 (120, ⟨false, [.v (.nilFunc)], none, [], false, none, .fn⟩),
 (121, ⟨false, [.v (.nilFunc)], none, [], false, none, .fn⟩),
 (123, ⟨false, [.v (.nilFunc)], none, [], false, none, .fn⟩),
 (124, ⟨false, [.v (.nilFunc)], none, [], false, none, .fn⟩),
 (125, ⟨false, [.v (.int .u32 0)], none, [], false, some .u32, .no⟩),
 (126, ⟨false, [.v (.nilFunc)], none, [], false, none, .fn⟩),
 (127, ⟨false, [.v (.int .u64 0)], none, [], false, some .u64, .no⟩),
 (128, ⟨false, [.v (.pointer none)], none, [], false, none, .ptr⟩),
 (129, ⟨false, [.nl], some (5, 1), [], false, none, .no⟩),
 (130, ⟨true, [.v (.pointer none), .nl], none, [(128, 0), (129, 1)], false, none, .no⟩),
 (131, ⟨true, [.v (.pointer none), .nl], none, [(128, 0), (129, 1)], false, none, .no⟩),
 (132, ⟨false, [.v (.nilFunc)], none, [], false, none, .fn⟩),
 (133, ⟨false, [.v (.nilIface)], none, [], false, none, .no⟩),
 (134, ⟨false, [.v (.nilIface)], none, [], false, none, .no⟩),
 (136, ⟨false, [.v (.nilFunc)], none, [], false, none, .fn⟩),
 (137, ⟨false, [.v (.nilFunc)], none, [], false, none, .fn⟩),
 (138, ⟨false, [.v (.nilFunc)], none, [], false, none, .fn⟩),
 (139, ⟨false, [.v (.nilFunc)], none, [], false, none, .fn⟩),
 (140, ⟨false, [.v (.nilFunc)], none, [], false, none, .fn⟩),
 (141, ⟨true, [.v (.int .u8 0), .v (.int .u8 0), .v (.int .u8 0), .v (.int .u8 0), .v (.int .u8 0), .v (.int .u8 0), .v (.int .u8 0), .v (.int .u8 0), .v (.int .u8 0), .v (.int .u8 0)], none, [], false, none, .arr 10 5 1⟩),
 (142, ⟨false, [.v (.nilFunc)], none, [], false, none, .fn⟩),
 (143, ⟨false, [.v (.int .u64 0)], none, [], false, some .u64, .no⟩),
 (144, ⟨false, [.v (.nilFunc)], none, [], false, none, .fn⟩),
 (145, ⟨false, [.v (.nilFunc)], none, [], false, none, .fn⟩),
 (146, ⟨false, [.v (.nilFunc)], none, [], false, none, .fn⟩),
 (147, ⟨false, [.v (.pointer none)], none, [], false, none, .ptr⟩),
 (148, ⟨false, [.v (.nilFunc)], none, [], false, none, .fn⟩),
 (149, ⟨false, [.v (.pointer none)], none, [], false, none, .ptr⟩),
 (150, ⟨false, [.v (.nilFunc)], none, [], false, none, .fn⟩),
 (151, ⟨false, [.v (.nilFunc)], none, [], false, none, .fn⟩),
 (152, ⟨false, [.v (.pointer none)], none, [], false, none, .ptr⟩),
 (154, ⟨false, [.v (.nilFunc)], none, [], false, none, .fn⟩),
 (155, ⟨false, [.v (.pointer none)], none, [], false, none, .no⟩),
 (156, ⟨false, [.v (.nilFunc)], none, [], false, none, .fn⟩),
 (157, ⟨false, [.v (.nilFunc)], none, [], false, none, .fn⟩),
 (158, ⟨false, [.v (.nilFunc)], none, [], false, none, .fn⟩),
 (160, ⟨false, [.v (.nilFunc)], none, [], false, none, .fn⟩),
 (161, ⟨false, [.v (.nilFunc)], none, [], false, none, .fn⟩),
 (163, ⟨true, [.v (.int .u8 0), .v (.int .u8 0)], none, [(5, 0), (5, 1)], false, none, .no⟩),
 (164, ⟨true, [.v (.int .u8 0), .v (.int .u8 0)], none, [(5, 0), (5, 1)], false, none, .no⟩),
 (165, ⟨true, [.v (.int .u8 0), .v (.int .u8 0), .v (.int .u8 0), .v (.int .u8 0), .v (.int .u8 0), .v (.int .u8 0), .v (.int .u8 0), .v (.int .u8 0), .v (.int .u8 0), .v (.int .u8 0), .v (.int .u8 0), .v (.int .u8 0), .v (.int .u8 0), .v (.int .u8 0), .v (.int .u8 0), .v (.int .u8 0), .v (.int .u8 0), .v (.int .u8 0), .v (.int .u8 0), .v (.int .u8 0), .v (.int .u8 0), .v (.int .u8 0), .v (.int .u8 0), .v (.int .u8 0), .v (.int .u8 0), .v (.int .u8 0), .v (.int .u8 0), .v (.int .u8 0), .v (.int .u8 0), .v (.int .u8 0), .v (.int .u8 0), .v (.int .u8 0)], none, [], false, none, .arr 16 164 2⟩),
 (167, ⟨false, [.v (.nilFunc)], none, [], false, none, .fn⟩),
 (168, ⟨true, [.v (.pointer none), .v (.pointer none), .v (.pointer none), .v (.string ⟨#[]⟩)], none, [(17, 0), (17, 1), (17, 2), (9, 3)], false, none, .no⟩),
 (169, ⟨true, [.v (.pointer none), .v (.pointer none), .v (.pointer none), .v (.string ⟨#[]⟩)], none, [(17, 0), (17, 1), (17, 2), (9, 3)], false, none, .no⟩),
 (170, ⟨true, [], none, [], false, none, .arr 0 16 1⟩),
 (173, ⟨false, [.v (.nilFunc)], none, [], false, none, .fn⟩),
 (174, ⟨false, [.v (.int .u8 0)], none, [], false, some .u8, .no⟩),
 (175, ⟨false, [.v (.int .u8 0)], none, [], false, some .u8, .no⟩),
 (176, ⟨false, [.v (.nilFunc)], none, [], false, none, .fn⟩),
 (177, ⟨false, [.v (.int .i32 0)], none, [], false, some .i32, .no⟩),
 (178, ⟨false, [.v (.int .i32 0)], none, [], false, some .i32, .no⟩),
 (179, ⟨true, [.v (.int .u64 0), .v (.int .u64 0), .v (.int .u32 0), .v (.int .u8 0), .v (.int .u8 0), .v (.int .u8 0), .v (.int .u8 0), .v (.nilFunc), .v (.pointer none), .v (.int .i32 0), .v (.int .i32 0)], none, [(12, 0), (12, 1), (125, 2), (174, 3), (5, 4), (5, 5), (175, 6), (176, 7), (149, 8), (177, 9), (178, 10)], false, none, .no⟩),
 (180, ⟨true, [.v (.int .u64 0), .v (.int .u64 0), .v (.int .u32 0), .v (.int .u8 0), .v (.int .u8 0), .v (.int .u8 0), .v (.int .u8 0), .v (.nilFunc), .v (.pointer none), .v (.int .i32 0), .v (.int .i32 0)], none, [(12, 0), (12, 1), (125, 2), (174, 3), (5, 4), (5, 5), (175, 6), (176, 7), (149, 8), (177, 9), (178, 10)], false, none, .no⟩)]
theorem tabG : tabB Tryz.prog tab = true := by kernel_rfl
theorem fnG {f : FuncId} {fn : Func} {c : Code} {gs : List G} {Q : G → Prop} (hf : Tryz.prog.funcs[f]? = some fn) (hname : (fn.name == "runtime.NumGoroutine") = false) (hb : fn.body = some c) (hn : gs.length ≤ fn.ntmps) (hc : codeB tab fn.ntmps c = true) (h : sxC Tryz.prog tab c (args0 0 gs) [] 0 (sxRes tab fn Q)) : FnV Tryz.prog f gs Q :=
 fn_of_sx (tab_ok tabG) (by kernel_rfl) hf hname hb hn hc h
theorem fnoG {f : FuncId} {fn : Func} {c : Code} {gs gs0 : List G} {rs : List R} {own0 : Os} {n0 : Nat} {roots : List Nat} {Q : G → List R → Prop} (hf : Tryz.prog.funcs[f]? = some fn) (hname : (fn.name == "runtime.NumGoroutine") = false) (hb : fn.body = some c) (hn : gs0.length ≤ fn.ntmps) (hc : codeB tab fn.ntmps c = true) (ho : Lent rs gs own0 n0 gs0 roots) (h : sxC Tryz.prog tab c (args0 0 gs0) own0 n0 (sxResO tab fn roots Q)) : FnO Tryz.prog f gs rs Q :=
 fno_of_sx (tab_ok tabG) (by kernel_rfl) hf hname hb hn hc ho h
end Go.Proofs.YtifdeajdlhgglaaGreatDoor
namespace Go.Proofs.YtifdeajdlhgglaaGreatDoor
open Go.ChangeShapes Go.WideShapes Go.ChangeAt Go.RowKit
inductive Sp where
 | i (k : IntKind)
 | s
 | b
 | sl (e : List Sp)
def flatSF (P : Program) (F : TypeId → Option (List Sp)) : List Field → Nat → Option (List Sp)
 | [], _ => some []
 | f :: fs, off => match Nat.beq f.offset off, F f.type with
  | true, some sh => match Nat.beq (P.cellsOf f.type) sh.length, flatSF P F fs (off + sh.length) with
   | true, some sh' => some (sh ++ sh')
   | _, _ => none
  | _, _ => none
def repS : Nat → List Sp → List Sp
 | 0, _ => []
 | n + 1, l => l ++ repS n l
def flatS (P : Program) : Nat → TypeId → Option (List Sp)
 | 0, _ => none
 | d + 1, t => match P.underlying t with
  | some (.int k) => some [.i k]
  | some .string => some [.s]
  | some .bool => some [.b]
  | some (.slice e) => match flatS P d e with
   | some sh => bif Nat.beq (P.cellsOf e) sh.length && Nat.blt 0 sh.length then some [.sl sh] else none
   | none => none
  | some (.struct fs) => match flatSF P (flatS P d) fs.toList 0 with
   | some sh => bif Nat.beq (P.cellsOf t) sh.length then some sh else none
   | none => none
  | some (.array n e) => match flatS P d e with
   | some sh => bif Nat.beq (P.cellsOf e) sh.length && Nat.beq (P.cellsOf t) (n * sh.length) then some (repS n sh) else none
   | none => none
  | _ => none
inductive TyL : List Sp → List G → Prop
 | nil : TyL [] []
 | i {k : IntKind} {l : List Sp} {gs : List G} (n : Int) (hn : k.min ≤ n ∧ n ≤ k.max) (h : TyL l gs) : TyL (.i k :: l) (.v (.int k n) :: gs)
 | s {l : List Sp} {gs : List G} (s : ByteArray) (hs : s.size ≤ maxLen) (h : TyL l gs) : TyL (.s :: l) (.v (.string s) :: gs)
 | b {l : List Sp} {gs : List G} (b : Bool) (h : TyL l gs) : TyL (.b :: l) (.v (.bool b) :: gs)
 | sl {e l : List Sp} {gs : List G} (rows : List (List G)) (hl : rows.length ≤ maxLen) (hr : ∀ r ∈ rows, TyL e r) (h : TyL l gs) : TyL (.sl e :: l) (.sl rows :: gs)
theorem TyL.nil_inv {gs : List G} (h : TyL [] gs) : gs = [] := by cases h; rfl
theorem TyL.i_inv {k : IntKind} {l : List Sp} {gs : List G} (h : TyL (.i k :: l) gs) : ∃ n gs', gs = .v (.int k n) :: gs' ∧ (k.min ≤ n ∧ n ≤ k.max) ∧ TyL l gs' := by cases h with | i n hn h => exact ⟨n, _, rfl, hn, h⟩
theorem TyL.s_inv {l : List Sp} {gs : List G} (h : TyL (.s :: l) gs) : ∃ s gs', gs = .v (.string s) :: gs' ∧ s.size ≤ maxLen ∧ TyL l gs' := by cases h with | s n hn h => exact ⟨n, _, rfl, hn, h⟩
theorem TyL.b_inv {l : List Sp} {gs : List G} (h : TyL (.b :: l) gs) : ∃ b gs', gs = .v (.bool b) :: gs' ∧ True ∧ TyL l gs' := by cases h with | b n h => exact ⟨n, _, rfl, trivial, h⟩
theorem TyL.sl_inv {e l : List Sp} {gs : List G} (h : TyL (.sl e :: l) gs) : ∃ rows gs', gs = .sl rows :: gs' ∧ rows.length ≤ maxLen ∧ (∀ r ∈ rows, TyL e r) ∧ TyL l gs' := by cases h with | sl n h1 h2 h => exact ⟨n, _, rfl, h1, h2, h⟩
theorem TyL.app {l m : List Sp} {gs hs : List G} (h : TyL l gs) (h' : TyL m hs) : TyL (l ++ m) (gs ++ hs) := by
 induction h with
 | nil => exact h'
 | i n hn _ ih => exact .i n hn ih
 | s n hn _ ih => exact .s n hn ih
 | b n _ ih => exact .b n ih
 | sl n h1 h2 _ _ ih => exact .sl n h1 h2 ih
theorem TyL.len {l : List Sp} {gs : List G} (h : TyL l gs) : gs.length = l.length := by
 induction h with
 | nil => rfl
 | i _ _ _ ih => simp [ih]
 | s _ _ _ ih => simp [ih]
 | b _ _ ih => simp [ih]
 | sl _ _ _ _ _ ih => simp [ih]
theorem rows_of {α : Type} {f : α → List G} {Q : α → Prop} {rows : List (List G)} (h : ∀ r ∈ rows, ∃ x, r = f x ∧ Q x) : ∃ l : List α, rows = l.map f ∧ ∀ x ∈ l, Q x := by
 induction rows with
 | nil => exact ⟨[], rfl, by simp⟩
 | cons r rows ih =>
  obtain ⟨l, h1, h2⟩ := ih fun r hr => h r (by simp [hr])
  obtain ⟨x, rfl, hx⟩ := h r (by simp)
  exact ⟨x :: l, by simp [h1], fun y hy => by
   rcases List.mem_cons.1 hy with rfl | hy
   ·exact hx
   ·exact h2 y hy⟩
def immW (W : World) : Imm := fun b o => W.cell? ⟨b, o, none⟩
theorem immW_mem (W : World) : Mem (immW W) W := fun _ _ _ h => h
section
variable {P : Program} {W : World} {H : Type} {enc : TypeId × Value → H}
theorem wf_rng {k : IntKind} {n : Int} (h : (Lit.int k n).wf = true) : k.min ≤ n ∧ n ≤ k.max := by
 have h2 : (decide (k.min ≤ n) && decide (n ≤ k.max)) = true := h
 simp only [Bool.and_eq_true, decide_eq_true_eq] at h2
 exact h2
theorem pw_take_drop {Q : G → Value → Prop} {gs hs : List G} {cs : List Value} {n : Nat} (h1 : PW Q gs (cs.take n)) (h2 : PW Q hs (cs.drop n)) : PW Q (gs ++ hs) cs := by
 have := h1.append h2
 rwa [List.take_append_drop] at this
theorem given_v {F : FuncId} {gs : List G} (h : FnV P F gs fun q => q = .v (.bool true)) {vs : List Value} (hp : PW (VRep (immW W)) gs vs) : Calls P F vs.toArray W fun e W' => e = .returned (.bool true) ∧ Below W.heap.size W W' :=
 (h.2 (immW W) W vs (immW_mem W) hp).mono fun e w' ⟨x, g, I', he, hq, _, hx, _, _, hb⟩ => by
  subst hq
  cases (show VRep I' (.v (.bool true)) x from hx)
  exact ⟨he, hb⟩
end
end Go.Proofs.YtifdeajdlhgglaaGreatDoor
namespace Go.Proofs.YtifdeajdlhgglaaGreatDoor
open Go.RowKit
def gB (b : Bool) : G := match b with
 | true => .tt
 | false => .ff
def gSt (s : ByteArray) : List G := [.v (.string s)]
theorem eqI {a b : Int} (h : a = b) : (some (G.v (.int .i64 a)) : Option G) = some (G.v (.int .i64 b)) := by rw [h]
theorem eqR {a b : List (List G)} {e sz : Nat} (h : a = b) : (some (R.slc a e sz) : Option R) = some (R.slc b e sz) := by rw [h]
theorem take_more {α : Type} {l : List α} {i : Nat} {x : α} (h : l[i]? = some x) : l.take (i + 1) = l.take i ++ [x] := by
 have hi := (List.getElem?_eq_some_iff.1 h)
 rw [List.take_succ_eq_append_getElem hi.1, hi.2]
theorem lt_of_at {α : Type} {l : List α} {i : Nat} {x : α} (h : l[i]? = some x) : i < l.length := (List.getElem?_eq_some_iff.1 h).1
theorem find_at {α : Type} {p : α → Bool} {l : List α} {i : Nat} {x : α} (h : l[i]? = some x) (hno : ∀ y ∈ l.take i, p y = false) (hp : p x = true) : l.find? p = some x := by
 rw [List.find?_eq_some_iff_getElem]
 obtain ⟨hi, e⟩ := List.getElem?_eq_some_iff.1 h
 refine ⟨hp, i, hi, e, fun j hj => ?_⟩
 have := hno l[j] (List.mem_iff_getElem.2 ⟨j, by rw [List.length_take]; omega, by simp⟩)
 rw [this]; rfl
theorem take_no {α : Type} {p : α → Prop} {l : List α} {i : Nat} {x : α} (h : l[i]? = some x) (hno : ∀ y ∈ l.take i, ¬ p y) (hp : ¬ p x) : ∀ y ∈ l.take (i + 1), ¬ p y := fun y hy => by
 rw [take_more h] at hy
 rcases List.mem_append.1 hy with hy | hy
 ·exact hno y hy
 ·rw [List.mem_singleton.1 hy]; exact hp
theorem take_all {α : Type} {p : α → Prop} {l : List α} {i : Nat} (h : ¬ i < l.length) (hno : ∀ y ∈ l.take i, p y) : ∀ y ∈ l, p y := fun y hy => hno y (by rw [List.take_of_length_le (by omega)]; exact hy)
theorem foldl_take {α β : Type} (f : β → α → β) (b : β) {l : List α} {i : Nat} {x : α} (h : l[i]? = some x) : (l.take (i + 1)).foldl f b = f ((l.take i).foldl f b) x := by
 rw [take_more h, List.foldl_append]; rfl
theorem countP_take {α : Type} (p : α → Bool) {L : List α} {i : Nat} {m : α} (h : L[i]? = some m) : (L.take (i + 1)).countP p = (L.take i).countP p + if p m = true then 1 else 0 := by
 rw [take_more h, List.countP_append, List.countP_singleton]
end Go.Proofs.YtifdeajdlhgglaaGreatDoor
namespace Go.Proofs.YtifdeajdlhgglaaGreatDoor
open Go.RowKit
theorem VR.res {I : Imm} {V : Va} {g : G} {x : Value} (h : VR I g x) : PRes I V g x := by
 cases g with
 | tup l => obtain ⟨cs, e, hp⟩ := h; exact ⟨cs, e, hp.mono fun _ _ h => .of_v h⟩
 | _ => exact PRep.of_v (V := V) h
def Imm.new (I : Imm) (w w' : World) : Imm := fun b o => if w.heap.size ≤ b then w'.cell? ⟨b, o, none⟩ else I b o
theorem Imm.new_le {I : Imm} {w w' : World} (hM : Mem I w) : I.le (I.new w w') := fun b o x hx => by
 unfold Imm.new
 rw [if_neg (by have := hM.lt hx; omega)]
 exact hx
theorem Imm.new_old {I : Imm} {w w' : World} {b o : Nat} (hb : b < w.heap.size) : I.new w w' b o = I b o := if_neg (by omega)
theorem Imm.new_mem {I : Imm} {w w' : World} (hM : Mem I w) (hb : Below w.heap.size w w') : Mem (I.new w w') w' := fun b o x hx => by
 unfold Imm.new at hx
 split at hx
 ·exact hx
 ·exact (hM.keep fun b o x hx => hb.block b (hM.lt hx)) b o x hx
theorem vrep_v {I : Imm} {z x : Value} (h : VRep I (.v z) x) : x = z := by cases h; rfl
abbrev gI (n : Int) : G := .v (.int .i64 n)
abbrev gS (s : ByteArray) : G := .v (.string s)
theorem vr_tup2 {I : Imm} {a b : G} {x y : Value} (h : VRep I a x) (h' : VRep I b y) : VR I (.tup [a, b]) (.tuple #[x, y]) := ⟨[x, y], rfl, .cons h (.cons h' .nil)⟩
theorem vrep_new {α : Type} {I : Imm} {w w' : World} {sz c B : Nat} {f : α → List G} {fv : α → List Value} {l : List α} {A : Option Addr} (hrd : Rd w' B sz fv A l) (hn : ∀ a, A = some a → w.heap.size ≤ a.block) (hs : ∀ a, A = some a → a = ⟨a.block, 0, none⟩) (hc : l.length ≤ c) (hA : A = none → c = 0) (hz : ∀ x, (fv x).length = sz) (hf : ∀ x, PW (VRep (I.new w w')) (f x) (fv x)) : VRep (I.new w w') (.sl (l.map f)) (.slice A l.length c) := by
 have key := VRep.sl (I := I.new w w') (l.map f) A c sz (fun i j => ((l[i]?).bind fun x => (fv x)[j]?).getD undef) (by simpa using hc) hA (fun r hr => by obtain ⟨x, -, rfl⟩ := List.mem_map.1 hr; rw [(hf x).1, hz]) (fun i r hr => ?_) (fun i r j g hr hg => ?_)
 ·simpa using key
 ·rw [List.getElem?_map] at hr
  obtain ⟨x, h1, -⟩ := Option.map_eq_some_iff.1 hr
  obtain ⟨a, rfl, -, hcell⟩ := hrd i x h1
  refine ⟨a.block, 0, congrArg some (hs a rfl), fun j hj => ?_⟩
  have hj' : j < (fv x).length := by rw [hz]; exact hj
  have h2 := hcell j _ (List.getElem?_eq_getElem hj')
  unfold Imm.new
  rw [if_pos (hn a rfl), h1]
  simp only [Option.bind_some, List.getElem?_eq_getElem hj', Option.getD_some]
  rw [← h2]
  have e := hs a rfl
  generalize a.block = b at e
  subst e
  rw [add_off, add_off, Nat.zero_add]
 ·rw [List.getElem?_map] at hr
  obtain ⟨x, h1, rfl⟩ := Option.map_eq_some_iff.1 hr
  obtain ⟨u, h2, h3⟩ := (hf x).get hg
  rw [h1]
  simp only [Option.bind_some, h2, Option.getD_some]
  exact h3
theorem jn {T G : Prop} (f : T → G) (x : T) : G := f x
def okP : G → Bool
 | .v _ | .agg _ | .sl _ | .ptr _ _ | .osl _ | .mp _ | .clo _ _ _ => true
 | _ => false
theorem prep_of_t {I : Imm} {V : Va} {g : G} {x : Value} (h : okP g = true) (ht : TRep I V g x) : PRep I V g x := by cases g <;> first | exact ht | cases h
theorem fno_lift {P : Program} {f : FuncId} {gs gs0 : List G} {rs rs0 : List R} {roots : List Nat} {Q Q0 : G → List R → Prop} (hF : FnO P f gs0 rs0 Q0) (ho : Lent rs gs (objs rs0 0) rs0.length gs0 roots) (hg : allB okP gs0 = true)
  (hend : ∀ g rs', Q0 g rs' → ∃ its g', EndK roots (objs rs' 0) rs'.length g Q its g') : FnO P f gs rs Q :=
 ⟨hF.1, fun I V w vs hH hVn hp => by
  obtain ⟨V2, h2n, hH2, hp2, hF2, hroot⟩ := ho.run I V w vs hH hVn hp
  refine (hF.2 I V2 w vs hH2 h2n ⟨hp2.1, fun j g u h1 h2 => prep_of_t (allB_mem hg g (List.mem_of_getElem? h1)) (hp2.2 j g u h1 h2)⟩).mono fun e w' ⟨x, g, rs', I', V', he, hq, hn', hH', hx, hf', hle⟩ => ?_
  obtain ⟨its, g', hE⟩ := hend g rs' hq
  rw [← hn'] at hE
  obtain ⟨V4, k1, k2, k3, k4, k5, k6⟩ := close_ok hE hH' hx V.s
  have hfro := hF2.trans hf'
  refine ⟨x, g', its.map It.res, I', V4, he, hE.post, by simpa using k1, k2, k3, ⟨hfro.os, hfro.tape, hfro.output, hfro.size, hfro.blk, hfro.mono, fun i r b hi hb hlt => ?_⟩, ?_, fun i hi => ⟨?_, k6 i (by rw [ho.len]; omega)⟩⟩
  ·obtain ⟨k, r', h1, h2⟩ := k4 i b hb
   exact hfro.foot k r' b h1 h2 hlt
  ·rw [k1, hVn, ← ho.len]
   obtain ⟨l, hl⟩ := hE.roots
   have := congrArg List.length hl
   simp at this
   omega
  ·have hi' : i < roots.length := by rw [ho.len]; omega
   have hr := List.getElem?_eq_getElem hi'
   obtain ⟨h1, h2⟩ := hroot i _ hr
   rw [(k5 i _ hr).1, (hle.2 _ (by omega)).1, h1]⟩
end Go.Proofs.YtifdeajdlhgglaaGreatDoor
namespace Go.Proofs.YtifdeajdlhgglaaGreatDoor
open Go.ChangeShapes Go.WideShapes Go.ChangeAt Go.RowKit
mutual
def bulkG : G → Nat
 | .v x => match x with
  | .string s => s.size + 1
  | _ => 1
 | .sl rows => bulkRs rows + 1
 | _ => 1
def bulkR : List G → Nat
 | [] => 0
 | g :: r => bulkG g + bulkR r
def bulkRs : List (List G) → Nat
 | [] => 0
 | r :: rs => bulkR r + bulkRs rs
end
theorem bulkR_app (a b : List G) : bulkR (a ++ b) = bulkR a + bulkR b := by
 induction a with
 | nil => simp [bulkR]
 | cons g a ih => simp only [List.cons_append, bulkR, ih]; omega
theorem bulkRs_le {rows : List (List G)} {r : List G} (h : r ∈ rows) : bulkR r ≤ bulkRs rows := by
 induction rows with
 | nil => cases h
 | cons x rows ih =>
  simp only [bulkRs]
  rcases List.mem_cons.1 h with rfl | h
  ·omega
  ·have := ih h; omega
section
variable {P : Program} {W : World} {H : Type} {enc : TypeId × Value → H}
theorem bulk_map {α : Type} (l : List α) (f : α → List G) (D : α → DataW H) (h : ∀ x ∈ l, bulkR (f x) ≤ Rows.uptoBulk (D x)) : bulkRs (l.map f) ≤ Rows.uptoBulkAll (l.map D) := by
 induction l with
 | nil => simp [bulkRs, Rows.uptoBulkAll]
 | cons x l ih =>
  simp only [List.map_cons, bulkRs, Rows.uptoBulkAll]
  have h1 := h x (by simp)
  have h2 := ih fun y hy => h y (by simp [hy])
  omega
theorem decB : ∀ (d : Nat) (t : TypeId) (sh : List Sp), flatS P d t = some sh → ∀ (fuel : Nat) (cs : List Value) (y : DataW H × List MemPlace), DataW.trod enc P W 0 (fun _ => true) true fuel t cs = some y → ∃ gs, TyL sh gs ∧ PW (VRep (immW W)) gs cs ∧ bulkR gs ≤ Rows.uptoBulk y.1
 | 0, t, sh, h => by cases h
 | d + 1, t, sh, h => by
  intro fuel cs y hy
  unfold flatS at h
  split at h
  ·next k hu =>
   cases h
   obtain ⟨n, rfl, rfl, hw⟩ := DataW.trod_int hu hy
   exact ⟨_, .i n (wf_rng hw) .nil, .cons (.v _) .nil, by simp [bulkR, bulkG, Rows.uptoBulk]⟩
  ·next hu =>
   cases h
   obtain ⟨s, rfl, rfl, hs⟩ := DataW.trod_string hu hy
   exact ⟨_, .s s hs .nil, .cons (.v _) .nil, by simp [bulkR, bulkG, Rows.uptoBulk]⟩
  ·next hu =>
   cases h
   obtain ⟨b, rfl, rfl⟩ := DataW.trod_bool hu hy
   exact ⟨_, .b b .nil, .cons (.v _) .nil, by simp [bulkR, bulkG, Rows.uptoBulk]⟩
  ·next e hu =>
   split at h
   ·next she he =>
    cases hb : Nat.beq (P.cellsOf e) she.length && Nat.blt 0 she.length with
    | false => rw [hb] at h; cases h
    | true =>
     rw [hb] at h
     have h : some [Sp.sl she] = some sh := h
     cases h
     simp only [Bool.and_eq_true] at hb
     have hsz := Nat.eq_of_beq_eq_true hb.1
     have hpos := Nat.le_of_ble_eq_true hb.2
     rcases Go.Deep.open_slice hu hy with ⟨rfl, rfl⟩ | ⟨a, len, cap, m, n, D, Pl, rfl, -, hl, hm, hmm, rfl, hi⟩
     ·exact ⟨_, .sl [] (by simp) (by simp) .nil, .cons (.sl [] none 0 0 (fun _ _ => undef) (Nat.le_refl _) (fun _ => rfl) (by simp) (fun i r h => by simp at h) (fun i r j g h => by simp at h)) .nil, by simp [bulkR, bulkG, bulkRs, Rows.uptoBulk]⟩
     ·simp only [if_true] at hmm
      subst hmm
      have hx : ∀ i, i < len → ∃ p : List G × List Value, TyL she p.1 ∧ PW (VRep (immW W)) p.1 p.2 ∧ p.2.length = she.length ∧ (∀ (j : Nat) u, p.2[j]? = some u → W.cell? ((a.add (i * she.length)).add j) = some u) ∧ bulkR p.1 ≤ Rows.uptoBulk (D i) := fun i hil => by
       obtain ⟨cs', hc, ht'⟩ := hi i (by omega)
       obtain ⟨gs, h1, h2, h3⟩ := decB d e she he n cs' _ ht'
       obtain ⟨-, hcl, hat⟩ := World.cells?_some hc
       rw [hsz] at hcl hat
       refine ⟨(gs, cs'), h1, h2, hcl, fun j u hu => ?_, h3⟩
       have hj : j < she.length := by rw [← hcl]; exact (List.getElem?_eq_some_iff.1 hu).1
       rw [hat j hj]
       exact hu
      haveI : Inhabited (List G × List Value) := ⟨([], [])⟩
      obtain ⟨p, hp⟩ := Go.Deep.choose_lt hx
      have hrow : ∀ (i : Nat) r, ((List.range len).map fun i => (p i).1)[i]? = some r → i < len ∧ r = (p i).1 := fun i r hr => by
       have hi := (List.getElem?_eq_some_iff.1 hr).1
       have hi' : i < len := by simpa using hi
       rw [List.getElem?_map, List.getElem?_range hi'] at hr
       exact ⟨hi', by simpa using hr.symm⟩
      have hsp : 0 < len → a = ⟨a.block, a.off, none⟩ := fun h0 => by
       have hq := (hp 0 h0).2.2.2.1 0 ((p 0).2[0]'(by rw [(hp 0 h0).2.2.1]; exact hpos)) (List.getElem?_eq_getElem _)
       have := World.cell?_spot hq
       simp only [Addr.add, Nat.zero_mul, if_true] at this
       cases a
       simp at this
       subst this
       rfl
      have key := VRep.sl (I := immW W) ((List.range len).map fun i => (p i).1) (some a) m she.length (fun i j => ((p i).2[j]?).getD undef) (by simpa using hl) (fun e => by cases e) (fun r hr => by
       obtain ⟨i, hi, e⟩ := List.mem_iff_getElem.1 hr
       obtain ⟨h1, h2⟩ := hrow i r (by rw [List.getElem?_eq_getElem hi, e])
       rw [h2, (hp i h1).2.1.1, (hp i h1).2.2.1]) (fun i r hr => by
       obtain ⟨h1, -⟩ := hrow i r hr
       refine ⟨a.block, a.off, by rw [← hsp (by omega)], fun j hj => ?_⟩
       have hj' : j < (p i).2.length := by rw [(hp i h1).2.2.1]; exact hj
       have hq := (hp i h1).2.2.2.1 j _ (List.getElem?_eq_getElem hj')
       rw [List.getElem?_eq_getElem hj', Option.getD_some, ← hq]
       unfold immW
       have e := hsp (by omega)
       generalize a.block = b at *
       generalize a.off = o at *
       subst e
       rw [add_off, add_off]) (fun i r j g hr hg => by
       obtain ⟨h1, rfl⟩ := hrow i r hr
       obtain ⟨u, h2, h3⟩ := (hp i h1).2.1.get hg
       rw [h2]
       exact h3)
      refine ⟨_, .sl ((List.range len).map fun i => (p i).1) (by simp; omega) (fun r hr => ?_) .nil, .cons (by simpa using key) .nil, ?_⟩
      ·obtain ⟨i, hi, rfl⟩ := List.mem_map.1 hr
       exact (hp i (List.mem_range.1 hi)).1
      ·have := bulk_map (List.range len) (fun i => (p i).1) D fun i hi => (hp i (List.mem_range.1 hi)).2.2.2.2
       simp only [bulkR, bulkG, Rows.uptoBulk]
       omega
   ·cases h
  ·next fs hu =>
   split at h
   ·next sh' hf =>
    cases hb : Nat.beq (P.cellsOf t) sh'.length with
    | false => rw [hb] at h; cases h
    | true =>
     rw [hb] at h
     have h : some sh' = some sh := h
     cases h
     have hsz := Nat.eq_of_beq_eq_true hb
     obtain ⟨xs, m, -, rfl, hlen, hxl, hel⟩ := DataW.trod_struct hu hy
     have key : ∀ (fs' : List Field) (xs' : List (DataW H × List MemPlace)) (off : Nat) (sh : List Sp), xs'.length = fs'.length → (∀ (j : Nat) f, fs'[j]? = some f → DataW.trod enc P W 0 (fun _ => true) true m f.type ((cs.drop f.offset).take (P.cellsOf f.type)) = xs'[j]?) → flatSF P (flatS P d) fs' off = some sh → cs.length = off + sh.length → ∃ gs, TyL sh gs ∧ PW (VRep (immW W)) gs (cs.drop off) ∧ bulkR gs ≤ Rows.uptoBulkAll (xs'.map (·.1)) := fun fs' => by
      induction fs' with
      | nil =>
       intro xs' off sh _ _ h hl
       cases h
       exact ⟨[], .nil, by rw [List.drop_eq_nil_of_le (by simp at hl; omega)]; exact .nil, by simp [bulkR]⟩
      | cons f fs' ih =>
       intro xs' off sh hxl hall h hl
       cases xs' with
       | nil => cases hxl
       | cons y xs' =>
        unfold flatSF at h
        split at h
        ·next sh1 e1 e2 =>
         split at h
         ·next sh2 e3 e4 =>
          cases h
          have e1 := Nat.eq_of_beq_eq_true e1
          have e3 := Nat.eq_of_beq_eq_true e3
          have hy := hall 0 f rfl
          obtain ⟨g1, t1, p1, b1⟩ := decB d f.type sh1 e2 m _ y hy
          rw [List.length_append] at hl
          obtain ⟨g2, t2, p2, b2⟩ := ih xs' (off + sh1.length) sh2 (by simpa using hxl) (fun j f hf => hall (j + 1) f (by simpa using hf)) e4 (by omega)
          rw [e1, e3] at p1
          refine ⟨g1 ++ g2, t1.app t2, pw_take_drop p1 ?_, ?_⟩
          ·rw [List.drop_drop]
           exact p2
          ·rw [bulkR_app]
           simp only [List.map_cons, Rows.uptoBulkAll]
           omega
         ·cases h
        ·cases h
     obtain ⟨gs, h1, h2, h3⟩ := key fs.toList xs 0 sh (by rw [hxl]; simp) (fun j f hf => hel j f (by simpa using hf)) hf (by omega)
     refine ⟨gs, h1, by simpa using h2, ?_⟩
     simp only [Rows.uptoBulk]
     omega
   ·cases h
  ·next n e hu =>
   split at h
   ·next she he =>
    cases hb : Nat.beq (P.cellsOf e) she.length && Nat.beq (P.cellsOf t) (n * she.length) with
    | false => rw [hb] at h; cases h
    | true =>
     rw [hb] at h
     have h : some (repS n she) = some sh := h
     cases h
     simp only [Bool.and_eq_true] at hb
     have hsz := Nat.eq_of_beq_eq_true hb.1
     have hct := Nat.eq_of_beq_eq_true hb.2
     obtain ⟨xs, m, -, rfl, hlen, hxl, hel⟩ := DataW.trod_array hu hy
     have key : ∀ (k i : Nat), i + k = n → ∃ gs, TyL (repS k she) gs ∧ PW (VRep (immW W)) gs (cs.drop (i * she.length)) ∧ bulkR gs ≤ Rows.uptoBulkAll ((xs.drop i).map (·.1)) := fun k => by
      induction k with
      | zero =>
       intro i hi
       refine ⟨[], .nil, ?_, by simp [bulkR]⟩
       rw [List.drop_eq_nil_of_le (by rw [hlen, hct, ← hi, Nat.add_zero]; exact Nat.le_refl _)]
       exact .nil
      | succ k ih =>
       intro i hi
       have hxi : i < xs.length := by omega
       have h1 := hel i (by omega)
       rw [List.getElem?_eq_getElem hxi] at h1
       obtain ⟨g1, t1, p1, b1⟩ := decB d e she he m _ _ h1
       obtain ⟨g2, t2, p2, b2⟩ := ih (i + 1) (by omega)
       rw [hsz] at p1
       refine ⟨g1 ++ g2, t1.app t2, pw_take_drop p1 ?_, ?_⟩
       ·rw [List.drop_drop]
        rw [Nat.succ_mul] at p2
        exact p2
       ·rw [bulkR_app, List.drop_eq_getElem_cons hxi]
        simp only [List.map_cons, Rows.uptoBulkAll]
        omega
     obtain ⟨gs, h1, h2, h3⟩ := key n 0 (by omega)
     refine ⟨gs, h1, by simpa using h2, ?_⟩
     simp only [Rows.uptoBulk]
     simp at h3
     omega
   ·cases h
  ·cases h
theorem argB_agg {t : TypeId} {sh : List Sp} {base : Nat} {v : Value} {d : DataW H} {p : List MemPlace} (hf : flatS P 100 t = some sh) (ha : aggB P t = some true) (hv : Value.okWide P W .any base t v) (h : DataW.Trod enc P W 0 (fun _ => true) true t v d p) : ∃ gs, TyL sh gs ∧ VRep (immW W) (.agg gs) v ∧ bulkR gs ≤ Rows.uptoBulk d := by
 obtain ⟨fuel, hy⟩ := h
 obtain ⟨gs, h1, h2, h3⟩ := decB 100 t sh hf fuel _ _ hy
 have hag : ∃ cs, v = .agg cs := by
  unfold Value.okWide at hv
  unfold aggB at ha
  split at hv
  ·obtain ⟨cs, e, -⟩ := hv; exact ⟨cs, e⟩
  ·obtain ⟨cs, e, -⟩ := hv; exact ⟨cs, e⟩
  ·next hn1 hn2 =>
   cases hu : P.underlying t with
   | none => rw [hu] at ha; simp at ha
   | some u =>
    cases u with
    | struct fs => exact absurd hu (hn1 fs)
    | array n e => exact absurd hu (hn2 n e)
    | _ => rw [hu] at ha; simp at ha
 obtain ⟨cs, rfl⟩ := hag
 exact ⟨gs, h1, by have := pw_v h2; simpa [Value.cells] using this, h3⟩
theorem argB_one {t : TypeId} {sp : Sp} {base : Nat} {v : Value} {d : DataW H} {p : List MemPlace} (hf : flatS P 100 t = some [sp]) (ha : aggB P t = some false) (hv : Value.okWide P W .any base t v) (h : DataW.Trod enc P W 0 (fun _ => true) true t v d p) : ∃ g, TyL [sp] [g] ∧ VRep (immW W) g v ∧ bulkG g ≤ Rows.uptoBulk d := by
 obtain ⟨fuel, hy⟩ := h
 obtain ⟨gs, h1, h2, h3⟩ := decB 100 t [sp] hf fuel _ _ hy
 have hag : ∀ cs, v ≠ .agg cs := fun cs e => by
  subst e
  unfold Value.okWide Cell.okWide at hv
  unfold flatS at hf
  unfold aggB at ha
  cases hu : P.underlying t with
  | none => rw [hu] at hf; cases hf
  | some u => rw [hu] at hf hv ha; cases u <;> first | (cases hf; done) | (simp at ha; done) | (simp [Cell.ok, hu] at hv; done)
 have hc : v.cells.toList = [v] := by cases v <;> first | rfl | exact absurd rfl (hag _)
 rw [hc] at h2
 have hl := h1.len
 obtain ⟨g, rfl⟩ := List.length_eq_one_iff.1 hl
 exact ⟨g, h1, h2.2 0 g v rfl rfl, by simpa [bulkR] using h3⟩
end
end Go.Proofs.YtifdeajdlhgglaaGreatDoor

/- A part of the proof, merged from several texts. -/
import Derived.Test.YtalfffamppmooaaGreatDoorSxMd
import Derived.Test.YtalfffamppmooaaGreatDoorZLaw
import Derived.Test.YtalfffamppmooaaGreatDoorProg
namespace Go.Proofs.YtalfffamppmooaaGreatDoor
open Go.RowKit
inductive Sh where
 | i (k : IntKind)
 | s
 | b
def typB : List Sh → List Value → Bool
 | [], [] => true
 | .i k :: sh, .int k' _ :: cs => decide (k = k') && typB sh cs
 | .s :: sh, .string _ :: cs => typB sh cs
 | .b :: sh, .bool _ :: cs => typB sh cs
 | _, _ => false
def eqC : Value → Value → Bool
 | .int _ a, .int _ b => a == b
 | .string a, .string b => a.toList == b.toList
 | .bool a, .bool b => a == b
 | _, _ => false
def eqCs : List Value → List Value → Bool
 | [], [] => true
 | a :: l, b :: m => eqC a b && eqCs l m
 | _, _ => false
def flatF (P : Program) (F : TypeId → Option (List Sh)) : List Field → Nat → Option (List Sh)
 | [], _ => some []
 | f :: fs, off => match f.name == "_", Nat.beq f.offset off, F f.type, flatF P F fs (off + (match F f.type with | some sh => sh.length | none => 0)) with
  | false, true, some sh, some sh' => match (P.info? f.type).map (·.size) with
   | some n => bif Nat.beq n sh.length then some (sh ++ sh') else none
   | none => none
  | _, _, _, _ => none
def flatT (P : Program) : Nat → TypeId → Option (List Sh)
 | 0, _ => none
 | d + 1, t => match P.underlying t, aggB P t with
  | some (.int k), some false => some [.i k]
  | some .string, some false => some [.s]
  | some .bool, some false => some [.b]
  | some (.struct fs), some true => bif P.stoodInHeld t then none else flatF P (flatT P d) fs.toList 0
  | _, _ => none
section
variable {P : Program}
theorem typB_cons {x : Sh} {c : Value} {sh : List Sh} {cs : List Value} (h : typB (x :: sh) (c :: cs) = true) : typB sh cs = true := by
 cases x <;> cases c <;> first
  | (cases h; done)
  | (simp only [typB, Bool.and_eq_true] at h; exact h.2)
  | exact h
theorem typB_len : ∀ {sh : List Sh} {cs : List Value}, typB sh cs = true → cs.length = sh.length
 | [], [], _ => rfl
 | [], _ :: _, h => by cases h
 | x :: _, [], h => by cases x <;> cases h
 | x :: sh, c :: cs, h => by simp [typB_len (typB_cons h)]
theorem typB_app : ∀ {sh sh' : List Sh} {cs : List Value}, typB (sh ++ sh') cs = true → typB sh (cs.take sh.length) = true ∧ typB sh' (cs.drop sh.length) = true
 | [], sh', cs, h => ⟨by simp [typB], by simpa using h⟩
 | x :: sh, sh', [], h => by cases x <;> cases h
 | x :: sh, sh', c :: cs, h => by
  have key : typB (sh ++ sh') cs = true ∧ ∀ l, typB sh l = true → typB (x :: sh) (c :: l) = true := by
   cases x <;> cases c <;> first
    | (cases h; done)
    | (simp only [List.cons_append, typB, Bool.and_eq_true] at h; exact ⟨h.2, fun l hl => by simp only [typB, Bool.and_eq_true]; exact ⟨h.1, hl⟩⟩)
    | exact ⟨h, fun l hl => hl⟩
  obtain ⟨h1, h2⟩ := typB_app key.1
  exact ⟨by simpa using key.2 _ h1, by simpa using h2⟩
theorem eqCs_app : ∀ {l m l' m' : List Value}, l.length = m.length → eqCs (l ++ l') (m ++ m') = (eqCs l m && eqCs l' m')
 | [], [], l', m', _ => by simp [eqCs]
 | a :: l, b :: m, l', m', h => by
  simp only [List.cons_append, eqCs]
  rw [eqCs_app (by simpa using h), Bool.and_assoc]
theorem eqCs_iff : ∀ {sh : List Sh} {cs ds : List Value}, typB sh cs = true → typB sh ds = true → (eqCs cs ds = true ↔ cs = ds)
 | [], cs, ds, h, h' => by
  rw [List.eq_nil_of_length_eq_zero (typB_len h), List.eq_nil_of_length_eq_zero (typB_len h')]
  simp [eqCs]
 | x :: sh, [], ds, h, h' => by cases x <;> cases h
 | x :: sh, c :: cs, [], h, h' => by cases x <;> cases h'
 | x :: sh, c :: cs, d :: ds, h, h' => by
  have key : typB sh cs = true ∧ typB sh ds = true ∧ (eqC c d = true ↔ c = d) := by
   cases x <;> cases c <;> first
    | (cases h; done)
    | (cases d <;> first
     | (cases h'; done)
     | (simp only [typB, Bool.and_eq_true, decide_eq_true_eq] at h h'
        refine ⟨h.2, h'.2, ?_⟩
        rw [← h.1, ← h'.1]
        simp [eqC])
     | (refine ⟨h, h', ?_⟩; simp [eqC, bytes_eq]))
  simp only [eqCs, Bool.and_eq_true]
  rw [key.2.2, eqCs_iff key.1 key.2.1]
  simp
theorem run_part' {ft : TypeId} {b : Bool} {n : Nat} (ha : aggB P ft = some b) (hs : (P.info? ft).map (·.size) = some n) (cs : List Value) (off : Nat) (w : World) : (part ft cs.toArray off).run P w =
  if b = true then .ok (.agg ((cs.drop off).take n).toArray) w else (match cs[off]? with | some v => .ok v w | none => .halt (.stuck "part: no such cell") w) := by
 unfold part
 have hs := run_sizeOf (P := P) hs w
 simp only [Sem.run_bind, run_isAgg ha, Result.andThen_ok]
 cases b with
 | true => simp [hs, Result.andThen]
 | false => simp; split <;> simp_all [Go.stuck]
theorem eq_flat : ∀ (d : Nat) (t : TypeId) (sh : List Sh), flatT P d t = some sh → ∀ cs ds : List Value, typB sh cs = true → typB sh ds = true → ∀ w : World,
  (aggB P t = some true → (Op.equalIn d t (.agg cs.toArray) (.agg ds.toArray)).run P w = .ok (eqCs cs ds) w) ∧ (aggB P t = some false → ∀ a b, cs = [a] → ds = [b] → (Op.equalIn d t a b).run P w = .ok (eqCs cs ds) w) ∧ (aggB P t = some true ∨ (aggB P t = some false ∧ sh.length = 1))
 | 0, t, sh, h => by cases h
 | d + 1, t, sh, h => by
  intro cs ds hc hd w
  unfold flatT at h
  split at h
  ·next k h1 h2 =>
   cases h
   refine ⟨fun e => (by rw [h2] at e; cases e), fun _ a b ea eb => ?_, .inr ⟨h2, rfl⟩⟩
   subst ea eb
   cases a <;> first | (cases hc; done) | skip
   cases b <;> first | (cases hd; done) | skip
   simp only [typB, Bool.and_eq_true, decide_eq_true_eq] at hc hd
   rw [← hc.1, ← hd.1, run_equalIn_int w d t k k _ _ h1]
   simp [eqCs, eqC]
  ·next h1 h2 =>
   cases h
   refine ⟨fun e => (by rw [h2] at e; cases e), fun _ a b ea eb => ?_, .inr ⟨h2, rfl⟩⟩
   subst ea eb
   cases a <;> first | (cases hc; done) | skip
   cases b <;> first | (cases hd; done) | skip
   rw [run_equalIn_string w d t _ _ h1]
   simp [eqCs, eqC]
  ·next h1 h2 =>
   cases h
   refine ⟨fun e => (by rw [h2] at e; cases e), fun _ a b ea eb => ?_, .inr ⟨h2, rfl⟩⟩
   subst ea eb
   cases a <;> first | (cases hc; done) | skip
   cases b <;> first | (cases hd; done) | skip
   rw [run_equalIn_bool w d t _ _ h1]
   simp [eqCs, eqC]
  ·next fs h1 h2 =>
   cases hst : P.stoodInHeld t with
   | true => rw [hst] at h; cases h
   | false =>
    rw [hst] at h
    have h : flatF P (flatT P d) fs.toList 0 = some sh := h
    refine ⟨fun _ => ?_, fun e => (by rw [h2] at e; cases e), .inl h2⟩
    have hft : P.underlying t = some (.struct (P.fieldsOf t)) := by unfold Program.fieldsOf; rw [h1]
    have hfe : P.fieldsOf t = fs := by unfold Program.fieldsOf; rw [h1]
    rw [run_equalIn_struct w d t _ _ hft hst, hfe]
    have key : ∀ (fs : List Field) (off : Nat) (sh : List Sh), flatF P (flatT P d) fs off = some sh → typB sh (cs.drop off) = true → typB sh (ds.drop off) = true → (Op.eqFields d cs.toArray ds.toArray fs).run P w = .ok (eqCs (cs.drop off) (ds.drop off)) w := fun fs => by
     induction fs with
     | nil =>
      intro off sh h hc hd
      cases h
      rw [List.eq_nil_of_length_eq_zero (typB_len hc), List.eq_nil_of_length_eq_zero (typB_len hd)]
      simp [Op.eqFields, eqCs]
     | cons f fs ih =>
      intro off sh h hc hd
      unfold flatF at h
      split at h
      ·next sh1 sh2 e1 e2 e3 e4 =>
       split at h
       ·next n e5 =>
        cases e6 : Nat.beq n sh1.length with
        | false => rw [e6] at h; cases h
        | true =>
         rw [e6] at h
         have h : some (sh1 ++ sh2) = some sh := h
         cases h
         have e6 := Nat.eq_of_beq_eq_true e6
         subst e6
         have e2 := Nat.eq_of_beq_eq_true e2
         rw [e3] at e4
         obtain ⟨c1, c2⟩ := typB_app hc
         obtain ⟨d1, d2⟩ := typB_app hd
         have hlc : ((cs.drop off).take sh1.length).length = sh1.length := typB_len c1
         have hld : ((ds.drop off).take sh1.length).length = sh1.length := typB_len d1
         obtain ⟨q1, q2, q3⟩ := eq_flat d f.type sh1 e3 _ _ c1 d1 w
         have e1 : f.name ≠ "_" := by simpa using e1
         have hrest := ih (off + sh1.length) sh2 e4 (by rw [← List.drop_drop]; exact c2) (by rw [← List.drop_drop]; exact d2)
         have hsplit : eqCs (cs.drop off) (ds.drop off) = (eqCs ((cs.drop off).take sh1.length) ((ds.drop off).take sh1.length) && eqCs (cs.drop (off + sh1.length)) (ds.drop (off + sh1.length))) := by
          rw [← List.drop_drop, ← List.drop_drop, ← eqCs_app (by rw [hlc, hld]), List.take_append_drop, List.take_append_drop]
         have fin : ∀ (b : Bool), (if (!b) = true then pure false else Op.eqFields d cs.toArray ds.toArray fs : Sem Bool).run P w = .ok (b && eqCs (cs.drop (off + sh1.length)) (ds.drop (off + sh1.length))) w := fun b => by
          cases b with
          | true => simpa using hrest
          | false => simp
         simp only [Op.eqFields, e1, ne_eq, not_false_eq_true, if_true, Sem.run_bind, e2]
         rw [hsplit, ← fin]
         rcases q3 with q3 | ⟨q3, q4⟩
         ·rw [run_part' q3 e5, if_pos rfl, Result.andThen_ok, run_part' q3 e5, if_pos rfl, Result.andThen_ok, q1 q3, Result.andThen_ok]
         ·obtain ⟨a, ha⟩ : ∃ a, (cs.drop off).take sh1.length = [a] := List.length_eq_one_iff.1 (by rw [hlc, q4])
          obtain ⟨b, hb⟩ : ∃ b, (ds.drop off).take sh1.length = [b] := List.length_eq_one_iff.1 (by rw [hld, q4])
          have get : ∀ {l : List Value} {a : Value}, (l.drop off).take sh1.length = [a] → l[off]? = some a := fun {l a} h => by
           have := congrArg (·[0]?) h
           rw [List.getElem?_take, List.getElem?_drop, if_pos (by omega)] at this
           simpa using this
          rw [run_part' q3 e5, if_neg (by simp), get ha]
          simp only [Result.andThen_ok]
          rw [run_part' q3 e5, if_neg (by simp), get hb]
          simp only [Result.andThen_ok]
          rw [q2 q3 a b ha hb, Result.andThen_ok]
       ·cases h
      ·cases h
    simpa using key fs.toList 0 sh h (by simpa using hc) (by simpa using hd)
  ·cases h
theorem EvEq.flat {t : TypeId} {l m : List G} {K : Bool → Prop} (sh : List Sh) (cs ds : List Value) (hf : flatT P 10000 t = some sh) (hg : P.eqGuardType P.depth t = false) (ha : aggB P t = some true) (hl : Cells l cs) (hm : Cells m ds) (hc : typB sh cs = true) (hd : typB sh ds = true) (h1 : cs = ds → K true) (h2 : cs ≠ ds → K false) : EvEq P t l m K := by
 refine ⟨cs, ds, eqCs cs ds, hl, hm, hg, fun w => (eq_flat 10000 t sh hf cs ds hc hd w).1 ha, ?_⟩
 cases hb : eqCs cs ds with
 | true => exact h1 ((eqCs_iff hc hd).1 hb)
 | false => exact h2 fun e => by rw [(eqCs_iff hc hd).2 e] at hb; cases hb
end
end Go.Proofs.YtalfffamppmooaaGreatDoor
namespace Go.Proofs.YtalfffamppmooaaGreatDoor
open Go.ChangeShapes Go.WideShapes Go.ChangeAt Go.RowKit
inductive Sp where
 | i (k : IntKind)
 | s
 | b
 | sl (e : List Sp)
def flatSF (P : Program) (F : TypeId → Option (List Sp)) : List Field → Nat → Option (List Sp)
 | [], _ => some []
 | f :: fs, off => match Nat.beq f.offset off, F f.type with
  | true, some sh => match Nat.beq (P.cellsOf f.type) sh.length, flatSF P F fs (off + sh.length) with
   | true, some sh' => some (sh ++ sh')
   | _, _ => none
  | _, _ => none
def repS : Nat → List Sp → List Sp
 | 0, _ => []
 | n + 1, l => l ++ repS n l
def flatS (P : Program) : Nat → TypeId → Option (List Sp)
 | 0, _ => none
 | d + 1, t => match P.underlying t with
  | some (.int k) => some [.i k]
  | some .string => some [.s]
  | some .bool => some [.b]
  | some (.slice e) => match flatS P d e with
   | some sh => bif Nat.beq (P.cellsOf e) sh.length && Nat.blt 0 sh.length then some [.sl sh] else none
   | none => none
  | some (.struct fs) => match flatSF P (flatS P d) fs.toList 0 with
   | some sh => bif Nat.beq (P.cellsOf t) sh.length then some sh else none
   | none => none
  | some (.array n e) => match flatS P d e with
   | some sh => bif Nat.beq (P.cellsOf e) sh.length && Nat.beq (P.cellsOf t) (n * sh.length) then some (repS n sh) else none
   | none => none
  | _ => none
inductive TyL : List Sp → List G → Prop
 | nil : TyL [] []
 | i {k : IntKind} {l : List Sp} {gs : List G} (n : Int) (hn : k.min ≤ n ∧ n ≤ k.max) (h : TyL l gs) : TyL (.i k :: l) (.v (.int k n) :: gs)
 | s {l : List Sp} {gs : List G} (s : ByteArray) (hs : s.size ≤ maxLen) (h : TyL l gs) : TyL (.s :: l) (.v (.string s) :: gs)
 | b {l : List Sp} {gs : List G} (b : Bool) (h : TyL l gs) : TyL (.b :: l) (.v (.bool b) :: gs)
 | sl {e l : List Sp} {gs : List G} (rows : List (List G)) (hl : rows.length ≤ maxLen) (hr : ∀ r ∈ rows, TyL e r) (h : TyL l gs) : TyL (.sl e :: l) (.sl rows :: gs)
theorem TyL.nil_inv {gs : List G} (h : TyL [] gs) : gs = [] := by cases h; rfl
theorem TyL.s_inv {l : List Sp} {gs : List G} (h : TyL (.s :: l) gs) : ∃ s gs', gs = .v (.string s) :: gs' ∧ s.size ≤ maxLen ∧ TyL l gs' := by cases h with | s n hn h => exact ⟨n, _, rfl, hn, h⟩
theorem TyL.sl_inv {e l : List Sp} {gs : List G} (h : TyL (.sl e :: l) gs) : ∃ rows gs', gs = .sl rows :: gs' ∧ rows.length ≤ maxLen ∧ (∀ r ∈ rows, TyL e r) ∧ TyL l gs' := by cases h with | sl n h1 h2 h => exact ⟨n, _, rfl, h1, h2, h⟩
theorem TyL.app {l m : List Sp} {gs hs : List G} (h : TyL l gs) (h' : TyL m hs) : TyL (l ++ m) (gs ++ hs) := by
 induction h with
 | nil => exact h'
 | i n hn _ ih => exact .i n hn ih
 | s n hn _ ih => exact .s n hn ih
 | b n _ ih => exact .b n ih
 | sl n h1 h2 _ _ ih => exact .sl n h1 h2 ih
theorem TyL.len {l : List Sp} {gs : List G} (h : TyL l gs) : gs.length = l.length := by
 induction h with
 | nil => rfl
 | i _ _ _ ih => simp [ih]
 | s _ _ _ ih => simp [ih]
 | b _ _ ih => simp [ih]
 | sl _ _ _ _ _ ih => simp [ih]
theorem rows_of {α : Type} {f : α → List G} {Q : α → Prop} {rows : List (List G)} (h : ∀ r ∈ rows, ∃ x, r = f x ∧ Q x) : ∃ l : List α, rows = l.map f ∧ ∀ x ∈ l, Q x := by
 induction rows with
 | nil => exact ⟨[], rfl, by simp⟩
 | cons r rows ih =>
  obtain ⟨l, h1, h2⟩ := ih fun r hr => h r (by simp [hr])
  obtain ⟨x, rfl, hx⟩ := h r (by simp)
  exact ⟨x :: l, by simp [h1], fun y hy => by
   rcases List.mem_cons.1 hy with rfl | hy
   ·exact hx
   ·exact h2 y hy⟩
def immW (W : World) : Imm := fun b o => W.cell? ⟨b, o, none⟩
theorem immW_mem (W : World) : Mem (immW W) W := fun _ _ _ h => h
section
variable {P : Program} {W : World} {H : Type} {enc : TypeId × Value → H}
theorem wf_rng {k : IntKind} {n : Int} (h : (Lit.int k n).wf = true) : k.min ≤ n ∧ n ≤ k.max := by
 have h2 : (decide (k.min ≤ n) && decide (n ≤ k.max)) = true := h
 simp only [Bool.and_eq_true, decide_eq_true_eq] at h2
 exact h2
theorem pw_take_drop {Q : G → Value → Prop} {gs hs : List G} {cs : List Value} {n : Nat} (h1 : PW Q gs (cs.take n)) (h2 : PW Q hs (cs.drop n)) : PW Q (gs ++ hs) cs := by
 have := h1.append h2
 rwa [List.take_append_drop] at this
theorem given_v {F : FuncId} {gs : List G} (h : FnV P F gs fun q => q = .v (.bool true)) {vs : List Value} (hp : PW (VRep (immW W)) gs vs) : Calls P F vs.toArray W fun e W' => e = .returned (.bool true) ∧ Below W.heap.size W W' :=
 (h.2 (immW W) W vs (immW_mem W) hp).mono fun e w' ⟨x, g, I', he, hq, _, hx, _, _, hb⟩ => by
  subst hq
  cases (show VRep I' (.v (.bool true)) x from hx)
  exact ⟨he, hb⟩
end
end Go.Proofs.YtalfffamppmooaaGreatDoor
namespace Go.Proofs.YtalfffamppmooaaGreatDoor
open Go.RowKit
def gB (b : Bool) : G := match b with
 | true => .tt
 | false => .ff
def gSt (s : ByteArray) : List G := [.v (.string s)]
theorem eqI {a b : Int} (h : a = b) : (some (G.v (.int .i64 a)) : Option G) = some (G.v (.int .i64 b)) := by rw [h]
theorem eqN {a b : Nat} (h : b = a) : (some (G.v (.int .i64 a)) : Option G) = some (G.v (.int .i64 b)) := by rw [h]
theorem eqR {a b : List (List G)} {e sz : Nat} (h : a = b) : (some (R.slc a e sz) : Option R) = some (R.slc b e sz) := by rw [h]
theorem take_more {α : Type} {l : List α} {i : Nat} {x : α} (h : l[i]? = some x) : l.take (i + 1) = l.take i ++ [x] := by
 have hi := (List.getElem?_eq_some_iff.1 h)
 rw [List.take_succ_eq_append_getElem hi.1, hi.2]
theorem lt_of_at {α : Type} {l : List α} {i : Nat} {x : α} (h : l[i]? = some x) : i < l.length := (List.getElem?_eq_some_iff.1 h).1
theorem find_at {α : Type} {p : α → Bool} {l : List α} {i : Nat} {x : α} (h : l[i]? = some x) (hno : ∀ y ∈ l.take i, p y = false) (hp : p x = true) : l.find? p = some x := by
 rw [List.find?_eq_some_iff_getElem]
 obtain ⟨hi, e⟩ := List.getElem?_eq_some_iff.1 h
 refine ⟨hp, i, hi, e, fun j hj => ?_⟩
 have := hno l[j] (List.mem_iff_getElem.2 ⟨j, by rw [List.length_take]; omega, by simp⟩)
 rw [this]; rfl
theorem take_no {α : Type} {p : α → Prop} {l : List α} {i : Nat} {x : α} (h : l[i]? = some x) (hno : ∀ y ∈ l.take i, ¬ p y) (hp : ¬ p x) : ∀ y ∈ l.take (i + 1), ¬ p y := fun y hy => by
 rw [take_more h] at hy
 rcases List.mem_append.1 hy with hy | hy
 ·exact hno y hy
 ·rw [List.mem_singleton.1 hy]; exact hp
theorem take_all {α : Type} {p : α → Prop} {l : List α} {i : Nat} (h : ¬ i < l.length) (hno : ∀ y ∈ l.take i, p y) : ∀ y ∈ l, p y := fun y hy => hno y (by rw [List.take_of_length_le (by omega)]; exact hy)
theorem foldl_take {α β : Type} (f : β → α → β) (b : β) {l : List α} {i : Nat} {x : α} (h : l[i]? = some x) : (l.take (i + 1)).foldl f b = f ((l.take i).foldl f b) x := by
 rw [take_more h, List.foldl_append]; rfl
end Go.Proofs.YtalfffamppmooaaGreatDoor
namespace Go.Proofs.YtalfffamppmooaaGreatDoor
open Go.RowKit
theorem VR.res {I : Imm} {V : Va} {g : G} {x : Value} (h : VR I g x) : PRes I V g x := by
 cases g with
 | tup l => obtain ⟨cs, e, hp⟩ := h; exact ⟨cs, e, hp.mono fun _ _ h => .of_v h⟩
 | oag l => cases (show VRep I (.oag l) x from h)
 | _ => exact PRep.of_v (V := V) h
def Imm.new (I : Imm) (w w' : World) : Imm := fun b o => if w.heap.size ≤ b then w'.cell? ⟨b, o, none⟩ else I b o
theorem Imm.new_le {I : Imm} {w w' : World} (hM : Mem I w) : I.le (I.new w w') := fun b o x hx => by
 unfold Imm.new
 rw [if_neg (by have := hM.lt hx; omega)]
 exact hx
theorem Imm.new_old {I : Imm} {w w' : World} {b o : Nat} (hb : b < w.heap.size) : I.new w w' b o = I b o := if_neg (by omega)
theorem Imm.new_mem {I : Imm} {w w' : World} (hM : Mem I w) (hb : Below w.heap.size w w') : Mem (I.new w w') w' := fun b o x hx => by
 unfold Imm.new at hx
 split at hx
 ·exact hx
 ·exact (hM.keep fun b o x hx => hb.block b (hM.lt hx)) b o x hx
theorem vrep_v {I : Imm} {z x : Value} (h : VRep I (.v z) x) : x = z := by cases h; rfl
abbrev gI (n : Int) : G := .v (.int .i64 n)
abbrev gS (s : ByteArray) : G := .v (.string s)
theorem vr_tup2 {I : Imm} {a b : G} {x y : Value} (h : VRep I a x) (h' : VRep I b y) : VR I (.tup [a, b]) (.tuple #[x, y]) := ⟨[x, y], rfl, .cons h (.cons h' .nil)⟩
theorem vrep_new {α : Type} {I : Imm} {w w' : World} {sz c B : Nat} {f : α → List G} {fv : α → List Value} {l : List α} {A : Option Addr} (hrd : Rd w' B sz fv A l) (hn : ∀ a, A = some a → w.heap.size ≤ a.block) (hs : ∀ a, A = some a → a = ⟨a.block, 0, none⟩) (hc : l.length ≤ c) (hA : A = none → c = 0) (hz : ∀ x, (fv x).length = sz) (hf : ∀ x, PW (VRep (I.new w w')) (f x) (fv x)) : VRep (I.new w w') (.sl (l.map f)) (.slice A l.length c) := by
 have key := VRep.sl (I := I.new w w') (l.map f) A c sz (fun i j => ((l[i]?).bind fun x => (fv x)[j]?).getD undef) (by simpa using hc) hA (fun r hr => by obtain ⟨x, -, rfl⟩ := List.mem_map.1 hr; rw [(hf x).1, hz]) (fun i r hr => ?_) (fun i r j g hr hg => ?_)
 ·simpa using key
 ·rw [List.getElem?_map] at hr
  obtain ⟨x, h1, -⟩ := Option.map_eq_some_iff.1 hr
  obtain ⟨a, rfl, -, hcell⟩ := hrd i x h1
  refine ⟨a.block, 0, congrArg some (hs a rfl), fun j hj => ?_⟩
  have hj' : j < (fv x).length := by rw [hz]; exact hj
  have h2 := hcell j _ (List.getElem?_eq_getElem hj')
  unfold Imm.new
  rw [if_pos (hn a rfl), h1]
  simp only [Option.bind_some, List.getElem?_eq_getElem hj', Option.getD_some]
  rw [← h2]
  have e := hs a rfl
  generalize a.block = b at e
  subst e
  rw [add_off, add_off, Nat.zero_add]
 ·rw [List.getElem?_map] at hr
  obtain ⟨x, h1, rfl⟩ := Option.map_eq_some_iff.1 hr
  obtain ⟨u, h2, h3⟩ := (hf x).get hg
  rw [h1]
  simp only [Option.bind_some, h2, Option.getD_some]
  exact h3
theorem jn {T G : Prop} (f : T → G) (x : T) : G := f x
def okP : G → Bool
 | .v _ | .agg _ | .sl _ | .ptr _ _ | .osl _ | .mp _ | .clo _ _ _ => true
 | _ => false
theorem prep_of_t {I : Imm} {V : Va} {g : G} {x : Value} (h : okP g = true) (ht : TRep I V g x) : PRep I V g x := by cases g <;> first | exact ht | cases h
theorem fno_lift {P : Program} {f : FuncId} {gs gs0 : List G} {rs rs0 : List R} {roots : List Nat} {Q Q0 : G → List R → Prop} (hF : FnO P f gs0 rs0 Q0) (ho : Lent rs gs (objs rs0 0) rs0.length gs0 roots) (hg : allB okP gs0 = true)
  (hend : ∀ g rs', Q0 g rs' → ∃ its g', EndK roots (objs rs' 0) rs'.length g Q its g') : FnO P f gs rs Q :=
 ⟨hF.1, fun I V w vs hH hVn hp => by
  obtain ⟨V2, h2n, hH2, hp2, hF2, hroot⟩ := ho.run I V w vs hH hVn hp
  refine (hF.2 I V2 w vs hH2 h2n ⟨hp2.1, fun j g u h1 h2 => prep_of_t (allB_mem hg g (List.mem_of_getElem? h1)) (hp2.2 j g u h1 h2)⟩).mono fun e w' ⟨x, g, rs', I', V', he, hq, hn', hH', hx, hf', hle⟩ => ?_
  obtain ⟨its, g', hE⟩ := hend g rs' hq
  rw [← hn'] at hE
  obtain ⟨V4, k1, k2, k3, k4, k5, k6⟩ := close_ok hE hH' hx V.s
  have hfro := hF2.trans hf'
  refine ⟨x, g', its.map It.res, I', V4, he, hE.post, by simpa using k1, k2, k3, ⟨hfro.os, hfro.tape, hfro.output, hfro.size, hfro.blk, hfro.mono, fun i r b hi hb hlt => ?_⟩, ?_, fun i hi => ⟨?_, k6 i (by rw [ho.len]; omega)⟩⟩
  ·obtain ⟨k, r', h1, h2⟩ := k4 i b hb
   exact hfro.foot k r' b h1 h2 hlt
  ·rw [k1, hVn, ← ho.len]
   obtain ⟨l, hl⟩ := hE.rts
   have := congrArg List.length hl
   simp at this
   omega
  ·have hi' : i < roots.length := by rw [ho.len]; omega
   have hr := List.getElem?_eq_getElem hi'
   obtain ⟨h1, h2⟩ := hroot i _ hr
   rw [(k5 i _ hr).1, (hle.2 _ (by omega)).1, h1]⟩
end Go.Proofs.YtalfffamppmooaaGreatDoor
namespace Go.Proofs.YtalfffamppmooaaGreatDoor
open Go.RowKit
def flat1 : G → Bool
 | .v (.int _ _) | .v (.bool _) | .v (.string _) => true
 | _ => false
def flatG : G → Bool
 | .tup l => allB flat1 l
 | g => flat1 g
def plainG : G → Bool
 | .v _ | .agg _ | .sl _ => true
 | _ => false
theorem vrep_flat {I I' : Imm} {g : G} {x : Value} (h : flat1 g = true) (hx : VRep I g x) : VRep I' g x := by
 cases g with
 | v u => have := trep_v (V := ⟨0, fun _ => 0, fun _ => undef, fun _ _ => False⟩) (show TRep I _ (.v u) x from hx); subst this; exact .v _
 | _ => cases h
theorem FnV.peek {P : Program} {f : FuncId} {gs : List G} {rows : List (List G)} {e sz : Nat} {Q : G → Prop} (h : FnV P f (.sl rows :: gs) Q) (hg : allB plainG gs = true) (hq : ∀ g, Q g → flatG g = true) : FnO P f (.osl 0 :: gs) [.slc rows e sz] fun g rs => Q g ∧ rs = [.slc rows e sz] :=
 ⟨h.1, fun I V w vs hH hn hp => by
  obtain ⟨I2, hL, hv, -⟩ := later_froz (k := 0) (rows := rows) (e := e) (sz := sz) hH rfl
  have hp2 : PW (VRep I2) (.sl rows :: gs) vs := by
   refine ⟨hp.1, fun j g u h1 h2 => ?_⟩
   cases j with
   | zero =>
    obtain rfl : G.sl rows = g := by simpa using h1
    have h3 := hp.2 0 (.osl 0) u rfl h2
    have h3 : u = V.s 0 := h3.2
    rw [h3]; exact hv
   | succ j =>
    have h3 := hp.2 (j + 1) g u h1 h2
    have h4 := allB_mem hg g (List.mem_of_getElem? h1)
    have h5 : VRep I g u := by
     cases g <;> first
      | exact h3
      | cases h4
    exact h5.mono hL.fro.mono
  refine (h.2 I2 w vs hL.has.mem hp2).mono fun e' w' ⟨x, g, I3, he, hq', hM, hx, hle, hold, hb⟩ => ?_
  refine ⟨x, g, _, I, V, he, ⟨hq', rfl⟩, hn, hH.below hb, ?_, ⟨hb.os, hb.tape, hb.output, hb.size, fun b hlt _ => ⟨hb.block b hlt, fun _ => rfl⟩, fun _ _ _ h => h, fun k r b h1 h2 _ => ⟨k, r, h1, h2⟩⟩, .refl _⟩
  have hfl := hq g hq'
  cases g with
  | tup l =>
   obtain ⟨cs, e1, hp⟩ := hx
   refine ⟨cs, e1, hp.1, fun j g u h1 h2 => ?_⟩
   have h4 := allB_mem (p := flat1) (l := l) hfl g (List.mem_of_getElem? h1)
   have h5 := vrep_flat (I' := I) h4 (hp.2 j g u h1 h2)
   exact .of_v h5
  | v u => exact vrep_flat (I' := I) hfl hx
  | _ => cases hfl⟩
end Go.Proofs.YtalfffamppmooaaGreatDoor
namespace Go.Proofs.YtalfffamppmooaaGreatDoor
set_option maxRecDepth 100000 in
def tab : List (Nat × TI) := [
 (1, ⟨false, [.v (.nilFunc)], none, [], false, none, .fn⟩),
 (2, ⟨false, [.v (.int .i64 0)], none, [], false, some .i64, .no⟩),
 (3, ⟨false, [.v (.int .i64 0)], none, [], false, some .i64, .no⟩),
 (4, ⟨false, [.ff], none, [], false, none, .bool⟩),
 (5, ⟨false, [.v (.int .u8 0)], none, [], false, some .u8, .no⟩),
 (6, ⟨false, [.v (.int .u8 0)], none, [], false, some .u8, .no⟩),
 (7, ⟨true, [.v (.int .i64 0), .v (.int .i64 0), .ff, .v (.int .u8 0)], none, [(2, 0), (3, 1), (4, 2), (6, 3)], false, none, .no⟩),
 (8, ⟨true, [.v (.int .i64 0), .v (.int .i64 0), .ff, .v (.int .u8 0)], none, [(2, 0), (3, 1), (4, 2), (6, 3)], false, none, .no⟩),
 (9, ⟨false, [.v (.string ⟨#[]⟩)], none, [], true, none, .no⟩),
 (10, ⟨false, [.v (.string ⟨#[]⟩)], none, [], true, none, .no⟩),
 (11, ⟨false, [.v (.string ⟨#[]⟩)], none, [], true, none, .no⟩),
 (12, ⟨false, [.v (.int .u64 0)], none, [], false, some .u64, .no⟩),
 (13, ⟨true, [.v (.string ⟨#[]⟩), .v (.int .u64 0)], none, [(9, 0), (12, 1)], false, none, .no⟩),
 (14, ⟨true, [.v (.string ⟨#[]⟩), .v (.int .u64 0)], none, [(9, 0), (12, 1)], false, none, .no⟩),
 (15, ⟨false, [.v (.pointer none)], none, [], false, none, .ptr⟩),
 (16, ⟨false, [.v (.pointer none)], none, [], false, none, .ptr⟩),
 (17, ⟨false, [.v (.pointer none)], none, [], false, none, .ptr⟩),
 (18, ⟨true, [.v (.pointer none)], none, [(17, 0)], false, none, .no⟩),
 (19, ⟨true, [.v (.pointer none)], none, [(17, 0)], false, none, .no⟩),
 (20, ⟨false, [.v (.nilIface)], none, [], false, none, .no⟩),
 (21, ⟨false, [.v (.int .i32 0)], none, [], false, some .i32, .no⟩),
 (22, ⟨false, [.nl], some (55, 7), [], false, none, .no⟩),
 (23, ⟨false, [.v (.pointer none)], none, [], false, none, .ptr⟩),
 (24, ⟨false, [.v (.nilFunc)], none, [], false, none, .fn⟩),
 (25, ⟨false, [.v (.nilFunc)], none, [], false, none, .fn⟩),
 (26, ⟨false, [.v (.nilFunc)], none, [], false, none, .fn⟩),
 (27, ⟨false, [.nl], some (154, 9), [], false, none, .no⟩),
 (28, ⟨false, [.nl], some (68, 3), [], false, none, .no⟩),
 (29, ⟨false, [.nl], some (105, 5), [], false, none, .no⟩),
 (30, ⟨true, [.v (.int .i64 0), .nl, .nl, .nl], none, [(3, 0), (27, 1), (28, 2), (29, 3)], false, none, .no⟩),
 (31, ⟨true, [.v (.int .i64 0), .nl, .nl, .nl], none, [(3, 0), (27, 1), (28, 2), (29, 3)], false, none, .no⟩),
 (33, ⟨false, [.v (.nilFunc)], none, [], false, none, .fn⟩),
 (34, ⟨false, [.v (.nilFunc)], none, [], false, none, .fn⟩),
 (35, ⟨false, [.v (.nilFunc)], none, [], false, none, .fn⟩),
 (36, ⟨false, [.nl], some (65, 6), [], false, none, .no⟩),
 (37, ⟨true, [.v (.int .i64 0), .v (.int .i64 0), .v (.int .i64 0), .v (.int .i64 0), .v (.int .i64 0), .nl], none, [(3, 0), (3, 1), (3, 2), (3, 3), (3, 4), (36, 5)], false, none, .no⟩),
 (38, ⟨true, [.v (.int .i64 0), .v (.int .i64 0), .v (.int .i64 0), .v (.int .i64 0), .v (.int .i64 0), .nl], none, [(3, 0), (3, 1), (3, 2), (3, 3), (3, 4), (36, 5)], false, none, .no⟩),
 (39, ⟨false, [.v (.int .i64 0)], none, [], false, some .i64, .no⟩),
 (40, ⟨false, [.nl], some (9, 1), [], false, none, .no⟩),
 (41, ⟨true, [.v (.int .i64 0), .v (.int .i64 0), .nl], none, [(39, 0), (3, 1), (40, 2)], false, none, .no⟩),
 (42, ⟨true, [.v (.int .i64 0), .v (.int .i64 0), .nl], none, [(39, 0), (3, 1), (40, 2)], false, none, .no⟩),
 (43, ⟨false, [.nl], some (169, 3), [], false, none, .no⟩),
 (45, ⟨false, [.v (.nilFunc)], none, [], false, none, .fn⟩),
 (46, ⟨true, [.v (.int .i64 0), .v (.int .i64 0), .v (.int .i64 0), .v (.int .i64 0), .v (.int .i64 0), .nl], none, [(3, 0), (3, 1), (3, 2), (3, 3), (3, 4), (36, 5)], false, none, .no⟩),
 (47, ⟨false, [.v (.nilFunc)], none, [], false, none, .fn⟩),
 (48, ⟨false, [.v (.nilFunc)], none, [], false, none, .fn⟩),
 (49, ⟨false, [.v (.nilFunc)], none, [], false, none, .fn⟩),
 (50, ⟨true, [.v (.int .i64 0), .v (.int .i64 0), .nl], none, [(39, 0), (3, 1), (40, 2)], false, none, .no⟩),
 (51, ⟨false, [.v (.nilFunc)], none, [], false, none, .fn⟩),
 (52, ⟨false, [.v (.nilFunc)], none, [], false, none, .fn⟩),
 (53, ⟨false, [.v (.nilFunc)], none, [], false, none, .fn⟩),
 (54, ⟨true, [.v (.int .i64 0), .v (.int .i64 0), .v (.int .i64 0), .v (.int .i64 0), .v (.int .i64 0), .v (.int .i64 0), .nl], none, [(3, 0), (38, 1)], false, none, .no⟩),
 (55, ⟨true, [.v (.int .i64 0), .v (.int .i64 0), .v (.int .i64 0), .v (.int .i64 0), .v (.int .i64 0), .v (.int .i64 0), .nl], none, [(3, 0), (38, 1)], false, none, .no⟩),
 (56, ⟨false, [.v (.nilFunc)], none, [], false, none, .fn⟩),
 (57, ⟨false, [.v (.nilFunc)], none, [], false, none, .fn⟩),
 (58, ⟨false, [.v (.pointer none)], none, [], false, none, .ptr⟩),
 (59, ⟨false, [.v (.nilFunc)], none, [], false, none, .fn⟩),
 (60, ⟨false, [.v (.pointer none)], none, [], false, none, .ptr⟩),
 (61, ⟨false, [.v (.nilFunc)], none, [], false, none, .fn⟩),
 (63, ⟨false, [.v (.nilFunc)], none, [], false, none, .fn⟩),
 (64, ⟨true, [.v (.int .i64 0), .v (.string ⟨#[]⟩), .v (.string ⟨#[]⟩), .v (.int .i64 0), .ff, .ff], none, [(3, 0), (9, 1), (9, 2), (3, 3), (4, 4), (4, 5)], false, none, .no⟩),
 (65, ⟨true, [.v (.int .i64 0), .v (.string ⟨#[]⟩), .v (.string ⟨#[]⟩), .v (.int .i64 0), .ff, .ff], none, [(3, 0), (9, 1), (9, 2), (3, 3), (4, 4), (4, 5)], false, none, .no⟩),
 (66, ⟨false, [.v (.nilFunc)], none, [], false, none, .fn⟩),
 (67, ⟨true, [.v (.int .i64 0), .v (.int .i64 0), .v (.int .i64 0)], none, [(3, 0), (3, 1), (3, 2)], false, none, .no⟩),
 (68, ⟨true, [.v (.int .i64 0), .v (.int .i64 0), .v (.int .i64 0)], none, [(3, 0), (3, 1), (3, 2)], false, none, .no⟩),
 (70, ⟨false, [.v (.nilFunc)], none, [], false, none, .fn⟩),
 (71, ⟨false, [.v (.nilFunc)], none, [], false, none, .fn⟩),
 (72, ⟨false, [.nl], some (5, 1), [], false, none, .fn⟩),
 (74, ⟨false, [.v (.nilFunc)], none, [], false, none, .fn⟩),
 (75, ⟨false, [.v (.nilFunc)], none, [], false, none, .fn⟩),
 (77, ⟨false, [.v (.nilFunc)], none, [], false, none, .fn⟩),
 (78, ⟨false, [.v (.nilFunc)], none, [], false, none, .fn⟩),
 (79, ⟨false, [.v (.nilFunc)], none, [], false, none, .fn⟩),
 (81, ⟨false, [.v (.nilFunc)], none, [], false, none, .fn⟩),
 (82, ⟨false, [.v (.nilFunc)], none, [], false, none, .fn⟩),
 (84, ⟨false, [.v (.nilFunc)], none, [], false, none, .fn⟩),
 (85, ⟨false, [.v (.nilFunc)], none, [], false, none, .fn⟩),
 (86, ⟨false, [.v (.nilFunc)], none, [], false, none, .fn⟩),
 (88, ⟨false, [.v (.nilFunc)], none, [], false, none, .fn⟩),
 (89, ⟨false, [.v (.nilFunc)], none, [], false, none, .fn⟩),
 (90, ⟨false, [.v (.map none)], none, [], false, none, .map false 112⟩),
 (91, ⟨true, [.v (.int .i64 0), .v (.pointer none), .v (.pointer none), .v (.map none)], none, [(3, 0), (58, 1), (60, 2), (90, 3)], false, none, .no⟩),
 (92, ⟨true, [.v (.int .i64 0), .v (.pointer none), .v (.pointer none), .v (.map none)], none, [(3, 0), (58, 1), (60, 2), (90, 3)], false, none, .no⟩),
 (93, ⟨false, [.v (.nilFunc)], none, [], false, none, .fn⟩),
 (94, ⟨false, [.v (.nilFunc)], none, [], false, none, .fn⟩),
 (95, ⟨true, [.v (.int .i64 0), .v (.int .i64 0), .v (.int .i64 0)], none, [(3, 0), (3, 1), (3, 2)], false, none, .no⟩),
 (97, ⟨false, [.v (.nilFunc)], none, [], false, none, .fn⟩),
 (98, ⟨false, [.v (.nilFunc)], none, [], false, none, .fn⟩),
 (99, ⟨false, [.v (.nilFunc)], none, [], false, none, .fn⟩),
 (100, ⟨false, [.v (.nilFunc)], none, [], false, none, .fn⟩),
 (101, ⟨false, [.v (.nilFunc)], none, [], false, none, .fn⟩),
 (102, ⟨false, [.nl], some (95, 3), [], false, none, .fn⟩),
 (103, ⟨false, [.v (.nilFunc)], none, [], false, none, .fn⟩),
 (104, ⟨true, [.v (.int .i64 0), .v (.int .i64 0), .v (.int .i64 0), .v (.int .i64 0), .nl], none, [(3, 0), (3, 1), (50, 2)], false, none, .no⟩),
 (105, ⟨true, [.v (.int .i64 0), .v (.int .i64 0), .v (.int .i64 0), .v (.int .i64 0), .nl], none, [(3, 0), (3, 1), (50, 2)], false, none, .no⟩),
 (106, ⟨false, [.v (.nilFunc)], none, [], false, none, .fn⟩),
 (107, ⟨false, [.v (.nilFunc)], none, [], false, none, .fn⟩),
 (108, ⟨false, [.v (.nilFunc)], none, [], false, none, .fn⟩),
 (109, ⟨false, [.v (.nilFunc)], none, [], false, none, .fn⟩),
 (110, ⟨false, [.v (.nilFunc)], none, [], false, none, .fn⟩),
 (111, ⟨true, [.v (.int .i64 0), .v (.int .i64 0), .v (.int .i64 0), .nl], none, [(3, 0), (42, 1)], false, none, .no⟩),
 (112, ⟨true, [.v (.int .i64 0), .v (.int .i64 0), .v (.int .i64 0), .nl], none, [(3, 0), (42, 1)], false, none, .no⟩),
 (113, ⟨false, [.v (.nilFunc)], none, [], false, none, .fn⟩),
 (115, ⟨false, [.v (.nilFunc)], none, [], false, none, .fn⟩),
 (116, ⟨true, [.v (.int .i64 0), .v (.string ⟨#[]⟩), .v (.string ⟨#[]⟩), .v (.int .i64 0), .ff, .ff, .v (.int .i64 0), .v (.int .i64 0)], none, [(65, 0), (3, 6), (3, 7)], false, none, .no⟩),
 (117, ⟨true, [.v (.int .i64 0), .v (.string ⟨#[]⟩), .v (.string ⟨#[]⟩), .v (.int .i64 0), .ff, .ff, .v (.int .i64 0), .v (.int .i64 0)], none, [(65, 0), (3, 6), (3, 7)], false, none, .no⟩),
 (118, ⟨false, [.v (.map none)], none, [], false, none, .map true 154⟩),
 (119, ⟨true, [.v (.map none)], none, [(118, 0)], false, none, .no⟩),
 (120, ⟨true, [.v (.map none)], none, [(118, 0)], false, none, .no⟩),
 (122, ⟨false, [.v (.nilFunc)], none, [], false, none, .fn⟩),
 (123, ⟨true, [.nl], none, [(102, 0)], false, none, .no⟩),
 (124, ⟨true, [.nl], none, [(102, 0)], false, none, .no⟩),
 (125, ⟨false, [.v (.nilFunc)], none, [], false, none, .fn⟩),
 (126, ⟨false, [.v (.nilFunc)], none, [], false, none, .fn⟩),
 (127, ⟨true, [.v (.int .i64 0), .v (.int .i64 0), .v (.string ⟨#[]⟩)], none, [(3, 0), (3, 1), (9, 2)], false, none, .no⟩),
 (128, ⟨true, [.v (.int .i64 0), .v (.int .i64 0), .v (.string ⟨#[]⟩)], none, [(3, 0), (3, 1), (9, 2)], false, none, .no⟩),
 (129, ⟨false, [.v (.nilFunc)], none, [], false, none, .fn⟩),
 (130, ⟨false, [.nl], some (128, 3), [], false, none, .no⟩),
 (131, ⟨false, [.v (.nilFunc)], none, [], false, none, .fn⟩),
 (132, ⟨false, [.v (.nilFunc)], none, [], false, none, .fn⟩),
 (133, ⟨false, [.v (.nilFunc)], none, [], false, none, .fn⟩),
 (134, ⟨false, [.v (.nilFunc)], none, [], false, none, .fn⟩),
 (135, ⟨false, [.v (.nilFunc)], none, [], false, none, .fn⟩),
 (136, ⟨false, [.nl], some (3, 1), [], false, none, .no⟩),
 (138, ⟨false, [.v (.nilFunc)], none, [], false, none, .fn⟩),
 (140, ⟨false, [.v (.nilFunc)], none, [], false, none, .fn⟩),
 (142, ⟨false, [.v (.nilFunc)], none, [], false, none, .fn⟩),
 (143, ⟨false, [.v (.pointer none)], none, [], false, none, .ptr⟩),
 (144, ⟨true, [.v (.pointer none), .nl, .nl], none, [(23, 0), (27, 1), (102, 2)], false, none, .no⟩),
 (145, ⟨true, [.v (.pointer none), .nl, .nl], none, [(23, 0), (27, 1), (102, 2)], false, none, .no⟩),
 (146, ⟨false, [.v (.nilFunc)], none, [], false, none, .fn⟩),
 (148, ⟨false, [.v (.nilFunc)], none, [], false, none, .fn⟩),
 (150, ⟨false, [.v (.nilFunc)], none, [], false, none, .fn⟩),
 (151, ⟨true, [.v (.int .i64 0), .v (.int .i64 0), .v (.int .i64 0), .v (.int .i64 0), .v (.int .i64 0), .v (.int .i64 0)], none, [(3, 0), (3, 1), (3, 2), (3, 3), (3, 4), (3, 5)], false, none, .no⟩),
 (152, ⟨true, [.v (.int .i64 0), .v (.int .i64 0), .v (.int .i64 0), .v (.int .i64 0), .v (.int .i64 0), .v (.int .i64 0)], none, [(3, 0), (3, 1), (3, 2), (3, 3), (3, 4), (3, 5)], false, none, .no⟩),
 (153, ⟨true, [.v (.string ⟨#[]⟩), .v (.string ⟨#[]⟩), .v (.int .i64 0), .v (.int .i64 0), .v (.int .i64 0), .v (.int .i64 0), .v (.int .i64 0), .v (.int .i64 0), .v (.int .i64 0)], none, [(9, 0), (9, 1), (152, 2), (3, 8)], false, none, .no⟩),
 (154, ⟨true, [.v (.string ⟨#[]⟩), .v (.string ⟨#[]⟩), .v (.int .i64 0), .v (.int .i64 0), .v (.int .i64 0), .v (.int .i64 0), .v (.int .i64 0), .v (.int .i64 0), .v (.int .i64 0)], none, [(9, 0), (9, 1), (152, 2), (3, 8)], false, none, .no⟩),
 (155, ⟨false, [.v (.nilFunc)], none, [], false, none, .fn⟩),
 (157, ⟨false, [.v (.nilFunc)], none, [], false, none, .fn⟩),
 (159, ⟨false, [.v (.nilFunc)], none, [], false, none, .fn⟩),
 (160, ⟨false, [.v (.nilFunc)], none, [], false, none, .fn⟩),
 (162, ⟨false, [.v (.nilFunc)], none, [], false, none, .fn⟩),
 (163, ⟨false, [.v (.nilFunc)], none, [], false, none, .fn⟩),
 (165, ⟨false, [.v (.nilFunc)], none, [], false, none, .fn⟩),
 (166, ⟨false, [.v (.nilFunc)], none, [], false, none, .fn⟩),
 (167, ⟨false, [.v (.nilFunc)], none, [], false, none, .fn⟩),
 (168, ⟨true, [.v (.int .i64 0), .v (.int .i64 0), .v (.string ⟨#[]⟩)], none, [(3, 0), (3, 1), (9, 2)], false, none, .no⟩),
 (169, ⟨true, [.v (.int .i64 0), .v (.int .i64 0), .v (.string ⟨#[]⟩)], none, [(3, 0), (3, 1), (9, 2)], false, none, .no⟩),
 (170, ⟨false, [.v (.nilFunc)], none, [], false, none, .fn⟩),
 (171, ⟨false, [.v (.nilFunc)], none, [], false, none, .fn⟩),
 (172, ⟨false, [.v (.nilFunc)], none, [], false, none, .fn⟩),
 (173, ⟨false, [.v (.nilFunc)], none, [], false, none, .fn⟩),
 (174, ⟨false, [.v (.nilFunc)], none, [], false, none, .fn⟩),
 (175, ⟨false, [.v (.nilFunc)], none, [], false, none, .fn⟩),
 (176, ⟨false, [.v (.nilFunc)], none, [], false, none, .fn⟩),
 (178, ⟨false, [.v (.nilFunc)], none, [], false, none, .fn⟩),
 (180, ⟨false, [.v (.nilFunc)], none, [], false, none, .fn⟩),
 (181, ⟨false, [.v (.nilFunc)], none, [], false, none, .fn⟩),
 (182, ⟨false, [.v (.nilFunc)], none, [], false, none, .fn⟩),
 (183, ⟨false, [.v (.nilFunc)], none, [], false, none, .fn⟩),
 (184, ⟨false, [.v (.nilFunc)], none, [], false, none, .fn⟩),
 (185, ⟨false, [.v (.nilFunc)], none, [], false, none, .fn⟩),
 (186, ⟨false, [.v (.nilFunc)], none, [], false, none, .fn⟩),
 (187, ⟨false, [.v (.nilFunc)], none, [], false, none, .fn⟩),
 (188, ⟨false, [.v (.nilFunc)], none, [], false, none, .fn⟩),
 (189, ⟨false, [.v (.nilFunc)], none, [], false, none, .fn⟩),
 (191, ⟨false, [.v (.nilFunc)], none, [], false, none, .fn⟩),
 (192, ⟨false, [.v (.int .u64 0)], none, [], false, some .u64, .no⟩),
 (193, ⟨false, [.v (.nilFunc)], none, [], false, none, .fn⟩),
 (194, ⟨false, [.v (.nilFunc)], none, [], false, none, .fn⟩),
 (195, ⟨false, [.v (.nilFunc)], none, [], false, none, .fn⟩),
 (196, ⟨false, [.v (.nilFunc)], none, [], false, none, .fn⟩),
 (198, ⟨false, [.v (.nilFunc)], none, [], false, none, .fn⟩),
 (199, ⟨true, [.v (.int .i64 0), .v (.int .i64 0)], none, [], false, none, .arr 2 3 1⟩),
 (200, ⟨false, [.v (.nilFunc)], none, [], false, none, .fn⟩),
 (202, ⟨false, [.v (.nilFunc)], none, [], false, none, .fn⟩),
 (203, ⟨false, [.v (.nilFunc)], none, [], false, none, .fn⟩),
 (204, ⟨false, [.v (.nilFunc)], none, [], false, none, .fn⟩),
 (205, ⟨false, [.v (.nilFunc)], none, [], false, none, .fn⟩),
 (206, ⟨false, [.v (.nilFunc)], none, [], false, none, .fn⟩),
 (207, ⟨false, [.v (.nilFunc)], none, [], false, none, .fn⟩),
 (208, ⟨false, [.v (.nilFunc)], none, [], false, none, .fn⟩),
 (209, ⟨false, [.v (.nilFunc)], none, [], false, none, .fn⟩),
 (210, ⟨false, [.v (.nilFunc)], none, [], false, none, .fn⟩),
 (211, ⟨false, [.v (.int .u64 0)], none, [], false, some .u64, .no⟩),
 (212, ⟨false, [.v (.nilFunc)], none, [], false, none, .fn⟩),
 (213, ⟨false, [.v (.nilFunc)], none, [], false, none, .fn⟩),
 (214, ⟨false, [.v (.nilFunc)], none, [], false, none, .fn⟩),
 (215, ⟨false, [.v (.nilFunc)], none, [], false, none, .fn⟩),
 (216, ⟨true, [.nl, .v (.string ⟨#[]⟩), .nl, .v (.int .i64 0)], none, [(27, 0), (9, 1), (43, 2), (39, 3)], false, none, .no⟩),
 (217, ⟨true, [.nl, .v (.string ⟨#[]⟩), .nl, .v (.int .i64 0)], none, [(27, 0), (9, 1), (43, 2), (39, 3)], false, none, .no⟩),
 (218, ⟨false, [.v (.nilFunc)], none, [], false, none, .fn⟩),
 (219, ⟨false, [.v (.nilFunc)], none, [], false, none, .fn⟩),
 (220, ⟨false, [.v (.nilFunc)], none, [], false, none, .fn⟩),
 (221, ⟨false, [.v (.nilFunc)], none, [], false, none, .fn⟩),
 (222, ⟨false, [.v (.nilFunc)], none, [], false, none, .fn⟩),
 (223, ⟨false, [.v (.nilFunc)], none, [], false, none, .fn⟩),
 (224, ⟨false, [.v (.nilFunc)], none, [], false, none, .fn⟩),
 (225, ⟨false, [.v (.nilFunc)], none, [], false, none, .fn⟩),
 (226, ⟨false, [.v (.nilFunc)], none, [], false, none, .fn⟩),
 (227, ⟨true, [.v (.int .u8 0), .v (.int .u8 0), .v (.int .u8 0), .v (.int .u8 0), .v (.int .u8 0), .v (.int .u8 0), .v (.int .u8 0), .v (.int .u8 0), .v (.int .u8 0), .v (.int .u8 0)], none, [], false, none, .arr 10 5 1⟩),
 (228, ⟨false, [.v (.nilFunc)], none, [], false, none, .fn⟩),
 (230, ⟨false, [.v (.nilFunc)], none, [], false, none, .fn⟩),
 (231, ⟨false, [.v (.nilFunc)], none, [], false, none, .fn⟩),
 (232, ⟨false, [.v (.nilFunc)], none, [], false, none, .fn⟩),
 (233, ⟨false, [.v (.nilFunc)], none, [], false, none, .fn⟩),
 (234, ⟨false, [.v (.nilFunc)], none, [], false, none, .fn⟩),
 (235, ⟨false, [.v (.nilFunc)], none, [], false, none, .fn⟩),
 (236, ⟨false, [.v (.nilFunc)], none, [], false, none, .fn⟩),
 (237, ⟨false, [.v (.nilFunc)], none, [], false, none, .fn⟩),
 (238, ⟨false, [.v (.nilFunc)], none, [], false, none, .fn⟩),
 (239, ⟨false, [.v (.int .i64 0)], none, [], false, some .i64, .no⟩),
 (241, ⟨false, [.v (.nilFunc)], none, [], false, none, .fn⟩),
 (242, ⟨false, [.v (.nilFunc)], none, [], false, none, .fn⟩),
 (243, ⟨false, [.v (.nilFunc)], none, [], false, none, .fn⟩),
 (244, ⟨false, [.v (.nilFunc)], none, [], false, none, .fn⟩),
 (245, ⟨false, [.v (.nilFunc)], none, [], false, none, .fn⟩),
 (246, ⟨false, [.v (.int .u32 0)], none, [], false, some .u32, .no⟩),
 (247, ⟨false, [.v (.nilFunc)], none, [], false, none, .fn⟩),
 (248, ⟨false, [.v (.nilFunc)], none, [], false, none, .fn⟩),
 (249, ⟨false, [.v (.nilFunc)], none, [], false, none, .fn⟩),
 (250, ⟨false, [.v (.pointer none)], none, [], false, none, .ptr⟩),
 (251, ⟨true, [.v (.pointer none), .nl], none, [(250, 0), (72, 1)], false, none, .no⟩),
 (252, ⟨true, [.v (.pointer none), .nl], none, [(250, 0), (72, 1)], false, none, .no⟩),
 (253, ⟨false, [.v (.nilFunc)], none, [], false, none, .fn⟩),
 (254, ⟨false, [.v (.nilIface)], none, [], false, none, .no⟩),
 (255, ⟨false, [.v (.nilIface)], none, [], false, none, .no⟩),
 (257, ⟨false, [.v (.nilFunc)], none, [], false, none, .fn⟩),
 (258, ⟨false, [.v (.nilFunc)], none, [], false, none, .fn⟩),
 (260, ⟨false, [.v (.nilFunc)], none, [], false, none, .fn⟩),
 (262, ⟨false, [.v (.nilFunc)], none, [], false, none, .fn⟩),
 (263, ⟨false, [.v (.int .u64 0)], none, [], false, some .u64, .no⟩),
 (264, ⟨false, [.v (.nilFunc)], none, [], false, none, .fn⟩),
 (265, ⟨false, [.v (.nilFunc)], none, [], false, none, .fn⟩),
 (266, ⟨false, [.v (.nilFunc)], none, [], false, none, .fn⟩),
 (267, ⟨false, [.v (.pointer none)], none, [], false, none, .ptr⟩),
 (268, ⟨false, [.v (.nilFunc)], none, [], false, none, .fn⟩),
 (269, ⟨false, [.v (.nilFunc)], none, [], false, none, .fn⟩),
 (270, ⟨false, [.v (.nilFunc)], none, [], false, none, .fn⟩),
 (271, ⟨false, [.v (.pointer none)], none, [], false, none, .ptr⟩),
 (272, ⟨false, [.v (.nilFunc)], none, [], false, none, .fn⟩),
 (273, ⟨false, [.v (.pointer none)], none, [], false, none, .ptr⟩),
 (275, ⟨false, [.v (.nilFunc)], none, [], false, none, .fn⟩),
 (276, ⟨false, [.v (.nilFunc)], none, [], false, none, .fn⟩),
 (278, ⟨false, [.v (.nilFunc)], none, [], false, none, .fn⟩),
 (279, ⟨false, [.v (.nilFunc)], none, [], false, none, .fn⟩),
 (280, ⟨false, [.v (.pointer none)], none, [], false, none, .no⟩),
 (281, ⟨false, [.v (.nilFunc)], none, [], false, none, .fn⟩),
 (282, ⟨false, [.v (.nilFunc)], none, [], false, none, .fn⟩),
 (284, ⟨true, [.v (.int .u8 0), .v (.int .u8 0)], none, [(5, 0), (5, 1)], false, none, .no⟩),
 (285, ⟨true, [.v (.int .u8 0), .v (.int .u8 0)], none, [(5, 0), (5, 1)], false, none, .no⟩),
 (286, ⟨true, [.v (.int .u8 0), .v (.int .u8 0), .v (.int .u8 0), .v (.int .u8 0), .v (.int .u8 0), .v (.int .u8 0), .v (.int .u8 0), .v (.int .u8 0), .v (.int .u8 0), .v (.int .u8 0), .v (.int .u8 0), .v (.int .u8 0), .v (.int .u8 0), .v (.int .u8 0), .v (.int .u8 0), .v (.int .u8 0), .v (.int .u8 0), .v (.int .u8 0), .v (.int .u8 0), .v (.int .u8 0), .v (.int .u8 0), .v (.int .u8 0), .v (.int .u8 0), .v (.int .u8 0), .v (.int .u8 0), .v (.int .u8 0), .v (.int .u8 0), .v (.int .u8 0), .v (.int .u8 0), .v (.int .u8 0), .v (.int .u8 0), .v (.int .u8 0)], none, [], false, none, .arr 16 285 2⟩),
 (287, ⟨false, [.v (.nilFunc)], none, [], false, none, .fn⟩),
 (288, ⟨true, [.v (.pointer none), .v (.pointer none), .v (.pointer none), .v (.string ⟨#[]⟩)], none, [(17, 0), (17, 1), (17, 2), (9, 3)], false, none, .no⟩),
 (289, ⟨true, [.v (.pointer none), .v (.pointer none), .v (.pointer none), .v (.string ⟨#[]⟩)], none, [(17, 0), (17, 1), (17, 2), (9, 3)], false, none, .no⟩),
 (290, ⟨true, [], none, [], false, none, .arr 0 16 1⟩),
 (293, ⟨false, [.v (.int .u8 0)], none, [], false, some .u8, .no⟩),
 (294, ⟨false, [.v (.int .u8 0)], none, [], false, some .u8, .no⟩),
 (295, ⟨false, [.v (.nilFunc)], none, [], false, none, .fn⟩),
 (296, ⟨false, [.v (.int .i32 0)], none, [], false, some .i32, .no⟩),
 (297, ⟨false, [.v (.int .i32 0)], none, [], false, some .i32, .no⟩),
 (298, ⟨true, [.v (.int .u64 0), .v (.int .u64 0), .v (.int .u32 0), .v (.int .u8 0), .v (.int .u8 0), .v (.int .u8 0), .v (.int .u8 0), .v (.nilFunc), .v (.pointer none), .v (.int .i32 0), .v (.int .i32 0)], none, [(12, 0), (12, 1), (246, 2), (293, 3), (5, 4), (5, 5), (294, 6), (295, 7), (271, 8), (296, 9), (297, 10)], false, none, .no⟩),
 (299, ⟨true, [.v (.int .u64 0), .v (.int .u64 0), .v (.int .u32 0), .v (.int .u8 0), .v (.int .u8 0), .v (.int .u8 0), .v (.int .u8 0), .v (.nilFunc), .v (.pointer none), .v (.int .i32 0), .v (.int .i32 0)], none, [(12, 0), (12, 1), (246, 2), (293, 3), (5, 4), (5, 5), (294, 6), (295, 7), (271, 8), (296, 9), (297, 10)], false, none, .no⟩)]
theorem tabG : tabB Tryz.prog tab = true := by kernel_rfl
theorem fnG {f : FuncId} {fn : Func} {c : Code} {gs : List G} {Q : G → Prop} (hf : Tryz.prog.funcs[f]? = some fn) (hname : (fn.name == "runtime.NumGoroutine") = false) (hb : fn.body = some c) (hn : gs.length ≤ fn.ntmps) (hc : codeB tab fn.ntmps c = true) (h : sxC Tryz.prog tab c (args0 0 gs) [] 0 (sxRes tab fn Q)) : FnV Tryz.prog f gs Q :=
 fn_of_sx (tab_ok tabG) (by kernel_rfl) hf hname hb hn hc h
theorem fnoG {f : FuncId} {fn : Func} {c : Code} {gs gs0 : List G} {rs : List R} {own0 : Os} {n0 : Nat} {roots : List Nat} {Q : G → List R → Prop} (hf : Tryz.prog.funcs[f]? = some fn) (hname : (fn.name == "runtime.NumGoroutine") = false) (hb : fn.body = some c) (hn : gs0.length ≤ fn.ntmps) (hc : codeB tab fn.ntmps c = true) (ho : Lent rs gs own0 n0 gs0 roots) (h : sxC Tryz.prog tab c (args0 0 gs0) own0 n0 (sxResO tab fn roots Q)) : FnO Tryz.prog f gs rs Q :=
 fno_of_sx (tab_ok tabG) (by kernel_rfl) hf hname hb hn hc ho h
end Go.Proofs.YtalfffamppmooaaGreatDoor
namespace Go.Proofs.YtalfffamppmooaaGreatDoor
open Go.RowKit
def resKU (tt : List (Nat × TI)) (t : Ts) (w : Os) (K : G → Os → Prop) : ResultVar → Prop
 | .tmp i => match look i t with
  | some (.osl k) => match look k w with
   | some (.slc _ _ _) => K (.osl k) w
   | _ => purA w (.osl k) K
  | some g => purA w g K
  | none => False
 | .cell i ty => match look i t, look ty tt with
  | some (.ptr k off), some ti => match look k w with
   | some (.blk cs _) => match ti.agg with
    | true => seg cs off ti.zero.length fun l => K (.oag l) w
    | false => False
   | _ => False
  | _, _ => False
def resLU (tt : List (Nat × TI)) (t : Ts) (w : Os) : List ResultVar → (List G → Os → Prop) → Prop
 | [], K => K [] w
 | r :: rs, K => resKU tt t w (fun g w' => resLU tt t w' rs fun gs w'' => K (g :: gs) w'') r
def EndU (roots : List Nat) (own : Os) (n : Nat) (g : G) (Q : G → List R → Prop) : Prop := (∃ its g', EndK roots own n g Q its g') ∨ ∃ k r0 its g', look k own = some r0 ∧ EndK roots ((k, .gone) :: own) n g Q its g'
def sxResU (tt : List (Nat × TI)) (fn : Func) (roots : List Nat) (Q : G → List R → Prop) : KC := fun e t w n => match e with
 | .exit _ => False
 | .goto _ => False
 | _ => match fn.results.toList with
  | [r] => resLU tt t w [r] fun gs own => match gs with
   | [g] => EndU roots own n g Q
   | _ => False
  | rs => resLU tt t w rs fun gs own => EndU roots own n (.tup gs) Q
section
variable {P : Program} {tb : List (Nat × TI)} {N n0 : Nat} {I : Imm} {V : Va} {a : Act} {t : Ts} {own own0 : Os} {w : World}
theorem resKU_ok (hT : ∀ t i, look t tb = some i → TIok P t i) {r : ResultVar} {K1 : G → Os → Prop} (h : resKU tb t own K1 r) (hH : Has I V own w) (ha : ARep N I V a t) : ∃ g own' I' V' v, K1 g own' ∧ V'.n = V.n ∧ Later own I V w own' I' V' w ∧ PRe1 I' V' g v ∧ resRun P a w r v := by
 cases r with
 | tmp i =>
  have old : resKO tb t own K1 (.tmp i) → ∃ g own' I' V' v, K1 g own' ∧ V'.n = V.n ∧ Later own I V w own' I' V' w ∧ PRe1 I' V' g v ∧ resRun P a w (.tmp i) v := fun h => by
   obtain ⟨g', o1, I1, V1, v, h1, h2, h3, h4, h5⟩ := resKO_ok (K1 := K1) hT h hH ha
   exact ⟨g', o1, I1, V1, v, h1, h2, h3, .of_p h4, h5⟩
  unfold resKU at h
  dsimp only at h
  split at h
  ·next k hl =>
   split at h
   ·obtain ⟨x, hx, hv⟩ := ha.get i _ hl
    exact ⟨.osl k, own, I, V, x, h, rfl, .refl hH, hv, by unfold resRun resSem; simp [hx]⟩
   ·exact old (by unfold resKO; dsimp only; rw [hl]; exact h)
  ·next g _ hl => exact old (by unfold resKO; dsimp only; rw [hl]; exact h)
  ·exact h.elim
 | cell i ty =>
  unfold resKU at h
  dsimp only at h
  split at h
  ·next k off ti hl hty =>
   obtain ⟨x, hx, hv⟩ := ha.get i _ hl
   obtain ⟨-, rfl⟩ := trep_ptr hv
   split at h
   ·next cs ty' hb2 =>
    obtain ⟨us, h1, h2, h3⟩ := blk_at hH hb2
    have hti := hT _ _ hty
    cases hag : ti.agg with
    | false => rw [hag] at h; exact h.elim
    | true =>
     rw [hag] at h
     have hseg := h
     obtain ⟨l, hk, k2, -⟩ := seg_ok h h2
     have hlen2 : ((us.drop off).take ti.zero.length).length = ti.zero.length := by
      rcases Nat.eq_zero_or_pos ti.zero.length with h0 | h0
      ·rw [h0]; simp
      ·have := seg_len hseg h2 h0; simp; omega
     refine ⟨.oag l, own, I, V, Value.agg ((us.drop off).take ti.zero.length).toArray, hk, rfl, .refl hH, ⟨_, rfl, k2⟩, ?_⟩
     have := run_loadVar_part (P := P) (w := w) (g := V.b k) (k := off) (ty := ty) (cs := (us.drop off).take ti.zero.length) (by rw [hti.agg, hag]) (by rw [hti.size, hlen2]) (fun j v hv => by rw [h3]; exact drop_get hv)
     unfold resRun resSem
     simp [hx, asAddr, this]
   ·exact h.elim
  ·exact h.elim
theorem resLU_ok (hT : ∀ t i, look t tb = some i → TIok P t i) : ∀ {rs : List ResultVar} {own : Os} {I : Imm} {V : Va} {K1 : List G → Os → Prop}, resLU tb t own rs K1 → Has I V own w → ARep N I V a t → ∃ gs own' I' V', ∃ vs : List Value, K1 gs own' ∧ V'.n = V.n ∧ Later own I V w own' I' V' w ∧ PW (PRe1 I' V') gs vs ∧ vs.length = rs.length ∧ ∀ (i : Nat) r v, rs[i]? = some r → vs[i]? = some v → resRun P a w r v
 | [], own, I, V, K1, h, hH, _ => ⟨[], own, I, V, [], h, rfl, .refl hH, .nil, rfl, fun i r v h => by simp at h⟩
 | r :: rs, own, I, V, K1, h, hH, ha => by
  obtain ⟨g, o1, I1, V1, v, h1, hn, h2, h3, h4⟩ := resKU_ok (K1 := fun g w' => resLU tb t w' rs fun gs w'' => K1 (g :: gs) w'') hT h hH ha
  obtain ⟨gs, o2, I2, V2, vs, k1, kn, k2, k3, k4, k5⟩ := resLU_ok hT h1 h2.has (ha.mono h2.fro.mono h2.va)
  refine ⟨g :: gs, o2, I2, V2, v :: vs, k1, kn.trans hn, h2.trans k2, .cons (h3.mono k2.fro.mono k2.va) k3, by simp [k4], fun i r' v' hr hv => ?_⟩
  cases i with
  | zero => simp at hr hv; subst hr hv; exact h4
  | succ i => exact k5 i r' v' (by simpa using hr) (by simpa using hv)
theorem PRes.mono {I I' : Imm} {V V' : Va} {g : G} {x : Value} (h : PRes I V g x) (hI : I.le I') (hV : V.le V') : PRes I' V' g x := by
 cases g with
 | tup l => obtain ⟨cs, e, hp⟩ := h; exact ⟨cs, e, hp.mono fun _ _ h => h.mono hI hV⟩
 | v z => exact PRe1.mono (g := .v z) h hI hV
 | tt => exact PRe1.mono (g := .tt) h hI hV
 | ff => exact PRe1.mono (g := .ff) h hI hV
 | un => exact PRe1.mono (g := .un) h hI hV
 | nl => exact PRe1.mono (g := .nl) h hI hV
 | agg l => exact PRe1.mono (g := .agg l) h hI hV
 | oag l => exact PRe1.mono (g := .oag l) h hI hV
 | ptr k o => exact PRe1.mono (g := .ptr k o) h hI hV
 | sl l => exact PRe1.mono (g := .sl l) h hI hV
 | osl k => exact PRe1.mono (g := .osl k) h hI hV
 | osv k a b c => exact PRe1.mono (g := .osv k a b c) h hI hV
 | elp l o => exact PRe1.mono (g := .elp l o) h hI hV
 | oel k i s o => exact PRe1.mono (g := .oel k i s o) h hI hV
 | mp k => exact PRe1.mono (g := .mp k) h hI hV
 | clo f a c => exact PRe1.mono (g := .clo f a c) h hI hV
theorem fno_of_sxU (hT : ∀ t i, look t tb = some i → TIok P t i) (hm : P.follows .mixedOrders = true) {f : FuncId} {fn : Func} {c : Code} {gs gs0 : List G} {rs : List R} {roots : List Nat} {Q : G → List R → Prop} (hf : P.funcs[f]? = some fn) (hname : (fn.name == "runtime.NumGoroutine") = false) (hb : fn.body = some c) (hn : gs0.length ≤ fn.ntmps) (hc : codeB tb fn.ntmps c = true)
  (ho : Lent rs gs own0 n0 gs0 roots) (h : sxC P tb c (args0 0 gs0) own0 n0 (sxResU tb fn roots Q)) : FnO P f gs rs Q := by
 refine ⟨⟨fn, hf, hname, by rw [hb]; rfl⟩, fun I V w vs hH hVn hp => ?_⟩
 obtain ⟨V2, h2n, hH2, hp2, hF2, hroot⟩ := ho.run I V w vs hH hVn hp
 refine calls_of_wp hf hb ?_
 have hlen : vs.length = gs0.length := hp2.1.symm
 have ha : ARep fn.ntmps I V2 { tmps := vs.toArray ++ Array.replicate (fn.ntmps - vs.toArray.size) undef, defers := [] } (args0 0 gs0) := by
  refine ⟨rfl, by simp; omega, fun i g hg => ?_⟩
  obtain ⟨j, e, hj⟩ := args0_look hg
  obtain rfl : i = j := by omega
  obtain ⟨u, hu, hr⟩ := hp2.get hj
  refine ⟨u, ?_, hr⟩
  have hi := (List.getElem?_eq_some_iff.1 hu).1
  show (vs.toArray ++ _)[i]? = _
  rw [Array.getElem?_append_left (by simpa using hi)]
  simpa using hu
 have h : sxC P tb c (args0 0 gs0) own0 V2.n (sxResU tb fn roots Q) := by rw [h2n]; exact h
 refine sxC_ok (own0 := own0) (I0 := I) (V0 := V2) (w0 := w) hT hm (V := V2) h ⟨hH2, .refl _ _ _ _, Nat.le_refl _, fun _ _ => rfl⟩ ha hc (fun ch d v a w hq => ?_) fun e t own I1 V1 a w1 hk hS hA => ?_
 ·cases d <;> exact hq
 ·have key : (∀ id, e ≠ .exit id) → bodyPost P fn (fun e w' => ∃ x g rs' I' V', e = .returned x ∧ Q g rs' ∧ V'.n = rs'.length ∧ Has I' V' (objs rs' 0) w' ∧ PRes I' V' g x ∧ Fro (objs rs 0) I V w (objs rs' 0) I' V' w' ∧ V.le V') .ret a w1 := fun he => by
   refine ⟨hA.defers, ?_⟩
   have hk : match fn.results.toList with
     | [r] => resLU tb t own [r] fun gs own => match gs with
      | [g] => EndU roots own V1.n g Q
      | _ => False
     | rs => resLU tb t own rs fun gs own => EndU roots own V1.n (.tup gs) Q := by
    cases e with
    | exit id => exact absurd rfl (he id)
    | goto l => exact hk.elim
    | normal => exact hk
    | ret => exact hk
   have fin0 : ∀ {own' I' V' g x}, V'.n = V1.n → Later own I1 V1 w1 own' I' V' w1 → PRes I' V' g x → (∃ its g', EndK roots own' V1.n g Q its g') → ∃ x' g rs' I' V', Ending.returned x = .returned x' ∧ Q g rs' ∧ V'.n = rs'.length ∧ Has I' V' (objs rs' 0) w1 ∧ PRes I' V' g x' ∧ Fro (objs rs 0) I V w (objs rs' 0) I' V' w1 ∧ V.le V' := fun {own' I' V' g x} hn hl hx ⟨its, g', hE⟩ => by
    rw [← hn] at hE
    obtain ⟨V4, k1, k2, k3, k4, k5, k6⟩ := close_ok hE hl.has hx V.s
    have hfro := (hF2.trans hS.fro).trans hl.fro
    refine ⟨x, g', its.map It.res, I', V4, rfl, hE.post, by simpa using k1, k2, k3, ⟨hfro.os, hfro.tape, hfro.output, hfro.size, hfro.blk, hfro.mono, fun i r b hi hb hlt => ?_⟩, ?_, fun i hi => ⟨?_, k6 i (by rw [ho.len]; omega)⟩⟩
    ·obtain ⟨k, r', h1, h2⟩ := k4 i b hb
     exact hfro.foot k r' b h1 h2 hlt
    ·rw [k1, hVn, ← ho.len]
     obtain ⟨l, hl⟩ := hE.rts
     have := congrArg List.length hl
     simp at this
     omega
    ·have hi' : i < roots.length := by rw [ho.len]; omega
     have hr := List.getElem?_eq_getElem hi'
     obtain ⟨h1, h2⟩ := hroot i _ hr
     rw [(k5 i _ hr).1, (hl.va.2 _ (Nat.lt_of_lt_of_le (by omega) hS.n)).1, hS.bb _ (by omega), h1]
   have fin : ∀ {own' I' V' g x}, V'.n = V1.n → Later own I1 V1 w1 own' I' V' w1 → PRes I' V' g x → EndU roots own' V1.n g Q → ∃ x' g rs' I' V', Ending.returned x = .returned x' ∧ Q g rs' ∧ V'.n = rs'.length ∧ Has I' V' (objs rs' 0) w1 ∧ PRes I' V' g x' ∧ Fro (objs rs 0) I V w (objs rs' 0) I' V' w1 ∧ V.le V' := fun {own' I' V' g x} hn hl hx hE => by
    rcases hE with hE | ⟨k, r0, its, g', hk0, hE⟩
    ·exact fin0 hn hl hx hE
    ·have hl2 := later_drop (r := .gone) hl.has hk0 (.refl _) hl.has.mem (fun _ _ _ => rfl) (fun b => by simp [Va.drop])
     exact fin0 (V' := V'.drop k) hn (hl.trans hl2) (hx.mono (.refl _) hl2.va) ⟨its, g', hE⟩
   split at hk
   ·next r hr =>
    obtain ⟨gs, o2, I2, V2', vs, k1, kn, k2, k3, k4, k5⟩ := resLU_ok hT hk hS.has hA
    rw [← hr] at k4 k5
    refine ⟨_, run_results k4 k5, ?_⟩
    cases gs with
    | nil => exact k1.elim
    | cons g gs =>
     cases gs with
     | cons g' gs => exact k1.elim
     | nil =>
      obtain ⟨v, vs', rfl, hv, hn⟩ := k3.uncons
      obtain rfl := hn.of_nil
      refine fin kn k2 ?_ k1
      cases g with
      | tup l => cases (show VRep I2 (.tup l) v from hv)
      | _ => exact hv
   ·next rs' hr =>
    obtain ⟨gs, o2, I2, V2', vs, k1, kn, k2, k3, k4, k5⟩ := resLU_ok hT hk hS.has hA
    refine ⟨_, run_results k4 k5, ?_⟩
    have hv1 : ∀ v, vs ≠ [v] := fun v e => by
     rw [e] at k4
     cases hq : fn.results.toList with
     | nil => rw [hq] at k4; simp at k4
     | cons r l =>
      cases l with
      | nil => exact hr r hq
      | cons r' l => rw [hq] at k4; simp at k4
    have e : packV vs = .tuple vs.toArray := by
     unfold packV
     split
     ·next v => exact absurd rfl (hv1 v)
     ·rfl
    rw [e]
    exact fin (g := .tup gs) kn k2 ⟨vs, rfl, k3⟩ k1
  cases e with
  | normal => exact key fun id h => by cases h
  | exit id => exact hk.elim
  | goto l => exact hk.elim
  | ret => exact key fun id h => by cases h
end
end Go.Proofs.YtalfffamppmooaaGreatDoor
namespace Go.Proofs.YtalfffamppmooaaGreatDoor
open Go.RowKit
section
variable {P : Program} {f : FuncId} {gs : List G} {rs : List R} {Q Q' : G → List R → Prop}
theorem objs_some {rs rs' : List R} (h : rs.length = rs'.length) (k : Nat) {r : R} (hk : look k (objs rs 0) = some r) : ∃ r', look k (objs rs' 0) = some r' := by
 rw [look_objs0] at hk ⊢
 have := (List.getElem?_eq_some_iff.1 hk).1
 exact ⟨_, List.getElem?_eq_getElem (by omega)⟩
theorem Fro.left {own own2 own' : Os} {I I' : Imm} {V V' : Va} {w w' : World} (h : Fro own I V w own' I' V' w') (h1 : ∀ k r, look k own = some r → ∃ r', look k own2 = some r') : Fro own2 I V w own' I' V' w' :=
 ⟨h.os, h.tape, h.output, h.size, fun b hb hn => h.blk b hb fun k r hk hf => by obtain ⟨r', hr⟩ := h1 k r hk; exact hn k r' hr hf, h.mono, fun k r b hk hf hb => by
  obtain ⟨j, r', hj, hf'⟩ := h.foot k r b hk hf hb
  obtain ⟨r2, h2⟩ := h1 j r' hj
  exact ⟨j, r2, h2, hf'⟩⟩
theorem Fro.right {own own2 own' : Os} {I I' : Imm} {V V' : Va} {w w' : World} (h : Fro own I V w own' I' V' w') (h1 : ∀ k r, look k own2 = some r → ∃ r', look k own' = some r') : Fro own I V w own2 I' V' w' :=
 ⟨h.os, h.tape, h.output, h.size, h.blk, h.mono, fun k r b hk hf hb => by
  obtain ⟨r2, h2⟩ := h1 k r hk
  exact h.foot k r2 b h2 hf hb⟩
def WkR (r r' : R) : Prop := r' = r ∨ ∃ p p', r = .abs p ∧ r' = .abs p' ∧ Loc p' ∧ ∀ I b S w, p I b S w → p' I b S w
def WkL : List R → List R → Prop
 | [], [] => True
 | r :: l, r' :: l' => WkR r r' ∧ WkL l l'
 | _, _ => False
theorem WkL.len : ∀ {l l' : List R}, WkL l l' → l.length = l'.length
 | [], [], _ => rfl
 | _ :: _, _ :: _, h => by rw [List.length_cons, List.length_cons, h.2.len]
 | [], _ :: _, h => h.elim
 | _ :: _, [], h => h.elim
theorem WkL.get : ∀ {l l' : List R}, WkL l l' → ∀ {i : Nat} {r' : R}, l'[i]? = some r' → ∃ r, l[i]? = some r ∧ WkR r r'
 | [], [], _, i, r', h => by simp at h
 | r :: l, r1 :: l', h, 0, r', hi => by simp at hi; subst hi; exact ⟨r, rfl, h.1⟩
 | r :: l, r1 :: l', h, i + 1, r', hi => by
  obtain ⟨r2, h1, h2⟩ := h.2.get (i := i) (r' := r') (by simpa using hi)
  exact ⟨r2, by simpa using h1, h2⟩
 | [], _ :: _, h, _, _, _ => h.elim
 | _ :: _, [], h, _, _, _ => h.elim
theorem WkL.refl : ∀ l : List R, WkL l l
 | [] => trivial
 | _ :: l => ⟨.inl rfl, .refl l⟩
theorem WkR.rep {I : Imm} {V : Va} {k : Nat} {w : World} {r r' : R} (h : WkR r r') (hr : RRep I V k w r) : RRep I V k w r' := by
 rcases h with rfl | ⟨p, p', rfl, rfl, hl, hp⟩
 ·exact hr
 ·exact ⟨hl, hp _ _ _ _ hr.2⟩
theorem Has.wk {I : Imm} {V : Va} {w : World} {l l' : List R} (hw : WkL l l') (h : Has I V (objs l 0) w) : Has I V (objs l' 0) w := by
 have lk : ∀ {k r'}, look k (objs l' 0) = some r' → ∃ r, look k (objs l 0) = some r ∧ WkR r r' := fun {k r'} hk => by
  rw [look_objs0] at hk
  obtain ⟨r, h1, h2⟩ := hw.get hk
  exact ⟨r, by rw [look_objs0]; exact h1, h2⟩
 refine ⟨h.mem, fun k r hk => ?_, fun k r hk => ?_, fun k r b hk hb => ?_, fun k k' r r' b hk hk' hb hb' => ?_⟩
 ·obtain ⟨r1, h1, -⟩ := lk hk; exact h.num k r1 h1
 ·obtain ⟨r1, h1, h2⟩ := lk hk; exact h2.rep (h.each k r1 h1)
 ·obtain ⟨r1, h1, -⟩ := lk hk; exact h.foot k r1 b h1 hb
 ·obtain ⟨r1, h1, -⟩ := lk hk
  obtain ⟨r2, h2, -⟩ := lk hk'
  exact h.disj k k' r1 r2 b h1 h2 hb hb'
theorem FnO.wk (h : FnO P f gs rs Q) (hq : ∀ g rs', Q g rs' → ∃ rs'', WkL rs' rs'' ∧ Q' g rs'') : FnO P f gs rs Q' :=
 ⟨h.1, fun I V w vs h1 h2 h3 => (h.2 I V w vs h1 h2 h3).mono fun _ _ ⟨x, g, rs', I', V', e, k1, k2, k3, k4, k5, k6⟩ => by
  obtain ⟨rs'', q1, q2⟩ := hq g rs' k1
  exact ⟨x, g, rs'', I', V', e, q2, k2.trans q1.len, k3.wk q1, k4, k5.right fun k r hk => objs_some q1.len.symm k hk, k6⟩⟩
theorem FnO.case {p : Ob} {ι : Type} {q : ι → Ob} (hE : Ent P f) (hp : ∀ I b S w, p I b S w → ∃ i, q i I b S w) (hl : ∀ i, Loc (q i)) (h : ∀ i, FnO P f gs (.abs (q i) :: rs) Q) : FnO P f gs (.abs p :: rs) Q :=
 ⟨hE, fun I V w vs hH hn h3 => by
  obtain ⟨i, hi⟩ := hp _ _ _ _ (hH.each 0 (.abs p) rfl).2
  have hH2 : Has I V (objs (.abs (q i) :: rs) 0) w := by
   have lk : ∀ {k r'}, look k (objs (.abs (q i) :: rs) 0) = some r' → (k = 0 ∧ r' = .abs (q i)) ∨ (k ≠ 0 ∧ look k (objs (.abs p :: rs) 0) = some r') := fun {k r'} hk => by
    rw [look_objs0] at hk ⊢
    cases k with
    | zero => simp at hk; exact .inl ⟨rfl, hk.symm⟩
    | succ k => exact .inr ⟨by omega, by simpa using hk⟩
   have lk2 : ∀ {k r'}, look k (objs (.abs (q i) :: rs) 0) = some r' → ∃ r, look k (objs (.abs p :: rs) 0) = some r := fun {k r'} hk => objs_some (by simp) k hk
   refine ⟨hH.mem, fun k r hk => ?_, fun k r hk => ?_, fun k r b hk hb => ?_, fun k k' r r' b hk hk' hb hb' => ?_⟩
   ·obtain ⟨r1, h1⟩ := lk2 hk; exact hH.num k r1 h1
   ·rcases lk hk with ⟨rfl, rfl⟩ | ⟨-, h1⟩
    ·exact ⟨hl i, hi⟩
    ·exact hH.each k r h1
   ·obtain ⟨r1, h1⟩ := lk2 hk; exact hH.foot k r1 b h1 hb
   ·obtain ⟨r1, h1⟩ := lk2 hk
    obtain ⟨r2, h2⟩ := lk2 hk'
    exact hH.disj k k' r1 r2 b h1 h2 hb hb'
  exact ((h i).2 I V w vs hH2 hn h3).mono fun _ _ ⟨x, g, rs', I', V', e, k1, k2, k3, k4, k5, k6⟩ => ⟨x, g, rs', I', V', e, k1, k2, k3, k4, k5.left fun k r hk => objs_some (by simp) k hk, k6⟩⟩
theorem FnO.open1 {t e : TypeId} {sz : Nat} {rows : List (List G)} {Q : G → List (List G) → Prop} (h : FnO P f (.ptr 0 0 :: gs) [.abs (cl [(0, .blk [.osl 1] t), (1, .slc rows e sz)])] fun g rs => ∃ rows', Q g rows' ∧ rs = [.abs (cl [(0, .blk [.osl 1] t), (1, .slc rows' e sz)])]) (hg : allB plainG gs = true) (hq : ∀ g r, Q g r → flatG g = true) :
  FnO P f (.ptr 0 0 :: gs) [.blk [.osl 1] t, .slc rows e sz] fun g rs => ∃ rows', Q g rows' ∧ rs = [.blk [.osl 2] t, .gone, .slc rows' e sz] :=
 ⟨h.1, fun I V w vs hH hn hp => by
  have hn : V.n = 2 := hn
  let VA : Va := ⟨1, fun _ => V.b 0, fun _ => V.s 0, fun _ b => V.f 0 b ∨ V.f 1 b⟩
  have lk : ∀ {p : Ob} {k : Nat} {r : R}, look k (objs [.abs p] 0) = some r → k = 0 ∧ r = .abs p := fun {p k r} hk => by
   rw [look_objs0] at hk
   cases k with
   | zero => simp at hk; exact ⟨rfl, hk.symm⟩
   | succ k => simp at hk
  have l2 : ∀ {a b : R} {k : Nat} {r : R}, look k (objs [a, b] 0) = some r → k = 0 ∨ k = 1 := fun {a b k r} hk => by
   rw [look_objs0] at hk
   have := (List.getElem?_eq_some_iff.1 hk).1
   simp at this; omega
  have hHA : Has I VA (objs [.abs (cl [(0, .blk [.osl 1] t), (1, .slc rows e sz)])] 0) w := by
   refine ⟨hH.mem, fun k r hk => ?_, fun k r hk => ?_, fun k r b hk hb => ?_, fun k k' r r' b hk hk' _ _ => ?_⟩
   ·obtain ⟨rfl, rfl⟩ := lk hk; exact Nat.one_pos
   ·obtain ⟨rfl, rfl⟩ := lk hk
    refine ⟨cl_loc _, V, rfl, ⟨hH.num, hH.each, fun k r b hk hf => (hH.foot k r b hk hf).1, hH.disj⟩, fun c => ⟨fun hc => ?_, fun ⟨k, r, hk, hf⟩ => ?_⟩⟩
    ·rcases hc with hc | hc
     ·exact ⟨0, _, rfl, hc⟩
     ·exact ⟨1, _, rfl, hc⟩
    ·rcases l2 (a := .blk [.osl 1] t) (b := .slc rows e sz) hk with rfl | rfl
     ·exact .inl hf
     ·exact .inr hf
   ·obtain ⟨rfl, rfl⟩ := lk hk
    rcases hb with hb | hb
    ·exact hH.foot 0 _ b rfl hb
    ·exact hH.foot 1 _ b rfl hb
   ·rw [(lk hk).1, (lk hk').1]
  have hpA : PW (PRep I VA) (.ptr 0 0 :: gs) vs := ⟨hp.1, fun j g u h1 h2 => by
   cases j with
   | zero =>
    obtain rfl : G.ptr 0 0 = g := by simpa using h1
    have h3 : CRep I V (.ptr 0 0) u := hp.2 0 (.ptr 0 0) u rfl h2
    exact (show CRep I VA (.ptr 0 0) u from ⟨Nat.one_pos, h3.2⟩)
   | succ j =>
    have h4 := allB_mem hg g (List.mem_of_getElem? (by simpa using h1))
    have h3 := hp.2 (j + 1) g u h1 h2
    cases g <;> first
     | exact h3
     | cases h4⟩
  refine (h.2 I VA w vs hHA rfl hpA).mono fun e' w' ⟨x, g, rs', I', V', he, ⟨rows', hQ, hrs⟩, hn', hH', hx, hF, hle⟩ => ?_
  subst hrs
  obtain ⟨-, V2, hb0, hO, hS⟩ := hH'.each 0 _ rfl
  have hb0 : V2.b 0 = V.b 0 := hb0.trans (hle.2 0 Nat.one_pos).1
  let V3 : Va := ⟨3, fun k => if k = 0 then V.b 0 else if k = 1 then V.b 1 else V2.b 1, fun k => if k < 2 then V.s k else V2.s 1, fun k => if k = 0 then V2.f 0 else if k = 1 then fun _ => False else V2.f 1⟩
  have l3 : ∀ {k : Nat} {r : R}, look k (objs [.blk [.osl 2] t, .gone, .slc rows' e sz] 0) = some r → (k = 0 ∧ r = .blk [.osl 2] t) ∨ (k = 1 ∧ r = .gone) ∨ (k = 2 ∧ r = .slc rows' e sz) := fun {k r} hk => by
   rw [look_objs0] at hk
   rcases k with _ | _ | _ | k
   ·simp at hk; exact .inl ⟨rfl, hk.symm⟩
   ·simp at hk; exact .inr (.inl ⟨rfl, hk.symm⟩)
   ·simp at hk; exact .inr (.inr ⟨rfl, hk.symm⟩)
   ·simp at hk
  have inS : ∀ {k : Nat} {r : R} {b : Nat}, look k (objs [.blk [.osl 2] t, .gone, .slc rows' e sz] 0) = some r → V3.f k b → V'.f 0 b := fun {k r b} hk hb => by
   rcases l3 hk with ⟨rfl, -⟩ | ⟨rfl, -⟩ | ⟨rfl, -⟩
   ·exact (hS b).2 ⟨0, _, rfl, hb⟩
   ·exact hb.elim
   ·exact (hS b).2 ⟨1, _, rfl, hb⟩
  refine ⟨x, g, _, I', V3, he, ⟨rows', hQ, rfl⟩, rfl, ⟨hH'.mem, fun k r hk => ?_, fun k r hk => ?_, fun k r b hk hb => hH'.foot 0 _ b rfl (inS hk hb), fun k k' r r' b hk hk' hb hb' => ?_⟩, ?_, ⟨hF.os, hF.tape, hF.output, hF.size, fun b hb hno => hF.blk b hb fun k r hk hf => ?_, hF.mono, fun k r b hk hb hlt => ?_⟩, ⟨by rw [hn]; exact Nat.le_of_ble_eq_true rfl, fun k hk => ?_⟩⟩
  ·rcases l3 hk with ⟨rfl, -⟩ | ⟨rfl, -⟩ | ⟨rfl, -⟩ <;> exact Nat.le_of_ble_eq_true rfl
  ·rcases l3 hk with ⟨rfl, rfl⟩ | ⟨rfl, rfl⟩ | ⟨rfl, rfl⟩
   ·obtain ⟨q1, us, q2, q3⟩ := hO.each 0 (.blk [.osl 1] t) rfl
    refine ⟨fun b => (q1 b).trans (by rw [hb0]; exact Iff.rfl), us, by rw [← q2, hb0]; rfl, q3.1, fun j g u h1 h2 => ?_⟩
    cases j with
    | zero =>
     obtain rfl : G.osl 2 = g := by simpa using h1
     have h3 := q3.2 0 (.osl 1) u rfl h2
     exact (show CRep I' V3 (.osl 2) u from ⟨Nat.le_of_ble_eq_true rfl, h3.2⟩)
    | succ j => simp at h1
   ·exact fun b hb => hb
   ·exact hO.each 1 (.slc rows' e sz) rfl
  ·rcases l3 hk with ⟨rfl, -⟩ | ⟨rfl, -⟩ | ⟨rfl, -⟩ <;> rcases l3 hk' with ⟨rfl, -⟩ | ⟨rfl, -⟩ | ⟨rfl, -⟩
   ·rfl
   ·exact hb'.elim
   ·have := hO.disj 0 1 _ _ b rfl rfl hb hb'; omega
   ·exact hb.elim
   ·rfl
   ·exact hb.elim
   ·have := hO.disj 1 0 _ _ b rfl rfl hb hb'; omega
   ·exact hb'.elim
   ·rfl
  ·have hfl := hq g rows' hQ
   cases g with
   | tup l =>
    obtain ⟨cs, e1, hp⟩ := hx
    exact ⟨cs, e1, hp.1, fun j g u h1 h2 => by
     have h4 := allB_mem (p := flat1) (l := l) hfl g (List.mem_of_getElem? h1)
     have h5 := hp.2 j g u h1 h2
     cases g <;> first
      | exact h5
      | cases h4⟩
   | v u => exact hx
   | _ => cases hfl
  ·obtain ⟨rfl, rfl⟩ := lk hk
   rcases hf with hf | hf
   ·exact hno 0 _ rfl hf
   ·exact hno 1 _ rfl hf
  ·obtain ⟨j, r', hj, hf⟩ := hF.foot 0 _ b rfl (inS hk hb) hlt
   obtain ⟨rfl, rfl⟩ := lk hj
   rcases hf with hf | hf
   ·exact ⟨0, _, rfl, hf⟩
   ·exact ⟨1, _, rfl, hf⟩
  ·rw [hn] at hk
   have : k = 0 ∨ k = 1 := by omega
   rcases this with rfl | rfl <;> exact ⟨rfl, rfl⟩⟩
end
end Go.Proofs.YtalfffamppmooaaGreatDoor
namespace Go.Proofs.YtalfffamppmooaaGreatDoor
open Go.ChangeShapes Go.WideShapes Go.ChangeAt Go.RowKit
mutual
def bulkG : G → Nat
 | .v x => match x with
  | .string s => s.size + 1
  | _ => 1
 | .sl rows => bulkRs rows + 1
 | _ => 1
def bulkR : List G → Nat
 | [] => 0
 | g :: r => bulkG g + bulkR r
def bulkRs : List (List G) → Nat
 | [] => 0
 | r :: rs => bulkR r + bulkRs rs
end
theorem bulkR_app (a b : List G) : bulkR (a ++ b) = bulkR a + bulkR b := by
 induction a with
 | nil => simp [bulkR]
 | cons g a ih => simp only [List.cons_append, bulkR, ih]; omega
theorem bulkRs_le {rows : List (List G)} {r : List G} (h : r ∈ rows) : bulkR r ≤ bulkRs rows := by
 induction rows with
 | nil => cases h
 | cons x rows ih =>
  simp only [bulkRs]
  rcases List.mem_cons.1 h with rfl | h
  ·omega
  ·have := ih h; omega
section
variable {P : Program} {W : World} {H : Type} {enc : TypeId × Value → H}
theorem bulk_map {α : Type} (l : List α) (f : α → List G) (D : α → DataW H) (h : ∀ x ∈ l, bulkR (f x) ≤ Rows.uptoBulk (D x)) : bulkRs (l.map f) ≤ Rows.uptoBulkAll (l.map D) := by
 induction l with
 | nil => simp [bulkRs, Rows.uptoBulkAll]
 | cons x l ih =>
  simp only [List.map_cons, bulkRs, Rows.uptoBulkAll]
  have h1 := h x (by simp)
  have h2 := ih fun y hy => h y (by simp [hy])
  omega
theorem decB : ∀ (d : Nat) (t : TypeId) (sh : List Sp), flatS P d t = some sh → ∀ (fuel : Nat) (cs : List Value) (y : DataW H × List MemPlace), DataW.trod enc P W 0 (fun _ => true) true fuel t cs = some y → ∃ gs, TyL sh gs ∧ PW (VRep (immW W)) gs cs ∧ bulkR gs ≤ Rows.uptoBulk y.1
 | 0, t, sh, h => by cases h
 | d + 1, t, sh, h => by
  intro fuel cs y hy
  unfold flatS at h
  split at h
  ·next k hu =>
   cases h
   obtain ⟨n, rfl, rfl, hw⟩ := DataW.trod_int hu hy
   exact ⟨_, .i n (wf_rng hw) .nil, .cons (.v _) .nil, by simp [bulkR, bulkG, Rows.uptoBulk]⟩
  ·next hu =>
   cases h
   obtain ⟨s, rfl, rfl, hs⟩ := DataW.trod_string hu hy
   exact ⟨_, .s s hs .nil, .cons (.v _) .nil, by simp [bulkR, bulkG, Rows.uptoBulk]⟩
  ·next hu =>
   cases h
   obtain ⟨b, rfl, rfl⟩ := DataW.trod_bool hu hy
   exact ⟨_, .b b .nil, .cons (.v _) .nil, by simp [bulkR, bulkG, Rows.uptoBulk]⟩
  ·next e hu =>
   split at h
   ·next she he =>
    cases hb : Nat.beq (P.cellsOf e) she.length && Nat.blt 0 she.length with
    | false => rw [hb] at h; cases h
    | true =>
     rw [hb] at h
     have h : some [Sp.sl she] = some sh := h
     cases h
     simp only [Bool.and_eq_true] at hb
     have hsz := Nat.eq_of_beq_eq_true hb.1
     have hpos := Nat.le_of_ble_eq_true hb.2
     rcases Go.Deep.open_slice hu hy with ⟨rfl, rfl⟩ | ⟨a, len, cap, m, n, D, Pl, rfl, -, hl, hm, hmm, rfl, hi⟩
     ·exact ⟨_, .sl [] (by simp) (by simp) .nil, .cons (.sl [] none 0 0 (fun _ _ => undef) (Nat.le_refl _) (fun _ => rfl) (by simp) (fun i r h => by simp at h) (fun i r j g h => by simp at h)) .nil, by simp [bulkR, bulkG, bulkRs, Rows.uptoBulk]⟩
     ·simp only [if_true] at hmm
      subst hmm
      have hx : ∀ i, i < len → ∃ p : List G × List Value, TyL she p.1 ∧ PW (VRep (immW W)) p.1 p.2 ∧ p.2.length = she.length ∧ (∀ (j : Nat) u, p.2[j]? = some u → W.cell? ((a.add (i * she.length)).add j) = some u) ∧ bulkR p.1 ≤ Rows.uptoBulk (D i) := fun i hil => by
       obtain ⟨cs', hc, ht'⟩ := hi i (by omega)
       obtain ⟨gs, h1, h2, h3⟩ := decB d e she he n cs' _ ht'
       obtain ⟨-, hcl, hat⟩ := World.cells?_some hc
       rw [hsz] at hcl hat
       refine ⟨(gs, cs'), h1, h2, hcl, fun j u hu => ?_, h3⟩
       have hj : j < she.length := by rw [← hcl]; exact (List.getElem?_eq_some_iff.1 hu).1
       rw [hat j hj]
       exact hu
      haveI : Inhabited (List G × List Value) := ⟨([], [])⟩
      obtain ⟨p, hp⟩ := Go.Deep.choose_lt hx
      have hrow : ∀ (i : Nat) r, ((List.range len).map fun i => (p i).1)[i]? = some r → i < len ∧ r = (p i).1 := fun i r hr => by
       have hi := (List.getElem?_eq_some_iff.1 hr).1
       have hi' : i < len := by simpa using hi
       rw [List.getElem?_map, List.getElem?_range hi'] at hr
       exact ⟨hi', by simpa using hr.symm⟩
      have hsp : 0 < len → a = ⟨a.block, a.off, none⟩ := fun h0 => by
       have hq := (hp 0 h0).2.2.2.1 0 ((p 0).2[0]'(by rw [(hp 0 h0).2.2.1]; exact hpos)) (List.getElem?_eq_getElem _)
       have := World.cell?_spot hq
       simp only [Addr.add, Nat.zero_mul, if_true] at this
       cases a
       simp at this
       subst this
       rfl
      have key := VRep.sl (I := immW W) ((List.range len).map fun i => (p i).1) (some a) m she.length (fun i j => ((p i).2[j]?).getD undef) (by simpa using hl) (fun e => by cases e) (fun r hr => by
       obtain ⟨i, hi, e⟩ := List.mem_iff_getElem.1 hr
       obtain ⟨h1, h2⟩ := hrow i r (by rw [List.getElem?_eq_getElem hi, e])
       rw [h2, (hp i h1).2.1.1, (hp i h1).2.2.1]) (fun i r hr => by
       obtain ⟨h1, -⟩ := hrow i r hr
       refine ⟨a.block, a.off, by rw [← hsp (by omega)], fun j hj => ?_⟩
       have hj' : j < (p i).2.length := by rw [(hp i h1).2.2.1]; exact hj
       have hq := (hp i h1).2.2.2.1 j _ (List.getElem?_eq_getElem hj')
       rw [List.getElem?_eq_getElem hj', Option.getD_some, ← hq]
       unfold immW
       have e := hsp (by omega)
       generalize a.block = b at *
       generalize a.off = o at *
       subst e
       rw [add_off, add_off]) (fun i r j g hr hg => by
       obtain ⟨h1, rfl⟩ := hrow i r hr
       obtain ⟨u, h2, h3⟩ := (hp i h1).2.1.get hg
       rw [h2]
       exact h3)
      refine ⟨_, .sl ((List.range len).map fun i => (p i).1) (by simp; omega) (fun r hr => ?_) .nil, .cons (by simpa using key) .nil, ?_⟩
      ·obtain ⟨i, hi, rfl⟩ := List.mem_map.1 hr
       exact (hp i (List.mem_range.1 hi)).1
      ·have := bulk_map (List.range len) (fun i => (p i).1) D fun i hi => (hp i (List.mem_range.1 hi)).2.2.2.2
       simp only [bulkR, bulkG, Rows.uptoBulk]
       omega
   ·cases h
  ·next fs hu =>
   split at h
   ·next sh' hf =>
    cases hb : Nat.beq (P.cellsOf t) sh'.length with
    | false => rw [hb] at h; cases h
    | true =>
     rw [hb] at h
     have h : some sh' = some sh := h
     cases h
     have hsz := Nat.eq_of_beq_eq_true hb
     obtain ⟨xs, m, -, rfl, hlen, hxl, hel⟩ := DataW.trod_struct hu hy
     have key : ∀ (fs' : List Field) (xs' : List (DataW H × List MemPlace)) (off : Nat) (sh : List Sp), xs'.length = fs'.length → (∀ (j : Nat) f, fs'[j]? = some f → DataW.trod enc P W 0 (fun _ => true) true m f.type ((cs.drop f.offset).take (P.cellsOf f.type)) = xs'[j]?) → flatSF P (flatS P d) fs' off = some sh → cs.length = off + sh.length → ∃ gs, TyL sh gs ∧ PW (VRep (immW W)) gs (cs.drop off) ∧ bulkR gs ≤ Rows.uptoBulkAll (xs'.map (·.1)) := fun fs' => by
      induction fs' with
      | nil =>
       intro xs' off sh _ _ h hl
       cases h
       exact ⟨[], .nil, by rw [List.drop_eq_nil_of_le (by simp at hl; omega)]; exact .nil, by simp [bulkR]⟩
      | cons f fs' ih =>
       intro xs' off sh hxl hall h hl
       cases xs' with
       | nil => cases hxl
       | cons y xs' =>
        unfold flatSF at h
        split at h
        ·next sh1 e1 e2 =>
         split at h
         ·next sh2 e3 e4 =>
          cases h
          have e1 := Nat.eq_of_beq_eq_true e1
          have e3 := Nat.eq_of_beq_eq_true e3
          have hy := hall 0 f rfl
          obtain ⟨g1, t1, p1, b1⟩ := decB d f.type sh1 e2 m _ y hy
          rw [List.length_append] at hl
          obtain ⟨g2, t2, p2, b2⟩ := ih xs' (off + sh1.length) sh2 (by simpa using hxl) (fun j f hf => hall (j + 1) f (by simpa using hf)) e4 (by omega)
          rw [e1, e3] at p1
          refine ⟨g1 ++ g2, t1.app t2, pw_take_drop p1 ?_, ?_⟩
          ·rw [List.drop_drop]
           exact p2
          ·rw [bulkR_app]
           simp only [List.map_cons, Rows.uptoBulkAll]
           omega
         ·cases h
        ·cases h
     obtain ⟨gs, h1, h2, h3⟩ := key fs.toList xs 0 sh (by rw [hxl]; simp) (fun j f hf => hel j f (by simpa using hf)) hf (by omega)
     refine ⟨gs, h1, by simpa using h2, ?_⟩
     simp only [Rows.uptoBulk]
     omega
   ·cases h
  ·next n e hu =>
   split at h
   ·next she he =>
    cases hb : Nat.beq (P.cellsOf e) she.length && Nat.beq (P.cellsOf t) (n * she.length) with
    | false => rw [hb] at h; cases h
    | true =>
     rw [hb] at h
     have h : some (repS n she) = some sh := h
     cases h
     simp only [Bool.and_eq_true] at hb
     have hsz := Nat.eq_of_beq_eq_true hb.1
     have hct := Nat.eq_of_beq_eq_true hb.2
     obtain ⟨xs, m, -, rfl, hlen, hxl, hel⟩ := DataW.trod_array hu hy
     have key : ∀ (k i : Nat), i + k = n → ∃ gs, TyL (repS k she) gs ∧ PW (VRep (immW W)) gs (cs.drop (i * she.length)) ∧ bulkR gs ≤ Rows.uptoBulkAll ((xs.drop i).map (·.1)) := fun k => by
      induction k with
      | zero =>
       intro i hi
       refine ⟨[], .nil, ?_, by simp [bulkR]⟩
       rw [List.drop_eq_nil_of_le (by rw [hlen, hct, ← hi, Nat.add_zero]; exact Nat.le_refl _)]
       exact .nil
      | succ k ih =>
       intro i hi
       have hxi : i < xs.length := by omega
       have h1 := hel i (by omega)
       rw [List.getElem?_eq_getElem hxi] at h1
       obtain ⟨g1, t1, p1, b1⟩ := decB d e she he m _ _ h1
       obtain ⟨g2, t2, p2, b2⟩ := ih (i + 1) (by omega)
       rw [hsz] at p1
       refine ⟨g1 ++ g2, t1.app t2, pw_take_drop p1 ?_, ?_⟩
       ·rw [List.drop_drop]
        rw [Nat.succ_mul] at p2
        exact p2
       ·rw [bulkR_app, List.drop_eq_getElem_cons hxi]
        simp only [List.map_cons, Rows.uptoBulkAll]
        omega
     obtain ⟨gs, h1, h2, h3⟩ := key n 0 (by omega)
     refine ⟨gs, h1, by simpa using h2, ?_⟩
     simp only [Rows.uptoBulk]
     simp at h3
     omega
   ·cases h
  ·cases h
theorem argB_one {t : TypeId} {sp : Sp} {base : Nat} {v : Value} {d : DataW H} {p : List MemPlace} (hf : flatS P 100 t = some [sp]) (ha : aggB P t = some false) (hv : Value.okWide P W .any base t v) (h : DataW.Trod enc P W 0 (fun _ => true) true t v d p) : ∃ g, TyL [sp] [g] ∧ VRep (immW W) g v ∧ bulkG g ≤ Rows.uptoBulk d := by
 obtain ⟨fuel, hy⟩ := h
 obtain ⟨gs, h1, h2, h3⟩ := decB 100 t [sp] hf fuel _ _ hy
 have hag : ∀ cs, v ≠ .agg cs := fun cs e => by
  subst e
  unfold Value.okWide Cell.okWide at hv
  unfold flatS at hf
  unfold aggB at ha
  cases hu : P.underlying t with
  | none => rw [hu] at hf; cases hf
  | some u => rw [hu] at hf hv ha; cases u <;> first | (cases hf; done) | (simp at ha; done) | (simp [Cell.ok, hu] at hv; done)
 have hc : v.cells.toList = [v] := by cases v <;> first | rfl | exact absurd rfl (hag _)
 rw [hc] at h2
 have hl := h1.len
 obtain ⟨g, rfl⟩ := List.length_eq_one_iff.1 hl
 exact ⟨g, h1, h2.2 0 g v rfl rfl, by simpa [bulkR] using h3⟩
end
end Go.Proofs.YtalfffamppmooaaGreatDoor

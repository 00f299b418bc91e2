/- A part of the proof, merged from several texts. -/
import Derived.Test.YtpcjmefchclhhaaGreatSxMc
import Derived.Test.YtpcjmefchclhhaaGreatZFsA
import Derived.Test.YtpcjmefchclhhaaGreatZFsE
import Derived.Test.YtpcjmefchclhhaaGreatZFsG
import Derived.Test.YtpcjmefchclhhaaGreatZFsI
import Derived.Test.YtpcjmefchclhhaaGreatZFsF
import Derived.Test.YtpcjmefchclhhaaGreatZFsR
import Derived.Test.YtpcjmefchclhhaaGreatFsXW
import Derived.Test.YtpcjmefchclhhaaGreatZFsL
import Derived.Test.YtpcjmefchclhhaaGreatZFsJ
import Derived.Test.YtpcjmefchclhhaaGreatZFsLa
import Derived.Test.YtpcjmefchclhhaaGreatZFsO
import Derived.Test.YtpcjmefchclhhaaGreatZFsQ
import Derived.Test.YtpcjmefchclhhaaGreatZFsP
import Derived.Test.YtpcjmefchclhhaaGreatZFtL
import Derived.Sort.Walk0
namespace Go.Proofs.YtpcjmefchclhhaaGreat
open Go.RowKit
set_option maxRecDepth 100000
def gNu (n : Nat) : List G := [.v (.int .i64 n)]
def enI (x : RIn) : List G := [.v (.int .i64 x.id), .v (.int .i64 x.gen), .v (.int .i64 x.kind), .v (.int .i64 x.mode), .v (.int .i64 x.time), .v (.int .i64 x.parent), .v (.string x.target), .sl (x.B.map gBy), .sl (x.On.map gNu)]
def enN (x : RNm) : List G := [.v (.int .i64 x.dir), .v (.string x.name), .v (.int .i64 x.id)]
def enG (n : Int) : List G := [.v (.int .i64 n)]
def enF (r : RFs) : G := .agg [.v (.int .i64 r.room), .sl (r.ins.map enI), .sl (r.nms.map enN), .sl (r.gens.map enG)]
structure Few (r : RFs) : Prop where
 i : r.ins.length ≤ 1000
 n : r.nms.length ≤ 1000000
 g : r.gens.length ≤ 1000
theorem eqI {a b : Int} (h : a = b) : (some (G.v (.int .i64 a)) : Option G) = some (G.v (.int .i64 b)) := by rw [h]
theorem eqN {a b : Nat} (h : b = a) : (some (G.v (.int .i64 a)) : Option G) = some (G.v (.int .i64 b)) := by rw [h]
theorem eqN1 {a b : Nat} (h : b = a + 1) : (some (G.v (.int .i64 ((a : Int) + 1))) : Option G) = some (G.v (.int .i64 b)) := by rw [h]; rfl
theorem eqR {a b : List (List G)} {e sz : Nat} (h : a = b) : (some (R.slc a e sz) : Option R) = some (R.slc b e sz) := by rw [h]
theorem take_more {α : Type} {l : List α} {i : Nat} {x : α} (h : l[i]? = some x) : l.take (i + 1) = l.take i ++ [x] := by
 have hi := (List.getElem?_eq_some_iff.1 h)
 rw [List.take_succ_eq_append_getElem hi.1, hi.2]
theorem lt_of_at {α : Type} {l : List α} {i : Nat} {x : α} (h : l[i]? = some x) : i < l.length := (List.getElem?_eq_some_iff.1 h).1
theorem find_at {α : Type} {p : α → Bool} {l : List α} {i : Nat} {x : α} (h : l[i]? = some x) (hno : ∀ y ∈ l.take i, p y = false) (hp : p x = true) : l.find? p = some x := by
 rw [List.find?_eq_some_iff_getElem]
 obtain ⟨hi, e⟩ := List.getElem?_eq_some_iff.1 h
 refine ⟨hp, i, hi, e, fun j hj => ?_⟩
 have := hno l[j] (List.mem_iff_getElem.2 ⟨j, by rw [List.length_take]; omega, by simp⟩)
 rw [this]; rfl
theorem take_no {α : Type} {p : α → Prop} {l : List α} {i : Nat} {x : α} (h : l[i]? = some x) (hno : ∀ y ∈ l.take i, ¬ p y) (hp : ¬ p x) : ∀ y ∈ l.take (i + 1), ¬ p y := fun y hy => by
 rw [take_more h] at hy
 rcases List.mem_append.1 hy with hy | hy
 ·exact hno y hy
 ·rw [List.mem_singleton.1 hy]; exact hp
theorem take_all {α : Type} {p : α → Prop} {l : List α} {i : Nat} (h : ¬ i < l.length) (hno : ∀ y ∈ l.take i, p y) : ∀ y ∈ l, p y := fun y hy => hno y (by rw [List.take_of_length_le (by omega)]; exact hy)
theorem byId_q (r : RFs) (hF : Few r) (id : Int) : FnV Tryz.prog 30 [enF r, .v (.int .i64 id)] fun g => g = .agg (enI (byIdP r.ins id)) := by
 refine fnG Tryz.func30 (by kernel_rfl) rfl (Nat.le_of_ble_eq_true (by kernel_rfl)) (by kernel_rfl) ?_
 have hl := hF.i
 refine sx_loop [1, 2, 4] [0, 1] (fun i : Nat => [(5, .v (.int .i64 i))]) (fun _ => []) (fun i => i ≤ r.ins.length ∧ ∀ x ∈ r.ins.take i, ¬ x.id = id) (fun i => r.ins.length - i) 0 ⟨by omega, by simp⟩ ⟨⟨rfl, rfl⟩, trivial⟩ trivial rfl fun i ⟨hi, hno⟩ => ?_
 refine EvIf.dec (fun h => ?_) (fun h => ?_)
 ·refine EvIdx.of (by simpa using h) fun x hx => EvIf.beq (fun h2 => ?_) (fun h2 => ?_)
  ·refine EvIdx.at hx ?_
   have e : byIdP r.ins id = x := by
    unfold byIdP
    rw [find_at hx (fun y hy => decide_eq_false (hno y hy)) (decide_eq_true h2)]
    rfl
   show G.agg (enI x) = _
   rw [e]
  ·have := lt_of_at hx
   refine ⟨by omega, i + 1, ⟨by omega, take_no hx hno h2⟩, (by dsimp only; omega), ?_⟩
   refine ⟨?_, ?_, rfl⟩ <;> repeat' (first | exact True.intro | with_reducible rfl | exact rfl | refine And.intro ?_ ?_)
 ·rw [show byIdP r.ins id = rin0 from byIdP_none (take_all (by simpa using h) hno)]
  rfl
theorem find_q (r : RFs) (hF : Few r) (i g : Int) : FnV Tryz.prog 62 [enF r, .agg [.v (.int .i64 i), .v (.int .i64 g)]] fun q => q = .tup [.agg (enI (if liveP r (i, g) = true then byIdP r.ins i else rin0)), .v (.int .i64 (findE r (i, g)))] := by
 refine fnG Tryz.func62 (by kernel_rfl) rfl (Nat.le_of_ble_eq_true (by kernel_rfl)) (by kernel_rfl) ?_
 refine (byId_q r hF i).cal fun q hq => ?_
 subst hq
 have e : liveP r (i, g) = decide ((byIdP r.ins i).id ≠ 0 ∧ (byIdP r.ins i).gen = g) := rfl
 refine EvIf.beq (fun h => ?_) (fun h => EvIf.bne (fun h2 => ?_) (fun h2 => ?_))
 ·have : liveP r (i, g) = false := by rw [e]; simp [h]
  simp only [findE, this, Bool.false_eq_true, if_false]; rfl
 ·have : liveP r (i, g) = false := by rw [e]; simp [h2]
  simp only [findE, this, Bool.false_eq_true, if_false]; rfl
 ·have : liveP r (i, g) = true := by rw [e]; simp [h, h2]
  simp only [findE, this, if_true]; rfl
theorem findQ_e {r : RFs} {i g : Int} : (liveP r (i, g) = true ∧ findE r (i, g) = 0) ∨ (liveP r (i, g) = false ∧ findE r (i, g) = 175 ∧ folderE r (i, g) = 175) := by
 unfold findE folderE
 cases liveP r (i, g) <;> simp
theorem folder_q (r : RFs) (hF : Few r) (i g : Int) : FnV Tryz.prog 27 [enF r, .agg [.v (.int .i64 i), .v (.int .i64 g)]] fun q => q = .tup [.agg (enI (if folderE r (i, g) = 0 then byIdP r.ins i else rin0)), .v (.int .i64 (folderE r (i, g)))] := by
 refine fnG Tryz.func27 (by kernel_rfl) rfl (Nat.le_of_ble_eq_true (by kernel_rfl)) (by kernel_rfl) ?_
 refine (find_q r hF i g).cal fun q hq => ?_
 subst hq
 rcases findQ_e (r := r) (i := i) (g := g) with ⟨hl, he⟩ | ⟨hl, he, hf⟩
 ·rw [hl, he, if_pos rfl]
  refine EvIf.beq (fun _ => EvIf.bne (fun h => ?_) (fun h => ?_)) (fun h => absurd rfl h)
  ·have hf : folderE r (i, g) = 173 := by unfold folderE; rw [hl]; exact (if_neg h : ite _ _ _ = _)
   rw [hf]; exact rfl
  ·have hf : folderE r (i, g) = 0 := by unfold folderE; rw [hl]; exact (if_pos h : ite _ _ _ = _)
   rw [hf]; exact rfl
 ·rw [hl, he, hf]
  exact EvIf.beq (fun h => by cases h) (fun _ => by exact rfl)
def fileE (r : RFs) (h : Int × Int) : Int := if liveP r h = true then (if (byIdP r.ins h.1).kind = 2 then 172 else if (byIdP r.ins h.1).kind = 3 then 1 else 0) else 175
theorem file_q (r : RFs) (hF : Few r) (i g : Int) : FnV Tryz.prog 71 [enF r, .agg [.v (.int .i64 i), .v (.int .i64 g)]] fun q => q = .tup [.agg (enI (if liveP r (i, g) = true then byIdP r.ins i else rin0)), .v (.int .i64 (fileE r (i, g)))] := by
 refine fnG Tryz.func71 (by kernel_rfl) rfl (Nat.le_of_ble_eq_true (by kernel_rfl)) (by kernel_rfl) ?_
 refine (find_q r hF i g).cal fun q hq => ?_
 subst hq
 rcases findQ_e (r := r) (i := i) (g := g) with ⟨hl, he⟩ | ⟨hl, he, hf⟩
 ·have e : fileE r (i, g) = if (byIdP r.ins i).kind = 2 then 172 else if (byIdP r.ins i).kind = 3 then 1 else 0 := by unfold fileE; rw [hl]; rfl
  rw [hl, he, e, if_pos rfl]
  refine EvIf.bne (fun h => absurd rfl h) (fun _ => EvIf.beq (fun h => ?_) (fun h => ?_))
  ·rw [if_pos h]; exact rfl
  ·rw [if_neg h]
   refine EvIf.beq (fun h2 => ?_) (fun h2 => ?_)
   ·rw [if_pos h2]; exact rfl
   ·rw [if_neg h2]; exact rfl
 ·have e : fileE r (i, g) = 175 := by unfold fileE; rw [hl]; rfl
  rw [hl, he, e]
  exact EvIf.bne (fun h => by exact rfl) (fun h => by cases h)
theorem valid_q (s : ByteArray) (hs : s.size ≤ maxLen) : FnV Tryz.prog 28 [.v (.string s)] fun g => g = .v (.bool (validP s)) := by
 refine fnG Tryz.func28 (by kernel_rfl) rfl (Nat.le_of_ble_eq_true (by kernel_rfl)) (by kernel_rfl) ?_
 unfold maxLen at hs
 refine sx_loop [0] [] (fun i : Nat => [(3, .v (.int .i64 i))]) (fun _ => []) (fun i => i ≤ s.size ∧ ∀ c ∈ s.data.toList.take i, ¬ (c = 47 ∨ c = 0)) (fun i => s.size - i) 0 ⟨by omega, by simp⟩ ⟨⟨rfl, rfl⟩, trivial⟩ trivial rfl fun i ⟨hi, hno⟩ => ?_
 refine EvIf.dec (fun h => ?_) (fun h => ?_)
 ·have hlt : i < s.data.toList.length := by simpa using h
  have bad : ∀ c, s.data.toList[i]? = some c → (c = 47 ∨ c = 0) → validP s = false := fun c hc h => by
   have : (s.data.toList.all fun c => decide (c ≠ 47 ∧ c ≠ 0)) = false := by
    rw [List.all_eq_false]
    exact ⟨c, List.mem_of_getElem? hc, by rcases h with h | h <;> simp [h]⟩
   unfold validP; rw [this, Bool.and_false]
  refine ⟨⟨by omega, by omega⟩, fun c hc => EvIf.beq (fun h1 => ?_) (fun h1 => ⟨⟨by omega, by omega⟩, fun c' hc' => EvIf.beq (fun h2 => ?_) (fun h2 => ?_)⟩)⟩
  ·rw [bad c (by simpa using hc) (.inl (UInt8.toNat_inj.1 (by simpa using (by omega : c.toNat = 47))))]; rfl
  ·rw [bad c' (by simpa using hc') (.inr (UInt8.toNat_inj.1 (by simpa using (by omega : c'.toNat = 0))))]; rfl
  ·rw [hc] at hc'
   obtain rfl := Option.some.inj hc'
   refine ⟨by omega, i + 1, ⟨by omega, ?_⟩, (by dsimp only; omega), ?_⟩
   ·refine take_no (by simpa using hc) hno ?_
    rintro (rfl | rfl)
    ·exact h1 rfl
    ·exact h2 rfl
   ·refine ⟨?_, ?_, rfl⟩ <;> repeat' (first | exact True.intro | with_reducible rfl | exact rfl | refine And.intro ?_ ?_)
 ·have ok : (s.data.toList.all fun c => decide (c ≠ 47 ∧ c ≠ 0)) = true := by
   rw [List.all_eq_true]
   intro c hc
   have := take_all (p := fun c => ¬ (c = 47 ∨ c = 0)) (by simpa using h) hno c hc
   simp at this ⊢
   exact this
  have e : validP s = decide (1 ≤ s.size ∧ s.size ≤ 60 ∧ s ≠ dotS ∧ s ≠ dot2S) := by unfold validP; rw [ok, Bool.and_true]
  rw [e]
  have ed : dotS = ⟨#[46]⟩ := rfl
  have ed2 : dot2S = ⟨#[46, 46]⟩ := rfl
  refine EvIf.dec (fun h1 => EvIf.dec (fun h2 => EvIf.bneS (fun h3 => ?_) (fun h3 => ?_)) (fun h2 => ?_)) (fun h1 => ?_)
  ·show G.v (.bool (!(s.toList == dot2S.toList))) = _
   rw [bytes_eq]
   have h3 : s ≠ dotS := h3
   have h1 : 1 ≤ s.size := by omega
   have h2 : s.size ≤ 60 := by omega
   simp [h1, h2, h3]
  ·have : ¬ (1 ≤ s.size ∧ s.size ≤ 60 ∧ s ≠ dotS ∧ s ≠ dot2S) := fun h => h.2.2.1 h3
   rw [decide_eq_false this]; exact rfl
  ·have : ¬ (1 ≤ s.size ∧ s.size ≤ 60 ∧ s ≠ dotS ∧ s ≠ dot2S) := fun h => h2 (by have := h.2.1; omega)
   rw [decide_eq_false this]; exact rfl
  ·have : ¬ (1 ≤ s.size ∧ s.size ≤ 60 ∧ s ≠ dotS ∧ s ≠ dot2S) := fun h => h1 (by have := h.1; show (s.size : Int) ≥ 1; omega)
   rw [decide_eq_false this]; exact rfl
end Go.Proofs.YtpcjmefchclhhaaGreat
namespace Go.Proofs.YtpcjmefchclhhaaGreat
open Go.RowKit
set_option maxRecDepth 100000
theorem entry_q (r : RFs) (hF : Few r) (dir : Int) (s : ByteArray) : FnV Tryz.prog 29 [enF r, .v (.int .i64 dir), .v (.string s)] fun g => g = .v (.int .i64 (entryP r.nms dir s)) := by
 refine fnG Tryz.func29 (by kernel_rfl) rfl (Nat.le_of_ble_eq_true (by kernel_rfl)) (by kernel_rfl) ?_
 have hl := hF.n
 refine sx_loop [1, 2, 3] [0] (fun i : Nat => [(7, .v (.int .i64 i))]) (fun _ => []) (fun i => i ≤ r.nms.length ∧ ∀ n ∈ r.nms.take i, ¬ (n.dir = dir ∧ n.name = s)) (fun i => r.nms.length - i) 0 ⟨by omega, by simp⟩ ⟨⟨rfl, rfl⟩, trivial⟩ trivial rfl fun i ⟨hi, hno⟩ => ?_
 refine EvIf.dec (fun h => ?_) (fun h => ?_)
 ·refine EvIdx.of (by simpa using h) fun x hx => ?_
  have hlt := lt_of_at hx
  have nx : ¬ (x.dir = dir ∧ x.name = s) → i + 1 ≤ r.nms.length ∧ ∀ n ∈ r.nms.take (i + 1), ¬ (n.dir = dir ∧ n.name = s) := fun h => ⟨by omega, take_no hx hno h⟩
  refine EvIf.beq (fun h1 => EvIdx.at hx (EvIf.beqS (fun h2 => EvIdx.at hx ?_) (fun h2 => ?_))) (fun h1 => ?_)
  ·have e : entryP r.nms dir s = x.id := by
    unfold entryP
    rw [find_at hx (fun y hy => decide_eq_false (hno y hy)) (decide_eq_true ⟨h1, h2⟩)]
    rfl
   rw [e]; exact rfl
  ·refine ⟨by omega, i + 1, nx fun h => h2 h.2, (by dsimp only; omega), ?_⟩
   refine ⟨?_, ?_, rfl⟩ <;> repeat' (first | exact True.intro | with_reducible rfl | exact rfl | refine And.intro ?_ ?_)
  ·refine ⟨by omega, i + 1, nx fun h => h1 h.1, (by dsimp only; omega), ?_⟩
   refine ⟨?_, ?_, rfl⟩ <;> repeat' (first | exact True.intro | with_reducible rfl | exact rfl | refine And.intro ?_ ?_)
 ·have e : entryP r.nms dir s = 0 := by
   unfold entryP
   rw [List.find?_eq_none.2 fun n hn => by simpa using take_all (by simpa using h) hno n hn]
   rfl
  rw [e]; exact rfl
theorem countP_take {α : Type} (p : α → Bool) {L : List α} {i : Nat} {m : α} (h : L[i]? = some m) : (L.take (i + 1)).countP p = (L.take i).countP p + if p m = true then 1 else 0 := by
 rw [take_more h, List.countP_append, List.countP_singleton]
theorem many_q (r : RFs) (hF : Few r) (dir : Int) : FnV Tryz.prog 66 [enF r, .v (.int .i64 dir)] fun g => g = .v (.int .i64 (manyP r.nms dir : Int)) := by
 refine fnG Tryz.func66 (by kernel_rfl) rfl (Nat.le_of_ble_eq_true (by kernel_rfl)) (by kernel_rfl) ?_
 have hl := hF.n
 refine sx_loop [1, 2] [0] (fun i : Nat => [(6, .v (.int .i64 i)), (5, .v (.int .i64 (manyP (r.nms.take i) dir : Int)))]) (fun _ => []) (fun i => i ≤ r.nms.length) (fun i => r.nms.length - i) 0 (by omega) ⟨⟨rfl, rfl⟩, ⟨rfl, rfl⟩, trivial⟩ trivial rfl fun i hi => ?_
 refine EvIf.dec (fun h => ?_) (fun h => ?_)
 ·refine EvIdx.of (by simpa using h) fun x hx => ?_
  have hlt := lt_of_at hx
  have e := countP_take (fun n : RNm => decide (n.dir = dir)) hx
  have hle : manyP (r.nms.take i) dir ≤ i := Nat.le_trans List.countP_le_length (List.length_take_le _ _)
  refine EvIf.beq (fun h1 => ⟨by omega, ⟨by omega, i + 1, by omega, (by dsimp only; omega), ?_⟩⟩) (fun h1 => ⟨by omega, i + 1, by omega, (by dsimp only; omega), ?_⟩)
  ·refine ⟨?_, ?_, rfl⟩ <;> repeat' (first | exact True.intro | with_reducible rfl | exact rfl | refine And.intro ?_ ?_)
   exact eqN1 (show manyP (r.nms.take (i + 1)) dir = manyP (r.nms.take i) dir + 1 by unfold manyP; rw [e]; simp [show x.dir = dir from h1])
  ·refine ⟨?_, ?_, rfl⟩ <;> repeat' (first | exact True.intro | with_reducible rfl | exact rfl | refine And.intro ?_ ?_)
   exact eqN (show manyP (r.nms.take (i + 1)) dir = manyP (r.nms.take i) dir by unfold manyP; rw [e]; simp [show ¬ x.dir = dir from h1])
 ·rw [List.take_of_length_le (by simp at h; omega)]; exact rfl
def lkB (r : RFs) (x : RIn) (n : RNm) : Bool := if x.kind = 2 then decide (n.dir = x.id ∧ (byIdP r.ins n.id).kind = 2) else decide (n.id = x.id)
theorem linksN_eq (r : RFs) (x : RIn) : linksN r x = r.nms.countP (lkB r x) + if x.kind = 2 then 2 else 0 := by
 unfold linksN lkB
 split <;> simp [*]
theorem links_q (r : RFs) (hF : Few r) (x : RIn) : FnV Tryz.prog 65 [enF r, .agg (enI x)] fun g => g = .v (.int .i64 (linksN r x : Int)) := by
 refine fnG Tryz.func65 (by kernel_rfl) rfl (Nat.le_of_ble_eq_true (by kernel_rfl)) (by kernel_rfl) ?_
 have hl := hF.n
 refine sx_loop [2, 3, 4] [0, 1] (fun i : Nat => [(6, .v (.int .i64 i)), (5, .v (.int .i64 ((r.nms.take i).countP (lkB r x) : Int)))]) (fun _ => []) (fun i => i ≤ r.nms.length) (fun i => r.nms.length - i) 0 (by omega) ⟨⟨rfl, rfl⟩, ⟨rfl, rfl⟩, trivial⟩ trivial rfl fun i hi => ?_
 have hle : (r.nms.take i).countP (lkB r x) ≤ i := Nat.le_trans List.countP_le_length (List.length_take_le _ _)
 refine EvIf.dec (fun h => ?_) (fun h => ?_)
 ·have hlt : i < r.nms.length := by simpa using h
  obtain ⟨n, hn⟩ : ∃ n, r.nms[i]? = some n := ⟨_, List.getElem?_eq_getElem hlt⟩
  have e := countP_take (lkB r x) hn
  have yes : lkB r x n = true → (r.nms.take (i + 1)).countP (lkB r x) = (r.nms.take i).countP (lkB r x) + 1 := fun h => by rw [e, h]; rfl
  have no : lkB r x n = false → (r.nms.take (i + 1)).countP (lkB r x) = (r.nms.take i).countP (lkB r x) := fun h => by rw [e, h]; rfl
  refine EvIf.beq (fun h1 => ?_) (fun h1 => ?_)
  ·have hk : x.kind = 2 := h1
   refine EvIdx.at hn (EvIf.beq (fun h2 => EvIdx.at hn ((byId_q r hF n.id).cal fun q hq => ?_)) (fun h2 => ?_))
   ·subst hq
    refine EvIf.beq (fun h3 => ⟨by omega, ?_⟩) (fun h3 => ?_)
    ·refine EvIf.bne (fun h => absurd hk h) (fun _ => ⟨by omega, i + 1, by omega, (by dsimp only; omega), ?_⟩)
     refine ⟨?_, ?_, rfl⟩ <;> repeat' (first | exact True.intro | with_reducible rfl | exact rfl | refine And.intro ?_ ?_)
     exact eqN1 (yes (by unfold lkB; rw [if_pos hk]; exact decide_eq_true ⟨h2, h3⟩))
    ·refine EvIf.bne (fun h => absurd hk h) (fun _ => ⟨by omega, i + 1, by omega, (by dsimp only; omega), ?_⟩)
     refine ⟨?_, ?_, rfl⟩ <;> repeat' (first | exact True.intro | with_reducible rfl | exact rfl | refine And.intro ?_ ?_)
     exact eqN (no (by unfold lkB; rw [if_pos hk]; exact decide_eq_false fun h => h3 h.2))
   ·refine EvIf.bne (fun h => absurd hk h) (fun _ => ⟨by omega, i + 1, by omega, (by dsimp only; omega), ?_⟩)
    refine ⟨?_, ?_, rfl⟩ <;> repeat' (first | exact True.intro | with_reducible rfl | exact rfl | refine And.intro ?_ ?_)
    exact eqN (no (by unfold lkB; rw [if_pos hk]; exact decide_eq_false fun h => h2 h.1))
  ·have hk : ¬ x.kind = 2 := h1
   refine EvIf.bne (fun _ => EvIdx.at hn (EvIf.beq (fun h2 => ⟨by omega, ⟨by omega, i + 1, by omega, (by dsimp only; omega), ?_⟩⟩) (fun h2 => ⟨by omega, i + 1, by omega, (by dsimp only; omega), ?_⟩))) (fun h => absurd h hk)
   ·refine ⟨?_, ?_, rfl⟩ <;> repeat' (first | exact True.intro | with_reducible rfl | exact rfl | refine And.intro ?_ ?_)
    exact eqN1 (yes (by unfold lkB; rw [if_neg hk]; exact decide_eq_true h2))
   ·refine ⟨?_, ?_, rfl⟩ <;> repeat' (first | exact True.intro | with_reducible rfl | exact rfl | refine And.intro ?_ ?_)
    exact eqN (no (by unfold lkB; rw [if_neg hk]; exact decide_eq_false h2))
 ·rw [List.take_of_length_le (by simp at h; omega)] at hle ⊢
  have e := linksN_eq r x
  refine EvIf.beq (fun h1 => ⟨by omega, ?_⟩) (fun h1 => ?_)
  ·have hk : x.kind = 2 := h1
   rw [if_pos hk] at e
   rw [e]; exact rfl
  ·have hk : ¬ x.kind = 2 := h1
   rw [if_neg hk] at e
   rw [e]; exact rfl
end Go.Proofs.YtpcjmefchclhhaaGreat
namespace Go.Proofs.YtpcjmefchclhhaaGreat
open Go.RowKit
set_option maxRecDepth 100000
theorem lookP_eq (r : RFs) (h : Int × Int) (s : ByteArray) : lookP r h s = if folderE r h ≠ 0 then ((0, 0), folderE r h) else if s = dotS then (h, 0) else if s = dot2S then (((byIdP r.ins h.1).parent, (byIdP r.ins (byIdP r.ins h.1).parent).gen), 0)
  else if validP s = false then ((0, 0), 176) else if entryP r.nms h.1 s = 0 then ((0, 0), 170) else ((entryP r.nms h.1 s, (byIdP r.ins (entryP r.nms h.1 s)).gen), 0) := by
 unfold lookP placeE
 by_cases h1 : folderE r h = 0 <;> by_cases h2 : s = dotS <;> by_cases h3 : s = dot2S <;> cases validP s <;> simp [h1, h2, h3] <;> simp_all
def enHE (p : (Int × Int) × Int) : G := .tup [.agg [.v (.int .i64 p.1.1), .v (.int .i64 p.1.2)], .v (.int .i64 p.2)]
theorem folder_id {r : RFs} {i g : Int} (h : folderE r (i, g) = 0) : (byIdP r.ins i).id = i := by
 have : liveP r (i, g) = true := by
  unfold folderE at h
  cases hl : liveP r (i, g) with
  | true => rfl
  | false => rw [hl] at h; cases h
 exact (live_mem this).2.1
theorem look_q (r : RFs) (hF : Few r) {K : Nat} (hW : Wf r K) (i g : Int) (s : ByteArray) (hs : s.size ≤ maxLen) : FnV Tryz.prog 15 [enF r, .agg [.v (.int .i64 i), .v (.int .i64 g)], .v (.string s)] fun q => q = enHE (lookP r (i, g) s) := by
 refine fnG Tryz.func15 (by kernel_rfl) rfl (Nat.le_of_ble_eq_true (by kernel_rfl)) (by kernel_rfl) ?_
 refine (folder_q r hF i g).cal fun q hq => ?_
 subst hq
 rw [lookP_eq]
 by_cases hf : folderE r (i, g) = 0
 ·rw [hf, if_pos rfl, if_neg (by simp)]
  have hid := folder_id hf
  refine EvIf.bne (fun h => absurd rfl h) fun _ => EvIf.beqS (fun (h : s = dotS) => ?_) (fun (h : ¬ s = dotS) => ?_)
  ·rw [if_pos h]; exact rfl
  ·rw [if_neg h]
   refine EvIf.bneS (fun (h2 : ¬ s = dot2S) => ?_) (fun (h2 : s = dot2S) => ?_)
   ·rw [if_neg h2]
    refine (valid_q s hs).cal fun q hq => ?_
    subst hq
    cases hv : validP s with
    | false => exact ⟨fun _ => (by rw [if_pos rfl]; exact rfl), fun h => by cases h⟩
    | true =>
     rw [if_neg (by simp)]
     refine ⟨fun h => (by cases h), fun _ => (entry_q r hF _ s).cal fun q hq => ?_⟩
     rw [hid] at hq
     subst hq
     refine EvIf.beq (fun h3 => ?_) (fun h3 => ?_)
     ·rw [if_pos h3]; exact rfl
     ·rw [if_neg h3]
      refine (byId_q r hF _).cal fun q hq => ?_
      subst hq
      exact rfl
   ·rw [if_pos h2]
    refine EvIf.beq (fun h3 => ?_) (fun h3 => ?_)
    ·exfalso
     have hl : liveP r (i, g) = true := by
      unfold folderE at hf
      cases hl : liveP r (i, g) with
      | true => rfl
      | false => rw [hl] at hf; cases hf
     have hk : (byIdP r.ins i).kind = 2 := by
      unfold folderE at hf
      rw [hl] at hf
      by_cases hk : (byIdP r.ins i).kind = 2
      ·exact hk
      ·simp [hk] at hf
     obtain ⟨p, hp, e, -⟩ := hW.par _ (live_mem hl).1 hk
     have := hW.ne0 hp
     exact this (e.trans h3)
    ·refine (byId_q r hF _).cal fun q hq => ?_
     subst hq
     exact rfl
 ·rw [if_pos hf]
  exact EvIf.bne (fun _ => by exact rfl) (fun h => absurd h hf)
def targetP (r : RFs) (h : Int × Int) : ByteArray × Int := if liveP r h = true then (if (byIdP r.ins h.1).kind = 3 then ((byIdP r.ins h.1).target, 0) else (noStr, 1)) else (noStr, 175)
theorem target_q (r : RFs) (hF : Few r) (i g : Int) : FnV Tryz.prog 36 [enF r, .agg [.v (.int .i64 i), .v (.int .i64 g)]] fun q => q = .tup [.v (.string (targetP r (i, g)).1), .v (.int .i64 (targetP r (i, g)).2)] := by
 refine fnG Tryz.func36 (by kernel_rfl) rfl (Nat.le_of_ble_eq_true (by kernel_rfl)) (by kernel_rfl) ?_
 refine (find_q r hF i g).cal fun q hq => ?_
 subst hq
 unfold targetP
 rcases findQ_e (r := r) (i := i) (g := g) with ⟨hl, he⟩ | ⟨hl, he, hf⟩
 ·rw [hl, he, if_pos rfl, if_pos rfl]
  refine EvIf.bne (fun h => absurd rfl h) fun _ => EvIf.bne (fun h => ?_) (fun h => ?_)
  ·rw [if_neg h]; exact rfl
  ·rw [if_pos h]; exact rfl
 ·rw [hl, he, if_neg (by simp)]
  exact EvIf.bne (fun h => by exact rfl) (fun h => by cases h)
theorem may_q (r : RFs) (hF : Few r) (id : Int) (fo : Bool) (hid : (byIdP r.ins id).kind = 2 → (byIdP r.ins id).id = id) : FnV Tryz.prog 83 [enF r, .v (.int .i64 id), .v (.bool fo)] fun q => q = .v (.int .i64 (mayP r (byIdP r.ins id) fo)) := by
 refine fnG Tryz.func83 (by kernel_rfl) rfl (Nat.le_of_ble_eq_true (by kernel_rfl)) (by kernel_rfl) ?_
 refine (byId_q r hF id).cal fun q hq => ?_
 subst hq
 unfold mayP
 refine EvIf.beq (fun h => ?_) (fun h => ?_)
 ·rw [if_pos h, hid h]
  cases fo with
  | false => exact ⟨fun _ => (by rw [if_neg (by simp)]; exact rfl), fun h => by cases h⟩
  | true =>
   rw [if_pos rfl]
   refine ⟨fun h => (by cases h), fun _ => EvIf.bne (fun h2 => absurd h h2) fun _ => EvIf.beq (fun _ => (many_q r hF id).cal fun q hq => ?_) (fun h2 => absurd h h2)⟩
   subst hq
   refine EvIf.dec (fun h => ?_) (fun h => ?_)
   ·rw [if_pos (by omega)]; exact rfl
   ·rw [if_neg (by omega)]; exact rfl
 ·rw [if_neg h]
  refine EvIf.bne (fun _ => ?_) (fun h2 => absurd h2 h)
  cases fo with
  | false => exact ⟨fun h => (by cases h), fun _ => EvIf.beq (fun h2 => absurd h2 h) fun _ => (by rw [if_neg (by simp)]; exact rfl)⟩
  | true => exact ⟨fun _ => (by rw [if_pos rfl]; exact rfl), fun h => by cases h⟩
end Go.Proofs.YtpcjmefchclhhaaGreat
namespace Go.Proofs.YtpcjmefchclhhaaGreat
open Go.RowKit
set_option maxRecDepth 100000
theorem filter_take {α : Type} (p : α → Bool) {L : List α} {i : Nat} {m : α} (h : L[i]? = some m) : (L.take (i + 1)).filter p = (L.take i).filter p ++ if p m = true then [m] else [] := by
 rw [take_more h, List.filter_append]
 cases hp : p m <;> simp [hp]
theorem filter_yes {α β : Type} (p : α → Bool) (f : α → β) {L : List α} {i : Nat} {m : α} (h : L[i]? = some m) (hp : p m = true) : ((L.take i).filter p).map f ++ [f m] = ((L.take (i + 1)).filter p).map f := by
 rw [filter_take p h, if_pos hp]; simp
theorem filter_no {α β : Type} (p : α → Bool) (f : α → β) {L : List α} {i : Nat} {m : α} (h : L[i]? = some m) (hp : p m = false) : ((L.take i).filter p).map f = ((L.take (i + 1)).filter p).map f := by
 rw [filter_take p h, hp]; simp
theorem filter_le {α : Type} (p : α → Bool) (L : List α) (i : Nat) : ((L.take i).filter p).length ≤ L.length := Nat.le_trans (List.length_filter_le _ _) (List.length_take_le' _ _)
theorem bad_q (m : RMk) (hm : m.target.size ≤ maxLen) : FnV Tryz.prog 80 [.agg [.v (.int .i64 m.kind), .v (.int .i64 m.mode), .v (.int .i64 m.time), .v (.string m.target)]] fun q => q = .v (.bool (!rightB m)) := by
 refine fnG Tryz.func80 (by kernel_rfl) rfl (Nat.le_of_ble_eq_true (by kernel_rfl)) (by kernel_rfl) ?_
 have no : ¬ (1 ≤ m.kind ∧ m.kind ≤ 3 ∧ 0 ≤ m.mode ∧ m.mode < 4096 ∧ 0 ≤ m.time ∧ m.time ≤ 1099511627776) → rightB m = false := fun h => decide_eq_false fun h' => h ⟨h'.1, h'.2.1, h'.2.2.1, h'.2.2.2.1, h'.2.2.2.2.1, h'.2.2.2.2.2.1⟩
 unfold maxLen at hm
 have em : m.target = ⟨#[]⟩ ↔ m.target.size = 0 := ⟨fun h => by rw [h]; rfl, fun h => by
  exact size0 h⟩
 refine EvIf.dec (fun (h : m.kind < 1) => ?_) fun (h1 : ¬ m.kind < 1) => EvIf.dec (fun (h : m.kind > 3) => ?_) fun (h2 : ¬ m.kind > 3) => EvIf.dec (fun (h : m.mode < 0) => ?_) fun (h3 : ¬ m.mode < 0) => EvIf.dec (fun (h : m.mode > 4095) => ?_) fun (h4 : ¬ m.mode > 4095) =>
  EvIf.dec (fun (h : m.time < 0) => ?_) fun (h5 : ¬ m.time < 0) => EvIf.dec (fun (h : m.time > 1099511627776) => ?_) fun (h6 : ¬ m.time > 1099511627776) => EvIf.beq (fun (h : m.kind = 3) => EvIf.beqS (fun h7 => ?_) fun h7 => ?_) (fun (h : m.kind ≠ 3) => ?_)
 iterate 6 (rw [no (by omega)]; exact rfl)
 ·have : rightB m = false := decide_eq_false fun h' => by have := (h'.2.2.2.2.2.2.1 h).1; have := em.1 h7; omega
  rw [this]; exact rfl
 ·have hn : m.target.size ≠ 0 := fun h => h7 (em.2 h)
  have : (!rightB m) = decide ((m.target.size : Int) > 100) := by
   unfold rightB
   by_cases hh : m.target.size ≤ 100
   ·rw [decide_eq_true ⟨by omega, by omega, by omega, by omega, by omega, by omega, fun _ => ⟨by omega, hh⟩, fun h' => absurd h h'⟩, decide_eq_false (by omega)]; rfl
   ·rw [decide_eq_false (fun h' => hh (h'.2.2.2.2.2.2.1 h).2), decide_eq_true (by omega)]; rfl
  rw [this]; exact rfl
 ·have : (!rightB m) = !(m.target.toList == (⟨#[]⟩ : ByteArray).toList) := by
   rw [bytes_eq]
   unfold rightB
   by_cases hh : m.target.size = 0
   ·rw [decide_eq_true ⟨by omega, by omega, by omega, by omega, by omega, by omega, fun h' => absurd h' h, fun _ => hh⟩, decide_eq_true (em.2 hh)]
   ·rw [decide_eq_false (fun h' => hh (h'.2.2.2.2.2.2.2 h)), decide_eq_false (fun h' => hh (em.1 h'))]
  rw [this]; exact rfl
theorem set_q (r : RFs) (hF : Few r) (x : RIn) : FnV Tryz.prog 81 [enF r, .agg (enI x)] fun q => q = enF (setP r x) := by
 refine fnG Tryz.func81 (by kernel_rfl) rfl (Nat.le_of_ble_eq_true (by kernel_rfl)) (by kernel_rfl) ?_
 have hl := hF.i
 obtain ⟨p, hp⟩ : ∃ p : RIn → Bool, p = fun y => decide (y.id ≠ x.id) := ⟨_, rfl⟩
 refine sx_loop [2, 3, 4] [0, 1, 2] (fun i : Nat => [(6, .v (.int .i64 i)), (5, .osl 3)]) (fun i => [(3, .slc (((r.ins.take i).filter p).map enI) 83 9)]) (fun i => i ≤ r.ins.length) (fun i => r.ins.length - i) 0 (by omega) ⟨⟨rfl, rfl⟩, ⟨rfl, rfl⟩, trivial⟩ ⟨⟨rfl, rfl, rfl⟩, trivial⟩ rfl fun i hi => ?_
 have hle := filter_le p r.ins i
 refine EvIf.dec (fun h => ?_) (fun h => ?_)
 ·refine EvIdx.of (by simpa using h) fun y hy => ?_
  have hlt := lt_of_at hy
  refine EvIf.bne (fun h1 => EvIdx.at hy ⟨by simp; omega, ⟨by omega, i + 1, by omega, (by dsimp only; omega), ?_⟩⟩) (fun h1 => ⟨by omega, i + 1, by omega, (by dsimp only; omega), ?_⟩)
  ·refine ⟨?_, ?_, rfl⟩ <;> repeat' (first | exact True.intro | with_reducible rfl | exact rfl | refine And.intro ?_ ?_)
   exact eqR (filter_yes p enI hy (by rw [hp]; exact decide_eq_true h1))
  ·refine ⟨?_, ?_, rfl⟩ <;> repeat' (first | exact True.intro | with_reducible rfl | exact rfl | refine And.intro ?_ ?_)
   exact eqR (filter_no p enI hy (by rw [hp]; exact decide_eq_false fun h2 => h2 h1))
 ·rw [List.take_of_length_le (by simp at h; omega)] at hle ⊢
  refine ⟨by simp; omega, ?_⟩
  have e : enF (setP r x) = .agg [.v (.int .i64 r.room), .sl ((r.ins.filter p).map enI ++ [enI x]), .sl (r.nms.map enN), .sl (r.gens.map enG)] := by
   unfold setP enF; rw [hp]; simp
  rw [e]; exact rfl
theorem gone_q (r : RFs) (hF : Few r) (id : Int) : FnV Tryz.prog 97 [enF r, .v (.int .i64 id)] fun q => q = enF (goneP r id) := by
 refine fnG Tryz.func97 (by kernel_rfl) rfl (Nat.le_of_ble_eq_true (by kernel_rfl)) (by kernel_rfl) ?_
 have hl := hF.i
 obtain ⟨p, hp⟩ : ∃ p : RIn → Bool, p = fun y => decide (y.id ≠ id) := ⟨_, rfl⟩
 refine sx_loop [1, 2, 4] [0, 1] (fun i : Nat => [(6, .v (.int .i64 i)), (5, .osl 2)]) (fun i => [(2, .slc (((r.ins.take i).filter p).map enI) 83 9)]) (fun i => i ≤ r.ins.length) (fun i => r.ins.length - i) 0 (by omega) ⟨⟨rfl, rfl⟩, ⟨rfl, rfl⟩, trivial⟩ ⟨⟨rfl, rfl, rfl⟩, trivial⟩ rfl fun i hi => ?_
 have hle := filter_le p r.ins i
 refine EvIf.dec (fun h => ?_) (fun h => ?_)
 ·refine EvIdx.of (by simpa using h) fun y hy => ?_
  have hlt := lt_of_at hy
  refine EvIf.bne (fun h1 => EvIdx.at hy ⟨by simp; omega, ⟨by omega, i + 1, by omega, (by dsimp only; omega), ?_⟩⟩) (fun h1 => ⟨by omega, i + 1, by omega, (by dsimp only; omega), ?_⟩)
  ·refine ⟨?_, ?_, rfl⟩ <;> repeat' (first | exact True.intro | with_reducible rfl | exact rfl | refine And.intro ?_ ?_)
   exact eqR (filter_yes p enI hy (by rw [hp]; exact decide_eq_true h1))
  ·refine ⟨?_, ?_, rfl⟩ <;> repeat' (first | exact True.intro | with_reducible rfl | exact rfl | refine And.intro ?_ ?_)
   exact eqR (filter_no p enI hy (by rw [hp]; exact decide_eq_false fun h2 => h2 h1))
 ·rw [List.take_of_length_le (by simp at h; omega)]
  have e : enF (goneP r id) = .agg [.v (.int .i64 r.room), .sl ((r.ins.filter p).map enI), .sl (r.nms.map enN), .sl (r.gens.map enG)] := by
   unfold goneP enF; rw [hp]
  rw [e]; exact rfl
theorem unnamed_q (r : RFs) (hF : Few r) (dir : Int) (s : ByteArray) : FnV Tryz.prog 86 [enF r, .v (.int .i64 dir), .v (.string s)] fun q => q = enF (unnamedP r dir s) := by
 refine fnG Tryz.func86 (by kernel_rfl) rfl (Nat.le_of_ble_eq_true (by kernel_rfl)) (by kernel_rfl) ?_
 have hl := hF.n
 obtain ⟨p, hp⟩ : ∃ p : RNm → Bool, p = fun n => !decide (n.dir = dir ∧ n.name = s) := ⟨_, rfl⟩
 refine sx_loop [1, 2, 3, 6] [0, 1] (fun i : Nat => [(8, .v (.int .i64 i)), (7, .osl 2)]) (fun i => [(2, .slc (((r.nms.take i).filter p).map enN) 143 3)]) (fun i => i ≤ r.nms.length) (fun i => r.nms.length - i) 0 (by omega) ⟨⟨rfl, rfl⟩, ⟨rfl, rfl⟩, trivial⟩ ⟨⟨rfl, rfl, rfl⟩, trivial⟩ rfl fun i hi => ?_
 have hle := filter_le p r.nms i
 refine EvIf.dec (fun h => ?_) (fun h => ?_)
 ·refine EvIdx.of (by simpa using h) fun y hy => ?_
  have hlt := lt_of_at hy
  refine EvIf.bne (fun h1 => ?_) (fun h1 => EvIdx.at hy (EvIf.bneS (fun h2 => ?_) (fun h2 => ⟨by omega, i + 1, by omega, (by dsimp only; omega), ?_⟩)))
  ·refine EvIdx.at hy ⟨by simp; omega, ⟨by omega, i + 1, by omega, (by dsimp only; omega), ?_⟩⟩
   refine ⟨?_, ?_, rfl⟩ <;> repeat' (first | exact True.intro | with_reducible rfl | exact rfl | refine And.intro ?_ ?_)
   exact eqR (filter_yes p enN hy (by rw [hp]; have h1 : ¬ y.dir = dir := h1; simp [h1]))
  ·refine EvIdx.at hy ⟨by simp; omega, ⟨by omega, i + 1, by omega, (by dsimp only; omega), ?_⟩⟩
   refine ⟨?_, ?_, rfl⟩ <;> repeat' (first | exact True.intro | with_reducible rfl | exact rfl | refine And.intro ?_ ?_)
   exact eqR (filter_yes p enN hy (by rw [hp]; have h2 : ¬ y.name = s := h2; simp [h2]))
  ·refine ⟨?_, ?_, rfl⟩ <;> repeat' (first | exact True.intro | with_reducible rfl | exact rfl | refine And.intro ?_ ?_)
   exact eqR (filter_no p enN hy (by rw [hp]; have h1 : y.dir = dir := h1; have h2 : y.name = s := h2; simp [h1, h2]))
 ·rw [List.take_of_length_le (by simp at h; omega)]
  have e : enF (unnamedP r dir s) = .agg [.v (.int .i64 r.room), .sl (r.ins.map enI), .sl ((r.nms.filter p).map enN), .sl (r.gens.map enG)] := by
   unfold unnamedP enF; rw [hp]
  rw [e]; exact rfl
theorem rows_one {α : Type} {f : α → List G} {sz : Nat} (hf : ∀ x, (f x).length = sz ∧ (f x).all G.one = true) (l : List α) : ∀ r ∈ l.map f, r.length = sz ∧ r.all G.one = true := fun r hr => by
 obtain ⟨x, -, rfl⟩ := List.mem_map.1 hr
 exact hf x
theorem named_q (r : RFs) (hF : Few r) (dir : Int) (s : ByteArray) (id : Int) : FnV Tryz.prog 82 [enF r, .v (.int .i64 dir), .v (.string s), .v (.int .i64 id)] fun q => q = enF (namedP r dir s id) := by
 refine fnG Tryz.func82 (by kernel_rfl) rfl (Nat.le_of_ble_eq_true (by kernel_rfl)) (by kernel_rfl) ?_
 have hl := hF.n
 refine ⟨rows_one (f := enN) (fun x => ⟨rfl, rfl⟩) _, ⟨by simp; omega, ⟨by simp; omega, ?_⟩⟩⟩
 have e : enF (namedP r dir s id) = .agg [.v (.int .i64 r.room), .sl (r.ins.map enI), .sl (([] ++ r.nms.map enN) ++ [enN ⟨dir, s, id⟩]), .sl (r.gens.map enG)] := by
  unfold namedP enF; simp
 rw [e]; exact rfl
theorem few_unnamed {r : RFs} (h : Few r) (dir : Int) (s : ByteArray) : Few (unnamedP r dir s) := ⟨h.i, Nat.le_trans (List.length_filter_le _ _) h.n, h.g⟩
theorem drop_q (r : RFs) (hF : Few r) (dir : Int) (s : ByteArray) (hxe : (byIdP r.ins (entryP r.nms dir s)).id = entryP r.nms dir s) : FnV Tryz.prog 84 [enF r, .v (.int .i64 dir), .v (.string s)] fun q => q = enF (dropP r dir s) := by
 refine fnG Tryz.func84 (by kernel_rfl) rfl (Nat.le_of_ble_eq_true (by kernel_rfl)) (by kernel_rfl) ?_
 have hU := few_unnamed hF dir s
 have hg : FnV Tryz.prog 97 [enF (unnamedP r dir s), .v (.int .i64 (byIdP r.ins (entryP r.nms dir s)).id)] fun q => q = enF (goneP (unnamedP r dir s) (entryP r.nms dir s)) := by
  rw [hxe]; exact gone_q _ hU _
 have e1 : (byIdP r.ins (entryP r.nms dir s)).kind = 2 ∨ linksN (unnamedP r dir s) (byIdP r.ins (entryP r.nms dir s)) = 0 → dropP r dir s = goneP (unnamedP r dir s) (entryP r.nms dir s) := fun h => if_pos h
 have e2 : ¬ ((byIdP r.ins (entryP r.nms dir s)).kind = 2 ∨ linksN (unnamedP r dir s) (byIdP r.ins (entryP r.nms dir s)) = 0) → dropP r dir s = unnamedP r dir s := fun h => if_neg h
 have en := entry_q r hF dir s
 have bi := byId_q r hF (entryP r.nms dir s)
 refine ⟨en.cal fun q hq => ?_, en.cal fun q hq => ?_⟩ <;> subst hq
 case' refine_1 => refine ⟨bi.cal fun q hq => ?_, bi.cal fun q hq => ?_⟩
 case' refine_2 => refine bi.cal fun q hq => ?_
 all_goals
  subst hq
  refine (unnamed_q r hF dir s).cal fun q hq => ?_
  subst hq
  refine EvIf.beq (fun h => ?_) (fun h => (links_q _ hU _).cal fun q hq => ?_)
  ·refine hg.cal fun q hq => ?_
   rw [e1 (.inl h), hq]; exact rfl
  ·subst hq
   refine EvIf.beq (fun h2 => ?_) (fun h2 => ?_)
   ·refine hg.cal fun q hq => ?_
    rw [e1 (.inr (by omega)), hq]; exact rfl
   ·rw [e2 (fun h' => h'.elim h (fun h' => h2 (by omega)))]; exact rfl
theorem below_q (r : RFs) (hF : Few r) {K : Nat} (hW : Wf r K) (top : Int) {x : RIn} (hx : x ∈ r.ins) (hk : x.kind = 2) : FnV Tryz.prog 85 [enF r, .v (.int .i64 x.id), .v (.int .i64 top)] fun q => q = .v (.bool (belowB r x.id top)) := by
 refine fnG Tryz.func85 (by kernel_rfl) rfl (Nat.le_of_ble_eq_true (by kernel_rfl)) (by kernel_rfl) ?_
 obtain ⟨ρ, hρ⟩ := hW.tree
 refine sx_loop [2, 3] [0] (fun y : RIn => [(1, .v (.int .i64 y.id))]) (fun _ => []) (fun y => y ∈ r.ins ∧ y.kind = 2 ∧ belowB r y.id top = belowB r x.id top) (fun y => ρ y.id) x ⟨hx, hk, rfl⟩ ⟨⟨rfl, rfl⟩, trivial⟩ trivial rfl fun y ⟨hy, hk, hb⟩ => ?_
 have done : y.id = top ∨ y.id = 1 → belowB r x.id top = (y.id == top) := fun h => by
  rw [← hb]
  by_cases ht : y.id = top
  ·rw [ht, below_eq]; simp
  ·rcases h with h | h
   ·exact absurd h ht
   ·rw [h] at ht ⊢
    rw [below_root ht]; simp [ht]
 refine EvIf.bne (fun h1 => EvIf.bne (fun h2 => (byId_q r hF _).cal fun q hq => ?_) (fun h2 => ?_)) (fun h1 => ?_)
 ·subst hq
  obtain ⟨p, hp, e, hkp⟩ := hW.par y hy hk
  rw [hW.byId hy]
  refine ⟨p, ⟨hp, hkp, ?_⟩, ?_, ?_⟩
  ·rw [← hb, below_step h1 h2, hW.byId hy, e]
  ·show ρ p.id < ρ y.id
   rw [e]; exact hρ y hy hk h2
  ·refine ⟨?_, ?_, rfl⟩ <;> repeat' (first | exact True.intro | with_reducible rfl | exact rfl | refine And.intro ?_ ?_)
   exact eqI e.symm
 ·rw [done (.inr h2)]; exact rfl
 ·rw [done (.inl h1)]; exact rfl
end Go.Proofs.YtpcjmefchclhhaaGreat
namespace Go.Proofs.YtpcjmefchclhhaaGreat
open Go.RowKit
set_option maxRecDepth 100000
theorem placeF_eq (r : RFs) (h : Int × Int) (s : ByteArray) : placeE r h s false = if folderE r h ≠ 0 then folderE r h else if validP s = true then 0 else 176 := by
 unfold placeE; simp
theorem removeP_eq (r : RFs) (h : Int × Int) (s : ByteArray) (fo : Bool) : removeP r h s fo = if folderE r h ≠ 0 then (r, folderE r h) else if validP s = false then (r, 176) else if entryP r.nms h.1 s = 0 then (r, 170)
  else if mayP r (byIdP r.ins (entryP r.nms h.1 s)) fo ≠ 0 then (r, mayP r (byIdP r.ins (entryP r.nms h.1 s)) fo) else (dropP r h.1 s, 0) := by
 unfold removeP
 rw [placeF_eq]
 by_cases h1 : folderE r h = 0 <;> cases h2 : validP s <;> simp [h1]
theorem linkP_eq (r : RFs) (h d : Int × Int) (s : ByteArray) : linkP r h d s = if liveP r h = false then (r, 175) else if folderE r d ≠ 0 then (r, folderE r d) else if validP s = false then (r, 176) else if (byIdP r.ins h.1).kind = 2 then (r, 172)
  else if entryP r.nms d.1 s ≠ 0 then (r, 171) else if 20 ≤ linksN r (byIdP r.ins h.1) then (r, 179) else (namedP r d.1 s h.1, 0) := by
 unfold linkP
 rw [placeF_eq]
 by_cases h1 : folderE r d = 0 <;> cases h2 : validP s <;> simp [h1]
def enFE (p : RFs × Int) : G := .tup [enF p.1, .v (.int .i64 p.2)]
theorem remove_q (r : RFs) (hF : Few r) {K : Nat} (hW : Wf r K) (i g : Int) (s : ByteArray) (hs : s.size ≤ maxLen) (fo : Bool) : FnV Tryz.prog 55 [enF r, .agg [.v (.int .i64 i), .v (.int .i64 g)], .v (.string s), .v (.bool fo)] fun q => q = enFE (removeP r (i, g) s fo) := by
 refine fnG Tryz.func55 (by kernel_rfl) rfl (Nat.le_of_ble_eq_true (by kernel_rfl)) (by kernel_rfl) ?_
 rw [removeP_eq]
 refine (folder_q r hF i g).cal fun q hq => ?_
 subst hq
 by_cases hf : folderE r (i, g) = 0
 case neg => rw [if_pos hf]; exact EvIf.bne (fun _ => by exact rfl) (fun h => absurd h hf)
 have hid := folder_id hf
 rw [hf, if_pos rfl, if_neg (by simp)]
 refine EvIf.bne (fun h => absurd rfl h) fun _ => (valid_q s hs).cal fun q hq => ?_
 subst hq
 cases hv : validP s with
 | false => exact ⟨fun _ => (by rw [if_pos rfl]; exact rfl), fun h => (by cases h)⟩
 | true =>
  rw [if_neg (by simp)]
  refine ⟨fun h => (by cases h), fun _ => (entry_q r hF _ s).cal fun q hq => ?_⟩
  rw [hid] at hq
  subst hq
  refine EvIf.beq (fun (h : entryP r.nms i s = 0) => ?_) (fun (h : ¬ entryP r.nms i s = 0) => ?_)
  ·rw [if_pos h]; exact rfl
  ·rw [if_neg h]
   obtain ⟨n, hn, -, -, e⟩ := entry_mem h
   obtain ⟨-, y, hy, e2⟩ := hW.nmI n hn
   have hb : byIdP r.ins (entryP r.nms i s) = y := by rw [← e, ← e2]; exact hW.byId hy
   have hbi : (byIdP r.ins (entryP r.nms i s)).id = entryP r.nms i s := by rw [hb, e2, e]
   refine (may_q r hF _ fo fun _ => hbi).cal fun q hq => ?_
   subst hq
   refine EvIf.bne (fun h2 => ?_) (fun h2 => ?_)
   ·rw [if_pos h2]; exact rfl
   ·rw [if_neg (by simpa using h2)]
    have hd : FnV Tryz.prog 84 [enF r, .v (.int .i64 (byIdP r.ins i).id), .v (.string s)] fun q => q = enF (dropP r i s) := by rw [hid]; exact drop_q r hF i s hbi
    refine hd.cal fun q hq => ?_
    subst hq
    exact rfl
theorem link_q (r : RFs) (hF : Few r) (j gj i g : Int) (s : ByteArray) (hs : s.size ≤ maxLen) : FnV Tryz.prog 54 [enF r, .agg [.v (.int .i64 j), .v (.int .i64 gj)], .agg [.v (.int .i64 i), .v (.int .i64 g)], .v (.string s)] fun q => q = enFE (linkP r (j, gj) (i, g) s) := by
 refine fnG Tryz.func54 (by kernel_rfl) rfl (Nat.le_of_ble_eq_true (by kernel_rfl)) (by kernel_rfl) ?_
 rw [linkP_eq]
 refine (find_q r hF j gj).cal fun q hq => ?_
 subst hq
 rcases findQ_e (r := r) (i := j) (g := gj) with ⟨hl, he⟩ | ⟨hl, he, -⟩
 case inr => rw [hl, he, if_pos rfl]; exact EvIf.bne (fun _ => by exact rfl) (fun h => by cases h)
 rw [hl, he, if_pos rfl, if_neg (by simp)]
 have hjd := (live_mem hl).2.1
 refine EvIf.bne (fun h => absurd rfl h) fun _ => (folder_q r hF i g).cal fun q hq => ?_
 subst hq
 by_cases hf : folderE r (i, g) = 0
 case neg => rw [if_pos hf]; exact EvIf.bne (fun _ => by exact rfl) (fun h => absurd h hf)
 have hid := folder_id hf
 rw [hf, if_pos rfl, if_neg (by simp)]
 refine EvIf.bne (fun h => absurd rfl h) fun _ => (valid_q s hs).cal fun q hq => ?_
 subst hq
 cases hv : validP s with
 | false => exact ⟨fun _ => (by rw [if_pos rfl]; exact rfl), fun h => (by cases h)⟩
 | true =>
  rw [if_neg (by simp)]
  refine ⟨fun h => (by cases h), fun _ => EvIf.beq (fun (h : (byIdP r.ins j).kind = 2) => ?_) (fun (h : ¬ (byIdP r.ins j).kind = 2) => (entry_q r hF _ s).cal fun q hq => ?_)⟩
  ·rw [if_pos h]; exact rfl
  ·rw [if_neg h]
   rw [hid] at hq
   subst hq
   refine EvIf.bne (fun h2 => ?_) (fun h2 => (links_q r hF (byIdP r.ins j)).cal fun q hq => ?_)
   ·rw [if_pos h2]; exact rfl
   ·rw [if_neg (by simpa using h2)]
    subst hq
    refine EvIf.dec (fun h3 => ?_) (fun h3 => ?_)
    ·rw [if_pos (show 20 ≤ linksN r (byIdP r.ins j) by omega)]; exact rfl
    ·rw [if_neg (show ¬ 20 ≤ linksN r (byIdP r.ins j) by omega)]
     have hd : FnV Tryz.prog 82 [enF r, .v (.int .i64 (byIdP r.ins i).id), .v (.string s), .v (.int .i64 (byIdP r.ins j).id)] fun q => q = enF (namedP r i s j) := by rw [hid, hjd]; exact named_q r hF i s j
     refine hd.cal fun q hq => ?_
     subst hq
     exact rfl
end Go.Proofs.YtpcjmefchclhhaaGreat
namespace Go.Proofs.YtpcjmefchclhhaaGreat
open Go.RowKit
set_option maxRecDepth 100000
theorem makeP_eq (r : RFs) (h : Int × Int) (s : ByteArray) (m : RMk) : makeP r h s m = if folderE r h ≠ 0 then (r, (0, 0), folderE r h) else if validP s = false then (r, (0, 0), 176) else if rightB m = false then (r, (0, 0), 1) else if entryP r.nms h.1 s ≠ 0 then (r, (0, 0), 171)
  else if m.kind = 2 ∧ 20 ≤ linksN r (byIdP r.ins h.1) then (r, (0, 0), 179) else if 200 ≤ r.ins.length then (r, (0, 0), 177)
  else (namedP (addP r (newIn r h m)) h.1 s (freeP r.ins), (freeP r.ins, gensAt r.gens (freeP r.ins) + 1), 0) := by
 unfold makeP
 rw [placeF_eq]
 by_cases h1 : folderE r h = 0 <;> cases h2 : validP s <;> simp [h1]
theorem gensUp_pad {l : List Int} {q j : Nat} (h1 : q ≤ j + 2 - l.length) (h2 : ¬ l.length + q ≤ j + 1) : gensUp l ((j : Int) + 1) = (l ++ List.replicate q 0).set (j + 1) (gensAt l ((j : Int) + 1) + 1) ∧ (l ++ List.replicate q 0)[j + 1]? = some (gensAt l ((j : Int) + 1)) := by
 have e : ((j : Int) + 1).toNat = j + 1 := by omega
 have hq : q = j + 1 + 1 - l.length := by omega
 refine ⟨by unfold gensUp; rw [e, hq], ?_⟩
 unfold gensAt
 rw [if_pos (by omega), e]
 rcases Nat.lt_or_ge (j + 1) l.length with h | h
 ·rw [List.getElem?_append_left h, List.getD_eq_getElem?_getD, List.getElem?_eq_getElem h]; rfl
 ·rw [List.getElem?_append_right h, List.getD_eq_getElem?_getD, List.getElem?_eq_none h, List.getElem?_replicate, if_pos (by omega)]; rfl
theorem set_new {r : RFs} {x : RIn} {id : Int} (hx : x.id = id) (hn : ∀ y ∈ r.ins, y.id ≠ id) : setP { r with gens := gensUp r.gens id } x = addP r x := by
 unfold setP addP
 have : (r.ins.filter fun y => decide (y.id ≠ x.id)) = r.ins := List.filter_eq_self.2 fun y hy => by
  rw [hx]; exact decide_eq_true (hn y hy)
 rw [hx] at this ⊢
 show ({ r with ins := (r.ins.filter fun y => decide (y.id ≠ id)) ++ [x], gens := _ } : RFs) = _
 rw [this]
theorem gensAt_bd {r : RFs} {K : Nat} (hW : Wf r K) (id : Int) : 0 ≤ gensAt r.gens id ∧ gensAt r.gens id ≤ (K : Int) + 1 := by
 unfold gensAt
 split
 ·rw [List.getD_eq_getElem?_getD]
  cases h : r.gens[id.toNat]? with
  | none => simp; omega
  | some g => exact hW.genK g (List.mem_of_getElem? h)
 ·omega
def padG (l : List Int) (m : Nat) : List Int := l ++ List.replicate m 0
def enMk (p : RFs × (Int × Int) × Int) : G := .tup [enF p.1, .agg [.v (.int .i64 p.2.1.1), .v (.int .i64 p.2.1.2)], .v (.int .i64 p.2.2)]
set_option maxHeartbeats 4000000 in
theorem make_q (r : RFs) (hF : Few r) {K : Nat} (hW : Wf r K) (hK : K ≤ 1000000) (i g : Int) (s : ByteArray) (hs : s.size ≤ maxLen) (m : RMk) (hm : m.target.size ≤ maxLen) : FnV Tryz.prog 53 [enF r, .agg [.v (.int .i64 i), .v (.int .i64 g)], .v (.string s), .agg [.v (.int .i64 m.kind), .v (.int .i64 m.mode), .v (.int .i64 m.time), .v (.string m.target)]] fun q => q = enMk (makeP r (i, g) s m) := by
 refine fnG Tryz.func53 (by kernel_rfl) rfl (Nat.le_of_ble_eq_true (by kernel_rfl)) (by kernel_rfl) ?_
 rw [makeP_eq]
 refine (folder_q r hF i g).cal fun q hq => ?_
 subst hq
 by_cases hf : folderE r (i, g) = 0
 case neg => rw [if_pos hf]; exact EvIf.bne (fun _ => by exact rfl) (fun h => absurd h hf)
 have hid := folder_id hf
 rw [hf, if_pos rfl, if_neg (by simp)]
 refine EvIf.bne (fun h => absurd rfl h) fun _ => (valid_q s hs).cal fun q hq => ?_
 subst hq
 cases hv : validP s with
 | false => exact ⟨fun _ => (by rw [if_pos rfl]; exact rfl), fun h => (by cases h)⟩
 | true =>
 rw [if_neg (by simp)]
 refine ⟨fun h => (by cases h), fun _ => (bad_q m hm).cal fun q hq => ?_⟩
 subst hq
 cases hr : rightB m with
 | false => exact ⟨fun _ => (by rw [if_pos rfl]; exact rfl), fun h => (by cases h)⟩
 | true =>
 rw [if_neg (by simp)]
 refine ⟨fun h => (by cases h), fun _ => (entry_q r hF _ s).cal fun q hq => ?_⟩
 rw [hid] at hq
 subst hq
 refine EvIf.bne (fun h => ?_) (fun h => ?_)
 ·rw [if_pos h]; exact rfl
 rw [if_neg (by simpa using h)]
 have hgl := hF.g
 refine EvIf.beq (fun h1 => (links_q r hF (byIdP r.ins i)).cal fun q hq => ?a) (fun h1 => ?b)
 case' a =>
  subst hq
  refine EvIf.dec (fun h2 => ?a1) (fun h2 => ?a2)
 case a1 => rw [if_pos ⟨h1, (show 20 ≤ linksN r (byIdP r.ins i) by omega)⟩]; exact rfl
 case' a2 => rw [if_neg (fun h' => h2 (by have : 20 ≤ linksN r (byIdP r.ins i) := h'.2; omega))]; clear h2
 case' b => rw [if_neg (fun h' => h1 h'.1)]
 all_goals
  clear h1
  refine EvIf.dec (fun h2 => ?_) (fun h2 => ?_)
  ·rw [if_pos (by simp at h2; omega)]; exact rfl
  have h3 : ¬ 200 ≤ r.ins.length := by simp at h2; omega
  rw [if_neg h3]
  refine sx_loop [2, 4, 5, 7, 8, 9, 11] [0, 1, 2, 3, 4, 5] (fun j : Nat => [(13, .v (.int .i64 ((j : Int) + 1)))]) (fun _ => []) (fun j => j ≤ 200 ∧ ∀ k, k < j → (byIdP r.ins ((k : Int) + 1)).id ≠ 0) (fun j => 202 - j) 0 ⟨by omega, fun k h => by omega⟩ ⟨⟨rfl, rfl⟩, trivial⟩ trivial rfl fun j ⟨hj, hno⟩ => ?_
  refine (byId_q r hF _).cal fun q hq => ?_
  subst hq
  refine EvIf.bne (fun h4 => ?_) (fun h4 => ?_)
  ·have hno2 : ∀ k, k < j + 1 → (byIdP r.ins ((k : Int) + 1)).id ≠ 0 := fun k hk => by
    rcases Nat.lt_or_ge k j with h | h
    ·exact hno k h
    ·rw [show k = j by omega]; exact h4
   have := ids_le hW hno2
   refine ⟨by omega, j + 1, ⟨by omega, hno2⟩, (by dsimp only; omega), ?_⟩
   refine ⟨?_, ?_, rfl⟩ <;> repeat' (first | exact True.intro | with_reducible rfl | exact rfl | refine And.intro ?_ ?_)
  have hfr : freeP r.ins = (j : Int) + 1 := freeP_of (by omega) h4 hno
  refine ⟨rows_one (f := enG) (fun x => ⟨rfl, rfl⟩) _, ⟨by simp; omega, ?_⟩⟩
  refine sx_loop [2, 4, 5, 7, 8, 9, 11, 13] [0, 1, 2, 3, 4, 5] (fun _ : Nat => [(14, .osl 7)]) (fun q => [(7, .slc ((padG r.gens q).map enG) 3 1)]) (fun q => q ≤ j + 2 - r.gens.length) (fun q => j + 3 - r.gens.length - q) 0 (by omega) ⟨⟨rfl, rfl⟩, trivial⟩ ⟨⟨rfl, rfl, by unfold padG; exact eqR (by simp)⟩, trivial⟩ rfl fun q hq => ?_
  have hpl : (padG r.gens q).length = r.gens.length + q := by unfold padG; simp
  refine EvIf.dec (fun h5 => ?_) (fun h5 => ?_)
  ·have h5' : r.gens.length + q ≤ j + 1 := by simp [hpl] at h5; omega
   refine ⟨by simp [hpl]; omega, q + 1, by omega, (by dsimp only; omega), ?_⟩
   refine ⟨?_, ?_, rfl⟩ <;> repeat' (first | exact True.intro | with_reducible rfl | exact rfl | refine And.intro ?_ ?_)
   exact eqR (by unfold padG; rw [List.replicate_succ']; simp [enG])
  have h5' : ¬ r.gens.length + q ≤ j + 1 := by simp [hpl] at h5; omega
  obtain ⟨hg1, hg2⟩ := gensUp_pad hq h5'
  have hg3 : (padG r.gens q)[((j : Int) + 1).toNat]? = some (gensAt r.gens ((j : Int) + 1)) := by rw [show ((j : Int) + 1).toNat = j + 1 by omega]; exact hg2
  have hgb := gensAt_bd hW ((j : Int) + 1)
  have hg4 : (padG r.gens q).set ((j : Int) + 1).toNat (gensAt r.gens ((j : Int) + 1) + 1) = gensUp r.gens ((j : Int) + 1) := by rw [show ((j : Int) + 1).toNat = j + 1 by omega, hg1]; rfl
  have hg5 : (gensUp r.gens ((j : Int) + 1))[((j : Int) + 1).toNat]? = some (gensAt r.gens ((j : Int) + 1) + 1) := by rw [← hg4, List.getElem?_set_self]; exact (List.getElem?_eq_some_iff.1 hg3).1
  have hg6 : (gensUp r.gens ((j : Int) + 1)).length = r.gens.length + q := by rw [← hg4]; simp [hpl]
  refine ⟨by rw [List.length_map]; omega, EvIdx.at hg3 ⟨by omega, ⟨by rw [List.length_map]; omega, EvSet.at (y := gensAt r.gens ((j : Int) + 1) + 1) hg3 (fun k hk => hk) hg4 ?_⟩⟩⟩
  have hF1 : Few { r with gens := gensUp r.gens ((j : Int) + 1) } := ⟨hF.i, hF.n, by show (gensUp _ _).length ≤ 1000; omega⟩
  have hx : newIn r (i, g) m = ⟨(j : Int) + 1, gensAt r.gens ((j : Int) + 1) + 1, m.kind, m.mode, m.time, (byIdP r.ins i).id, m.target, [], []⟩ := by unfold newIn; rw [hfr, hid]
  have hset : setP { r with gens := gensUp r.gens ((j : Int) + 1) } (newIn r (i, g) m) = addP r (newIn r (i, g) m) := set_new (by show freeP _ = _; exact hfr) (by rw [← hfr]; exact (freeP_ok hW (by omega)).2.2)
  have hF2 : Few (addP r (newIn r (i, g) m)) := ⟨by show (r.ins ++ [_]).length ≤ 1000; simp; omega, hF.n, by show (gensUp _ (freeP r.ins)).length ≤ 1000; rw [hfr]; omega⟩
  rw [hfr]
  refine ⟨by rw [List.length_map]; omega, EvIdx.at hg5 ?_⟩
  refine (set_q _ hF1 ⟨(j : Int) + 1, gensAt r.gens ((j : Int) + 1) + 1, m.kind, m.mode, m.time, (byIdP r.ins i).id, m.target, [], []⟩).cal fun q hq => ?_
  rw [← hx, hset] at hq
  subst hq
  have hn : FnV Tryz.prog 82 [enF (addP r (newIn r (i, g) m)), .v (.int .i64 (byIdP r.ins i).id), .v (.string s), .v (.int .i64 ((j : Int) + 1))] fun q => q = enF (namedP (addP r (newIn r (i, g) m)) i s ((j : Int) + 1)) := by rw [hid]; exact named_q _ hF2 i s _
  refine EvIdx.atI (by omega) hg5 (hn.cal fun q hq => ?_)
  subst hq
  exact rfl
end Go.Proofs.YtpcjmefchclhhaaGreat
namespace Go.Proofs.YtpcjmefchclhhaaGreat
open Go.RowKit
set_option maxRecDepth 100000
def enSh (B : List UInt8) (On : List Nat) : G := .agg [.sl (B.map gBy), .sl (On.map gNu)]
structure FewS (B : List UInt8) (On : List Nat) : Prop where
 b : B.length ≤ 1048576
 o : On.length ≤ 65536
theorem fits_q (a : Int) (n : Nat) : FnV Tryz.prog 98 [.v (.int .i64 a), .v (.int .i64 n)] fun q => q = .v (.bool (fitsB a n)) := by
 refine fnG Tryz.func98 (by kernel_rfl) rfl (Nat.le_of_ble_eq_true (by kernel_rfl)) (by kernel_rfl) ?_
 unfold fitsB
 refine EvIf.dec (fun h => ?_) (fun h => ?_)
 ·refine EvIf.dec (fun h2 => ?_) (fun h2 => ?_)
  ·refine ⟨by omega, ?_⟩
   have : decide (0 ≤ a ∧ n ≤ 1048576 ∧ a ≤ 1048576 - n) = decide (a ≤ 1048576 - (n : Int)) := decide_eq_decide.2 ⟨fun h => h.2.2, fun h3 => ⟨h, by omega, h3⟩⟩
   rw [this]; exact rfl
  ·rw [decide_eq_false (by omega)]; exact rfl
 ·rw [decide_eq_false (by omega)]; exact rfl
theorem on_q (B : List UInt8) (On : List Nat) (hF : FewS B On) (k : Nat) : FnV Tryz.prog 100 [enSh B On, .v (.int .i64 k)] fun q => q = .v (.bool (decide (k ∈ On))) := by
 refine fnG Tryz.func100 (by kernel_rfl) rfl (Nat.le_of_ble_eq_true (by kernel_rfl)) (by kernel_rfl) ?_
 have hl := hF.o
 refine sx_loop [1, 2] [0] (fun i : Nat => [(5, .v (.int .i64 i))]) (fun _ => []) (fun i => i ≤ On.length ∧ ∀ x ∈ On.take i, ¬ x = k) (fun i => On.length - i) 0 ⟨by omega, by simp⟩ ⟨⟨rfl, rfl⟩, trivial⟩ trivial rfl fun i ⟨hi, hno⟩ => ?_
 refine EvIf.dec (fun h => ?_) (fun h => ?_)
 ·refine EvIdx.of (by simpa using h) fun x hx => ?_
  have hlt := lt_of_at hx
  refine EvIf.beq (fun h1 => ?_) (fun h1 => ?_)
  ·have h2 : x = k := by omega
   rw [decide_eq_true (p := k ∈ On) (h2 ▸ List.mem_of_getElem? hx)]; exact rfl
  ·have h2 : ¬ x = k := by omega
   refine ⟨by omega, i + 1, ⟨by omega, take_no hx hno h2⟩, (by dsimp only; omega), ?_⟩
   refine ⟨?_, ?_, rfl⟩ <;> repeat' (first | exact True.intro | with_reducible rfl | exact rfl | refine And.intro ?_ ?_)
 ·have h2 := take_all (by simpa using h) hno
  rw [decide_eq_false (p := k ∈ On) (fun h3 => h2 k h3 rfl)]; exact rfl
def wS (k : Nat) (l : List Nat) (i : Nat) : List Nat × Bool := (l.take i).foldl (wst k) ([], false)
theorem wS_step {k : Nat} {l : List Nat} {i x : Nat} (h : l[i]? = some x) : wS k l (i + 1) = wst k (wS k l i) x := by
 unfold wS
 rw [take_more h, List.foldl_append]; rfl
theorem wst_le (k : Nat) (l : List Nat) (i : Nat) (hi : i ≤ l.length) : (wS k l i).1.length ≤ 2 * i := by
 induction i with
 | zero => simp [wS]
 | succ i ih =>
  rw [wS_step (List.getElem?_eq_getElem (by omega))]
  have := ih (by omega)
  unfold wst
  simp only [List.length_append]
  split <;> split <;> simp <;> omega
def gB (b : Bool) : G := match b with
 | true => .tt
 | false => .ff
theorem with_q (l : List Nat) (hl : l.length ≤ 4000000) (k : Nat) : FnV Tryz.prog 99 [.sl (l.map gNu), .v (.int .i64 k)] fun q => q = .sl ((insK k l).map gNu) := by
 refine fnG Tryz.func99 (by kernel_rfl) rfl (Nat.le_of_ble_eq_true (by kernel_rfl)) (by kernel_rfl) ?_
 refine sx_loop [0, 1] [] (fun p : Nat × List Nat × Bool => [(7, .v (.int .i64 p.1)), (6, gB p.2.2), (5, .osl 1)]) (fun p => [(1, .slc (p.2.1.map gNu) 3 1)]) (fun p => p.1 ≤ l.length ∧ wS k l p.1 = p.2) (fun p => l.length - p.1) (0, [], false) ⟨by simp, rfl⟩ ⟨⟨rfl, rfl⟩, ⟨rfl, rfl⟩, ⟨rfl, rfl⟩, trivial⟩ ⟨⟨rfl, rfl, rfl⟩, trivial⟩ rfl fun p ⟨hi, hs⟩ => ?_
 obtain ⟨i, out, d⟩ := p
 dsimp only at hi hs
 have hle := wst_le k l i hi
 rw [hs] at hle
 dsimp only at hle
 refine EvIf.dec (fun h => ?_) (fun h => ?_)
 ·obtain ⟨x, hx⟩ : ∃ x, l[i]? = some x := ⟨_, List.getElem?_eq_getElem (by simpa using h)⟩
  have hst := wS_step (k := k) hx
  rw [hs] at hst
  have hlt := lt_of_at hx
  cases d with
  | false =>
   refine EvIdx.at hx (EvIf.dec (fun (h1 : (x : Int) ≥ k) => ?_) (fun (h1 : ¬ (x : Int) ≥ k) => ?_))
   ·refine ⟨by simp; omega, EvIdx.at hx (EvIf.bne (fun (h2 : (x : Int) ≠ k) => EvIdx.at hx ⟨by simp; omega, ⟨by omega, (i + 1, out ++ [k] ++ [x], true), ⟨by dsimp only; omega, hst.trans ?_⟩, (by dsimp only; omega), ?_⟩⟩) (fun (h2 : (x : Int) = k) => ⟨by omega, (i + 1, out ++ [k], true), ⟨by dsimp only; omega, hst.trans ?_⟩, (by dsimp only; omega), ?_⟩))⟩
    ·unfold wst; rw [if_pos ⟨rfl, by omega⟩, if_neg (by omega), decide_eq_true (by omega)]; rfl
    ·refine ⟨?_, ?_, rfl⟩ <;> repeat' (first | exact True.intro | with_reducible rfl | exact rfl | refine And.intro ?_ ?_)
     exact eqR (by simp [gNu])
    ·unfold wst; rw [if_pos ⟨rfl, by omega⟩, if_pos (by omega), decide_eq_true (by omega)]; simp
    ·refine ⟨?_, ?_, rfl⟩ <;> repeat' (first | exact True.intro | with_reducible rfl | exact rfl | refine And.intro ?_ ?_)
     exact eqR (by simp [gNu])
   ·refine EvIdx.at hx (EvIf.bne (fun (h2 : (x : Int) ≠ k) => EvIdx.at hx ⟨by simp; omega, ⟨by omega, (i + 1, out ++ [x], false), ⟨by dsimp only; omega, hst.trans ?_⟩, (by dsimp only; omega), ?_⟩⟩) (fun (h2 : (x : Int) = k) => absurd (show (x : Int) ≥ k by omega) h1))
    ·unfold wst; rw [if_neg (by simp; omega), if_neg (by omega), decide_eq_false (by omega)]; simp
    ·refine ⟨?_, ?_, rfl⟩ <;> repeat' (first | exact True.intro | with_reducible rfl | exact rfl | refine And.intro ?_ ?_)
     exact eqR (by simp [gNu])
  | true =>
   refine EvIdx.at hx (EvIf.bne (fun (h2 : (x : Int) ≠ k) => EvIdx.at hx ⟨by simp; omega, ⟨by omega, (i + 1, out ++ [x], true), ⟨by dsimp only; omega, hst.trans ?_⟩, (by dsimp only; omega), ?_⟩⟩) (fun (h2 : (x : Int) = k) => ⟨by omega, (i + 1, out, true), ⟨by dsimp only; omega, hst.trans ?_⟩, (by dsimp only; omega), ?_⟩))
   ·unfold wst; rw [if_neg (by simp), if_neg (by omega)]; simp
   ·refine ⟨?_, ?_, rfl⟩ <;> repeat' (first | exact True.intro | with_reducible rfl | exact rfl | refine And.intro ?_ ?_)
    exact eqR (by simp [gNu])
   ·unfold wst; rw [if_neg (by simp), if_pos (by omega)]; simp
   ·refine ⟨?_, ?_, rfl⟩ <;> repeat' (first | exact True.intro | with_reducible rfl | exact rfl | refine And.intro ?_ ?_)
 ·have hfin : wfin k (out, d) = insK k l := by
   have := with_insK k l []
   unfold wS at hs
   rw [List.take_of_length_le (by simp at h; omega)] at hs
   rw [hs] at this
   simpa using this
  rw [← hfin]
  cases d with
  | false =>
   have e : (wfin k (out, false)).map gNu = out.map gNu ++ [[.v (.int .i64 k)]] := by simp [wfin, gNu]
   rw [e]
   exact ⟨by simp; omega, rfl⟩
  | true => exact rfl
theorem readr_q (B : List UInt8) (On : List Nat) (hF : FewS B On) (a n : Int) : FnV Tryz.prog 72 [enSh B On, .v (.int .i64 a), .v (.int .i64 n)] fun q => q = .sl ((rreadL B a n).map gBy) := by
 refine fnG Tryz.func72 (by kernel_rfl) rfl (Nat.le_of_ble_eq_true (by kernel_rfl)) (by kernel_rfl) ?_
 have hb := hF.b
 unfold rreadL readOk
 refine EvIf.dec (fun h1 => ?_) (fun h1 => ?_)
 ·rw [decide_eq_false (p := 0 ≤ a ∧ 0 ≤ n ∧ a < B.length) (by omega)]; exact rfl
 refine EvIf.dec (fun h2 => ?_) (fun h2 => ?_)
 ·rw [decide_eq_false (p := 0 ≤ a ∧ 0 ≤ n ∧ a < B.length) (by omega)]; exact rfl
 refine EvIf.dec (fun h3 => ?_) (fun h3 => ?_)
 ·rw [List.length_map] at h3
  rw [decide_eq_false (p := 0 ≤ a ∧ 0 ≤ n ∧ a < B.length) (by omega)]; exact rfl
 rw [List.length_map] at h3
 rw [decide_eq_true (p := 0 ≤ a ∧ 0 ≤ n ∧ a < B.length) (by omega), if_pos rfl]
 have key : ∀ m : Int, 0 ≤ m → (m = n ∨ B.length - a = m ∧ m ≤ n) → ((B.drop a.toNat).take n.toNat).map gBy = subL (B.map gBy) a.toNat (a + m).toNat := fun m hm hmn => by
  unfold subL
  rw [List.drop_take, ← List.map_drop, ← List.map_take]
  congr 1
  rcases hmn with rfl | ⟨h5, h6⟩
  ·rw [show (a + m).toNat - a.toNat = m.toNat by omega]
  ·rw [List.take_of_length_le (by simp; omega), List.take_of_length_le (by simp; omega)]
 have hlen : ∀ r ∈ B.map gBy, r.length = 1 := fun r hr => by
  obtain ⟨x, -, rfl⟩ := List.mem_map.1 hr
  rfl
 have hL : ((B.map gBy).length : Int) = B.length := by rw [List.length_map]
 refine ⟨by omega, EvIf.dec (fun h4 => ?_) (fun h4 => ?_)⟩
 ·rw [key ((B.map gBy).length - a) (by omega) (.inr ⟨by omega, by omega⟩)]
  exact ⟨by omega, ⟨by omega, ⟨⟨by omega, by omega, by omega⟩, ⟨hlen, rfl⟩⟩⟩⟩
 ·rw [key n (by omega) (.inl rfl)]
  exact ⟨by omega, ⟨⟨by omega, by omega, by omega⟩, ⟨hlen, rfl⟩⟩⟩
theorem tdiv16 {a : Int} {i : Nat} (h : 0 ≤ a) : (a + i).tdiv 16 = (((a.toNat + i) / 16 : Nat) : Int) := by
 obtain ⟨k, rfl⟩ := Int.eq_ofNat_of_zero_le h
 rfl
theorem tmod16 {a : Int} {i : Nat} (h : 0 ≤ a) : (a + i).tmod 16 = (((a.toNat + i) % 16 : Nat) : Int) := by
 obtain ⟨k, rfl⟩ := Int.eq_ofNat_of_zero_le h
 rfl
def ndB (On : List Nat) (a : Int) (i : Nat) : Bool := headAt a.toNat i && !decide ((a.toNat + i) / 16 ∈ On)
theorem need_q (B : List UInt8) (On : List Nat) (hF : FewS B On) (a : Int) (b : List UInt8) (hb : b.length ≤ maxLen) : FnV Tryz.prog 88 [enSh B On, .v (.int .i64 a), .sl (b.map gBy)] fun q => q = .v (.int .i64 (rneed On a b.length : Int)) := by
 refine fnG Tryz.func88 (by kernel_rfl) rfl (Nat.le_of_ble_eq_true (by kernel_rfl)) (by kernel_rfl) ?_
 unfold maxLen at hb
 have hfq := fits_q a b.length
 rw [← List.length_map (f := gBy)] at hfq
 have hL : (b.map gBy).length = b.length := List.length_map _
 refine sx_loop [1, 2, 3] [0] (fun i : Nat => [(8, .v (.int .i64 i)), (7, .v (.int .i64 ((List.range i).countP (ndB On a) : Int)))]) (fun _ => []) (fun i => i ≤ b.length ∧ (0 < i → fitsB a b.length = true)) (fun i => b.length - i) 0 ⟨by omega, fun h => by omega⟩ ⟨⟨rfl, rfl⟩, ⟨rfl, rfl⟩, trivial⟩ trivial rfl fun i ⟨hi, hfi⟩ => ?_
 have hc : (List.range i).countP (ndB On a) ≤ i := Nat.le_trans List.countP_le_length (by simp)
 have hst : (List.range (i + 1)).countP (ndB On a) = (List.range i).countP (ndB On a) + if ndB On a i = true then 1 else 0 := by rw [List.range_succ, List.countP_append]; simp [List.countP_cons]
 have hend : ¬ i < b.length ∨ fitsB a b.length = false → (List.range i).countP (ndB On a) = rneed On a b.length := fun h => by
  unfold rneed
  cases hf : fitsB a b.length with
  | false =>
   have : i = 0 := by
    rcases Nat.eq_zero_or_pos i with h0 | h0
    ·exact h0
    ·have := hfi h0; rw [hf] at this; cases this
   rw [this, if_neg (by simp)]; rfl
  | true =>
   rw [if_pos rfl]
   have : i = b.length := by
    rcases h with h | h
    ·omega
    ·rw [hf] at h; cases h
   rw [this]; rfl
 refine EvIf.dec (fun h => hfq.cal fun q hq => ?_) (fun h => ?_)
 ·subst hq
  rw [hL]
  cases hf : fitsB a b.length with
  | false => exact ⟨fun h => (by cases h), fun _ => (by rw [hend (.inr hf)]; exact rfl)⟩
  | true =>
   refine ⟨fun _ => ?_, fun h => (by cases h)⟩
   have hfa : 0 ≤ a ∧ b.length ≤ 1048576 ∧ a ≤ 1048576 - b.length := of_decide_eq_true hf
   have hon : FnV Tryz.prog 100 [enSh B On, .v (.int .i64 ((a + i).tdiv 16))] fun q => q = .v (.bool (decide ((a.toNat + i) / 16 ∈ On))) := by rw [tdiv16 hfa.1]; exact on_q B On hF _
   have hm := tmod16 (i := i) hfa.1
   have hd := tdiv16 (i := i) hfa.1
   have hlt : i < b.length := by omega
   have yes : ndB On a i = true → (List.range (i + 1)).countP (ndB On a) = (List.range i).countP (ndB On a) + 1 := fun h => by rw [hst, if_pos h]
   have no : ndB On a i = false → (List.range (i + 1)).countP (ndB On a) = (List.range i).countP (ndB On a) := fun h => by rw [hst, h]; rfl
   have hinv : i + 1 ≤ b.length ∧ (0 < i + 1 → true = true) := ⟨by omega, fun _ => rfl⟩
   have hnd : (i = 0 ∨ (a.toNat + i) % 16 = 0) → ndB On a i = !decide ((a.toNat + i) / 16 ∈ On) := fun h => by unfold ndB headAt; rw [decide_eq_true h, Bool.true_and]
   refine EvIf.beq (fun h1 => ⟨by omega, ⟨by omega, ⟨by omega, hon.cal fun q hq => ?_⟩⟩⟩) (fun h1 => ⟨by omega, ⟨by omega, EvIf.beq (fun h2 => ⟨by omega, ⟨by omega, ⟨by omega, hon.cal fun q hq => ?_⟩⟩⟩) (fun h2 => ?_)⟩⟩)
   ·subst hq
    have hn := hnd (.inl (by omega))
    refine ⟨fun h3 => ⟨by omega, ⟨by omega, i + 1, hinv, (by dsimp only; omega), ?_⟩⟩, fun h3 => ⟨by omega, i + 1, hinv, (by dsimp only; omega), ?_⟩⟩
    ·refine ⟨?_, ?_, rfl⟩ <;> repeat' (first | exact True.intro | with_reducible rfl | exact rfl | refine And.intro ?_ ?_)
     exact eqN1 (yes (hn.trans h3))
    ·refine ⟨?_, ?_, rfl⟩ <;> repeat' (first | exact True.intro | with_reducible rfl | exact rfl | refine And.intro ?_ ?_)
     exact eqN (no (hn.trans h3))
   ·subst hq
    have hn := hnd (.inr (by omega))
    refine ⟨fun h3 => ⟨by omega, ⟨by omega, i + 1, hinv, (by dsimp only; omega), ?_⟩⟩, fun h3 => ⟨by omega, i + 1, hinv, (by dsimp only; omega), ?_⟩⟩
    ·refine ⟨?_, ?_, rfl⟩ <;> repeat' (first | exact True.intro | with_reducible rfl | exact rfl | refine And.intro ?_ ?_)
     exact eqN1 (yes (hn.trans h3))
    ·refine ⟨?_, ?_, rfl⟩ <;> repeat' (first | exact True.intro | with_reducible rfl | exact rfl | refine And.intro ?_ ?_)
     exact eqN (no (hn.trans h3))
   ·refine ⟨by omega, i + 1, hinv, (by dsimp only; omega), ?_⟩
    refine ⟨?_, ?_, rfl⟩ <;> repeat' (first | exact True.intro | with_reducible rfl | exact rfl | refine And.intro ?_ ?_)
    exact eqN (no (by unfold ndB headAt; rw [decide_eq_false (by omega)]; rfl))
 ·rw [hend (.inl (by omega))]; exact rfl
end Go.Proofs.YtpcjmefchclhhaaGreat
namespace Go.Proofs.YtpcjmefchclhhaaGreat
open Go.RowKit
set_option maxRecDepth 100000
theorem eqS {a b : List (List G)} (h : a = b) : (some (G.sl a) : Option G) = some (G.sl b) := by rw [h]
theorem insK_len (k : Nat) : ∀ l : List Nat, (insK k l).length ≤ l.length + 1
 | [] => by simp [insK]
 | x :: l => by
  unfold insK
  split
  ·have := List.length_filter_le (fun y => decide (y ≠ k)) (x :: l)
   simp only [List.length_cons] at *
   omega
  ·have := insK_len k l
   simp only [List.length_cons]
   omega
theorem rwOnL_len (On : List Nat) (a n : Nat) : (rwOnL On a n).length ≤ On.length + n := by
 induction n with
 | zero => exact Nat.le_refl _
 | succ n ih =>
  rw [rwOnL_succ]
  split
  ·have := insK_len ((a + n) / 16) (rwOnL On a n); omega
  ·omega
def enShB (B : List UInt8) (On : List Nat) (b : Bool) : G := .tup [enSh B On, .v (.bool b)]
theorem sheetW_q (B : List UInt8) (On : List Nat) (hF : FewS B On) (a : Int) (b : List UInt8) (hb : b.length ≤ maxLen) : FnV Tryz.prog 87 [enSh B On, .v (.int .i64 a), .sl (b.map gBy)] fun q => q = enShB (rwB B a b) (rwOn On a b.length) (fitsB a b.length) := by
 refine fnG Tryz.func87 (by kernel_rfl) rfl (Nat.le_of_ble_eq_true (by kernel_rfl)) (by kernel_rfl) ?_
 unfold maxLen at hb
 have hB := hF.b
 have hO := hF.o
 have hfq := fits_q a b.length
 rw [← List.length_map (f := gBy)] at hfq
 have hL : (b.map gBy).length = b.length := List.length_map _
 refine hfq.cal fun q hq => ?_
 subst hq
 rw [hL]
 unfold rwB rwOn
 cases hf : fitsB a b.length with
 | false => exact ⟨fun _ => (by exact rfl), fun h => (by cases h)⟩
 | true =>
  have hfa : 0 ≤ a ∧ b.length ≤ 1048576 ∧ a ≤ 1048576 - b.length := of_decide_eq_true hf
  refine ⟨fun h => (by cases h), fun _ => EvIf.beq (fun h1 => ?_) (fun h1 => ?_)⟩
  ·have h0 : b.length = 0 := by omega
   rw [if_neg (by omega), if_pos rfl, h0]
   exact rfl
  ·have h0 : 0 < b.length := by omega
   rw [if_pos ⟨rfl, h0⟩, if_pos rfl]
   refine ⟨rows_one (f := gBy) (fun x => ⟨rfl, rfl⟩) _, ⟨by simp; omega, ?_⟩⟩
   refine sx_loop [1, 2, 3, 6] [0, 1] (fun _ : Nat => [(8, .osl 3)]) (fun j => [(3, .slc ((B ++ List.replicate j 0).map gBy) 5 1)]) (fun j => j ≤ a.toNat + b.length - B.length) (fun j => a.toNat + b.length - B.length - j) 0 (by omega) ⟨⟨rfl, rfl⟩, trivial⟩ ⟨⟨rfl, rfl, eqR (by simp)⟩, trivial⟩ rfl fun j hj => ?_
   have hRl : ((B ++ List.replicate j 0).map gBy).length = B.length + j := by simp
   refine ⟨by omega, EvIf.dec (fun h2 => ?_) (fun h2 => ?_)⟩
   ·refine ⟨by rw [hRl]; simp; omega, j + 1, by omega, (by dsimp only; omega), ?_⟩
    refine ⟨?_, ?_, rfl⟩ <;> repeat' (first | exact True.intro | with_reducible rfl | exact rfl | refine And.intro ?_ ?_)
    exact eqR (by rw [List.replicate_succ']; simp [gBy])
   ·have h2' : ¬ B.length + j < a.toNat + b.length := fun h3 => h2 (by rw [hRl]; omega)
    have hR : B ++ List.replicate j 0 = padTo B (a.toNat + b.length) := by
     unfold padTo
     rcases Nat.eq_zero_or_pos (a.toNat + b.length - B.length) with h3 | h3
     ·rw [h3, show j = 0 by omega]
     ·rw [show j = a.toNat + b.length - B.length by omega]
    obtain ⟨R, hRe⟩ : ∃ R : List (List G), R = (B ++ List.replicate j 0).map gBy := ⟨_, rfl⟩
    have key : (splice (padTo B (a.toNat + b.length)) a.toNat b).map gBy = R.take a.toNat ++ (b.map gBy).take (min (b.map gBy).length (R.length - a.toNat)) ++ R.drop (a.toNat + min (b.map gBy).length (R.length - a.toNat)) := by
     rw [hRe, hR, hL]
     have hp : ((padTo B (a.toNat + b.length)).map gBy).length = max B.length (a.toNat + b.length) := by rw [List.length_map, padTo_len]
     rw [show min b.length (((padTo B (a.toNat + b.length)).map gBy).length - a.toNat) = b.length by omega]
     unfold splice
     rw [List.take_of_length_le (by omega : (b.map gBy).length ≤ b.length)]
     simp [List.map_take, List.map_drop]
    have e : enShB (splice (padTo B (a.toNat + b.length)) a.toNat b) (rwOnL On a.toNat b.length) true = .tup [.agg [.sl (R.take a.toNat ++ (b.map gBy).take (min (b.map gBy).length (R.length - a.toNat)) ++ R.drop (a.toNat + min (b.map gBy).length (R.length - a.toNat))), .sl ((rwOnL On a.toNat b.length).map gNu)], .v (.bool true)] := by unfold enShB enSh; rw [key]
    rw [e]
    rw [← hRe] at hRl ⊢
    refine ⟨⟨by omega, by omega, by omega⟩, ⟨rows_one (f := gBy) (fun x => ⟨rfl, rfl⟩) _, ?_⟩⟩
    refine sx_loop [1, 2, 3, 6, 8] [0, 1, 3] (fun i : Nat => [(10, .v (.int .i64 i)), (9, .sl ((rwOnL On a.toNat i).map gNu))]) (fun _ => []) (fun i => i ≤ b.length) (fun i => b.length - i) 0 (by omega) ⟨⟨rfl, rfl⟩, ⟨rfl, rfl⟩, trivial⟩ trivial rfl fun i hi => ?_
    have hlen := rwOnL_len On a.toNat i
    have hst := rwOnL_succ On a.toNat i
    have hm := tmod16 (i := i) hfa.1
    have hd := tdiv16 (i := i) hfa.1
    refine EvIf.dec (fun h3 => ?_) (fun h3 => ?_)
    ·have hw : FnV Tryz.prog 99 [.sl ((rwOnL On a.toNat i).map gNu), .v (.int .i64 ((a + i).tdiv 16))] fun q => q = .sl ((insK ((a.toNat + i) / 16) (rwOnL On a.toNat i)).map gNu) := by rw [hd]; exact with_q _ (by omega) _
     have yes : i = 0 ∨ (a.toNat + i) % 16 = 0 → rwOnL On a.toNat (i + 1) = insK ((a.toNat + i) / 16) (rwOnL On a.toNat i) := fun h => by rw [hst, if_pos (show headAt a.toNat i = true from decide_eq_true h)]
     have no : ¬ (i = 0 ∨ (a.toNat + i) % 16 = 0) → rwOnL On a.toNat (i + 1) = rwOnL On a.toNat i := fun h => by rw [hst, if_neg (by unfold headAt; rw [decide_eq_false h]; simp)]
     refine EvIf.beq (fun h4 => ⟨by omega, ⟨by omega, ⟨by omega, hw.cal fun q hq => ?_⟩⟩⟩) (fun h4 => ⟨by omega, ⟨by omega, EvIf.beq (fun h5 => ⟨by omega, ⟨by omega, ⟨by omega, hw.cal fun q hq => ?_⟩⟩⟩) (fun h5 => ?_)⟩⟩)
     ·subst hq
      refine ⟨by omega, i + 1, by omega, (by dsimp only; omega), ?_⟩
      refine ⟨?_, ?_, rfl⟩ <;> repeat' (first | exact True.intro | with_reducible rfl | exact rfl | refine And.intro ?_ ?_)
      exact eqS (by rw [yes (.inl (by omega))])
     ·subst hq
      refine ⟨by omega, i + 1, by omega, (by dsimp only; omega), ?_⟩
      refine ⟨?_, ?_, rfl⟩ <;> repeat' (first | exact True.intro | with_reducible rfl | exact rfl | refine And.intro ?_ ?_)
      exact eqS (by rw [yes (.inr (by omega))])
     ·refine ⟨by omega, i + 1, by omega, (by dsimp only; omega), ?_⟩
      refine ⟨?_, ?_, rfl⟩ <;> repeat' (first | exact True.intro | with_reducible rfl | exact rfl | refine And.intro ?_ ?_)
      exact eqS (by rw [no (by omega)])
    ·have hi2 : i = b.length := by omega
     rw [← hi2]
     exact rfl
def ctB (B : List UInt8) (n : Int) (k : Nat) : Bool := decide (16 * k < n.toNat ∨ B.length ≤ n.toNat)
theorem sheetC_q (B : List UInt8) (On : List Nat) (hF : FewS B On) (hOk : ∀ k ∈ On, k < 65536) (n : Int) : FnV Tryz.prog 89 [enSh B On, .v (.int .i64 n)] fun q => q = enShB (rcB B n) (rcOn B On n) (cutOk n) := by
 refine fnG Tryz.func89 (by kernel_rfl) rfl (Nat.le_of_ble_eq_true (by kernel_rfl)) (by kernel_rfl) ?_
 have hB := hF.b
 have hO := hF.o
 unfold rcB rcOn
 have bad : ¬ (0 ≤ n ∧ n ≤ 1048576) → cutOk n = false := fun h => decide_eq_false h
 refine EvIf.dec (fun h1 => ?_) (fun h1 => EvIf.dec (fun h2 => ?_) (fun h2 => ?_))
 ·rw [bad (by omega)]; exact rfl
 ·rw [bad (by omega)]; exact rfl
 rw [show cutOk n = true from decide_eq_true ⟨by omega, by omega⟩, if_pos rfl, if_pos rfl]
 refine ⟨rows_one (f := gBy) (fun x => ⟨rfl, rfl⟩) _, ⟨by simp; omega, ?_⟩⟩
 refine sx_loop [1, 2, 4] [0, 1] (fun _ : Nat => [(6, .osl 3)]) (fun j => [(3, .slc ((B ++ List.replicate j 0).map gBy) 5 1)]) (fun j => j ≤ n.toNat - B.length) (fun j => n.toNat - B.length - j) 0 (by omega) ⟨⟨rfl, rfl⟩, trivial⟩ ⟨⟨rfl, rfl, eqR (by simp)⟩, trivial⟩ rfl fun j hj => ?_
 have hRl : ((B ++ List.replicate j 0).map gBy).length = B.length + j := by simp
 refine EvIf.dec (fun h2 => ?_) (fun h2 => ?_)
 ·refine ⟨by rw [hRl]; simp; omega, j + 1, by omega, (by dsimp only; omega), ?_⟩
  refine ⟨?_, ?_, rfl⟩ <;> repeat' (first | exact True.intro | with_reducible rfl | exact rfl | refine And.intro ?_ ?_)
  exact eqR (by rw [List.replicate_succ']; simp [gBy])
 ·have h2' : ¬ B.length + j < n.toNat := fun h3 => h2 (by rw [hRl]; omega)
  have hR : B ++ List.replicate j 0 = padTo B n.toNat := by
   unfold padTo
   rcases Nat.eq_zero_or_pos (n.toNat - B.length) with h3 | h3
   ·rw [h3, show j = 0 by omega]
   ·rw [show j = n.toNat - B.length by omega]
  obtain ⟨R, hRe⟩ : ∃ R : List (List G), R = (B ++ List.replicate j 0).map gBy := ⟨_, rfl⟩
  have e : enShB ((padTo B n.toNat).take n.toNat) (On.filter (fun k => decide (16 * k < n.toNat ∨ B.length ≤ n.toNat))) true = .tup [.agg [.sl (subL R 0 n.toNat), .sl ((On.filter (ctB B n)).map gNu)], .v (.bool true)] := by
   unfold enShB enSh subL ctB
   rw [hRe, hR]
   simp [List.map_take]
  rw [e]
  rw [← hRe] at hRl ⊢
  refine sx_loop [1, 2, 4, 6] [0, 1, 3] (fun i : Nat => [(8, .v (.int .i64 i)), (7, .osl 4)]) (fun i => [(4, .slc (((On.take i).filter (ctB B n)).map gNu) 3 1)]) (fun i => i ≤ On.length) (fun i => On.length - i) 0 (by omega) ⟨⟨rfl, rfl⟩, ⟨rfl, rfl⟩, trivial⟩ ⟨⟨rfl, rfl, rfl⟩, trivial⟩ rfl fun i hi => ?_
  have hle := filter_le (ctB B n) On i
  refine EvIf.dec (fun h3 => ?_) (fun h3 => ?_)
  ·refine EvIdx.of (by simpa using h3) fun x hx => ?_
   have hlt := lt_of_at hx
   have hxk := hOk x (List.mem_of_getElem? hx)
   have yes : 16 * x < n.toNat ∨ B.length ≤ n.toNat → ctB B n x = true := fun h => decide_eq_true h
   have hBl : ((B.map gBy).length : Int) = B.length := by rw [List.length_map]
   refine ⟨by omega, EvIf.dec (fun h4 => ?_) (fun h4 => EvIf.dec (fun h5 => ?_) (fun h5 => ?_))⟩
   ·refine EvIdx.at hx ⟨by simp; omega, ⟨by omega, i + 1, by omega, (by dsimp only; omega), ?_⟩⟩
    refine ⟨?_, ?_, rfl⟩ <;> repeat' (first | exact True.intro | with_reducible rfl | exact rfl | refine And.intro ?_ ?_)
    exact eqR (filter_yes (ctB B n) gNu hx (yes (by omega)))
   ·refine EvIdx.at hx ⟨by simp; omega, ⟨by omega, i + 1, by omega, (by dsimp only; omega), ?_⟩⟩
    refine ⟨?_, ?_, rfl⟩ <;> repeat' (first | exact True.intro | with_reducible rfl | exact rfl | refine And.intro ?_ ?_)
    exact eqR (filter_yes (ctB B n) gNu hx (yes (by omega)))
   ·refine ⟨by omega, i + 1, by omega, (by dsimp only; omega), ?_⟩
    refine ⟨?_, ?_, rfl⟩ <;> repeat' (first | exact True.intro | with_reducible rfl | exact rfl | refine And.intro ?_ ?_)
    exact eqR (filter_no (ctB B n) gNu hx (decide_eq_false (by omega)))
  ·rw [List.take_of_length_le (by simp at h3; omega)]
   exact ⟨⟨by omega, by omega, by omega⟩, rfl⟩
end Go.Proofs.YtpcjmefchclhhaaGreat
namespace Go.Proofs.YtpcjmefchclhhaaGreat
open Go.RowKit
set_option maxRecDepth 100000
theorem new_q (room : Int) : FnV Tryz.prog 12 [.v (.int .i64 room)] fun q => q = enF (newP room) := by
 refine fnG Tryz.func12 (by kernel_rfl) rfl (Nat.le_of_ble_eq_true (by kernel_rfl)) (by kernel_rfl) ?_
 exact rfl
def usedT (r : RFs) (i : Nat) : Nat := ((r.ins.take i).map fun x => x.On.length).sum
theorem used_step {r : RFs} {i : Nat} {x : RIn} (h : r.ins[i]? = some x) : usedT r (i + 1) = usedT r i + x.On.length := by
 unfold usedT
 rw [take_more h]; simp
theorem used_le (r : RFs) (i : Nat) : usedT r i ≤ usedN r := by
 unfold usedT usedN
 have : r.ins = r.ins.take i ++ r.ins.drop i := (List.take_append_drop i r.ins).symm
 conv => rhs; rw [this, List.map_append, List.sum_append]
 omega
theorem free_q (r : RFs) (hF : Few r) {K : Nat} (hW : Wf r K) : FnV Tryz.prog 40 [enF r] fun q => q = .v (.int .i64 (roomP r)) := by
 refine fnG Tryz.func40 (by kernel_rfl) rfl (Nat.le_of_ble_eq_true (by kernel_rfl)) (by kernel_rfl) ?_
 have h1 := hW.rm
 have h2 : (usedN r : Int) ≤ r.room := hW.sp
 refine sx_loop [1, 2] [0] (fun i : Nat => [(4, .v (.int .i64 i)), (3, .v (.int .i64 (r.room - usedT r i)))]) (fun _ => []) (fun i => i ≤ r.ins.length) (fun i => r.ins.length - i) 0 (by omega) ⟨⟨rfl, rfl⟩, ⟨rfl, eqI (by simp [usedT])⟩, trivial⟩ trivial rfl fun i hi => ?_
 have h3 := used_le r i
 have hl := hF.i
 refine EvIf.dec (fun h => ?_) (fun h => ?_)
 ·refine EvIdx.of (by simpa using h) fun x hx => ?_
  have h4 := used_step hx
  have h5 := used_le r (i + 1)
  have hlt := lt_of_at hx
  refine ⟨?_, ?_⟩
  ·simp; omega
  refine ⟨by omega, i + 1, by omega, (by dsimp only; omega), ?_⟩
  refine ⟨?_, ?_, rfl⟩ <;> repeat' (first | exact True.intro | with_reducible rfl | exact rfl | refine And.intro ?_ ?_)
  exact eqI (by simp; omega)
 ·have : r.room - (usedT r i : Int) = roomP r := by unfold roomP usedN usedT; rw [List.take_of_length_le (by simp at h; omega)]
  rw [this]; exact rfl
def statE (r : RFs) (h : Int × Int) : G := if liveP r h = true then .tup [.agg [.v (.int .i64 h.1), .v (.int .i64 h.2), .v (.int .i64 (byIdP r.ins h.1).kind), .v (.int .i64 (byIdP r.ins h.1).mode), .v (.int .i64 (linksN r (byIdP r.ins h.1) : Int)), .v (.int .i64 (sizeN r (byIdP r.ins h.1))), .v (.int .i64 ((byIdP r.ins h.1).On.length : Int)), .v (.int .i64 (byIdP r.ins h.1).time)], .v (.int .i64 0)]
 else .tup [.agg [.v (.int .i64 0), .v (.int .i64 0), .v (.int .i64 0), .v (.int .i64 0), .v (.int .i64 0), .v (.int .i64 0), .v (.int .i64 0), .v (.int .i64 0)], .v (.int .i64 175)]
theorem stat_q (r : RFs) (hF : Few r) {K : Nat} (hW : Wf r K) (i g : Int) : FnV Tryz.prog 32 [enF r, .agg [.v (.int .i64 i), .v (.int .i64 g)]] fun q => q = statE r (i, g) := by
 refine fnG Tryz.func32 (by kernel_rfl) rfl (Nat.le_of_ble_eq_true (by kernel_rfl)) (by kernel_rfl) ?_
 refine (find_q r hF i g).cal fun q hq => ?_
 subst hq
 unfold statE
 rcases findQ_e (r := r) (i := i) (g := g) with ⟨hl, he⟩ | ⟨hl, he, -⟩
 case inr => rw [hl, he, if_neg (by simp)]; exact EvIf.bne (fun _ => by exact rfl) (fun h => by cases h)
 rw [hl, he, if_pos rfl, if_pos rfl]
 obtain ⟨hm, hi, hg⟩ := live_mem hl
 dsimp only at hi hg hm
 obtain ⟨x, hx⟩ : ∃ x, x = byIdP r.ins i := ⟨_, rfl⟩
 dsimp only
 rw [← hx] at hi hg hm ⊢
 subst hi hg
 have hk := hW.kind x hm
 have e2 : (x.On.length : Int) = (x.On.map gNu).length := by simp
 rw [e2]
 refine EvIf.bne (fun h => absurd rfl h) fun _ => ?_
 have hli := links_q r hF x
 refine ⟨hli.cal fun q hq => ?_, hli.cal fun q hq => ?_⟩ <;> subst hq
 all_goals
  refine EvIf.beq (fun (h2 : x.kind = 2) => (many_q r hF _).cal fun q hq => ?_) (fun (h2 : ¬ x.kind = 2) => ?_)
  ·subst hq
   refine EvIf.beq (fun (h3 : x.kind = 3) => ?_) (fun (h3 : ¬ x.kind = 3) => ?_)
   ·omega
   ·have : sizeN r x = manyP r.nms x.id := by unfold sizeN; rw [if_neg (by omega), if_pos h2]
    rw [this]; exact rfl
  ·refine EvIf.beq (fun (h3 : x.kind = 3) => ?_) (fun (h3 : ¬ x.kind = 3) => ?_)
   ·have : sizeN r x = x.target.size := by unfold sizeN; rw [if_neg (by omega), if_neg h2]
    rw [this]; exact rfl
   ·have : sizeN r x = x.B.length := by unfold sizeN; rw [if_pos (by omega)]
    have e : sizeN r x = (x.B.map gBy).length := by rw [this]; simp
    rw [e]; exact rfl
end Go.Proofs.YtpcjmefchclhhaaGreat
namespace Go.Proofs.YtpcjmefchclhhaaGreat
open Go.RowKit
set_option maxRecDepth 100000
theorem file_sheet {r : RFs} {K : Nat} (hW : Wf r K) (h : Int × Int) : fileE r h = sheetE r h := by
 unfold fileE sheetE
 cases hl : liveP r h with
 | false => rfl
 | true =>
  rw [if_pos rfl, if_pos rfl]
  rcases hW.kind _ (live_mem hl).1 with h | h | h <;> rw [h] <;> rfl
def Shs (r : RFs) : Prop := ∀ x ∈ r.ins, FewS x.B x.On ∧ ∀ k ∈ x.On, k < 65536
theorem readf_q (r : RFs) (hF : Few r) {K : Nat} (hW : Wf r K) (hS : Shs r) (i g a n : Int) : FnV Tryz.prog 38 [enF r, .agg [.v (.int .i64 i), .v (.int .i64 g)], .v (.int .i64 a), .v (.int .i64 n)] fun q => q = .tup [.sl ((freadP r (i, g) a n).1.map gBy), .v (.int .i64 (freadP r (i, g) a n).2)] := by
 refine fnG Tryz.func38 (by kernel_rfl) rfl (Nat.le_of_ble_eq_true (by kernel_rfl)) (by kernel_rfl) ?_
 refine (file_q r hF i g).cal fun q hq => ?_
 subst hq
 rw [file_sheet hW]
 unfold freadP
 by_cases he : sheetE r (i, g) = 0
 case neg => rw [if_pos he]; exact EvIf.beq (fun h => absurd h he) (fun _ => EvIf.bne (fun _ => by exact rfl) (fun h => absurd h he))
 obtain ⟨hl, hk⟩ := sheet_live he
 rw [he, hl, if_pos rfl, if_neg (show ¬ ((0 : Int) ≠ 0) by simp)]
 have hx := (live_mem hl).1
 dsimp only at hx
 refine EvIf.beq (fun _ => EvIf.dec (fun h1 => ?_) (fun h1 => EvIf.dec (fun h2 => ?_) (fun h2 => ?_))) (fun h => absurd rfl h)
 ·rw [if_pos (.inl h1)]
  exact EvIf.bne (fun _ => by exact rfl) (fun h => absurd h (by decide))
 ·rw [if_pos (.inr h2)]
  exact EvIf.bne (fun _ => by exact rfl) (fun h => absurd h (by decide))
 ·rw [if_neg (by omega)]
  refine EvIf.bne (fun h => absurd rfl h) fun _ => (readr_q _ _ (hS _ hx).1 a n).cal fun q hq => ?_
  subst hq
  exact rfl
theorem cutf_q (r : RFs) (hF : Few r) {K : Nat} (hW : Wf r K) (hS : Shs r) (i g n t : Int) : FnV Tryz.prog 58 [enF r, .agg [.v (.int .i64 i), .v (.int .i64 g)], .v (.int .i64 n), .v (.int .i64 t)] fun q => q = enFE (fcutP r (i, g) n t) := by
 refine fnG Tryz.func58 (by kernel_rfl) rfl (Nat.le_of_ble_eq_true (by kernel_rfl)) (by kernel_rfl) ?_
 refine (file_q r hF i g).cal fun q hq => ?_
 subst hq
 rw [file_sheet hW]
 unfold fcutP
 by_cases he : sheetE r (i, g) = 0
 case neg => rw [if_pos he]; exact EvIf.bne (fun _ => by exact rfl) (fun h => absurd h he)
 obtain ⟨hl, hk⟩ := sheet_live he
 rw [he, hl, if_pos rfl, if_neg (show ¬ ((0 : Int) ≠ 0) by simp)]
 have hx := (live_mem hl).1
 dsimp only at hx
 have clk : ¬ (0 ≤ t ∧ t ≤ 1099511627776) → clockB t = false := fun h => decide_eq_false h
 refine EvIf.bne (fun h => absurd rfl h) fun _ => EvIf.dec (fun h1 => ?_) (fun h1 => EvIf.dec (fun h2 => ?_) (fun h2 => EvIf.dec (fun h3 => ?_) (fun h3 => ?_)))
 ·rw [if_pos (.inl h1)]; exact rfl
 ·rw [if_pos (.inr (clk (by omega)))]; exact rfl
 ·rw [if_pos (.inr (clk (by omega)))]; exact rfl
 ·rw [if_neg (by rw [show clockB t = true from decide_eq_true ⟨by omega, by omega⟩]; simp; omega)]
  refine (sheetC_q _ _ (hS _ hx).1 (hS _ hx).2 n).cal fun q hq => ?_
  subst hq
  cases hc : cutOk n with
  | false => exact ⟨fun _ => (by rw [if_pos rfl]; exact rfl), fun h => (by cases h)⟩
  | true =>
   rw [if_neg (by simp)]
   refine ⟨fun h => (by cases h), fun _ => (set_q r hF (fileP (byIdP r.ins i) (rcB (byIdP r.ins i).B n) (rcOn (byIdP r.ins i).B (byIdP r.ins i).On n) t)).cal fun q hq => ?_⟩
   subst hq
   exact rfl
theorem writef_q (r : RFs) (hF : Few r) {K : Nat} (hW : Wf r K) (hS : Shs r) (i g a : Int) (b : List UInt8) (hb : b.length ≤ maxLen) (t : Int) : FnV Tryz.prog 57 [enF r, .agg [.v (.int .i64 i), .v (.int .i64 g)], .v (.int .i64 a), .sl (b.map gBy), .v (.int .i64 t)] fun q => q = enFE (fwriteP r (i, g) a b t) := by
 refine fnG Tryz.func57 (by kernel_rfl) rfl (Nat.le_of_ble_eq_true (by kernel_rfl)) (by kernel_rfl) ?_
 refine (file_q r hF i g).cal fun q hq => ?_
 subst hq
 rw [file_sheet hW]
 unfold fwriteP
 by_cases he : sheetE r (i, g) = 0
 case neg => rw [if_pos he]; exact EvIf.bne (fun _ => by exact rfl) (fun h => absurd h he)
 obtain ⟨hl, hk⟩ := sheet_live he
 rw [he, hl, if_pos rfl, if_neg (show ¬ ((0 : Int) ≠ 0) by simp)]
 have hx := (live_mem hl).1
 dsimp only at hx
 have clk : ¬ (0 ≤ t ∧ t ≤ 1099511627776) → clockB t = false := fun h => decide_eq_false h
 refine EvIf.bne (fun h => absurd rfl h) fun _ => EvIf.dec (fun h1 => ?_) (fun h1 => EvIf.dec (fun h2 => ?_) (fun h2 => EvIf.dec (fun h3 => ?_) (fun h3 => ?_)))
 ·rw [if_pos (.inl h1)]; exact rfl
 ·rw [if_pos (.inr (clk (by omega)))]; exact rfl
 ·rw [if_pos (.inr (clk (by omega)))]; exact rfl
 ·rw [if_neg (by rw [show clockB t = true from decide_eq_true ⟨by omega, by omega⟩]; simp; omega)]
  refine (sheetW_q _ _ (hS _ hx).1 a b hb).cal fun q hq => ?_
  subst hq
  have hne := need_q (byIdP r.ins i).B _ (hS _ hx).1 a b hb
  have hfr := free_q r hF hW
  cases hc : fitsB a b.length with
  | false => exact ⟨fun _ => (by rw [if_pos (.inr rfl)]; exact rfl), fun h => (by cases h)⟩
  | true =>
   refine ⟨fun h => (by cases h), fun _ => hne.cal fun q hq => ?_⟩
   subst hq
   refine hfr.cal fun q hq => ?_
   subst hq
   refine EvIf.dec (fun h4 => ?_) (fun h4 => ?_)
   ·rw [if_pos (.inl (show roomP r < (rneed (byIdP r.ins i).On a b.length : Int) by omega))]; exact rfl
   ·rw [if_neg (by simp; omega)]
    refine (set_q r hF (fileP (byIdP r.ins i) (rwB (byIdP r.ins i).B a b) (rwOn (byIdP r.ins i).On a b.length) t)).cal fun q hq => ?_
    subst hq
    exact rfl
end Go.Proofs.YtpcjmefchclhhaaGreat
namespace Go.Proofs.YtpcjmefchclhhaaGreat
open Go.RowKit
set_option maxRecDepth 100000
theorem renameP_eq (r : RFs) (h : Int × Int) (s : ByteArray) (g : Int × Int) (t : ByteArray) : renameP r h s g t = if liveP r h = false ∨ liveP r g = false then (r, 175) else if (byIdP r.ins h.1).kind ≠ 2 ∨ (byIdP r.ins g.1).kind ≠ 2 then (r, 173) else if ¬ (validP s = true ∧ validP t = true) then (r, 176)
  else if entryP r.nms h.1 s = 0 then (r, 170) else if entryP r.nms h.1 s = entryP r.nms g.1 t then (r, 0)
  else if (byIdP r.ins (entryP r.nms h.1 s)).kind = 2 ∧ belowB r g.1 (entryP r.nms h.1 s) = true then (r, 178)
  else if entryP r.nms g.1 t ≠ 0 then
   (if mayP r (byIdP r.ins (entryP r.nms g.1 t)) (decide ((byIdP r.ins (entryP r.nms h.1 s)).kind = 2)) ≠ 0 then (r, mayP r (byIdP r.ins (entryP r.nms g.1 t)) (decide ((byIdP r.ins (entryP r.nms h.1 s)).kind = 2)))
    else (movedP (dropP r g.1 t) h.1 s g.1 t (byIdP r.ins (entryP r.nms h.1 s)), 0))
  else if (byIdP r.ins (entryP r.nms h.1 s)).kind = 2 ∧ h.1 ≠ g.1 ∧ 20 ≤ linksN r (byIdP r.ins g.1) then (r, 179)
  else (movedP r h.1 s g.1 t (byIdP r.ins (entryP r.nms h.1 s)), 0) := by
 unfold renameP placesE
 by_cases h1 : liveP r h = false ∨ liveP r g = false
 ·rw [if_pos h1, if_pos (by simp), if_pos h1]
 ·by_cases h2 : (byIdP r.ins h.1).kind ≠ 2 ∨ (byIdP r.ins g.1).kind ≠ 2
  ·rw [if_neg h1, if_pos h2, if_pos (by simp), if_neg h1, if_pos h2]
  ·by_cases h3 : validP s = true ∧ validP t = true
   ·rw [if_neg h1, if_neg h2, if_pos h3, if_neg (show ¬ ((0 : Int) ≠ 0) by simp), if_neg (show ¬ ¬ (validP s = true ∧ validP t = true) from fun h => h h3)]
    simp only [h1, h2, if_false]
   ·rw [if_neg h1, if_neg h2, if_neg h3, if_pos (by simp), if_neg h1, if_neg h2, if_pos h3]
theorem drop_few {r : RFs} (h : Few r) (d : Int) (u : ByteArray) : Few (dropP r d u) ∧ (dropP r d u).nms.length ≤ r.nms.length := by
 unfold dropP
 split
 ·exact ⟨⟨Nat.le_trans (List.length_filter_le _ _) h.i, Nat.le_trans (List.length_filter_le _ _) h.n, h.g⟩, List.length_filter_le _ _⟩
 ·exact ⟨few_unnamed h d u, List.length_filter_le _ _⟩
set_option maxHeartbeats 4000000 in
theorem rename_q (r : RFs) (hF : Few r) {K : Nat} (hW : Wf r K) (hK : K ≤ 999999) (i g : Int) (s : ByteArray) (hs : s.size ≤ maxLen) (j gj : Int) (t : ByteArray) (ht : t.size ≤ maxLen) : FnV Tryz.prog 56 [enF r, .agg [.v (.int .i64 i), .v (.int .i64 g), .v (.string s), .v (.int .i64 j), .v (.int .i64 gj), .v (.string t)]] fun q => q = enFE (renameP r (i, g) s (j, gj) t) := by
 refine fnG Tryz.func56 (by kernel_rfl) rfl (Nat.le_of_ble_eq_true (by kernel_rfl)) (by kernel_rfl) ?_
 obtain ⟨X, hX⟩ : ∃ X, X = renameP r (i, g) s (j, gj) t := ⟨_, rfl⟩
 rw [← hX]
 rw [renameP_eq] at hX
 refine (find_q r hF i g).cal fun q hq => ?_
 subst hq
 refine (find_q r hF j gj).cal fun q hq => ?_
 subst hq
 rcases findQ_e (r := r) (i := i) (g := g) with ⟨hl, he⟩ | ⟨hl, he, -⟩
 case inr =>
  rw [if_pos (.inl hl)] at hX
  rw [hl, he, hX]; exact EvIf.bne (fun _ => by exact rfl) (fun h => by cases h)
 rcases findQ_e (r := r) (i := j) (g := gj) with ⟨hl2, he2⟩ | ⟨hl2, he2, -⟩
 case inr =>
  rw [if_pos (.inr hl2)] at hX
  rw [hl, he, hl2, he2, hX]; exact EvIf.bne (fun h => absurd rfl h) (fun _ => EvIf.bne (fun _ => by exact rfl) (fun h => by cases h))
 rw [hl, he, hl2, he2]
 rw [if_neg (by rw [hl, hl2]; simp)] at hX
 refine EvIf.bne (fun h => absurd rfl h) (fun _ => EvIf.bne (fun h => absurd rfl h) (fun _ => ?_))
 refine (folder_q r hF i g).cal fun q hq => ?_
 subst hq
 refine (folder_q r hF j gj).cal fun q hq => ?_
 subst hq
 have fe : ∀ h : Int × Int, liveP r h = true → folderE r h = if (byIdP r.ins h.1).kind = 2 then 0 else 173 := fun h hh => by unfold folderE; simp [hh]
 have f1 := fe _ hl
 have f2 := fe _ hl2
 dsimp only at f1 f2 hX
 by_cases k1 : (byIdP r.ins i).kind = 2
 case neg =>
  rw [if_neg k1] at f1
  rw [if_pos (.inl k1)] at hX
  rw [f1, hX]; exact EvIf.bne (fun _ => by exact rfl) (fun h => by cases h)
 rw [if_pos k1] at f1
 by_cases k2 : (byIdP r.ins j).kind = 2
 case neg =>
  rw [if_neg k2] at f2
  rw [if_pos (.inr k2)] at hX
  rw [f1, f2, hX]; exact EvIf.bne (fun h => absurd rfl h) (fun _ => EvIf.bne (fun _ => by exact rfl) (fun h => by cases h))
 rw [if_pos k2] at f2
 rw [if_neg (by omega)] at hX
 rw [f1, f2, if_pos (show (0 : Int) = 0 from rfl), if_pos (show (0 : Int) = 0 from rfl)]
 have i1 : (byIdP r.ins i).id = i := (live_mem hl).2.1
 have i2 : (byIdP r.ins j).id = j := (live_mem hl2).2.1
 refine EvIf.bne (fun h => absurd rfl h) (fun _ => EvIf.bne (fun h => absurd rfl h) (fun _ => ?_))
 refine (valid_q s hs).cal fun q hq => ?_
 subst hq
 cases hv : validP s with
 | false =>
  rw [if_pos (by simp [hv])] at hX
  rw [hX]; exact ⟨fun _ => (by exact rfl), fun h => (by cases h)⟩
 | true =>
 refine ⟨fun h => (by cases h), fun _ => (valid_q t ht).cal fun q hq => ?_⟩
 subst hq
 cases hv2 : validP t with
 | false =>
  rw [if_pos (by simp [hv2])] at hX
  rw [hX]; exact ⟨fun _ => (by exact rfl), fun h => (by cases h)⟩
 | true =>
 rw [if_neg (by simp [hv, hv2])] at hX
 refine ⟨fun h => (by cases h), fun _ => (entry_q r hF _ s).cal fun q hq => ?_⟩
 rw [i1] at hq
 subst hq
 refine (entry_q r hF _ t).cal fun q hq => ?_
 rw [i2] at hq
 subst hq
 refine EvIf.beq (fun (h1 : entryP r.nms i s = 0) => ?_) (fun (h1 : ¬ entryP r.nms i s = 0) => EvIf.beq (fun (h2 : entryP r.nms i s = entryP r.nms j t) => ?_) (fun (h2 : ¬ entryP r.nms i s = entryP r.nms j t) => (byId_q r hF _).cal fun q hq => ?_))
 ·rw [if_pos h1] at hX
  rw [hX]; exact rfl
 ·rw [if_neg h1, if_pos h2] at hX
  rw [hX]; exact rfl
 subst hq
 rw [if_neg h1, if_neg h2] at hX
 have hmem : ∀ {d : Int} {u : ByteArray}, entryP r.nms d u ≠ 0 → (byIdP r.ins (entryP r.nms d u)).id = entryP r.nms d u := fun h => by
  obtain ⟨n, hn, -, -, e⟩ := entry_mem h
  obtain ⟨-, y, hy, e2⟩ := hW.nmI n hn
  have hb := hW.byId hy
  rw [← e, ← e2, hb]
 have hnk := hW.nmK
 have hxj : byIdP r.ins j ∈ r.ins := (live_mem hl2).1
 have hbl := below_q r hF hW (entryP r.nms i s) hxj k2
 rw [i2] at hbl
 have hbl : FnV Tryz.prog 85 [enF r, .v (.int .i64 (byIdP r.ins j).id), .v (.int .i64 (entryP r.nms i s))] fun q => q = .v (.bool (belowB r j (entryP r.nms i s))) := by rw [i2]; exact hbl
 refine EvIf.beq (fun (h3 : (byIdP r.ins (entryP r.nms i s)).kind = 2) => hbl.cal fun q hq => ?_) (fun (h3 : ¬ (byIdP r.ins (entryP r.nms i s)).kind = 2) => ?_)
 ·subst hq
  cases hb : belowB r j (entryP r.nms i s) with
  | true =>
   rw [if_pos ⟨h3, hb⟩] at hX
   rw [hX]; exact ⟨fun _ => (by exact rfl), fun h => (by cases h)⟩
  | false =>
   rw [if_neg (fun h => by rw [hb] at h; cases h.2)] at hX
   refine ⟨fun h => (by cases h), fun _ => ?_⟩
   refine EvIf.bne (fun (h4 : entryP r.nms j t ≠ 0) => ?_) (fun (h4 : entryP r.nms j t = 0) => ?_)
   ·rw [if_pos h4] at hX
    refine (may_q r hF _ ((byIdP r.ins (entryP r.nms i s)).kind == 2) fun _ => hmem h4).cal fun q hq => ?_
    subst hq
    refine EvIf.bne (fun h5 => ?_) (fun h5 => ?_)
    ·rw [if_pos (show mayP r _ (decide _) ≠ 0 from h5)] at hX
     rw [hX]; exact rfl
    ·rw [if_neg (show ¬ mayP r _ (decide _) ≠ 0 from fun h => h h5)] at hX
     have hdr : FnV Tryz.prog 84 [enF r, .v (.int .i64 (byIdP r.ins j).id), .v (.string t)] fun q => q = enF (dropP r j t) := by rw [i2]; exact drop_q r hF j t (hmem h4)
     refine hdr.cal fun q hq => ?_
     subst hq
     obtain ⟨hD, hDl⟩ := drop_few hF j t
     have hU := few_unnamed hD i s
     have hN : Few (namedP (unnamedP (dropP r j t) i s) j t (entryP r.nms i s)) := ⟨hU.i, by show ((unnamedP (dropP r j t) i s).nms ++ [_]).length ≤ 1000000; rw [List.length_append]; have := List.length_filter_le (fun n : RNm => !decide (n.dir = i ∧ n.name = s)) (dropP r j t).nms; show (List.filter _ _).length + 1 ≤ 1000000; omega, hU.g⟩
     have hq1 : FnV Tryz.prog 86 [enF (dropP r j t), .v (.int .i64 (byIdP r.ins i).id), .v (.string s)] fun q => q = enF (unnamedP (dropP r j t) i s) := by rw [i1]; exact unnamed_q _ hD i s
     have hq2 : FnV Tryz.prog 82 [enF (unnamedP (dropP r j t) i s), .v (.int .i64 (byIdP r.ins j).id), .v (.string t), .v (.int .i64 (entryP r.nms i s))] fun q => q = enF (namedP (unnamedP (dropP r j t) i s) j t (entryP r.nms i s)) := by rw [i2]; exact named_q _ hU j t _
     refine hq1.cal fun q hq => ?_
     subst hq
     refine hq2.cal fun q hq => ?_
     subst hq
     refine EvIf.beq (fun h7 => (set_q _ hN (upP (byIdP r.ins (entryP r.nms i s)) (byIdP r.ins j).id)).cal fun q hq => ?_) (fun h7 => ?_)
     ·subst hq
      have e : movedP (dropP r j t) i s j t (byIdP r.ins (entryP r.nms i s)) = setP (namedP (unnamedP (dropP r j t) i s) j t (entryP r.nms i s)) (upP (byIdP r.ins (entryP r.nms i s)) (byIdP r.ins j).id) := by unfold movedP; rw [if_pos h7, hmem h1, i2]
      rw [hX, e]; exact rfl
     ·have e : movedP (dropP r j t) i s j t (byIdP r.ins (entryP r.nms i s)) = namedP (unnamedP (dropP r j t) i s) j t (entryP r.nms i s) := by unfold movedP; rw [if_neg h7, hmem h1]
      rw [hX, e]; exact rfl
   ·rw [if_neg (by simpa using h4)] at hX
    have hn2 := hF.n
    refine EvIf.beq (fun _ => EvIf.bne (fun (h5 : (byIdP r.ins i).id ≠ (byIdP r.ins j).id) => (links_q r hF _).cal fun q hq => ?_) (fun (h5 : (byIdP r.ins i).id = (byIdP r.ins j).id) => ?_)) (fun h => absurd h3 h)
    ·subst hq
     refine EvIf.dec (fun h6 => ?_) (fun h6 => ?_)
     ·rw [if_pos ⟨h3, by omega, by omega⟩] at hX
      rw [hX]; exact rfl
     ·rw [if_neg (fun h => by have := h.2.2; omega)] at hX
      have hU := few_unnamed hF i s
      have hN : Few (namedP (unnamedP r i s) j t (entryP r.nms i s)) := ⟨hU.i, by show ((unnamedP r i s).nms ++ [_]).length ≤ 1000000; rw [List.length_append]; have := List.length_filter_le (fun n : RNm => !decide (n.dir = i ∧ n.name = s)) (r).nms; show (List.filter _ _).length + 1 ≤ 1000000; omega, hU.g⟩
      have hq1 : FnV Tryz.prog 86 [enF (r), .v (.int .i64 (byIdP r.ins i).id), .v (.string s)] fun q => q = enF (unnamedP (r) i s) := by rw [i1]; exact unnamed_q _ hF i s
      have hq2 : FnV Tryz.prog 82 [enF (unnamedP (r) i s), .v (.int .i64 (byIdP r.ins j).id), .v (.string t), .v (.int .i64 (entryP r.nms i s))] fun q => q = enF (namedP (unnamedP (r) i s) j t (entryP r.nms i s)) := by rw [i2]; exact named_q _ hU j t _
      refine hq1.cal fun q hq => ?_
      subst hq
      refine hq2.cal fun q hq => ?_
      subst hq
      refine EvIf.beq (fun h7 => (set_q _ hN (upP (byIdP r.ins (entryP r.nms i s)) (byIdP r.ins j).id)).cal fun q hq => ?_) (fun h7 => ?_)
      ·subst hq
       have e : movedP (r) i s j t (byIdP r.ins (entryP r.nms i s)) = setP (namedP (unnamedP (r) i s) j t (entryP r.nms i s)) (upP (byIdP r.ins (entryP r.nms i s)) (byIdP r.ins j).id) := by unfold movedP; rw [if_pos h7, hmem h1, i2]
       rw [hX, e]; exact rfl
      ·have e : movedP (r) i s j t (byIdP r.ins (entryP r.nms i s)) = namedP (unnamedP (r) i s) j t (entryP r.nms i s) := by unfold movedP; rw [if_neg h7, hmem h1]
       rw [hX, e]; exact rfl
    ·rw [if_neg (fun h => by have := h.2.1; omega)] at hX
     have hU := few_unnamed hF i s
     have hN : Few (namedP (unnamedP r i s) j t (entryP r.nms i s)) := ⟨hU.i, by show ((unnamedP r i s).nms ++ [_]).length ≤ 1000000; rw [List.length_append]; have := List.length_filter_le (fun n : RNm => !decide (n.dir = i ∧ n.name = s)) (r).nms; show (List.filter _ _).length + 1 ≤ 1000000; omega, hU.g⟩
     have hq1 : FnV Tryz.prog 86 [enF (r), .v (.int .i64 (byIdP r.ins i).id), .v (.string s)] fun q => q = enF (unnamedP (r) i s) := by rw [i1]; exact unnamed_q _ hF i s
     have hq2 : FnV Tryz.prog 82 [enF (unnamedP (r) i s), .v (.int .i64 (byIdP r.ins j).id), .v (.string t), .v (.int .i64 (entryP r.nms i s))] fun q => q = enF (namedP (unnamedP (r) i s) j t (entryP r.nms i s)) := by rw [i2]; exact named_q _ hU j t _
     refine hq1.cal fun q hq => ?_
     subst hq
     refine hq2.cal fun q hq => ?_
     subst hq
     refine EvIf.beq (fun h7 => (set_q _ hN (upP (byIdP r.ins (entryP r.nms i s)) (byIdP r.ins j).id)).cal fun q hq => ?_) (fun h7 => ?_)
     ·subst hq
      have e : movedP (r) i s j t (byIdP r.ins (entryP r.nms i s)) = setP (namedP (unnamedP (r) i s) j t (entryP r.nms i s)) (upP (byIdP r.ins (entryP r.nms i s)) (byIdP r.ins j).id) := by unfold movedP; rw [if_pos h7, hmem h1, i2]
      rw [hX, e]; exact rfl
     ·have e : movedP (r) i s j t (byIdP r.ins (entryP r.nms i s)) = namedP (unnamedP (r) i s) j t (entryP r.nms i s) := by unfold movedP; rw [if_neg h7, hmem h1]
      rw [hX, e]; exact rfl
 ·rw [if_neg (fun h => h3 h.1)] at hX
  refine EvIf.bne (fun (h4 : entryP r.nms j t ≠ 0) => ?_) (fun (h4 : entryP r.nms j t = 0) => ?_)
  ·rw [if_pos h4] at hX
   refine (may_q r hF _ ((byIdP r.ins (entryP r.nms i s)).kind == 2) fun _ => hmem h4).cal fun q hq => ?_
   subst hq
   refine EvIf.bne (fun h5 => ?_) (fun h5 => ?_)
   ·rw [if_pos (show mayP r _ (decide _) ≠ 0 from h5)] at hX
    rw [hX]; exact rfl
   ·rw [if_neg (show ¬ mayP r _ (decide _) ≠ 0 from fun h => h h5)] at hX
    have hdr : FnV Tryz.prog 84 [enF r, .v (.int .i64 (byIdP r.ins j).id), .v (.string t)] fun q => q = enF (dropP r j t) := by rw [i2]; exact drop_q r hF j t (hmem h4)
    refine hdr.cal fun q hq => ?_
    subst hq
    obtain ⟨hD, hDl⟩ := drop_few hF j t
    have hU := few_unnamed hD i s
    have hN : Few (namedP (unnamedP (dropP r j t) i s) j t (entryP r.nms i s)) := ⟨hU.i, by show ((unnamedP (dropP r j t) i s).nms ++ [_]).length ≤ 1000000; rw [List.length_append]; have := List.length_filter_le (fun n : RNm => !decide (n.dir = i ∧ n.name = s)) (dropP r j t).nms; show (List.filter _ _).length + 1 ≤ 1000000; omega, hU.g⟩
    have hq1 : FnV Tryz.prog 86 [enF (dropP r j t), .v (.int .i64 (byIdP r.ins i).id), .v (.string s)] fun q => q = enF (unnamedP (dropP r j t) i s) := by rw [i1]; exact unnamed_q _ hD i s
    have hq2 : FnV Tryz.prog 82 [enF (unnamedP (dropP r j t) i s), .v (.int .i64 (byIdP r.ins j).id), .v (.string t), .v (.int .i64 (entryP r.nms i s))] fun q => q = enF (namedP (unnamedP (dropP r j t) i s) j t (entryP r.nms i s)) := by rw [i2]; exact named_q _ hU j t _
    refine hq1.cal fun q hq => ?_
    subst hq
    refine hq2.cal fun q hq => ?_
    subst hq
    refine EvIf.beq (fun h7 => (set_q _ hN (upP (byIdP r.ins (entryP r.nms i s)) (byIdP r.ins j).id)).cal fun q hq => ?_) (fun h7 => ?_)
    ·subst hq
     have e : movedP (dropP r j t) i s j t (byIdP r.ins (entryP r.nms i s)) = setP (namedP (unnamedP (dropP r j t) i s) j t (entryP r.nms i s)) (upP (byIdP r.ins (entryP r.nms i s)) (byIdP r.ins j).id) := by unfold movedP; rw [if_pos h7, hmem h1, i2]
     rw [hX, e]; exact rfl
    ·have e : movedP (dropP r j t) i s j t (byIdP r.ins (entryP r.nms i s)) = namedP (unnamedP (dropP r j t) i s) j t (entryP r.nms i s) := by unfold movedP; rw [if_neg h7, hmem h1]
     rw [hX, e]; exact rfl
  ·rw [if_neg (by simpa using h4)] at hX
   have hn2 := hF.n
   refine EvIf.beq (fun h => absurd h h3) (fun _ => ?_)
   rw [if_neg (fun h => h3 h.1)] at hX
   have hU := few_unnamed hF i s
   have hN : Few (namedP (unnamedP r i s) j t (entryP r.nms i s)) := ⟨hU.i, by show ((unnamedP r i s).nms ++ [_]).length ≤ 1000000; rw [List.length_append]; have := List.length_filter_le (fun n : RNm => !decide (n.dir = i ∧ n.name = s)) (r).nms; show (List.filter _ _).length + 1 ≤ 1000000; omega, hU.g⟩
   have hq1 : FnV Tryz.prog 86 [enF (r), .v (.int .i64 (byIdP r.ins i).id), .v (.string s)] fun q => q = enF (unnamedP (r) i s) := by rw [i1]; exact unnamed_q _ hF i s
   have hq2 : FnV Tryz.prog 82 [enF (unnamedP (r) i s), .v (.int .i64 (byIdP r.ins j).id), .v (.string t), .v (.int .i64 (entryP r.nms i s))] fun q => q = enF (namedP (unnamedP (r) i s) j t (entryP r.nms i s)) := by rw [i2]; exact named_q _ hU j t _
   refine hq1.cal fun q hq => ?_
   subst hq
   refine hq2.cal fun q hq => ?_
   subst hq
   refine EvIf.beq (fun h7 => (set_q _ hN (upP (byIdP r.ins (entryP r.nms i s)) (byIdP r.ins j).id)).cal fun q hq => ?_) (fun h7 => ?_)
   ·subst hq
    have e : movedP (r) i s j t (byIdP r.ins (entryP r.nms i s)) = setP (namedP (unnamedP (r) i s) j t (entryP r.nms i s)) (upP (byIdP r.ins (entryP r.nms i s)) (byIdP r.ins j).id) := by unfold movedP; rw [if_pos h7, hmem h1, i2]
    rw [hX, e]; exact rfl
   ·have e : movedP (r) i s j t (byIdP r.ins (entryP r.nms i s)) = namedP (unnamedP (r) i s) j t (entryP r.nms i s) := by unfold movedP; rw [if_neg h7, hmem h1]
    rw [hX, e]; exact rfl
end Go.Proofs.YtpcjmefchclhhaaGreat
namespace Go.Proofs.YtpcjmefchclhhaaGreat
open Go.RowKit
set_option maxRecDepth 100000
def enO (o : OpF) : G := .agg [.v (.int .i64 o.kind), .v (.int .i64 o.h.1), .v (.int .i64 o.h.2), .v (.int .i64 o.g.1), .v (.int .i64 o.g.2), .v (.string o.name), .v (.string o.other), .v (.int .i64 o.m.kind), .v (.int .i64 o.m.mode), .v (.int .i64 o.m.time), .v (.string o.m.target), .v (.bool o.fo), .v (.int .i64 o.pos), .v (.int .i64 o.n), .v (.int .i64 o.time), .sl (o.b.map gBy)]
def enA (p : RFs × (Int × Int) × Int × List UInt8) : G := .tup [enF p.1, .agg [.v (.int .i64 p.2.1.1), .v (.int .i64 p.2.1.2), .v (.string ⟨p.2.2.2.toArray⟩), .v (.int .i64 p.2.2.1)]]
structure SmallO (o : OpF) : Prop where
 nm : o.name.size ≤ maxLen
 ot : o.other.size ≤ maxLen
 tg : o.m.target.size ≤ maxLen
 bl : o.b.length ≤ maxLen
set_option maxHeartbeats 4000000 in
theorem do_q (r : RFs) (hF : Few r) {K : Nat} (hW : Wf r K) (hK : K ≤ 999999) (hS : Shs r) (o : OpF) (hO : SmallO o) : FnV Tryz.prog 24 [enF r, enO o] fun q => q = enA (doP r o) := by
 refine fnG Tryz.func24 (by kernel_rfl) rfl (Nat.le_of_ble_eq_true (by kernel_rfl)) (by kernel_rfl) ?_
 obtain ⟨X, hX⟩ : ∃ X, X = doP r o := ⟨_, rfl⟩
 rw [← hX]
 unfold doP at hX
 refine EvIf.beq (fun (h0 : o.kind = 0) => (make_q r hF hW (by omega) o.h.1 o.h.2 o.name hO.nm o.m hO.tg).cal fun q hq => ?_) (fun (h0 : ¬ o.kind = 0) => ?_)
 ·subst hq; rw [if_pos h0] at hX; rw [hX]; exact rfl
 rw [if_neg h0] at hX
 refine EvIf.beq (fun (h1 : o.kind = 1) => (link_q r hF o.h.1 o.h.2 o.g.1 o.g.2 o.name hO.nm).cal fun q hq => ?_) (fun (h1 : ¬ o.kind = 1) => ?_)
 ·subst hq; rw [if_pos h1] at hX; rw [hX]; exact rfl
 rw [if_neg h1] at hX
 refine EvIf.beq (fun (h2 : o.kind = 2) => (remove_q r hF hW o.h.1 o.h.2 o.name hO.nm o.fo).cal fun q hq => ?_) (fun (h2 : ¬ o.kind = 2) => ?_)
 ·subst hq; rw [if_pos h2] at hX; rw [hX]; exact rfl
 rw [if_neg h2] at hX
 refine EvIf.beq (fun (h3 : o.kind = 3) => (rename_q r hF hW hK o.h.1 o.h.2 o.name hO.nm o.g.1 o.g.2 o.other hO.ot).cal fun q hq => ?_) (fun (h3 : ¬ o.kind = 3) => ?_)
 ·subst hq; rw [if_pos h3] at hX; rw [hX]; exact rfl
 rw [if_neg h3] at hX
 refine EvIf.beq (fun (h4 : o.kind = 4) => (writef_q r hF hW hS o.h.1 o.h.2 o.pos o.b hO.bl o.time).cal fun q hq => ?_) (fun (h4 : ¬ o.kind = 4) => ?_)
 ·subst hq; rw [if_pos h4] at hX; rw [hX]; exact rfl
 rw [if_neg h4] at hX
 refine EvIf.beq (fun (h5 : o.kind = 5) => (cutf_q r hF hW hS o.h.1 o.h.2 o.n o.time).cal fun q hq => ?_) (fun (h5 : ¬ o.kind = 5) => ?_)
 ·subst hq; rw [if_pos h5] at hX; rw [hX]; exact rfl
 rw [if_neg h5] at hX
 refine EvIf.beq (fun (h6 : o.kind = 6) => (look_q r hF hW o.h.1 o.h.2 o.name hO.nm).cal fun q hq => ?_) (fun (h6 : ¬ o.kind = 6) => ?_)
 ·subst hq; rw [if_pos h6] at hX; rw [hX]; exact rfl
 rw [if_neg h6] at hX
 refine EvIf.beq (fun (h7 : o.kind = 7) => (readf_q r hF hW hS o.h.1 o.h.2 o.pos o.n).cal fun q hq => ?_) (fun (h7 : ¬ o.kind = 7) => ?_)
 ·subst hq; rw [if_pos h7] at hX; rw [hX]; exact ⟨⟨_, rfl, rfl⟩⟩
 rw [if_neg h7] at hX
 rw [hX]; exact rfl
end Go.Proofs.YtpcjmefchclhhaaGreat
namespace Go.Proofs.YtpcjmefchclhhaaGreat
open Go.RowKit
set_option maxRecDepth 100000
def fewFO (o : OpF) : Bool := !decide (2000 < o.b.length ∨ (5000 < o.pos ∧ o.pos < 1048576) ∨ (5000 < o.n ∧ o.n ≤ 1048576))
def cellO (o : OpF) : List G := [.v (.int .i64 o.kind), .v (.int .i64 o.h.1), .v (.int .i64 o.h.2), .v (.int .i64 o.g.1), .v (.int .i64 o.g.2), .v (.string o.name), .v (.string o.other), .v (.int .i64 o.m.kind), .v (.int .i64 o.m.mode), .v (.int .i64 o.m.time), .v (.string o.m.target), .v (.bool o.fo), .v (.int .i64 o.pos), .v (.int .i64 o.n), .v (.int .i64 o.time), .sl (o.b.map gBy)]
theorem few_q (l : List OpF) : FnV Tryz.prog 9 [.sl (l.map cellO)] fun q => q = .v (.bool (decide (l.length ≤ 250) && l.all fewFO)) := by
 refine fnG Tryz.func9 (by kernel_rfl) rfl (Nat.le_of_ble_eq_true (by kernel_rfl)) (by kernel_rfl) ?_
 refine EvIf.dec (fun h => ?_) (fun h => ?_)
 ·rw [decide_eq_false (p := l.length ≤ 250) (by simp at h; omega)]; exact rfl
 have h250 : l.length ≤ 250 := by simp at h; omega
 rw [decide_eq_true (p := l.length ≤ 250) h250]
 refine sx_loop [8, 9] [] (fun i : Nat => [(10, .v (.int .i64 i))]) (fun _ => []) (fun i => i ≤ l.length ∧ ∀ x ∈ l.take i, fewFO x = true) (fun i => l.length - i) 0 ⟨by omega, by simp⟩ ⟨⟨rfl, rfl⟩, trivial⟩ trivial rfl fun i ⟨hi, hno⟩ => ?_
 refine EvIf.dec (fun h => ?_) (fun h => ?_)
 ·refine EvIdx.of (by simpa using h) fun x hx => ?_
  have hlt := lt_of_at hx
  have hL : ((x.b.map gBy).length : Int) = x.b.length := by rw [List.length_map]
  have bad : (2000 < x.b.length ∨ (5000 < x.pos ∧ x.pos < 1048576) ∨ (5000 < x.n ∧ x.n ≤ 1048576)) → l.all fewFO = false := fun h => by
   cases ha : l.all fewFO with
   | false => rfl
   | true =>
    have := List.all_eq_true.1 ha x (List.mem_of_getElem? hx)
    unfold fewFO at this
    rw [decide_eq_true h] at this
    cases this
  have good : ¬ (2000 < x.b.length ∨ (5000 < x.pos ∧ x.pos < 1048576) ∨ (5000 < x.n ∧ x.n ≤ 1048576)) → ∀ y ∈ l.take (i + 1), fewFO y = true := fun h y hy => by
   rw [take_more hx] at hy
   rcases List.mem_append.1 hy with hy | hy
   ·exact hno y hy
   ·rw [List.mem_singleton.1 hy]; unfold fewFO; rw [decide_eq_false h]; rfl
  refine EvIf.dec (fun h1 => ?_) (fun h1 => EvIf.dec (fun h2 => EvIf.dec (fun h3 => ?_) (fun h3 => ?_)) (fun h2 => ?_))
  ·rw [bad (.inl (by omega))]; exact rfl
  ·rw [bad (.inr (.inl ⟨by omega, by omega⟩))]; exact rfl
  all_goals
   refine EvIf.dec (fun h4 => EvIf.dec (fun h5 => ?_) (fun h5 => ?_)) (fun h4 => ?_)
   ·rw [bad (.inr (.inr ⟨by omega, by omega⟩))]; exact rfl
   ·refine ⟨by omega, i + 1, ⟨by omega, good (by omega)⟩, (by dsimp only; omega), ?_⟩
    refine ⟨?_, ?_, rfl⟩ <;> repeat' (first | exact True.intro | with_reducible rfl | exact rfl | refine And.intro ?_ ?_)
   ·refine ⟨by omega, i + 1, ⟨by omega, good (by omega)⟩, (by dsimp only; omega), ?_⟩
    refine ⟨?_, ?_, rfl⟩ <;> repeat' (first | exact True.intro | with_reducible rfl | exact rfl | refine And.intro ?_ ?_)
 ·have : l.all fewFO = true := List.all_eq_true.2 (take_all (by simpa using h) hno)
  rw [this]; exact rfl
theorem own_q (i g : Int) : FnV Tryz.prog 14 [.agg [.v (.int .i64 i), .v (.int .i64 g)]] fun q => q = .agg [.v (.int .i64 i), .v (.int .i64 g)] := by
 refine fnG Tryz.func14 (by kernel_rfl) rfl (Nat.le_of_ble_eq_true (by kernel_rfl)) (by kernel_rfl) ?_
 exact rfl
end Go.Proofs.YtpcjmefchclhhaaGreat
namespace Go.Proofs.YtpcjmefchclhhaaGreat
open Go.RowKit
set_option maxRecDepth 100000
def gSt (s : ByteArray) : List G := [.v (.string s)]
def gtS (x s : ByteArray) : Bool := !(Op.bytesLess x.toList s.toList || x.toList == s.toList)
def insT (s : ByteArray) (p : List ByteArray × Bool) (x : ByteArray) : List ByteArray × Bool := (p.1 ++ (if p.2 = false ∧ gtS x s = true then [s] else []) ++ [x], p.2 || gtS x s)
def insS (s : ByteArray) (out : List ByteArray) : List ByteArray := if (out.foldl (insT s) ([], false)).2 = true then (out.foldl (insT s) ([], false)).1 else (out.foldl (insT s) ([], false)).1 ++ [s]
def listT (d : Int) (out : List ByteArray) (n : RNm) : List ByteArray := if n.dir = d then insS n.name out else out
def listP (r : RFs) (h : Int × Int) : List ByteArray := if folderE r h = 0 then r.nms.foldl (listT h.1) [] else []
theorem foldl_take {α β : Type} (f : β → α → β) (b : β) {l : List α} {i : Nat} {x : α} (h : l[i]? = some x) : (l.take (i + 1)).foldl f b = f ((l.take i).foldl f b) x := by
 rw [take_more h, List.foldl_append]; rfl
theorem insT_len1 (s : ByteArray) (out : List ByteArray) (i : Nat) (hi : i ≤ out.length) : ((out.take i).foldl (insT s) ([], false)).1.length + (if ((out.take i).foldl (insT s) ([], false)).2 = true then 0 else 1) = i + 1 := by
 induction i with
 | zero => simp
 | succ i ih =>
  rw [foldl_take _ _ (List.getElem?_eq_getElem (by omega))]
  have := ih (by omega)
  revert this
  generalize (out.take i).foldl (insT s) ([], false) = p
  obtain ⟨l, d⟩ := p
  intro this
  unfold insT
  dsimp only at this ⊢
  simp only [List.length_append, List.length_singleton]
  cases d <;> cases hg : gtS out[i] s <;> simp at this ⊢ <;> omega
theorem list_q (r : RFs) (hF : Few r) (i g : Int) : FnV Tryz.prog 34 [enF r, .agg [.v (.int .i64 i), .v (.int .i64 g)]] fun q => q = .tup [.sl ((listP r (i, g)).map gSt), .v (.int .i64 (folderE r (i, g)))] := by
 refine fnG Tryz.func34 (by kernel_rfl) rfl (Nat.le_of_ble_eq_true (by kernel_rfl)) (by kernel_rfl) ?_
 have hl := hF.n
 refine (folder_q r hF i g).cal fun q hq => ?_
 subst hq
 refine sx_loop [2, 3, 6, 7] [0, 1, 3] (fun p : Nat × List ByteArray => [(9, .v (.int .i64 p.1)), (8, .osl 4)]) (fun p => [(4, .slc (p.2.map gSt) 9 1)]) (fun p => p.1 ≤ r.nms.length ∧ (r.nms.take p.1).foldl (listT i) [] = p.2 ∧ p.2.length ≤ p.1 ∧ (0 < p.1 → folderE r (i, g) = 0)) (fun p => r.nms.length - p.1) (0, []) ⟨by simp, rfl, by simp, fun h => by simp at h⟩ ⟨⟨rfl, rfl⟩, ⟨rfl, rfl⟩, trivial⟩ ⟨⟨rfl, rfl, rfl⟩, trivial⟩ rfl fun p ⟨hi, hp, hpl, hpf⟩ => ?_
 obtain ⟨k, out⟩ := p
 dsimp only at hi hp hpl hpf
 refine EvIf.dec (fun h => EvIf.beq (fun (h1 : folderE r (i, g) = 0) => ?_) (fun (h1 : ¬ folderE r (i, g) = 0) => ?_)) (fun h => ?_)
 ·refine EvIdx.of (by simpa using h) fun x hx => ?_
  have hid := folder_id h1
  have hlt := lt_of_at hx
  have hst := foldl_take (listT i) [] hx
  rw [hp] at hst
  rw [if_pos h1]
  refine EvIf.bne (fun (h2 : x.dir ≠ (byIdP r.ins i).id) => ?_) (fun (h2 : x.dir = (byIdP r.ins i).id) => EvIdx.at hx ?_)
  ·refine ⟨by omega, (k + 1, out), ⟨by dsimp only; omega, hst.trans (if_neg (by omega)), by dsimp only; omega, fun _ => h1⟩, (by dsimp only; omega), ?_⟩
   refine ⟨?_, ?_, rfl⟩ <;> repeat' (first | exact True.intro | with_reducible rfl | exact rfl | refine And.intro ?_ ?_)
  ·have hst2 : (r.nms.take (k + 1)).foldl (listT i) [] = insS x.name out := hst.trans (if_pos (by omega))
   refine sx_loop [2, 3, 6, 7, 8, 9, 10] [0, 1, 3, 4] (fun p : Nat × List ByteArray × Bool => [(13, .v (.int .i64 p.1)), (12, gB p.2.2), (11, .osl 5)]) (fun p => [(5, .slc (p.2.1.map gSt) 9 1)]) (fun p => p.1 ≤ out.length ∧ (out.take p.1).foldl (insT x.name) ([], false) = p.2) (fun p => out.length - p.1) (0, [], false) ⟨by simp, rfl⟩ ⟨⟨rfl, rfl⟩, ⟨rfl, rfl⟩, ⟨rfl, rfl⟩, trivial⟩ ⟨⟨rfl, rfl, rfl⟩, trivial⟩ rfl fun p ⟨hj, hq⟩ => ?_
   obtain ⟨j, nx, d⟩ := p
   dsimp only at hj hq
   have hle := insT_len1 x.name out j hj
   rw [hq] at hle
   dsimp only at hle
   have hle2 : nx.length ≤ j + 1 := by split at hle <;> omega
   refine EvIf.dec (fun h3 => ?_) (fun h3 => ?_)
   ·obtain ⟨y, hy⟩ : ∃ y, out[j]? = some y := ⟨_, List.getElem?_eq_getElem (by simpa using h3)⟩
    have hy2 := foldl_take (insT x.name) ([], false) hy
    rw [hq] at hy2
    have hjt := lt_of_at hy
    have rg : 0 ≤ (j : Int) ∧ (j : Int) < (out.map gSt).length := ⟨by omega, by simp; omega⟩
    cases d with
    | false =>
     refine ⟨rg, EvIdx.at hy ?_⟩
     refine ⟨fun h4 => ?_, fun h4 => ?_⟩
     ·have h4 : gtS y x.name = true := h4
      refine ⟨by simp; omega, ⟨rg, EvIdx.at hy ?_⟩⟩
      refine ⟨by simp; omega, ⟨by omega, (j + 1, nx ++ [x.name] ++ [y], true), ⟨by dsimp only; omega, hy2.trans ?_⟩, (by dsimp only; omega), ?_⟩⟩
      ·unfold insT; rw [if_pos ⟨rfl, h4⟩, h4]; rfl
      ·refine ⟨?_, ?_, rfl⟩ <;> repeat' (first | exact True.intro | with_reducible rfl | exact rfl | refine And.intro ?_ ?_)
       exact eqR (by simp [gSt])
     ·have h4 : gtS y x.name = false := h4
      refine ⟨rg, EvIdx.at hy ?_⟩
      refine ⟨by simp; omega, ⟨by omega, (j + 1, nx ++ [y], false), ⟨by dsimp only; omega, hy2.trans ?_⟩, (by dsimp only; omega), ?_⟩⟩
      ·unfold insT; rw [if_neg (by simp [h4]), h4]; simp
      ·refine ⟨?_, ?_, rfl⟩ <;> repeat' (first | exact True.intro | with_reducible rfl | exact rfl | refine And.intro ?_ ?_)
       exact eqR (by simp [gSt])
    | true =>
     refine ⟨rg, EvIdx.at hy ?_⟩
     refine ⟨by simp; omega, ⟨by omega, (j + 1, nx ++ [y], true), ⟨by dsimp only; omega, hy2.trans ?_⟩, (by dsimp only; omega), ?_⟩⟩
     ·unfold insT; rw [if_neg (by simp)]; simp
     ·refine ⟨?_, ?_, rfl⟩ <;> repeat' (first | exact True.intro | with_reducible rfl | exact rfl | refine And.intro ?_ ?_)
      exact eqR (by simp [gSt])
   ·have hjl : j = out.length := by simp at h3; omega
    rw [List.take_of_length_le (by omega)] at hq
    have hi1 : insS x.name out = if d = true then nx else nx ++ [x.name] := by unfold insS; rw [hq]
    cases d with
    | false =>
     refine ⟨by simp; omega, ⟨by omega, (k + 1, nx ++ [x.name]), ⟨by dsimp only; omega, hst2.trans hi1, ?_, fun _ => h1⟩, (by dsimp only; omega), ?_⟩⟩
     ·simp at hle ⊢; omega
     ·refine ⟨?_, ?_, rfl⟩ <;> repeat' (first | exact True.intro | with_reducible rfl | exact rfl | refine And.intro ?_ ?_)
      exact eqR (by simp [gSt])
    | true =>
     refine ⟨by omega, (k + 1, nx), ⟨by dsimp only; omega, hst2.trans hi1, ?_, fun _ => h1⟩, (by dsimp only; omega), ?_⟩
     ·simp at hle ⊢; omega
     ·refine ⟨?_, ?_, rfl⟩ <;> repeat' (first | exact True.intro | with_reducible rfl | exact rfl | refine And.intro ?_ ?_)
 ·have : k = 0 := by
   rcases Nat.eq_zero_or_pos k with h2 | h2
   ·exact h2
   ·exact absurd (hpf h2) h1
  subst this
  have : out = [] := List.eq_nil_of_length_eq_zero (by omega)
  subst this
  have e : listP r (i, g) = [] := if_neg h1
  rw [e]; exact rfl
 ·have hk : k = r.nms.length := by simp at h; omega
  rw [List.take_of_length_le (by omega)] at hp
  have e : listP r (i, g) = out := by
   unfold listP
   split
   ·exact hp
   ·rename_i h1
    rcases Nat.eq_zero_or_pos k with h2 | h2
    ·have : out = [] := List.eq_nil_of_length_eq_zero (by omega)
     exact this.symm
    ·exact absurd (hpf h2) h1
  rw [e]; exact rfl
end Go.Proofs.YtpcjmefchclhhaaGreat
namespace Go.Proofs.YtpcjmefchclhhaaGreat
open Go.RowKit
def finI (s : ByteArray) (p : List ByteArray × Bool) : List ByteArray := if p.2 = true then p.1 else p.1 ++ [s]
def insO (s : ByteArray) : List ByteArray → List ByteArray
 | [] => [s]
 | x :: l => if gtS x s = true then s :: x :: l else x :: insO s l
theorem insT_done (s : ByteArray) : ∀ (l acc : List ByteArray), l.foldl (insT s) (acc, true) = (acc ++ l, true)
 | [], acc => by simp
 | x :: l, acc => by
  rw [List.foldl_cons]
  show l.foldl (insT s) (acc ++ (if true = false ∧ gtS x s = true then [s] else []) ++ [x], true || gtS x s) = _
  rw [if_neg (by simp), Bool.true_or, insT_done s l]
  simp
theorem insT_ins (s : ByteArray) : ∀ (l acc : List ByteArray), finI s (l.foldl (insT s) (acc, false)) = acc ++ insO s l
 | [], acc => by simp [finI, insO]
 | x :: l, acc => by
  rw [List.foldl_cons]
  cases h : gtS x s with
  | true =>
   show finI s (l.foldl (insT s) (acc ++ (if false = false ∧ gtS x s = true then [s] else []) ++ [x], false || gtS x s)) = _
   rw [if_pos ⟨rfl, h⟩, h, Bool.or_true, insT_done, insO, if_pos h]
   simp [finI]
  | false =>
   show finI s (l.foldl (insT s) (acc ++ (if false = false ∧ gtS x s = true then [s] else []) ++ [x], false || gtS x s)) = _
   rw [if_neg (by simp [h]), h, Bool.or_false, insT_ins s l, insO, if_neg (by simp [h])]
   simp
theorem insS_eq (s : ByteArray) (l : List ByteArray) : insS s l = insO s l := by
 have := insT_ins s l []
 simpa [finI, insS] using this
theorem insO_perm (s : ByteArray) : ∀ l, (insO s l).Perm (s :: l)
 | [] => .refl _
 | x :: l => by
  unfold insO
  split
  ·exact .refl _
  ·exact ((insO_perm s l).cons x).trans (.swap _ _ _)
theorem gtS_yes {x s : ByteArray} (h : gtS x s = true) : s.toList ≤ x.toList := by
 unfold gtS at h
 rw [Go.Proofs.bytesLess_eq] at h
 simp at h
 exact List.not_lt.1 h.1
theorem gtS_no {x s : ByteArray} (h : gtS x s = false) : x.toList ≤ s.toList := by
 unfold gtS at h
 rw [Go.Proofs.bytesLess_eq] at h
 simp at h
 rcases Classical.em (x.toList < s.toList) with h2 | h2
 ·exact List.le_of_lt h2
 ·rw [h (List.not_lt.1 h2)]; exact List.le_refl _
theorem insO_sorted (s : ByteArray) : ∀ {l : List ByteArray}, l.Pairwise (fun a b => a.toList ≤ b.toList) → (insO s l).Pairwise (fun a b => a.toList ≤ b.toList)
 | [], _ => by simp [insO]
 | x :: l, h => by
  obtain ⟨h1, h2⟩ := List.pairwise_cons.1 h
  unfold insO
  cases hg : gtS x s with
  | true =>
   rw [if_pos rfl]
   refine List.pairwise_cons.2 ⟨fun y hy => ?_, h⟩
   rcases List.mem_cons.1 hy with rfl | hy
   ·exact gtS_yes hg
   ·exact List.le_trans (gtS_yes hg) (h1 y hy)
  | false =>
   rw [if_neg (by simp)]
   refine List.pairwise_cons.2 ⟨fun y hy => ?_, insO_sorted s h2⟩
   rcases List.mem_cons.1 ((insO_perm s l).mem_iff.1 hy) with rfl | hy
   ·exact gtS_no hg
   ·exact h1 y hy
theorem listT_ok (d : Int) : ∀ (l : List RNm) (out : List ByteArray), out.Pairwise (fun a b => a.toList ≤ b.toList) → (l.foldl (listT d) out).Pairwise (fun a b => a.toList ≤ b.toList) ∧ (l.foldl (listT d) out).Perm (((l.filter fun n => decide (n.dir = d)).map fun n => n.name) ++ out)
 | [], out, h => ⟨h, by simp⟩
 | n :: l, out, h => by
  rw [List.foldl_cons]
  by_cases hd : n.dir = d
  ·have e : listT d out n = insO n.name out := by unfold listT; rw [if_pos hd, insS_eq]
   rw [e]
   obtain ⟨h1, h2⟩ := listT_ok d l _ (insO_sorted n.name h)
   refine ⟨h1, h2.trans ?_⟩
   rw [List.filter_cons, if_pos (by simp [hd])]
   exact ((insO_perm n.name out).append_left _).trans List.perm_middle
  ·have e : listT d out n = out := if_neg hd
   rw [e, List.filter_cons, if_neg (by simp [hd])]
   exact listT_ok d l out h
theorem listP_sorted (r : RFs) (h : Int × Int) (hf : folderE r h = 0) : (listP r h).map (fun c => c.data.toList) = sortedN (namesP r.nms h.1) := by
 have e : listP r h = r.nms.foldl (listT h.1) [] := if_pos hf
 obtain ⟨h1, h2⟩ := listT_ok h.1 r.nms [] .nil
 rw [e]
 rw [List.append_nil] at h2
 refine List.Perm.eq_of_pairwise (le := fun a b : List UInt8 => a ≤ b) (fun a b _ _ h1 h2 => List.le_antisymm h1 h2) ?_ ?_ (?_ : List.Perm _ _)
 ·refine List.pairwise_map.2 (h1.imp fun h => ?_)
  rw [toList_data, toList_data] at h
  exact h
 ·exact (List.pairwise_mergeSort leB_trans leB_total _).imp (fun h => by simpa using h)
 ·refine (h2.map _).trans (List.Perm.trans ?_ (sortedN_perm _).symm)
  unfold namesP
  rw [List.map_map, List.map_map]
  exact .refl _
end Go.Proofs.YtpcjmefchclhhaaGreat

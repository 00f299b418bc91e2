/- A part of the proof, merged from several texts. -/
import Derived.Test.YtalfffamppmooaaGreatDoorZKeys
import Derived.Lib.SplitLaws
import Derived.Laws.RangeAny
import Derived.Test.YtalfffamppmooaaGreatDoorZMap
import Derived.Sort.Walk0
import Derived.Test.YtalfffamppmooaaGreatDoorSxMc
namespace Go.Proofs.YtalfffamppmooaaGreatDoor
open Go.RowKit
def rootS : ByteArray := ⟨#[47]⟩
def dot1 : ByteArray := ⟨#[46]⟩
def dot2 : ByteArray := ⟨#[46, 46]⟩
def noS : ByteArray := ⟨#[]⟩
def letN (n : Int) : Bool := decide (97 ≤ n ∧ n ≤ 122 ∨ 65 ≤ n ∧ n ≤ 90 ∨ 48 ≤ n ∧ n ≤ 57 ∨ n = 46 ∨ n = 45 ∨ n = 95)
def letB (c : UInt8) : Bool := letN c.toNat
def nameZ (s : ByteArray) : Bool := s.data.toList.all letB && decide (1 ≤ s.size ∧ s.size ≤ 60 ∧ s ≠ dot1 ∧ s ≠ dot2)
def spl (p : List ByteArray × List UInt8) (c : UInt8) : List ByteArray × List UInt8 := if c = 47 then (p.1 ++ [⟨p.2.toArray⟩], []) else (p.1, p.2 ++ [c])
def splF (l : List UInt8) : List ByteArray × List UInt8 := l.foldl spl ([], [])
def splitZ (l : List UInt8) : List ByteArray := (splF l).1 ++ [⟨(splF l).2.toArray⟩]
def namesR (s : ByteArray) : List ByteArray := match s.data.toList with
 | 47 :: r => if (splitZ r).all nameZ = true then splitZ r else []
 | _ => []
def namesZ (s : ByteArray) : Option (List ByteArray) := if s = rootS then some [] else if namesR s ≠ [] ∧ (namesR s).length ≤ 8 then some (namesR s) else none
def validZ (s : ByteArray) : Bool := (namesZ s).isSome
def nmZ (s : ByteArray) : List ByteArray := (namesZ s).getD []
def baseZ (s : ByteArray) : ByteArray := ((nmZ s).getLast?).getD noS
def joinZ (l : List ByteArray) : ByteArray := l.foldl (fun a x => a ++ rootS ++ x) noS
def pathZ (l : List ByteArray) : ByteArray := if l = [] then rootS else joinZ l
def parentZ (s : ByteArray) : ByteArray × Bool := if nmZ s = [] then (noS, false) else (pathZ (nmZ s).dropLast, true)
def digZ (n : Int) (i : Nat) : UInt8 := UInt8.ofNat (48 + (n.toNat / 10 ^ (9 - i)) % 10)
def tenZ (n : Int) : ByteArray := ⟨#[digZ n 0, digZ n 1, digZ n 2, digZ n 3, digZ n 4, digZ n 5, digZ n 6, digZ n 7, digZ n 8, digZ n 9]⟩
def numZ (s : ByteArray) (n : Int) : ByteArray × Bool := if s ≠ rootS ∧ validZ s = true ∧ 0 ≤ n ∧ n ≤ 9999999999 ∧ validZ (s ++ tenZ n) = true then (s ++ tenZ n, true) else (noS, false)
theorem splF_more (l : List UInt8) (c : UInt8) : splF (l ++ [c]) = spl (splF l) c := by unfold splF; rw [List.foldl_append]; rfl
theorem splitZ_ne (l : List UInt8) : splitZ l ≠ [] := by unfold splitZ; simp
theorem namesZ_some {s : ByteArray} {l : List ByteArray} (h : namesZ s = some l) : (s = rootS ∧ l = []) ∨ (s ≠ rootS ∧ l = namesR s ∧ l ≠ [] ∧ l.length ≤ 8) := by
 unfold namesZ at h
 split at h
 ·next e => cases h; exact .inl ⟨e, rfl⟩
 ·next e =>
  split at h
  ·next e2 => cases h; exact .inr ⟨e, rfl, e2.1, e2.2⟩
  ·cases h
theorem dec_let (s : ByteArray) (pos : Nat) (h : pos < s.size) : letN ((Utf8.decode s pos).1 : Nat) = letB (s[pos]'h) ∧ (letB (s[pos]'h) = true → (Utf8.decode s pos).2 = 1) := by
 by_cases ha : (s[pos]'h).toNat < 128
 ·rw [decode_ascii s pos h ha]
  exact ⟨rfl, fun _ => rfl⟩
 ·obtain ⟨h1, -⟩ := decode_high s pos h (by omega)
  have e1 : letN ((Utf8.decode s pos).1 : Nat) = false := by
   unfold letN
   refine decide_eq_false ?_
   omega
  have e2 : letB (s[pos]'h) = false := by
   unfold letB letN
   refine decide_eq_false ?_
   omega
  rw [e1, e2]
  exact ⟨rfl, fun h => by cases h⟩
theorem foldl_spl (l : List UInt8) : ∀ p : List ByteArray × List UInt8, (∀ c ∈ l, c ≠ 47) → l.foldl spl p = (p.1, p.2 ++ l) := by
 induction l with
 | nil => intro p _; simp
 | cons c l ih =>
  intro p h
  rw [List.foldl_cons, ih _ fun d hd => h d (by simp [hd])]
  unfold spl
  rw [if_neg (h c (by simp))]
  simp
theorem ba_data (l : List UInt8) : (⟨l.toArray⟩ : ByteArray).data.toList = l := by simp
theorem ba_eta (b : ByteArray) : (⟨b.data.toList.toArray⟩ : ByteArray) = b := by cases b; simp
theorem data_inj {a b : ByteArray} (h : a.data.toList = b.data.toList) : a = b := by
 cases a; cases b
 congr
 simpa using congrArg List.toArray h
theorem spl_hit (a : List ByteArray) (cur : List UInt8) : spl (a, cur) 47 = (a ++ [⟨cur.toArray⟩], []) := rfl
theorem spl_miss (a : List ByteArray) (cur : List UInt8) {c : UInt8} (h : c ≠ 47) : spl (a, cur) c = (a, cur ++ [c]) := if_neg h
theorem splF_acc (l : List UInt8) : ∀ (a : List ByteArray) (cur : List UInt8), l.foldl spl (a, cur) = (a ++ (l.foldl spl ([], cur)).1, (l.foldl spl ([], cur)).2) := by
 induction l with
 | nil => intro a cur; simp
 | cons c l ih =>
  intro a cur
  rw [List.foldl_cons, List.foldl_cons]
  by_cases hc : c = 47
  ·subst hc
   rw [spl_hit, spl_hit, ih, ih (([] : List ByteArray) ++ _)]
   simp
  ·rw [spl_miss _ _ hc, spl_miss _ _ hc, ih]
theorem splitZ_hit {a b : List UInt8} (h : ∀ c ∈ a, c ≠ 47) : splitZ (a ++ 47 :: b) = ⟨a.toArray⟩ :: splitZ b := by
 unfold splitZ splF
 rw [List.foldl_append, foldl_spl a _ h, List.foldl_cons]
 have e : spl (([] : List ByteArray), ([] : List UInt8) ++ a) 47 = ([⟨a.toArray⟩], []) := by unfold spl; simp
 show (b.foldl spl (spl (([] : List ByteArray), ([] : List UInt8) ++ a) 47)).1 ++ [_] = _
 rw [e, splF_acc b [_] []]
 simp
theorem splitZ_miss {a : List UInt8} (h : ∀ c ∈ a, c ≠ 47) : splitZ a = [⟨a.toArray⟩] := by
 unfold splitZ splF
 rw [foldl_spl a _ h]
 simp
theorem indexByte_app {c : UInt8} : ∀ {a b : List UInt8}, (∀ d ∈ a, d ≠ c) → Lib.indexByte (a ++ c :: b) c = a.length
 | [], b, _ => by simp [Lib.indexByte]
 | d :: a, b, h => by
  have ih := indexByte_app (c := c) (a := a) (b := b) fun e he => h e (by simp [he])
  rw [List.cons_append, Lib.indexByte, if_neg (by simpa using h d (by simp)), ih, if_neg (by simp)]
  simp
theorem splitB_eq : ∀ (k : Nat) (s : ByteArray), Lib.countB s rootS = k → Lib.splitB rootS 0 k s = splitZ s.data.toList := by
 intro k
 induction k with
 | zero =>
  intro s h
  rw [Lib.splitB_zero]
  have h : Lib.count s.data.toList [47] = 0 := h
  rw [Lib.count_one] at h
  rw [splitZ_miss fun c hc e => by subst e; exact absurd hc (List.count_eq_zero.1 h), ba_eta]
 | succ k ih =>
  intro s h
  have h : Lib.count s.data.toList [47] = k + 1 := h
  rw [Lib.count_one] at h
  have hm : (47 : UInt8) ∈ s.data.toList := List.count_pos_iff.1 (by omega)
  obtain ⟨a, b, e, ha⟩ := List.eq_append_cons_of_mem hm
  have ha : ∀ c ∈ a, c ≠ 47 := fun c hc e => ha (e ▸ hc)
  have hi : Lib.indexB s rootS = a.length := by
   show Lib.index s.data.toList [47] = _
   rw [Lib.index_one, e, indexByte_app ha]
  have e1 : s.extract 0 (a.length + 0) = ⟨a.toArray⟩ := data_inj (by rw [Lib.extract_from_zero, e]; simp)
  have e2 : (s.extract (a.length + rootS.size) s.size).data.toList = b := by
   rw [Lib.extract_to_end, e]
   show (a ++ 47 :: b).drop (a.length + 1) = b
   rw [List.drop_append]
   simp
  rw [Lib.splitB_hit rootS 0 k s a.length hi, e1, ih _ (by
   show Lib.count (s.extract (a.length + rootS.size) s.size).data.toList [47] = k
   rw [e2, Lib.count_one]
   rw [e, List.count_append, List.count_cons_self, List.count_eq_zero.2 (fun hm => ha _ hm rfl)] at h
   omega), e2, e, splitZ_hit ha]
theorem nm_root : nmZ rootS = [] := by unfold nmZ namesZ; rw [if_pos rfl]; rfl
theorem valid_root : validZ rootS = true := by unfold validZ namesZ; rw [if_pos rfl]; rfl
theorem ba_app (a b : ByteArray) : (a ++ b).data.toList = a.data.toList ++ b.data.toList := by simp
theorem join_more (l : List ByteArray) (x : ByteArray) : joinZ (l ++ [x]) = joinZ l ++ rootS ++ x := by unfold joinZ; rw [List.foldl_append]; rfl
theorem join_splF (r : List UInt8) : (joinZ (splF r).1).data.toList ++ 47 :: (splF r).2 = 47 :: r := by
 induction h : r.length generalizing r with
 | zero => rw [List.eq_nil_of_length_eq_zero h]; rfl
 | succ n ih =>
  have hne : r ≠ [] := fun e => by rw [e] at h; cases h
  have e := (List.dropLast_concat_getLast hne).symm
  have hih := ih r.dropLast (by simp [h])
  rw [e, splF_more]
  revert hih
  generalize splF r.dropLast = p
  intro hih
  unfold spl
  split
  ·next hc =>
   rw [join_more, ba_app, ba_app, ba_data]
   show (joinZ p.1).data.toList ++ [47] ++ p.2 ++ [47] = _
   rw [List.append_assoc (joinZ p.1).data.toList, List.singleton_append, hih, hc]; rfl
  ·show (joinZ p.1).data.toList ++ 47 :: (p.2 ++ [_]) = _
   rw [← List.cons_append, ← List.append_assoc, hih]; rfl
theorem join_splitZ (r : List UInt8) : joinZ (splitZ r) = ⟨(47 :: r).toArray⟩ := by
 refine data_inj ?_
 unfold splitZ
 rw [join_more, ba_app, ba_app, ba_data]
 show (joinZ (splF r).1).data.toList ++ [47] ++ (splF r).2 = _
 rw [List.append_assoc, List.singleton_append, join_splF]
end Go.Proofs.YtalfffamppmooaaGreatDoor
namespace Go.Proofs.YtalfffamppmooaaGreatDoor
open Go.RowKit
def ltS (a b : ByteArray) : Bool := Op.bytesLess a.toList b.toList
theorem ltS_iff (a b : ByteArray) : ltS a b = true ↔ a.data.toList < b.data.toList := by
 unfold ltS
 rw [Go.Proofs.bytesLess_eq, Lib.toList_data, Lib.toList_data]
 simp
theorem ltS_irrefl (a : ByteArray) : ltS a a = false := by
 cases h : ltS a a with
 | false => rfl
 | true => exact absurd ((ltS_iff a a).1 h) (List.lt_irrefl _)
theorem ltS_trans {a b c : ByteArray} (h1 : ltS a b = true) (h2 : ltS b c = true) : ltS a c = true :=
 (ltS_iff a c).2 (List.lt_trans ((ltS_iff a b).1 h1) ((ltS_iff b c).1 h2))
theorem ltS_total {a b : ByteArray} (h1 : ltS a b = false) (h2 : a ≠ b) : ltS b a = true := by
 refine (ltS_iff b a).2 ?_
 have h1 : ¬ a.data.toList < b.data.toList := fun h => by rw [(ltS_iff a b).2 h] at h1; cases h1
 rcases Classical.em (b.data.toList < a.data.toList) with h | h
 ·exact h
 ·exact absurd (data_inj (List.le_antisymm (List.not_lt.1 h) (List.not_lt.1 h1))) h2
theorem ltS_ne {a b : ByteArray} (h : ltS a b = true) : a ≠ b := fun e => by rw [e, ltS_irrefl] at h; cases h
theorem ltS_asymm {a b : ByteArray} (h : ltS a b = true) : ltS b a = false := by
 cases h2 : ltS b a with
 | false => rfl
 | true => exact absurd (ltS_trans h h2) (by rw [ltS_irrefl]; simp)
structure RZ where
 path : ByteArray
 data : ByteArray
 cr : Int
 ch : Int
 ci : Int
 ve : Int
 ki : Int
 ow : Int
 nx : Int
structure RC where
 kind : Int
 path : ByteArray
 data : ByteArray
 ve : Int
 ep : Bool
 sq : Bool
structure RE where
 se : Int
 ki : Int
 path : ByteArray
structure RStep where
 t : List RZ
 path : ByteArray
 ev : List RE
 e : Int
def rz0 : RZ := ⟨noS, noS, 0, 0, 0, 0, 0, 0, 0⟩
def zRoot : RZ := { rz0 with path := rootS }
def getZ (T : List RZ) (p : ByteArray) : Option RZ := T.find? fun z => decide (z.path = p)
def putZ : List RZ → RZ → List RZ
 | [], z => [z]
 | x :: l, z => if ltS x.path z.path = true then x :: putZ l z else z :: (x :: l).filter fun y => decide (y.path ≠ z.path)
def delZ (T : List RZ) (p : ByteArray) : List RZ := T.filter fun z => decide (z.path ≠ p)
def isKid (p : ByteArray) (z : RZ) : Bool := (parentZ z.path).2 && decide ((parentZ z.path).1 = p)
def kidsZ (T : List RZ) (p : ByteArray) : List ByteArray := if (getZ T p).isSome = true then (T.filter (isKid p)).map fun z => baseZ z.path else []
def isOwn (s : Int) (z : RZ) : Bool := decide (s ≠ 0 ∧ z.ow = s)
def ownedZ (T : List RZ) (s : Int) : List ByteArray := (T.filter (isOwn s)).map RZ.path
def big : Int := 4611686018427387904
def inZ (n : Int) : Bool := decide (0 ≤ n ∧ n ≤ big)
def upZ (n : Int) : Int := if n = big then n else n + 1
def kidZ (s : RStep) (zx : Int) (made : Bool) : RStep :=
 let p := (parentZ s.path).1
 let z := (getZ s.t p).getD rz0
 { s with t := putZ s.t { z with ci := zx, ki := upZ z.ki, nx := if made = true then upZ z.nx else z.nx }, ev := s.ev ++ [⟨0, 4, p⟩] }
def failZ (e : Int) : RStep := ⟨[], noS, [], e⟩
def newZ (path data : ByteArray) (zx ow : Int) : RZ := ⟨path, data, zx, zx, zx, 0, 0, ow, 0⟩
def nameC (T : List RZ) (c : RC) : ByteArray × Bool := if c.sq = true then numZ c.path ((getZ T (parentZ c.path).1).getD rz0).nx else (c.path, true)
def createE (T : List RZ) (c : RC) : Int :=
 if c.data.size > 1024 then 87 else if c.path = rootS then 81 else match getZ T (parentZ c.path).1 with
 | none => 83
 | some p => if p.ow ≠ 0 then 85 else if (nameC T c).2 = false then 70 else if (getZ T (nameC T c).1).isSome = true then 81 else if T.length ≥ 200 then 86 else 0
def createZ (T : List RZ) (zx se : Int) (c : RC) : RStep :=
 if createE T c = 0 then kidZ ⟨putZ T (newZ (nameC T c).1 c.data zx (if c.ep = true then se else 0)), (nameC T c).1, [⟨0, 1, (nameC T c).1⟩], 0⟩ zx true else failZ (createE T c)
def removeZ (T : List RZ) (zx : Int) (p : ByteArray) : RStep := kidZ ⟨delZ T p, p, [⟨0, 2, p⟩], 0⟩ zx false
def foundE (T : List RZ) (c : RC) : Int := match getZ T c.path with
 | none => 80
 | some z => if c.kind = 2 ∧ c.path = rootS then 1 else if c.ve ≠ -1 ∧ c.ve ≠ z.ve then 82 else 0
def setZ (T : List RZ) (zx : Int) (c : RC) : RZ := let z := (getZ T c.path).getD rz0; { z with data := c.data, ch := zx, ve := upZ z.ve }
def oneZ (T : List RZ) (zx se : Int) (c : RC) : RStep :=
 if c.kind < 1 ∨ c.kind > 4 then failZ 1 else if validZ c.path = false then failZ 70 else if c.kind = 1 then createZ T zx se c
 else if c.kind = 3 ∧ c.data.size > 1024 then failZ 87 else if foundE T c ≠ 0 then failZ (foundE T c)
 else if c.kind = 2 then (if (kidsZ T c.path).length > 0 then failZ 84 else removeZ T zx c.path)
 else if c.kind = 4 then ⟨T, c.path, [], 0⟩ else ⟨putZ T (setZ T zx c), c.path, [⟨0, 3, c.path⟩], 0⟩
structure RAns where
 t : List RZ
 ps : List ByteArray
 ev : List RE
 e : Int
def runZ (zx se : Int) : List RC → RAns → RAns
 | [], a => a
 | c :: l, a => if (oneZ a.t zx se c).e = 0 then runZ zx se l ⟨(oneZ a.t zx se c).t, a.ps ++ [(oneZ a.t zx se c).path], a.ev ++ (oneZ a.t zx se c).ev, 0⟩ else ⟨[], [], [], (oneZ a.t zx se c).e⟩
def doZ (T : List RZ) (zx se : Int) (l : List RC) : RAns :=
 if inZ zx = true ∧ inZ se = true then (if (runZ zx se l ⟨T, [], [], 0⟩).e = 0 then runZ zx se l ⟨T, [], [], 0⟩ else ⟨T, [], [], (runZ zx se l ⟨T, [], [], 0⟩).e⟩) else ⟨T, [], [], 1⟩
def endL (zx : Int) : List ByteArray → List RZ × List RE → List RZ × List RE
 | [], a => a
 | p :: l, a => endL zx l ((removeZ a.1 zx p).t, a.2 ++ (removeZ a.1 zx p).ev)
def endZ (T : List RZ) (zx se : Int) : List RZ × List RE := if inZ zx = true ∧ inZ se = true then endL zx (ownedZ T se) (T, []) else (T, [])
def rightE (pre : List RZ) (last : ByteArray) (z : RZ) : Int :=
 if validZ z.path = false then 70 else if pre ≠ [] ∧ ltS last z.path = false then 81
 else if (parentZ z.path).2 = true ∧ (getZ pre (parentZ z.path).1).isSome = false then 83
 else if ((parentZ z.path).2 = true ∧ ((getZ pre (parentZ z.path).1).getD rz0).ow ≠ 0) ∨ ((parentZ z.path).2 = false ∧ z.ow ≠ 0) then 85
 else if z.data.size > 1024 then 87
 else if inZ z.cr && inZ z.ch && inZ z.ci && inZ z.ve && inZ z.ki && inZ z.ow && inZ z.nx then 0 else 1
def chkL : List RZ → ByteArray → List RZ → Int
 | _, _, [] => 0
 | pre, last, z :: l => if rightE pre last z = 0 then chkL (pre ++ [z]) z.path l else rightE pre last z
def checkZ (l : List RZ) : Int := match l with
 | [] => 80
 | z :: _ => if z.path ≠ rootS then 80 else if l.length > 200 then 86 else chkL [] noS l
/-! ### What is always true of a tree -/
abbrev Srt (T : List RZ) : Prop := T.Pairwise fun a b => ltS a.path b.path = true
structure RgZ (z : RZ) : Prop where
 data : z.data.size ≤ 1024
 cr : 0 ≤ z.cr ∧ z.cr ≤ big
 ch : 0 ≤ z.ch ∧ z.ch ≤ big
 ci : 0 ≤ z.ci ∧ z.ci ≤ big
 ve : 0 ≤ z.ve ∧ z.ve ≤ big
 ki : 0 ≤ z.ki ∧ z.ki ≤ big
 ow : 0 ≤ z.ow ∧ z.ow ≤ big
 nx : 0 ≤ z.nx ∧ z.nx ≤ big
structure Wz (T : List RZ) : Prop where
 srt : Srt T
 len : T.length ≤ 200
 root : ∃ z ∈ T, z.path = rootS ∧ z.ow = 0
 valid : ∀ z ∈ T, validZ z.path = true
 rg : ∀ z ∈ T, RgZ z
 up : ∀ z ∈ T, (parentZ z.path).2 = true → ∃ p ∈ T, p.path = (parentZ z.path).1 ∧ p.ow = 0
theorem mem_put {y z : RZ} : ∀ {T : List RZ}, y ∈ putZ T z ↔ y = z ∨ (y ∈ T ∧ y.path ≠ z.path)
 | [] => by simp [putZ]
 | x :: l => by
  unfold putZ
  split
  ·next h =>
   rw [List.mem_cons, mem_put, List.mem_cons]
   constructor
   ·rintro (rfl | h | ⟨h, h'⟩)
    ·exact .inr ⟨.inl rfl, ltS_ne h⟩
    ·exact .inl h
    ·exact .inr ⟨.inr h, h'⟩
   ·rintro (h | ⟨rfl | h, h'⟩)
    ·exact .inr (.inl h)
    ·exact .inl rfl
    ·exact .inr (.inr ⟨h, h'⟩)
  ·rw [List.mem_cons, List.mem_filter]; simp
theorem mem_del {y : RZ} {T : List RZ} {p : ByteArray} : y ∈ delZ T p ↔ y ∈ T ∧ y.path ≠ p := by unfold delZ; rw [List.mem_filter]; simp
theorem srt_put {z : RZ} : ∀ {T : List RZ}, Srt T → Srt (putZ T z)
 | [], _ => by simp [putZ]
 | x :: l, h => by
  obtain ⟨h1, h2⟩ := List.pairwise_cons.1 h
  unfold putZ
  split
  ·next hx =>
   refine List.pairwise_cons.2 ⟨fun y hy => ?_, srt_put h2⟩
   rcases mem_put.1 hy with rfl | ⟨hy, -⟩
   ·exact hx
   ·exact h1 y hy
  ·next hx =>
   have hx : ltS x.path z.path = false := by simpa using hx
   refine List.pairwise_cons.2 ⟨fun y hy => ?_, h.filter _⟩
   obtain ⟨hy, hne⟩ := List.mem_filter.1 hy
   have hne : y.path ≠ z.path := by simpa using hne
   rcases List.mem_cons.1 hy with rfl | hy
   ·exact ltS_total hx hne
   ·by_cases e : x.path = z.path
    ·rw [← e]; exact h1 y hy
    ·exact ltS_trans (ltS_total hx e) (h1 y hy)
theorem srt_del {T : List RZ} {p : ByteArray} (h : Srt T) : Srt (delZ T p) := h.filter _
theorem srt_inj {T : List RZ} (h : Srt T) {x y : RZ} (hx : x ∈ T) (hy : y ∈ T) (e : x.path = y.path) : x = y := by
 induction T with
 | nil => cases hx
 | cons a T ih =>
  obtain ⟨h1, h2⟩ := List.pairwise_cons.1 h
  rcases List.mem_cons.1 hx with ex | hx' <;> rcases List.mem_cons.1 hy with ey | hy'
  ·rw [ex, ey]
  ·exact absurd e (ltS_ne (by rw [ex]; exact h1 y hy'))
  ·exact absurd e.symm (ltS_ne (by rw [ey]; exact h1 x hx'))
  ·exact ih h2 hx' hy'
theorem get_mem {T : List RZ} {p : ByteArray} {z : RZ} (h : getZ T p = some z) : z ∈ T ∧ z.path = p := ⟨List.mem_of_find?_eq_some h, by simpa using List.find?_some h⟩
theorem get_iff {T : List RZ} (h : Srt T) {p : ByteArray} {z : RZ} : getZ T p = some z ↔ z ∈ T ∧ z.path = p := by
 refine ⟨get_mem, fun ⟨h1, h2⟩ => ?_⟩
 cases hg : getZ T p with
 | none =>
  have := List.find?_eq_none.1 hg z h1
  simp [h2] at this
 | some y =>
  obtain ⟨h3, h4⟩ := get_mem hg
  rw [srt_inj h h3 h1 (h4.trans h2.symm)]
theorem get_none {T : List RZ} {p : ByteArray} : getZ T p = none ↔ ∀ z ∈ T, z.path ≠ p := by
 unfold getZ
 rw [List.find?_eq_none]
 simp
theorem get_put {T : List RZ} (h : Srt T) (z : RZ) (p : ByteArray) : getZ (putZ T z) p = if p = z.path then some z else getZ T p := by
 ext y
 rw [get_iff (srt_put h), mem_put]
 split
 ·next e =>
  subst e
  constructor
  ·rintro ⟨rfl | ⟨-, h1⟩, h2⟩
   ·rfl
   ·exact absurd h2 h1
  ·intro e; cases e; exact ⟨.inl rfl, rfl⟩
 ·next e =>
  rw [get_iff h]
  constructor
  ·rintro ⟨rfl | ⟨h1, -⟩, h2⟩
   ·exact absurd h2.symm e
   ·exact ⟨h1, h2⟩
  ·rintro ⟨h1, h2⟩
   exact ⟨.inr ⟨h1, fun e2 => e (h2.symm.trans e2)⟩, h2⟩
theorem get_del {T : List RZ} (h : Srt T) (q p : ByteArray) : getZ (delZ T q) p = if p = q then none else getZ T p := by
 ext y
 rw [get_iff (srt_del h), mem_del]
 split
 ·next e =>
  subst e
  constructor
  ·rintro ⟨⟨-, h1⟩, h2⟩; exact absurd h2 h1
  ·intro e; cases e
 ·next e =>
  rw [get_iff h]
  constructor
  ·rintro ⟨⟨h1, -⟩, h2⟩; exact ⟨h1, h2⟩
  ·rintro ⟨h1, h2⟩; exact ⟨⟨h1, fun e2 => e (h2.symm.trans e2)⟩, h2⟩
theorem filter_lt {α : Type} {p : α → Bool} : ∀ {l : List α} {x : α}, x ∈ l → p x = false → (l.filter p).length < l.length
 | y :: l, x, hx, hp => by
  rw [List.filter_cons]
  rcases List.mem_cons.1 hx with rfl | hx
  ·rw [if_neg (by simp [hp])]
   exact Nat.lt_succ_of_le (List.length_filter_le _ _)
  ·have := filter_lt hx hp
   split
   ·simpa using this
   ·exact Nat.lt_succ_of_lt this
theorem put_len (z : RZ) : ∀ (T : List RZ), (putZ T z).length ≤ T.length + 1
 | [] => by simp [putZ]
 | x :: l => by
  unfold putZ
  split
  ·have := put_len z l; simp; omega
  ·have := List.length_filter_le (fun y : RZ => decide (y.path ≠ z.path)) (x :: l)
   rw [List.length_cons]; omega
theorem put_len_in {z y : RZ} (e : y.path = z.path) : ∀ {T : List RZ}, y ∈ T → (putZ T z).length ≤ T.length
 | x :: l, h => by
  unfold putZ
  split
  ·next hx =>
   rcases List.mem_cons.1 h with rfl | h
   ·exact absurd e (ltS_ne hx)
   ·have := put_len_in e h; simp; omega
  ·have := filter_lt (p := fun y : RZ => decide (y.path ≠ z.path)) h (by simp [e])
   rw [List.length_cons]; omega
end Go.Proofs.YtalfffamppmooaaGreatDoor
namespace Go.Proofs.YtalfffamppmooaaGreatDoor
structure RL where
 id : Int
 span : Int
 last : Int
def clockL (n : Int) : Bool := decide (0 ≤ n ∧ n ≤ 1099511627776)
def okL (x : RL) : Bool := decide (1 ≤ x.id ∧ x.id ≤ big ∧ 1 ≤ x.span ∧ x.span ≤ 1000000) && clockL x.last
def getL (l : List RL) (id : Int) : Option RL := l.find? fun x => decide (x.id = id)
def delL (l : List RL) (id : Int) : List RL := l.filter fun x => decide (x.id ≠ id)
def putL : List RL → RL → List RL
 | [], x => [x]
 | y :: l, x => if y.id < x.id then y :: putL l x else x :: (y :: l).filter fun z => decide (z.id ≠ x.id)
def openE (l : List RL) (x : RL) : Int := if okL x = false ∨ (getL l x.id).isSome = true ∨ l.length ≥ 100 then 1 else 0
def openL (l : List RL) (x : RL) : List RL := if openE l x = 0 then putL l x else l
def renewE (l : List RL) (id now : Int) : Int := if clockL now = false then 1 else if (getL l id).isSome = true then 0 else 100
def renewL (l : List RL) (id now : Int) : List RL := if clockL now = false then l else match getL l id with
 | none => l
 | some x => putL l { x with last := max x.last now }
def closeE (l : List RL) (id : Int) : Int := if (getL l id).isSome = true then 0 else 100
def closeL (l : List RL) (id : Int) : List RL := if (getL l id).isSome = true then delL l id else l
abbrev SrtL (l : List RL) : Prop := l.Pairwise fun a b => a.id < b.id
structure WL (l : List RL) : Prop where
 srt : SrtL l
 len : l.length ≤ 100
 ok : ∀ x ∈ l, okL x = true
def posL (l : List RL) (id : Int) : Nat := l.countP fun x => decide (x.id < id)
theorem posL_le (l : List RL) (id : Int) : posL l id ≤ l.length := List.countP_le_length
theorem posL_zero {l : List RL} {id : Int} (h : ∀ x ∈ l, id ≤ x.id) : posL l id = 0 := by
 unfold posL
 rw [List.countP_eq_zero]
 intro x hx
 have := h x hx
 simp; omega
theorem getL_none {l : List RL} {id : Int} : getL l id = none ↔ ∀ x ∈ l, x.id ≠ id := by
 unfold getL
 rw [List.find?_eq_none]
 simp
theorem mem_delL {l : List RL} {id : Int} {x : RL} : x ∈ delL l id ↔ x ∈ l ∧ x.id ≠ id := by
 unfold delL; rw [List.mem_filter]; simp
theorem mem_putL {x y : RL} : ∀ {l : List RL}, y ∈ putL l x ↔ y = x ∨ (y ∈ l ∧ y.id ≠ x.id) ∨ (y ∈ l ∧ y.id < x.id)
 | [] => by simp [putL]
 | z :: l => by
  unfold putL
  split
  ·next h =>
   rw [List.mem_cons, mem_putL (l := l)]
   constructor
   ·rintro (rfl | rfl | ⟨h1, h2⟩ | ⟨h1, h2⟩)
    ·exact .inr (.inr ⟨by simp, h⟩)
    ·exact .inl rfl
    ·exact .inr (.inl ⟨List.mem_cons_of_mem _ h1, h2⟩)
    ·exact .inr (.inr ⟨List.mem_cons_of_mem _ h1, h2⟩)
   ·rintro (rfl | ⟨h1, h2⟩ | ⟨h1, h2⟩)
    ·exact .inr (.inl rfl)
    ·rcases List.mem_cons.1 h1 with rfl | h1
     ·exact .inl rfl
     ·exact .inr (.inr (.inl ⟨h1, h2⟩))
    ·rcases List.mem_cons.1 h1 with rfl | h1
     ·exact .inl rfl
     ·exact .inr (.inr (.inr ⟨h1, h2⟩))
  ·rw [List.mem_cons, List.mem_filter]
   constructor
   ·rintro (rfl | ⟨h1, h2⟩)
    ·exact .inl rfl
    ·exact .inr (.inl ⟨h1, by simpa using h2⟩)
   ·rintro (rfl | ⟨h1, h2⟩ | ⟨h1, h2⟩)
    ·exact .inl rfl
    ·exact .inr ⟨h1, by simpa using h2⟩
    ·exact .inr ⟨h1, by simp; omega⟩
theorem mem_putL' {x y : RL} {l : List RL} : y ∈ putL l x ↔ y = x ∨ (y ∈ l ∧ y.id ≠ x.id) := by
 rw [mem_putL]
 constructor
 ·rintro (h | h | ⟨h1, h2⟩)
  ·exact .inl h
  ·exact .inr h
  ·exact .inr ⟨h1, by omega⟩
 ·rintro (h | h)
  ·exact .inl h
  ·exact .inr (.inl h)
theorem srt_delL {l : List RL} {id : Int} (h : SrtL l) : SrtL (delL l id) := h.filter _
theorem srt_putL {x : RL} : ∀ {l : List RL}, SrtL l → SrtL (putL l x)
 | [], _ => by simp [putL]
 | y :: l, h => by
  obtain ⟨h1, h2⟩ := List.pairwise_cons.1 h
  unfold putL
  split
  ·next h3 =>
   refine List.pairwise_cons.2 ⟨fun z hz => ?_, srt_putL h2⟩
   rcases mem_putL'.1 hz with rfl | ⟨h4, -⟩
   ·exact h3
   ·exact h1 z h4
  ·next h3 =>
   refine List.pairwise_cons.2 ⟨fun z hz => ?_, h.filter _⟩
   obtain ⟨h4, h5⟩ := List.mem_filter.1 hz
   have h5 : z.id ≠ x.id := by simpa using h5
   rcases List.mem_cons.1 h4 with rfl | h4
   ·omega
   ·have := h1 z h4
    omega
theorem putL_new {x : RL} : ∀ {l : List RL}, SrtL l → getL l x.id = none → putL l x = l.take (posL l x.id) ++ x :: l.drop (posL l x.id)
 | [], _, _ => rfl
 | y :: l, h, hn => by
  obtain ⟨h1, h2⟩ := List.pairwise_cons.1 h
  have hn' := getL_none.1 hn
  have hy := hn' y (by simp)
  unfold putL
  split
  ·next h3 =>
   have hp : posL (y :: l) x.id = posL l x.id + 1 := by unfold posL; rw [List.countP_cons_of_pos (by simpa using h3)]
   rw [hp, putL_new h2 (getL_none.2 fun z hz => hn' z (by simp [hz]))]
   rfl
  ·next h3 =>
   have hp : posL (y :: l) x.id = 0 := posL_zero fun z hz => by
    rcases List.mem_cons.1 hz with rfl | hz
    ·omega
    ·have := h1 z hz; omega
   rw [hp, List.take_zero, List.drop_zero, List.nil_append, List.filter_eq_self.2 fun z hz => by simpa using hn' z hz]
theorem getL_at {l : List RL} (h : SrtL l) {id : Int} {y : RL} (hg : getL l id = some y) : l[posL l id]? = some y ∧ y.id = id := by
 induction l with
 | nil => cases hg
 | cons z l ih =>
  obtain ⟨h1, h2⟩ := List.pairwise_cons.1 h
  by_cases hz : z.id = id
  ·have : getL (z :: l) id = some z := by unfold getL; rw [List.find?_cons_of_pos (by simpa using hz)]
   rw [this] at hg
   obtain rfl := Option.some.inj hg
   have hp : posL (z :: l) id = 0 := posL_zero fun w hw => by
    rcases List.mem_cons.1 hw with rfl | hw
    ·omega
    ·have := h1 w hw; omega
   rw [hp]; exact ⟨rfl, hz⟩
  ·have : getL (z :: l) id = getL l id := by unfold getL; rw [List.find?_cons_of_neg (by simpa using hz)]
   rw [this] at hg
   obtain ⟨h3, h4⟩ := ih h2 hg
   have hyl : y ∈ l := List.mem_of_getElem? h3
   have hlt : z.id < id := by have := h1 y hyl; omega
   have hp : posL (z :: l) id = posL l id + 1 := by unfold posL; rw [List.countP_cons_of_pos (by simpa using hlt)]
   rw [hp]; exact ⟨h3, h4⟩
theorem putL_old {x : RL} : ∀ {l : List RL}, SrtL l → ∀ {y : RL}, getL l x.id = some y → putL l x = l.set (posL l x.id) x
 | [], _, _, hg => by cases hg
 | z :: l, h, y, hg => by
  obtain ⟨h1, h2⟩ := List.pairwise_cons.1 h
  unfold putL
  split
  ·next h3 =>
   have e : getL (z :: l) x.id = getL l x.id := by unfold getL; rw [List.find?_cons_of_neg (by simp; omega)]
   rw [e] at hg
   have hp : posL (z :: l) x.id = posL l x.id + 1 := by unfold posL; rw [List.countP_cons_of_pos (by simpa using h3)]
   rw [hp, putL_old h2 hg]
   rfl
  ·next h3 =>
   have hp : posL (z :: l) x.id = 0 := posL_zero fun w hw => by
    rcases List.mem_cons.1 hw with rfl | hw
    ·omega
    ·have := h1 w hw; omega
   obtain ⟨k1, k2⟩ := getL_at h hg
   rw [hp] at k1
   obtain rfl : z = y := by simpa using k1
   rw [hp, List.filter_cons_of_neg (by simpa using k2), List.filter_eq_self.2 fun w hw => by
    have := h1 w hw
    simp; omega]
   rfl
theorem delL_old : ∀ {l : List RL}, SrtL l → ∀ {id : Int} {y : RL}, getL l id = some y → delL l id = l.take (posL l id) ++ l.drop (posL l id + 1)
 | [], _, _, _, hg => by cases hg
 | z :: l, h, id, y, hg => by
  obtain ⟨h1, h2⟩ := List.pairwise_cons.1 h
  by_cases hz : z.id = id
  ·have hp : posL (z :: l) id = 0 := posL_zero fun w hw => by
    rcases List.mem_cons.1 hw with rfl | hw
    ·omega
    ·have := h1 w hw; omega
   rw [hp]
   unfold delL
   rw [List.filter_cons_of_neg (by simpa using hz), List.filter_eq_self.2 fun w hw => by
    have := h1 w hw
    simp; omega]
   rfl
  ·have e : getL (z :: l) id = getL l id := by unfold getL; rw [List.find?_cons_of_neg (by simpa using hz)]
   rw [e] at hg
   have hyl := List.mem_of_getElem? (getL_at h2 hg).1
   have hlt : z.id < id := by have := h1 y hyl; have := (getL_at h2 hg).2; omega
   have hp : posL (z :: l) id = posL l id + 1 := by unfold posL; rw [List.countP_cons_of_pos (by simpa using hlt)]
   have ih := delL_old h2 hg
   unfold delL at ih ⊢
   rw [hp, List.filter_cons_of_pos (by simpa using hz), ih]
   rfl
theorem putL_len (x : RL) : ∀ (l : List RL), (putL l x).length ≤ l.length + 1
 | [] => by simp [putL]
 | y :: l => by
  unfold putL
  split
  ·have := putL_len x l
   simp; omega
  ·have := List.length_filter_le (fun z => decide (z.id ≠ x.id)) (y :: l)
   simp only [List.length_cons] at this ⊢
   omega
theorem wl_nil : WL [] := ⟨.nil, by simp, by simp⟩
theorem wl_open {l : List RL} (h : WL l) (x : RL) : WL (openL l x) := by
 unfold openL
 split
 ·next he =>
  unfold openE at he
  split at he
  ·cases he
  ·next hn =>
   have hn : okL x = true ∧ l.length < 100 := by
    refine ⟨?_, by omega⟩
    cases hh : okL x with
    | true => rfl
    | false => exact absurd (.inl hh) hn
   refine ⟨srt_putL h.srt, by have := putL_len x l; omega, fun y hy => ?_⟩
   rcases mem_putL'.1 hy with rfl | ⟨h1, -⟩
   ·exact hn.1
   ·exact h.ok y h1
 ·exact h
theorem wl_renew {l : List RL} (h : WL l) (id now : Int) : WL (renewL l id now) := by
 unfold renewL
 split
 ·exact h
 ·next hc =>
  have hc : clockL now = true := by simpa using hc
  split
  ·exact h
  ·next x hx =>
   obtain ⟨h1, h2⟩ := getL_at h.srt hx
   have hxm := List.mem_of_getElem? h1
   refine ⟨srt_putL h.srt, ?_, fun y hy => ?_⟩
   ·rw [putL_old (x := { x with last := max x.last now }) h.srt (y := x) (by show getL l x.id = some x; rw [h2]; exact hx)]
    simpa using h.len
   ·rcases mem_putL'.1 hy with rfl | ⟨h3, -⟩
    ·have := h.ok x hxm
     unfold okL clockL at *
     simp at this hc ⊢
     omega
    ·exact h.ok y h3
theorem wl_close {l : List RL} (h : WL l) (id : Int) : WL (closeL l id) := by
 unfold closeL
 split
 ·exact ⟨srt_delL h.srt, Nat.le_trans (List.length_filter_le _ _) h.len, fun y hy => h.ok y (mem_delL.1 hy).1⟩
 ·exact h
end Go.Proofs.YtalfffamppmooaaGreatDoor
namespace Go.Proofs.YtalfffamppmooaaGreatDoor
open Go.RowKit
structure IsP (s : ByteArray) (r : List UInt8) : Prop where
 bytes : s.data.toList = 47 :: r
 names : nmZ s = splitZ r
 good : ∀ x ∈ splitZ r, nameZ x = true
 few : (splitZ r).length ≤ 8
 ne : s ≠ rootS
theorem isP_of {s : ByteArray} (hv : validZ s = true) (hs : s ≠ rootS) : ∃ r, IsP s r := by
 unfold validZ at hv
 obtain ⟨l, hl⟩ := Option.isSome_iff_exists.1 hv
 rcases namesZ_some hl with ⟨e, -⟩ | ⟨-, e, hne, h8⟩
 ·exact absurd e hs
 ·unfold namesR at e
  split at e
  ·next r hr =>
   split at e
   ·next hg => exact ⟨r, hr, by unfold nmZ; rw [hl, e]; rfl, List.all_eq_true.1 hg, by rw [← e]; exact h8, hs⟩
   ·exact absurd e hne
  ·exact absurd e hne
theorem parent_root : parentZ rootS = (noS, false) := by unfold parentZ; rw [if_pos nm_root]
theorem IsP.parent {s : ByteArray} {r : List UInt8} (h : IsP s r) : parentZ s = (pathZ (splF r).1, true) := by
 unfold parentZ
 rw [h.names, if_neg (splitZ_ne r)]
 unfold splitZ
 rw [List.dropLast_concat]
theorem IsP.base {s : ByteArray} {r : List UInt8} (h : IsP s r) : baseZ s = ⟨(splF r).2.toArray⟩ := by
 unfold baseZ
 rw [h.names]
 unfold splitZ
 simp
theorem IsP.last_ne {s : ByteArray} {r : List UInt8} (h : IsP s r) : (splF r).2 ≠ [] := fun e => by
 have := h.good ⟨(splF r).2.toArray⟩ (by unfold splitZ; simp)
 unfold nameZ at this
 rw [e] at this
 simp [ByteArray.size] at this
theorem lt_app (a : List UInt8) {b : List UInt8} (h : b ≠ []) : a < a ++ b := by
 induction a with
 | nil => cases b with
  | nil => exact absurd rfl h
  | cons c b => simp
 | cons c a ih => rw [List.cons_append, List.cons_lt_cons_iff]; exact .inr ⟨rfl, ih⟩
theorem IsP.split {s : ByteArray} {r : List UInt8} (h : IsP s r) : s.data.toList = (joinZ (splF r).1).data.toList ++ 47 :: (splF r).2 := by rw [h.bytes, join_splF]
theorem IsP.parent_lt {s : ByteArray} {r : List UInt8} (h : IsP s r) : ltS (parentZ s).1 s = true := by
 rw [ltS_iff, h.parent]
 show (pathZ (splF r).1).data.toList < _
 unfold pathZ
 split
 ·next e =>
  have := h.split
  rw [e] at this
  rw [this]
  show [47] < 47 :: (splF r).2
  exact lt_app [47] h.last_ne
 ·rw [h.split]
  exact lt_app _ (by simp)
theorem parent_yes {s : ByteArray} (hv : validZ s = true) (hs : s ≠ rootS) : (parentZ s).2 = true ∧ ltS (parentZ s).1 s = true := by
 obtain ⟨r, h⟩ := isP_of hv hs
 exact ⟨by rw [h.parent], h.parent_lt⟩
theorem parent_lt {s : ByteArray} (h : (parentZ s).2 = true) : ltS (parentZ s).1 s = true := by
 have hn : nmZ s ≠ [] := fun e => by unfold parentZ at h; rw [if_pos e] at h; cases h
 have hs : s ≠ rootS := fun e => hn (by rw [e, nm_root])
 have hv : validZ s = true := by
  unfold nmZ at hn
  unfold validZ
  cases h : namesZ s with
  | none => rw [h] at hn; exact absurd rfl hn
  | some l => rfl
 exact (parent_yes hv hs).2
theorem splF_no (l : List UInt8) {d : List UInt8} (h : ∀ c ∈ d, c ≠ 47) : splF (l ++ d) = ((splF l).1, (splF l).2 ++ d) := by
 unfold splF
 rw [List.foldl_append, foldl_spl _ _ h]
theorem dig_ne (n : Int) (i : Nat) : digZ n i ≠ 47 := fun e => by
 have := congrArg UInt8.toNat e
 unfold digZ at this
 have e2 : (47 : UInt8).toNat = 47 := rfl
 rw [e2, UInt8.toNat_ofNat'] at this
 omega
theorem ten_no (n : Int) : ∀ c ∈ (tenZ n).data.toList, c ≠ 47 := fun c hc => by
 simp only [tenZ, List.mem_cons, List.not_mem_nil, or_false] at hc
 rcases hc with rfl | rfl | rfl | rfl | rfl | rfl | rfl | rfl | rfl | rfl <;> exact dig_ne n _
theorem ten_len (n : Int) : (tenZ n).data.toList.length = 10 := rfl
theorem num_ok {s : ByteArray} {n : Int} (h : (numZ s n).2 = true) : (numZ s n).1 = s ++ tenZ n ∧ s ≠ rootS ∧ validZ s = true ∧ 0 ≤ n ∧ n ≤ 9999999999 ∧ validZ (s ++ tenZ n) = true := by
 unfold numZ at h ⊢
 split at h
 ·next h1 => rw [if_pos h1]; exact ⟨rfl, h1⟩
 ·cases h
theorem num_ne {s : ByteArray} {n : Int} : s ++ tenZ n ≠ rootS := fun e => by
 have := congrArg (fun b : ByteArray => b.data.toList.length) e
 simp only [ba_app, List.length_append, ten_len] at this
 have e2 : rootS.data.toList.length = 1 := rfl
 omega
theorem num_parent {s : ByteArray} {n : Int} (hs : s ≠ rootS) (hv : validZ s = true) (hv2 : validZ (s ++ tenZ n) = true) : parentZ (s ++ tenZ n) = parentZ s := by
 obtain ⟨r, h⟩ := isP_of hv hs
 obtain ⟨r2, h2⟩ := isP_of hv2 num_ne
 have e := h2.bytes
 rw [ba_app, h.bytes, List.cons_append] at e
 cases e
 rw [h.parent, h2.parent, splF_no r (ten_no n)]
theorem up_in {n : Int} (h : 0 ≤ n ∧ n ≤ big) : 0 ≤ upZ n ∧ upZ n ≤ big := by
 unfold upZ
 split
 ·exact h
 ·have : n ≠ big := by assumption
  omega
theorem in_iff {n : Int} : inZ n = true ↔ 0 ≤ n ∧ n ≤ big := by unfold inZ; simp
def kidOf (z : RZ) (zx : Int) (made : Bool) : RZ := { z with ci := zx, ki := upZ z.ki, nx := if made = true then upZ z.nx else z.nx }
theorem RgZ.kid {z : RZ} (h : RgZ z) {zx : Int} (hz : inZ zx = true) (made : Bool) : RgZ (kidOf z zx made) :=
 ⟨h.data, h.cr, h.ch, in_iff.1 hz, h.ve, up_in h.ki, h.ow, by show 0 ≤ (if made = true then upZ z.nx else z.nx) ∧ (if made = true then upZ z.nx else z.nx) ≤ big; split; exact up_in h.nx; exact h.nx⟩
theorem RgZ.set {z : RZ} (h : RgZ z) {zx : Int} (hz : inZ zx = true) {d : ByteArray} (hd : d.size ≤ 1024) : RgZ { z with data := d, ch := zx, ve := upZ z.ve } :=
 ⟨hd, h.cr, in_iff.1 hz, h.ci, up_in h.ve, h.ki, h.ow, h.nx⟩
theorem Wz.upd {T : List RZ} (h : Wz T) {z z' : RZ} (hz : z ∈ T) (hp : z'.path = z.path) (ho : z'.ow = z.ow) (hr : RgZ z') : Wz (putZ T z') := by
 have keep : ∀ y ∈ T, y.ow = 0 → ∃ y' ∈ putZ T z', y'.path = y.path ∧ y'.ow = 0 := fun y hy h0 => by
  by_cases e : y.path = z'.path
  ·have := srt_inj h.srt hy hz (e.trans hp)
   subst this
   exact ⟨z', mem_put.2 (.inl rfl), hp, ho.trans h0⟩
  ·exact ⟨y, mem_put.2 (.inr ⟨hy, e⟩), rfl, h0⟩
 refine ⟨srt_put h.srt, Nat.le_trans (put_len_in hp.symm hz) h.len, ?_, fun y hy => ?_, fun y hy => ?_, fun y hy hpar => ?_⟩
 ·obtain ⟨y, hy, h1, h2⟩ := h.root
  obtain ⟨y', h3, h4, h5⟩ := keep y hy h2
  exact ⟨y', h3, h4.trans h1, h5⟩
 ·rcases mem_put.1 hy with rfl | ⟨hy, -⟩
  ·rw [hp]; exact h.valid z hz
  ·exact h.valid y hy
 ·rcases mem_put.1 hy with rfl | ⟨hy, -⟩
  ·exact hr
  ·exact h.rg y hy
 ·have : ∃ q ∈ T, q.path = (parentZ y.path).1 ∧ q.ow = 0 := by
   rcases mem_put.1 hy with rfl | ⟨hy, -⟩
   ·rw [hp] at hpar ⊢; exact h.up z hz hpar
   ·exact h.up y hy hpar
  obtain ⟨q, h1, h2, h3⟩ := this
  obtain ⟨q', h4, h5, h6⟩ := keep q h1 h3
  exact ⟨q', h4, h5.trans h2, h6⟩
theorem Wz.kid {T : List RZ} (h : Wz T) {s : RStep} (hs : s.t = T) {p : RZ} (hp : p ∈ T) (e : p.path = (parentZ s.path).1) {zx : Int} (hz : inZ zx = true) (made : Bool) : Wz (kidZ s zx made).t ∧ (kidZ s zx made).t = putZ T (kidOf p zx made) := by
 have hg : getZ T (parentZ s.path).1 = some p := (get_iff h.srt).2 ⟨hp, e⟩
 have : (kidZ s zx made).t = putZ T (kidOf p zx made) := by
  show putZ s.t (kidOf ((getZ s.t (parentZ s.path).1).getD rz0) zx made) = _
  rw [hs, hg]; rfl
 rw [this]
 exact ⟨h.upd hp rfl rfl ((h.rg p hp).kid hz made), rfl⟩
structure CrOk (T : List RZ) (c : RC) (p : RZ) : Prop where
 small : c.data.size ≤ 1024
 ne : c.path ≠ rootS
 mem : p ∈ T
 path : p.path = (parentZ c.path).1
 own : p.ow = 0
 valid : validZ (nameC T c).1 = true
 ne2 : (nameC T c).1 ≠ rootS
 par : parentZ (nameC T c).1 = parentZ c.path
 fresh : getZ T (nameC T c).1 = none
 room : T.length < 200
theorem create_ok {T : List RZ} {c : RC} (hv : validZ c.path = true) (h : createE T c = 0) : ∃ p, CrOk T c p ∧ getZ T (parentZ c.path).1 = some p := by
 unfold createE at h
 split at h
 ·cases h
 next h1 =>
 split at h
 ·cases h
 next h2 =>
 split at h
 ·cases h
 next p hp =>
 split at h
 ·cases h
 next h3 =>
 split at h
 ·cases h
 next h4 =>
 split at h
 ·cases h
 next h5 =>
 split at h
 ·cases h
 next h6 =>
 obtain ⟨hm, hpp⟩ := get_mem hp
 have key : validZ (nameC T c).1 = true ∧ (nameC T c).1 ≠ rootS ∧ parentZ (nameC T c).1 = parentZ c.path := by
  unfold nameC at h4 ⊢
  split
  ·next hs =>
   rw [if_pos hs] at h4
   obtain ⟨e, k1, k2, -, -, k3⟩ := num_ok (by simpa using h4)
   rw [e]
   exact ⟨k3, num_ne, num_parent k1 k2 k3⟩
  ·exact ⟨hv, h2, rfl⟩
 exact ⟨p, ⟨by omega, h2, hm, hpp, by simpa using h3, key.1, key.2.1, key.2.2, by simpa using h5, by omega⟩, hp⟩
theorem Wz.add {T : List RZ} (h : Wz T) {z p : RZ} (hf : getZ T z.path = none) (hp : p ∈ T) (e : p.path = (parentZ z.path).1) (ho : p.ow = 0) (hr : RgZ z) (hv : validZ z.path = true) (hl : T.length < 200) : Wz (putZ T z) := by
 have hne := get_none.1 hf
 have keep : ∀ y ∈ T, y ∈ putZ T z := fun y hy => mem_put.2 (.inr ⟨hy, hne y hy⟩)
 refine ⟨srt_put h.srt, Nat.le_trans (put_len z T) hl, ?_, fun y hy => ?_, fun y hy => ?_, fun y hy hpar => ?_⟩
 ·obtain ⟨y, hy, h1⟩ := h.root
  exact ⟨y, keep y hy, h1⟩
 ·rcases mem_put.1 hy with rfl | ⟨hy, -⟩
  ·exact hv
  ·exact h.valid y hy
 ·rcases mem_put.1 hy with rfl | ⟨hy, -⟩
  ·exact hr
  ·exact h.rg y hy
 ·rcases mem_put.1 hy with rfl | ⟨hy, -⟩
  ·exact ⟨p, keep p hp, e, ho⟩
  ·obtain ⟨q, h1, h2⟩ := h.up y hy hpar
   exact ⟨q, keep q h1, h2⟩
theorem new_rg {path data : ByteArray} {zx ow : Int} (hd : data.size ≤ 1024) (hz : inZ zx = true) (ho : inZ ow = true) : RgZ (newZ path data zx ow) := by
 have h0 : (0 : Int) ≤ 0 ∧ (0 : Int) ≤ big := ⟨by decide, by decide⟩
 exact ⟨hd, in_iff.1 hz, in_iff.1 hz, in_iff.1 hz, h0, h0, in_iff.1 ho, h0⟩
def madeT (T : List RZ) (zx se : Int) (c : RC) : List RZ := putZ T (newZ (nameC T c).1 c.data zx (if c.ep = true then se else 0))
theorem wz_made {T : List RZ} (h : Wz T) {zx se : Int} (hz : inZ zx = true) (hs : inZ se = true) {c : RC} {p : RZ} (k : CrOk T c p) : Wz (madeT T zx se c) :=
 h.add k.fresh k.mem (by rw [k.path]; exact (congrArg Prod.fst k.par).symm) k.own (new_rg k.small hz (by split; exact hs; decide)) k.valid k.room
theorem wz_create {T : List RZ} (h : Wz T) {zx se : Int} (hz : inZ zx = true) (hs : inZ se = true) {c : RC} (hv : validZ c.path = true) (he : createE T c = 0) : Wz (createZ T zx se c).t := by
 obtain ⟨p, k, -⟩ := create_ok hv he
 unfold createZ
 rw [if_pos he]
 have hne := get_none.1 k.fresh
 exact ((wz_made h hz hs k).kid (s := ⟨madeT T zx se c, (nameC T c).1, [⟨0, 1, (nameC T c).1⟩], 0⟩) rfl (p := p) (mem_put.2 (.inr ⟨k.mem, hne p k.mem⟩)) (by show p.path = _; rw [k.path, k.par]) hz true).1
theorem Wz.del {T : List RZ} (h : Wz T) {p : ByteArray} (hp : p ≠ rootS) (hk : ∀ z ∈ T, (parentZ z.path).2 = true → (parentZ z.path).1 ≠ p) : Wz (delZ T p) := by
 refine ⟨srt_del h.srt, Nat.le_trans (List.length_filter_le _ _) h.len, ?_, fun y hy => h.valid y (mem_del.1 hy).1, fun y hy => h.rg y (mem_del.1 hy).1, fun y hy hpar => ?_⟩
 ·obtain ⟨y, hy, h1, h2⟩ := h.root
  exact ⟨y, mem_del.2 ⟨hy, by rw [h1]; exact hp.symm⟩, h1, h2⟩
 ·have hy := (mem_del.1 hy).1
  obtain ⟨q, h1, h2⟩ := h.up y hy hpar
  exact ⟨q, mem_del.2 ⟨h1, by rw [h2.1]; exact hk y hy hpar⟩, h2⟩
structure RmOk (T : List RZ) (p : ByteArray) (q : RZ) : Prop where
 ne : p ≠ rootS
 leaf : ∀ z ∈ T, (parentZ z.path).2 = true → (parentZ z.path).1 ≠ p
 mem : q ∈ T
 path : q.path = (parentZ p).1
 own : q.ow = 0
 lt : q.path ≠ p
theorem rm_of {T : List RZ} (h : Wz T) {z : RZ} (hz : z ∈ T) (hne : z.path ≠ rootS) (hk : ∀ y ∈ T, (parentZ y.path).2 = true → (parentZ y.path).1 ≠ z.path) : ∃ q, RmOk T z.path q := by
 obtain ⟨h1, h2⟩ := parent_yes (h.valid z hz) hne
 obtain ⟨q, h3, h4, h5⟩ := h.up z hz h1
 exact ⟨q, hne, hk, h3, h4, h5, by rw [h4]; exact ltS_ne h2⟩
theorem wz_remove {T : List RZ} (h : Wz T) {zx : Int} (hz : inZ zx = true) {p : ByteArray} {q : RZ} (k : RmOk T p q) : Wz (removeZ T zx p).t ∧ (removeZ T zx p).t = putZ (delZ T p) (kidOf q zx false) :=
 (h.del k.ne k.leaf).kid (s := ⟨delZ T p, p, [⟨0, 2, p⟩], 0⟩) rfl (p := q) (mem_del.2 ⟨k.mem, k.lt⟩) k.path hz false
theorem found_ok {T : List RZ} {c : RC} (h : foundE T c = 0) : ∃ z, getZ T c.path = some z ∧ ¬ (c.kind = 2 ∧ c.path = rootS) := by
 unfold foundE at h
 split at h
 ·cases h
 ·next z hz =>
  split at h
  ·cases h
  ·next h1 => exact ⟨z, hz, h1⟩
theorem kids_none {T : List RZ} {p : ByteArray} {z : RZ} (hz : getZ T p = some z) (h : ¬ (kidsZ T p).length > 0) : ∀ y ∈ T, (parentZ y.path).2 = true → (parentZ y.path).1 ≠ p := fun y hy hp e => by
 unfold kidsZ at h
 rw [hz, Option.isSome_some, if_pos rfl, List.length_map] at h
 have : y ∈ T.filter (isKid p) := List.mem_filter.2 ⟨hy, by unfold isKid; rw [hp, e]; simp⟩
 have := List.length_pos_of_mem this
 omega
theorem wz_one {T : List RZ} (h : Wz T) {zx se : Int} (hz : inZ zx = true) (hs : inZ se = true) {c : RC} (he : (oneZ T zx se c).e = 0) : Wz (oneZ T zx se c).t := by
 unfold oneZ at he ⊢
 split at he
 ·cases he
 next k1 =>
 rw [if_neg k1]
 split at he
 ·cases he
 next k2 =>
 rw [if_neg k2]
 have hv : validZ c.path = true := by simpa using k2
 split at he
 ·next k3 =>
  rw [if_pos k3]
  have he' : createE T c = 0 := by
   unfold createZ at he
   split at he
   ·assumption
   ·exact he
  exact wz_create h hz hs hv he'
 next k3 =>
 rw [if_neg k3]
 split at he
 ·cases he
 next k4 =>
 rw [if_neg k4]
 split at he
 ·next k5 => exact absurd he k5
 next k5 =>
 rw [if_neg k5]
 have hf : foundE T c = 0 := by simpa using k5
 obtain ⟨z, hg, hr⟩ := found_ok hf
 obtain ⟨hm, hp⟩ := get_mem hg
 split at he
 ·next k6 =>
  rw [if_pos k6]
  split at he
  ·cases he
  next k7 =>
  rw [if_neg k7]
  obtain ⟨q, hq⟩ := rm_of h hm (by rw [hp]; exact fun e => hr ⟨k6, e⟩) (by rw [hp]; exact kids_none hg k7)
  rw [hp] at hq
  exact (wz_remove h hz hq).1
 next k6 =>
 rw [if_neg k6]
 split at he
 ·next k7 => rw [if_pos k7]; exact h
 next k7 =>
 rw [if_neg k7]
 have k3' : c.kind = 3 := by omega
 have e : setZ T zx c = { z with data := c.data, ch := zx, ve := upZ z.ve } := by unfold setZ; rw [hg]; rfl
 rw [e]
 exact h.upd hm rfl rfl ((h.rg z hm).set hz (by have : ¬ c.data.size > 1024 := fun h => k4 ⟨k3', h⟩; omega))
theorem wz_run {zx se : Int} (hz : inZ zx = true) (hs : inZ se = true) : ∀ (l : List RC) (a : RAns), Wz a.t → (runZ zx se l a).e = 0 → Wz (runZ zx se l a).t
 | [], a, h, _ => h
 | c :: l, a, h, he => by
  unfold runZ at he ⊢
  split at he
  ·next h1 => rw [if_pos h1]; exact wz_run hz hs l _ (wz_one h hz hs h1) he
  ·next h1 => exact absurd he h1
theorem wz_do {T : List RZ} (h : Wz T) (zx se : Int) (l : List RC) : Wz (doZ T zx se l).t := by
 unfold doZ
 split
 ·next h1 =>
  split
  ·next h2 => exact wz_run h1.1 h1.2 l _ h h2
  ·exact h
 ·exact h
theorem own_leaf {T : List RZ} (h : Wz T) {z : RZ} (hz : z ∈ T) (ho : z.ow ≠ 0) : z.path ≠ rootS ∧ ∀ y ∈ T, (parentZ y.path).2 = true → (parentZ y.path).1 ≠ z.path := by
 refine ⟨fun e => ?_, fun y hy hp e => ?_⟩
 ·obtain ⟨r, h1, h2, h3⟩ := h.root
  exact ho ((srt_inj h.srt hz h1 (e.trans h2.symm)) ▸ h3)
 ·obtain ⟨q, h1, h2, h3⟩ := h.up y hy hp
  exact ho ((srt_inj h.srt hz h1 (e.symm.trans h2.symm)) ▸ h3)
theorem wz_endL {zx : Int} (hz : inZ zx = true) : ∀ (l : List ByteArray) (a : List RZ × List RE), l.Nodup → Wz a.1 → (∀ p ∈ l, ∃ z ∈ a.1, z.path = p ∧ z.ow ≠ 0) → Wz (endL zx l a).1
 | [], _, _, h, _ => h
 | p :: l, a, hn, h, hl => by
  obtain ⟨z, h1, h2, h3⟩ := hl p (by simp)
  obtain ⟨h4, h5⟩ := own_leaf h h1 h3
  obtain ⟨q, hq⟩ := rm_of h h1 h4 h5
  rw [h2] at hq
  obtain ⟨h6, h7⟩ := wz_remove h hz hq
  refine wz_endL hz l _ (List.nodup_cons.1 hn).2 h6 fun p' hp' => ?_
  obtain ⟨z', k1, k2, k3⟩ := hl p' (by simp [hp'])
  have hne : p' ≠ p := fun e => (List.nodup_cons.1 hn).1 (e ▸ hp')
  refine ⟨z', ?_, k2, k3⟩
  rw [h7]
  refine mem_put.2 (.inr ⟨mem_del.2 ⟨k1, by rw [k2]; exact hne⟩, fun e => ?_⟩)
  have := srt_inj h.srt k1 hq.mem e
  exact k3 (this ▸ hq.own)
theorem srt_nodup : ∀ {T : List RZ}, Srt T → (T.map RZ.path).Nodup
 | [], _ => by simp
 | z :: T, h => by
  obtain ⟨h1, h2⟩ := List.pairwise_cons.1 h
  rw [List.map_cons, List.nodup_cons]
  refine ⟨fun hm => ?_, srt_nodup h2⟩
  obtain ⟨y, hy, e⟩ := List.mem_map.1 hm
  exact ltS_ne (h1 y hy) e.symm
theorem owned_ok {T : List RZ} (h : Wz T) (s : Int) : (ownedZ T s).Nodup ∧ ∀ p ∈ ownedZ T s, ∃ z ∈ T, z.path = p ∧ z.ow ≠ 0 := by
 refine ⟨srt_nodup (h.srt.filter _), fun p hp => ?_⟩
 obtain ⟨z, hz, rfl⟩ := List.mem_map.1 hp
 obtain ⟨h1, h2⟩ := List.mem_filter.1 hz
 unfold isOwn at h2
 have h2 := of_decide_eq_true h2
 exact ⟨z, h1, rfl, by rw [h2.2]; exact h2.1⟩
theorem wz_end {T : List RZ} (h : Wz T) (zx se : Int) : Wz (endZ T zx se).1 := by
 unfold endZ
 split
 ·next h1 => exact wz_endL h1.1 _ _ (owned_ok h se).1 h (owned_ok h se).2
 ·exact h
theorem wz_new : Wz [zRoot] := by
 have h0 : (0 : Int) ≤ 0 ∧ (0 : Int) ≤ big := ⟨by decide, by decide⟩
 refine ⟨List.pairwise_singleton _ _, by simp, ⟨zRoot, by simp, rfl, rfl⟩, fun z hz => ?_, fun z hz => ?_, fun z hz hp => ?_⟩ <;> obtain rfl := List.mem_singleton.1 hz
 ·exact valid_root
 ·exact ⟨by decide, h0, h0, h0, h0, h0, h0, h0⟩
 ·have : (parentZ rootS).2 = true := hp
  rw [parent_root] at this; cases this
end Go.Proofs.YtalfffamppmooaaGreatDoor
namespace Go.Proofs.YtalfffamppmooaaGreatDoor
structure RT where
 kind : Int
 se : Int
 nu : Int
 sp : Int
 no : Int
 l : List RC
structure RRp where
 code : Int
 se : Int
 ps : List ByteArray
structure RLa where
 se : Int
 nu : Int
 r : RRp
structure RSt where
 zx : Int
 t : List RZ
 ls : List RL
 la : List RLa
structure RSA where
 s : RSt
 r : RRp
 ev : List RE
def rp (e : Int) : RRp := ⟨e, 0, []⟩
def newSt : RSt := ⟨0, [zRoot], [], []⟩
def findA (l : List RLa) (id : Int) : Option RLa := l.find? fun x => decide (x.se = id)
def findS (s : RSt) (id : Int) : RLa := (findA s.la id).getD ⟨id, 0, rp 0⟩
def forgA (l : List RLa) (id : Int) : List RLa := l.filter fun x => decide (x.se ≠ id)
def endS (s : RSt) (id : Int) : RSA := ⟨⟨s.zx, (endZ s.t s.zx id).1, closeL s.ls id, forgA s.la id⟩, rp (closeE s.ls id), (endZ s.t s.zx id).2⟩
def badN (s : RSt) (t : RT) : Bool := decide (t.nu < 1 ∨ t.nu > big ∨ t.nu < (findS s t.se).nu ∨ t.l.length > 6)
def changeS (s : RSt) (t : RT) : RSA :=
 if badN s t = true then ⟨s, rp 1, []⟩ else if t.nu = (findS s t.se).nu then ⟨s, (findS s t.se).r, []⟩
 else ⟨⟨s.zx, (doZ s.t s.zx t.se t.l).t, s.ls, forgA s.la t.se ++ [⟨t.se, t.nu, ⟨(doZ s.t s.zx t.se t.l).e, 0, (doZ s.t s.zx t.se t.l).ps⟩⟩]⟩, ⟨(doZ s.t s.zx t.se t.l).e, 0, (doZ s.t s.zx t.se t.l).ps⟩, (doZ s.t s.zx t.se t.l).ev⟩
def stepS (s : RSt) (t : RT) : RSA :=
 if t.kind = 1 then ⟨⟨s.zx, s.t, openL s.ls ⟨s.zx, t.sp, t.no⟩, s.la⟩, (if openE s.ls ⟨s.zx, t.sp, t.no⟩ = 0 then ⟨0, s.zx, []⟩ else rp (openE s.ls ⟨s.zx, t.sp, t.no⟩)), []⟩
 else if t.kind = 2 then ⟨⟨s.zx, s.t, renewL s.ls t.se t.no, s.la⟩, rp (renewE s.ls t.se t.no), []⟩
 else if t.kind < 3 ∨ t.kind > 5 then ⟨s, rp 1, []⟩
 else match getL s.ls t.se with
 | none => ⟨s, rp 100, []⟩
 | some x => if t.kind = 4 then changeS s t else if t.kind = 5 ∧ x.last ≠ t.no then ⟨s, rp 1, []⟩ else endS s t.se
def applyS (s : RSt) (zx : Int) (t : RT) : RSA := if zx ≤ s.zx ∨ zx > big then ⟨s, rp 1, []⟩ else stepS ⟨zx, s.t, s.ls, s.la⟩ t
theorem forg_find {l : List RLa} {id k : Int} : findA (forgA l id) k = if k = id then none else findA l k := by
 unfold findA forgA
 by_cases h : k = id
 ·rw [if_pos h, List.find?_eq_none]
  intro x hx
  have := (List.mem_filter.1 hx).2
  simp at this ⊢
  omega
 ·rw [if_neg h]
  induction l with
  | nil => rfl
  | cons x l ih =>
   by_cases h1 : x.se = id
   ·rw [List.filter_cons_of_neg (by simpa using h1), List.find?_cons_of_neg (by simp; omega)]
    exact ih
   ·rw [List.filter_cons_of_pos (by simpa using h1)]
    by_cases h2 : x.se = k
    ·rw [List.find?_cons_of_pos (by simpa using h2), List.find?_cons_of_pos (by simpa using h2)]
    ·rw [List.find?_cons_of_neg (by simpa using h2), List.find?_cons_of_neg (by simpa using h2)]
     exact ih
theorem app_find {l : List RLa} {x : RLa} {k : Int} : findA (forgA l x.se ++ [x]) k = if k = x.se then some x else findA l k := by
 have h := forg_find (l := l) (id := x.se) (k := k)
 unfold findA at h ⊢
 rw [List.find?_append, h]
 by_cases h1 : k = x.se
 ·rw [if_pos h1, if_pos h1, Option.none_or, List.find?_cons_of_pos (by simp [h1])]
 ·rw [if_neg h1, if_neg h1, List.find?_cons_of_neg (by simp; omega), List.find?_nil, Option.or_none]
structure LaOk (l : List RLa) : Prop where
 nu : ∀ x ∈ l, 1 ≤ x.nu ∧ x.nu ≤ big
 ps : ∀ x ∈ l, x.r.ps.length ≤ 1000
 nod : (l.map RLa.se).Nodup
structure WS (s : RSt) : Prop where
 zx : 0 ≤ s.zx ∧ s.zx ≤ big
 t : Wz s.t
 ls : WL s.ls
 la : LaOk s.la
theorem la_forg {l : List RLa} (h : LaOk l) (id : Int) : LaOk (forgA l id) :=
 ⟨fun x hx => h.nu x (List.mem_filter.1 hx).1, fun x hx => h.ps x (List.mem_filter.1 hx).1, h.nod.sublist ((List.filter_sublist (l := l)).map _)⟩
theorem la_put {l : List RLa} (h : LaOk l) (x : RLa) (h1 : 1 ≤ x.nu ∧ x.nu ≤ big) (h2 : x.r.ps.length ≤ 1000) : LaOk (forgA l x.se ++ [x]) := by
 have hf := la_forg h x.se
 refine ⟨fun y hy => ?_, fun y hy => ?_, ?_⟩
 ·rcases List.mem_append.1 hy with hy | hy
  ·exact hf.nu y hy
  ·obtain rfl := List.mem_singleton.1 hy; exact h1
 ·rcases List.mem_append.1 hy with hy | hy
  ·exact hf.ps y hy
  ·obtain rfl := List.mem_singleton.1 hy; exact h2
 ·rw [List.map_append, List.nodup_append]
  refine ⟨hf.nod, by simp, fun a ha b hb e => ?_⟩
  obtain ⟨y, hy, rfl⟩ := List.mem_map.1 ha
  have := (List.mem_filter.1 hy).2
  simp at this hb
  omega
theorem ws_new : WS newSt := ⟨⟨by decide, by decide⟩, wz_new, wl_nil, ⟨by simp [newSt], by simp [newSt], by simp [newSt]⟩⟩
theorem run_lensS {zx se : Int} : ∀ (l : List RC) (a : RAns), (runZ zx se l a).ps.length ≤ a.ps.length + l.length
 | [], a => by simp [runZ]
 | c :: l, a => by
  unfold runZ
  split
  ·have h1 := run_lensS (zx := zx) (se := se) l ⟨(oneZ a.t zx se c).t, a.ps ++ [(oneZ a.t zx se c).path], a.ev ++ (oneZ a.t zx se c).ev, 0⟩
   simp only [List.length_append, List.length_cons, List.length_nil] at h1 ⊢
   omega
  ·simp
theorem do_psS (T : List RZ) (zx se : Int) (l : List RC) : (doZ T zx se l).ps.length ≤ l.length := by
 unfold doZ
 split
 ·split
  ·have := run_lensS (zx := zx) (se := se) l ⟨T, [], [], 0⟩
   simpa using this
  ·simp
 ·simp
theorem ws_end {s : RSt} (h : WS s) (id : Int) : WS (endS s id).s := ⟨h.zx, wz_end h.t _ _, wl_close h.ls id, la_forg h.la id⟩
theorem ws_change {s : RSt} (h : WS s) (t : RT) : WS (changeS s t).s := by
 unfold changeS
 split
 ·exact h
 ·next h1 =>
  split
  ·exact h
  ·have h1 : ¬ (t.nu < 1 ∨ t.nu > big ∨ t.nu < (findS s t.se).nu ∨ t.l.length > 6) := fun hh => h1 (decide_eq_true hh)
   exact ⟨h.zx, wz_do h.t _ _ _, h.ls, la_put h.la ⟨t.se, t.nu, _⟩ ⟨by show 1 ≤ t.nu; omega, by show t.nu ≤ big; omega⟩ (by have := do_psS s.t s.zx t.se t.l; show (doZ s.t s.zx t.se t.l).ps.length ≤ 1000; omega)⟩
theorem ws_step {s : RSt} (h : WS s) (t : RT) : WS (stepS s t).s := by
 unfold stepS
 split
 ·exact ⟨h.zx, h.t, wl_open h.ls _, h.la⟩
 split
 ·exact ⟨h.zx, h.t, wl_renew h.ls _ _, h.la⟩
 split
 ·exact h
 split
 ·exact h
 split
 ·exact ws_change h t
 split
 ·exact h
 ·exact ws_end h _
theorem ws_apply {s : RSt} (h : WS s) (zx : Int) (t : RT) : WS (applyS s zx t).s := by
 unfold applyS
 split
 ·exact h
 ·have h0 := h.zx
  have h1 : 0 ≤ zx ∧ zx ≤ big := by omega
  exact ws_step (s := ⟨zx, s.t, s.ls, s.la⟩) ⟨h1, h.t, h.ls, h.la⟩ t
end Go.Proofs.YtalfffamppmooaaGreatDoor
namespace Go.Proofs.YtalfffamppmooaaGreatDoor
def seenS (s : RSt) : RSt := ⟨s.zx, s.t, s.ls, s.ls.filterMap fun x => findA s.la x.id⟩
theorem findA_se {l : List RLa} {id : Int} {x : RLa} (h : findA l id = some x) : x ∈ l ∧ x.se = id := ⟨List.mem_of_find?_eq_some h, by simpa using List.find?_some h⟩
theorem seen_none {la : List RLa} {ls : List RL} {id : Int} (h : ∀ y ∈ ls, y.id ≠ id) : findA (ls.filterMap fun x => findA la x.id) id = none := by
 unfold findA
 rw [List.find?_eq_none]
 intro x hx
 obtain ⟨y, hy, he⟩ := List.mem_filterMap.1 hx
 have := (findA_se he).2
 have := h y hy
 simp; omega
theorem seen_at {la : List RLa} : ∀ {ls : List RL}, SrtL ls → ∀ x ∈ ls, findA (ls.filterMap fun x => findA la x.id) x.id = findA la x.id
 | [], _, x, hx => by cases hx
 | y :: l, h, x, hx => by
  obtain ⟨h1, h2⟩ := List.pairwise_cons.1 h
  rcases List.mem_cons.1 hx with rfl | hx
  ·cases hf : findA la x.id with
   | none =>
    rw [List.filterMap_cons_none (f := fun x : RL => findA la x.id) hf]
    exact seen_none fun z hz => by have := h1 z hz; omega
   | some a =>
    rw [List.filterMap_cons_some (f := fun x : RL => findA la x.id) hf]
    unfold findA
    rw [List.find?_cons_of_pos (by simpa using (findA_se hf).2)]
  ·have hlt := h1 x hx
   have ih := seen_at (la := la) h2 x hx
   cases hf : findA la y.id with
   | none => rw [List.filterMap_cons_none (f := fun x : RL => findA la x.id) hf]; exact ih
   | some a =>
    rw [List.filterMap_cons_some (f := fun x : RL => findA la x.id) hf]
    have := (findA_se hf).2
    unfold findA at ih ⊢
    rw [List.find?_cons_of_neg (by simp; omega)]
    exact ih
theorem seen_find {s : RSt} (h : WS s) {x : RL} (hx : x ∈ s.ls) : findS (seenS s) x.id = findS s x.id := by
 unfold findS
 rw [show (seenS s).la = s.ls.filterMap fun x => findA s.la x.id from rfl, seen_at h.ls.srt x hx]
theorem stale (s : RSt) {zx : Int} (h : zx ≤ s.zx) (t : RT) : applyS s zx t = ⟨s, rp 1, []⟩ := by
 unfold applyS
 rw [if_pos (.inl h)]
end Go.Proofs.YtalfffamppmooaaGreatDoor
namespace Go.Proofs.YtalfffamppmooaaGreatDoor
open Go.RowKit
theorem root_least {s : ByteArray} (hv : validZ s = true) (hs : s ≠ rootS) : ltS rootS s = true := by
 obtain ⟨r, h⟩ := isP_of hv hs
 rw [ltS_iff, h.bytes]
 exact lt_app [47] fun e => hs (data_inj (by rw [h.bytes, e]; rfl))
theorem rg_of {z : RZ} (hd : z.data.size ≤ 1024) (h : (inZ z.cr && inZ z.ch && inZ z.ci && inZ z.ve && inZ z.ki && inZ z.ow && inZ z.nx) = true) : RgZ z := by
 simp only [Bool.and_eq_true] at h
 obtain ⟨⟨⟨⟨⟨⟨h1, h2⟩, h3⟩, h4⟩, h5⟩, h6⟩, h7⟩ := h
 exact ⟨hd, in_iff.1 h1, in_iff.1 h2, in_iff.1 h3, in_iff.1 h4, in_iff.1 h5, in_iff.1 h6, in_iff.1 h7⟩
theorem rg_in {z : RZ} (h : RgZ z) : (inZ z.cr && inZ z.ch && inZ z.ci && inZ z.ve && inZ z.ki && inZ z.ow && inZ z.nx) = true := by
 rw [in_iff.2 h.cr, in_iff.2 h.ch, in_iff.2 h.ci, in_iff.2 h.ve, in_iff.2 h.ki, in_iff.2 h.ow, in_iff.2 h.nx]; rfl
structure RtOk (pre : List RZ) (last : ByteArray) (z : RZ) : Prop where
 valid : validZ z.path = true
 lt : pre ≠ [] → ltS last z.path = true
 up : (parentZ z.path).2 = true → ∃ p, getZ pre (parentZ z.path).1 = some p ∧ p.ow = 0
 top : (parentZ z.path).2 = false → z.ow = 0
 rg : RgZ z
theorem right_iff {pre : List RZ} {last : ByteArray} {z : RZ} : rightE pre last z = 0 ↔ RtOk pre last z := by
 constructor
 ·intro h
  unfold rightE at h
  split at h
  ·cases h
  next h1 =>
  split at h
  ·cases h
  next h2 =>
  split at h
  ·cases h
  next h3 =>
  split at h
  ·cases h
  next h4 =>
  split at h
  ·cases h
  next h5 =>
  split at h
  next h6 =>
   refine ⟨by simpa using h1, fun hp => ?_, fun hu => ?_, fun hu => ?_, rg_of (by omega) h6⟩
   ·cases e : ltS last z.path with
    | true => rfl
    | false => exact absurd ⟨hp, e⟩ h2
   ·cases e : getZ pre (parentZ z.path).1 with
    | none => exact absurd ⟨hu, by rw [e]; rfl⟩ h3
    | some p =>
     refine ⟨p, rfl, ?_⟩
     rw [e] at h4
     exact Classical.byContradiction fun hc => h4 (.inl ⟨hu, hc⟩)
   ·exact Classical.byContradiction fun hc => h4 (.inr ⟨hu, hc⟩)
  ·cases h
 ·intro h
  unfold rightE
  rw [if_neg (by simp [h.valid]), if_neg (fun hc => by rw [h.lt hc.1] at hc; cases hc.2), if_neg (fun hc => by
   obtain ⟨p, hp, -⟩ := h.up hc.1
   rw [hp] at hc; cases hc.2), if_neg (fun hc => by
   rcases hc with ⟨h1, h2⟩ | ⟨h1, h2⟩
   ·obtain ⟨p, hp, h3⟩ := h.up h1
    rw [hp] at h2; exact h2 h3
   ·exact h2 (h.top h1)), if_neg (by have := h.rg.data; omega), if_pos (rg_in h.rg)]
theorem wz_snoc {pre : List RZ} {y z : RZ} (h : Wz (pre ++ [y])) (hr : RtOk (pre ++ [y]) y.path z) (hl : (pre ++ [y]).length < 200) : Wz (pre ++ [y] ++ [z]) := by
 have hlt : ∀ x ∈ pre ++ [y], ltS x.path z.path = true := fun x hx => by
  have h1 := hr.lt (by simp)
  rcases List.mem_append.1 hx with hx | hx
  ·exact ltS_trans ((List.pairwise_append.1 h.srt).2.2 x hx y (by simp)) h1
  ·rw [List.mem_singleton.1 hx]; exact h1
 refine ⟨List.pairwise_append.2 ⟨h.srt, List.pairwise_singleton _ _, fun x hx w hw => by rw [List.mem_singleton.1 hw]; exact hlt x hx⟩, by rw [List.length_append]; simp at hl ⊢; omega, ?_, fun x hx => ?_, fun x hx => ?_, fun x hx hp => ?_⟩
 ·obtain ⟨r, h1, h2⟩ := h.root
  exact ⟨r, List.mem_append.2 (.inl h1), h2⟩
 ·rcases List.mem_append.1 hx with hx | hx
  ·exact h.valid x hx
  ·rw [List.mem_singleton.1 hx]; exact hr.valid
 ·rcases List.mem_append.1 hx with hx | hx
  ·exact h.rg x hx
  ·rw [List.mem_singleton.1 hx]; exact hr.rg
 ·rcases List.mem_append.1 hx with hx | hx
  ·obtain ⟨q, h1, h2⟩ := h.up x hx hp
   exact ⟨q, List.mem_append.2 (.inl h1), h2⟩
  ·rw [List.mem_singleton.1 hx] at hp ⊢
   obtain ⟨q, h1, h2⟩ := hr.up hp
   obtain ⟨h3, h4⟩ := get_mem h1
   exact ⟨q, List.mem_append.2 (.inl h3), h4, h2⟩
theorem wz_chkL : ∀ (l pre : List RZ) (y : RZ), Wz (pre ++ [y]) → (pre ++ [y]).length + l.length ≤ 200 → chkL (pre ++ [y]) y.path l = 0 → Wz (pre ++ [y] ++ l)
 | [], pre, y, h, _, _ => by rw [List.append_nil]; exact h
 | z :: l, pre, y, h, hl, hc => by
  unfold chkL at hc
  split at hc
  ·next h1 =>
   have := wz_chkL l (pre ++ [y]) z (wz_snoc h (right_iff.1 h1) (by rw [List.length_cons] at hl; omega)) (by simp at hl ⊢; omega) hc
   simpa using this
  ·next h1 => exact absurd hc h1
theorem wz_of_check {T : List RZ} (h : checkZ T = 0) : Wz T := by
 unfold checkZ at h
 split at h
 ·cases h
 ·next z l =>
  split at h
  ·cases h
  next h1 =>
  split at h
  ·cases h
  next h2 =>
  have h1 : z.path = rootS := Classical.byContradiction h1
  unfold chkL at h
  split at h
  ·next h3 =>
   have hr := right_iff.1 h3
   have hw : Wz ([] ++ [z]) := by
    refine ⟨List.pairwise_singleton _ _, by simp, ⟨z, by simp, h1, hr.top (by rw [h1, parent_root])⟩, fun x hx => ?_, fun x hx => ?_, fun x hx hp => ?_⟩ <;> obtain rfl := List.mem_singleton.1 hx
    ·exact hr.valid
    ·exact hr.rg
    ·rw [h1, parent_root] at hp; cases hp
   have := wz_chkL l [] z hw (by simp at h2 ⊢; omega) h
   simpa using this
  ·next h3 => exact absurd h h3
theorem right_of {pre l : List RZ} {z : RZ} {last : ByteArray} (h : Wz (pre ++ z :: l)) (hl : ∀ y ∈ pre.getLast?, y.path = last) : RtOk pre last z := by
 have hz : z ∈ pre ++ z :: l := by simp
 obtain ⟨h1, h2, h3⟩ := List.pairwise_append.1 h.srt
 refine ⟨h.valid z hz, fun hp => ?_, fun hu => ?_, fun hu => ?_, h.rg z hz⟩
 ·have := hl (pre.getLast hp) (by rw [List.getLast?_eq_some_getLast hp]; rfl)
  rw [← this]
  exact h3 _ (List.getLast_mem hp) z (by simp)
 ·obtain ⟨p, k1, k2, k3⟩ := h.up z hz hu
  refine ⟨p, (get_iff h1).2 ⟨?_, k2⟩, k3⟩
  have hlt : ltS p.path z.path = true := by rw [k2]; exact parent_lt hu
  rcases List.mem_append.1 k1 with k | k
  ·exact k
  ·exfalso
   rcases List.mem_cons.1 k with rfl | k
   ·rw [ltS_irrefl] at hlt; cases hlt
   ·rw [ltS_asymm ((List.pairwise_cons.1 h2).1 p k)] at hlt; cases hlt
 ·have e : z.path = rootS := Classical.byContradiction fun hc => by
   rw [(parent_yes (h.valid z hz) hc).1] at hu; cases hu
  obtain ⟨r, k1, k2, k3⟩ := h.root
  rw [srt_inj h.srt hz k1 (e.trans k2.symm)]; exact k3
theorem chkL_of : ∀ (l pre : List RZ) (last : ByteArray), Wz (pre ++ l) → (∀ y ∈ pre.getLast?, y.path = last) → chkL pre last l = 0
 | [], _, _, _, _ => rfl
 | z :: l, pre, last, h, hl => by
  unfold chkL
  rw [if_pos (right_iff.2 (right_of h hl))]
  exact chkL_of l _ _ (by rw [List.append_assoc]; exact h) (by simp)
theorem wz_head {T : List RZ} (h : Wz T) : ∃ z l, T = z :: l ∧ z.path = rootS := by
 obtain ⟨r, h1, h2, -⟩ := h.root
 match T, h, h1 with
 | z :: l, h, h1 =>
  refine ⟨z, l, rfl, Classical.byContradiction fun hc => ?_⟩
  have k := root_least (h.valid z (by simp)) hc
  rcases List.mem_cons.1 h1 with e | h1
  ·exact hc (e ▸ h2)
  ·have := (List.pairwise_cons.1 h.srt).1 r h1
   rw [h2, ltS_asymm k] at this; cases this
theorem check_of_wz {T : List RZ} (h : Wz T) : checkZ T = 0 := by
 obtain ⟨z, l, rfl, e⟩ := wz_head h
 have := h.len
 unfold checkZ
 dsimp only
 rw [if_neg (by rw [e]; simp), if_neg (by omega)]
 exact chkL_of _ [] noS h (by simp)
end Go.Proofs.YtalfffamppmooaaGreatDoor
namespace Go.Proofs.YtalfffamppmooaaGreatDoor
open Go.RowKit
def enZ (z : RZ) : List G := [.v (.string z.path), .v (.string z.data), .v (.int .i64 z.cr), .v (.int .i64 z.ch), .v (.int .i64 z.ci), .v (.int .i64 z.ve), .v (.int .i64 z.ki), .v (.int .i64 z.ow), .v (.int .i64 z.nx)]
def gz (z : RZ) : G := .agg (enZ z)
def enC (c : RC) : List G := [.v (.int .i64 c.kind), .v (.string c.path), .v (.string c.data), .v (.int .i64 c.ve), .v (.bool c.ep), .v (.bool c.sq)]
def enE (x : RE) : List G := [.v (.int .i64 x.se), .v (.int .i64 x.ki), .v (.string x.path)]
def enS (s : RStep) : List G := [.sl (s.t.map enZ), .v (.string s.path), .sl (s.ev.map enE), .v (.int .i64 s.e)]
abbrev Mp := List (ByteArray × G)
structure TM (l : Mp) (T : List RZ) : Prop where
 nod : (l.map (·.1)).Nodup
 get : ∀ p, aget l p = (getZ T p).map gz
theorem TM.put {l : Mp} {T : List RZ} (h : TM l T) (hs : Srt T) (z : RZ) : TM (aput l z.path (gz z)) (putZ T z) :=
 ⟨nodup_put h.nod _ _, fun p => by
  rw [aget_put, get_put hs, h.get]
  split <;> rfl⟩
theorem TM.del {l : Mp} {T : List RZ} (h : TM l T) (hs : Srt T) (q : ByteArray) : TM (adel l q) (delZ T q) :=
 ⟨nodup_del h.nod _, fun p => by
  rw [aget_del, get_del hs, h.get]
  split <;> rfl⟩
theorem TM.keys {l : Mp} {T : List RZ} (h : TM l T) (hs : Srt T) : (l.map (·.1)).Perm (T.map RZ.path) := by
 refine (List.perm_ext_iff_of_nodup h.nod (srt_nodup hs)).2 fun p => ?_
 constructor
 ·intro hp
  obtain ⟨⟨q, g⟩, hq, rfl⟩ := List.mem_map.1 hp
  have := aget_of_mem h.nod hq
  rw [h.get] at this
  obtain ⟨z, hz, -⟩ := Option.map_eq_some_iff.1 this
  obtain ⟨h1, h2⟩ := get_mem hz
  exact List.mem_map.2 ⟨z, h1, h2⟩
 ·intro hp
  obtain ⟨z, hz, rfl⟩ := List.mem_map.1 hp
  have : getZ T z.path = some z := (get_iff hs).2 ⟨hz, rfl⟩
  have hg := h.get z.path
  rw [this] at hg
  exact List.mem_map.2 ⟨_, aget_mem hg, rfl⟩
theorem TM.len {l : Mp} {T : List RZ} (h : TM l T) (hs : Srt T) : l.length = T.length := by simpa using (h.keys hs).length_eq
theorem TM.mem {l : Mp} {T : List RZ} (h : TM l T) {p : ByteArray} {g : G} (hm : (p, g) ∈ l) : ∃ z, getZ T p = some z ∧ g = gz z := by
 have := aget_of_mem h.nod hm
 rw [h.get] at this
 obtain ⟨z, hz, e⟩ := Option.map_eq_some_iff.1 this
 exact ⟨z, hz, e.symm⟩
theorem tm_new : TM [(rootS, gz zRoot)] [zRoot] := ⟨by simp, fun p => by
 unfold getZ
 rw [aget_cons, List.find?_cons]
 by_cases e : rootS = p
 ·subst e; simp [zRoot]
 ·have : ¬ zRoot.path = p := e
  simp [e, this, aget]⟩
theorem tm_nil : TM [] [] := ⟨by simp, fun p => by simp [getZ, aget]⟩
end Go.Proofs.YtalfffamppmooaaGreatDoor

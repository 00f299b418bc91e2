/- A part of the proof, merged from several texts. -/
import Derived.Test.YtalfffamppmooaaGreatDoorZM1
namespace Go.Proofs.YtalfffamppmooaaGreatDoor
structure RFd where
 kind : Int
 n : Int
 s : ByteArray
abbrev Bs := List UInt8
def byI (n : Int) : UInt8 := UInt8.ofNat (n % 256).toNat
theorem byI_int (n : Int) : (((byI n).toNat : Nat) : Int) = n % 256 := by
 unfold byI
 have h1 : (n % 256).toNat < 256 := by omega
 have h2 : (UInt8.ofNat (n % 256).toNat).toNat = (n % 256).toNat := by
  rw [UInt8.toNat_ofNat']
  omega
 rw [h2]; omega
def be8 (n : Int) : Bs := [byI (n / 72057594037927936), byI (n / 281474976710656), byI (n / 1099511627776), byI (n / 4294967296), byI (n / 16777216), byI (n / 65536), byI (n / 256), byI n]
def fdE (f : RFd) : Int :=
 if f.kind = 3 then (if f.n ≠ 0 then 21 else if f.s.size > 1024 then 22 else 0)
 else if f.s ≠ ⟨#[]⟩ ∨ f.n < 0 then 21
 else if f.kind = 1 ∧ f.n ≤ 255 then 0 else if f.kind = 4 ∧ f.n ≤ 1 then 0 else if f.kind = 2 ∧ f.n ≤ big then 0 else 21
def fdB (f : RFd) : Bs := if f.kind = 3 then byI ((f.s.size : Int) / 256) :: byI f.s.size :: f.s.data.toList else if f.kind = 2 then be8 f.n else [byI f.n]
def encE : List RFd → Int
 | [] => 0
 | f :: l => if fdE f = 0 then encE l else fdE f
def encB (l : List RFd) : Bs := l.flatMap fdB
end Go.Proofs.YtalfffamppmooaaGreatDoor
namespace Go.Proofs.YtalfffamppmooaaGreatDoor
def szN (k : Int) : Nat := if k = 1 ∨ k = 4 then 1 else if k = 2 then 8 else if k = 3 then 2 else 0
def numB (b : Bs) : Nat := b.foldl (fun v x => v * 256 + x.toNat) 0
def nxV (k : Int) (b : Bs) : Nat := numB (b.take (szN k))
def nxE (k : Int) (b : Bs) : Int :=
 if ¬ (1 ≤ k ∧ k ≤ 4) then 21 else if b.length < szN k then 20
 else if (k = 2 ∧ big < nxV k b) ∨ (k = 4 ∧ 1 < nxV k b) then 21
 else if k ≠ 3 then 0 else if 1024 < nxV k b then 22 else if b.length < 2 + nxV k b then 20 else 0
def nxF (k : Int) (b : Bs) : RFd := if k = 3 then ⟨3, 0, ⟨((b.drop 2).take (nxV k b)).toArray⟩⟩ else ⟨k, nxV k b, ⟨#[]⟩⟩
def nxN (k : Int) (b : Bs) : Nat := if k = 3 then 2 + nxV k b else szN k
def fd0 : RFd := ⟨0, 0, ⟨#[]⟩⟩
structure Sm where
 e : Int
 l : List RFd
 n : Nat
def somR : List Int → Bs → Sm
 | [], _ => ⟨0, [], 0⟩
 | k :: ks, b => if nxE k b ≠ 0 then ⟨nxE k b, [], 0⟩ else
  if (somR ks (b.drop (nxN k b))).e ≠ 0 then ⟨(somR ks (b.drop (nxN k b))).e, [], 0⟩
  else ⟨0, nxF k b :: (somR ks (b.drop (nxN k b))).l, nxN k b + (somR ks (b.drop (nxN k b))).n⟩
theorem somR_cons (k : Int) (ks : List Int) (b : Bs) : somR (k :: ks) b = if nxE k b ≠ 0 then ⟨nxE k b, [], 0⟩ else
  if (somR ks (b.drop (nxN k b))).e ≠ 0 then ⟨(somR ks (b.drop (nxN k b))).e, [], 0⟩
  else ⟨0, nxF k b :: (somR ks (b.drop (nxN k b))).l, nxN k b + (somR ks (b.drop (nxN k b))).n⟩ := rfl
theorem numB_snoc (b : Bs) (x : UInt8) : numB (b ++ [x]) = numB b * 256 + x.toNat := by unfold numB; rw [List.foldl_append]; rfl
theorem numB_lt (b : Bs) : numB b < 256 ^ b.length := by
 have key : ∀ (b : Bs) (v : Nat) (m : Nat), v < m → b.foldl (fun v x => v * 256 + x.toNat) v < m * 256 ^ b.length := by
  intro b
  induction b with
  | nil => intro v m h; simpa using h
  | cons x b ih =>
   intro v m h
   have hx := x.toNat_lt
   have := ih (v * 256 + x.toNat) (m * 256) (by omega)
   rw [List.foldl_cons, List.length_cons, Nat.pow_succ']
   rwa [← Nat.mul_assoc]
 have := key b 0 1 (by omega)
 unfold numB
 simpa using this
theorem szN_le (k : Int) : szN k ≤ 8 := by unfold szN; split <;> (try split) <;> (try split) <;> omega
theorem szN_pos {k : Int} (h : 1 ≤ k ∧ k ≤ 4) : 1 ≤ szN k := by
 unfold szN
 split
 ·omega
 ·split
  ·omega
  ·split <;> omega
theorem nxE_le {k : Int} {b : Bs} (h : nxE k b = 0) : nxN k b ≤ b.length ∧ 1 ≤ nxN k b := by
 unfold nxE at h
 split at h
 ·cases h
 next h1 =>
 have h1 : 1 ≤ k ∧ k ≤ 4 := Decidable.not_not.1 h1
 split at h
 ·cases h
 next h2 =>
 split at h
 ·cases h
 unfold nxN
 by_cases h3 : k = 3
 ·rw [if_pos h3]
  rw [if_neg (by simp [h3])] at h
  split at h
  ·cases h
  split at h
  ·cases h
  omega
 ·rw [if_neg h3]
  have := szN_pos h1
  omega
theorem somR_le : ∀ (ks : List Int) (b : Bs), (somR ks b).n ≤ b.length ∧ ((somR ks b).e = 0 → (somR ks b).l.length = ks.length)
 | [], b => ⟨Nat.zero_le _, fun _ => rfl⟩
 | k :: ks, b => by
  have ih := somR_le ks (b.drop (nxN k b))
  unfold somR
  split
  ·next h => exact ⟨Nat.zero_le _, fun h0 => absurd h0 h⟩
  ·next h =>
   have h := nxE_le (Decidable.not_not.1 h)
   split
   ·next h2 => exact ⟨Nat.zero_le _, fun h0 => absurd h0 h2⟩
   ·next h2 =>
    have h2 := Decidable.not_not.1 h2
    have i1 := ih.1
    rw [List.length_drop] at i1
    exact ⟨by simp only; omega, fun _ => by simp [ih.2 h2]⟩
theorem somR_snoc : ∀ (ks : List Int) (b : Bs) (k : Int), (somR ks b).e = 0 → somR (ks ++ [k]) b = if nxE k (b.drop (somR ks b).n) ≠ 0 then ⟨nxE k (b.drop (somR ks b).n), [], 0⟩ else ⟨0, (somR ks b).l ++ [nxF k (b.drop (somR ks b).n)], (somR ks b).n + nxN k (b.drop (somR ks b).n)⟩
 | [], b, k, _ => by
  show somR [k] b = if nxE k (b.drop 0) ≠ 0 then ⟨nxE k (b.drop 0), [], 0⟩ else ⟨0, [] ++ [nxF k (b.drop 0)], 0 + nxN k (b.drop 0)⟩
  rw [List.drop_zero]
  unfold somR
  by_cases h : nxE k b ≠ 0
  ·rw [if_pos h, if_pos h]
  ·rw [if_neg h, if_neg h, if_neg (fun h => h rfl)]
   simp [somR]
 | j :: ks, b, k, h => by
  by_cases h1 : nxE j b ≠ 0
  ·unfold somR at h; rw [if_pos h1] at h; exact absurd h h1
  ·by_cases h2 : (somR ks (b.drop (nxN j b))).e ≠ 0
   ·unfold somR at h; rw [if_neg h1, if_pos h2] at h; exact absurd h h2
   ·have h2 := Decidable.not_not.1 h2
    have ih := somR_snoc ks (b.drop (nxN j b)) k h2
    have e : somR (j :: ks) b = ⟨0, nxF j b :: (somR ks (b.drop (nxN j b))).l, nxN j b + (somR ks (b.drop (nxN j b))).n⟩ := by
     conv => lhs; unfold somR
     rw [if_neg h1, if_neg (fun h => h h2)]
    rw [e]
    show somR (j :: (ks ++ [k])) b = _
    conv => lhs; unfold somR
    rw [if_neg h1, ih, List.drop_drop]
    by_cases h3 : nxE k (b.drop (nxN j b + (somR ks (b.drop (nxN j b))).n)) ≠ 0
    ·rw [if_pos h3, if_pos h3]; simp only; rw [if_pos h3]
    ·rw [if_neg h3, if_neg h3]; simp [Nat.add_assoc]
theorem somR_err : ∀ (ks : List Int) (b : Bs) (i : Nat) (k : Int), ks[i]? = some k → (somR (ks.take i) b).e = 0 → nxE k (b.drop (somR (ks.take i) b).n) ≠ 0 → somR ks b = ⟨nxE k (b.drop (somR (ks.take i) b).n), [], 0⟩
 | [], b, i, k, h, _, _ => by simp at h
 | j :: ks, b, 0, k, h, _, h2 => by
  simp at h
  subst h
  have h2 : nxE j (b.drop 0) ≠ 0 := h2
  show somR (j :: ks) b = ⟨nxE j (b.drop 0), [], 0⟩
  rw [List.drop_zero] at h2 ⊢
  unfold somR
  rw [if_pos h2]
 | j :: ks, b, i + 1, k, h, h1, h2 => by
  have h : ks[i]? = some k := by simpa using h
  rw [List.take_succ_cons] at h1 h2 ⊢
  by_cases g1 : nxE j b ≠ 0
  ·unfold somR at h1; rw [if_pos g1] at h1; exact absurd h1 g1
  ·by_cases g2 : (somR (ks.take i) (b.drop (nxN j b))).e ≠ 0
   ·unfold somR at h1; rw [if_neg g1, if_pos g2] at h1; exact absurd h1 g2
   ·have g2 := Decidable.not_not.1 g2
    have e : (somR (j :: ks.take i) b).n = nxN j b + (somR (ks.take i) (b.drop (nxN j b))).n := by
     rw [somR_cons, if_neg g1, if_neg (fun h => h g2)]
    rw [e, ← List.drop_drop] at h2 ⊢
    have ih := somR_err ks (b.drop (nxN j b)) i k h g2 h2
    conv => lhs; unfold somR
    rw [if_neg g1, ih, if_pos h2]
def decR (ks : List Int) (b : Bs) : Sm := if (somR ks b).e ≠ 0 then ⟨(somR ks b).e, [], 0⟩ else if (somR ks b).n ≠ b.length then ⟨21, [], 0⟩ else somR ks b
end Go.Proofs.YtalfffamppmooaaGreatDoor
namespace Go.Proofs.YtalfffamppmooaaGreatDoor
def eS : ByteArray := ⟨#[]⟩
def bI (b : Bool) : Int := if b then 1 else 0
def chF (c : RC) (v : Int) : List RFd := [⟨1, c.kind, eS⟩, ⟨3, 0, c.path⟩, ⟨3, 0, c.data⟩, ⟨2, v, eS⟩, ⟨4, bI c.ep, eS⟩, ⟨4, bI c.sq, eS⟩]
def veP (v : Int) : Int := if v < big then v + 1 else -1
def hdF (t : RT) : List RFd := [⟨1, t.kind, eS⟩, ⟨2, t.se, eS⟩, ⟨2, t.nu, eS⟩, ⟨2, t.sp, eS⟩, ⟨2, t.no, eS⟩, ⟨1, t.l.length, eS⟩]
def chsF (l : List RC) : List RFd := l.flatMap fun c => chF c (veP c.ve)
def txF (t : RT) : List RFd := hdF t ++ chsF t.l
def okT (t : RT) : Prop := t.l.length ≤ 6 ∧ encE (txF t) = 0 ∧ (encB (txF t)).length ≤ 4096
instance (t : RT) : Decidable (okT t) := inferInstanceAs (Decidable (_ ∧ _ ∧ _))
theorem encE_zero : ∀ {l : List RFd}, encE l = 0 → ∀ f ∈ l, fdE f = 0
 | [], _, f, hf => by cases hf
 | x :: l, h, f, hf => by
  unfold encE at h
  by_cases hx : fdE x = 0
  ·rw [if_pos hx] at h
   rcases List.mem_cons.1 hf with rfl | hf
   ·exact hx
   ·exact encE_zero h f hf
  ·rw [if_neg hx] at h; exact absurd h hx
end Go.Proofs.YtalfffamppmooaaGreatDoor
namespace Go.Proofs.YtalfffamppmooaaGreatDoor
def kHd : List Int := [1, 2, 2, 2, 2, 1]
def kCh : List Int := [1, 3, 3, 2, 4, 4]
def kChs : Nat → List Int
 | 0 => []
 | i + 1 => kChs i ++ kCh
def cntT (b : Bs) : Int := match (somR kHd b).l with
 | [_, _, _, _, _, f] => f.n
 | _ => 0
def okD (b : Bs) : Prop := (somR kHd b).e = 0 ∧ cntT b ≤ 6 ∧ b.length ≤ 4096 ∧ (decR (kChs (cntT b).toNat) (b.drop (somR kHd b).n)).e = 0
instance (b : Bs) : Decidable (okD b) := inferInstanceAs (Decidable (_ ∧ _ ∧ _ ∧ _))
end Go.Proofs.YtalfffamppmooaaGreatDoor
namespace Go.Proofs.YtalfffamppmooaaGreatDoor
theorem numB_one (x : UInt8) : numB [x] = x.toNat := by show 0 * 256 + x.toNat = _; omega
theorem fd_form {f : RFd} (h : fdE f = 0) : (f.kind = 3 ∧ f.n = 0 ∧ f.s.size ≤ 1024) ∨ ((f.kind = 1 ∧ f.n ≤ 255 ∨ f.kind = 4 ∧ f.n ≤ 1 ∨ f.kind = 2 ∧ f.n ≤ big) ∧ f.s = eS ∧ 0 ≤ f.n) := by
 unfold fdE at h
 by_cases hk : f.kind = 3
 ·rw [if_pos hk] at h
  by_cases h1 : f.n ≠ 0
  ·rw [if_pos h1] at h; cases h
  ·rw [if_neg h1] at h
   by_cases h2 : f.s.size > 1024
   ·rw [if_pos h2] at h; cases h
   ·exact .inl ⟨hk, Decidable.not_not.1 h1, by omega⟩
 ·rw [if_neg hk] at h
  by_cases h1 : f.s ≠ ⟨#[]⟩ ∨ f.n < 0
  ·rw [if_pos h1] at h; cases h
  ·rw [if_neg h1] at h
   have hs : f.s = eS := Decidable.not_not.1 fun hh => h1 (.inl hh)
   have hn : 0 ≤ f.n := Int.not_lt.1 fun hh => h1 (.inr hh)
   refine .inr ⟨?_, hs, hn⟩
   by_cases a1 : f.kind = 1 ∧ f.n ≤ 255
   ·exact .inl a1
   ·rw [if_neg a1] at h
    by_cases a2 : f.kind = 4 ∧ f.n ≤ 1
    ·exact .inr (.inl a2)
    ·rw [if_neg a2] at h
     by_cases a3 : f.kind = 2 ∧ f.n ≤ big
     ·exact .inr (.inr a3)
     ·rw [if_neg a3] at h; cases h
theorem szN_2 : szN 2 = 8 := rfl
theorem szN_3 : szN 3 = 2 := rfl
theorem take_len {α : Type} (a b : List α) (n : Nat) (h : a.length = n) : (a ++ b).take n = a := by
 subst h; exact List.take_left
theorem take8 {b : Bs} (h : 8 ≤ b.length) : ∃ a1 a2 a3 a4 a5 a6 a7 a8, b.take 8 = [a1, a2, a3, a4, a5, a6, a7, a8] := by
 match b, h with
 | a1 :: a2 :: a3 :: a4 :: a5 :: a6 :: a7 :: a8 :: b, _ => exact ⟨a1, a2, a3, a4, a5, a6, a7, a8, rfl⟩
theorem byI_of {x : UInt8} {n : Int} (h : n % 256 = x.toNat) : byI n = x := by
 have := byI_int n
 have h2 : (byI n).toNat = x.toNat := by omega
 exact UInt8.toNat_inj.1 h2
theorem be8_numB (a1 a2 a3 a4 a5 a6 a7 a8 : UInt8) : be8 (numB [a1, a2, a3, a4, a5, a6, a7, a8] : Nat) = [a1, a2, a3, a4, a5, a6, a7, a8] := by
 have l1 := a1.toNat_lt
 have l2 := a2.toNat_lt
 have l3 := a3.toNat_lt
 have l4 := a4.toNat_lt
 have l5 := a5.toNat_lt
 have l6 := a6.toNat_lt
 have l7 := a7.toNat_lt
 have l8 := a8.toNat_lt
 have e : numB [a1, a2, a3, a4, a5, a6, a7, a8] = (((((((0 * 256 + a1.toNat) * 256 + a2.toNat) * 256 + a3.toNat) * 256 + a4.toNat) * 256 + a5.toNat) * 256 + a6.toNat) * 256 + a7.toNat) * 256 + a8.toNat := rfl
 unfold be8
 generalize numB [a1, a2, a3, a4, a5, a6, a7, a8] = v at e
 rw [byI_of (x := a1) (by omega), byI_of (x := a2) (by omega), byI_of (x := a3) (by omega), byI_of (x := a4) (by omega), byI_of (x := a5) (by omega), byI_of (x := a6) (by omega), byI_of (x := a7) (by omega), byI_of (x := a8) (by omega)]
theorem nxF_kind (k : Int) (b : Bs) : (nxF k b).kind = k := by
 unfold nxF
 split
 ·next h => exact h.symm
 ·rfl
theorem fd_nx {k : Int} {b : Bs} (h : nxE k b = 0) : fdE (nxF k b) = 0 ∧ fdB (nxF k b) = b.take (nxN k b) := by
 have h0 := h
 unfold nxE at h
 split at h
 ·cases h
 next h1 =>
 have h1 : 1 ≤ k ∧ k ≤ 4 := Decidable.not_not.1 h1
 split at h
 ·cases h
 next h2 =>
 split at h
 ·cases h
 next hv =>
 by_cases h3 : k = 3
 ·rw [if_neg (fun hh => hh h3)] at h
  split at h
  ·cases h
  next hm =>
  split at h
  ·cases h
  next hl =>
  subst h3
  rw [szN_3] at h2
  have hsz : (((b.drop 2).take (nxV 3 b)).toArray : Array UInt8).size = nxV 3 b := by rw [List.size_toArray, List.length_take, List.length_drop]; omega
  have eF : nxF 3 b = ⟨3, 0, ⟨((b.drop 2).take (nxV 3 b)).toArray⟩⟩ := rfl
  have eN : nxN 3 b = 2 + nxV 3 b := rfl
  have hs2 : (⟨((b.drop 2).take (nxV 3 b)).toArray⟩ : ByteArray).size = nxV 3 b := hsz
  rw [eF, eN]
  constructor
  ·unfold fdE
   rw [if_pos rfl, if_neg (fun hh => hh rfl)]
   show (if (⟨((b.drop 2).take (nxV 3 b)).toArray⟩ : ByteArray).size > 1024 then (22 : Int) else 0) = 0
   rw [hs2, if_neg (by omega)]
  ·show byI (((⟨((b.drop 2).take (nxV 3 b)).toArray⟩ : ByteArray).size : Int) / 256) :: byI (⟨((b.drop 2).take (nxV 3 b)).toArray⟩ : ByteArray).size :: (b.drop 2).take (nxV 3 b) = _
   rw [hs2]
   match b, h2, hm with
   | x :: y :: b, _, hm =>
    have l1 := x.toNat_lt
    have l2 := y.toNat_lt
    have e : nxV 3 (x :: y :: b) = (0 * 256 + x.toNat) * 256 + y.toNat := rfl
    rw [show 2 + nxV 3 (x :: y :: b) = nxV 3 (x :: y :: b) + 1 + 1 by omega, List.take_succ_cons, List.take_succ_cons, byI_of (x := x) (by rw [e]; omega), byI_of (x := y) (by rw [e]; omega)]
    rfl
   | [], h2, _ => simp at h2
   | [_], h2, _ => simp at h2
 ·have eF : nxF k b = ⟨k, nxV k b, eS⟩ := by unfold nxF; rw [if_neg h3]; rfl
  have eN : nxN k b = szN k := by unfold nxN; rw [if_neg h3]
  have hlt := numB_lt (b.take (szN k))
  rw [List.length_take, Nat.min_eq_left (by omega)] at hlt
  rw [eF, eN]
  by_cases hk2 : k = 2
  ·subst hk2
   constructor
   ·unfold fdE
    rw [if_neg h3, if_neg (fun hh => hh.elim (fun hh => hh rfl) (fun hh => by simp only at hh; omega)), if_neg (by simp), if_neg (by simp), if_pos ⟨rfl, by simp only; omega⟩]
   ·show be8 (nxV 2 b : Nat) = _
    obtain ⟨a1, a2, a3, a4, a5, a6, a7, a8, e⟩ := take8 (b := b) (by rw [szN_2] at h2; omega)
    unfold nxV
    rw [szN_2, e]
    exact be8_numB a1 a2 a3 a4 a5 a6 a7 a8
  ·have hk14 : k = 1 ∨ k = 4 := by omega
   have hz : szN k = 1 := by rcases hk14 with h | h <;> (rw [h]; rfl)
   rw [hz] at hlt h2
   have hx : ∃ x, b.take 1 = [x] := by
    match b, h2 with
    | x :: b, _ => exact ⟨x, rfl⟩
    | [], h2 => simp at h2
   obtain ⟨x, hx⟩ := hx
   have eV : nxV k b = x.toNat := by unfold nxV; rw [hz, hx, numB_one]
   have l1 := x.toNat_lt
   constructor
   ·unfold fdE
    rw [if_neg h3, if_neg (fun hh => hh.elim (fun hh => hh rfl) (fun hh => by simp only at hh; omega))]
    simp only
    rw [eV] at hv ⊢
    rcases hk14 with h | h
    ·rw [if_pos ⟨h, by omega⟩]
    ·rw [if_neg (by omega), if_pos ⟨h, by omega⟩]
   ·show (if k = 3 then _ else if k = 2 then _ else [byI (nxV k b : Nat)]) = _
    rw [if_neg h3, if_neg hk2, hz, hx, byI_of (x := x) (by rw [eV]; omega)]
theorem enc_som : ∀ (ks : List Int) (b : Bs), (somR ks b).e = 0 → encE (somR ks b).l = 0 ∧ encB (somR ks b).l = b.take (somR ks b).n ∧ (somR ks b).l.map RFd.kind = ks
 | [], b, _ => ⟨rfl, by simp [somR, encB], rfl⟩
 | k :: ks, b, h => by
  rw [somR_cons] at h ⊢
  by_cases h1 : nxE k b ≠ 0
  ·rw [if_pos h1] at h; exact absurd h h1
  rw [if_neg h1] at h ⊢
  by_cases h2 : (somR ks (b.drop (nxN k b))).e ≠ 0
  ·rw [if_pos h2] at h; exact absurd h h2
  rw [if_neg h2]
  obtain ⟨i1, i2, i3⟩ := enc_som ks (b.drop (nxN k b)) (Decidable.not_not.1 h2)
  obtain ⟨f1, f2⟩ := fd_nx (Decidable.not_not.1 h1)
  refine ⟨?_, ?_, ?_⟩
  ·show encE (nxF k b :: _) = 0
   unfold encE; rw [if_pos f1]; exact i1
  ·show fdB (nxF k b) ++ encB (somR ks (b.drop (nxN k b))).l = b.take (nxN k b + _)
   rw [f2, i2, List.take_add]
  ·show (nxF k b).kind :: _ = _
   rw [nxF_kind, i3]
theorem decR_ok {ks : List Int} {b : Bs} (h : (decR ks b).e = 0) : (somR ks b).e = 0 ∧ (somR ks b).n = b.length ∧ decR ks b = somR ks b := by
 unfold decR at h ⊢
 by_cases h1 : (somR ks b).e ≠ 0
 ·rw [if_pos h1] at h; exact absurd h h1
 rw [if_neg h1] at h ⊢
 by_cases h2 : (somR ks b).n ≠ b.length
 ·rw [if_pos h2] at h; cases h
 ·rw [if_neg h2]; exact ⟨Decidable.not_not.1 h1, Decidable.not_not.1 h2, rfl⟩
end Go.Proofs.YtalfffamppmooaaGreatDoor

/- A part of the proof, merged from several texts. -/
import Derived.Test.YtalfffamppmooaaGreatDoorZM1
namespace Go.Proofs.YtalfffamppmooaaGreatDoor
structure RFd where
 kind : Int
 n : Int
 s : ByteArray
abbrev Bs := List UInt8
def byI (n : Int) : UInt8 := UInt8.ofNat (n % 256).toNat
theorem byI_int (n : Int) : (((byI n).toNat : Nat) : Int) = n % 256 := by
 unfold byI
 have h1 : (n % 256).toNat < 256 := by omega
 have h2 : (UInt8.ofNat (n % 256).toNat).toNat = (n % 256).toNat := by
  rw [UInt8.toNat_ofNat']
  omega
 rw [h2]; omega
def be8 (n : Int) : Bs := [byI (n / 72057594037927936), byI (n / 281474976710656), byI (n / 1099511627776), byI (n / 4294967296), byI (n / 16777216), byI (n / 65536), byI (n / 256), byI n]
def fdE (f : RFd) : Int :=
 if f.kind = 3 then (if f.n ≠ 0 then 21 else if f.s.size > 1024 then 22 else 0)
 else if f.s ≠ ⟨#[]⟩ ∨ f.n < 0 then 21
 else if f.kind = 1 ∧ f.n ≤ 255 then 0 else if f.kind = 4 ∧ f.n ≤ 1 then 0 else if f.kind = 2 ∧ f.n ≤ big then 0 else 21
def fdB (f : RFd) : Bs := if f.kind = 3 then byI ((f.s.size : Int) / 256) :: byI f.s.size :: f.s.data.toList else if f.kind = 2 then be8 f.n else [byI f.n]
def encE : List RFd → Int
 | [] => 0
 | f :: l => if fdE f = 0 then encE l else fdE f
def encB (l : List RFd) : Bs := l.flatMap fdB
def encR (l : List RFd) : Bs := if encE l = 0 then encB l else []
theorem fdB_len {f : RFd} (h : fdE f = 0) : (fdB f).length ≤ 1026 := by
 unfold fdB
 split
 ·next hk =>
  unfold fdE at h
  rw [if_pos hk] at h
  have hs : f.s.data.toList.length = f.s.size := by rw [Array.length_toList]; rfl
  by_cases h1 : f.n ≠ 0
  ·rw [if_pos h1] at h; omega
  ·rw [if_neg h1] at h
   by_cases h2 : f.s.size > 1024
   ·rw [if_pos h2] at h; omega
   ·simp only [List.length_cons, hs]; omega
 ·split
  ·simp [be8]
  ·simp
theorem encE_at {l : List RFd} {i : Nat} {f : RFd} (hi : l[i]? = some f) (h : ∀ x ∈ l.take i, fdE x = 0) (hf : fdE f ≠ 0) : encE l = fdE f := by
 induction l generalizing i with
 | nil => simp at hi
 | cons x l ih =>
  cases i with
  | zero => simp at hi; subst hi; unfold encE; rw [if_neg hf]
  | succ i =>
   have h0 := h x (by simp)
   unfold encE
   rw [if_pos h0]
   exact ih (by simpa using hi) fun y hy => h y (by simp [hy])
theorem encE_all {l : List RFd} (h : ∀ x ∈ l, fdE x = 0) : encE l = 0 := by
 induction l with
 | nil => rfl
 | cons x l ih => unfold encE; rw [if_pos (h x (by simp))]; exact ih fun y hy => h y (by simp [hy])
theorem encB_len {l : List RFd} (h : ∀ x ∈ l, fdE x = 0) : (encB l).length ≤ 1026 * l.length := by
 induction l with
 | nil => simp [encB]
 | cons x l ih =>
  have h1 := fdB_len (h x (by simp))
  have h2 := ih fun y hy => h y (by simp [hy])
  unfold encB at *
  rw [List.flatMap_cons, List.length_append, List.length_cons]; omega
end Go.Proofs.YtalfffamppmooaaGreatDoor
namespace Go.Proofs.YtalfffamppmooaaGreatDoor
def szN (k : Int) : Nat := if k = 1 ∨ k = 4 then 1 else if k = 2 then 8 else if k = 3 then 2 else 0
def numB (b : Bs) : Nat := b.foldl (fun v x => v * 256 + x.toNat) 0
def nxV (k : Int) (b : Bs) : Nat := numB (b.take (szN k))
def nxE (k : Int) (b : Bs) : Int :=
 if ¬ (1 ≤ k ∧ k ≤ 4) then 21 else if b.length < szN k then 20
 else if (k = 2 ∧ big < nxV k b) ∨ (k = 4 ∧ 1 < nxV k b) then 21
 else if k ≠ 3 then 0 else if 1024 < nxV k b then 22 else if b.length < 2 + nxV k b then 20 else 0
def nxF (k : Int) (b : Bs) : RFd := if k = 3 then ⟨3, 0, ⟨((b.drop 2).take (nxV k b)).toArray⟩⟩ else ⟨k, nxV k b, ⟨#[]⟩⟩
def nxN (k : Int) (b : Bs) : Nat := if k = 3 then 2 + nxV k b else szN k
def fd0 : RFd := ⟨0, 0, ⟨#[]⟩⟩
structure Sm where
 e : Int
 l : List RFd
 n : Nat
def somR : List Int → Bs → Sm
 | [], _ => ⟨0, [], 0⟩
 | k :: ks, b => if nxE k b ≠ 0 then ⟨nxE k b, [], 0⟩ else
  if (somR ks (b.drop (nxN k b))).e ≠ 0 then ⟨(somR ks (b.drop (nxN k b))).e, [], 0⟩
  else ⟨0, nxF k b :: (somR ks (b.drop (nxN k b))).l, nxN k b + (somR ks (b.drop (nxN k b))).n⟩
theorem somR_cons (k : Int) (ks : List Int) (b : Bs) : somR (k :: ks) b = if nxE k b ≠ 0 then ⟨nxE k b, [], 0⟩ else
  if (somR ks (b.drop (nxN k b))).e ≠ 0 then ⟨(somR ks (b.drop (nxN k b))).e, [], 0⟩
  else ⟨0, nxF k b :: (somR ks (b.drop (nxN k b))).l, nxN k b + (somR ks (b.drop (nxN k b))).n⟩ := rfl
theorem numB_snoc (b : Bs) (x : UInt8) : numB (b ++ [x]) = numB b * 256 + x.toNat := by unfold numB; rw [List.foldl_append]; rfl
theorem numB_lt (b : Bs) : numB b < 256 ^ b.length := by
 have key : ∀ (b : Bs) (v : Nat) (m : Nat), v < m → b.foldl (fun v x => v * 256 + x.toNat) v < m * 256 ^ b.length := by
  intro b
  induction b with
  | nil => intro v m h; simpa using h
  | cons x b ih =>
   intro v m h
   have hx := x.toNat_lt
   have := ih (v * 256 + x.toNat) (m * 256) (by omega)
   rw [List.foldl_cons, List.length_cons, Nat.pow_succ']
   rwa [← Nat.mul_assoc]
 have := key b 0 1 (by omega)
 unfold numB
 simpa using this
theorem szN_le (k : Int) : szN k ≤ 8 := by unfold szN; split <;> (try split) <;> (try split) <;> omega
theorem szN_pos {k : Int} (h : 1 ≤ k ∧ k ≤ 4) : 1 ≤ szN k := by
 unfold szN
 split
 ·omega
 ·split
  ·omega
  ·split <;> omega
theorem nxE_le {k : Int} {b : Bs} (h : nxE k b = 0) : nxN k b ≤ b.length ∧ 1 ≤ nxN k b := by
 unfold nxE at h
 split at h
 ·cases h
 next h1 =>
 have h1 : 1 ≤ k ∧ k ≤ 4 := Decidable.not_not.1 h1
 split at h
 ·cases h
 next h2 =>
 split at h
 ·cases h
 unfold nxN
 by_cases h3 : k = 3
 ·rw [if_pos h3]
  rw [if_neg (by simp [h3])] at h
  split at h
  ·cases h
  split at h
  ·cases h
  omega
 ·rw [if_neg h3]
  have := szN_pos h1
  omega
theorem somR_le : ∀ (ks : List Int) (b : Bs), (somR ks b).n ≤ b.length ∧ ((somR ks b).e = 0 → (somR ks b).l.length = ks.length)
 | [], b => ⟨Nat.zero_le _, fun _ => rfl⟩
 | k :: ks, b => by
  have ih := somR_le ks (b.drop (nxN k b))
  unfold somR
  split
  ·next h => exact ⟨Nat.zero_le _, fun h0 => absurd h0 h⟩
  ·next h =>
   have h := nxE_le (Decidable.not_not.1 h)
   split
   ·next h2 => exact ⟨Nat.zero_le _, fun h0 => absurd h0 h2⟩
   ·next h2 =>
    have h2 := Decidable.not_not.1 h2
    have i1 := ih.1
    rw [List.length_drop] at i1
    exact ⟨by simp only; omega, fun _ => by simp [ih.2 h2]⟩
theorem somR_bad : ∀ (ks : List Int) (b : Bs), (somR ks b).e ≠ 0 → somR ks b = ⟨(somR ks b).e, [], 0⟩
 | [], b, h => absurd rfl h
 | k :: ks, b, h => by
  unfold somR at h ⊢
  by_cases h1 : nxE k b ≠ 0
  ·rw [if_pos h1]
  ·rw [if_neg h1] at h ⊢
   by_cases h2 : (somR ks (b.drop (nxN k b))).e ≠ 0
   ·rw [if_pos h2]
   ·rw [if_neg h2] at h; exact absurd rfl h
theorem somR_snoc : ∀ (ks : List Int) (b : Bs) (k : Int), (somR ks b).e = 0 → somR (ks ++ [k]) b = if nxE k (b.drop (somR ks b).n) ≠ 0 then ⟨nxE k (b.drop (somR ks b).n), [], 0⟩ else ⟨0, (somR ks b).l ++ [nxF k (b.drop (somR ks b).n)], (somR ks b).n + nxN k (b.drop (somR ks b).n)⟩
 | [], b, k, _ => by
  show somR [k] b = if nxE k (b.drop 0) ≠ 0 then ⟨nxE k (b.drop 0), [], 0⟩ else ⟨0, [] ++ [nxF k (b.drop 0)], 0 + nxN k (b.drop 0)⟩
  rw [List.drop_zero]
  unfold somR
  by_cases h : nxE k b ≠ 0
  ·rw [if_pos h, if_pos h]
  ·rw [if_neg h, if_neg h, if_neg (fun h => h rfl)]
   simp [somR]
 | j :: ks, b, k, h => by
  by_cases h1 : nxE j b ≠ 0
  ·unfold somR at h; rw [if_pos h1] at h; exact absurd h h1
  ·by_cases h2 : (somR ks (b.drop (nxN j b))).e ≠ 0
   ·unfold somR at h; rw [if_neg h1, if_pos h2] at h; exact absurd h h2
   ·have h2 := Decidable.not_not.1 h2
    have ih := somR_snoc ks (b.drop (nxN j b)) k h2
    have e : somR (j :: ks) b = ⟨0, nxF j b :: (somR ks (b.drop (nxN j b))).l, nxN j b + (somR ks (b.drop (nxN j b))).n⟩ := by
     conv => lhs; unfold somR
     rw [if_neg h1, if_neg (fun h => h h2)]
    rw [e]
    show somR (j :: (ks ++ [k])) b = _
    conv => lhs; unfold somR
    rw [if_neg h1, ih, List.drop_drop]
    by_cases h3 : nxE k (b.drop (nxN j b + (somR ks (b.drop (nxN j b))).n)) ≠ 0
    ·rw [if_pos h3, if_pos h3]; simp only; rw [if_pos h3]
    ·rw [if_neg h3, if_neg h3]; simp [Nat.add_assoc]
theorem somR_err : ∀ (ks : List Int) (b : Bs) (i : Nat) (k : Int), ks[i]? = some k → (somR (ks.take i) b).e = 0 → nxE k (b.drop (somR (ks.take i) b).n) ≠ 0 → somR ks b = ⟨nxE k (b.drop (somR (ks.take i) b).n), [], 0⟩
 | [], b, i, k, h, _, _ => by simp at h
 | j :: ks, b, 0, k, h, _, h2 => by
  simp at h
  subst h
  have h2 : nxE j (b.drop 0) ≠ 0 := h2
  show somR (j :: ks) b = ⟨nxE j (b.drop 0), [], 0⟩
  rw [List.drop_zero] at h2 ⊢
  unfold somR
  rw [if_pos h2]
 | j :: ks, b, i + 1, k, h, h1, h2 => by
  have h : ks[i]? = some k := by simpa using h
  rw [List.take_succ_cons] at h1 h2 ⊢
  by_cases g1 : nxE j b ≠ 0
  ·unfold somR at h1; rw [if_pos g1] at h1; exact absurd h1 g1
  ·by_cases g2 : (somR (ks.take i) (b.drop (nxN j b))).e ≠ 0
   ·unfold somR at h1; rw [if_neg g1, if_pos g2] at h1; exact absurd h1 g2
   ·have g2 := Decidable.not_not.1 g2
    have e : (somR (j :: ks.take i) b).n = nxN j b + (somR (ks.take i) (b.drop (nxN j b))).n := by
     rw [somR_cons, if_neg g1, if_neg (fun h => h g2)]
    rw [e, ← List.drop_drop] at h2 ⊢
    have ih := somR_err ks (b.drop (nxN j b)) i k h g2 h2
    conv => lhs; unfold somR
    rw [if_neg g1, ih, if_pos h2]
def decR (ks : List Int) (b : Bs) : Sm := if (somR ks b).e ≠ 0 then ⟨(somR ks b).e, [], 0⟩ else if (somR ks b).n ≠ b.length then ⟨21, [], 0⟩ else somR ks b
end Go.Proofs.YtalfffamppmooaaGreatDoor
namespace Go.Proofs.YtalfffamppmooaaGreatDoor
def eS : ByteArray := ⟨#[]⟩
def bI (b : Bool) : Int := if b then 1 else 0
def chF (c : RC) (v : Int) : List RFd := [⟨1, c.kind, eS⟩, ⟨3, 0, c.path⟩, ⟨3, 0, c.data⟩, ⟨2, v, eS⟩, ⟨4, bI c.ep, eS⟩, ⟨4, bI c.sq, eS⟩]
def veP (v : Int) : Int := if v < big then v + 1 else -1
def hdF (t : RT) : List RFd := [⟨1, t.kind, eS⟩, ⟨2, t.se, eS⟩, ⟨2, t.nu, eS⟩, ⟨2, t.sp, eS⟩, ⟨2, t.no, eS⟩, ⟨1, t.l.length, eS⟩]
def chsF (l : List RC) : List RFd := l.flatMap fun c => chF c (veP c.ve)
def txF (t : RT) : List RFd := hdF t ++ chsF t.l
def okT (t : RT) : Prop := t.l.length ≤ 6 ∧ encE (txF t) = 0 ∧ (encB (txF t)).length ≤ 4096
instance (t : RT) : Decidable (okT t) := inferInstanceAs (Decidable (_ ∧ _ ∧ _))
def eT (t : RT) : Int := if okT t then 0 else 110
def bT (t : RT) : Bs := if okT t then encB (txF t) else []
theorem chsF_snoc (l : List RC) (c : RC) : chsF (l ++ [c]) = chsF l ++ chF c (veP c.ve) := by unfold chsF; rw [List.flatMap_append]; simp
theorem chsF_len (l : List RC) : (chsF l).length = 6 * l.length := by
 induction l with
 | nil => rfl
 | cons c l ih => unfold chsF at *; rw [List.flatMap_cons, List.length_append, List.length_cons, ih]; show 6 + _ = _; omega
theorem txF_len (t : RT) : (txF t).length = 6 + 6 * t.l.length := by unfold txF; rw [List.length_append, chsF_len]; rfl
theorem encE_zero : ∀ {l : List RFd}, encE l = 0 → ∀ f ∈ l, fdE f = 0
 | [], _, f, hf => by cases hf
 | x :: l, h, f, hf => by
  unfold encE at h
  by_cases hx : fdE x = 0
  ·rw [if_pos hx] at h
   rcases List.mem_cons.1 hf with rfl | hf
   ·exact hx
   ·exact encE_zero h f hf
  ·rw [if_neg hx] at h; exact absurd h hx
theorem okT_ve {t : RT} (h : okT t) : ∀ c ∈ t.l, -1 ≤ c.ve ∧ c.ve < big := fun c hc => by
 have := encE_zero h.2.1 ⟨2, veP c.ve, eS⟩ (by
  unfold txF
  refine List.mem_append.2 (.inr (List.mem_flatMap.2 ⟨c, hc, by unfold chF; simp⟩)))
 unfold fdE at this
 rw [if_neg (show ¬ (2 : Int) = 3 by decide)] at this
 have h0 : ¬ (veP c.ve < 0) := fun h => by rw [if_pos (.inr (show veP c.ve < 0 from h))] at this; cases this
 unfold veP at h0
 by_cases hb : c.ve < big
 ·rw [if_pos hb] at h0; exact ⟨by omega, hb⟩
 ·rw [if_neg hb] at h0; exact absurd (by decide) h0
end Go.Proofs.YtalfffamppmooaaGreatDoor
namespace Go.Proofs.YtalfffamppmooaaGreatDoor
theorem somR_app : ∀ (ks ls : List Int) (b : Bs), (somR ks b).e = 0 → somR (ks ++ ls) b = if (somR ls (b.drop (somR ks b).n)).e ≠ 0 then ⟨(somR ls (b.drop (somR ks b).n)).e, [], 0⟩ else ⟨0, (somR ks b).l ++ (somR ls (b.drop (somR ks b).n)).l, (somR ks b).n + (somR ls (b.drop (somR ks b).n)).n⟩
 | [], ls, b, _ => by
  show somR ls b = if (somR ls (b.drop 0)).e ≠ 0 then ⟨(somR ls (b.drop 0)).e, [], 0⟩ else ⟨0, [] ++ (somR ls (b.drop 0)).l, 0 + (somR ls (b.drop 0)).n⟩
  rw [List.drop_zero]
  by_cases h : (somR ls b).e ≠ 0
  ·rw [if_pos h]; exact somR_bad ls b h
  ·have h0 := Decidable.not_not.1 h
   rw [if_neg h, List.nil_append, Nat.zero_add]
   conv => rhs; rw [← h0]
 | k :: ks, ls, b, h => by
  rw [somR_cons] at h
  by_cases h1 : nxE k b ≠ 0
  ·rw [if_pos h1] at h; exact absurd h h1
  rw [if_neg h1] at h
  by_cases h2 : (somR ks (b.drop (nxN k b))).e ≠ 0
  ·rw [if_pos h2] at h; exact absurd h h2
  have h2' := Decidable.not_not.1 h2
  have ih := somR_app ks ls (b.drop (nxN k b)) h2'
  have e : somR (k :: ks) b = ⟨0, nxF k b :: (somR ks (b.drop (nxN k b))).l, nxN k b + (somR ks (b.drop (nxN k b))).n⟩ := by rw [somR_cons, if_neg h1, if_neg h2]
  rw [List.cons_append, e, somR_cons, if_neg h1, ih, List.drop_drop]
  by_cases h3 : (somR ls (b.drop (nxN k b + (somR ks (b.drop (nxN k b))).n))).e ≠ 0
  ·rw [if_pos h3, if_pos h3, if_pos h3]
  ·rw [if_neg h3, if_neg h3, if_neg (fun h => h rfl)]
   simp [Nat.add_assoc]
theorem somR_app_bad : ∀ (ks ls : List Int) (b : Bs), (somR ks b).e ≠ 0 → somR (ks ++ ls) b = ⟨(somR ks b).e, [], 0⟩
 | [], ls, b, h => absurd rfl h
 | k :: ks, ls, b, h => by
  rw [List.cons_append, somR_cons, somR_cons]
  by_cases h1 : nxE k b ≠ 0
  ·rw [if_pos h1, if_pos h1]
  rw [somR_cons, if_neg h1] at h
  by_cases h2 : (somR ks (b.drop (nxN k b))).e ≠ 0
  ·have ih := somR_app_bad ks ls (b.drop (nxN k b)) h2
   rw [if_neg h1, if_neg h1, if_pos h2, ih, if_pos h2]
  ·rw [if_neg h2] at h; exact absurd rfl h
def kHd : List Int := [1, 2, 2, 2, 2, 1]
def kCh : List Int := [1, 3, 3, 2, 4, 4]
def kChs : Nat → List Int
 | 0 => []
 | i + 1 => kChs i ++ kCh
theorem kChs_len (i : Nat) : (kChs i).length = 6 * i := by
 induction i with
 | zero => rfl
 | succ i ih => rw [kChs, List.length_append, ih]; show 6 * i + 6 = _; omega
theorem kChs_add (i j : Nat) : kChs (i + j) = kChs i ++ kChs j := by
 induction j with
 | zero => simp [kChs]
 | succ j ih => rw [← Nat.add_assoc, kChs, kChs, ih, List.append_assoc]
def toC : List RFd → List RC
 | a :: b :: c :: d :: e :: f :: l => ⟨a.n, b.s, c.s, d.n - 1, decide (e.n = 1), decide (f.n = 1)⟩ :: toC l
 | _ => []
theorem toC_app : ∀ (k : Nat) (l m : List RFd), l.length = 6 * k → toC (l ++ m) = toC l ++ toC m
 | 0, l, m, h => by
  have : l = [] := List.eq_nil_of_length_eq_zero (by omega)
  subst this; rfl
 | k + 1, l, m, h => by
  match l, h with
  | a :: b :: c :: d :: e :: f :: l, h =>
   have ih := toC_app k l m (by simp only [List.length_cons] at h; omega)
   show toC (a :: b :: c :: d :: e :: f :: (l ++ m)) = _
   rw [toC, toC, ih]; rfl
  | [], h => simp at h
  | [_], h => simp at h; omega
  | [_, _], h => simp at h; omega
  | [_, _, _], h => simp at h; omega
  | [_, _, _, _], h => simp at h; omega
  | [_, _, _, _, _], h => simp at h; omega
theorem toC_at : ∀ (i k : Nat) (l : List RFd), l.length = 6 * k → i < k → ∃ a b c d e f, l[6 * i]? = some a ∧ l[6 * i + 1]? = some b ∧ l[6 * i + 2]? = some c ∧ l[6 * i + 3]? = some d ∧ l[6 * i + 4]? = some e ∧ l[6 * i + 5]? = some f ∧ (toC l)[i]? = some ⟨a.n, b.s, c.s, d.n - 1, decide (e.n = 1), decide (f.n = 1)⟩
 | i, k, a :: b :: c :: d :: e :: f :: l, h, hi => by
  cases i with
  | zero => exact ⟨a, b, c, d, e, f, rfl, rfl, rfl, rfl, rfl, rfl, rfl⟩
  | succ i =>
   obtain ⟨a', b', c', d', e', f', h1, h2, h3, h4, h5, h6, h7⟩ := toC_at i (k - 1) l (by simp only [List.length_cons] at h; omega) (by omega)
   refine ⟨a', b', c', d', e', f', ?_, ?_, ?_, ?_, ?_, ?_, ?_⟩
   ·rw [show 6 * (i + 1) = 6 * i + 6 by omega]; exact h1
   ·rw [show 6 * (i + 1) + 1 = 6 * i + 1 + 6 by omega]; exact h2
   ·rw [show 6 * (i + 1) + 2 = 6 * i + 2 + 6 by omega]; exact h3
   ·rw [show 6 * (i + 1) + 3 = 6 * i + 3 + 6 by omega]; exact h4
   ·rw [show 6 * (i + 1) + 4 = 6 * i + 4 + 6 by omega]; exact h5
   ·rw [show 6 * (i + 1) + 5 = 6 * i + 5 + 6 by omega]; exact h6
   ·exact h7
 | i, k, [], h, hi => by simp at h; omega
 | i, k, [_], h, hi => by simp at h; omega
 | i, k, [_, _], h, hi => by simp at h; omega
 | i, k, [_, _, _], h, hi => by simp at h; omega
 | i, k, [_, _, _, _], h, hi => by simp at h; omega
 | i, k, [_, _, _, _, _], h, hi => by simp at h; omega
theorem toC_len : ∀ (k : Nat) (l : List RFd), l.length = 6 * k → (toC l).length = k
 | 0, l, h => by
  have : l = [] := List.eq_nil_of_length_eq_zero (by omega)
  subst this; rfl
 | k + 1, l, h => by
  match l, h with
  | a :: b :: c :: d :: e :: f :: l, h =>
   have ih := toC_len k l (by simp only [List.length_cons] at h; omega)
   rw [toC, List.length_cons, ih]
  | [], h => simp at h
  | [_], h => simp at h; omega
  | [_, _], h => simp at h; omega
  | [_, _, _], h => simp at h; omega
  | [_, _, _, _], h => simp at h; omega
  | [_, _, _, _, _], h => simp at h; omega
def rt0 : RT := ⟨0, 0, 0, 0, 0, []⟩
def cntT (b : Bs) : Int := match (somR kHd b).l with
 | [_, _, _, _, _, f] => f.n
 | _ => 0
def okD (b : Bs) : Prop := (somR kHd b).e = 0 ∧ cntT b ≤ 6 ∧ b.length ≤ 4096 ∧ (decR (kChs (cntT b).toNat) (b.drop (somR kHd b).n)).e = 0
instance (b : Bs) : Decidable (okD b) := inferInstanceAs (Decidable (_ ∧ _ ∧ _ ∧ _))
def tD (b : Bs) : RT := if okD b then (match (somR kHd b).l with
 | [a, c, d, e, f, _] => ⟨a.n, c.n, d.n, e.n, f.n, toC (decR (kChs (cntT b).toNat) (b.drop (somR kHd b).n)).l⟩
 | _ => rt0) else rt0
def eD (b : Bs) : Int := if okD b then 0 else 110
theorem hd_of {b : Bs} (h : (somR kHd b).e = 0) : ∃ a c d e f g, (somR kHd b).l = [a, c, d, e, f, g] := by
 have := (somR_le kHd b).2 h
 match hl : (somR kHd b).l, this with
 | [a, c, d, e, f, g], _ => exact ⟨a, c, d, e, f, g, rfl⟩
end Go.Proofs.YtalfffamppmooaaGreatDoor
namespace Go.Proofs.YtalfffamppmooaaGreatDoor
theorem numB_be8 (n : Int) (h0 : 0 ≤ n) (h1 : n ≤ big) : (numB (be8 n) : Int) = n := by
 have e : ∀ x : Int, ((byI x).toNat : Int) = x % 256 := byI_int
 unfold big at h1
 have q1 := e n
 have q2 := e (n / 256)
 have q3 := e (n / 65536)
 have q4 := e (n / 16777216)
 have q5 := e (n / 4294967296)
 have q6 := e (n / 1099511627776)
 have q7 := e (n / 281474976710656)
 have q8 := e (n / 72057594037927936)
 show ((((((((((0 * 256 + (byI (n / 72057594037927936)).toNat) * 256 + (byI (n / 281474976710656)).toNat) * 256 + (byI (n / 1099511627776)).toNat) * 256 + (byI (n / 4294967296)).toNat) * 256 + (byI (n / 16777216)).toNat) * 256 + (byI (n / 65536)).toNat) * 256 + (byI (n / 256)).toNat) * 256 + (byI n).toNat : Nat)) : Int) = n
 have d1 : n / 65536 = n / 256 / 256 := by omega
 have d2 : n / 16777216 = n / 256 / 256 / 256 := by omega
 have d3 : n / 4294967296 = n / 256 / 256 / 256 / 256 := by omega
 have d4 : n / 1099511627776 = n / 256 / 256 / 256 / 256 / 256 := by omega
 have d5 : n / 281474976710656 = n / 256 / 256 / 256 / 256 / 256 / 256 := by omega
 have d6 : n / 72057594037927936 = n / 256 / 256 / 256 / 256 / 256 / 256 / 256 := by omega
 rw [d1] at q3 ⊢
 rw [d2] at q4 ⊢
 rw [d3] at q5 ⊢
 rw [d4] at q6 ⊢
 rw [d5] at q7 ⊢
 rw [d6] at q8 ⊢
 omega
theorem numB_one (x : UInt8) : numB [x] = x.toNat := by show 0 * 256 + x.toNat = _; omega
theorem fd_form {f : RFd} (h : fdE f = 0) : (f.kind = 3 ∧ f.n = 0 ∧ f.s.size ≤ 1024) ∨ ((f.kind = 1 ∧ f.n ≤ 255 ∨ f.kind = 4 ∧ f.n ≤ 1 ∨ f.kind = 2 ∧ f.n ≤ big) ∧ f.s = eS ∧ 0 ≤ f.n) := by
 unfold fdE at h
 by_cases hk : f.kind = 3
 ·rw [if_pos hk] at h
  by_cases h1 : f.n ≠ 0
  ·rw [if_pos h1] at h; cases h
  ·rw [if_neg h1] at h
   by_cases h2 : f.s.size > 1024
   ·rw [if_pos h2] at h; cases h
   ·exact .inl ⟨hk, Decidable.not_not.1 h1, by omega⟩
 ·rw [if_neg hk] at h
  by_cases h1 : f.s ≠ ⟨#[]⟩ ∨ f.n < 0
  ·rw [if_pos h1] at h; cases h
  ·rw [if_neg h1] at h
   have hs : f.s = eS := Decidable.not_not.1 fun hh => h1 (.inl hh)
   have hn : 0 ≤ f.n := Int.not_lt.1 fun hh => h1 (.inr hh)
   refine .inr ⟨?_, hs, hn⟩
   by_cases a1 : f.kind = 1 ∧ f.n ≤ 255
   ·exact .inl a1
   ·rw [if_neg a1] at h
    by_cases a2 : f.kind = 4 ∧ f.n ≤ 1
    ·exact .inr (.inl a2)
    ·rw [if_neg a2] at h
     by_cases a3 : f.kind = 2 ∧ f.n ≤ big
     ·exact .inr (.inr a3)
     ·rw [if_neg a3] at h; cases h
theorem fd_kind {f : RFd} (h : fdE f = 0) : 1 ≤ f.kind ∧ f.kind ≤ 4 := by
 rcases fd_form h with ⟨h, -⟩ | ⟨h, -⟩ <;> omega
theorem szN_2 : szN 2 = 8 := rfl
theorem szN_3 : szN 3 = 2 := rfl
theorem take_len {α : Type} (a b : List α) (n : Nat) (h : a.length = n) : (a ++ b).take n = a := by
 subst h; exact List.take_left
theorem nx_other {k : Int} {b : Bs} (hk : 1 ≤ k ∧ k ≤ 4) (h3 : k ≠ 3) (hl : szN k ≤ b.length) (hv : ¬ ((k = 2 ∧ big < nxV k b) ∨ (k = 4 ∧ 1 < nxV k b))) : nxE k b = 0 := by
 unfold nxE
 rw [if_neg (fun h => h hk), if_neg (by omega), if_neg hv, if_pos h3]
theorem rfd_eq {f : RFd} {k n : Int} {s : ByteArray} (h1 : f.kind = k) (h2 : f.n = n) (h3 : f.s = s) : (⟨k, n, s⟩ : RFd) = f := by
 cases f; cases h1; cases h2; cases h3; rfl
theorem nx_fd {f : RFd} (h : fdE f = 0) (r : Bs) : nxE f.kind (fdB f ++ r) = 0 ∧ nxF f.kind (fdB f ++ r) = f ∧ nxN f.kind (fdB f ++ r) = (fdB f).length := by
 have hkr := fd_kind h
 rcases fd_form h with ⟨hk, hn, hs⟩ | ⟨hk, hs, hn⟩
 ·have hB : fdB f = byI ((f.s.size : Int) / 256) :: byI f.s.size :: f.s.data.toList := by unfold fdB; rw [if_pos hk]
  have hsz : f.s.data.toList.length = f.s.size := by rw [Array.length_toList]; rfl
  have hV : nxV f.kind (fdB f ++ r) = f.s.size := by
   unfold nxV
   rw [hk, hB]
   show (0 * 256 + (byI ((f.s.size : Int) / 256)).toNat) * 256 + (byI f.s.size).toNat = _
   have q1 := byI_int ((f.s.size : Int) / 256)
   have q2 := byI_int (f.s.size : Int)
   omega
  refine ⟨?_, ?_, ?_⟩
  ·unfold nxE
   rw [if_neg (fun h => h hkr), if_neg (by rw [hk, szN_3, hB]; simp), if_neg (by omega), if_neg (fun h => h hk), hV, if_neg (by omega), if_neg (by rw [hB]; simp only [List.length_append, List.length_cons, hsz]; omega)]
  ·unfold nxF
   rw [if_pos hk, hV]
   refine rfd_eq hk hn ?_
   rw [hB]
   show f.s = ⟨((f.s.data.toList ++ r).take f.s.size).toArray⟩
   rw [take_len _ _ _ hsz]
  ·unfold nxN
   rw [if_pos hk, hV, hB]
   simp only [List.length_cons, hsz]; omega
 ·have h3 : f.kind ≠ 3 := by omega
  by_cases h2 : f.kind = 2
  ·have hB : fdB f = be8 f.n := by unfold fdB; rw [if_neg h3, if_pos h2]
   have hL : (be8 f.n).length = 8 := rfl
   have hV : ((nxV f.kind (fdB f ++ r) : Nat) : Int) = f.n := by
    unfold nxV
    rw [h2, szN_2, hB, take_len _ _ _ hL]
    exact numB_be8 f.n hn (by omega)
   refine ⟨nx_other hkr h3 (by rw [h2, szN_2, hB, List.length_append, hL]; omega) (by rw [hV]; omega), ?_, ?_⟩
   ·unfold nxF; rw [if_neg h3, hV]; exact rfd_eq rfl rfl hs
   ·unfold nxN; rw [if_neg h3, h2, hB]; rfl
  ·have hB : fdB f = [byI f.n] := by unfold fdB; rw [if_neg h3, if_neg h2]
   have hz : szN f.kind = 1 := by rcases hk with ⟨h, -⟩ | ⟨h, -⟩ | ⟨h, -⟩ <;> first | (rw [h]; rfl) | omega
   have hV : ((nxV f.kind (fdB f ++ r) : Nat) : Int) = f.n := by
    unfold nxV
    rw [hz, hB]
    show ((numB [byI f.n] : Nat) : Int) = f.n
    rw [numB_one, byI_int]; omega
   refine ⟨nx_other hkr h3 (by rw [hz, hB]; simp) (by rw [hV]; omega), ?_, ?_⟩
   ·unfold nxF; rw [if_neg h3, hV]; exact rfd_eq rfl rfl hs
   ·unfold nxN; rw [if_neg h3, hz, hB]; rfl
theorem som_enc : ∀ (l : List RFd) (r : Bs), encE l = 0 → somR (l.map RFd.kind) (encB l ++ r) = ⟨0, l, (encB l).length⟩
 | [], r, _ => rfl
 | f :: l, r, h => by
  have hf := encE_zero h f (by simp)
  have hl : encE l = 0 := by unfold encE at h; rwa [if_pos hf] at h
  have eB : encB (f :: l) = fdB f ++ encB l := rfl
  obtain ⟨n1, n2, n3⟩ := nx_fd hf (encB l ++ r)
  have ih := som_enc l r hl
  rw [eB, List.append_assoc, List.map_cons, somR_cons, if_neg (fun h => h n1), n2, n3, List.drop_left, ih, if_neg (fun h => h rfl)]
  simp
theorem take8 {b : Bs} (h : 8 ≤ b.length) : ∃ a1 a2 a3 a4 a5 a6 a7 a8, b.take 8 = [a1, a2, a3, a4, a5, a6, a7, a8] := by
 match b, h with
 | a1 :: a2 :: a3 :: a4 :: a5 :: a6 :: a7 :: a8 :: b, _ => exact ⟨a1, a2, a3, a4, a5, a6, a7, a8, rfl⟩
theorem byI_of {x : UInt8} {n : Int} (h : n % 256 = x.toNat) : byI n = x := by
 have := byI_int n
 have h2 : (byI n).toNat = x.toNat := by omega
 exact UInt8.toNat_inj.1 h2
theorem be8_numB (a1 a2 a3 a4 a5 a6 a7 a8 : UInt8) : be8 (numB [a1, a2, a3, a4, a5, a6, a7, a8] : Nat) = [a1, a2, a3, a4, a5, a6, a7, a8] := by
 have l1 := a1.toNat_lt
 have l2 := a2.toNat_lt
 have l3 := a3.toNat_lt
 have l4 := a4.toNat_lt
 have l5 := a5.toNat_lt
 have l6 := a6.toNat_lt
 have l7 := a7.toNat_lt
 have l8 := a8.toNat_lt
 have e : numB [a1, a2, a3, a4, a5, a6, a7, a8] = (((((((0 * 256 + a1.toNat) * 256 + a2.toNat) * 256 + a3.toNat) * 256 + a4.toNat) * 256 + a5.toNat) * 256 + a6.toNat) * 256 + a7.toNat) * 256 + a8.toNat := rfl
 unfold be8
 generalize numB [a1, a2, a3, a4, a5, a6, a7, a8] = v at e
 rw [byI_of (x := a1) (by omega), byI_of (x := a2) (by omega), byI_of (x := a3) (by omega), byI_of (x := a4) (by omega), byI_of (x := a5) (by omega), byI_of (x := a6) (by omega), byI_of (x := a7) (by omega), byI_of (x := a8) (by omega)]
theorem nxF_kind (k : Int) (b : Bs) : (nxF k b).kind = k := by
 unfold nxF
 split
 ·next h => exact h.symm
 ·rfl
theorem fd_nx {k : Int} {b : Bs} (h : nxE k b = 0) : fdE (nxF k b) = 0 ∧ fdB (nxF k b) = b.take (nxN k b) := by
 have h0 := h
 unfold nxE at h
 split at h
 ·cases h
 next h1 =>
 have h1 : 1 ≤ k ∧ k ≤ 4 := Decidable.not_not.1 h1
 split at h
 ·cases h
 next h2 =>
 split at h
 ·cases h
 next hv =>
 by_cases h3 : k = 3
 ·rw [if_neg (fun hh => hh h3)] at h
  split at h
  ·cases h
  next hm =>
  split at h
  ·cases h
  next hl =>
  subst h3
  rw [szN_3] at h2
  have hsz : (((b.drop 2).take (nxV 3 b)).toArray : Array UInt8).size = nxV 3 b := by rw [List.size_toArray, List.length_take, List.length_drop]; omega
  have eF : nxF 3 b = ⟨3, 0, ⟨((b.drop 2).take (nxV 3 b)).toArray⟩⟩ := rfl
  have eN : nxN 3 b = 2 + nxV 3 b := rfl
  have hs2 : (⟨((b.drop 2).take (nxV 3 b)).toArray⟩ : ByteArray).size = nxV 3 b := hsz
  rw [eF, eN]
  constructor
  ·unfold fdE
   rw [if_pos rfl, if_neg (fun hh => hh rfl)]
   show (if (⟨((b.drop 2).take (nxV 3 b)).toArray⟩ : ByteArray).size > 1024 then (22 : Int) else 0) = 0
   rw [hs2, if_neg (by omega)]
  ·show byI (((⟨((b.drop 2).take (nxV 3 b)).toArray⟩ : ByteArray).size : Int) / 256) :: byI (⟨((b.drop 2).take (nxV 3 b)).toArray⟩ : ByteArray).size :: (b.drop 2).take (nxV 3 b) = _
   rw [hs2]
   match b, h2, hm with
   | x :: y :: b, _, hm =>
    have l1 := x.toNat_lt
    have l2 := y.toNat_lt
    have e : nxV 3 (x :: y :: b) = (0 * 256 + x.toNat) * 256 + y.toNat := rfl
    rw [show 2 + nxV 3 (x :: y :: b) = nxV 3 (x :: y :: b) + 1 + 1 by omega, List.take_succ_cons, List.take_succ_cons, byI_of (x := x) (by rw [e]; omega), byI_of (x := y) (by rw [e]; omega)]
    rfl
   | [], h2, _ => simp at h2
   | [_], h2, _ => simp at h2
 ·have eF : nxF k b = ⟨k, nxV k b, eS⟩ := by unfold nxF; rw [if_neg h3]; rfl
  have eN : nxN k b = szN k := by unfold nxN; rw [if_neg h3]
  have hlt := numB_lt (b.take (szN k))
  rw [List.length_take, Nat.min_eq_left (by omega)] at hlt
  rw [eF, eN]
  by_cases hk2 : k = 2
  ·subst hk2
   constructor
   ·unfold fdE
    rw [if_neg h3, if_neg (fun hh => hh.elim (fun hh => hh rfl) (fun hh => by simp only at hh; omega)), if_neg (by simp), if_neg (by simp), if_pos ⟨rfl, by simp only; omega⟩]
   ·show be8 (nxV 2 b : Nat) = _
    obtain ⟨a1, a2, a3, a4, a5, a6, a7, a8, e⟩ := take8 (b := b) (by rw [szN_2] at h2; omega)
    unfold nxV
    rw [szN_2, e]
    exact be8_numB a1 a2 a3 a4 a5 a6 a7 a8
  ·have hk14 : k = 1 ∨ k = 4 := by omega
   have hz : szN k = 1 := by rcases hk14 with h | h <;> (rw [h]; rfl)
   rw [hz] at hlt h2
   have hx : ∃ x, b.take 1 = [x] := by
    match b, h2 with
    | x :: b, _ => exact ⟨x, rfl⟩
    | [], h2 => simp at h2
   obtain ⟨x, hx⟩ := hx
   have eV : nxV k b = x.toNat := by unfold nxV; rw [hz, hx, numB_one]
   have l1 := x.toNat_lt
   constructor
   ·unfold fdE
    rw [if_neg h3, if_neg (fun hh => hh.elim (fun hh => hh rfl) (fun hh => by simp only at hh; omega))]
    simp only
    rw [eV] at hv ⊢
    rcases hk14 with h | h
    ·rw [if_pos ⟨h, by omega⟩]
    ·rw [if_neg (by omega), if_pos ⟨h, by omega⟩]
   ·show (if k = 3 then _ else if k = 2 then _ else [byI (nxV k b : Nat)]) = _
    rw [if_neg h3, if_neg hk2, hz, hx, byI_of (x := x) (by rw [eV]; omega)]
theorem enc_som : ∀ (ks : List Int) (b : Bs), (somR ks b).e = 0 → encE (somR ks b).l = 0 ∧ encB (somR ks b).l = b.take (somR ks b).n ∧ (somR ks b).l.map RFd.kind = ks
 | [], b, _ => ⟨rfl, by simp [somR, encB], rfl⟩
 | k :: ks, b, h => by
  rw [somR_cons] at h ⊢
  by_cases h1 : nxE k b ≠ 0
  ·rw [if_pos h1] at h; exact absurd h h1
  rw [if_neg h1] at h ⊢
  by_cases h2 : (somR ks (b.drop (nxN k b))).e ≠ 0
  ·rw [if_pos h2] at h; exact absurd h h2
  rw [if_neg h2]
  obtain ⟨i1, i2, i3⟩ := enc_som ks (b.drop (nxN k b)) (Decidable.not_not.1 h2)
  obtain ⟨f1, f2⟩ := fd_nx (Decidable.not_not.1 h1)
  refine ⟨?_, ?_, ?_⟩
  ·show encE (nxF k b :: _) = 0
   unfold encE; rw [if_pos f1]; exact i1
  ·show fdB (nxF k b) ++ encB (somR ks (b.drop (nxN k b))).l = b.take (nxN k b + _)
   rw [f2, i2, List.take_add]
  ·show (nxF k b).kind :: _ = _
   rw [nxF_kind, i3]
theorem encE_app {l m : List RFd} (h1 : encE l = 0) : encE (l ++ m) = encE m := by
 induction l with
 | nil => rfl
 | cons x l ih =>
  have hx := encE_zero h1 x (by simp)
  have hl : encE l = 0 := by unfold encE at h1; rwa [if_pos hx] at h1
  show (if fdE x = 0 then encE (l ++ m) else fdE x) = _
  rw [if_pos hx]; exact ih hl
theorem encE_app1 {l m : List RFd} (h : encE (l ++ m) = 0) : encE l = 0 :=
 encE_all fun x hx => encE_zero h x (List.mem_append.2 (.inl hx))
theorem encB_app (l m : List RFd) : encB (l ++ m) = encB l ++ encB m := by unfold encB; rw [List.flatMap_append]
theorem kChs_cons (k : Nat) : kChs (k + 1) = kCh ++ kChs k := by
 rw [Nat.add_comm, kChs_add]; rfl
theorem chs_kinds (l : List RC) : (chsF l).map RFd.kind = kChs l.length := by
 induction l with
 | nil => rfl
 | cons c l ih => rw [List.length_cons, kChs_cons, ← ih]; rfl
theorem toC_chs (l : List RC) (h : ∀ c ∈ l, -1 ≤ c.ve ∧ c.ve < big) : toC (chsF l) = l := by
 induction l with
 | nil => rfl
 | cons c l ih =>
  have e : toC (chsF (c :: l)) = ⟨c.kind, c.path, c.data, veP c.ve - 1, decide (bI c.ep = 1), decide (bI c.sq = 1)⟩ :: toC (chsF l) := rfl
  have hv : veP c.ve - 1 = c.ve := by unfold veP; rw [if_pos (h c (by simp)).2]; omega
  have hb : ∀ b : Bool, decide (bI b = 1) = b := fun b => by cases b <;> rfl
  rw [e, ih fun x hx => h x (by simp [hx]), hv, hb, hb]
theorem decR_ok {ks : List Int} {b : Bs} (h : (decR ks b).e = 0) : (somR ks b).e = 0 ∧ (somR ks b).n = b.length ∧ decR ks b = somR ks b := by
 unfold decR at h ⊢
 by_cases h1 : (somR ks b).e ≠ 0
 ·rw [if_pos h1] at h; exact absurd h h1
 rw [if_neg h1] at h ⊢
 by_cases h2 : (somR ks b).n ≠ b.length
 ·rw [if_pos h2] at h; cases h
 ·rw [if_neg h2]; exact ⟨Decidable.not_not.1 h1, Decidable.not_not.1 h2, rfl⟩
theorem decR_enc {l : List RFd} (h : encE l = 0) : decR (l.map RFd.kind) (encB l) = ⟨0, l, (encB l).length⟩ := by
 have := som_enc l [] h
 rw [List.append_nil] at this
 unfold decR
 rw [this, if_neg (fun h => h rfl), if_neg (fun h => h rfl)]
theorem tD_bT {t : RT} (h : okT t) : okD (bT t) ∧ tD (bT t) = t := by
 have hb : bT t = encB (hdF t) ++ encB (chsF t.l) := by unfold bT; rw [if_pos h]; unfold txF; rw [encB_app]
 have hh : encE (hdF t) = 0 := encE_app1 h.2.1
 have hc : encE (chsF t.l) = 0 := by have := h.2.1; unfold txF at this; rwa [encE_app hh] at this
 have e1 : somR kHd (bT t) = ⟨0, hdF t, (encB (hdF t)).length⟩ := by rw [hb]; exact som_enc (hdF t) _ hh
 have eC : cntT (bT t) = t.l.length := by unfold cntT; rw [e1]; rfl
 have eD : decR (kChs (cntT (bT t)).toNat) ((bT t).drop (somR kHd (bT t)).n) = ⟨0, chsF t.l, (encB (chsF t.l)).length⟩ := by
  rw [eC, e1, Int.toNat_natCast]
  show decR (kChs t.l.length) ((bT t).drop (encB (hdF t)).length) = _
  rw [hb, List.drop_left, ← chs_kinds]
  exact decR_enc hc
 have ok : okD (bT t) := ⟨by rw [e1], by rw [eC]; have := h.1; omega, by have := h.2.2; unfold bT; rwa [if_pos h], by rw [eD]⟩
 refine ⟨ok, ?_⟩
 unfold tD
 rw [if_pos ok, eD, e1]
 show (⟨t.kind, t.se, t.nu, t.sp, t.no, toC (chsF t.l)⟩ : RT) = t
 rw [toC_chs t.l (okT_ve h)]
theorem fd_eq {f : RFd} {k : Int} (h : fdE f = 0) (hk : f.kind = k) (h3 : k ≠ 3) : (⟨k, f.n, eS⟩ : RFd) = f := by
 rcases fd_form h with ⟨h, -⟩ | ⟨-, h, -⟩
 ·omega
 ·exact rfd_eq hk rfl h
theorem fd_eq3 {f : RFd} (h : fdE f = 0) (hk : f.kind = 3) : (⟨3, 0, f.s⟩ : RFd) = f := by
 rcases fd_form h with ⟨h, h0, -⟩ | ⟨h, -⟩
 ·exact rfd_eq hk h0 rfl
 ·omega
theorem chs_toC : ∀ (k : Nat) (l : List RFd), l.map RFd.kind = kChs k → encE l = 0 → chsF (toC l) = l ∧ (toC l).length = k
 | 0, l, hk, _ => by
  have : l = [] := by simpa [kChs] using hk
  subst this; exact ⟨rfl, rfl⟩
 | k + 1, l, hk, h => by
  rw [kChs_cons] at hk
  match l, hk, h with
  | a :: b :: c :: d :: e :: f :: l, hk, h =>
   have hk : [a.kind, b.kind, c.kind, d.kind, e.kind, f.kind] ++ l.map RFd.kind = [1, 3, 3, 2, 4, 4] ++ kChs k := hk
   obtain ⟨k1, k2⟩ := List.append_inj hk rfl
   simp only [List.cons.injEq, and_true] at k1
   obtain ⟨ka, kb, kc, kd, ke, kf⟩ := k1
   have z := encE_zero h
   have za := z a (by simp)
   have zb := z b (by simp)
   have zc := z c (by simp)
   have zd := z d (by simp)
   have ze := z e (by simp)
   have zf := z f (by simp)
   obtain ⟨i1, i2⟩ := chs_toC k l k2 (encE_all fun x hx => z x (by simp [hx]))
   have eT : toC (a :: b :: c :: d :: e :: f :: l) = ⟨a.n, b.s, c.s, d.n - 1, decide (e.n = 1), decide (f.n = 1)⟩ :: toC l := rfl
   rw [eT]
   refine ⟨?_, by rw [List.length_cons, i2]⟩
   have bit : ∀ x : RFd, fdE x = 0 → x.kind = 4 → bI (decide (x.n = 1)) = x.n := fun x hx hk => by
    rcases fd_form hx with ⟨h, -⟩ | ⟨h, -, h0⟩
    ·omega
    ·by_cases h1 : x.n = 1
     ·rw [h1]; rfl
     ·rw [decide_eq_false h1]; show (0 : Int) = _; omega
   have hd : veP (d.n - 1) = d.n := by
    rcases fd_form zd with ⟨h, -⟩ | ⟨h, -, h0⟩
    ·omega
    ·unfold veP; rw [if_pos (by omega)]; omega
   show chF ⟨a.n, b.s, c.s, d.n - 1, decide (e.n = 1), decide (f.n = 1)⟩ (veP (d.n - 1)) ++ chsF (toC l) = _
   rw [i1]
   show [(⟨1, a.n, eS⟩ : RFd), ⟨3, 0, b.s⟩, ⟨3, 0, c.s⟩, ⟨2, veP (d.n - 1), eS⟩, ⟨4, bI (decide (e.n = 1)), eS⟩, ⟨4, bI (decide (f.n = 1)), eS⟩] ++ l = _
   rw [hd, bit e ze ke, bit f zf kf, fd_eq za ka (by decide), fd_eq3 zb kb, fd_eq3 zc kc, fd_eq zd kd (by decide), fd_eq ze ke (by decide), fd_eq zf kf (by decide)]
   rfl
  | [], hk, _ => simp [kCh] at hk
  | [_], hk, _ => simp [kCh] at hk
  | [_, _], hk, _ => simp [kCh] at hk
  | [_, _, _], hk, _ => simp [kCh] at hk
  | [_, _, _, _], hk, _ => simp [kCh] at hk
  | [_, _, _, _, _], hk, _ => simp [kCh] at hk
theorem bT_tD {b : Bs} (h : okD b) : okT (tD b) ∧ bT (tD b) = b := by
 obtain ⟨h1, h2, h3, h4⟩ := id h
 obtain ⟨a, c, d, e, f, g, hl⟩ := hd_of h1
 obtain ⟨e1, e2, e3⟩ := enc_som kHd b h1
 rw [hl] at e1 e2 e3
 have hC : cntT b = g.n := by unfold cntT; rw [hl]
 obtain ⟨d1, d2, d3⟩ := decR_ok h4
 obtain ⟨s1, s2, s3⟩ := enc_som _ _ d1
 rw [d2] at s2
 rw [List.take_of_length_le (Nat.le_refl _)] at s2
 simp only [List.map_cons, List.map_nil, kHd, List.cons.injEq, and_true] at e3
 obtain ⟨ka, kc, kd, ke, kf, kg⟩ := e3
 have z := encE_zero e1
 have za := z a (by simp)
 have zc := z c (by simp)
 have zd := z d (by simp)
 have ze := z e (by simp)
 have zf := z f (by simp)
 have zg := z g (by simp)
 obtain ⟨t1, t2⟩ := chs_toC _ _ s3 s1
 have hg0 : 0 ≤ g.n := by
  rcases fd_form zg with ⟨hh, -⟩ | ⟨-, -, hh⟩
  ·omega
  ·exact hh
 have hT : tD b = ⟨a.n, c.n, d.n, e.n, f.n, toC (somR (kChs (cntT b).toNat) (b.drop (somR kHd b).n)).l⟩ := by
  unfold tD
  rw [if_pos h, hl, d3]
 have hlen : ((tD b).l.length : Int) = g.n := by
  rw [hT]
  show ((toC _).length : Int) = _
  rw [t2, hC]; omega
 have hF : txF (tD b) = [a, c, d, e, f, g] ++ (somR (kChs (cntT b).toNat) (b.drop (somR kHd b).n)).l := by
  unfold txF hdF
  rw [hlen, hT]
  show [(⟨1, a.n, eS⟩ : RFd), ⟨2, c.n, eS⟩, ⟨2, d.n, eS⟩, ⟨2, e.n, eS⟩, ⟨2, f.n, eS⟩, ⟨1, g.n, eS⟩] ++ chsF (toC _) = _
  rw [t1, fd_eq za ka (by decide), fd_eq zc kc (by decide), fd_eq zd kd (by decide), fd_eq ze ke (by decide), fd_eq zf kf (by decide), fd_eq zg kg (by decide)]
 have hB : encB (txF (tD b)) = b := by rw [hF, encB_app, e2, s2, List.take_append_drop]
 have ok : okT (tD b) := ⟨by omega, by rw [hF, encE_app e1]; exact s1, by rw [hB]; exact h3⟩
 exact ⟨ok, by unfold bT; rw [if_pos ok, hB]⟩
end Go.Proofs.YtalfffamppmooaaGreatDoor

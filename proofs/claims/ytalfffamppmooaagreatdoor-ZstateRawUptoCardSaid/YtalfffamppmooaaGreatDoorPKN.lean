/- A part of the proof, merged from several texts. -/
import Derived.Test.YtalfffamppmooaaGreatDoorPKM
import Derived.Test.YtalfffamppmooaaGreatDoorZFnu
import Derived.Test.YtalfffamppmooaaGreatDoorZM2
namespace Go.Proofs.YtalfffamppmooaaGreatDoor
open Go.RowKit
set_option maxRecDepth 100000
abbrev tU8 : Nat := 5
def enFd (f : RFd) : List G := [gI f.kind, gI f.n, gS f.s]
theorem fd_shr (n m : Int) (j k : Nat) (hj : min j 64 = k) (hm : (2 : Int) ^ k = m) (h0 : 0 ≤ m) : n.fdiv (2 ^ min j 64) = n / m := by
 rw [hj, hm]; exact Int.fdiv_eq_ediv_of_nonneg _ h0
def FdP (b : Bs) (f : RFd) (g : G) (rs : List R) : Prop := g = .tup [.osl 1, gI (fdE f)] ∧ rs = [.gone, .slc ((if fdE f = 0 then b ++ fdB f else []).map gBy) tU8 1]
theorem FdP.bad {b : Bs} {f : RFd} {e : Int} (h : fdE f = e) (h0 : e ≠ 0) : FdP b f (.tup [.osl 1, gI e]) [.gone, .slc [] tU8 1] := by
 unfold FdP; rw [h, if_neg h0]; exact ⟨rfl, rfl⟩
theorem FdP.ok {b x : Bs} {f : RFd} (h : fdE f = 0) (hx : fdB f = x) : FdP b f (.tup [.osl 1, gI 0]) [.gone, .slc ((b ++ x).map gBy) tU8 1] := by
 unfold FdP; rw [h, if_pos rfl, hx]; exact ⟨rfl, rfl⟩
end Go.Proofs.YtalfffamppmooaaGreatDoor
namespace Go.Proofs.YtalfffamppmooaaGreatDoor
open Go.RowKit
set_option maxRecDepth 100000
def szI (k : Int) : Int := if 1 ≤ k ∧ k ≤ 4 then (szN k : Int) else -1
theorem size_v (k : Int) : FnV Tryz.prog 136 [gI k] fun g => g = gI (szI k) := by
 refine fnG Tryz.func136 (by kernel_rfl) rfl (Nat.le_of_ble_eq_true (by kernel_rfl)) (by kernel_rfl) ?_
 refine EvIf.beq (fun (h : k = 1) => ?_) (fun (h1 : ¬ k = 1) => ?_)
 ·subst h; exact EvIf.beq (fun _ => rfl) (fun h => absurd rfl h)
 refine EvIf.beq (fun (h : k = 4) => ?_) (fun (h4 : ¬ k = 4) => ?_)
 ·subst h; exact rfl
 refine EvIf.beq (fun (h : k = 2) => ?_) (fun (h2 : ¬ k = 2) => ?_)
 ·subst h; exact rfl
 refine EvIf.beq (fun (h : k = 3) => ?_) (fun (h3 : ¬ k = 3) => ?_)
 ·subst h; exact rfl
 refine (show gI (-1) = gI (szI k) from ?_)
 unfold szI
 rw [if_neg (by omega)]
theorem u64_or (v x : Nat) (hv : v < 2 ^ 56) (hx : x < 256) : IntKind.wrap .u64 ((BitVec.ofInt 64 (IntKind.wrap .u64 ((v : Int) * 2 ^ min (Int.toNat 8) 64)) ||| BitVec.ofInt 64 (IntKind.wrap .u64 (x : Int))).toNat : Nat) = ((v * 256 + x : Nat) : Int) := by
 have w1 : IntKind.wrap .u64 ((v : Int) * 2 ^ min (Int.toNat 8) 64) = ((v * 256 : Nat) : Int) := by
  have : (v : Int) * 2 ^ min (Int.toNat 8) 64 = ((v * 256 : Nat) : Int) := by
   rw [show (2 : Int) ^ min (Int.toNat 8) 64 = 256 from rfl]; omega
  rw [this]
  simp only [IntKind.wrap, IntKind.bits, IntKind.signed, Bool.false_and, if_false, Bool.false_eq_true]
  omega
 have w2 : IntKind.wrap .u64 (x : Int) = (x : Int) := by
  simp only [IntKind.wrap, IntKind.bits, IntKind.signed, Bool.false_and, if_false, Bool.false_eq_true]
  omega
 have e : ∀ n : Nat, n < 2 ^ 64 → (BitVec.ofInt 64 (n : Int)).toNat = n := fun n hn => by
  rw [BitVec.toNat_ofInt]; omega
 rw [w1, w2, BitVec.toNat_or, e _ (by omega), e _ (by omega)]
 have h3 : v * 256 ||| x = v * 256 + x := by
  have := Nat.shiftLeft_add_eq_or_of_lt (i := 8) (b := x) hx v
  rw [Nat.shiftLeft_eq] at this
  exact this.symm
 rw [h3]
 simp only [IntKind.wrap, IntKind.bits, IntKind.signed, Bool.false_and, if_false, Bool.false_eq_true]
 omega
def nxR (k : Int) (b : Bs) : G := .tup [.agg (enFd (if nxE k b = 0 then nxF k b else fd0)), gI (if nxE k b = 0 then (nxN k b : Int) else 0), gI (nxE k b)]
theorem next_v (k : Int) (b : Bs) (hb : b.length ≤ 1000000000) : FnV Tryz.prog 109 [gI k, .sl (b.map gBy)] fun g => g = nxR k b := by
 refine fnG Tryz.func109 (by kernel_rfl) rfl (Nat.le_of_ble_eq_true (by kernel_rfl)) (by kernel_rfl) ?_
 refine (size_v k).cal fun q hq => ?_
 subst hq
 unfold nxR
 refine EvIf.dec (fun (h : szI k < 0) => ?_) (fun (h : ¬ szI k < 0) => ?_)
 ·have e : nxE k b = 21 := by
   unfold nxE
   rw [if_pos (fun hk => by unfold szI at h; rw [if_pos hk] at h; omega)]
  rw [e]
  exact rfl
 have hk : 1 ≤ k ∧ k ≤ 4 := Decidable.byContradiction fun hk => h (by unfold szI; rw [if_neg hk]; decide)
 have hz : szI k = szN k := by unfold szI; rw [if_pos hk]
 rw [hz]
 have hz8 := szN_le k
 refine EvIf.dec (fun h => ?_) (fun h => ?_)
 ·have h : ((b.length : Nat) : Int) < szN k := by simpa using h
  have e : nxE k b = 20 := by
   unfold nxE
   rw [if_neg (fun h => h hk), if_pos (by omega)]
  rw [e]
  exact rfl
 have h : ¬ ((b.length : Nat) : Int) < szN k := by simpa using h
 have hbz := h
 have hlen : ∀ r ∈ b.map gBy, r.length = 1 := fun r hr => by
  obtain ⟨x, -, rfl⟩ := List.mem_map.1 hr
  rfl
 refine ⟨⟨by omega, by omega, by rw [List.length_map]; omega⟩, ⟨hlen, ?_⟩⟩
 have eS : subL (b.map gBy) (0 : Int).toNat ((szN k : Nat) : Int).toNat = (b.take (szN k)).map gBy := by
  unfold subL; simp [List.map_take]
 rw [eS]
 have hL : (b.take (szN k)).length = szN k := by rw [List.length_take]; omega
 refine sx_loop [0, 1, 4, 5, 6, 7, 8, 28, 29] [0, 1] (fun i : Nat => [(30, gI i), (9, .v (.int .u64 (numB ((b.take (szN k)).take i))))]) (fun _ => []) (fun i => i ≤ szN k) (fun i => szN k - i) 0 (by omega) ⟨⟨rfl, rfl⟩, ⟨rfl, rfl⟩, trivial⟩ trivial rfl fun i hi => ?_
 refine EvIf.dec (fun h => ?_) (fun h => ?_)
 ·have h : i < (b.take (szN k)).length := by simpa using h
  refine EvIdx.of (by simpa using h) fun x hx => ?_
  refine ⟨by decide, ⟨by omega, i + 1, by omega, (by dsimp only; omega), ?_⟩⟩
  refine ⟨?_, ?_, rfl⟩ <;> repeat' (first | exact True.intro | with_reducible rfl | exact rfl | refine And.intro ?_ ?_)
  have hlt : numB ((b.take (szN k)).take i) < 2 ^ 56 := by
   have h1 := numB_lt ((b.take (szN k)).take i)
   refine Nat.lt_of_lt_of_le h1 ?_
   rw [show (2 : Nat) ^ 56 = 256 ^ 7 by decide]
   exact Nat.pow_le_pow_right (by decide) (by rw [List.length_take]; omega)
  rw [take_more hx, numB_snoc]
  exact congrArg (fun n => some (G.v (.int .u64 n))) (u64_or _ _ hlt x.toNat_lt)
 ·have ht : (b.take (szN k)).take i = b.take (szN k) := List.take_of_length_le (by simp at h; omega)
  rw [ht]
  have e1 : nxE k b = if (k = 2 ∧ big < nxV k b) ∨ (k = 4 ∧ 1 < nxV k b) then 21 else if k ≠ 3 then 0 else if 1024 < nxV k b then 22 else if b.length < 2 + nxV k b then 20 else 0 := by
   unfold nxE
   rw [if_neg (fun h => h hk), if_neg (by omega)]
  have hv : numB (b.take (szN k)) = nxV k b := rfl
  rw [hv]
  generalize hvv : nxV k b = v at *
  have hN : nxN k b = if k = 3 then 2 + v else szN k := by unfold nxN; rw [hvv]
  have hF : nxF k b = if k = 3 then ⟨3, 0, ⟨((b.drop 2).take v).toArray⟩⟩ else ⟨k, v, ⟨#[]⟩⟩ := by unfold nxF; rw [hvv]
  refine EvIf.beq (fun (k2 : k = 2) => ?_) (fun (k2 : ¬ k = 2) => ?_)
  ·refine EvIf.dec (fun (h : (v : Int) > big) => ?_) (fun (h : ¬ (v : Int) > big) => ?_)
   ·rw [if_pos (.inl ⟨k2, h⟩)] at e1
    rw [e1]
    exact rfl
   ·rw [if_neg (by rintro (h2 | h2) <;> omega), if_pos (by omega)] at e1
    refine EvIf.beq (fun h4 => absurd h4 (show ¬ k = 4 by omega)) fun _ => ?_
    refine EvIf.bne (fun _ => ?_) (fun h3 => absurd h3 (show ¬ k = 3 by omega))
    rw [e1, if_pos rfl, if_pos rfl, hN, hF, if_neg (by omega), if_neg (by omega)]
    exact ⟨by unfold big at h; omega, rfl⟩
  ·refine EvIf.beq (fun (k4 : k = 4) => ?_) (fun (k4 : ¬ k = 4) => ?_)
   ·refine EvIf.dec (fun (h : (v : Int) > 1) => ?_) (fun (h : ¬ (v : Int) > 1) => ?_)
    ·rw [if_pos (.inr ⟨k4, by omega⟩)] at e1
     rw [e1]
     exact rfl
    ·rw [if_neg (by rintro (h2 | h2) <;> omega), if_pos (by omega)] at e1
     refine EvIf.bne (fun _ => ?_) (fun h3 => absurd h3 (show ¬ k = 3 by omega))
     rw [e1, if_pos rfl, if_pos rfl, hN, hF, if_neg (by omega), if_neg (by omega)]
     exact ⟨by omega, rfl⟩
   ·rw [if_neg (by rintro (h2 | h2) <;> omega)] at e1
    have hvl : v < 256 ^ szN k := by
     have := numB_lt (b.take (szN k))
     rw [hL] at this
     rw [← hvv]; exact this
    refine EvIf.bne (fun (h3 : k ≠ 3) => ?_) (fun (h3 : k = 3) => ?_)
    ·have k1 : k = 1 := by omega
     subst k1
     have hvl : v < 256 := hvl
     rw [if_pos (by decide)] at e1
     rw [e1, if_pos rfl, if_pos rfl, hN, hF, if_neg (by decide), if_neg (by decide)]
     exact ⟨by omega, rfl⟩
    ·subst h3
     have hvl : v < 65536 := hvl
     rw [if_neg (fun h => h rfl)] at e1
     refine EvIf.dec (fun (h : (v : Int) > 1024) => ?_) (fun (h : ¬ (v : Int) > 1024) => ?_)
     ·rw [if_pos (by omega)] at e1
      rw [e1]
      exact rfl
     ·rw [if_neg (by omega)] at e1
      have z2 : szN 3 = 2 := rfl
      rw [z2]
      have hbl : (b.map gBy).length = b.length := List.length_map _
      rw [z2] at hbz hL
      refine ⟨by rw [hbl]; omega, ⟨by omega, ?_⟩⟩
      refine EvIf.dec (fun (h5 : (((b.map gBy).length : Nat) : Int) - (2 : Nat) < v) => ?_) (fun (h5 : ¬ (((b.map gBy).length : Nat) : Int) - (2 : Nat) < v) => ?_)
      ·rw [hbl] at h5
       rw [if_pos (by omega)] at e1
       rw [e1]
       exact rfl
      ·rw [hbl] at h5
       rw [if_neg (by omega)] at e1
       rw [e1, if_pos rfl, if_pos rfl, hN, hF, if_pos rfl, if_pos rfl]
       refine ⟨by omega, ⟨by omega, ⟨⟨by omega, by omega, by rw [hbl]; omega⟩, ⟨hlen, EvBytes.mk ⟨(b.drop 2).take v, ?_, ⟨by omega, ⟨by omega, rfl⟩⟩⟩⟩⟩⟩⟩
       unfold subL
       rw [show (((2 : Nat) : Int) + (v : Int)).toNat = v + 2 by omega, show (((2 : Nat) : Int)).toNat = 2 from rfl, ← List.map_take, ← List.map_drop, List.drop_take]
       rfl
end Go.Proofs.YtalfffamppmooaaGreatDoor
namespace Go.Proofs.YtalfffamppmooaaGreatDoor
open Go.RowKit
set_option maxRecDepth 100000
abbrev tFd : Nat := 128
def gNi (k : Int) : List G := [gI k]
theorem drop_gBy (b : Bs) (n : Nat) : subL (b.map gBy) (n : Int).toNat (((b.map gBy).length : Nat) : Int).toNat = (b.drop n).map gBy := by
 unfold subL
 rw [Int.toNat_natCast, Int.toNat_natCast, List.take_of_length_le (by simp), List.map_drop]
theorem gBy_len (b : Bs) : ∀ r ∈ b.map gBy, r.length = 1 := fun r hr => by
 obtain ⟨x, -, rfl⟩ := List.mem_map.1 hr
 rfl
def smG (s : Sm) : G := .tup [.sl (s.l.map enFd), gI s.n, gI s.e]
theorem some_v (ks : List Int) (b : Bs) (hk : ks.length ≤ 1000000) (hb : b.length ≤ 1000000000) : FnV Tryz.prog 71 [.sl (ks.map gNi), .sl (b.map gBy)] fun g => g = smG (somR ks b) := by
 refine fnG Tryz.func71 (by kernel_rfl) rfl (Nat.le_of_ble_eq_true (by kernel_rfl)) (by kernel_rfl) ?_
 refine sx_loop [0, 1, 5, 6, 14, 15] [0] (fun i : Nat => [(16, gI i), (8, gI ((somR (ks.take i) b).n : Int)), (7, .osl 1)]) (fun i => [(1, .slc ((somR (ks.take i) b).l.map enFd) tFd 3)]) (fun i => i ≤ ks.length ∧ (somR (ks.take i) b).e = 0) (fun i => ks.length - i) 0 ⟨by omega, rfl⟩ ⟨⟨rfl, rfl⟩, ⟨rfl, rfl⟩, ⟨rfl, rfl⟩, trivial⟩ ⟨⟨rfl, rfl, rfl⟩, trivial⟩ rfl fun i hi => ?_
 obtain ⟨hi, h0⟩ := hi
 refine EvIf.dec (fun h => ?_) (fun h => ?_)
 ·refine EvIdx.of (by simpa using h) fun k hx => ?_
  have hlt := lt_of_at hx
  have hle := somR_le (ks.take i) b
  refine ⟨⟨by omega, by rw [List.length_map]; omega, by omega⟩, ⟨gBy_len b, ?_⟩⟩
  rw [drop_gBy]
  refine (next_v k (b.drop (somR (ks.take i) b).n) (by rw [List.length_drop]; omega)).cal fun q hq => ?_
  subst hq
  unfold nxR
  refine EvIf.bne (fun he => ?_) (fun he => ?_)
  ·rw [somR_err ks b i k hx h0 he]
   exact rfl
  ·have he : nxE k (b.drop (somR (ks.take i) b).n) = 0 := he
   have hs := somR_snoc (ks.take i) b k h0
   rw [← take_more hx, if_neg (fun h => h he)] at hs
   have hl := hle.2 h0
   rw [List.length_take] at hl
   have hn2 := nxE_le he
   rw [List.length_drop] at hn2
   rw [if_pos he, if_pos he]
   refine ⟨by simp; omega, ⟨by omega, ⟨by omega, i + 1, ⟨by omega, by rw [hs]⟩, (by dsimp only; omega), ?_⟩⟩⟩
   refine ⟨?_, ?_, rfl⟩ <;> repeat' (first | exact True.intro | with_reducible rfl | exact rfl | refine And.intro ?_ ?_)
   ·exact eqI (by rw [hs]; simp only; omega)
   ·exact eqR (by rw [hs, List.map_append]; rfl)
 ·have ht : ks.take i = ks := List.take_of_length_le (by simp at h; omega)
  rw [ht] at h0 ⊢
  unfold smG
  rw [h0]
  exact rfl
theorem decode_v (ks : List Int) (b : Bs) (hk : ks.length ≤ 1000000) (hb : b.length ≤ 1000000000) : FnV Tryz.prog 111 [.sl (ks.map gNi), .sl (b.map gBy)] fun g => g = .tup [.sl ((decR ks b).l.map enFd), gI (decR ks b).e] := by
 refine fnG Tryz.func111 (by kernel_rfl) rfl (Nat.le_of_ble_eq_true (by kernel_rfl)) (by kernel_rfl) ?_
 refine (some_v ks b hk hb).cal fun q hq => ?_
 subst hq
 unfold smG decR
 have hle := (somR_le ks b).1
 refine EvIf.bne (fun he => ?_) (fun he => ?_)
 ·rw [if_pos he]; exact rfl
 ·have he : (somR ks b).e = 0 := he
  rw [if_neg (fun h => h he)]
  refine EvIf.dec (fun h => ?_) (fun h => ?_)
  ·have h : (((somR ks b).n : Nat) : Int) < b.length := by simpa using h
   rw [if_pos (by omega)]; exact rfl
  ·have h : ¬ (((somR ks b).n : Nat) : Int) < b.length := by simpa using h
   rw [if_neg (by omega), he]; exact rfl
end Go.Proofs.YtalfffamppmooaaGreatDoor

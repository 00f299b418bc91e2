/- A part of the proof, merged from several texts. -/
import Derived.Test.YtalfffamppmooaaGreatDoorPKN
import Derived.Test.YtalfffamppmooaaGreatDoorPKM
import Derived.Test.YtalfffamppmooaaGreatDoorSM2
import Derived.Test.YtalfffamppmooaaGreatDoorSxMc
import Derived.Test.YtalfffamppmooaaGreatDoorZZSm
namespace Go.Proofs.YtalfffamppmooaaGreatDoor
open Go.RowKit
set_option maxRecDepth 100000
theorem small_v (n : Int) : FnV Tryz.prog 62 [gI n] fun g => g = .agg (enFd ⟨1, n, eS⟩) := by
 refine fnG Tryz.func62 (by kernel_rfl) rfl (Nat.le_of_ble_eq_true (by kernel_rfl)) (by kernel_rfl) ?_
 exact rfl
theorem whole_v (n : Int) : FnV Tryz.prog 63 [gI n] fun g => g = .agg (enFd ⟨2, n, eS⟩) := by
 refine fnG Tryz.func63 (by kernel_rfl) rfl (Nat.le_of_ble_eq_true (by kernel_rfl)) (by kernel_rfl) ?_
 exact rfl
theorem text_v (s : ByteArray) : FnV Tryz.prog 64 [gS s] fun g => g = .agg (enFd ⟨3, 0, s⟩) := by
 refine fnG Tryz.func64 (by kernel_rfl) rfl (Nat.le_of_ble_eq_true (by kernel_rfl)) (by kernel_rfl) ?_
 exact rfl
theorem flag_v (b : Bool) : FnV Tryz.prog 106 [.v (.bool b)] fun g => g = gI (bI b) := by
 refine fnG Tryz.func106 (by kernel_rfl) rfl (Nat.le_of_ble_eq_true (by kernel_rfl)) (by kernel_rfl) ?_
 exact EvIf.mk (fun h => by rw [h]; rfl) fun h => by rw [h]; rfl
theorem bit_v (b : Bool) : FnV Tryz.prog 65 [.v (.bool b)] fun g => g = .agg (enFd ⟨4, bI b, eS⟩) := by
 refine fnG Tryz.func65 (by kernel_rfl) rfl (Nat.le_of_ble_eq_true (by kernel_rfl)) (by kernel_rfl) ?_
 refine (flag_v b).cal fun q hq => ?_
 subst hq
 exact rfl
theorem field_r (k n : Int) (s : ByteArray) : FnV Tryz.prog 67 [gI k, gI n, gS s] fun g => g = .agg (enFd ⟨k, n, s⟩) := by
 refine fnG Tryz.func67 (by kernel_rfl) rfl (Nat.le_of_ble_eq_true (by kernel_rfl)) (by kernel_rfl) ?_
 exact rfl
theorem numb_r (b : Bool) : FnV Tryz.prog 68 [.v (.bool b)] fun g => g = gI (bI b) := by
 refine fnG Tryz.func68 (by kernel_rfl) rfl (Nat.le_of_ble_eq_true (by kernel_rfl)) (by kernel_rfl) ?_
 exact EvIf.mk (fun h => by rw [h]; rfl) fun h => by rw [h]; rfl
theorem chs_more {t : RT} {i : Nat} {c : RC} {v : Int} (hc : t.l[i]? = some c) (hv : veP c.ve = v) : (hdF t ++ chsF (t.l.take i)).map enFd ++ (chF c v).map enFd = (hdF t ++ chsF (t.l.take (i + 1))).map enFd := by
 subst hv
 rw [take_more hc, chsF_snoc, ← List.append_assoc, List.map_append (l₁ := hdF t ++ chsF (t.l.take i))]
def RgT (t : RT) : Prop := ∀ c ∈ t.l, -9223372036854775808 ≤ c.ve
def wrR (t : RT) : G := .tup [.sl ((bT t).map gBy), gI (eT t)]
theorem wrR_bad {t : RT} (h : ¬ okT t) : G.tup [.sl [], gI 110] = wrR t := by unfold wrR bT eT; rw [if_neg h, if_neg h]; rfl
theorem encode11_v (t : RT) (hr : RgT t) : FnV Tryz.prog 29 [.agg (enT t)] fun g => g = wrR t := by
 refine fnG Tryz.func29 (by kernel_rfl) rfl (Nat.le_of_ble_eq_true (by kernel_rfl)) (by kernel_rfl) ?_
 refine EvIf.dec (fun h => ?_) (fun h => ?_)
 ·have h : ((t.l.map enC).length : Int) > 6 := h
  rw [List.length_map] at h
  exact wrR_bad fun ho => by have := ho.1; omega
 have h : ¬ ((t.l.map enC).length : Int) > 6 := h
 rw [List.length_map] at h
 have e6 : (t.l.map enC).length = t.l.length := List.length_map ..
 refine (small_v _).con rfl ?_
 refine (whole_v _).con rfl ?_
 refine (whole_v _).con rfl ?_
 refine (whole_v _).con rfl ?_
 refine (whole_v _).con rfl ?_
 refine (small_v _).con rfl ?_
 refine sx_loop [1, 2, 35, 36] [0, 1] (fun i : Nat => [(37, gI i), (4, .osl 2)]) (fun i => [(2, .slc ((hdF t ++ chsF (t.l.take i)).map enFd) tFd 3)]) (fun i => i ≤ t.l.length) (fun i => t.l.length - i) 0 (by omega) ⟨⟨rfl, rfl⟩, ⟨rfl, rfl⟩, trivial⟩ ⟨⟨rfl, rfl, eqR (by unfold hdF; rw [← e6]; rfl)⟩, trivial⟩ rfl fun i hi => ?_
 refine EvIf.dec (fun hl => ?_) (fun hl => ?_)
 ·refine EvIdx.of (by simpa using hl) fun c hc => ?_
  have hlt := lt_of_at hc
  have hcv := hr c (List.mem_of_getElem? hc)
  have hlen := txF_len t
  refine EvIf.dec (fun (hv : c.ve < 4611686018427387904) => ?_) (fun (hv : ¬ c.ve < 4611686018427387904) => ?_)
  ·have e : veP c.ve = c.ve + 1 := by unfold veP; rw [if_pos (show c.ve < big from hv)]
   refine ⟨by omega, ?_⟩
   refine (small_v _).con rfl ?_
   refine (text_v _).con rfl ?_
   refine (text_v _).con rfl ?_
   refine (whole_v _).con rfl ?_
   refine (bit_v _).con rfl ?_
   refine (bit_v _).con rfl ?_
   refine ⟨by simp [chsF_len, hdF]; omega, ?_⟩
   refine ⟨by omega, i + 1, by omega, (by dsimp only; omega), ?_⟩
   refine ⟨?_, ?_, rfl⟩ <;> repeat' (first | exact True.intro | with_reducible rfl | exact rfl | refine And.intro ?_ ?_)
   exact eqR (chs_more hc e)
  ·have e : veP c.ve = -1 := by unfold veP; rw [if_neg (show ¬ c.ve < big from hv)]
   refine (small_v _).con rfl ?_
   refine (text_v _).con rfl ?_
   refine (text_v _).con rfl ?_
   refine (whole_v _).con rfl ?_
   refine (bit_v _).con rfl ?_
   refine (bit_v _).con rfl ?_
   refine ⟨by simp [chsF_len, hdF]; omega, ?_⟩
   refine ⟨by omega, i + 1, by omega, (by dsimp only; omega), ?_⟩
   refine ⟨?_, ?_, rfl⟩ <;> repeat' (first | exact True.intro | with_reducible rfl | exact rfl | refine And.intro ?_ ?_)
   exact eqR (chs_more hc e)
 ·have ht : t.l.take i = t.l := List.take_of_length_le (by simp at hl; omega)
  rw [ht]
  refine (encode_o (txF t) (by rw [txF_len]; omega)).cal fun q rs hq => ?_
  obtain ⟨rfl, rfl⟩ := hq
  refine EvIf.bne (fun (he : encE (txF t) ≠ 0) => ?_) (fun (he : encE (txF t) = 0) => ?_)
  ·exact wrR_bad fun ho => he ho.2.1
  ·have eR : encR (txF t) = encB (txF t) := by unfold encR; rw [if_pos he]
   rw [eR]
   refine EvIf.dec (fun hh => ?_) (fun hh => ?_)
   ·have hh : ((((encB (txF t)).map gBy).length : Nat) : Int) > 4096 := hh
    rw [List.length_map] at hh
    exact wrR_bad fun ho => by have := ho.2.2; omega
   ·have hh : ¬ ((((encB (txF t)).map gBy).length : Nat) : Int) > 4096 := hh
    rw [List.length_map] at hh
    have ho : okT t := ⟨by omega, he, by omega⟩
    show _ = wrR t
    unfold wrR bT eT
    rw [if_pos ho, if_pos ho]
    rfl
set_option maxHeartbeats 1000000 in
theorem encode11_r (t : RT) (hr : RgT t) (hn : t.l.length ≤ 100000) : FnV Tryz.prog 30 [.agg (enT t)] fun g => g = wrR t := by
 refine fnG Tryz.func30 (by kernel_rfl) rfl (Nat.le_of_ble_eq_true (by kernel_rfl)) (by kernel_rfl) ?_
 have e6 : (t.l.map enC).length = t.l.length := List.length_map ..
 refine (field_r _ _ _).con rfl ?_
 refine (field_r _ _ _).con rfl ?_
 refine (field_r _ _ _).con rfl ?_
 refine (field_r _ _ _).con rfl ?_
 refine (field_r _ _ _).con rfl ?_
 refine (field_r _ _ _).con rfl ?_
 refine sx_loop [1, 2] [0, 1] (fun i : Nat => [(5, gI i), (4, .osl 2)]) (fun i => [(2, .slc ((hdF t ++ chsF (t.l.take i)).map enFd) tFd 3)]) (fun i => i ≤ t.l.length) (fun i => t.l.length - i) 0 (by omega) ⟨⟨rfl, rfl⟩, ⟨rfl, rfl⟩, trivial⟩ ⟨⟨rfl, rfl, eqR (by unfold hdF; rw [← e6]; rfl)⟩, trivial⟩ rfl fun i hi => ?_
 refine EvIf.dec (fun hl => ?_) (fun hl => ?_)
 ·refine EvIdx.of (by simpa using hl) fun c hc => ?_
  have hlt := lt_of_at hc
  have hcv := hr c (List.mem_of_getElem? hc)
  have hcm := List.mem_of_getElem? hc
  refine EvIf.dec (fun (hv : c.ve < -1) => ?_) (fun (hv : ¬ c.ve < -1) => ?_)
  ·exact wrR_bad fun ho => by have := okT_ve ho c hcm; omega
  refine EvIf.dec (fun (hw : c.ve ≥ 4611686018427387904) => ?_) (fun (hw : ¬ c.ve ≥ 4611686018427387904) => ?_)
  ·exact wrR_bad fun ho => by have := okT_ve ho c hcm; unfold big at this; omega
  have e : veP c.ve = c.ve + 1 := by unfold veP; rw [if_pos (show c.ve < big by unfold big; omega)]
  refine ⟨by omega, ?_⟩
  refine (field_r _ _ _).con rfl ?_
  refine (field_r _ _ _).con rfl ?_
  refine (field_r _ _ _).con rfl ?_
  refine (field_r _ _ _).con rfl ?_
  refine (numb_r _).con rfl ?_
  refine (field_r _ _ _).con rfl ?_
  refine (numb_r _).con rfl ?_
  refine (field_r _ _ _).con rfl ?_
  refine ⟨by simp [chsF_len, hdF]; omega, ?_⟩
  refine ⟨by omega, i + 1, by omega, (by dsimp only; omega), ?_⟩
  refine ⟨?_, ?_, rfl⟩ <;> repeat' (first | exact True.intro | with_reducible rfl | exact rfl | refine And.intro ?_ ?_)
  exact eqR (chs_more hc e)
 ·have ht : t.l.take i = t.l := List.take_of_length_le (by simp at hl; omega)
  rw [ht]
  refine (encode_r (txF t) (by rw [txF_len]; omega)).cal fun q hq => ?_
  subst hq
  refine EvIf.bne (fun (he : encE (txF t) ≠ 0) => ?_) (fun (he : encE (txF t) = 0) => ?_)
  ·exact wrR_bad fun ho => he ho.2.1
  ·have eR : encR (txF t) = encB (txF t) := by unfold encR; rw [if_pos he]
   rw [eR]
   refine EvIf.dec (fun hh => ?_) (fun hh => ?_)
   ·have hh : (((t.l.map enC).length : Nat) : Int) > 6 := hh
    rw [List.length_map] at hh
    exact wrR_bad fun ho => by have := ho.1; omega
   have h6 : ¬ (((t.l.map enC).length : Nat) : Int) > 6 := hh
   rw [List.length_map] at h6
   refine EvIf.dec (fun hh => ?_) (fun hh => ?_)
   ·have hh : ((((encB (txF t)).map gBy).length : Nat) : Int) > 4096 := hh
    rw [List.length_map] at hh
    exact wrR_bad fun ho => by have := ho.2.2; omega
   ·have hh : ¬ ((((encB (txF t)).map gBy).length : Nat) : Int) > 4096 := hh
    rw [List.length_map] at hh
    have ho : okT t := ⟨by omega, he, by omega⟩
    show _ = wrR t
    unfold wrR bT eT
    rw [if_pos ho, if_pos ho]
    rfl
end Go.Proofs.YtalfffamppmooaaGreatDoor
namespace Go.Proofs.YtalfffamppmooaaGreatDoor
open Go.RowKit
set_option maxRecDepth 100000
theorem kinds_v : FnV Tryz.prog 70 [] fun g => g = .tup [.sl (kHd.map gNi), .sl (kCh.map gNi)] := by
 refine fnG Tryz.func70 (by kernel_rfl) rfl (Nat.le_of_ble_eq_true (by kernel_rfl)) (by kernel_rfl) ?_
 exact rfl
theorem cnt_of {b : Bs} {a c d e f g : RFd} (h : (somR kHd b).e = 0) (hl : (somR kHd b).l = [a, c, d, e, f, g]) : cntT b = g.n ∧ 0 ≤ g.n ∧ g.n ≤ 255 := by
 refine ⟨by unfold cntT; rw [hl], ?_⟩
 obtain ⟨e1, e2, e3⟩ := enc_som kHd b h
 rw [hl] at e1 e3
 simp only [List.map_cons, List.map_nil, kHd, List.cons.injEq, and_true] at e3
 have zg := encE_zero e1 g (by simp)
 rcases fd_form zg with ⟨hh, -⟩ | ⟨hh, -, h0⟩
 ·omega
 ·omega
structure DecI (b : Bs) (i : Nat) (c : Bs) (n : Nat) : Prop where
 ee : (somR (kChs i) (b.drop (somR kHd b).n)).e = 0
 nle : n ≤ c.length
 len : c.length ≤ b.length
 dd : c.drop n = (b.drop (somR kHd b).n).drop (somR (kChs i) (b.drop (somR kHd b).n)).n
def decL (b : Bs) (i : Nat) : List RC := toC (somR (kChs i) (b.drop (somR kHd b).n)).l
theorem decI_step {b c : Bs} {i n : Nat} (h : DecI b i c n) (h0 : (somR kCh (c.drop n)).e = 0) : DecI b (i + 1) (c.drop n) (somR kCh (c.drop n)).n ∧ ∃ x1 x2 x3 x4 x5 x6, (somR kCh (c.drop n)).l = [x1, x2, x3, x4, x5, x6] ∧ (0 ≤ x4.n ∧ x4.n ≤ 4611686018427387904) ∧ decL b (i + 1) = decL b i ++ [⟨x1.n, x2.s, x3.s, x4.n - 1, decide (x5.n = 1), decide (x6.n = 1)⟩] := by
 have ha := somR_app (kChs i) kCh (b.drop (somR kHd b).n) h.ee
 rw [← h.dd, if_neg (fun hh => hh h0)] at ha
 have hk : kChs (i + 1) = kChs i ++ kCh := rfl
 have h6 := (somR_le kCh (c.drop n)).2 h0
 have hle := (somR_le kCh (c.drop n)).1
 refine ⟨⟨by rw [hk, ha], hle, by rw [List.length_drop]; have := h.len; omega, ?_⟩, ?_⟩
 ·rw [hk, ha, ← List.drop_drop, ← h.dd]
 ·match hl : (somR kCh (c.drop n)).l, h6 with
  | [x1, x2, x3, x4, x5, x6], _ =>
   refine ⟨x1, x2, x3, x4, x5, x6, rfl, ?_, ?_⟩
   ·obtain ⟨e1, e2, e3⟩ := enc_som kCh _ h0
    rw [hl] at e1 e3
    simp only [List.map_cons, List.map_nil, kCh, List.cons.injEq, and_true] at e3
    rcases fd_form (encE_zero e1 x4 (by simp)) with ⟨hh, -⟩ | ⟨hb, -, hh⟩
    ·omega
    ·unfold big at hb; omega
   ·unfold decL
    rw [hk, ha, hl]
    have := (somR_le (kChs i) (b.drop (somR kHd b).n)).2 h.ee
    rw [kChs_len] at this
    rw [toC_app i _ _ this]
    rfl
theorem decI_bad {b c : Bs} {i k n : Nat} (h : DecI b i c n) (h0 : (somR kCh (c.drop n)).e ≠ 0) (hi : i < k) (hk : cntT b = k) : ¬ okD b := fun ho => by
 obtain ⟨d1, -, -⟩ := decR_ok ho.2.2.2
 rw [hk, Int.toNat_natCast, show k = i + 1 + (k - (i + 1)) by omega, kChs_add] at d1
 have ha := somR_app (kChs i) kCh (b.drop (somR kHd b).n) h.ee
 rw [← h.dd, if_pos h0] at ha
 have hb : (somR (kChs (i + 1)) (b.drop (somR kHd b).n)).e ≠ 0 := by
  show (somR (kChs i ++ kCh) _).e ≠ 0
  rw [ha]; exact h0
 rw [somR_app_bad _ _ _ hb] at d1
 exact hb d1
theorem decI_end {b c : Bs} {k n : Nat} (h : DecI b k c n) (h0 : (somR kHd b).e = 0) (hk : cntT b = k) (h6 : k ≤ 6) (hb : b.length ≤ 4096) : okD b ↔ ¬ n < c.length := by
 have hd : (c.drop n).length = ((b.drop (somR kHd b).n).drop (somR (kChs k) (b.drop (somR kHd b).n)).n).length := by rw [h.dd]
 rw [List.length_drop, List.length_drop] at hd
 have hle := (somR_le (kChs k) (b.drop (somR kHd b).n)).1
 have hn := h.nle
 constructor
 ·intro ho
  obtain ⟨-, d2, -⟩ := decR_ok ho.2.2.2
  rw [hk, Int.toNat_natCast] at d2
  omega
 ·intro hh
  refine ⟨h0, by omega, hb, ?_⟩
  rw [hk, Int.toNat_natCast]
  unfold decR
  rw [if_neg (fun hh => hh h.ee), if_neg (fun hh => hh (by omega))]
  exact h.ee
def rdR (b : Bs) : G := .tup [.agg (enT (tD b)), gI (eD b)]
theorem rdR_bad {b : Bs} (h : ¬ okD b) : G.tup [.agg (enT rt0), gI 110] = rdR b := by unfold rdR tD eD; rw [if_neg h, if_neg h]
theorem rdR_ok {b : Bs} {a c d e f g : RFd} {L : List RC} (h : okD b) (hl : (somR kHd b).l = [a, c, d, e, f, g]) (hL : L = decL b (cntT b).toNat) : G.tup [.agg (enT ⟨a.n, c.n, d.n, e.n, f.n, L⟩), gI 0] = rdR b := by
 obtain ⟨-, -, d3⟩ := decR_ok h.2.2.2
 unfold rdR tD eD
 rw [if_pos h, if_pos h, hl, d3, hL]; rfl
inductive DecX where
 | a
 | b (i : Nat) (c : Bs) (n : Nat)
def decD (b0 : Bs) : DecX → Ts
 | .a => [(64, gI ((0 : Nat) : Int)), (0, .sl (b0.map gBy)), (7, gI ((somR kHd b0).n : Nat))]
 | .b i c n => [(64, gI (i : Nat)), (0, .sl (c.map gBy)), (7, gI (n : Nat)), (110, .osl 1)]
abbrev tTx : Nat := 46
abbrev tCh : Nat := 65
def decO (b0 : Bs) (h : List G) : DecX → Os
 | .a => [(2, .blk (h ++ [.nl]) tTx)]
 | .b i _ _ => [(2, .blk (h ++ [.osl 1]) tTx), (1, .slc ((decL b0 i).map enC) tCh 6)]
def decP (b0 : Bs) (k : Nat) : DecX → Prop
 | .a => True
 | .b i c n => i ≤ k ∧ DecI b0 i c n
def decM (k : Nat) : DecX → Nat
 | .a => k
 | .b i _ _ => k - i
set_option maxHeartbeats 1000000 in
theorem decode11_v (b : Bs) (hb : b.length ≤ 2000000) : FnV Tryz.prog 31 [.sl (b.map gBy)] fun g => g = rdR b := by
 refine fnG Tryz.func31 (by kernel_rfl) rfl (Nat.le_of_ble_eq_true (by kernel_rfl)) (by kernel_rfl) ?_
 refine (kinds_v).pad.cal fun q rs hq => ?_
 obtain ⟨rfl, rfl⟩ := hq
 refine (some_v kHd b (by decide) (by omega)).cal fun q hq => ?_
 subst hq
 unfold smG
 refine EvIf.bne (fun he => ?_) (fun he => ?_)
 ·exact rdR_bad fun ho => he ho.1
 have he : (somR kHd b).e = 0 := he
 obtain ⟨a, c, d, e, f, g, hl⟩ := hd_of he
 obtain ⟨hC, hg0, hg1⟩ := cnt_of he hl
 have hnl := (somR_le kHd b).1
 rw [hl]
 refine EvIdx.atI (f := enFd) (l := [a, c, d, e, f, g]) (by decide) rfl ?_
 refine EvIf.dec (fun (hh : g.n > 6) => ?_) (fun (h6 : ¬ g.n > 6) => ?_)
 ·exact rdR_bad fun ho => by have := ho.2.1; omega
 refine EvIf.dec (fun hh => ?_) (fun hh => ?_)
 ·have hh : (((b.map gBy).length : Nat) : Int) > 4096 := hh
  rw [List.length_map] at hh
  exact rdR_bad fun ho => by have := ho.2.2.1; omega
 have hb4 : ¬ (((b.map gBy).length : Nat) : Int) > 4096 := hh
 rw [List.length_map] at hb4
 refine EvIdx.atI (f := enFd) (l := [a, c, d, e, f, g]) (by decide) rfl ?_
 refine EvIdx.atI (f := enFd) (l := [a, c, d, e, f, g]) (by decide) rfl ?_
 refine EvIdx.atI (f := enFd) (l := [a, c, d, e, f, g]) (by decide) rfl ?_
 refine EvIdx.atI (f := enFd) (l := [a, c, d, e, f, g]) (by decide) rfl ?_
 refine EvIdx.atI (f := enFd) (l := [a, c, d, e, f, g]) (by decide) rfl ?_
 refine EvIdx.atI (f := enFd) (l := [a, c, d, e, f, g]) (by decide) rfl ?_
 have hgp : cntT b = (g.n.toNat : Nat) := by rw [hC]; omega
 refine sx_loop [2, 5, 9, 63] [0] (decD b) (decO b [gI a.n, gI c.n, gI d.n, gI e.n, gI f.n]) (decP b g.n.toNat) (decM g.n.toNat) .a trivial ⟨⟨rfl, rfl⟩, ⟨rfl, rfl⟩, ⟨rfl, rfl⟩, trivial⟩ ⟨⟨rfl, rfl, rfl⟩, trivial⟩ rfl fun x hI => ?_
 cases x with
 | a =>
  have hD : DecI b 0 b (somR kHd b).n := ⟨rfl, hnl, Nat.le_refl _, by rw [List.drop_drop]; rfl⟩
  refine EvIf.dec (fun (hi : ((0 : Nat) : Int) < g.n) => ?_) (fun (hi : ¬ ((0 : Nat) : Int) < g.n) => ?_)
  ·have hlt : 0 < g.n.toNat := by omega
   refine ⟨⟨by omega, by rw [List.length_map]; omega, by omega⟩, ⟨gBy_len b, ?_⟩⟩
   rw [drop_gBy]
   refine (some_v kCh (b.drop (somR kHd b).n) (by decide) (by rw [List.length_drop]; omega)).cal fun q hq => ?_
   subst hq
   unfold smG
   refine EvIf.bne (fun h0 => ?_) (fun h0 => ?_)
   ·exact rdR_bad (decI_bad hD h0 hlt (by omega))
   have h0 : (somR kCh (b.drop (somR kHd b).n)).e = 0 := h0
   obtain ⟨hD2, x1, x2, x3, x4, x5, x6, hx, hx4, hst⟩ := decI_step hD h0
   have hdl : (decL b 0).length ≤ 1000 := by
    have := (somR_le (kChs 0) (b.drop (somR kHd b).n)).2 hD.ee
    rw [kChs_len] at this
    unfold decL
    rw [toC_len 0 _ this]; omega
   rw [hx]
   refine EvIdx.atI (f := enFd) (l := [x1, x2, x3, x4, x5, x6]) (by decide) rfl ?_
   refine EvIdx.atI (f := enFd) (l := [x1, x2, x3, x4, x5, x6]) (by decide) rfl ?_
   refine EvIdx.atI (f := enFd) (l := [x1, x2, x3, x4, x5, x6]) (by decide) rfl ?_
   refine EvIdx.atI (f := enFd) (l := [x1, x2, x3, x4, x5, x6]) (by decide) rfl ?_
   refine ⟨by omega, ?_⟩
   refine EvIdx.atI (f := enFd) (l := [x1, x2, x3, x4, x5, x6]) (by decide) rfl ?_
   refine EvIdx.atI (f := enFd) (l := [x1, x2, x3, x4, x5, x6]) (by decide) rfl ?_
   refine ⟨by simp; try omega, ?_⟩
   refine ⟨by omega, .b (0 + 1) (b.drop (somR kHd b).n) (somR kCh (b.drop (somR kHd b).n)).n, ⟨by omega, hD2⟩, (by dsimp only [decM]; omega), ?_⟩
   refine ⟨?_, ?_, rfl⟩ <;> repeat' (first | exact True.intro | with_reducible rfl | exact rfl | refine And.intro ?_ ?_)
   exact eqR (by rw [hst]; rfl)
  ·have hi2 : 0 = g.n.toNat := by omega
   refine EvIf.dec (fun hh => ?_) (fun hh => ?_)
   ·have hh : (((somR kHd b).n : Nat) : Int) < (((b.map gBy).length : Nat) : Int) := hh
    rw [List.length_map] at hh
    exact rdR_bad fun ho => (decI_end hD he (by omega) (by omega) (by omega)).1 ho (by omega)
   ·have hh : ¬ (((somR kHd b).n : Nat) : Int) < (((b.map gBy).length : Nat) : Int) := hh
    rw [List.length_map] at hh
    have ho : okD b := (decI_end hD he (by omega) (by omega) (by omega)).2 (by omega)
    exact rdR_ok (L := []) ho hl (by rw [hC, ← hi2]; rfl)
 | b i c n =>
  obtain ⟨hik, hD⟩ := hI
  have hn := hD.nle
  have hcl := hD.len
  refine EvIf.dec (fun (hi : ((i : Nat) : Int) < g.n) => ?_) (fun (hi : ¬ ((i : Nat) : Int) < g.n) => ?_)
  ·have hlt : i < g.n.toNat := by omega
   refine ⟨⟨by omega, by rw [List.length_map]; omega, by omega⟩, ⟨gBy_len c, ?_⟩⟩
   rw [drop_gBy]
   refine (some_v kCh (c.drop n) (by decide) (by rw [List.length_drop]; omega)).cal fun q hq => ?_
   subst hq
   unfold smG
   refine EvIf.bne (fun h0 => ?_) (fun h0 => ?_)
   ·exact rdR_bad (decI_bad hD h0 hlt (by omega))
   have h0 : (somR kCh (c.drop n)).e = 0 := h0
   obtain ⟨hD2, x1, x2, x3, x4, x5, x6, hx, hx4, hst⟩ := decI_step hD h0
   have hdl : (decL b i).length ≤ 1000 := by
    have := (somR_le (kChs i) (b.drop (somR kHd b).n)).2 hD.ee
    rw [kChs_len] at this
    unfold decL
    rw [toC_len i _ this]; omega
   rw [hx]
   refine EvIdx.atI (f := enFd) (l := [x1, x2, x3, x4, x5, x6]) (by decide) rfl ?_
   refine EvIdx.atI (f := enFd) (l := [x1, x2, x3, x4, x5, x6]) (by decide) rfl ?_
   refine EvIdx.atI (f := enFd) (l := [x1, x2, x3, x4, x5, x6]) (by decide) rfl ?_
   refine EvIdx.atI (f := enFd) (l := [x1, x2, x3, x4, x5, x6]) (by decide) rfl ?_
   refine ⟨by omega, ?_⟩
   refine EvIdx.atI (f := enFd) (l := [x1, x2, x3, x4, x5, x6]) (by decide) rfl ?_
   refine EvIdx.atI (f := enFd) (l := [x1, x2, x3, x4, x5, x6]) (by decide) rfl ?_
   refine ⟨by simp; try omega, ?_⟩
   refine ⟨by omega, .b (i + 1) (c.drop n) (somR kCh (c.drop n)).n, ⟨by omega, hD2⟩, (by dsimp only [decM]; omega), ?_⟩
   refine ⟨?_, ?_, rfl⟩ <;> repeat' (first | exact True.intro | with_reducible rfl | exact rfl | refine And.intro ?_ ?_)
   exact eqR (by rw [hst, List.map_append]; rfl)
  ·have hi2 : i = g.n.toNat := by omega
   refine EvIf.dec (fun hh => ?_) (fun hh => ?_)
   ·have hh : ((n : Nat) : Int) < (((c.map gBy).length : Nat) : Int) := hh
    rw [List.length_map] at hh
    exact rdR_bad fun ho => (decI_end hD he (by omega) (by omega) (by omega)).1 ho (by omega)
   ·have hh : ¬ ((n : Nat) : Int) < (((c.map gBy).length : Nat) : Int) := hh
    rw [List.length_map] at hh
    have ho : okD b := (decI_end hD he (by omega) (by omega) (by omega)).2 (by omega)
    exact rdR_ok (L := decL b i) ho hl (by rw [hC, ← hi2])
end Go.Proofs.YtalfffamppmooaaGreatDoor
namespace Go.Proofs.YtalfffamppmooaaGreatDoor
open Go.RowKit
set_option maxRecDepth 100000
theorem ix6 {l : List RFd} {i j : Nat} {x : RFd} (h : l[6 * i + j]? = some x) : l[(6 * (i : Int) + (j : Int)).toNat]? = some x := by
 rw [show (6 * (i : Int) + (j : Int)).toNat = 6 * i + j by omega]; exact h
theorem ix60 {l : List RFd} {i : Nat} {x : RFd} (h : l[6 * i]? = some x) : l[(6 * (i : Int)).toNat]? = some x := by
 rw [show (6 * (i : Int)).toNat = 6 * i by omega]; exact h
def dec2D : DecX → Ts
 | .a => [(12, gI ((0 : Nat) : Int))]
 | .b i _ _ => [(12, gI (i : Nat)), (131, .osl 1)]
abbrev tR11T : Nat := 38
def dec2O (C : List RC) (h : List G) : DecX → Os
 | .a => [(3, .blk (h ++ [.nl]) tR11T)]
 | .b i _ _ => [(3, .blk (h ++ [.osl 1]) tR11T), (1, .slc ((C.take i).map enC) tCh 6)]
def dec2P (k : Nat) : DecX → Prop
 | .a => True
 | .b i _ _ => i ≤ k
theorem kChs_more (i : Nat) : (kChs i).map gNi ++ kCh.map gNi = (kChs (i + 1)).map gNi := by
 show _ = (kChs i ++ kCh).map gNi
 rw [List.map_append]
set_option maxHeartbeats 2000000 in
theorem decode11_r (b : Bs) (hb : b.length ≤ 2000000) : FnV Tryz.prog 33 [.sl (b.map gBy)] fun g => g = rdR b := by
 refine fnG Tryz.func33 (by kernel_rfl) rfl (Nat.le_of_ble_eq_true (by kernel_rfl)) (by kernel_rfl) ?_
 refine (some_r kHd b (by decide) (by omega)).cal fun q hq => ?_
 subst hq
 unfold smG
 refine EvIf.bne (fun he => ?_) (fun he => ?_)
 ·exact rdR_bad fun ho => he ho.1
 have he : (somR kHd b).e = 0 := he
 obtain ⟨a, c, d, e, f, g, hl⟩ := hd_of he
 obtain ⟨hC, hg0, hg1⟩ := cnt_of he hl
 have hnl := (somR_le kHd b).1
 rw [hl]
 refine EvIdx.atI (f := enFd) (l := [a, c, d, e, f, g]) (by decide) rfl ?_
 refine EvIf.dec (fun (hh : g.n > 6) => ?_) (fun (h6 : ¬ g.n > 6) => ?_)
 ·exact rdR_bad fun ho => by have := ho.2.1; omega
 refine EvIf.dec (fun hh => ?_) (fun hh => ?_)
 ·have hh : (((b.map gBy).length : Nat) : Int) > 4096 := hh
  rw [List.length_map] at hh
  exact rdR_bad fun ho => by have := ho.2.2.1; omega
 have hb4 : ¬ (((b.map gBy).length : Nat) : Int) > 4096 := hh
 rw [List.length_map] at hb4
 have hgp : cntT b = (g.n.toNat : Nat) := by rw [hC]; omega
 refine sx_loop [0, 2, 4, 5] [0] (fun i : Nat => [(8, gI i), (7, .osl 2)]) (fun i => [(2, .slc ((kChs i).map gNi) 3 1)]) (fun i => i ≤ g.n.toNat) (fun i => g.n.toNat - i) 0 (by omega) ⟨⟨rfl, rfl⟩, ⟨rfl, rfl⟩, trivial⟩ ⟨⟨rfl, rfl, rfl⟩, trivial⟩ rfl fun i hi => ?_
 refine EvIdx.atI (f := enFd) (l := [a, c, d, e, f, g]) (by decide) rfl ?_
 refine EvIf.dec (fun (hi2 : ((i : Nat) : Int) < g.n) => ?_) (fun (hi2 : ¬ ((i : Nat) : Int) < g.n) => ?_)
 ·refine ⟨by simp [kChs_len]; omega, ?_⟩
  refine ⟨by omega, i + 1, by omega, (by dsimp only; omega), ?_⟩
  refine ⟨?_, ?_, rfl⟩ <;> repeat' (first | exact True.intro | with_reducible rfl | exact rfl | refine And.intro ?_ ?_)
  exact eqR (kChs_more i)
 have hig : i = g.n.toNat := by omega
 subst hig
 refine ⟨⟨by omega, by rw [List.length_map]; omega, by omega⟩, ⟨gBy_len b, ?_⟩⟩
 rw [drop_gBy]
 refine (decode_r (kChs g.n.toNat) (b.drop (somR kHd b).n) (by rw [kChs_len]; omega) (by rw [List.length_drop]; omega)).cal fun q hq => ?_
 subst hq
 refine EvIf.bne (fun hd => ?_) (fun hd => ?_)
 ·exact rdR_bad fun ho => hd (by have := ho.2.2.2; rwa [hgp, Int.toNat_natCast] at this)
 have hd : (decR (kChs g.n.toNat) (b.drop (somR kHd b).n)).e = 0 := hd
 have ho : okD b := ⟨he, by omega, by omega, by rw [hgp, Int.toNat_natCast]; exact hd⟩
 obtain ⟨d1, d2, d3⟩ := decR_ok hd
 have hLn := (somR_le (kChs g.n.toNat) (b.drop (somR kHd b).n)).2 d1
 rw [kChs_len, ← d3] at hLn
 obtain ⟨q1, q2, q3⟩ := enc_som _ _ d1
 rw [← d3] at q1
 have q1 := encE_zero q1
 have hCL := toC_len _ _ hLn
 have hLd : toC (decR (kChs g.n.toNat) (b.drop (somR kHd b).n)).l = decL b g.n.toNat := by unfold decL; rw [d3]
 generalize hLL : (decR (kChs g.n.toNat) (b.drop (somR kHd b).n)).l = LL at hLn q1 hCL hLd ⊢
 have rng4 : ∀ x ∈ LL, -4611686018427387904 ≤ x.n ∧ x.n ≤ 4611686018427387904 := fun x hx => by
  rcases fd_form (q1 x hx) with ⟨-, hh, -⟩ | ⟨hb, -, hh⟩
  ·omega
  ·unfold big at hb; omega
 refine EvIdx.atI (f := enFd) (l := [a, c, d, e, f, g]) (by decide) rfl ?_
 refine EvIdx.atI (f := enFd) (l := [a, c, d, e, f, g]) (by decide) rfl ?_
 refine EvIdx.atI (f := enFd) (l := [a, c, d, e, f, g]) (by decide) rfl ?_
 refine EvIdx.atI (f := enFd) (l := [a, c, d, e, f, g]) (by decide) rfl ?_
 refine EvIdx.atI (f := enFd) (l := [a, c, d, e, f, g]) (by decide) rfl ?_
 refine sx_loop [2, 4, 9, 11] [0] dec2D (dec2O (toC LL) [gI a.n, gI c.n, gI d.n, gI e.n, gI f.n]) (dec2P g.n.toNat) (decM g.n.toNat) .a trivial ⟨⟨rfl, rfl⟩, trivial⟩ ⟨⟨rfl, rfl, rfl⟩, trivial⟩ rfl fun x hI => ?_
 cases x with
 | a =>
  refine EvIdx.atI (f := enFd) (l := [a, c, d, e, f, g]) (by decide) rfl ?_
  refine EvIf.dec (fun (hi2 : ((0 : Nat) : Int) < g.n) => ?_) (fun (hi2 : ¬ ((0 : Nat) : Int) < g.n) => ?_)
  ·obtain ⟨x1, x2, x3, x4, x5, x6, h1, h2, h3, h4, h5, h6', hx⟩ := toC_at 0 g.n.toNat LL hLn (by omega)
   have r4 := rng4 x4 (List.mem_of_getElem? h4)
   refine ⟨by omega, ?_⟩
   refine EvIdx.atI (f := enFd) (l := LL) (by omega) (ix60 h1) ?_
   refine ⟨by omega, ?_⟩
   refine EvIdx.atI (f := enFd) (l := LL) (by omega) (ix6 (j := 1) h2) ?_
   refine ⟨by omega, ?_⟩
   refine EvIdx.atI (f := enFd) (l := LL) (by omega) (ix6 (j := 2) h3) ?_
   refine ⟨by omega, ?_⟩
   refine EvIdx.atI (f := enFd) (l := LL) (by omega) (ix6 (j := 3) h4) ?_
   refine ⟨by omega, ?_⟩
   refine ⟨by omega, ?_⟩
   refine EvIdx.atI (f := enFd) (l := LL) (by omega) (ix6 (j := 4) h5) ?_
   refine ⟨by omega, ?_⟩
   refine EvIdx.atI (f := enFd) (l := LL) (by omega) (ix6 (j := 5) h6') ?_
   refine ⟨by simp; try omega, ?_⟩
   refine ⟨by omega, .b (0 + 1) [] 0, (by show _ ≤ _; omega), (by dsimp only [decM]; omega), ?_⟩
   refine ⟨?_, ?_, rfl⟩ <;> repeat' (first | exact True.intro | with_reducible rfl | exact rfl | refine And.intro ?_ ?_)
   exact eqR (by rw [take_more hx]; rfl)
  ·have hi3 : 0 = g.n.toNat := by omega
   exact rdR_ok (L := []) ho hl (by rw [hC, ← hLd]; exact (List.eq_nil_of_length_eq_zero (by omega)).symm)
 | b i c0 n0 =>
  have hik : i ≤ g.n.toNat := hI
  refine EvIdx.atI (f := enFd) (l := [a, c, d, e, f, g]) (by decide) rfl ?_
  refine EvIf.dec (fun (hi2 : ((i : Nat) : Int) < g.n) => ?_) (fun (hi2 : ¬ ((i : Nat) : Int) < g.n) => ?_)
  ·obtain ⟨x1, x2, x3, x4, x5, x6, h1, h2, h3, h4, h5, h6', hx⟩ := toC_at i g.n.toNat LL hLn (by omega)
   have r4 := rng4 x4 (List.mem_of_getElem? h4)
   refine ⟨by omega, ?_⟩
   refine EvIdx.atI (f := enFd) (l := LL) (by omega) (ix60 h1) ?_
   refine ⟨by omega, ?_⟩
   refine EvIdx.atI (f := enFd) (l := LL) (by omega) (ix6 (j := 1) h2) ?_
   refine ⟨by omega, ?_⟩
   refine EvIdx.atI (f := enFd) (l := LL) (by omega) (ix6 (j := 2) h3) ?_
   refine ⟨by omega, ?_⟩
   refine EvIdx.atI (f := enFd) (l := LL) (by omega) (ix6 (j := 3) h4) ?_
   refine ⟨by omega, ?_⟩
   refine ⟨by omega, ?_⟩
   refine EvIdx.atI (f := enFd) (l := LL) (by omega) (ix6 (j := 4) h5) ?_
   refine ⟨by omega, ?_⟩
   refine EvIdx.atI (f := enFd) (l := LL) (by omega) (ix6 (j := 5) h6') ?_
   refine ⟨by simp; try omega, ?_⟩
   refine ⟨by omega, .b (i + 1) [] 0, (by show _ ≤ _; omega), (by dsimp only [decM]; omega), ?_⟩
   refine ⟨?_, ?_, rfl⟩ <;> repeat' (first | exact True.intro | with_reducible rfl | exact rfl | refine And.intro ?_ ?_)
   exact eqR (by rw [take_more hx, List.map_append]; rfl)
  ·have hi3 : i = g.n.toNat := by omega
   exact rdR_ok (L := (toC LL).take i) ho hl (by rw [hC, ← hLd, List.take_of_length_le (by omega)])
end Go.Proofs.YtalfffamppmooaaGreatDoor
namespace Go.Proofs.YtalfffamppmooaaGreatDoor
open Go.RowKit
set_option maxRecDepth 100000
theorem sametxn_r (t : RT) (hl : t.l.length ≤ 100000000) : FnV Tryz.prog 32 [.agg (enT t), .agg (enT t)] fun g => g = .v (.bool true) := by
 refine fnG Tryz.func32 (by kernel_rfl) rfl (Nat.le_of_ble_eq_true (by kernel_rfl)) (by kernel_rfl) ?_
 refine EvIf.bne (fun h => absurd rfl h) (fun _ => ?_)
 refine EvIf.bne (fun h => absurd rfl h) (fun _ => ?_)
 refine EvIf.bne (fun h => absurd rfl h) (fun _ => ?_)
 refine EvIf.bne (fun h => absurd rfl h) (fun _ => ?_)
 refine EvIf.bne (fun h => absurd rfl h) (fun _ => ?_)
 refine EvIf.bne (fun h => absurd rfl h) (fun _ => ?_)
 refine sx_loop [2, 3] [0, 1] (fun i : Nat => [(5, gI i)]) (fun _ => []) (fun i => i ≤ t.l.length) (fun i => t.l.length - i) 0 (by omega) ⟨⟨rfl, rfl⟩, trivial⟩ trivial rfl fun i hi => ?_
 refine EvIf.dec (fun h => ?_) (fun _ => by exact rfl)
 refine EvIdx.of (by simpa using h) fun x hx => EvIdx.at hx ?_
 have := lt_of_at hx
 refine EvEq.flat [.i .i64, .s, .s, .i .i64, .b, .b] [_, _, _, _, _, _] [_, _, _, _, _, _] (by kernel_rfl) (by kernel_rfl) (by kernel_rfl) rfl rfl rfl rfl (fun _ => ?_) (fun h => absurd rfl h)
 refine ⟨fun hh => (by cases hh), fun _ => ⟨by omega, i + 1, by omega, (by dsimp only; omega), ?_⟩⟩
 refine ⟨?_, ?_, rfl⟩ <;> repeat' (first | exact True.intro | with_reducible rfl | exact rfl | refine And.intro ?_ ?_)
theorem rgt_of {t : RT} (h : TyL txSp (enT t)) : RgT t := by
 unfold txSp enT at h
 obtain ⟨_, _, e, -, h⟩ := h.i_inv; cases e
 obtain ⟨_, _, e, -, h⟩ := h.i_inv; cases e
 obtain ⟨_, _, e, -, h⟩ := h.i_inv; cases e
 obtain ⟨_, _, e, -, h⟩ := h.i_inv; cases e
 obtain ⟨_, _, e, -, h⟩ := h.i_inv; cases e
 obtain ⟨_, _, e, -, h, -⟩ := h.sl_inv; cases e
 intro c hc
 have h := h (enC c) (List.mem_map_of_mem hc)
 unfold chSp enC at h
 obtain ⟨_, _, e, -, h⟩ := h.i_inv; cases e
 obtain ⟨_, _, e, -, h⟩ := h.s_inv; cases e
 obtain ⟨_, _, e, -, h⟩ := h.s_inv; cases e
 obtain ⟨_, _, e, hr, -⟩ := h.i_inv; cases e
 have e1 : IntKind.i64.min = -9223372036854775808 := by decide
 rw [e1] at hr
 exact hr.1
theorem ztxr_of {gs : List G} (h : TyL txSp gs) (hb : bulkR gs ≤ 1048576) : ∃ t : RT, gs = enT t ∧ (SmT11 t ∧ RgT t) := by
 obtain ⟨t, rfl, h1, -⟩ := tx_of h hb
 exact ⟨t, rfl, h1, rgt_of h⟩
theorem zby_of {g : G} (h : TyL [.sl [.i .u8]] [g]) (hb : bulkG g ≤ 1048576) : ∃ b : Bs, g = .sl (b.map gBy) ∧ b.length ≤ 1100000 := by
 obtain ⟨rows, r, e, hm, hr, h⟩ := h.sl_inv
 obtain rfl := h.nil_inv
 have e : g = .sl rows := by simpa using e
 subst e
 obtain ⟨l, rfl, -⟩ := rows_of fun r h => byte_of (hr r h)
 refine ⟨l, rfl, ?_⟩
 simp only [bulkG] at hb
 have h1 := rows_len (rows := l.map gBy) fun r hr => by
  obtain ⟨c, -, rfl⟩ := List.mem_map.1 hr
  unfold gBy
  simp only [bulkR, bulkG]
  omega
 rw [List.length_map] at h1
 omega
theorem rgt_tD (b : Bs) : RgT (tD b) := by
 by_cases h : okD b
 ·exact fun c hc => by have := okT_ve (bT_tD h).1 c hc; omega
 ·unfold tD; rw [if_neg h]; exact fun c hc => by cases hc
theorem tD_len (b : Bs) : (tD b).l.length ≤ 6 := by
 by_cases h : okD b
 ·exact (bT_tD h).1.1
 ·unfold tD; rw [if_neg h]; exact Nat.zero_le _
set_option maxHeartbeats 1000000 in
theorem zstateWrites_v (t : RT) (ht : SmT11 t ∧ RgT t) : FnV Tryz.prog 7 [.agg (enT t)] fun q => q = .v (.bool true) := by
 refine fnG Tryz.func7 (by kernel_rfl) rfl (Nat.le_of_ble_eq_true (by kernel_rfl)) (by kernel_rfl) ?_
 have hlen := ht.1.len
 refine EvIf.dec (fun hl => ?_) (fun hl => ?_)
 ·refine (alive11_v).cal fun q hq => ?_
  subst hq
  exact rfl
 refine (ownT_v t).cal fun q hq => ?_
 subst hq
 refine (encode11_v t ht.2).cal fun q hq => ?_
 subst hq
 refine (encode11_r t ht.2 (by have hl : ¬ ((t.l.map enC).length : Int) > 20 := hl; rw [List.length_map] at hl; omega)).cal fun q hq => ?_
 subst hq
 unfold wrR
 refine EvIf.bne (fun hh => absurd rfl hh) (fun _ => ?_)
 refine ⟨bT t, rfl, ⟨bT t, rfl, ?_⟩⟩
 refine EvIf.bneS (fun hh => absurd rfl hh) (fun _ => ?_)
 refine EvIf.bne (fun hh => ?_) (fun hh => ?_)
 ·refine (alive11_v).cal fun q hq => ?_
  subst hq
  exact rfl
 have ho : okT t := Decidable.byContradiction fun h => by
  have hh : eT t = 0 := hh
  unfold eT at hh
  rw [if_neg h] at hh; cases hh
 obtain ⟨hd, ht2⟩ := tD_bT ho
 have hbl : (bT t).length ≤ 4096 := by unfold bT; rw [if_pos ho]; exact ho.2.2
 refine (decode11_v (bT t) (by omega)).cal fun q hq => ?_
 subst hq
 unfold rdR eD
 rw [ht2, if_pos hd]
 refine (alive11_v).cal fun q hq => ?_
 subst hq
 refine EvIf.mk (fun _ => ?_) fun hh => by cases hh
 refine EvIf.beq (fun _ => ?_) (fun hh => absurd rfl hh)
 refine (sametxn_r t (by omega)).cal fun q hq => ?_
 subst hq
 exact rfl
set_option maxHeartbeats 1000000 in
theorem zstateReads_v (b : Bs) (hb : b.length ≤ 1100000) : FnV Tryz.prog 8 [.sl (b.map gBy)] fun q => q = .v (.bool true) := by
 refine fnG Tryz.func8 (by kernel_rfl) rfl (Nat.le_of_ble_eq_true (by kernel_rfl)) (by kernel_rfl) ?_
 have htl := tD_len b
 refine (decode11_v b (by omega)).cal fun q hq => ?_
 subst hq
 refine (decode11_r b (by omega)).cal fun q hq => ?_
 subst hq
 unfold rdR
 refine EvIf.bne (fun hh => absurd rfl hh) (fun _ => ?_)
 refine (sametxn_r (tD b) (by omega)).cal fun q hq => ?_
 subst hq
 refine EvIf.mk (fun hh => by cases hh) fun _ => ?_
 refine (encode11_v (tD b) (rgt_tD b)).cal fun q hq => ?_
 subst hq
 unfold wrR
 refine (alive11_v).cal fun q hq => ?_
 subst hq
 refine EvIf.mk (fun _ => ?_) fun hh => by cases hh
 refine EvIf.bne (fun _ => by exact rfl) (fun hh => ?_)
 have ho : okD b := Decidable.byContradiction fun h => by
  have hh : eD b = 0 := hh
  unfold eD at hh
  rw [if_neg h] at hh; cases hh
 obtain ⟨h1, h2⟩ := bT_tD ho
 unfold eT
 rw [if_pos h1, h2]
 refine EvIf.beq (fun _ => ?_) (fun hh => absurd rfl hh)
 refine ⟨b, rfl, ⟨b, rfl, ?_⟩⟩
 show G.v (.bool (_ == _)) = _
 rw [bytes_eq, decide_eq_true rfl]
end Go.Proofs.YtalfffamppmooaaGreatDoor

/- A part of the proof, merged from several texts. -/
import Derived.Test.YtalfffamppmooaaGreatDoorZZSf
import Derived.Test.YtalfffamppmooaaGreatDoorSM2
import Derived.Test.YtalfffamppmooaaGreatDoorZFnu
import Derived.Test.YtalfffamppmooaaGreatDoorPKN
import Derived.Test.YtalfffamppmooaaGreatDoorPKM
import Derived.Test.YtalfffamppmooaaGreatDoorZZSg
import Derived.Test.YtalfffamppmooaaGreatDoorSxMc
import Derived.Test.YtalfffamppmooaaGreatDoorPM
import Derived.Test.YtalfffamppmooaaGreatDoorZZSk
import Derived.Test.YtalfffamppmooaaGreatDoorLM
import Derived.Test.YtalfffamppmooaaGreatDoorRM
namespace Go.Proofs.YtalfffamppmooaaGreatDoor
open Go.RowKit
set_option maxRecDepth 100000
theorem srtL_more {l : List RL} {i : Nat} {x : RL} (hs : SrtL (l.take i)) (hx : l[i]? = some x) (hl : ∀ y ∈ l.take i, y.id < x.id) : SrtL (l.take (i + 1)) := by
 rw [take_more hx]
 exact List.pairwise_append.2 ⟨hs, by simp, fun a ha b hb => by rw [List.mem_singleton.1 hb]; exact hl a ha⟩
structure LdT (l : List RL) (i : Nat) (z : RL) : Prop where
 le : i ≤ l.length
 srt : SrtL (l.take i)
 ok : ∀ x ∈ l.take i, okL x = true
 top : ∀ x ∈ l.take i, x.id ≤ z.id
def LdTP (l : List RL) (g : G) (rs : List R) : Prop := (WL l ∧ g = .tup [.ptr 1 0, gI 0] ∧ rs = [.gone, .abs (cl (oTs l))]) ∨ (g = .tup [.v (.pointer none), gI 1] ∧ rs = [.gone])
theorem loadT_o (l : List RL) (hl : l.length ≤ 100000) : FnO Tryz.prog 76 [.osl 0] [slL l] (LdTP l) := by
 refine fnuG Tryz.func76 (by kernel_rfl) rfl (Nat.le_of_ble_eq_true (by kernel_rfl)) (by kernel_rfl) (lent_id _ _) ?_
 refine sx_loop [0, 4, 8, 9] [0] (fun x : Nat × RL => [(10, gI x.1)]) (fun x => [(1, .blk (enL x.2) tLe)]) (fun x => LdT l x.1 x.2) (fun x => l.length - x.1) (0, ⟨0, 0, 0⟩) ⟨Nat.zero_le _, by simp, by simp, by simp⟩ ⟨⟨rfl, rfl⟩, trivial⟩ ⟨⟨rfl, rfl, rfl⟩, trivial⟩ rfl fun ⟨i, z⟩ hI => ?_
 have hle : i ≤ l.length := hI.le
 have hsrt : SrtL (l.take i) := hI.srt
 have hok : ∀ x ∈ l.take i, okL x = true := hI.ok
 have htop : ∀ x ∈ l.take i, x.id ≤ z.id := hI.top
 have bad : ∀ {own : Os} {n : Nat} {r0 : R}, look 0 own = some r0 → EndU [0] own n (.tup [.v (.pointer none), gI 1]) (LdTP l) := fun h0 => .inr ⟨0, _, [⟨[(0, .gone)], [(0, 0)], false⟩], .tup [.v (.pointer none), gI 1], h0, ⟨⟨⟨_, rfl, rfl, rfl⟩, trivial⟩, rfl, ⟨_, rfl⟩, rfl, rfl, .inr ⟨rfl, rfl⟩⟩⟩
 refine EvIf.dec (fun h1 => ?_) (fun h1 => ?_)
 ·have h1 : i < l.length := by simpa using h1
  obtain ⟨x, hx⟩ : ∃ x, l[i]? = some x := ⟨_, List.getElem?_eq_getElem h1⟩
  refine ⟨⟨by omega, by rw [List.length_map]; omega⟩, EvIdx.at hx ?_⟩
  refine (rightL_v x).cal fun q hq => ?_
  subst hq
  refine EvIf.mk (fun h2 => ?_) (fun h2 => ?_)
  ·exact bad rfl
  refine EvEq.flat [.i .i64, .i .i64, .i .i64] [_, _, _] [_, _, _] (by kernel_rfl) (by kernel_rfl) (by kernel_rfl) rfl rfl rfl rfl (fun _ => ?_) (fun _ => ?_)
  ·refine EvIf.mk (fun _ => ?_) (fun hh => by cases hh)
   exact bad rfl
  refine EvIf.mk (fun hh => by cases hh) (fun _ => ?_)
  refine EvIf.dec (fun h3 => ?_) (fun (h3 : ¬ x.id ≤ z.id) => ?_)
  ·exact bad rfl
  have h2 : okL x = true := by simpa using h2
  refine ⟨by omega, (i + 1, x), ⟨h1, srtL_more hsrt hx fun y hy => by have := htop y hy; omega, fun y hy => ?_, fun y hy => ?_⟩, (by dsimp only; omega), ?_⟩
  ·rw [take_more hx] at hy
   rcases List.mem_append.1 hy with hy | hy
   ·exact hok y hy
   ·rw [List.mem_singleton.1 hy]; exact h2
  ·rw [take_more hx] at hy
   rcases List.mem_append.1 hy with hy | hy
   ·have := htop y hy; show y.id ≤ x.id; omega
   ·rw [List.mem_singleton.1 hy]; exact Int.le_refl _
  refine ⟨?_, ?_, rfl⟩ <;> repeat' (first | exact True.intro | with_reducible rfl | exact rfl | refine And.intro ?_ ?_)
 ·have ht : l.take i = l := List.take_of_length_le (by simp at h1; omega)
  rw [ht] at hsrt hok
  refine EvIf.dec (fun h2 => ?_) (fun h2 => ?_)
  ·exact bad rfl
  have h2 : ¬ (((l.map enL).length : Nat) : Int) > 100 := h2
  rw [List.length_map] at h2
  refine EvCall.lend ((clo_o (l := l) (by omega)).cal fun q rs hq => ?_)
  obtain ⟨rfl, rfl⟩ := hq
  exact .inr ⟨0, _, [⟨[(0, .gone)], [(0, 0)], false⟩, ⟨oTs l, [(0, 3), (1, 2)], true⟩], .tup [.ptr 1 0, gI 0], rfl, ⟨⟨⟨_, rfl, rfl, rfl⟩, ⟨⟨⟨rfl, rfl, rfl⟩, ⟨rfl, rfl, rfl⟩, trivial⟩, _, rfl⟩, trivial⟩, rfl, ⟨_, rfl⟩, rfl, rfl, .inl ⟨⟨hsrt, by omega, hok⟩, rfl, rfl⟩⟩⟩
theorem check10_r {l : List RL} (h : WL l) : FnV Tryz.prog 36 [gLs l] fun g => g = gI 0 := by
 refine fnG Tryz.func36 (by kernel_rfl) rfl (Nat.le_of_ble_eq_true (by kernel_rfl)) (by kernel_rfl) ?_
 have hlen := h.len
 refine sx_loop [0] [] (fun i : Nat => [(3, gI i)]) (fun _ => []) (fun i => i ≤ l.length) (fun i => l.length - i) 0 (Nat.zero_le _) ⟨⟨rfl, rfl⟩, trivial⟩ trivial rfl fun i hi => ?_
 refine EvIf.dec (fun h1 => ?_) (fun h1 => ?_)
 ·refine EvIdx.of (by simpa using h1) fun x hx => ?_
  have hlt := lt_of_at hx
  refine (right10_r x).cal fun q hq => ?_
  rw [h.ok x (List.mem_of_getElem? hx)] at hq
  subst hq
  refine EvIf.mk (fun hh => by cases hh) (fun _ => ?_)
  refine EvIf.dec (fun h2 => ?_) (fun h2 => ?_)
  ·obtain ⟨j, rfl⟩ : ∃ j, i = j + 1 := ⟨i - 1, by omega⟩
   obtain ⟨y, hy⟩ : ∃ y, l[j]? = some y := ⟨_, List.getElem?_eq_getElem (by omega)⟩
   have hlt2 : y.id < x.id := by
    have h3 := List.pairwise_iff_getElem.1 h.srt j (j + 1) (by omega) hlt (by omega)
    rw [List.getElem?_eq_getElem (by omega)] at hy hx
    rw [← Option.some.inj hy, ← Option.some.inj hx]; exact h3
   refine EvIdx.at hx ?_
   refine ⟨by omega, ?_⟩
   refine EvIdx.atI (f := enL) (x := y) (by omega) (by rw [show (((j + 1 : Nat) : Int) - 1).toNat = j by omega]; exact hy) ?_
   refine EvIf.dec (fun (h3 : x.id ≤ y.id) => by omega) (fun _ => ?_)
   refine ⟨by omega, j + 1 + 1, by omega, (by dsimp only; omega), ?_⟩
   refine ⟨?_, ?_, rfl⟩ <;> repeat' (first | exact True.intro | with_reducible rfl | exact rfl | refine And.intro ?_ ?_)
  ·refine ⟨by omega, i + 1, by omega, (by dsimp only; omega), ?_⟩
   refine ⟨?_, ?_, rfl⟩ <;> repeat' (first | exact True.intro | with_reducible rfl | exact rfl | refine And.intro ?_ ?_)
 ·refine EvIf.dec (fun h2 => ?_) (fun h2 => by exact rfl)
  have h2 : (((l.map enL).length : Nat) : Int) > 100 := h2
  rw [List.length_map] at h2; omega
end Go.Proofs.YtalfffamppmooaaGreatDoor
namespace Go.Proofs.YtalfffamppmooaaGreatDoor
open Go.RowKit
set_option maxRecDepth 100000
theorem u64_nat {n : Nat} (h : n < 2 ^ 64) : IntKind.wrap .u64 (n : Int) = n := by
 simp only [IntKind.wrap, IntKind.bits, IntKind.signed, Bool.false_and, if_false, Bool.false_eq_true]
 omega
theorem u64_and (x : Nat) (hx : x < 2 ^ 32) : IntKind.wrap .u64 ((BitVec.ofInt 64 (x : Int) &&& BitVec.ofInt 64 4294967295).toNat : Nat) = (x : Int) := by
 have e : ∀ n : Nat, n < 2 ^ 64 → (BitVec.ofInt 64 (n : Int)).toNat = n := fun n hn => by rw [BitVec.toNat_ofInt]; omega
 have e2 : (BitVec.ofInt 64 4294967295).toNat = 4294967295 := by decide
 rw [BitVec.toNat_and, e x (by omega), e2]
 have h3 : x &&& 4294967295 = x := by
  have := Nat.and_two_pow_sub_one_eq_mod x 32
  rw [show 2 ^ 32 - 1 = 4294967295 from rfl] at this
  rw [this, Nat.mod_eq_of_lt hx]
 rw [h3]
 exact u64_nat (by omega)
theorem u64_shr (x : Nat) (hx : x < 2 ^ 32) : (x : Int).fdiv (2 ^ min (Int.toNat 32) 64) = ((0 : Nat) : Int) := by
 rw [fd_shr (x : Int) 4294967296 (Int.toNat 32) 32 rfl rfl (by omega)]
 omega
theorem u64_mul (x y : Nat) (h : x * y < 2 ^ 32) : IntKind.wrap .u64 ((x : Int) * (y : Int)) = ((x * y : Nat) : Int) := by
 rw [← Int.natCast_mul]
 exact u64_nat (by omega)
theorem u64_plus (x y : Nat) (h : x + y < 2 ^ 32) : IntKind.wrap .u64 ((x : Int) + (y : Int)) = ((x + y : Nat) : Int) := by
 rw [← Int.natCast_add]
 exact u64_nat (by omega)
abbrev gU (n : Nat) : G := .v (.int .u64 (n : Nat))
theorem mul64_v (x y : Nat) (hx : x < 1000) (hy : y < 1000) : FnV Tryz.prog 181 [gU x, gU y] fun g => g = .tup [gU 0, gU (x * y)] := by
 refine fnG Tryz.func181 (by kernel_rfl) rfl (Nat.le_of_ble_eq_true (by kernel_rfl)) (by kernel_rfl) ?_
 have hxy : x * y < 1000000 := by
  have := Nat.mul_le_mul (Nat.le_of_lt hx) (Nat.le_of_lt hy); rcases Nat.lt_or_ge (x * y) 1000000 with h | h
  ·exact h
  ·have h1 : x * y ≤ 999 * 999 := Nat.mul_le_mul (by omega) (by omega)
   omega
 have A := u64_and x (by omega)
 have B := u64_and y (by omega)
 have S1 := u64_shr x (by omega)
 have S2 := u64_shr y (by omega)
 have S3 := u64_shr (x * y) (by omega)
 refine ⟨by decide, ⟨by decide, ⟨by decide, ⟨by decide, ⟨by decide, ?_⟩⟩⟩⟩⟩
 show G.tup [.v (.int .u64 _), .v (.int .u64 _)] = _
 have M1 := u64_mul x y (by omega)
 have M2 := u64_mul 0 y (by omega)
 have M3 := u64_mul x 0 (by omega)
 have M4 := u64_mul 0 0 (by omega)
 have P0 := u64_plus 0 0 (by omega)
 have Z := u64_shr 0 (by omega)
 have A0 := u64_and 0 (by omega)
 rw [A, B, S1, S2, M1, S3, M2, Nat.zero_mul, P0, A0, Z, M3, Nat.mul_zero, P0, M4, Nat.zero_mul, P0, Z, P0]
theorem mul_v (x y : Nat) (hx : x < 1000) (hy : y < 1000) : FnV Tryz.prog 153 [gU x, gU y] fun g => g = .tup [gU 0, gU (x * y)] := by
 refine fnG Tryz.func153 (by kernel_rfl) rfl (Nat.le_of_ble_eq_true (by kernel_rfl)) (by kernel_rfl) ?_
 refine (mul64_v x y hx hy).cal fun q hq => ?_
 subst hq
 exact rfl
theorem rep_v (v : Int) (c : Nat) (hc : c < 1000) : FnV Tryz.prog 137 [.sl [[gI v]], gI c] fun g => g = .sl (List.replicate c [gI v]) := by
 refine fnG Tryz.func137 (by kernel_rfl) rfl (Nat.le_of_ble_eq_true (by kernel_rfl)) (by kernel_rfl) ?_
 refine EvIf.dec (fun h => by omega) (fun _ => ?_)
 have w1 : IntKind.wrap .u64 ((1 : Nat) : Int) = ((1 : Nat) : Int) := u64_nat (by decide)
 have w2 : IntKind.wrap .u64 (c : Int) = (c : Int) := u64_nat (by omega)
 have hm : FnV Tryz.prog 153 [.v (.int .u64 (IntKind.wrap .u64 ((1 : Nat) : Int))), .v (.int .u64 (IntKind.wrap .u64 (c : Int)))] fun g => g = .tup [gU 0, gU c] := by
  rw [w1, w2]
  have := mul_v 1 c (by omega) hc
  rwa [Nat.one_mul] at this
 refine hm.cal fun q hq => ?_
 subst hq
 refine EvIf.dec (fun h => absurd h (by decide)) (fun _ => ?_)
 refine EvIf.dec (fun (h : ((c : Nat) : Int) > 9223372036854775807) => by omega) (fun _ => ?_)
 refine ⟨by omega, ⟨by omega, by omega, rfl⟩, ?_⟩
 refine ⟨fun r hr => by rw [List.mem_singleton.1 hr]; exact ⟨rfl, rfl⟩, ?_⟩
 have hlr : ∀ n, n ≤ c → (List.replicate n [gI v] ++ List.replicate (c - n) [gI 0]).length = c := fun n hn => by rw [List.length_append, List.length_replicate, List.length_replicate]; omega
 refine sx_loop [7] [] (fun n : Nat => [(8, gI n)]) (fun n => [(1, .slc (List.replicate n [gI v] ++ List.replicate (c - n) [gI 0]) 3 1)]) (fun n => n ≤ c ∧ (c = 0 ∨ 1 ≤ n)) (fun n => c - n) (min 1 c) ⟨by omega, by omega⟩ ⟨⟨rfl, eqN ?_⟩, trivial⟩ ⟨⟨rfl, rfl, eqR ?_⟩, trivial⟩ rfl fun n hi => ?_
 ·rw [List.length_replicate, Int.toNat_natCast]; rfl
 ·rw [List.length_replicate, Int.toNat_natCast]
  cases c with
  | zero => rfl
  | succ c => 
   rw [show min [[gI v]].length (c + 1) = 1 from by simp, show min 1 (c + 1) = 1 by omega, List.drop_replicate]; rfl
 obtain ⟨h1, h2⟩ := hi
 refine EvIf.dec (fun h => ?_) (fun h => ?_)
 ·have h : ((n : Nat) : Int) < (((List.replicate n [gI v] ++ List.replicate (c - n) [gI 0]).length : Nat) : Int) := h
  rw [hlr n h1] at h
  refine ⟨⟨by omega, by rw [hlr n h1]; omega, by omega⟩, ⟨⟨by omega, by omega, by rw [hlr n h1]; omega⟩, ?_⟩⟩
  have e1 : subL (List.replicate n [gI v] ++ List.replicate (c - n) [gI 0]) (Int.toNat 0) ((n : Nat) : Int).toNat = List.replicate n [gI v] := by
   unfold subL
   rw [Int.toNat_natCast, take_len _ _ n (by simp)]; rfl
  have e2 : (((List.replicate n [gI v] ++ List.replicate (c - n) [gI 0]).length : Nat) : Int).toNat - ((n : Nat) : Int).toNat = c - n := by
   rw [hlr n h1, Int.toNat_natCast, Int.toNat_natCast]
  refine ⟨by rw [e1, e2, List.length_replicate]; omega, n + min n (c - n), by omega, (by dsimp only; omega), ?_⟩
  refine ⟨?_, ?_, rfl⟩ <;> repeat' (first | exact True.intro | with_reducible rfl | exact rfl | refine And.intro ?_ ?_)
  ·exact eqI (by rw [e1, e2, List.length_replicate]; omega)
  ·refine eqR ?_
   rw [e1, e2, List.length_replicate, Int.toNat_natCast, take_len _ _ n (by simp), List.take_replicate, Nat.min_eq_left (show min n (c - n) ≤ n by omega), List.replicate_append_replicate, List.drop_append, List.length_replicate, List.drop_of_length_le (by rw [List.length_replicate]; omega), List.nil_append, List.drop_replicate, show n + min n (c - n) - n = min n (c - n) by omega, show c - n - min n (c - n) = c - (n + min n (c - n)) by omega]
 ·have h : ¬ ((n : Nat) : Int) < (((List.replicate n [gI v] ++ List.replicate (c - n) [gI 0]).length : Nat) : Int) := h
  rw [hlr n h1] at h
  have : n = c := by omega
  subst this
  show G.sl (List.replicate n [gI v] ++ List.replicate (n - n) [gI 0]) = _
  rw [Nat.sub_self, List.replicate_zero, List.append_nil]
end Go.Proofs.YtalfffamppmooaaGreatDoor
namespace Go.Proofs.YtalfffamppmooaaGreatDoor
open Go.RowKit
set_option maxRecDepth 100000
abbrev tLd : Nat := 145
abbrev tZn : Nat := 154
abbrev oLd (zx : Int) (ns : List RZ) (ls : List RL) (L : List (Int × G)) : List R := [.blk [.ptr 1 0, .osl 2, .osl 3] tLd, .blk [gI zx, .v (.pointer none), .v (.pointer none), .mp 4] tSta, .slc (ns.map enZ) tZn 9, slL ls, .mpI L]
structure LdI (k : Nat) (zx : Int) (ns : List RZ) (ls : List RL) (L : List (Int × G)) : Prop where
 zxr : 0 ≤ zx ∧ zx ≤ big
 nsl : ns.length ≤ k
 lsl : ls.length ≤ k
 path : ∀ z ∈ ns, z.path.size ≤ 1024
 la : ∃ la : List RLa, LaOk la ∧ la.length ≤ k ∧ ∀ id, aget L id = (findA la id).map gLa
def LdP (k : Nat) (g : G) (rs : List R) : Prop := ∃ ok zx ns ls L, LdI k zx ns ls L ∧ g = .v (.bool ok) ∧ rs = [.abs (cl (objs (oLd zx ns ls L) 0))]
theorem LdI.more {k : Nat} {zx : Int} {ns : List RZ} {ls : List RL} {L : List (Int × G)} (h : LdI k zx ns ls L) : LdI (k + 1) zx ns ls L := by
 obtain ⟨la, h1, h2, h3⟩ := h.la
 exact ⟨h.zxr, by have := h.nsl; omega, by have := h.lsl; omega, h.path, la, h1, by omega, h3⟩
def kN : List Int := [1, 3, 3, 2, 2, 2, 2, 2, 2, 2]
set_option maxHeartbeats 1000000 in
theorem node_o {k : Nat} {zx : Int} {ns : List RZ} {ls : List RL} {L : List (Int × G)} (h : LdI k zx ns ls L) (hk : k ≤ 10000) (b : Bs) (hb : b.length ≤ 2000000) : FnO Tryz.prog 112 [.ptr 0 0, .sl (b.map gBy)] [.abs (cl (objs (oLd zx ns ls L) 0))] (LdP (k + 1)) := by
 refine fnoG Tryz.func112 (by kernel_rfl) rfl (Nat.le_of_ble_eq_true (by kernel_rfl)) (by kernel_rfl) (lent_cl0 (O := objs (oLd zx ns ls L) 0) (n0 := 5) rfl) ?_
 have hns := h.nsl
 refine (rep_v 2 7 (by decide)).cal fun q hq => ?_
 subst hq
 refine ⟨fun r hr => ?_, ⟨by simp, ?_⟩⟩
 ·obtain ⟨-, rfl⟩ := List.mem_replicate.1 hr; exact ⟨rfl, rfl⟩
 refine (decode_v kN b (by decide) (by omega)).cal fun q hq => ?_
 subst hq
 refine EvIf.bne (fun he => ?_) (fun he => ?_)
 ·exact end_cl (objs (oLd zx ns ls L) 0) [] ⟨⟨rfl, rfl, rfl⟩, ⟨rfl, rfl, rfl⟩, ⟨rfl, rfl, rfl⟩, ⟨rfl, rfl, rfl⟩, ⟨rfl, rfl, rfl⟩, trivial⟩ rfl ⟨_, rfl⟩ rfl rfl ⟨false, zx, ns, ls, L, h.more, rfl, rfl⟩
 have he : (decR kN b).e = 0 := he
 obtain ⟨d1, d2, d3⟩ := decR_ok he
 obtain ⟨q1, q2, q3⟩ := enc_som _ _ d1
 rw [← d3] at q1 q3
 have q1 := encE_zero q1
 have hlen : (decR kN b).l.length = 10 := by rw [d3]; exact (somR_le kN b).2 d1
 match hl : (decR kN b).l, hlen with
 | [x0, x1, x2, x3, x4, x5, x6, x7, x8, x9], _ =>
  rw [hl] at q1 q3
  simp only [List.map_cons, List.map_nil, kN, List.cons.injEq, and_true] at q3
  have hp1 : x1.s.size ≤ 1024 := by
   rcases fd_form (q1 x1 (by simp)) with ⟨-, -, hh⟩ | ⟨hh, -⟩
   ·exact hh
   ·omega
  refine EvIdx.atI (f := enFd) (l := [x0, x1, x2, x3, x4, x5, x6, x7, x8, x9]) (by decide) rfl ?_
  refine EvIdx.atI (f := enFd) (l := [x0, x1, x2, x3, x4, x5, x6, x7, x8, x9]) (by decide) rfl ?_
  refine EvIdx.atI (f := enFd) (l := [x0, x1, x2, x3, x4, x5, x6, x7, x8, x9]) (by decide) rfl ?_
  refine EvIdx.atI (f := enFd) (l := [x0, x1, x2, x3, x4, x5, x6, x7, x8, x9]) (by decide) rfl ?_
  refine EvIdx.atI (f := enFd) (l := [x0, x1, x2, x3, x4, x5, x6, x7, x8, x9]) (by decide) rfl ?_
  refine EvIdx.atI (f := enFd) (l := [x0, x1, x2, x3, x4, x5, x6, x7, x8, x9]) (by decide) rfl ?_
  refine EvIdx.atI (f := enFd) (l := [x0, x1, x2, x3, x4, x5, x6, x7, x8, x9]) (by decide) rfl ?_
  refine EvIdx.atI (f := enFd) (l := [x0, x1, x2, x3, x4, x5, x6, x7, x8, x9]) (by decide) rfl ?_
  refine EvIdx.atI (f := enFd) (l := [x0, x1, x2, x3, x4, x5, x6, x7, x8, x9]) (by decide) rfl ?_
  refine ⟨by simp; omega, ?_⟩
  refine end_cl (objs (oLd zx (ns ++ [⟨x1.s, x2.s, x3.n, x4.n, x5.n, x6.n, x7.n, x8.n, x9.n⟩]) ls L) 0) [(2, 10)] ⟨⟨rfl, rfl, rfl⟩, ⟨rfl, rfl, rfl⟩, ⟨rfl, rfl, eqR (by rw [List.map_append]; rfl)⟩, ⟨rfl, rfl, rfl⟩, ⟨rfl, rfl, rfl⟩, trivial⟩ rfl ⟨_, rfl⟩ rfl rfl ⟨true, zx, _, ls, L, ⟨h.zxr, ?_, by have := h.lsl; omega, fun z hz => ?_, h.more.la⟩, rfl, rfl⟩
  ·rw [List.length_append, List.length_singleton]; omega
  ·rcases List.mem_append.1 hz with hz | hz
   ·exact h.path z hz
   ·rw [List.mem_singleton.1 hz]; exact hp1
abbrev tRp : Nat := 42
def kL : List Int := [1, 2, 2, 2, 2, 2, 1]
theorem aput_la {L : List (Int × G)} {la : List RLa} (h : ∀ id, aget L id = (findA la id).map gLa) (x : RLa) : ∀ id, aget (aput L x.se (gLa x)) id = (findA (forgA la x.se ++ [x]) id).map gLa := fun id => by
 rw [aget_put, h, app_find]
 split <;> rfl
theorem rep_gNi (n : Nat) (v : Int) : List.replicate n [gI v] = (List.replicate n v).map gNi := by rw [List.map_replicate]; rfl
set_option maxHeartbeats 2000000 in
theorem lease_o {k : Nat} {zx : Int} {ns : List RZ} {ls : List RL} {L : List (Int × G)} (h : LdI k zx ns ls L) (hk : k ≤ 10000) (b : Bs) (hb : b.length ≤ 2000000) : FnO Tryz.prog 113 [.ptr 0 0, .sl (b.map gBy)] [.abs (cl (objs (oLd zx ns ls L) 0))] (LdP (k + 1)) := by
 refine fnoG Tryz.func113 (by kernel_rfl) rfl (Nat.le_of_ble_eq_true (by kernel_rfl)) (by kernel_rfl) (lent_cl0 (O := objs (oLd zx ns ls L) 0) (n0 := 5) rfl) ?_
 have hls := h.lsl
 have bad : ∀ {own : Os} {n : Nat}, leI [] own n (objs (oLd zx ns ls L) 0) → ∃ its g', EndK [0] own n (.v (.bool false)) (LdP (k + 1)) its g' := fun hl => end_cl (objs (oLd zx ns ls L) 0) [] hl rfl ⟨_, rfl⟩ rfl rfl ⟨false, zx, ns, ls, L, h.more, rfl, rfl⟩
 refine (some_v kL b (by decide) (by omega)).cal fun q hq => ?_
 subst hq
 unfold smG
 refine EvIf.bne (fun he => ?_) (fun he => ?_)
 ·exact bad ⟨⟨rfl, rfl, rfl⟩, ⟨rfl, rfl, rfl⟩, ⟨rfl, rfl, rfl⟩, ⟨rfl, rfl, rfl⟩, ⟨rfl, rfl, rfl⟩, trivial⟩
 have he : (somR kL b).e = 0 := he
 have hnl := (somR_le kL b).1
 obtain ⟨q1, q2, q3⟩ := enc_som kL b he
 have q1 := encE_zero q1
 have hlen : (somR kL b).l.length = 7 := (somR_le kL b).2 he
 match hl : (somR kL b).l, hlen with
 | [x0, x1, x2, x3, x4, x5, x6], _ =>
  rw [hl] at q1 q3
  simp only [List.map_cons, List.map_nil, kL, List.cons.injEq, and_true] at q3
  have r6 : 0 ≤ x6.n ∧ x6.n ≤ 255 := by
   rcases fd_form (q1 x6 (by simp)) with ⟨hh, -⟩ | ⟨hh, -, h0⟩ <;> omega
  have r4 : 0 ≤ x4.n ∧ x4.n ≤ big := by
   rcases fd_form (q1 x4 (by simp)) with ⟨hh, -⟩ | ⟨hh, -, h0⟩ <;> omega
  obtain ⟨c, hc⟩ := Int.eq_ofNat_of_zero_le r6.1
  refine EvIdx.atI (f := enFd) (l := [x0, x1, x2, x3, x4, x5, x6]) (by decide) rfl ?_
  refine ⟨⟨by omega, by rw [List.length_map]; omega, by omega⟩, ⟨gBy_len b, ?_⟩⟩
  rw [drop_gBy, hc]
  refine (rep_v 3 c (by omega)).cal fun q hq => ?_
  subst hq
  rw [rep_gNi]
  refine (decode_v (List.replicate c 3) (b.drop (somR kL b).n) (by rw [List.length_replicate]; omega) (by rw [List.length_drop]; omega)).cal fun q hq => ?_
  subst hq
  refine EvIf.bne (fun hd => ?_) (fun hd => ?_)
  ·exact bad ⟨⟨rfl, rfl, rfl⟩, ⟨rfl, rfl, rfl⟩, ⟨rfl, rfl, rfl⟩, ⟨rfl, rfl, rfl⟩, ⟨rfl, rfl, rfl⟩, trivial⟩
  have hd : (decR (List.replicate c 3) (b.drop (somR kL b).n)).e = 0 := hd
  obtain ⟨d1, d2, d3⟩ := decR_ok hd
  have hLn := (somR_le (List.replicate c 3) (b.drop (somR kL b).n)).2 d1
  rw [List.length_replicate, ← d3] at hLn
  generalize (decR (List.replicate c 3) (b.drop (somR kL b).n)).l = LL at hLn ⊢
  refine EvIdx.atI (f := enFd) (l := [x0, x1, x2, x3, x4, x5, x6]) (by decide) rfl ?_
  refine sx_gh (.nil 7 [gI x5.n, gI 0] [] tRp tSt 1 rfl (by decide) (.refl _ _)) ?_
  refine sx_loopG [0, 5, 9, 41, 42] [0, 1, 2, 3, 4] (fun i : Nat => [(43, gI i)]) (fun i => [(7, .blk [gI x5.n, gI 0, .osl 8] tRp), (8, .slc (((LL.take i).map RFd.s).map gSt) tSt 1)]) (fun i => i ≤ LL.length) (fun i => LL.length - i) 0 (Nat.zero_le _) ⟨⟨rfl, rfl⟩, trivial⟩ ⟨⟨rfl, rfl, rfl⟩, ⟨rfl, rfl, rfl⟩, trivial⟩ rfl fun i hi => ?_
  refine EvIf.dec (fun h1 => ?_) (fun h1 => ?_)
  ·refine EvIdx.of (by simpa using h1) fun f hf => ?_
   have hlt := lt_of_at hf
   refine ⟨by simp; omega, ?_⟩
   refine ⟨by omega, _, _, .refl _ _, i + 1, [(8, 11)], by omega, (by dsimp only; omega), ?_⟩
   refine ⟨?_, ?_, rfl⟩ <;> repeat' (first | exact True.intro | with_reducible rfl | exact rfl | refine And.intro ?_ ?_)
   exact eqR (by rw [take_more hf, List.map_append, List.map_append]; rfl)
  ·refine ⟨_, _, .refl _ _, ?_⟩
   have ht : LL.take i = LL := List.take_of_length_le (by simp at h1; omega)
   rw [ht]
   refine EvIdx.atI (f := enFd) (l := [x0, x1, x2, x3, x4, x5, x6]) (by decide) rfl ?_
   refine EvIdx.atI (f := enFd) (l := [x0, x1, x2, x3, x4, x5, x6]) (by decide) rfl ?_
   refine EvIdx.atI (f := enFd) (l := [x0, x1, x2, x3, x4, x5, x6]) (by decide) rfl ?_
   refine ⟨by simp; omega, ?_⟩
   refine EvIdx.atI (f := enFd) (l := [x0, x1, x2, x3, x4, x5, x6]) (by decide) rfl ?_
   obtain ⟨la, la1, la2, la3⟩ := h.la
   refine EvIf.dec (fun (h4 : x4.n > 0) => ?_) (fun h4 => ?_)
   ·refine EvIdx.atI (f := enFd) (l := [x0, x1, x2, x3, x4, x5, x6]) (by decide) rfl ?_
    refine EvIdx.atI (f := enFd) (l := [x0, x1, x2, x3, x4, x5, x6]) (by decide) rfl ?_
    refine end_cl (objs (oLd zx ns (ls ++ [⟨x1.n, x2.n, x3.n⟩]) (aput L x1.n (gLa ⟨x1.n, x4.n, ⟨x5.n, 0, LL.map RFd.s⟩⟩))) 0) [(3, 10)] ⟨⟨rfl, rfl, rfl⟩, ⟨rfl, rfl, rfl⟩, ⟨rfl, rfl, rfl⟩, ⟨rfl, rfl, eqR (by rw [List.map_append]; rfl)⟩, ⟨rfl, rfl, rfl⟩, trivial⟩ rfl ⟨_, rfl⟩ rfl rfl ⟨true, zx, ns, _, _, ⟨h.zxr, h.more.nsl, ?_, h.path, _, la_put la1 ⟨x1.n, x4.n, ⟨x5.n, 0, LL.map RFd.s⟩⟩ ⟨by show 1 ≤ x4.n; omega, r4.2⟩ (by show (LL.map RFd.s).length ≤ 1000; rw [List.length_map]; omega), ?_, aput_la la3 ⟨x1.n, x4.n, ⟨x5.n, 0, LL.map RFd.s⟩⟩⟩, rfl, rfl⟩
    ·rw [List.length_append, List.length_singleton]; omega
    ·have := List.length_filter_le (fun x : RLa => decide (x.se ≠ x1.n)) la
     rw [List.length_append, List.length_singleton]
     unfold forgA
     dsimp only
     omega
   ·refine end_cl (objs (oLd zx ns (ls ++ [⟨x1.n, x2.n, x3.n⟩]) L) 0) [(3, 10)] ⟨⟨rfl, rfl, rfl⟩, ⟨rfl, rfl, rfl⟩, ⟨rfl, rfl, rfl⟩, ⟨rfl, rfl, eqR (by rw [List.map_append]; rfl)⟩, ⟨rfl, rfl, rfl⟩, trivial⟩ rfl ⟨_, rfl⟩ rfl rfl ⟨true, zx, ns, _, _, ⟨h.zxr, h.more.nsl, ?_, h.path, h.more.la⟩, rfl, rfl⟩
    rw [List.length_append, List.length_singleton]; omega
def kH : List Int := [1, 2]
set_option maxHeartbeats 1000000 in
theorem take_o {k : Nat} {zx : Int} {ns : List RZ} {ls : List RL} {L : List (Int × G)} (h : LdI k zx ns ls L) (hk : k ≤ 10000) (b : Bs) (hb : b.length ≤ 2000000) (first : Bool) : FnO Tryz.prog 74 [.ptr 0 0, .sl (b.map gBy), .v (.bool first)] [.abs (cl (objs (oLd zx ns ls L) 0))] (LdP (k + 1)) := by
 refine fnoG Tryz.func74 (by kernel_rfl) rfl (Nat.le_of_ble_eq_true (by kernel_rfl)) (by kernel_rfl) (lent_cl0 (O := objs (oLd zx ns ls L) 0) (n0 := 5) rfl) ?_
 have bad : ∀ {own : Os} {n : Nat} {g : G}, leI [] own n (objs (oLd zx ns ls L) 0) → g = .v (.bool false) → ∃ its g', EndK [0] own n g (LdP (k + 1)) its g' := fun hl hg => by subst hg; exact end_cl (objs (oLd zx ns ls L) 0) [] hl rfl ⟨_, rfl⟩ rfl rfl ⟨false, zx, ns, ls, L, h.more, rfl, rfl⟩
 refine EvIf.beq (fun h1 => ?_) (fun h1 => ?_)
 ·exact bad ⟨⟨rfl, rfl, rfl⟩, ⟨rfl, rfl, rfl⟩, ⟨rfl, rfl, rfl⟩, ⟨rfl, rfl, rfl⟩, ⟨rfl, rfl, rfl⟩, trivial⟩ rfl
 have h1 : ((b.map gBy).length : Int) ≠ 0 := h1
 rw [List.length_map] at h1
 obtain ⟨b0, b1, rfl⟩ : ∃ x y, b = x :: y := by
  cases b with
  | nil => exact absurd rfl h1
  | cons x y => exact ⟨x, y, rfl⟩
 refine EvIdx.atI (f := gBy) (l := b0 :: b1) (by decide) rfl ?_
 refine EvIf.beq (fun h2 => ?_) (fun h2 => ?_)
 ·refine (decode_v kH (b0 :: b1) (by decide) (by omega)).cal fun q hq => ?_
  subst hq
  refine EvIf.bne (fun he => ?_) (fun he => ?_)
  ·exact bad ⟨⟨rfl, rfl, rfl⟩, ⟨rfl, rfl, rfl⟩, ⟨rfl, rfl, rfl⟩, ⟨rfl, rfl, rfl⟩, ⟨rfl, rfl, rfl⟩, trivial⟩ rfl
  have he : (decR kH (b0 :: b1)).e = 0 := he
  obtain ⟨d1, d2, d3⟩ := decR_ok he
  obtain ⟨q1, q2, q3⟩ := enc_som _ _ d1
  rw [← d3] at q1 q3
  have q1 := encE_zero q1
  have hlen : (decR kH (b0 :: b1)).l.length = 2 := by rw [d3]; exact (somR_le kH (b0 :: b1)).2 d1
  match hl : (decR kH (b0 :: b1)).l, hlen with
  | [y0, y1], _ =>
   rw [hl] at q1 q3
   simp only [List.map_cons, List.map_nil, kH, List.cons.injEq, and_true] at q3
   have r1 : 0 ≤ y1.n ∧ y1.n ≤ big := by
    rcases fd_form (q1 y1 (by simp)) with ⟨hh, -⟩ | ⟨hh, -, h0⟩ <;> omega
   refine EvIf.mk (fun _ => ?_) (fun _ => ?_)
   ·exact bad ⟨⟨rfl, rfl, rfl⟩, ⟨rfl, rfl, rfl⟩, ⟨rfl, rfl, rfl⟩, ⟨rfl, rfl, rfl⟩, ⟨rfl, rfl, rfl⟩, trivial⟩ rfl
   refine EvIdx.atI (f := enFd) (l := [y0, y1]) (by decide) rfl ?_
   exact end_cl (objs (oLd y1.n ns ls L) 0) [] ⟨⟨rfl, rfl, rfl⟩, ⟨rfl, rfl, rfl⟩, ⟨rfl, rfl, rfl⟩, ⟨rfl, rfl, rfl⟩, ⟨rfl, rfl, rfl⟩, trivial⟩ rfl ⟨_, rfl⟩ rfl rfl ⟨true, y1.n, ns, ls, L, ⟨r1, h.more.nsl, h.more.lsl, h.path, h.more.la⟩, rfl, rfl⟩
 refine EvIf.beq (fun h3 => ?_) (fun h3 => ?_)
 ·refine EvIf.mk (fun _ => ?_) (fun _ => ?_)
  ·refine EvCall.gh ⟨_, _, .close (objs (oLd zx ns ls L) 0) [] ⟨⟨rfl, rfl, rfl⟩, ⟨rfl, rfl, rfl⟩, ⟨rfl, rfl, rfl⟩, ⟨rfl, rfl, rfl⟩, ⟨rfl, rfl, rfl⟩, trivial⟩ ⟨_, rfl⟩ rfl (.refl _ _), (node_o h hk (b0 :: b1) hb).cal fun q rs hq => ?_⟩
   obtain ⟨ok, zx2, ns2, ls2, L2, hI, rfl, rfl⟩ := hq
   refine ⟨_, _, .refl _ _, ?_⟩
   exact end_abs rfl rfl ⟨ok, zx2, ns2, ls2, L2, hI, rfl, rfl⟩
  ·exact bad ⟨⟨rfl, rfl, rfl⟩, ⟨rfl, rfl, rfl⟩, ⟨rfl, rfl, rfl⟩, ⟨rfl, rfl, rfl⟩, ⟨rfl, rfl, rfl⟩, trivial⟩ rfl
 refine EvIf.beq (fun h4 => ?_) (fun h4 => ?_)
 ·refine EvIf.mk (fun _ => ?_) (fun _ => ?_)
  ·refine EvCall.gh ⟨_, _, .close (objs (oLd zx ns ls L) 0) [] ⟨⟨rfl, rfl, rfl⟩, ⟨rfl, rfl, rfl⟩, ⟨rfl, rfl, rfl⟩, ⟨rfl, rfl, rfl⟩, ⟨rfl, rfl, rfl⟩, trivial⟩ ⟨_, rfl⟩ rfl (.refl _ _), (lease_o h hk (b0 :: b1) hb).cal fun q rs hq => ?_⟩
   obtain ⟨ok, zx2, ns2, ls2, L2, hI, rfl, rfl⟩ := hq
   refine ⟨_, _, .refl _ _, ?_⟩
   exact end_abs rfl rfl ⟨ok, zx2, ns2, ls2, L2, hI, rfl, rfl⟩
  ·exact bad ⟨⟨rfl, rfl, rfl⟩, ⟨rfl, rfl, rfl⟩, ⟨rfl, rfl, rfl⟩, ⟨rfl, rfl, rfl⟩, ⟨rfl, rfl, rfl⟩, trivial⟩ rfl
 exact bad ⟨⟨rfl, rfl, rfl⟩, ⟨rfl, rfl, rfl⟩, ⟨rfl, rfl, rfl⟩, ⟨rfl, rfl, rfl⟩, ⟨rfl, rfl, rfl⟩, trivial⟩ rfl
end Go.Proofs.YtalfffamppmooaaGreatDoor
namespace Go.Proofs.YtalfffamppmooaaGreatDoor
open Go.RowKit
set_option maxRecDepth 100000
def LdS (g : G) (rs : List R) : Prop := (∃ s : RSt, WS s ∧ s.la.length ≤ 1000 ∧ (∀ z ∈ s.t, z.path.size ≤ 1024) ∧ g = .tup [.ptr 0 0, gI 0] ∧ StP s rs) ∨ (g = .tup [.v (.pointer none), gI 110] ∧ rs = [])
structure LdX (l : List ByteArray) (x : Nat × Int × List RZ × List RL × List (Int × G)) : Prop where
 le : x.1 ≤ l.length
 ld : LdI x.1 x.2.1 x.2.2.1 x.2.2.2.1 x.2.2.2.2
theorem ldi_new : LdI 0 0 [] [] [] := ⟨⟨by decide, by decide⟩, Nat.le_refl _, Nat.le_refl _, by simp, [], ⟨by simp, by simp, by simp⟩, Nat.le_refl _, fun _ => rfl⟩
set_option maxHeartbeats 2000000 in
theorem loadS_o (l : List ByteArray) (hl : l.length ≤ 400) (hb : ∀ s ∈ l, s.size ≤ 2000000) : FnO Tryz.prog 34 [.sl (l.map gSt)] [] LdS := by
 refine fnoG Tryz.func34 (by kernel_rfl) rfl (Nat.le_of_ble_eq_true (by kernel_rfl)) (by kernel_rfl) (lent0 _) ?_
 refine sx_gh (.nil 2 [.ptr 1 0] [.nl] tLd tZn 9 rfl (by decide) (.nil 2 [.ptr 1 0, .osl 3] [] tLd tLe 3 rfl (by decide) (.close (objs (oLd 0 [] [] []) 0) [(0, 2), (1, 1), (2, 3), (3, 4), (4, 0)] ⟨⟨rfl, rfl, rfl⟩, ⟨rfl, rfl, rfl⟩, ⟨rfl, rfl, rfl⟩, ⟨rfl, rfl, rfl⟩, ⟨rfl, rfl, rfl⟩, trivial⟩ ⟨_, rfl⟩ rfl (.refl _ _)))) ?_
 refine sx_loopG [4, 16, 17] [] (fun x : Nat × Int × List RZ × List RL × List (Int × G) => [(18, gI x.1)]) (fun x => [(2, .abs (cl (objs (oLd x.2.1 x.2.2.1 x.2.2.2.1 x.2.2.2.2) 0)))]) (LdX l) (fun x => l.length - x.1) (0, 0, [], [], []) ⟨Nat.zero_le _, ldi_new⟩ ⟨⟨rfl, rfl⟩, trivial⟩ ⟨⟨rfl, rfl, rfl⟩, trivial⟩ rfl fun ⟨i, zx, ns, ls, L⟩ hI => ?_
 have hle : i ≤ l.length := hI.le
 have hL : LdI i zx ns ls L := hI.ld
 refine EvIf.dec (fun h1 => ?_) (fun h1 => ?_)
 ·refine EvIdx.of (by simpa using h1) fun s hs => ?_
  have hlt := lt_of_at hs
  have hsz := hb s (List.mem_of_getElem? hs)
  refine (take_o hL (by omega) s.data.toList (by rw [Array.length_toList]; exact hsz) ((i : Int) == 0)).cal fun q rs hq => ?_
  obtain ⟨ok, zx2, ns2, ls2, L2, hL2, rfl, rfl⟩ := hq
  refine EvIf.mk (fun hh => ?_) (fun hh => ?_)
  ·refine ⟨_, _, .refl _ _, ?_⟩
   exact end_none rfl (.inr ⟨rfl, rfl⟩)
  ·refine ⟨by omega, _, _, .refl _ _, (i + 1, zx2, ns2, ls2, L2), [], ⟨by show i + 1 ≤ _; omega, hL2⟩, (by dsimp only; omega), ?_⟩
   refine ⟨?_, ?_, rfl⟩ <;> repeat' (first | exact True.intro | with_reducible rfl | exact rfl | refine And.intro ?_ ?_)
 ·refine ⟨_, _, .opn 2 [.ptr 1 0, .osl 2, .osl 3] tLd _ rfl rfl rfl (.refl _ _), ?_⟩
  have hns := hL.nsl
  have hls := hL.lsl
  refine (load_o ns (by omega) fun z hz => by have := hL.path z hz; unfold maxZ; omega).cal fun q rs hq => ?_
  unfold LoadP at hq
  split at hq
  ·next hz =>
   obtain ⟨m, hm, rfl, rfl⟩ := hq
   refine EvCall.lend ((loadT_o ls (by omega)).cal fun q rs hq => ?_)
   obtain ⟨hw, rfl, rfl⟩ | ⟨rfl, rfl⟩ := hq
   ·refine EvIf.bne (fun hh => absurd rfl hh) (fun _ => ?_)
    refine EvIf.bne (fun hh => absurd rfl hh) (fun _ => ?_)
    obtain ⟨la, la1, la2, la3⟩ := hL.la
    exact ⟨itL [(5, .blk [gI zx, .ptr 1 0, .ptr 2 0, .mp 3] tSta), (9, .abs (cl (oO m))), (10, .abs (cl (oTs ls))), (8, .mpI L)], .tup [.ptr 0 0, gI 0], ⟨⟨⟨_, rfl, rfl, rfl⟩, ⟨_, rfl, rfl, rfl⟩, ⟨_, rfl, rfl, rfl⟩, ⟨_, rfl, rfl, rfl⟩, trivial⟩, rfl, ⟨_, rfl⟩, rfl, rfl, .inl ⟨⟨zx, ns, ls, la⟩, ⟨hL.zxr, wz_of_check hz, hw, la1⟩, by show la.length ≤ 1000; omega, hL.path, rfl, m, L, ⟨hm, la3⟩, rfl⟩⟩⟩
   ·refine EvIf.bne (fun hh => absurd rfl hh) (fun _ => ?_)
    refine EvIf.bne (fun _ => ?_) (fun hh => by cases hh)
    exact end_none rfl (.inr ⟨rfl, rfl⟩)
  ·next hz =>
   obtain ⟨rfl, rfl⟩ := hq
   refine EvCall.lend ((loadT_o ls (by omega)).cal fun q rs hq => ?_)
   obtain ⟨hw, rfl, rfl⟩ | ⟨rfl, rfl⟩ := hq
   all_goals
    refine EvIf.bne (fun _ => ?_) (fun hh => absurd hh hz)
    exact end_none rfl (.inr ⟨rfl, rfl⟩)
theorem ids_sub (la : List RLa) : ∀ ls : List RL, ((ls.filterMap fun x => findA la x.id).map RLa.se).Sublist (ls.map RL.id)
 | [] => .slnil
 | x :: ls => by
  have ih := ids_sub la ls
  cases hf : findA la x.id with
  | none => rw [List.filterMap_cons_none (f := fun x : RL => findA la x.id) hf]; exact ih.cons _
  | some y =>
   rw [List.filterMap_cons_some (f := fun x : RL => findA la x.id) hf, List.map_cons, List.map_cons, (findA_se hf).2]
   exact ih.cons_cons _
theorem ws_seen {s : RSt} (h : WS s) : WS (seenS s) := by
 refine ⟨h.zx, h.t, h.ls, ⟨fun y hy => ?_, fun y hy => ?_, ?_⟩⟩
 ·obtain ⟨x, -, hx⟩ := List.mem_filterMap.1 hy; exact h.la.nu y (findA_se hx).1
 ·obtain ⟨x, -, hx⟩ := List.mem_filterMap.1 hy; exact h.la.ps y (findA_se hx).1
 ·refine List.Nodup.sublist (ids_sub s.la s.ls) ?_
  refine List.Pairwise.imp (R := fun a b : Int => a < b) (fun hab e => by omega) ?_
  exact List.pairwise_map.2 h.ls.srt
theorem standsR_o {s : RSt} (h : WS s) {m : Mp} {L : List (Int × G)} (hm : SM s m L) : FnO Tryz.prog 15 [.ptr 0 0, .agg (enSt (seenS s))] (oS s.zx m s.ls L) fun g rs => g = .v (.bool true) ∧ rs = oS s.zx m s.ls L := by
 refine fnoG Tryz.func15 (by kernel_rfl) rfl (Nat.le_of_ble_eq_true (by kernel_rfl)) (by kernel_rfl) (lent_id _ _) ?_
 have h1 := h.t.len
 have h2 := h.ls.len
 have h3 : (seenS s).la.length ≤ 100000000 := Nat.le_trans (List.length_filterMap_le _ _) (by omega)
 have hs := same11_r (a := seenS s) (b := seenS s) rfl rfl rfl (fun x hx => ⟨rfl, rfl⟩) (fun x hx => by rw [seen_find h hx]; have := find_ps h x.id; omega) (by show s.t.length ≤ _; omega) (by show s.ls.length ≤ _; omega) h3 h3
 refine (seen_o h hm).cal fun q rs hq => ?_
 obtain ⟨rfl, rfl⟩ := hq
 refine EvIf.mk (fun _ => ?_) fun hh => by cases hh
 refine hs.cal fun q hq => ?_
 subst hq
 refine EvIf.mk (fun _ => ?_) fun hh => by cases hh
 refine hs.cal fun q hq => ?_
 subst hq
 exact end_st s.zx m s.ls L rfl rfl rfl rfl rfl ⟨rfl, rfl⟩
set_option maxHeartbeats 2000000 in
theorem zstateRaw_v (l : List ByteArray) (hb : ∀ s ∈ l, s.size ≤ 2000000) : FnV Tryz.prog 9 [.sl (l.map gSt)] fun q => q = .v (.bool true) := by
 refine fnG Tryz.func9 (by kernel_rfl) rfl (Nat.le_of_ble_eq_true (by kernel_rfl)) (by kernel_rfl) ?_
 refine EvIf.dec (fun hl => ?_) (fun hl => ?_)
 ·refine (alive11_v).cal fun q hq => ?_
  subst hq
  exact rfl
 have hl : ¬ ((l.map gSt).length : Int) > 400 := hl
 rw [List.length_map] at hl
 refine (loadS_o l (by omega) hb).cal fun q rs hq => ?_
 obtain ⟨s, hw, hla, hpth, rfl, m, L, hm, rfl⟩ | ⟨rfl, rfl⟩ := hq
 ·refine EvIf.bne (fun hh => absurd rfl hh) (fun _ => ?_)
  refine (seen_o hw hm).cal fun q rs hq => ?_
  obtain ⟨rfl, rfl⟩ := hq
  refine EvIf.mk (fun hh => by cases hh) (fun _ => ?_)
  have h1 := hw.t.len
  refine (check_r s.t (by omega) fun z hz => by have := hpth z hz; unfold maxZ; omega).cal fun q hq => ?_
  rw [check_of_wz hw.t] at hq
  subst hq
  refine EvIf.bne (fun hh => absurd rfl hh) (fun _ => ?_)
  refine (check10_r hw.ls).cal fun q hq => ?_
  subst hq
  refine EvIf.bne (fun hh => absurd rfl hh) (fun _ => ?_)
  have hw2 := ws_seen hw
  have hl2 : (seenS s).la.length ≤ 100000000 := Nat.le_trans (List.length_filterMap_le _ _) (by have := hw.ls.len; omega)
  have hR := (apply_r hw2 hl2 s.zx ⟨3, 0, 0, 0, 0, []⟩ (Nat.zero_le _) (fun c hc => by cases hc))
  rw [stale (seenS s) (zx := s.zx) (Int.le_refl _)] at hR
  refine hR.cal fun q hq => ?_
  subst hq
  have hP := apply_o hw hm s.zx ⟨3, 0, 0, 0, 0, []⟩ (Nat.zero_le _) (fun c hc => by cases hc)
  rw [stale s (Int.le_refl _)] at hP
  refine hP.cal fun q rs hq => ?_
  obtain ⟨rfl, m2, L2, hm2, rfl⟩ := hq
  refine (alive11_v).cal fun q hq => ?_
  subst hq
  refine EvIf.mk (fun _ => ?_) fun hh => by cases hh
  refine (plain_v (rp 1)).cal fun q hq => ?_
  subst hq
  refine (reply_r (rp 1) (Nat.zero_le _)).cal fun q hq => ?_
  subst hq
  refine EvIf.mk (fun _ => ?_) fun hh => by cases hh
  refine EvIf.beq (fun _ => ?_) (fun hh => absurd rfl hh)
  refine (standsR_o hw hm2).cal fun q rs hq => ?_
  obtain ⟨rfl, rfl⟩ := hq
  exact rfl
 ·refine EvIf.bne (fun _ => ?_) (fun hh => by cases hh)
  refine (alive11_v).cal fun q hq => ?_
  subst hq
  refine EvIf.mk (fun _ => ?_) fun hh => by cases hh
  refine EvIf.beq (fun _ => ?_) (fun hh => absurd rfl hh)
  exact rfl
end Go.Proofs.YtalfffamppmooaaGreatDoor
namespace Go.Proofs.YtalfffamppmooaaGreatDoor
open Go.RowKit
theorem zss_of {g : G} (h : TyL [.sl [.s]] [g]) (hb : bulkG g ≤ 1048576) : ∃ l : List ByteArray, g = .sl (l.map gSt) ∧ ∀ s ∈ l, s.size ≤ 2000000 := by
 obtain ⟨rows, r, e, -, hr, h⟩ := h.sl_inv
 obtain rfl := h.nil_inv
 have e : g = .sl rows := by simpa using e
 subst e
 simp only [bulkG] at hb
 obtain ⟨l, rfl, hq⟩ := rows_of (f := gSt) (Q := fun s => s.size ≤ bulkR (gSt s)) fun r hr' => by
  obtain ⟨s, r', rfl, -, h⟩ := (hr r hr').s_inv
  obtain rfl := h.nil_inv
  exact ⟨s, rfl, by unfold gSt; simp only [bulkR, bulkG]; omega⟩
 refine ⟨l, rfl, fun s hs => ?_⟩
 have h1 := hq s hs
 have h2 := bulkRs_le (List.mem_map_of_mem (f := gSt) hs)
 omega
end Go.Proofs.YtalfffamppmooaaGreatDoor

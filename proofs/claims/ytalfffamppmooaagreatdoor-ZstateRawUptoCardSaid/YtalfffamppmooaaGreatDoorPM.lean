/- A part of the proof, merged from several texts. -/
import Derived.Test.YtalfffamppmooaaGreatDoorSxMc
import Derived.Test.YtalfffamppmooaaGreatDoorZM1
import Derived.Test.YtalfffamppmooaaGreatDoorZKeyz
import Derived.Sort.OwnSorted
import Derived.Test.YtalfffamppmooaaGreatDoorZM2
import Derived.Shelf.SlMaps.Clone
import Derived.Test.YtalfffamppmooaaGreatDoorRM
import Derived.Sort.Walk0
namespace Go.Proofs.YtalfffamppmooaaGreatDoor
open Go.RowKit
set_option maxRecDepth 100000
def sortS (ss : List ByteArray) : List ByteArray := ((ss.map fun s => s.data.toList).mergeSort fun x y => decide (x ≤ y)).map fun l => ⟨l.toArray⟩
theorem sortS_data (ss : List ByteArray) : (sortS ss).map (fun s => s.data.toList) = (ss.map fun s => s.data.toList).mergeSort fun x y => decide (x ≤ y) := by
 unfold sortS
 rw [List.map_map]
 exact (List.map_congr_left fun l _ => ba_data l).trans (List.map_id _)
theorem sortS_len (ss : List ByteArray) : (sortS ss).length = ss.length := by unfold sortS; simp
theorem encStr_mk (s : ByteArray) : encStr s.data.toList = .string s := by unfold encStr; rw [ba_eta]
theorem flat_one {rs : List (List Value)} {ss : List ByteArray} {I : Imm} (hl : rs.length = ss.length) (h1 : ∀ u ∈ rs, u.length = 1) (hp : ∀ (i : Nat) r u, (ss.map gSt)[i]? = some r → rs[i]? = some u → PW (VRep I) r u) : rs.flatten = (ss.map fun s => s.data.toList).map encStr := by
 induction rs generalizing ss with
 | nil =>
  have : ss = [] := List.eq_nil_of_length_eq_zero (by simpa using hl.symm)
  subst this; rfl
 | cons u rs ih =>
  cases ss with
  | nil => cases hl
  | cons s ss =>
   have h0 := hp 0 (gSt s) u rfl rfl
   obtain ⟨x, cs, rfl, hx, hn⟩ := h0.uncons
   obtain rfl := hn.of_nil
   have := ih (ss := ss) (by simpa using hl) (fun u hu => h1 u (by simp [hu])) (fun i r u hr hu => hp (i + 1) r u (by simpa using hr) (by simpa using hu))
   rw [List.flatten_cons, this, vrep_v hx, List.map_cons, List.map_cons, encStr_mk]; rfl
theorem sort_o (ss : List ByteArray) (hs : ss.length ≤ 1000000000) : FnO Tryz.prog 125 [.osl 0] [.slc (ss.map gSt) 9 1] fun g rs => g = .tup [] ∧ rs = [.slc ((sortS ss).map gSt) 9 1] :=
 ⟨⟨_, Tryz.func125, by kernel_rfl, by kernel_rfl⟩, fun I V w vs hH hn hp => by
  obtain ⟨x, us, rfl, hx, hq⟩ := hp.uncons
  obtain rfl := hq.of_nil
  obtain ⟨-, rfl⟩ := (show 0 < V.n ∧ x = V.s 0 from hx)
  have hn : V.n = 1 := hn
  obtain ⟨hf, rs, hown, k1, k2, k3, k4, k5⟩ := hH.each 0 _ rfl
  have hfl := flat_one (by simpa using k1) k3 k2
  have hfoot := fun b hb => hH.foot 0 _ b rfl hb
  have fin : ∀ w', w.grownBy w' (V.s 0).ownBlock → w'.ownsRow 0 9 1 (V.s 0) ss.length (((sortS ss).map fun s => s.data.toList).map encStr) → ∀ e, e = Ending.returned (.tuple #[]) → ∃ x g rs' I' V', e = .returned x ∧ (g = .tup [] ∧ rs' = [.slc ((sortS ss).map gSt) 9 1]) ∧ V'.n = rs'.length ∧ Has I' V' (objs rs' 0) w' ∧ PRes I' V' g x ∧ Fro (objs [.slc (ss.map gSt) 9 1] 0) I V w (objs rs' 0) I' V' w' ∧ V.le V' := fun w' hg ho e he => by
   have hM : Mem I w' := hH.mem.keep fun b o x hx => hg.block b (hH.mem.lt hx) fun e => by
    have := (hfoot b ((hf b).2 e.symm)).2 o
    rw [hx] at this; cases this
   have lk : ∀ k r, look k (objs [R.slc ((sortS ss).map gSt) 9 1] 0) = some r → k = 0 ∧ r = R.slc ((sortS ss).map gSt) 9 1 := fun k r h => by
    rw [look_objs0] at h
    cases k with
    | zero => simp at h; exact ⟨rfl, h.symm⟩
    | succ k => simp at h
   refine ⟨_, .tup [], _, I, V, he, ⟨rfl, rfl⟩, hn, ⟨hM, fun k r h => ?_, fun k r h => ?_, fun k r b h hb => ?_, fun k k' r r' b h h' _ _ => ?_⟩, ⟨[], rfl, .nil⟩, ⟨hg.os, hg.tape, hg.output, hg.size, fun b hb hno => ⟨hg.block b hb fun e => hno 0 _ rfl ((hf b).2 e.symm), fun _ => rfl⟩, fun _ _ _ h => h, fun k r b hk hb _ => ?_⟩, .refl _⟩
   ·rw [(lk k r h).1]; omega
   ·obtain ⟨rfl, rfl⟩ := lk k r h
    refine ⟨hf, ((sortS ss).map fun s => [Value.string s]), ?_, by simp, fun i r u hr hu => ?_, fun u hu => ?_, fun u hu x hx => ?_, Nat.one_pos⟩
    ·have e1 : ((sortS ss).map fun s => [Value.string s]).flatten = ((sortS ss).map fun s => s.data.toList).map encStr := by
      rw [List.map_map]
      induction sortS ss with
      | nil => rfl
      | cons s l ih => rw [List.map_cons, List.flatten_cons, ih, List.map_cons, Function.comp, encStr_mk]; rfl
     rw [e1, List.length_map, sortS_len]
     exact ho
    ·rw [List.getElem?_map] at hr hu
     obtain ⟨s, h1, rfl⟩ := Option.map_eq_some_iff.1 hr
     rw [h1] at hu; cases hu
     exact .cons (.v _) .nil
    ·obtain ⟨s, -, rfl⟩ := List.mem_map.1 hu; rfl
    ·obtain ⟨s, -, rfl⟩ := List.mem_map.1 hu
     rw [List.mem_singleton.1 hx]; rfl
   ·obtain ⟨rfl, rfl⟩ := lk k r h
    obtain ⟨h1, h2⟩ := hfoot b hb
    exact ⟨Nat.lt_of_lt_of_le h1 hg.size, h2⟩
   ·rw [(lk k r h).1, (lk k' r' h').1]
   ·obtain ⟨rfl, -⟩ := lk k r hk
    exact ⟨0, _, rfl, hb⟩
  rw [hfl, List.length_map] at hown
  rcases hown.2 with ⟨hnil, h0⟩ | ⟨g, cap, cur, hv, hbase, hb, h1, h2, h3, h4⟩
  ·have hss : ss = [] := List.eq_nil_of_length_eq_zero h0
   rw [hnil]
   refine (Any.slices_Sort_string_none Tryz.sortL none 0 w).mono fun e w' ⟨he, hw⟩ => ?_
   subst hw
   refine fin w' ⟨rfl, rfl, rfl, Nat.le_refl _, fun _ _ _ => rfl⟩ ?_ e he
   subst hss
   rw [show sortS [] = [] from List.eq_nil_of_length_eq_zero (sortS_len [])]
   exact hown
  ·rw [hv]
   have hl : ((ss.map fun s => s.data.toList).mergeSort fun x y => decide (x ≤ y)).length = (ss.map fun s => s.data.toList).length := by simp
   have hc := Any.slices_Sort_string Tryz.sortL g 0 cap (ss.map fun s => s.data.toList) w (holds_of_block hb (by simpa using h4)) (Array.getElem?_eq_some_iff.1 hb).1 (by simp; omega)
   rw [List.length_map] at hc
   refine hc.mono fun e w' ⟨he, n, os, hw⟩ => ?_
   subst hw
   refine fin _ (by rw [hv]; exact grownBy_sorted _) ?_ e he
   rw [sortS_data, hv]
   have := ownsRow_sorted (n := n) (os := os) hl hbase hb (by simpa using h1) h2 h3
   rw [List.length_map] at this
   exact this⟩
/-! ### The tree -/
abbrev tTree : TypeId := 120
abbrev oP (l : Mp) : List R := [.blk [.mp 1] tTree, .mpS l]
abbrev oO (l : Mp) : Os := [(0, .blk [.mp 1] tTree), (1, .mpS l)]
abbrev cP (l : Mp) : List R := [.abs (cl (oO l))]
theorem tree_lift {f : FuncId} {gs : List G} {l : Mp} {Q : G → Mp → Prop} (h : FnO Tryz.prog f (.ptr 0 0 :: gs) (oP l) fun g rs => ∃ l', Q g l' ∧ rs = oP l') (hg : allB okP gs = true) (ha : allB argB gs = true) (hq : ∀ g l', Q g l' → (noKeyB g && resB g) = true) : FnO Tryz.prog f (.ptr 0 0 :: gs) (cP l) fun g rs => ∃ l', Q g l' ∧ rs = cP l' := by
 refine fno_lift (roots := [0]) h (lent_cl0 (O := oO l) (n0 := 2) ?_) (by rw [allB, show okP (.ptr 0 0) = true from rfl]; exact hg) fun g rs' ⟨l', h1, h2⟩ => ?_
 ·rw [show allB argB (.ptr 0 0 :: gs) = allB argB gs from rfl, ha]; rfl
 ·subst h2
  exact end_cl (oO l') [] ⟨⟨rfl, rfl, rfl⟩, ⟨rfl, rfl, rfl⟩, trivial⟩ rfl ⟨_, rfl⟩ rfl (hq g l' h1) ⟨l', h1, rfl⟩
end Go.Proofs.YtalfffamppmooaaGreatDoor
namespace Go.Proofs.YtalfffamppmooaaGreatDoor
open Go.RowKit
set_option maxRecDepth 100000
theorem mapB_copy {κ β : Type} {kf : κ → Value} {vf : β → Value} {w : World} {m : Nat} {L : List (κ × β)} (h : MapB w m kf vf L) : ∃ es clock, w.heap[m]? = some (.map es clock) ∧ MapB (w.alloc (.map es clock)) w.heap.size kf vf L := by
 obtain ⟨es, clock, hb, r⟩ := h
 exact ⟨es, clock, hb, es, clock, (Go.MapKept.heap_alloc w _).1, r⟩
theorem mclone_o (l : Mp) : FnO Tryz.prog 93 [.mp 0] [.mpS l] fun g rs => g = .mp 1 ∧ rs = [.mpS l, .mpS l] :=
 ⟨⟨_, Tryz.func93, by kernel_rfl, by kernel_rfl⟩, fun I V w vs hH hn hp => by
  obtain ⟨x, us, rfl, hx, hq⟩ := hp.uncons
  obtain rfl := hq.of_nil
  obtain ⟨-, rfl⟩ := (show 0 < V.n ∧ x = .map (some (V.b 0)) from hx)
  have hn : V.n = 1 := hn
  obtain ⟨hf, L, hB, hA⟩ := hH.each 0 _ rfl
  have hfoot := fun b hb => hH.foot 0 _ b rfl hb
  obtain ⟨es, clock, hb, hB2⟩ := mapB_copy hB
  refine (AnyW.maps_Clone Tryz.cloneL (V.b 0) es clock w hb).mono fun e w' ⟨he, hw⟩ => ?_
  subst hw
  have hBl : Below w.heap.size w (w.alloc (.map es clock)) := (Below.refl _ w).alloc (Nat.le_refl _) _
  have hM : Mem I (w.alloc (.map es clock)) := hH.mem.keep fun b o x hx => hBl.block b (hH.mem.lt hx)
  have hlt := hB.lt
  have lk : ∀ k r, look k (objs [R.mpS l, R.mpS l] 0) = some r → (k = 0 ∨ k = 1) ∧ r = R.mpS l := fun k r h => by
   rw [look_objs0] at h
   match k, h with
   | 0, h => simp at h; exact ⟨.inl rfl, h.symm⟩
   | 1, h => simp at h; exact ⟨.inr rfl, h.symm⟩
   | k + 2, h => simp at h
  refine ⟨_, .mp 1, _, I, ⟨2, fun k => if k = 0 then V.b 0 else w.heap.size, V.s, fun k b => b = if k = 0 then V.b 0 else w.heap.size⟩, he, ⟨rfl, rfl⟩, rfl, ⟨hM, fun k r h => ?_, fun k r h => ?_, fun k r b h hb => ?_, fun k k' r r' b h h' hb hb' => ?_⟩, ⟨Nat.lt_succ_self _, rfl⟩, ⟨hBl.os, hBl.tape, hBl.output, hBl.size, fun b hb _ => ⟨hBl.block b hb, fun _ => rfl⟩, fun _ _ _ h => h, fun k r b hk hb hlt => ?_⟩, ⟨by show V.n ≤ 2; omega, fun k hk => ?_⟩⟩
  ·obtain ⟨h1, -⟩ := lk k r h
   show k < 2
   omega
  ·obtain ⟨h1, rfl⟩ := lk k r h
   rcases h1 with rfl | rfl
   ·exact ⟨fun b => Iff.rfl, L, hB.of_block (hBl.block _ hlt), hA⟩
   ·exact ⟨fun b => Iff.rfl, L, hB2, hA⟩
  ·obtain ⟨h1, rfl⟩ := lk k r h
   rcases h1 with rfl | rfl
   ·have hb : b = V.b 0 := hb
    subst hb
    exact ⟨Nat.lt_of_lt_of_le hlt hBl.size, (hfoot _ ((hf _).2 rfl)).2⟩
   ·have hb : b = w.heap.size := hb
    subst hb
    refine ⟨by simp, fun o => ?_⟩
    cases hI : I w.heap.size o with
    | none => rfl
    | some x => exact absurd (hH.mem.lt hI) (by omega)
  ·obtain ⟨h1, -⟩ := lk k r h
   obtain ⟨h2, -⟩ := lk k' r' h'
   rcases h1 with rfl | rfl <;> rcases h2 with rfl | rfl
   ·rfl
   ·have hb : b = V.b 0 := hb
    have hb' : b = w.heap.size := hb'
    omega
   ·have hb : b = w.heap.size := hb
    have hb' : b = V.b 0 := hb'
    omega
   ·rfl
  ·obtain ⟨h1, -⟩ := lk k r hk
   rcases h1 with rfl | rfl
   ·have hb : b = V.b 0 := hb
    exact ⟨0, _, rfl, (hf b).2 hb⟩
   ·have hb : b = w.heap.size := hb
    omega
  ·have : k = 0 := by omega
   subst this
   exact ⟨rfl, rfl⟩⟩
theorem new_o : FnO Tryz.prog 38 [] [] fun g rs => g = .ptr 0 0 ∧ rs = cP [(rootS, gz zRoot)] := by
 refine fnoG Tryz.func38 (by kernel_rfl) rfl (Nat.le_of_ble_eq_true (by kernel_rfl)) (by kernel_rfl) (lent0 _) ?_
 refine ⟨[⟨oO [(rootS, gz zRoot)], [(0, 1), (1, 0)], true⟩], .ptr 0 0, ⟨⟨⟨⟨⟨rfl, rfl, rfl⟩, ⟨rfl, rfl, rfl⟩, trivial⟩, _, rfl⟩, trivial⟩, rfl, ⟨_, rfl⟩, rfl, rfl, ⟨rfl, rfl⟩⟩⟩
theorem clone_o (l : Mp) : FnO Tryz.prog 53 [.ptr 0 0] (oP l) fun g rs => g = .ptr 2 0 ∧ rs = [.blk [.mp 1] tTree, .mpS l, .blk [.mp 3] tTree, .mpS l] := by
 refine fnoG Tryz.func53 (by kernel_rfl) rfl (Nat.le_of_ble_eq_true (by kernel_rfl)) (by kernel_rfl) (lent_id _ _) ?_
 refine (mclone_o l).cal fun q rs hq => ?_
 obtain ⟨rfl, rfl⟩ := hq
 exact ⟨[⟨[(0, .blk [.mp 1] tTree)], [(0, 0)], false⟩, ⟨[(0, .mpS l)], [(0, 1)], false⟩, ⟨[(0, .blk [.mp 3] tTree)], [(0, 3)], false⟩, ⟨[(0, .mpS l)], [(0, 2)], false⟩], .ptr 2 0, ⟨⟨⟨_, rfl, rfl, rfl⟩, ⟨_, rfl, rfl, rfl⟩, ⟨_, rfl, rfl, rfl⟩, ⟨_, rfl, rfl, rfl⟩, trivial⟩, rfl, ⟨_, rfl⟩, rfl, rfl, ⟨rfl, rfl⟩⟩⟩
theorem cloneC_o (l : Mp) : FnO Tryz.prog 53 [.ptr 0 0] (cP l) fun g rs => g = .ptr 1 0 ∧ rs = [.abs (cl (oO l)), .abs (cl (oO l))] := by
 refine fnoG Tryz.func53 (by kernel_rfl) rfl (Nat.le_of_ble_eq_true (by kernel_rfl)) (by kernel_rfl) (lent_cl0 (O := oO l) (n0 := 2) rfl) ?_
 refine (mclone_o l).cal fun q rs hq => ?_
 obtain ⟨rfl, rfl⟩ := hq
 exact ⟨[⟨oO l, [], true⟩, ⟨oO l, [(0, 3), (1, 2)], true⟩], .ptr 1 0, ⟨⟨⟨⟨⟨rfl, rfl, rfl⟩, ⟨rfl, rfl, rfl⟩, trivial⟩, _, rfl⟩, ⟨⟨⟨rfl, rfl, rfl⟩, ⟨rfl, rfl, rfl⟩, trivial⟩, _, rfl⟩, trivial⟩, rfl, ⟨_, rfl⟩, rfl, rfl, ⟨rfl, rfl⟩⟩⟩
theorem end_open {own : Os} {n : Nat} {g : G} {Q : G → List R → Prop} (l' : Mp) (h0 : look 0 own = some (.blk [.mp 1] tTree)) (h1 : look 1 own = some (.mpS l')) (hg : (noKeyB g && resB g) = true) (hq : Q g (oP l')) : ∃ its g', EndK [0, 1] own n g Q its g' := by
 simp only [Bool.and_eq_true] at hg
 exact ⟨[⟨[(0, .blk [.mp 1] tTree)], [(0, 0)], false⟩, ⟨[(0, .mpS l')], [(0, 1)], false⟩], g, ⟨⟨⟨_, rfl, h0, rfl⟩, ⟨_, rfl, h1, rfl⟩, trivial⟩, rfl, ⟨[], rfl⟩, noKeyB_ren hg.1, by rw [noKeyB_key g hg.1, hg.2, noKeyB_N hg.1]; rfl, hq⟩⟩
theorem in_p (n : Int) : FnV Tryz.prog 56 [gI n] fun g => g = .v (.bool (inZ n)) := by
 refine fnG Tryz.func56 (by kernel_rfl) rfl (Nat.le_of_ble_eq_true (by kernel_rfl)) (by kernel_rfl) ?_
 repeat' first
  | refine EvIf.dec (fun _ => ?_) (fun _ => ?_)
 all_goals (refine bool_eq (b := inZ n) ?_; unfold inZ big; simp; try omega)
theorem child_p (s p : ByteArray) (hs : s.size ≤ maxZ) : FnV Tryz.prog 131 [gS s, gS p] fun g => g = .v (.bool ((parentZ s).2 && decide ((parentZ s).1 = p))) := by
 refine fnG Tryz.func131 (by kernel_rfl) rfl (Nat.le_of_ble_eq_true (by kernel_rfl)) (by kernel_rfl) ?_
 refine (parent_p s hs).cal fun q hq => ?_
 subst hq
 cases hu : (parentZ s).2 with
 | false =>
  refine EvIf.mk (fun hh => by cases hh) fun _ => ?_
  exact rfl
 | true =>
  refine EvIf.mk (fun _ => ?_) fun hh => by cases hh
  show G.v (.bool ((parentZ s).1.toList == p.toList)) = _
  rw [bytes_eq]; rfl
theorem kidf_o (z : RZ) (p : ByteArray) (hz : z.path.size ≤ maxZ) : FnO Tryz.prog 130 [gz z, .ptr 0 0] [.blk [gS p] 9] fun g rs => g = .v (.bool (isKid p z)) ∧ rs = [.blk [gS p] 9] := by
 refine fnoG Tryz.func130 (by kernel_rfl) rfl (Nat.le_of_ble_eq_true (by kernel_rfl)) (by kernel_rfl) (lent1 _ _) ?_
 refine (child_p z.path p hz).cal fun q hq => ?_
 subst hq
 exact ⟨itL [(0, .blk [gS p] 9)], _, ⟨⟨⟨_, rfl, rfl, rfl⟩, trivial⟩, rfl, ⟨[], rfl⟩, rfl, rfl, ⟨rfl, rfl⟩⟩⟩
theorem ownf_o (z : RZ) (s : Int) : FnO Tryz.prog 145 [gz z, .ptr 0 0] [.blk [gI s] 3] fun g rs => g = .v (.bool (isOwn s z)) ∧ rs = [.blk [gI s] 3] := by
 refine fnoG Tryz.func145 (by kernel_rfl) rfl (Nat.le_of_ble_eq_true (by kernel_rfl)) (by kernel_rfl) (lent1 _ _) ?_
 have fin : ∀ b : Bool, (b = true ↔ isOwn s z = true) → (fun (g : G) (rs : List R) => g = .v (.bool (isOwn s z)) ∧ rs = [.blk [gI s] 3]) (.v (.bool b)) [.blk [gI s] 3] := fun b h => ⟨bool_eq h, rfl⟩
 refine EvIf.bne (fun h1 => ?_) (fun h1 => ?_)
 ·exact ⟨itL [(0, .blk [gI s] 3)], _, ⟨⟨⟨_, rfl, rfl, rfl⟩, trivial⟩, rfl, ⟨[], rfl⟩, rfl, rfl, fin _ (by unfold isOwn; simp; exact fun _ => h1)⟩⟩
 ·exact ⟨itL [(0, .blk [gI s] 3)], _, ⟨⟨⟨_, rfl, rfl, rfl⟩, trivial⟩, rfl, ⟨[], rfl⟩, rfl, rfl, fin _ (by unfold isOwn; simp; intro h; exact absurd h1 h)⟩⟩
theorem allf_v (z : RZ) : FnV Tryz.prog 91 [gz z] fun g => g = .v (.bool true) := by
 refine fnG Tryz.func91 (by kernel_rfl) rfl (Nat.le_of_ble_eq_true (by kernel_rfl)) (by kernel_rfl) ?_
 exact rfl
end Go.Proofs.YtalfffamppmooaaGreatDoor
namespace Go.Proofs.YtalfffamppmooaaGreatDoor
open Go.RowKit
set_option maxRecDepth 100000
def ppZ (T : List RZ) (pz : RZ → Bool) (p : ByteArray) : Bool := match getZ T p with
 | some z => pz z
 | none => false
def pathsOf (T : List RZ) (pz : RZ → Bool) : List ByteArray := (T.filter pz).map RZ.path
theorem pp_at {T : List RZ} {pz : RZ → Bool} {p : ByteArray} {z : RZ} (h : getZ T p = some z) : ppZ T pz p = pz z := by unfold ppZ; rw [h]
theorem data_injL : ∀ {l m : List ByteArray}, l.map (fun s => s.data.toList) = m.map (fun s => s.data.toList) → l = m
 | [], [], _ => rfl
 | [], _ :: _, h => by cases h
 | _ :: _, [], h => by cases h
 | a :: l, b :: m, h => by
  simp only [List.map_cons, List.cons.injEq] at h
  rw [data_inj h.1, data_injL h.2]
theorem srt_paths {T : List RZ} (h : Srt T) : (T.map fun z => z.path.data.toList).Pairwise fun a b => a ≤ b :=
 List.pairwise_map.2 (h.imp fun h => List.le_of_lt ((ltS_iff _ _).1 h))
theorem filter_paths {T : List RZ} (hs : Srt T) (pz : RZ → Bool) : (T.map RZ.path).filter (ppZ T pz) = pathsOf T pz := by
 have key : ∀ L : List RZ, (∀ z ∈ L, z ∈ T) → (L.map RZ.path).filter (ppZ T pz) = (L.filter pz).map RZ.path := fun L => by
  induction L with
  | nil => intro _; rfl
  | cons z L ih =>
   intro h
   have e : ppZ T pz z.path = pz z := pp_at ((get_iff hs).2 ⟨h z (by simp), rfl⟩)
   rw [List.map_cons, List.filter_cons, List.filter_cons, ih fun y hy => h y (by simp [hy]), e]
   split <;> rfl
 exact key T fun _ h => h
theorem sorted_paths {T : List RZ} (hs : Srt T) {D : List ByteArray} (hD : (T.map RZ.path).Perm D) (pz : RZ → Bool) : sortS (D.filter (ppZ T pz)) = pathsOf T pz := by
 refine data_injL ?_
 rw [sortS_data]
 refine List.Perm.eq_of_pairwise (le := fun a b : List UInt8 => a ≤ b) (fun a b _ _ h1 h2 => List.le_antisymm h1 h2) ?_ ?_ (?_ : List.Perm _ _)
 ·exact (List.pairwise_mergeSort (fun a b c h1 h2 => by simp at h1 h2 ⊢; exact List.le_trans h1 h2) (fun a b => by simp; exact List.le_total a b) _).imp (fun h => by simpa using h)
 ·unfold pathsOf
  rw [List.map_map]
  exact srt_paths (hs.filter pz)
 ·refine (List.mergeSort_perm _ _).trans ?_
  rw [← filter_paths hs pz]
  exact ((hD.symm.filter _).map _)
structure PIv (l : Mp) (T : List RZ) (pz : RZ → Bool) (x : List ByteArray × List ByteArray × Option (ByteArray × G)) : Prop where
 nod : x.1.Nodup
 sub : ∀ p ∈ x.1, p ∈ l.map (·.1)
 out : x.2.1 = x.1.filter (ppZ T pz)
theorem PIv.len {l : Mp} {T : List RZ} {pz : RZ → Bool} {x : List ByteArray × List ByteArray × Option (ByteArray × G)} (h : PIv l T pz x) : x.2.1.length ≤ l.length := by
 rw [h.out]
 refine Nat.le_trans (List.length_filter_le _ _) ?_
 have := nodup_sub_len h.nod h.sub
 simpa using this
theorem PIv.more {l : Mp} {T : List RZ} {pz : RZ → Bool} {D out : List ByteArray} {la : Option (ByteArray × G)} (h : PIv l T pz (D, out, la)) {k : ByteArray} {z : RZ} {g : G} (hz : getZ T k = some z) (hm : (k, g) ∈ l) (hk : k ∉ D) (la' : Option (ByteArray × G)) : PIv l T pz (D ++ [k], out ++ (if pz z = true then [k] else []), la') := by
 refine ⟨?_, fun p hp => ?_, ?_⟩
 ·show (D ++ [k]).Nodup
  rw [List.nodup_append]
  exact ⟨h.nod, by simp, fun a ha b hb e => hk (by rw [List.mem_singleton.1 hb] at e; exact e ▸ ha)⟩
 ·rcases List.mem_append.1 hp with hp | hp
  ·exact h.sub p hp
  ·rw [List.mem_singleton.1 hp]; exact List.mem_map.2 ⟨_, hm, rfl⟩
 ·have h0 : out = D.filter (ppZ T pz) := h.out
  show out ++ _ = (D ++ [k]).filter (ppZ T pz)
  rw [List.filter_append, ← h0, List.filter_cons, pp_at hz]
  rfl
theorem paths_clo {l : Mp} {T : List RZ} (h : TM l T) (hs : Srt T) (hl : T.length ≤ 100000) (pz : RZ → Bool) {f : FuncId} {x : Value} {t : TypeId} (hf : ∀ z ∈ T, FnO Tryz.prog f [gz z, .ptr 0 0] [.blk [.v x] t] fun g rs => g = .v (.bool (pz z)) ∧ rs = [.blk [.v x] t]) :
  FnO Tryz.prog 90 [.ptr 0 0, .clo f [] [.ptr 1 0]] [.blk [.mp 2] tTree, .blk [.v x] t, .mpS l] fun g rs => g = .sl ((pathsOf T pz).map gSt) ∧ rs = [.blk [.mp 2] tTree, .blk [.v x] t, .mpS l] := by
 refine fnoG Tryz.func90 (by kernel_rfl) rfl (Nat.le_of_ble_eq_true (by kernel_rfl)) (by kernel_rfl) (lent_id _ _) ?_
 have hlen := h.len hs
 intro m ob
 refine sx_loop [1, 12] [0, 1, 2] (fun _ : List ByteArray × List ByteArray × Option (ByteArray × G) => [(5, .osl 4)]) (fun x => [(4, .slc (x.2.1.map gSt) 9 1), (5, .mit 2 l x.1 x.2.2 m ob)]) (PIv l T pz) (fun x => l.length - x.1.length) ([], [], none) ⟨by simp, by simp, rfl⟩ ⟨⟨rfl, rfl⟩, trivial⟩ ⟨⟨rfl, rfl, rfl⟩, ⟨rfl, rfl, rfl⟩, trivial⟩ rfl fun ⟨D, out, la⟩ hI => ?_
 have hol := hI.len
 dsimp only at hol
 refine ⟨⟨rfl, rfl⟩, ⟨fun k g hm hk hlt => ?_, fun hnd hperm => ?_⟩⟩
 ·have hlt : D.length < l.length := hlt
  obtain ⟨z, hz, rfl⟩ := h.mem hm
  refine ⟨⟨rfl, rfl⟩, ?_⟩
  refine (hf z (get_mem hz).1).cal fun q rs hq => ?_
  obtain ⟨rfl, rfl⟩ := hq
  refine EvIf.mk (fun hp => ?_) (fun hp => ?_)
  ·refine ⟨by simp; omega, _, hI.more hz hm hk (some (k, gz z)), (by simp; omega), ?_⟩
   refine ⟨?_, ?_, rfl⟩ <;> repeat' (first | exact True.intro | with_reducible rfl | exact rfl | refine And.intro ?_ ?_)
   exact eqR (by rw [if_pos hp, List.map_append]; rfl)
  ·refine ⟨_, hI.more hz hm hk (some (k, gz z)), (by simp; omega), ?_⟩
   refine ⟨?_, ?_, rfl⟩ <;> repeat' (first | exact True.intro | with_reducible rfl | exact rfl | refine And.intro ?_ ?_)
   exact eqR (by rw [if_neg (by rw [hp]; simp), List.append_nil])
 ·have hD : (T.map RZ.path).Perm D := (h.keys hs).symm.trans hperm
  refine EvCall.lend ((sort_o out (by omega)).cal fun q rs hq => ?_)
  obtain ⟨rfl, rfl⟩ := hq
  have e : sortS out = pathsOf T pz := by rw [show out = D.filter (ppZ T pz) from hI.out]; exact sorted_paths hs hD pz
  rw [e]
  exact ⟨itL [(0, .blk [.mp 2] tTree), (1, .blk [.v x] t), (2, .mpS l)], _, ⟨⟨⟨_, rfl, rfl, rfl⟩, ⟨_, rfl, rfl, rfl⟩, ⟨_, rfl, rfl, rfl⟩, trivial⟩, rfl, ⟨[], rfl⟩, rfl, rfl, ⟨rfl, rfl⟩⟩⟩
theorem paths_all {l : Mp} {T : List RZ} (h : TM l T) (hs : Srt T) (hl : T.length ≤ 100000) : FnO Tryz.prog 90 [.ptr 0 0, .v (.func (.func 91) #[] #[])] (oP l) fun g rs => g = .sl ((T.map RZ.path).map gSt) ∧ rs = oP l := by
 refine fnoG Tryz.func90 (by kernel_rfl) rfl (Nat.le_of_ble_eq_true (by kernel_rfl)) (by kernel_rfl) (lent_id _ _) ?_
 have hlen := h.len hs
 intro m ob
 refine sx_loop [1, 12] [0, 1] (fun _ : List ByteArray × List ByteArray × Option (ByteArray × G) => [(5, .osl 3)]) (fun x => [(3, .slc (x.2.1.map gSt) 9 1), (4, .mit 1 l x.1 x.2.2 m ob)]) (PIv l T fun _ => true) (fun x => l.length - x.1.length) ([], [], none) ⟨by simp, by simp, rfl⟩ ⟨⟨rfl, rfl⟩, trivial⟩ ⟨⟨rfl, rfl, rfl⟩, ⟨rfl, rfl, rfl⟩, trivial⟩ rfl fun ⟨D, out, la⟩ hI => ?_
 have hol := hI.len
 dsimp only at hol
 refine ⟨⟨rfl, rfl⟩, ⟨fun k g hm hk hlt => ?_, fun hnd hperm => ?_⟩⟩
 ·have hlt : D.length < l.length := hlt
  obtain ⟨z, hz, rfl⟩ := h.mem hm
  refine ⟨⟨rfl, rfl⟩, ?_⟩
  refine (allf_v z).cal fun q hq => ?_
  subst hq
  refine EvIf.mk (fun hp => ?_) (fun hp => by cases hp)
  refine ⟨by simp; omega, _, hI.more hz hm hk (some (k, gz z)), (by simp; omega), ?_⟩
  refine ⟨?_, ?_, rfl⟩ <;> repeat' (first | exact True.intro | with_reducible rfl | exact rfl | refine And.intro ?_ ?_)
  exact eqR (by rw [if_pos rfl, List.map_append]; rfl)
 ·have hD : (T.map RZ.path).Perm D := (h.keys hs).symm.trans hperm
  refine EvCall.lend ((sort_o out (by omega)).cal fun q rs hq => ?_)
  obtain ⟨rfl, rfl⟩ := hq
  have e : sortS out = T.map RZ.path := by
   rw [show out = D.filter (ppZ T fun _ => true) from hI.out, sorted_paths hs hD]
   unfold pathsOf
   rw [List.filter_eq_self.2 fun _ _ => rfl]
  rw [e]
  exact ⟨itL [(0, .blk [.mp 1] tTree), (1, .mpS l)], _, ⟨⟨⟨_, rfl, rfl, rfl⟩, ⟨_, rfl, rfl, rfl⟩, trivial⟩, rfl, ⟨[], rfl⟩, rfl, rfl, ⟨rfl, rfl⟩⟩⟩
theorem kids_o {l : Mp} {T : List RZ} (h : TM l T) (hw : Wz T) (p : ByteArray) : FnO Tryz.prog 98 [.ptr 0 0, gS p] (oP l) fun g rs => ∃ l', (l' = l ∧ g = .tup [.sl ((kidsZ T p).map gSt), .v (.bool (getZ T p).isSome)]) ∧ rs = oP l' := by
 refine fnoG Tryz.func98 (by kernel_rfl) rfl (Nat.le_of_ble_eq_true (by kernel_rfl)) (by kernel_rfl) (lent_id _ _) ?_
 have hg := h.get p
 cases hz : getZ T p with
 | none =>
  rw [hz] at hg
  have hk : kidsZ T p = [] := by unfold kidsZ; rw [hz]; rfl
  rw [hk]
  refine ⟨fun g e => (by rw [hg] at e; cases e), fun _ => ?_⟩
  exact end_open l rfl rfl rfl ⟨l, ⟨rfl, rfl⟩, rfl⟩
 | some z =>
  rw [hz] at hg
  have hsm : ∀ z ∈ T, z.path.size ≤ maxZ := fun z hz => by have := valid_size (hw.valid z hz); unfold maxZ; omega
  have hk : kidsZ T p = (pathsOf T (isKid p)).map baseZ := by unfold kidsZ pathsOf; rw [hz, Option.isSome_some, if_pos rfl, List.map_map]; rfl
  refine ⟨fun g e => ?_, fun e => (by rw [hg] at e; cases e)⟩
  rw [hg] at e
  cases e
  have hPl : ∀ q ∈ pathsOf T (isKid p), q.size ≤ maxZ := fun q hq => by
   obtain ⟨y, hy, rfl⟩ := List.mem_map.1 hq
   exact hsm y (List.mem_filter.1 hy).1
  have hPn : (pathsOf T (isKid p)).length ≤ 200 := by unfold pathsOf; rw [List.length_map]; exact Nat.le_trans (List.length_filter_le _ _) hw.len
  refine (paths_clo h hw.srt (wz_sm hw).len (isKid p) fun z hz => kidf_o z p (hsm z hz)).cal fun q rs hq => ?_
  obtain ⟨rfl, rfl⟩ := hq
  rw [hk]
  generalize pathsOf T (isKid p) = P at *
  refine sx_loop [24, 25] [0, 1] (fun i : Nat => [(26, gI i), (8, .osl 5)]) (fun i => [(5, .slc ((P.take i).map fun q => gSt (baseZ q)) 9 1)]) (fun i => i ≤ P.length) (fun i => P.length - i) 0 (by omega) ⟨⟨rfl, rfl⟩, ⟨rfl, rfl⟩, trivial⟩ ⟨⟨rfl, rfl, rfl⟩, trivial⟩ rfl fun i hi => ?_
  refine EvIf.dec (fun h1 => ?_) (fun h1 => ?_)
  ·refine EvIdx.of (by simpa using h1) fun q hq => ?_
   have hlt := lt_of_at hq
   refine (base_p q (hPl q (List.mem_of_getElem? hq))).cal fun g hg => ?_
   subst hg
   refine ⟨by simp; omega, ⟨by omega, i + 1, by omega, (by dsimp only; omega), ?_⟩⟩
   refine ⟨?_, ?_, rfl⟩ <;> repeat' (first | exact True.intro | with_reducible rfl | exact rfl | refine And.intro ?_ ?_)
   exact eqR (by rw [take_more hq, List.map_append]; rfl)
  ·rw [List.take_of_length_le (by simp at h1; omega)]
   refine end_open l rfl rfl rfl ⟨l, ⟨rfl, ?_⟩, rfl⟩
   show G.tup [.sl _, _] = _
   rw [List.map_map]; rfl
theorem owned_o {l : Mp} {T : List RZ} (h : TM l T) (hw : Wz T) (s : Int) : FnO Tryz.prog 123 [.ptr 0 0, gI s] (oP l) fun g rs => ∃ l', (l' = l ∧ g = .sl ((ownedZ T s).map gSt)) ∧ rs = oP l' := by
 refine fnoG Tryz.func123 (by kernel_rfl) rfl (Nat.le_of_ble_eq_true (by kernel_rfl)) (by kernel_rfl) (lent_id _ _) ?_
 refine (paths_clo h hw.srt (wz_sm hw).len (isOwn s) fun z _ => ownf_o z s).cal fun q rs hq => ?_
 obtain ⟨rfl, rfl⟩ := hq
 exact end_open l rfl rfl rfl ⟨l, ⟨rfl, rfl⟩, rfl⟩
theorem all_o {l : Mp} {T : List RZ} (h : TM l T) (hw : Wz T) : FnO Tryz.prog 47 [.ptr 0 0] (oP l) fun g rs => ∃ l', (l' = l ∧ g = gT T) ∧ rs = oP l' := by
 refine fnoG Tryz.func47 (by kernel_rfl) rfl (Nat.le_of_ble_eq_true (by kernel_rfl)) (by kernel_rfl) (lent_id _ _) ?_
 refine (paths_all h hw.srt (wz_sm hw).len).cal fun q rs hq => ?_
 obtain ⟨rfl, rfl⟩ := hq
 have hl := hw.len
 refine sx_loop [0, 7, 8] [0, 1] (fun i : Nat => [(9, gI i), (3, .osl 3)]) (fun i => [(3, .slc ((T.take i).map enZ) 154 9)]) (fun i => i ≤ T.length) (fun i => T.length - i) 0 (by omega) ⟨⟨rfl, rfl⟩, ⟨rfl, rfl⟩, trivial⟩ ⟨⟨rfl, rfl, rfl⟩, trivial⟩ rfl fun i hi => ?_
 refine EvIf.dec (fun h1 => ?_) (fun h1 => ?_)
 ·obtain ⟨z, hz⟩ : ∃ z, T[i]? = some z := ⟨_, List.getElem?_eq_getElem (by simpa using h1)⟩
  have hlt := lt_of_at hz
  have hg := h.get z.path
  rw [(get_iff hw.srt).2 ⟨List.mem_of_getElem? hz, rfl⟩] at hg
  refine EvIdx.at (x := z.path) (by rw [List.getElem?_map, hz]; rfl) ⟨fun g e => ?_, fun e => (by rw [hg] at e; cases e)⟩
  rw [hg] at e
  cases e
  refine ⟨by simp; omega, ⟨by omega, i + 1, by omega, (by dsimp only; omega), ?_⟩⟩
  refine ⟨?_, ?_, rfl⟩ <;> repeat' (first | exact True.intro | with_reducible rfl | exact rfl | refine And.intro ?_ ?_)
  exact eqR (by rw [take_more hz, List.map_append]; rfl)
 ·rw [List.take_of_length_le (by simp at h1; omega)]
  exact end_open l rfl rfl rfl ⟨l, ⟨rfl, rfl⟩, rfl⟩
end Go.Proofs.YtalfffamppmooaaGreatDoor
namespace Go.Proofs.YtalfffamppmooaaGreatDoor
open Go.RowKit
set_option maxRecDepth 100000
theorem up_min {n : Int} (h : n ≤ big) : min (n + 1) 4611686018427387904 = upZ n := by
 unfold upZ big at *
 split
 ·next e => rw [e]; rfl
 ·omega
theorem zero_min {n : Int} (h : n ≤ big) : min (n + 0) 4611686018427387904 = n := by unfold big at h; omega
def mo (made : Bool) : Int := match made with
 | true => 1
 | false => 0
theorem kid_o {l : Mp} {T : List RZ} (h : TM l T) (hs : Srt T) {path : ByteArray} (hp : path.size ≤ maxZ) {z : RZ} (hz : z ∈ T) (e : z.path = (parentZ path).1) (hr : RgZ z) (zx : Int) (made : Bool) : FnO Tryz.prog 129 [.ptr 0 0, gS path, gI zx, gI (mo made)] (oP l) fun g rs => ∃ l', (TM l' (putZ T (kidOf z zx made)) ∧ g = .agg (enE ⟨0, 4, (parentZ path).1⟩)) ∧ rs = oP l' := by
 refine fnoG Tryz.func129 (by kernel_rfl) rfl (Nat.le_of_ble_eq_true (by kernel_rfl)) (by kernel_rfl) (lent_id _ _) ?_
 have hg := h.get (parentZ path).1
 rw [(get_iff hs).2 ⟨hz, e⟩] at hg
 have k1 := hr.ki
 have k2 := hr.nx
 have ht := h.put hs (kidOf z zx made)
 rw [show (kidOf z zx made).path = (parentZ path).1 from e] at ht
 have hki := up_min k1.2
 unfold big at k1 k2
 refine (parent_p path hp).cal fun q hq => ?_
 subst hq
 refine ⟨fun g e => ?_, fun e => (by rw [hg] at e; cases e)⟩
 rw [hg] at e
 cases e
 refine ⟨by omega, ?_⟩
 cases made with
 | true =>
  have hnx := up_min hr.nx.2
  have hc : gz (kidOf z zx true) = .agg [gS z.path, gS z.data, gI z.cr, gI z.ch, gI zx, gI z.ve, gI (min (z.ki + 1) 4611686018427387904), gI z.ow, gI (min (z.nx + 1) 4611686018427387904)] := by rw [hki, hnx]; rfl
  rw [hc] at ht
  refine ⟨by show _ ≤ z.nx + 1 ∧ z.nx + 1 ≤ _; omega, ?_⟩
  exact end_open _ rfl rfl rfl ⟨_, ⟨ht, rfl⟩, rfl⟩
 | false =>
  have hnx := zero_min hr.nx.2
  have hc : gz (kidOf z zx false) = .agg [gS z.path, gS z.data, gI z.cr, gI z.ch, gI zx, gI z.ve, gI (min (z.ki + 1) 4611686018427387904), gI z.ow, gI (min (z.nx + 0) 4611686018427387904)] := by rw [hki, hnx]; rfl
  rw [hc] at ht
  refine ⟨by show _ ≤ z.nx + 0 ∧ z.nx + 0 ≤ _; omega, ?_⟩
  exact end_open _ rfl rfl rfl ⟨_, ⟨ht, rfl⟩, rfl⟩
theorem remove_o {l : Mp} {T : List RZ} (h : TM l T) (hw : Wz T) (zx : Int) {p : ByteArray} {q : RZ} (k : RmOk T p q) (hp : p.size ≤ maxZ) : FnO Tryz.prog 99 [.ptr 0 0, gS p, gI zx] (oP l) fun g rs => ∃ l', (TM l' (removeZ T zx p).t ∧ g = .sl ((removeZ T zx p).ev.map enE)) ∧ rs = oP l' := by
 refine fnoG Tryz.func99 (by kernel_rfl) rfl (Nat.le_of_ble_eq_true (by kernel_rfl)) (by kernel_rfl) (lent_id _ _) ?_
 have hd := h.del hw.srt p
 have ht : (removeZ T zx p).t = putZ (delZ T p) (kidOf q zx false) := by
  have hg : getZ (delZ T p) (parentZ p).1 = some q := (get_iff (srt_del hw.srt)).2 ⟨mem_del.2 ⟨k.mem, k.lt⟩, k.path⟩
  unfold removeZ
  show putZ (delZ T p) (kidOf ((getZ (delZ T p) (parentZ p).1).getD rz0) zx false) = _
  rw [hg]; rfl
 refine (kid_o hd (srt_del hw.srt) hp (mem_del.2 ⟨k.mem, k.lt⟩) k.path (hw.rg q k.mem) zx false).cal fun g rs hq => ?_
 obtain ⟨l', ⟨h1, rfl⟩, rfl⟩ := hq
 rw [← ht] at h1
 exact end_open l' rfl rfl rfl ⟨l', ⟨h1, rfl⟩, rfl⟩
abbrev gCh (c : RC) (zx se : Int) : G := .agg [gI c.kind, gS c.path, gS c.data, gI c.ve, .v (.bool c.ep), .v (.bool c.sq), gI zx, gI se]
def gSt3 (s : RStep) : G := .tup [gS s.path, .sl (s.ev.map enE), gI s.e]
def afterZ (T : List RZ) (s : RStep) : List RZ := if s.e = 0 then s.t else T
def OneP (T : List RZ) (s : RStep) (g : G) (rs : List R) : Prop := ∃ l', (TM l' (afterZ T s) ∧ g = gSt3 s) ∧ rs = oP l'
theorem one_fail {l : Mp} {T : List RZ} (h : TM l T) {e : Int} (he : e ≠ 0) : OneP T (failZ e) (.tup [gS noS, .sl [], gI e]) (oP l) := ⟨l, ⟨by unfold afterZ; rw [if_neg (show ¬ (failZ e).e = 0 from he)]; exact h, rfl⟩, rfl⟩
theorem found_o {l : Mp} {T : List RZ} (h : TM l T) (c : RC) (zx se : Int) : FnO Tryz.prog 97 [.ptr 0 0, gCh c zx se] (oP l) fun g rs => g = .tup [gz ((getZ T c.path).getD rz0), gI (foundE T c)] ∧ rs = oP l := by
 refine fnoG Tryz.func97 (by kernel_rfl) rfl (Nat.le_of_ble_eq_true (by kernel_rfl)) (by kernel_rfl) (lent_id _ _) ?_
 have hg := h.get c.path
 cases hz : getZ T c.path with
 | none =>
  rw [hz] at hg
  have hf : foundE T c = 80 := by unfold foundE; rw [hz]
  refine ⟨fun g e => (by rw [hg] at e; cases e), fun _ => ?_⟩
  rw [hf]
  exact end_open l rfl rfl rfl ⟨rfl, rfl⟩
 | some z =>
  rw [hz] at hg
  have hf : foundE T c = if c.kind = 2 ∧ c.path = rootS then 1 else if c.ve ≠ -1 ∧ c.ve ≠ z.ve then 82 else 0 := by unfold foundE; rw [hz]
  have fin : ∀ e, foundE T c = e → (fun (g : G) (rs : List R) => g = .tup [gz ((some z).getD rz0), gI (foundE T c)] ∧ rs = oP l) (.tup [gz z, gI e]) (oP l) := fun e he => ⟨by rw [he]; rfl, rfl⟩
  refine ⟨fun g e => ?_, fun e => (by rw [hg] at e; cases e)⟩
  rw [hg] at e
  cases e
  have v : ¬ (c.kind = 2 ∧ c.path = rootS) → (c.ve ≠ -1 → c.ve ≠ z.ve → foundE T c = 82) ∧ ((c.ve = -1 ∨ c.ve = z.ve) → foundE T c = 0) := fun hn => by
   rw [hf, if_neg hn]
   exact ⟨fun h1 h2 => if_pos ⟨h1, h2⟩, fun h1 => if_neg fun h2 => h1.elim h2.1 h2.2⟩
  refine EvIf.beq (fun (h1 : c.kind = 2) => EvIf.beqS (fun (h2 : c.path = rootS) => ?_) (fun (h2 : c.path ≠ rootS) => ?_)) (fun (h1 : ¬ c.kind = 2) => ?_)
  ·exact end_open l rfl rfl rfl (fin 1 (by rw [hf, if_pos ⟨h1, h2⟩]))
  ·have v := v fun e => h2 e.2
   refine EvIf.bne (fun h3 => EvIf.bne (fun h4 => ?_) (fun h4 => ?_)) (fun h3 => ?_)
   ·exact end_open l rfl rfl rfl (fin 82 (v.1 h3 h4))
   ·exact end_open l rfl rfl rfl (fin 0 (v.2 (.inr h4)))
   ·exact end_open l rfl rfl rfl (fin 0 (v.2 (.inl h3)))
  ·have v := v fun e => h1 e.1
   refine EvIf.bne (fun h3 => EvIf.bne (fun h4 => ?_) (fun h4 => ?_)) (fun h3 => ?_)
   ·exact end_open l rfl rfl rfl (fin 82 (v.1 h3 h4))
   ·exact end_open l rfl rfl rfl (fin 0 (v.2 (.inr h4)))
   ·exact end_open l rfl rfl rfl (fin 0 (v.2 (.inl h3)))
theorem create_o {l : Mp} {T : List RZ} (h : TM l T) (hw : Wz T) {zx se : Int} (hz : inZ zx = true) (hs : inZ se = true) (c : RC) (hv : validZ c.path = true) : FnO Tryz.prog 96 [.ptr 0 0, gCh c zx se] (oP l) (OneP T (createZ T zx se c)) := by
 refine fnoG Tryz.func96 (by kernel_rfl) rfl (Nat.le_of_ble_eq_true (by kernel_rfl)) (by kernel_rfl) (lent_id _ _) ?_
 have hsz := valid_size hv
 have hlen := h.len hw.srt
 have fail : ∀ e, createE T c = e → e ≠ 0 → OneP T (createZ T zx se c) (.tup [gS noS, .sl [], gI e]) (oP l) := fun e h1 h2 => by
  have : createZ T zx se c = failZ e := by unfold createZ; rw [if_neg (by rw [h1]; exact h2), h1]
  rw [this]; exact one_fail h h2
 refine (parent_p c.path (by unfold maxZ; omega)).cal fun q hq => ?_
 subst hq
 have hgp := h.get (parentZ c.path).1
 -- what is looked at first
 have h87 : c.data.size > 1024 → createE T c = 87 := fun h => by unfold createE; rw [if_pos h]
 cases hg : getZ T (parentZ c.path).1 with
 | none =>
  rw [hg] at hgp
  refine ⟨fun g e => (by rw [hgp] at e; cases e), fun _ => ?_⟩
  refine EvIf.dec (fun h1 => ?_) (fun h1 => ?_)
  ·exact end_open l rfl rfl rfl (fail _ (h87 (by omega)) (by decide))
  have h1 : ¬ c.data.size > 1024 := by omega
  by_cases h2 : c.path = rootS
  ·have hu : (parentZ c.path).2 = false := by rw [h2, parent_root]
   rw [hu]
   refine EvIf.mk (fun _ => ?_) fun hh => by cases hh
   exact end_open l rfl rfl rfl (fail _ (by unfold createE; rw [if_neg h1, if_pos h2]) (by decide))
  ·rw [(parent_yes hv h2).1]
   refine EvIf.mk (fun hh => by cases hh) fun _ => ?_
   exact end_open l rfl rfl rfl (fail _ (by unfold createE; rw [if_neg h1, if_neg h2, hg]) (by decide))
 | some p =>
  rw [hg] at hgp
  refine ⟨fun g e => ?_, fun e => (by rw [hgp] at e; cases e)⟩
  rw [hgp] at e
  cases e
  refine EvIf.dec (fun h1 => ?_) (fun h1 => ?_)
  ·exact end_open l rfl rfl rfl (fail _ (h87 (by omega)) (by decide))
  have h1 : ¬ c.data.size > 1024 := by omega
  by_cases h2 : c.path = rootS
  ·have hu : (parentZ c.path).2 = false := by rw [h2, parent_root]
   rw [hu]
   refine EvIf.mk (fun _ => ?_) fun hh => by cases hh
   exact end_open l rfl rfl rfl (fail _ (by unfold createE; rw [if_neg h1, if_pos h2]) (by decide))
  rw [(parent_yes hv h2).1]
  refine EvIf.mk (fun hh => by cases hh) fun _ => EvIf.bne (fun (h3 : p.ow ≠ 0) => ?_) (fun (h3 : p.ow = 0) => ?_)
  ·exact end_open l rfl rfl rfl (fail _ (by unfold createE; rw [if_neg h1, if_neg h2, hg]; exact if_pos h3) (by decide))
  have h3 : ¬ p.ow ≠ 0 := fun h => h h3
  have hE : createE T c = if (nameC T c).2 = false then 70 else if (getZ T (nameC T c).1).isSome = true then 81 else if T.length ≥ 200 then 86 else 0 := by
   unfold createE
   rw [if_neg h1, if_neg h2, hg]
   exact if_neg h3
  refine EvIf.mk (fun (hsq : c.sq = true) => ?_) (fun (hsq : c.sq = false) => ?_)
  ·obtain ⟨N, hN⟩ : ∃ N, N = numZ c.path p.nx := ⟨_, rfl⟩
   have hn : nameC T c = N := by unfold nameC; rw [if_pos hsq, hg, hN]; rfl
   rw [hn] at hE
   refine (number_p c.path (by omega) p.nx).cal fun q hq => ?_
   subst hq
   rw [← hN]
   cases hb : N.2 with
   | false =>
    have hgP := h.get N.1
    have h70 : createE T c = 70 := by rw [hE, if_pos hb]
    refine ⟨fun g e => ?_, fun e => ?_⟩
    ·rw [hgP] at e
     obtain ⟨zz, -, rfl⟩ := Option.map_eq_some_iff.1 e
     refine EvIf.mk (fun _ => ?_) fun hh => by cases hh
     exact end_open l rfl rfl rfl (fail _ h70 (by decide))
    ·refine EvIf.mk (fun _ => ?_) fun hh => by cases hh
     exact end_open l rfl rfl rfl (fail _ h70 (by decide))
   | true =>
    have hE2 : createE T c = if (getZ T N.1).isSome = true then 81 else if T.length ≥ 200 then 86 else 0 := by rw [hE, if_neg (by rw [hb]; simp)]
    have hgP := h.get N.1
    cases hf : getZ T N.1 with
    | some zz =>
     rw [hf] at hgP
     refine ⟨fun g e => ?_, fun e => (by rw [hgP] at e; cases e)⟩
     rw [hgP] at e
     cases e
     refine EvIf.mk (fun hh => by cases hh) fun _ => ?_
     exact end_open l rfl rfl rfl (fail _ (by rw [hE2, hf]; rfl) (by decide))
    | none =>
     rw [hf] at hgP
     refine ⟨fun g e => (by rw [hgP] at e; cases e), fun _ => ?_⟩
     refine EvIf.mk (fun hh => by cases hh) fun _ => ?_
     refine EvIf.dec (fun h6 => ?_) (fun h6 => ?_)
     ·exact end_open l rfl rfl rfl (fail _ (by rw [hE2, hf, if_neg (by simp), if_pos (by omega)]) (by decide))
     ·have hE0 : createE T c = 0 := by rw [hE2, hf, if_neg (by simp), if_neg (by omega)]
      obtain ⟨p', k, hp'⟩ := create_ok hv hE0
      rw [hg] at hp'
      obtain rfl := Option.some.inj hp'
      have hP : (N.1).size ≤ maxZ := by have := valid_size k.valid; rw [hn] at this; unfold maxZ; omega
      have hfr : p.path ≠ N.1 := get_none.1 hf p k.mem
      refine EvIf.mk (fun (hep : c.ep = true) => ?_) (fun (hep : c.ep = false) => ?_)
      ·have hcr : createZ T zx se c = kidZ ⟨putZ T (newZ N.1 c.data zx se), N.1, [⟨0, 1, N.1⟩], 0⟩ zx true := by
        unfold createZ
        rw [if_pos hE0, hn, if_pos hep]
       have hput := h.put hw.srt (newZ N.1 c.data zx se)
       have hwm := wz_made hw hz hs k
       have hpm : p ∈ putZ T (newZ N.1 c.data zx se) := mem_put.2 (.inr ⟨k.mem, hfr⟩)
       refine (kid_o hput (srt_put hw.srt) hP hpm (by rw [k.path, ← k.par, hn]) (hw.rg p k.mem) zx true).cal fun g rs hq => ?_
       obtain ⟨l', ⟨q1, rfl⟩, rfl⟩ := hq
       refine end_open l' rfl rfl rfl ⟨l', ⟨?_, ?_⟩, rfl⟩
       ·rw [hcr]
        unfold afterZ
        rw [if_pos (show (kidZ _ _ _).e = 0 from rfl)]
        have e1 : getZ (putZ T (newZ N.1 c.data zx se)) (parentZ N.1).1 = some p := (get_iff (srt_put hw.srt)).2 ⟨hpm, by rw [k.path, ← k.par, hn]⟩
        show TM l' (putZ (putZ T (newZ N.1 c.data zx se)) (kidOf ((getZ (putZ T (newZ N.1 c.data zx se)) (parentZ N.1).1).getD rz0) zx true))
        rw [e1]; exact q1
       ·rw [hcr]; rfl
      ·have hcr : createZ T zx se c = kidZ ⟨putZ T (newZ N.1 c.data zx 0), N.1, [⟨0, 1, N.1⟩], 0⟩ zx true := by
        unfold createZ
        rw [if_pos hE0, hn, if_neg (by rw [hep]; simp)]
       have hput := h.put hw.srt (newZ N.1 c.data zx 0)
       have hwm := wz_made hw hz hs k
       have hpm : p ∈ putZ T (newZ N.1 c.data zx 0) := mem_put.2 (.inr ⟨k.mem, hfr⟩)
       refine (kid_o hput (srt_put hw.srt) hP hpm (by rw [k.path, ← k.par, hn]) (hw.rg p k.mem) zx true).cal fun g rs hq => ?_
       obtain ⟨l', ⟨q1, rfl⟩, rfl⟩ := hq
       refine end_open l' rfl rfl rfl ⟨l', ⟨?_, ?_⟩, rfl⟩
       ·rw [hcr]
        unfold afterZ
        rw [if_pos (show (kidZ _ _ _).e = 0 from rfl)]
        have e1 : getZ (putZ T (newZ N.1 c.data zx 0)) (parentZ N.1).1 = some p := (get_iff (srt_put hw.srt)).2 ⟨hpm, by rw [k.path, ← k.par, hn]⟩
        show TM l' (putZ (putZ T (newZ N.1 c.data zx 0)) (kidOf ((getZ (putZ T (newZ N.1 c.data zx 0)) (parentZ N.1).1).getD rz0) zx true))
        rw [e1]; exact q1
       ·rw [hcr]; rfl
  ·have hn : nameC T c = (c.path, true) := by unfold nameC; rw [if_neg (by rw [hsq]; simp)]
   rw [hn] at hE
   have hE2 : createE T c = if (getZ T c.path).isSome = true then 81 else if T.length ≥ 200 then 86 else 0 := by rw [hE, if_neg (by simp)]
   have hgP := h.get c.path
   cases hf : getZ T c.path with
   | some zz =>
    rw [hf] at hgP
    refine ⟨fun g e => ?_, fun e => (by rw [hgP] at e; cases e)⟩
    rw [hgP] at e
    cases e
    exact end_open l rfl rfl rfl (fail _ (by rw [hE2, hf]; rfl) (by decide))
   | none =>
    rw [hf] at hgP
    refine ⟨fun g e => (by rw [hgP] at e; cases e), fun _ => ?_⟩
    refine EvIf.dec (fun h6 => ?_) (fun h6 => ?_)
    ·exact end_open l rfl rfl rfl (fail _ (by rw [hE2, hf, if_neg (by simp), if_pos (by omega)]) (by decide))
    ·have hE0 : createE T c = 0 := by rw [hE2, hf, if_neg (by simp), if_neg (by omega)]
     obtain ⟨p', k, hp'⟩ := create_ok hv hE0
     rw [hg] at hp'
     obtain rfl := Option.some.inj hp'
     have hP : (c.path).size ≤ maxZ := by have := valid_size k.valid; rw [hn] at this; unfold maxZ; omega
     have hfr : p.path ≠ c.path := get_none.1 hf p k.mem
     refine EvIf.mk (fun (hep : c.ep = true) => ?_) (fun (hep : c.ep = false) => ?_)
     ·have hcr : createZ T zx se c = kidZ ⟨putZ T (newZ c.path c.data zx se), c.path, [⟨0, 1, c.path⟩], 0⟩ zx true := by
       unfold createZ
       rw [if_pos hE0, hn, if_pos hep]
      have hput := h.put hw.srt (newZ c.path c.data zx se)
      have hwm := wz_made hw hz hs k
      have hpm : p ∈ putZ T (newZ c.path c.data zx se) := mem_put.2 (.inr ⟨k.mem, hfr⟩)
      refine (kid_o hput (srt_put hw.srt) hP hpm (by rw [k.path, ← k.par, hn]) (hw.rg p k.mem) zx true).cal fun g rs hq => ?_
      obtain ⟨l', ⟨q1, rfl⟩, rfl⟩ := hq
      refine end_open l' rfl rfl rfl ⟨l', ⟨?_, ?_⟩, rfl⟩
      ·rw [hcr]
       unfold afterZ
       rw [if_pos (show (kidZ _ _ _).e = 0 from rfl)]
       have e1 : getZ (putZ T (newZ c.path c.data zx se)) (parentZ c.path).1 = some p := (get_iff (srt_put hw.srt)).2 ⟨hpm, by rw [k.path, ← k.par, hn]⟩
       show TM l' (putZ (putZ T (newZ c.path c.data zx se)) (kidOf ((getZ (putZ T (newZ c.path c.data zx se)) (parentZ c.path).1).getD rz0) zx true))
       rw [e1]; exact q1
      ·rw [hcr]; rfl
     ·have hcr : createZ T zx se c = kidZ ⟨putZ T (newZ c.path c.data zx 0), c.path, [⟨0, 1, c.path⟩], 0⟩ zx true := by
       unfold createZ
       rw [if_pos hE0, hn, if_neg (by rw [hep]; simp)]
      have hput := h.put hw.srt (newZ c.path c.data zx 0)
      have hwm := wz_made hw hz hs k
      have hpm : p ∈ putZ T (newZ c.path c.data zx 0) := mem_put.2 (.inr ⟨k.mem, hfr⟩)
      refine (kid_o hput (srt_put hw.srt) hP hpm (by rw [k.path, ← k.par, hn]) (hw.rg p k.mem) zx true).cal fun g rs hq => ?_
      obtain ⟨l', ⟨q1, rfl⟩, rfl⟩ := hq
      refine end_open l' rfl rfl rfl ⟨l', ⟨?_, ?_⟩, rfl⟩
      ·rw [hcr]
       unfold afterZ
       rw [if_pos (show (kidZ _ _ _).e = 0 from rfl)]
       have e1 : getZ (putZ T (newZ c.path c.data zx 0)) (parentZ c.path).1 = some p := (get_iff (srt_put hw.srt)).2 ⟨hpm, by rw [k.path, ← k.par, hn]⟩
       show TM l' (putZ (putZ T (newZ c.path c.data zx 0)) (kidOf ((getZ (putZ T (newZ c.path c.data zx 0)) (parentZ c.path).1).getD rz0) zx true))
       rw [e1]; exact q1
      ·rw [hcr]; rfl
end Go.Proofs.YtalfffamppmooaaGreatDoor
namespace Go.Proofs.YtalfffamppmooaaGreatDoor
open Go.RowKit
set_option maxRecDepth 100000
set_option maxHeartbeats 2000000 in
theorem one_o {l : Mp} {T : List RZ} (h : TM l T) (hw : Wz T) {zx se : Int} (hz : inZ zx = true) (hs : inZ se = true) (c : RC) (hc : c.path.size ≤ maxZ) : FnO Tryz.prog 57 [.ptr 0 0, gCh c zx se] (oP l) (OneP T (oneZ T zx se c)) := by
 refine fnoG Tryz.func57 (by kernel_rfl) rfl (Nat.le_of_ble_eq_true (by kernel_rfl)) (by kernel_rfl) (lent_id _ _) ?_
 obtain ⟨X, hX⟩ : ∃ X, X = oneZ T zx se c := ⟨_, rfl⟩
 rw [← hX]
 unfold oneZ at hX
 have fail : ∀ e, X = failZ e → e ≠ 0 → OneP T X (.tup [gS noS, .sl [], gI e]) (oP l) := fun e h1 h2 => by rw [h1]; exact one_fail h h2
 refine EvIf.dec (fun h1 => ?_) (fun h1 => EvIf.dec (fun h2 => ?_) (fun h2 => ?_))
 ·exact end_open l rfl rfl rfl (fail 1 (by rw [hX, if_pos (.inl (by omega))]) (by decide))
 ·exact end_open l rfl rfl rfl (fail 1 (by rw [hX, if_pos (.inr (by omega))]) (by decide))
 rw [if_neg (by omega)] at hX
 refine (valid_p c.path hc).cal fun q hq => ?_
 subst hq
 cases hv : validZ c.path with
 | false =>
  refine EvIf.mk (fun _ => ?_) fun hh => by cases hh
  exact end_open l rfl rfl rfl (fail 70 (by rw [hX, if_pos hv]) (by decide))
 | true =>
  rw [if_neg (by rw [hv]; simp)] at hX
  refine EvIf.mk (fun hh => by cases hh) fun _ => EvIf.beq (fun (h3 : c.kind = 1) => ?_) (fun (h3 : ¬ c.kind = 1) => ?_)
  ·rw [if_pos h3] at hX
   refine (create_o h hw hz hs c hv).cal fun q rs hq => ?_
   obtain ⟨l', ⟨q1, rfl⟩, rfl⟩ := hq
   rw [← hX] at q1
   rw [hX] at *
   exact end_open l' rfl rfl rfl ⟨l', ⟨q1, rfl⟩, rfl⟩
  rw [if_neg h3] at hX
  have rest : ¬ (c.kind = 3 ∧ c.data.size > 1024) → X = (if foundE T c ≠ 0 then failZ (foundE T c) else if c.kind = 2 then (if (kidsZ T c.path).length > 0 then failZ 84 else removeZ T zx c.path) else if c.kind = 4 then ⟨T, c.path, [], 0⟩ else ⟨putZ T (setZ T zx c), c.path, [⟨0, 3, c.path⟩], 0⟩) := fun hn => by rw [hX, if_neg hn]
  have hsz := valid_size hv
  refine EvIf.beq (fun (h4 : c.kind = 3) => EvIf.dec (fun h5 => ?_) (fun h5 => ?_)) (fun (h4 : ¬ c.kind = 3) => ?_)
  ·exact end_open l rfl rfl rfl (fail 87 (by rw [hX, if_pos ⟨h4, by omega⟩]) (by decide))
  ·have h5 : ¬ c.data.size > 1024 := by omega
   have hX := rest fun e => h5 e.2
   clear rest
   refine (found_o h c zx se).cal fun q rs hq => ?_
   obtain ⟨rfl, rfl⟩ := hq
   refine EvIf.bne (fun (h6 : foundE T c ≠ 0) => ?_) (fun (h6 : foundE T c = 0) => ?_)
   ·exact end_open l rfl rfl rfl (fail _ (by rw [hX, if_pos h6]) h6)
   rw [if_neg (fun e => e h6), if_neg (by omega), if_neg (by omega)] at hX
   obtain ⟨z, hg, -⟩ := found_ok h6
   obtain ⟨hm, hp⟩ := get_mem hg
   have hr := hw.rg z hm
   have hset : setZ T zx c = { z with data := c.data, ch := zx, ve := upZ z.ve } := by unfold setZ; rw [hg]; rfl
   rw [hset] at hX
   rw [hg]
   have hve := up_min hr.ve.2
   have k1 := hr.ve
   unfold big at k1
   have hcell : gz { z with data := c.data, ch := zx, ve := upZ z.ve } = .agg [gS z.path, gS c.data, gI z.cr, gI zx, gI z.ci, gI (min (z.ve + 1) 4611686018427387904), gI z.ki, gI z.ow, gI z.nx] := by rw [hve]; rfl
   have ht : TM (aput l c.path (.agg [gS z.path, gS c.data, gI z.cr, gI zx, gI z.ci, gI (min (z.ve + 1) 4611686018427387904), gI z.ki, gI z.ow, gI z.nx])) (putZ T { z with data := c.data, ch := zx, ve := upZ z.ve }) := by
    have := h.put hw.srt { z with data := c.data, ch := zx, ve := upZ z.ve }
    rw [hcell] at this
    rw [← hp]
    exact this
   refine EvIf.beq (fun h7 => absurd h7 (by omega)) (fun _ => EvIf.beq (fun _ => ?_) (fun h7 => absurd h4 h7))
   refine jn (T := ?T1) (fun hj => ?a1) ?b1
   case a1 =>
    repeat' refine And.intro ?_ ?_
    all_goals (conv => whnf)
    exact hj
    all_goals exact hj
   refine ⟨by show _ ≤ z.ve + 1 ∧ z.ve + 1 ≤ _; omega, ?_⟩
   exact end_open _ rfl rfl rfl ⟨_, ⟨by rw [hX]; exact ht, by rw [hX]; exact rfl⟩, rfl⟩
  ·have hX := rest fun e => h4 e.1
   clear rest
   refine (found_o h c zx se).cal fun q rs hq => ?_
   obtain ⟨rfl, rfl⟩ := hq
   refine EvIf.bne (fun (h6 : foundE T c ≠ 0) => ?_) (fun (h6 : foundE T c = 0) => ?_)
   ·exact end_open l rfl rfl rfl (fail _ (by rw [hX, if_pos h6]) h6)
   rw [if_neg (fun e => e h6)] at hX
   obtain ⟨z, hg, hroot⟩ := found_ok h6
   obtain ⟨hm, hp⟩ := get_mem hg
   refine EvIf.beq (fun (h7 : c.kind = 2) => ?_) (fun (h7 : ¬ c.kind = 2) => EvIf.beq (fun h8 => absurd h8 h4) (fun _ => ?_))
   ·rw [if_pos h7] at hX
    refine (kids_o h hw c.path).cal fun q rs hq => ?_
    obtain ⟨l', ⟨rfl, rfl⟩, rfl⟩ := hq
    refine EvIf.dec (fun h9 => ?_) (fun h9 => ?_)
    ·exact end_open l' rfl rfl rfl (fail 84 (by rw [hX, if_pos (by simpa using h9)]) (by decide))
    ·have hk : ¬ (kidsZ T c.path).length > 0 := by simpa using h9
     rw [if_neg hk] at hX
     obtain ⟨q, hq⟩ := rm_of hw hm (by rw [hp]; exact fun e => hroot ⟨h7, e⟩) (by rw [hp]; exact kids_none hg hk)
     rw [hp] at hq
     refine (remove_o h hw zx hq hc).cal fun g rs hq => ?_
     obtain ⟨l', ⟨q1, rfl⟩, rfl⟩ := hq
     refine end_open l' rfl rfl rfl ⟨l', ⟨?_, ?_⟩, rfl⟩
     ·rw [hX]; exact q1
     ·rw [hX]; exact rfl
   ·rw [if_neg h7, if_pos (by omega)] at hX
    exact end_open l rfl rfl rfl ⟨l, ⟨by rw [hX]; exact h, by rw [hX]; exact rfl⟩, rfl⟩
end Go.Proofs.YtalfffamppmooaaGreatDoor
namespace Go.Proofs.YtalfffamppmooaaGreatDoor
open Go.RowKit
set_option maxRecDepth 100000
theorem end_same {own : Os} {n : Nat} {g : G} {Q : G → List R → Prop} (m : Mp) (h0 : look 0 own = some (.blk [.mp 1] tTree)) (h1 : look 1 own = some (.mpS m)) (hk : (keyR n (.blk [.mp 1] tTree) && Nat.blt 1 n) = true) (hg : (noKeyB g && resB g) = true) (hq : Q g (cP m)) : ∃ its g', EndK [0] own n g Q its g' := by
 simp only [Bool.and_eq_true] at hk
 have h2 := Nat.le_of_ble_eq_true hk.2
 exact end_cl (oO m) [] ⟨⟨Nat.ble_eq_true_of_le (by omega), hk.1, h0⟩, ⟨hk.2, rfl, h1⟩, trivial⟩ rfl ⟨_, rfl⟩ rfl hg hq
def gDo (a : RAns) : G := .tup [.sl (a.ps.map gSt), .sl (a.ev.map enE), gI a.e]
def DoP (a : RAns) (g : G) (rs : List R) : Prop := ∃ m, TM m a.t ∧ g = gDo a ∧ rs = cP m
structure PInv (zx se : Int) (T : List RZ) (l : List RC) (x : Nat × List RZ × Mp × List ByteArray × List RE) : Prop where
 inv : DoInv zx se T l (x.1, x.2.1, x.2.2.2.1, x.2.2.2.2)
 tm : TM x.2.2.1 x.2.1
set_option maxHeartbeats 2000000 in
theorem do_o {m : Mp} {T : List RZ} (h : TM m T) (hw : Wz T) (zx se : Int) (l : List RC) (hl : l.length ≤ 2000000) (hc : ∀ c ∈ l, c.path.size ≤ maxZ) : FnO Tryz.prog 26 [.ptr 0 0, gI zx, gI se, .sl (l.map enC)] (cP m) (DoP (doZ T zx se l)) := by
 refine fnoG Tryz.func26 (by kernel_rfl) rfl (Nat.le_of_ble_eq_true (by kernel_rfl)) (by kernel_rfl) (lent_cl0 (O := oO m) (n0 := 2) rfl) ?_
 obtain ⟨X, hX⟩ : ∃ X, X = doZ T zx se l := ⟨_, rfl⟩
 rw [← hX]
 unfold doZ at hX
 have fail : ∀ e, X = ⟨T, [], [], e⟩ → DoP X (.tup [.sl [], .sl [], gI e]) (cP m) := fun e he => by rw [he]; exact ⟨m, h, rfl, rfl⟩
 refine (in_p zx).cal fun q hq => ?_
 subst hq
 cases hz : inZ zx with
 | false =>
  refine EvIf.mk (fun _ => ?_) fun hh => by cases hh
  exact end_same m rfl rfl rfl rfl (fail 1 (by rw [hX, if_neg (by rw [hz]; simp)]))
 | true =>
  refine EvIf.mk (fun hh => by cases hh) fun _ => (in_p se).cal fun q hq => ?_
  subst hq
  cases hs : inZ se with
  | false =>
   refine EvIf.mk (fun _ => ?_) fun hh => by cases hh
   exact end_same m rfl rfl rfl rfl (fail 1 (by rw [hX, if_neg (by rw [hs]; simp)]))
  | true =>
   refine EvIf.mk (fun hh => by cases hh) fun _ => ?_
   rw [if_pos ⟨hz, hs⟩] at hX
   refine (clone_o m).cal fun q rs hq => ?_
   obtain ⟨rfl, rfl⟩ := hq
   refine sx_loop [0, 1, 2, 11, 29, 30] [0, 1, 4] (fun x : Nat × List RZ × Mp × List ByteArray × List RE => [(31, gI x.1), (12, .osl 6), (13, .osl 7)]) (fun x => [(5, .mpS x.2.2.1), (6, .slc (x.2.2.2.1.map gSt) 9 1), (7, .slc (x.2.2.2.2.map enE) 169 3)]) (PInv zx se T l) (fun x => l.length - x.1) (0, T, m, [], []) ⟨⟨by simp, hw, rfl, by simp, rfl⟩, h⟩ ⟨⟨rfl, rfl⟩, ⟨rfl, rfl⟩, ⟨rfl, rfl⟩, trivial⟩ ⟨⟨rfl, rfl, rfl⟩, ⟨rfl, rfl, rfl⟩, ⟨rfl, rfl, rfl⟩, trivial⟩ rfl fun ⟨i, t, m', ps, ev⟩ ⟨hI, hM⟩ => ?_
   have hw' := hI.wz
   have hps := hI.ps
   have hev := hI.ev
   have hrun := hI.run
   have hle := hI.le
   dsimp only at hw' hps hev hrun hle hM
   refine EvIf.dec (fun h1 => ?_) (fun h1 => ?_)
   ·refine EvIdx.of (by simpa using h1) fun c hx => ?_
    have hlt := lt_of_at hx
    rw [runZ_step hx] at hrun
    have hev2 := one_ev t zx se c
    refine (one_o hM hw' hz hs c (hc c (List.mem_of_getElem? hx))).cal fun q rs hq => ?_
    obtain ⟨m2, ⟨q1, rfl⟩, rfl⟩ := hq
    refine EvIf.bne (fun (h2 : (oneZ t zx se c).e ≠ 0) => ?_) (fun (h2 : (oneZ t zx se c).e = 0) => ?_)
    ·rw [if_neg h2] at hrun
     exact end_same m rfl rfl rfl rfl (fail _ (by rw [hX, hrun, if_neg h2]))
    ·rw [if_pos h2] at hrun
     unfold afterZ at q1
     rw [if_pos h2] at q1
     refine ⟨by simp; omega, ⟨ev_rows _, ⟨by simp; omega, ⟨by dsimp only; omega, (i + 1, (oneZ t zx se c).t, m2, ps ++ [(oneZ t zx se c).path], ev ++ (oneZ t zx se c).ev), ⟨⟨by dsimp only; omega, wz_one hw' hz hs h2, by simp [hps], by simp; omega, hrun⟩, q1⟩, (by dsimp only; omega), ?_⟩⟩⟩⟩
     refine ⟨?_, ?_, rfl⟩ <;> repeat' (first | exact True.intro | with_reducible rfl | exact rfl | refine And.intro ?_ ?_)
     ·exact eqR (by rw [List.map_append]; rfl)
     ·exact eqR (by rw [List.map_append])
   ·have hk : i = l.length := by simp at h1; omega
    subst hk
    rw [List.drop_length, runZ] at hrun
    rw [hrun, if_pos rfl] at hX
    exact end_cl (oO m') [(1, 5)] ⟨⟨rfl, rfl, rfl⟩, ⟨rfl, rfl, rfl⟩, trivial⟩ rfl ⟨_, rfl⟩ rfl rfl (by rw [hX]; exact ⟨m', hM, rfl, rfl⟩)
structure EInv (zx : Int) (T : List RZ) (L : List ByteArray) (x : Nat × List RZ × Mp × List RE) : Prop where
 inv : EndInv zx T L (x.1, x.2.1, x.2.2.2)
 tm : TM x.2.2.1 x.2.1
def EndP (a : List RZ × List RE) (g : G) (rs : List R) : Prop := ∃ m, TM m a.1 ∧ g = .sl (a.2.map enE) ∧ rs = cP m
theorem end_o {m : Mp} {T : List RZ} (h : TM m T) (hw : Wz T) (zx se : Int) : FnO Tryz.prog 88 [.ptr 0 0, gI zx, gI se] (cP m) (EndP (endZ T zx se)) := by
 refine fnoG Tryz.func88 (by kernel_rfl) rfl (Nat.le_of_ble_eq_true (by kernel_rfl)) (by kernel_rfl) (lent_cl0 (O := oO m) (n0 := 2) rfl) ?_
 obtain ⟨X, hX⟩ : ∃ X, X = endZ T zx se := ⟨_, rfl⟩
 rw [← hX]
 unfold endZ at hX
 have fail : X = (T, []) → EndP X (.sl []) (cP m) := fun he => by rw [he]; exact ⟨m, h, rfl, rfl⟩
 refine (in_p zx).cal fun q hq => ?_
 subst hq
 cases hz : inZ zx with
 | false =>
  refine EvIf.mk (fun _ => ?_) fun hh => by cases hh
  exact end_same m rfl rfl rfl rfl (fail (by rw [hX, if_neg (by rw [hz]; simp)]))
 | true =>
  refine EvIf.mk (fun hh => by cases hh) fun _ => (in_p se).cal fun q hq => ?_
  subst hq
  cases hs : inZ se with
  | false =>
   refine EvIf.mk (fun _ => ?_) fun hh => by cases hh
   exact end_same m rfl rfl rfl rfl (fail (by rw [hX, if_neg (by rw [hs]; simp)]))
  | true =>
   refine EvIf.mk (fun hh => by cases hh) fun _ => (owned_o h hw se).cal fun q rs hq => ?_
   obtain ⟨_, ⟨rfl, rfl⟩, rfl⟩ := hq
   rw [if_pos ⟨hz, hs⟩] at hX
   have hL := owned_len hw se
   have hnd := (owned_ok hw se).1
   have hinit := end_init (zx := zx) hw se
   generalize ownedZ T se = L at *
   refine sx_loop [0, 1, 20, 21] [0] (fun x : Nat × List RZ × Mp × List RE => [(22, gI x.1), (7, .osl 3)]) (fun x => [(1, .mpS x.2.2.1), (3, .slc (x.2.2.2.map enE) 169 3)]) (EInv zx T L) (fun x => L.length - x.1) (0, T, _, []) ⟨hinit, h⟩ ⟨⟨rfl, rfl⟩, ⟨rfl, rfl⟩, trivial⟩ ⟨⟨rfl, rfl, rfl⟩, ⟨rfl, rfl, rfl⟩, trivial⟩ rfl fun ⟨i, t, m', ev⟩ ⟨hI, hM⟩ => ?_
   have hle : i ≤ L.length := hI.le
   have hev : ev.length = 2 * i := hI.ev
   dsimp only at hM
   refine EvIf.dec (fun h1 => ?_) (fun h1 => ?_)
   ·refine EvIdx.of (by simpa using h1) fun p hp => ?_
    obtain ⟨q, hq, hsz, hn⟩ := end_step hz hnd hI hp
    have hlt := lt_of_at hp
    refine (remove_o hM hI.wz zx hq (by unfold maxZ; omega)).cal fun g rs hq => ?_
    obtain ⟨m2, ⟨q1, rfl⟩, rfl⟩ := hq
    have e2 : (removeZ t zx p).ev.length = 2 := rfl
    refine ⟨ev_rows _, ⟨by dsimp only; rw [List.length_map, List.length_map]; omega, ⟨by dsimp only; omega, (i + 1, (removeZ t zx p).t, m2, ev ++ (removeZ t zx p).ev), ⟨hn, q1⟩, (by dsimp only; omega), ?_⟩⟩⟩
    refine ⟨?_, ?_, rfl⟩ <;> repeat' (first | exact True.intro | with_reducible rfl | exact rfl | refine And.intro ?_ ?_)
    exact eqR (by rw [List.map_append])
   ·have hk : i = L.length := by simp at h1; omega
    subst hk
    have hrun := hI.run
    have hrun : endL zx L (T, []) = endL zx (L.drop L.length) (t, ev) := hrun
    rw [List.drop_length, endL] at hrun
    rw [hrun] at hX
    exact end_same m' rfl rfl rfl rfl (by rw [hX]; exact ⟨m', hM, rfl, rfl⟩)
end Go.Proofs.YtalfffamppmooaaGreatDoor
namespace Go.Proofs.YtalfffamppmooaaGreatDoor
open Go.RowKit
set_option maxRecDepth 100000
theorem rightf_v (n : Int) : FnV Tryz.prog 139 [gI n] fun g => g = .v (.bool (!inZ n)) := by
 refine fnG Tryz.func139 (by kernel_rfl) rfl (Nat.le_of_ble_eq_true (by kernel_rfl)) (by kernel_rfl) ?_
 refine (in_p n).cal fun q hq => ?_
 subst hq
 exact rfl
abbrev fR : G := .v (.func (.func 139) #[] #[])
theorem index_v (l : List Int) (hl : l.length ≤ 100) : FnV Tryz.prog 154 [.sl (l.map fun n => [gI n]), fR] fun g => ∃ k : Int, g = gI k ∧ (0 ≤ k ↔ (l.any fun n => !inZ n) = true) := by
 refine fnG Tryz.func154 (by kernel_rfl) rfl (Nat.le_of_ble_eq_true (by kernel_rfl)) (by kernel_rfl) ?_
 refine sx_loop [0, 1, 7] [] (fun i : Nat => [(8, gI i)]) (fun _ => []) (fun i => i ≤ l.length ∧ ∀ x ∈ l.take i, ¬ (!inZ x) = true) (fun i => l.length - i) 0 ⟨by omega, by simp⟩ ⟨⟨rfl, rfl⟩, trivial⟩ trivial rfl fun i ⟨hi, hno⟩ => ?_
 refine EvIf.dec (fun h => ?_) (fun h => ?_)
 ·refine EvIdx.of (by simpa using h) fun x hx => ?_
  have hlt := lt_of_at hx
  refine (rightf_v x).cal fun q hq => ?_
  subst hq
  refine EvIf.mk (fun h2 => ?_) (fun h2 => ?_)
  ·exact ⟨_, rfl, ⟨fun _ => List.any_eq_true.2 ⟨x, List.mem_of_getElem? hx, h2⟩, fun _ => by omega⟩⟩
  ·refine ⟨by omega, i + 1, ⟨by omega, take_no hx hno (by rw [h2]; simp)⟩, (by dsimp only; omega), ?_⟩
   refine ⟨?_, ?_, rfl⟩ <;> repeat' (first | exact True.intro | with_reducible rfl | exact rfl | refine And.intro ?_ ?_)
 ·have hall := take_all (by simpa using h) hno
  exact ⟨_, rfl, ⟨fun h2 => absurd h2 (by decide), fun h2 => by
   obtain ⟨x, hx, h3⟩ := List.any_eq_true.1 h2
   exact absurd h3 (hall x hx)⟩⟩
theorem contains_v (l : List Int) (hl : l.length ≤ 100) : FnV Tryz.prog 138 [.sl (l.map fun n => [gI n]), fR] fun g => g = .v (.bool (l.any fun n => !inZ n)) := by
 refine fnG Tryz.func138 (by kernel_rfl) rfl (Nat.le_of_ble_eq_true (by kernel_rfl)) (by kernel_rfl) ?_
 refine (index_v l hl).cal fun q hq => ?_
 obtain ⟨k, rfl, hk⟩ := hq
 exact bool_eq (b := l.any fun n => !inZ n) (by simpa using hk)
theorem any_in (z : RZ) : ([z.cr, z.ch, z.ci, z.ve, z.ki, z.ow, z.nx].any fun n => !inZ n) = !(inZ z.cr && inZ z.ch && inZ z.ci && inZ z.ve && inZ z.ki && inZ z.ow && inZ z.nx) := by
 simp only [List.any_cons, List.any_nil, Bool.or_false, Bool.not_and]
 simp only [Bool.or_assoc]
set_option maxHeartbeats 1000000 in
theorem right_o {m : Mp} {pre : List RZ} (h : TM m pre) {z : RZ} {last : ByteArray} (hp : z.path.size ≤ maxZ) (h0 : pre = [] → ltS last z.path = true) : FnO Tryz.prog 114 [.ptr 0 0, gz z, gS last] (oP m) fun g rs => g = gI (rightE pre last z) ∧ rs = oP m := by
 refine fnoG Tryz.func114 (by kernel_rfl) rfl (Nat.le_of_ble_eq_true (by kernel_rfl)) (by kernel_rfl) (lent_id _ _) ?_
 obtain ⟨E, hE⟩ : ∃ E, E = rightE pre last z := ⟨_, rfl⟩
 rw [← hE]
 unfold rightE at hE
 have fin : ∀ e, E = e → (fun (g : G) (rs : List R) => g = gI E ∧ rs = oP m) (gI e) (oP m) := fun e h => ⟨by rw [h], rfl⟩
 have hg := h.get (parentZ z.path).1
 refine (parent_p z.path hp).cal fun q hq => ?_
 subst hq
 have key : (pre ≠ [] ∧ ltS last z.path = false) ↔ ltS last z.path = false := ⟨fun h => h.2, fun h => ⟨fun e => (by rw [h0 e] at h; cases h), h⟩⟩
 rw [show (if pre ≠ [] ∧ ltS last z.path = false then (81 : Int) else if (parentZ z.path).2 = true ∧ (getZ pre (parentZ z.path).1).isSome = false then 83 else if ((parentZ z.path).2 = true ∧ ((getZ pre (parentZ z.path).1).getD rz0).ow ≠ 0) ∨ ((parentZ z.path).2 = false ∧ z.ow ≠ 0) then 85 else if z.data.size > 1024 then 87 else if inZ z.cr && inZ z.ch && inZ z.ci && inZ z.ve && inZ z.ki && inZ z.ow && inZ z.nx then 0 else 1) = (if ltS last z.path = false then (81 : Int) else if (parentZ z.path).2 = true ∧ (getZ pre (parentZ z.path).1).isSome = false then 83 else if ((parentZ z.path).2 = true ∧ ((getZ pre (parentZ z.path).1).getD rz0).ow ≠ 0) ∨ ((parentZ z.path).2 = false ∧ z.ow ≠ 0) then 85 else if z.data.size > 1024 then 87 else if inZ z.cr && inZ z.ch && inZ z.ci && inZ z.ve && inZ z.ki && inZ z.ow && inZ z.nx then 0 else 1) by
  by_cases hc : ltS last z.path = false
  ·rw [if_pos hc, if_pos (key.2 hc)]
  ·rw [if_neg hc, if_neg (fun e => hc (key.1 e))]] at hE
 clear key
 cases hz : getZ pre (parentZ z.path).1 with
 | none =>
  rw [hz] at hg
  refine ⟨fun g e => (by rw [hg] at e; cases e), fun _ => ?_⟩
  refine (valid_p z.path hp).cal fun q hq => ?_
  subst hq
  cases hv : validZ z.path with
  | false =>
   exact EvIf.mk (fun _ => end_open m rfl rfl rfl (fin _ (by rw [hE, if_pos hv]))) fun hh => by cases hh
  | true =>
   rw [if_neg (by rw [hv]; simp)] at hE
   refine EvIf.mk (fun hh => by cases hh) fun _ => ?_
   have el : (Op.bytesLess z.path.toList last.toList || z.path.toList == last.toList) = !ltS last z.path := leq_not z.path last
   refine EvIf.mk (fun (h5 : (Op.bytesLess z.path.toList last.toList || z.path.toList == last.toList) = true) => end_open m rfl rfl rfl (fin _ (by rw [hE, if_pos (by rw [el] at h5; simpa using h5)]))) (fun (h5 : (Op.bytesLess z.path.toList last.toList || z.path.toList == last.toList) = false) => ?_)
   rw [if_neg (fun e => by rw [el, e] at h5; cases h5)] at hE
   cases hu : (parentZ z.path).2 with
   | false =>
    rw [hu, if_neg (by simp)] at hE
    refine EvIf.mk (fun hh => by cases hh) fun _ => EvIf.mk (fun hh => by cases hh) fun _ => EvIf.mk (fun _ => EvIf.bne (fun h7 => end_open m rfl rfl rfl (fin _ (by rw [hE, if_pos (.inr ⟨rfl, h7⟩)]))) (fun h7 => ?_)) fun hh => by cases hh
    rw [if_neg (by rintro (⟨h, -⟩ | ⟨-, h⟩); cases h; exact h h7)] at hE
    refine EvIf.dec (fun h8 => end_open m rfl rfl rfl (fin _ (by rw [hE, if_pos (by omega)]))) (fun h8 => ?_)
    rw [if_neg (by omega)] at hE
    refine (contains_v [z.cr, z.ch, z.ci, z.ve, z.ki, z.ow, z.nx] (by simp)).cal fun q hq => ?_
    subst hq
    rw [any_in]
    cases hb : (inZ z.cr && inZ z.ch && inZ z.ci && inZ z.ve && inZ z.ki && inZ z.ow && inZ z.nx) with
    | true =>
     rw [hb, if_pos rfl] at hE
     exact EvIf.mk (fun hh => by cases hh) fun _ => end_open m rfl rfl rfl (fin _ hE)
    | false =>
     rw [hb, if_neg (by simp)] at hE
     exact EvIf.mk (fun _ => end_open m rfl rfl rfl (fin _ hE)) fun hh => by cases hh
   | true =>
    rw [hu] at hE
    refine EvIf.mk (fun _ => ?_) fun hh => by cases hh
    exact end_open m rfl rfl rfl (fin _ (by rw [hE, if_pos ⟨rfl, by rw [hz]; rfl⟩]))
 | some y =>
  rw [hz] at hg
  refine ⟨fun g e => ?_, fun e => (by rw [hg] at e; cases e)⟩
  rw [hg] at e
  cases e
  refine (valid_p z.path hp).cal fun q hq => ?_
  subst hq
  cases hv : validZ z.path with
  | false =>
   exact EvIf.mk (fun _ => end_open m rfl rfl rfl (fin _ (by rw [hE, if_pos hv]))) fun hh => by cases hh
  | true =>
   rw [if_neg (by rw [hv]; simp)] at hE
   refine EvIf.mk (fun hh => by cases hh) fun _ => ?_
   have el : (Op.bytesLess z.path.toList last.toList || z.path.toList == last.toList) = !ltS last z.path := leq_not z.path last
   refine EvIf.mk (fun (h5 : (Op.bytesLess z.path.toList last.toList || z.path.toList == last.toList) = true) => end_open m rfl rfl rfl (fin _ (by rw [hE, if_pos (by rw [el] at h5; simpa using h5)]))) (fun (h5 : (Op.bytesLess z.path.toList last.toList || z.path.toList == last.toList) = false) => ?_)
   rw [if_neg (fun e => by rw [el, e] at h5; cases h5)] at hE
   cases hu : (parentZ z.path).2 with
   | false =>
    rw [hu, if_neg (by simp)] at hE
    refine EvIf.mk (fun hh => by cases hh) fun _ => EvIf.mk (fun hh => by cases hh) fun _ => EvIf.mk (fun _ => EvIf.bne (fun h7 => end_open m rfl rfl rfl (fin _ (by rw [hE, if_pos (.inr ⟨rfl, h7⟩)]))) (fun h7 => ?_)) fun hh => by cases hh
    rw [if_neg (by rintro (⟨h, -⟩ | ⟨-, h⟩); cases h; exact h h7)] at hE
    refine EvIf.dec (fun h8 => end_open m rfl rfl rfl (fin _ (by rw [hE, if_pos (by omega)]))) (fun h8 => ?_)
    rw [if_neg (by omega)] at hE
    refine (contains_v [z.cr, z.ch, z.ci, z.ve, z.ki, z.ow, z.nx] (by simp)).cal fun q hq => ?_
    subst hq
    rw [any_in]
    cases hb : (inZ z.cr && inZ z.ch && inZ z.ci && inZ z.ve && inZ z.ki && inZ z.ow && inZ z.nx) with
    | true =>
     rw [hb, if_pos rfl] at hE
     exact EvIf.mk (fun hh => by cases hh) fun _ => end_open m rfl rfl rfl (fin _ hE)
    | false =>
     rw [hb, if_neg (by simp)] at hE
     exact EvIf.mk (fun _ => end_open m rfl rfl rfl (fin _ hE)) fun hh => by cases hh
   | true =>
    rw [hu] at hE
    refine EvIf.mk (fun _ => ?_) fun hh => by cases hh
    rw [hz, if_neg (by simp)] at hE
    refine EvIf.mk (fun _ => EvIf.bne (fun h7 => EvIf.bne (fun _ => end_open m rfl rfl rfl (fin _ (by rw [hE, if_pos (.inl ⟨rfl, h7⟩)]))) (fun h => absurd h h7)) (fun h7 => EvIf.mk (fun hh => by cases hh) fun _ => ?_)) fun hh => by cases hh
    rw [if_neg (by rintro (⟨-, h⟩ | ⟨h, -⟩); exact h h7; cases h)] at hE
    refine EvIf.dec (fun h8 => end_open m rfl rfl rfl (fin _ (by rw [hE, if_pos (by omega)]))) (fun h8 => ?_)
    rw [if_neg (by omega)] at hE
    refine (contains_v [z.cr, z.ch, z.ci, z.ve, z.ki, z.ow, z.nx] (by simp)).cal fun q hq => ?_
    subst hq
    rw [any_in]
    cases hb : (inZ z.cr && inZ z.ch && inZ z.ci && inZ z.ve && inZ z.ki && inZ z.ow && inZ z.nx) with
    | true =>
     rw [hb, if_pos rfl] at hE
     exact EvIf.mk (fun hh => by cases hh) fun _ => end_open m rfl rfl rfl (fin _ hE)
    | false =>
     rw [hb, if_neg (by simp)] at hE
     exact EvIf.mk (fun _ => end_open m rfl rfl rfl (fin _ hE)) fun hh => by cases hh
theorem put_snoc {z : RZ} : ∀ {T : List RZ}, (∀ x ∈ T, ltS x.path z.path = true) → putZ T z = T ++ [z]
 | [], _ => rfl
 | x :: l, h => by rw [putZ, if_pos (h x (by simp)), put_snoc fun y hy => h y (by simp [hy])]; rfl
structure LInv (l : List RZ) (x : Nat × Mp) : Prop where
 le : x.1 ≤ l.length
 tm : TM x.2 (l.take x.1)
 srt : Srt (l.take x.1)
 run : checkZ l = chkL (l.take x.1) (lastP l x.1) (l.drop x.1)
def LoadP (l : List RZ) (g : G) (rs : List R) : Prop := if checkZ l = 0 then ∃ m, TM m l ∧ g = .tup [.ptr 0 0, gI 0] ∧ rs = cP m else g = .tup [.v (.pointer none), gI (checkZ l)] ∧ rs = []
theorem srt_more {l : List RZ} {i : Nat} {z : RZ} (hs : Srt (l.take i)) (hz : l[i]? = some z) (hl : l.take i ≠ [] → ltS (lastP l i) z.path = true) : ∀ x ∈ l.take i, ltS x.path z.path = true := fun x hx => by
 have hi := lt_of_at hz
 have hne : l.take i ≠ [] := fun e => by rw [e] at hx; cases hx
 have h1 := hl hne
 have i0 : i ≠ 0 := fun e => hne (by rw [e]; rfl)
 obtain ⟨y, hy⟩ : ∃ y, l[i - 1]? = some y := ⟨_, List.getElem?_eq_getElem (by omega)⟩
 have ely : lastP l i = y.path := by unfold lastP; rw [if_neg i0, hy]; rfl
 rw [ely] at h1
 have e : l.take i = l.take (i - 1) ++ [y] := by have := take_more hy; rwa [show i - 1 + 1 = i by omega] at this
 rw [e] at hx hs
 rcases List.mem_append.1 hx with hx | hx
 ·exact ltS_trans ((List.pairwise_append.1 hs).2.2 x hx y (by simp)) h1
 ·rw [List.mem_singleton.1 hx]; exact h1
theorem load_o (l : List RZ) (hl : l.length ≤ 100000) (hp : ∀ z ∈ l, z.path.size ≤ maxZ) : FnO Tryz.prog 75 [gT l] [] (LoadP l) := by
 refine fnoG Tryz.func75 (by kernel_rfl) rfl (Nat.le_of_ble_eq_true (by kernel_rfl)) (by kernel_rfl) (lent0 _) ?_
 have bad : ∀ e, checkZ l = e → e ≠ 0 → LoadP l (.tup [.v (.pointer none), gI e]) [] := fun e h1 h2 => by unfold LoadP; rw [if_neg (by rw [h1]; exact h2), h1]; exact ⟨rfl, rfl⟩
 refine EvIf.beq (fun h0 => ?_) (fun h0 => ?_)
 ·have : l = [] := List.eq_nil_of_length_eq_zero (by simpa using h0)
  exact end_none rfl (bad 80 (by rw [this]; rfl) (by decide))
 obtain ⟨z0, l0, hz0⟩ : ∃ z l', l = z :: l' := by
  cases l with
  | nil => exact absurd rfl h0
  | cons z l' => exact ⟨z, l', rfl⟩
 have hX : checkZ l = if z0.path ≠ rootS then 80 else if l.length > 200 then 86 else chkL [] noS l := by rw [hz0]; rfl
 refine EvIdx.atI (x := z0) (by decide) (by rw [hz0]; rfl) (EvIf.bneS (fun (h1 : z0.path ≠ rootS) => end_none rfl (bad _ (by rw [hX, if_pos h1]) (by decide))) (fun (h1 : z0.path = rootS) => EvIf.dec (fun h2 => end_none rfl (bad _ ?_ (by decide))) (fun h2 => ?_)))
 ·rw [hX, if_neg (fun h => h h1), if_pos (by simp at h2; omega)]
 rw [if_neg (fun h => h h1), if_neg (by simp at h2; omega)] at hX
 refine sx_loop [4, 27, 28] [1] (fun x : Nat × Mp => [(29, gI x.1), (5, gS (lastP l x.1))]) (fun x => [(0, .mpS x.2)]) (LInv l) (fun x => l.length - x.1) (0, []) ⟨by simp, tm_nil, .nil, hX⟩ ⟨⟨rfl, rfl⟩, ⟨rfl, rfl⟩, trivial⟩ ⟨⟨rfl, rfl, rfl⟩, trivial⟩ rfl fun ⟨i, m⟩ hI => ?_
 have hle : i ≤ l.length := hI.le
 have htm : TM m (l.take i) := hI.tm
 have hs : Srt (l.take i) := hI.srt
 have hrun : checkZ l = chkL (l.take i) (lastP l i) (l.drop i) := hI.run
 refine EvIf.dec (fun h3 => ?_) (fun h3 => ?_)
 ·refine EvIdx.of (by simpa using h3) fun z hz => ?_
  have hlt := lt_of_at hz
  rw [chkL_step hz] at hrun
  have hpz := hp z (List.mem_of_getElem? hz)
  refine (right_o htm hpz (last := lastP l i) fun e => ?_).cal fun q rs hq => ?_
  ·have i0 : i = 0 := by
    have := congrArg List.length e
    rw [List.length_take, List.length_nil] at this
    omega
   subst i0
   rw [hz0] at hz
   cases hz
   rw [h1, ltS_iff]; show ([] : List UInt8) < [47]; simp
  obtain ⟨rfl, rfl⟩ := hq
  refine EvIf.bne (fun (h4 : rightE (l.take i) (lastP l i) z ≠ 0) => ?_) (fun (h4 : rightE (l.take i) (lastP l i) z = 0) => ?_)
  ·rw [if_neg h4] at hrun
   exact end_none rfl (bad _ hrun h4)
  ·rw [if_pos h4] at hrun
   have hr := right_iff.1 h4
   have hmore := srt_more hs hz hr.lt
   have ht := htm.put hs z
   rw [put_snoc hmore, ← take_more hz] at ht
   have hs2 : Srt (l.take (i + 1)) := by
    rw [take_more hz]
    exact List.pairwise_append.2 ⟨hs, List.pairwise_singleton _ _, fun x hx y hy => by rw [List.mem_singleton.1 hy]; exact hmore x hx⟩
   refine ⟨by dsimp only; omega, (i + 1, aput m z.path (gz z)), ⟨by dsimp only; omega, ht, hs2, hrun⟩, (by dsimp only; omega), ?_⟩
   refine ⟨?_, ?_, rfl⟩ <;> repeat' (first | exact True.intro | with_reducible rfl | exact rfl | refine And.intro ?_ ?_)
   exact congrArg (fun b => some (gS b)) (by unfold lastP; rw [if_neg (by omega), show i + 1 - 1 = i by omega, hz]; rfl)
 ·have hk : i = l.length := by simp at h3; omega
  subst hk
  rw [List.drop_length, chkL] at hrun
  rw [List.take_length] at htm
  exact ⟨[⟨oO m, [(0, 1), (1, 0)], true⟩], .tup [.ptr 0 0, gI 0], ⟨⟨⟨⟨⟨rfl, rfl, rfl⟩, ⟨rfl, rfl, rfl⟩, trivial⟩, _, rfl⟩, trivial⟩, rfl, ⟨_, rfl⟩, rfl, rfl, by unfold LoadP; rw [if_pos hrun]; exact ⟨m, htm, rfl, rfl⟩⟩⟩
end Go.Proofs.YtalfffamppmooaaGreatDoor

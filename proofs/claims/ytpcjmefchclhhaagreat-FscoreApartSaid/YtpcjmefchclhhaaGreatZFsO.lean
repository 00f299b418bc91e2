/- A part of the proof. -/
import Derived.Test.YtpcjmefchclhhaaGreatZFsN
import Derived.Test.YtpcjmefchclhhaaGreatZFsK
import Derived.Test.YtpcjmefchclhhaaGreatZRange
import Derived.Deep.LoopGhost
import Derived.Deep.RegionHeld3
import Derived.IntWalk
namespace Go.Proofs.YtpcjmefchclhhaaGreat
open Go.RowKit Go.MapKept
def usedN (r : RFs) : Nat := (r.ins.map fun x => x.On.length).sum
def roomP (r : RFs) : Int := r.room - usedN r
def onLen (r : RFs) (k : Int) : Nat := (byIdP r.ins k).On.length
theorem used_all {r : RFs} {K : Nat} (hW : Wf r K) {D : List Int} (hD : D.Nodup) (hm : ∀ k, k ∈ D ↔ ∃ x ∈ r.ins, x.id = k) : (D.map (onLen r)).sum = usedN r := by
 have hp : D.Perm (r.ins.map (·.id)) := (List.perm_ext_iff_of_nodup hD hW.ids).2 fun k => by
  rw [hm]
  constructor
  ·rintro ⟨x, hx, rfl⟩; exact List.mem_map.2 ⟨x, hx, rfl⟩
  ·intro h; obtain ⟨x, hx, e⟩ := List.mem_map.1 h; exact ⟨x, hx, e⟩
 rw [(hp.map (onLen r)).sum_nat, List.map_map]
 unfold usedN
 congr 1
 apply List.map_congr_left
 intro x hx
 show (byIdP r.ins x.id).On.length = _
 rw [hW.byId hx]
theorem NodeR.on {w : World} {r : RFs} {x : RIn} {n : Nd} (h : NodeR w r x n) (hk : x.kind = 1) : x.On.length ≤ 65536 := by
 obtain ⟨sz, bl, g1, g2⟩ := h.file hk
 rw [same_blocks g2]
 have := nodup_lt 65536 (bl.map (·.1)) g1.map.nodup (fun k hk => by
  obtain ⟨p, hp, rfl⟩ := List.mem_map.1 hk
  exact g1.keys p hp)
 simpa using this
set_option maxRecDepth 100000 in
set_option maxHeartbeats 4000000 in
theorem used_any {w : World} {f mi mg K : Nat} {r : RFs} {N : List Nd} (h : FsN w f mi mg r N) (hW : Wf r K) :
  Calls Tryz.prog 73 #[.pointer (some ⟨f, 0, none⟩)] w fun e w' => e = .returned (.int .i64 (usedN r : Int)) ∧ Below w.heap.size w w' := by
 obtain ⟨-, c1, -⟩ := h.cells
 have HH := Lib.hid h
 have HW := Lib.hid hW
 have hlen := h.len hW
 have hi := h.imap
 obtain ⟨L, hL⟩ : ∃ L, (N.map fun n => (n.id, n.blk)) = L := ⟨_, rfl⟩
 rw [hL] at hi
 have hLl : L.length = N.length := by rw [← hL]; simp
 have HI := Lib.hid hi
 have HL := Lib.hid hL
 have HLl := Lib.hid hLl
 clear hi hL hLl
 have hcnt := hW.cnt
 have HSum : Hid (∀ D : List Int, D.length ≤ 200 → (D.map (onLen r)).sum ≤ D.length * 65536) := Lib.hid (by
  intro D _
  induction D with
  | nil => simp
  | cons k D ih =>
   have hk : onLen r k ≤ 65536 := by
    unfold onLen
    by_cases e : (byIdP r.ins k).id = 0
    ·rw [byIdP_none]
     ·simp [rin0]
     ·intro x hx e2
      rw [← e2, hW.byId hx] at e
      exact hW.ne0 hx e
    ·obtain ⟨m1, _⟩ := byIdP_mem e
     obtain ⟨n, hn, hr⟩ := h.at_ hW m1
     by_cases e2 : (byIdP r.ins k).kind = 1
     ·exact hr.on e2
     ·rw [(hW.file _ m1 e2).2]; simp
   rw [List.map_cons, List.sum_cons, List.length_cons]
   have := ih (by rename_i hh; simp at hh; omega)
   omega)
 clear h hW
 go_enter Tryz.func73, Tryz.ntmps73
 go_wp2_with (at_range; refine wpList_range_B rfl (.tmp 11) 63 rfl Tryz.underlying63 rfl HI.out ?_; intro w2 hr2 hb2 hs2)
 go_frame
 have HR2 := Lib.hid hr2
 have HB2 := Lib.hid hb2
 clear hr2 hb2
 obtain ⟨rr, hrr⟩ : ∃ rr, w.heap.size = rr := ⟨_, rfl⟩
 rw [hrr] at HR2 ⊢
 have hrr' : w.heap.size ≤ rr := by omega
 clear hrr
 go_loopg [3] N.length (fun gg v wr => ∃ D : List Int, D.length + gg = N.length ∧ RanB wr rr mi intK ptrV L D ∧ v = .int .i64 (((D.map (onLen r)).sum : Nat) : Int) ∧ Below w.heap.size w wr)
 case atStart => exact ⟨[], by simp, HR2.out, rfl, HB2.out⟩
 case round =>
  obtain ⟨D, hD, hR, rfl, hbr⟩ := hrel
  have HR := Lib.hid hR
  have HBr := Lib.hid hbr
  have hDs := HSum.out D (by omega)
  clear hR hbr
  go_wp2_with (at_next; refine wpList_next_B rfl (.tmp 12) rfl rfl HR.out ?_ ?_)
  ·intro hall
   have HAll := Lib.hid hall
   clear hall
   go_wp2
   go_ret
   refine ⟨ret_int ?_, HBr.out⟩
   rw [used_all HW.out HR.out.nodup]
   intro k
   constructor
   ·intro hk
    obtain ⟨v, hv⟩ := HR.out.sub k hk
    rw [← HL.out] at hv
    obtain ⟨n, hn, e⟩ := List.mem_map.1 hv
    obtain ⟨x, hx, hr⟩ := HH.out.node n hn
    exact ⟨x, hx, by rw [← hr.id]; exact (Prod.mk.inj e).1⟩
   ·rintro ⟨x, hx, rfl⟩
    obtain ⟨n, hn, e⟩ := HH.out.all x hx
    have := HAll.out n.id n.blk (by rw [← HL.out]; exact List.mem_map.2 ⟨n, hn, rfl⟩)
    rw [e] at this
    exact this
  ·intro k v w3 hkv hkD hR3 hg3 hs3 hen
   have hlt := HR.out.len_lt hkv hkD
   rw [HLl.out] at hlt
   rw [← HL.out] at hkv
   obtain ⟨n, hn, e⟩ := List.mem_map.1 hkv
   obtain ⟨rfl, rfl⟩ := Prod.mk.inj e
   obtain ⟨g, rfl⟩ : ∃ g, gk = g + 1 := ⟨gk - 1, by omega⟩
   have hb3 := Below.grownBy HBr.out hg3 HBr.out.size (fun k hk => by injection hk with hk; omega)
   have h3 := HH.out.below HW.out hb3
   obtain ⟨x, hx, hr⟩ := h3.node n hn
   obtain ⟨-, -, -, -, -, c5⟩ := hr.cells
   have hta := fun w => ta_sht w x n
   have hon : onLen r n.id = x.On.length := by unfold onLen; rw [hr.id, HW.out.byId hx]
   have hsum : ((D ++ [n.id]).map (onLen r)).sum = (D.map (onLen r)).sum + x.On.length := by rw [List.map_append, List.sum_append, List.map_cons, List.map_nil, List.sum_cons, List.sum_nil, hon]; omega
   have HR3 := Lib.hid hR3
   have HB3 := Lib.hid hb3
   have HSm := Lib.hid hsum
   unfold intK ptrV at hen
   by_cases hk : x.kind = 1
   ·simp only [hk, if_true, ptrV] at hta
    have hox := hr.on hk
    obtain ⟨sz, bl, g1, g2⟩ := hr.file hk
    have HBl := Lib.hid (blocks_any g1)
    rw [← same_blocks g2] at HBl
    generalize holdsV x n = hv at *
    generalize hol : x.On.length = ol at *
    generalize hsd : (D.map (onLen r)).sum = sd at *
    clear hkv hkD hR3 hg3 hb3 h3 hr hon hsum g1 g2 hol hsd hx hk e
    go_wp2_with (go_at_call 64; (with_reducible refine HBl.out.mono ?_); rintro e w4 ⟨rfl, rfl⟩)
    go_roundg g
    case rel => exact ⟨D ++ [n.id], by simp; omega, HR3.out, by rw [HSm.out]; go_num, HB3.out⟩
    case measure => omega
   ·simp only [hk, if_false] at hta
    have ho0 : x.On.length = 0 := by rw [(HW.out.file x hx hk).2]; rfl
    rw [ho0] at HSm
    generalize holdsV x n = hv at *
    generalize hsd : (D.map (onLen r)).sum = sd at *
    clear hkv hkD hR3 hg3 hb3 h3 hr hon hsum hsd hx hk e ho0
    go_wp2
    go_roundg g
    case rel => exact ⟨D ++ [n.id], by simp; omega, HR3.out, by rw [HSm.out]; rfl, HB3.out⟩
    case measure => omega
set_option maxRecDepth 100000 in
set_option maxHeartbeats 4000000 in
theorem free_any {w : World} {f mi mg K : Nat} {r : RFs} {N : List Nd} (h : FsN w f mi mg r N) (hW : Wf r K) :
  Calls Tryz.prog 39 #[.pointer (some ⟨f, 0, none⟩)] w fun e w' => e = .returned (.tuple #[.int .i64 (roomP r), .int .i64 (200 - (r.ins.length : Int))]) ∧ Below w.heap.size w w' := by
 have HU := Lib.hid (show ∀ w2, Below w.heap.size w w2 → Calls Tryz.prog 73 #[.pointer (some ⟨f, 0, none⟩)] w2 fun e w' => e = .returned (.int .i64 (usedN r : Int)) ∧ Below w.heap.size w w' from fun w2 hb => (used_any (h.below hW hb) hW).mono fun e w' ⟨a, b⟩ => ⟨a, hb.trans (b.mono hb.size)⟩)
 have hk : ∀ w2, Below w.heap.size w w2 → w2.cell? ⟨f, 0, none⟩ = some (.int .i64 r.room) ∧ w2.cell? ⟨f, 1, none⟩ = some (.map (some mi)) ∧ (Builtin.len_ #[63] 3 #[.map (some mi)]).run Tryz.prog w2 = .ok (.int .i64 (r.ins.length : Int)) w2 := fun w2 hb => by
  have h2 := h.below hW hb
  have hl := run_len_map (P := Tryz.prog) (ty := 3) (t := 63) Tryz.underlying63 h2.imap
  rw [List.length_map, h.len hW] at hl
  exact ⟨h2.cells.1, h2.cells.2.1, hl⟩
 have hsp := hW.sp
 have hrm := hW.rm
 have hcnt := hW.cnt
 change ((usedN r : Nat) : Int) ≤ r.room at hsp
 have HRp := Lib.hid (show roomP r = r.room - usedN r from rfl)
 have HK := Lib.hid hk
 obtain ⟨c0, c1, c2⟩ := hk w (Below.refl _ _)
 have hbz := Below.refl w.heap.size w
 have hbz2 := hbz.drew
 have hw1 : IntKind.i64.wrap (r.room - (usedN r : Int)) = r.room - (usedN r : Int) := IntWalk.i64_in _ (by omega)
 have hw2 : IntKind.i64.wrap (200 - (r.ins.length : Int)) = 200 - (r.ins.length : Int) := IntWalk.i64_in _ (by omega)
 clear h hW hk
 generalize usedN r = u at *
 generalize r.ins.length = ln at *
 generalize r.room = rm at *
 go_enter Tryz.func39, Tryz.ntmps39
 go_wp2
 go_region_held3 (fun w' => w'.cell? ⟨f, 0, none⟩ = some (.int .i64 rm) ∧ w'.cell? ⟨f, 1, none⟩ = some (.map (some mi)) ∧ (Builtin.len_ #[63] 3 #[.map (some mi)]).run Tryz.prog w' = .ok (.int .i64 (ln : Int)) w')
  (first
   | exact HK.out _ (by assumption)
   | go_keep)
  (first
   | (go_at_call 73; (with_reducible refine (HU.out _ (by assumption)).mono ?_); rintro e w3 ⟨rfl, hb3⟩))
 all_goals
  go_wp2
  go_ret2
  rw [HRp.out]
  exact ⟨rfl, by assumption⟩
end Go.Proofs.YtpcjmefchclhhaaGreat

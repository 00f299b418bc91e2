/- A part of the proof. -/
import Derived.Test.YtpcjmefchclhhaaGreatZFsA
import Derived.Test.YtpcjmefchclhhaaGreatZShG
import Derived.Test.YtpcjmefchclhhaaGreatOwnM
import Derived.Deep.QuietTactic
import Derived.BigQuiet
namespace Go.Proofs.YtpcjmefchclhhaaGreat
open Go.RowKit Go.MapKept
structure Nd where
 id : Int
 blk : Nat
 b : Nat
 m : Nat
 big : Bool
def Nd.foot (n : Nd) : List Nat := if n.big = true then [n.blk, n.b, n.m] else [n.blk]
theorem Nd.blk_mem (n : Nd) : n.blk ∈ n.foot := by unfold Nd.foot; split <;> simp
theorem Nd.b_mem {n : Nd} (h : n.big = true) : n.b ∈ n.foot := by unfold Nd.foot; rw [if_pos h]; simp
theorem Nd.m_mem {n : Nd} (h : n.big = true) : n.m ∈ n.foot := by unfold Nd.foot; rw [if_pos h]; simp
def ptrV (b : Nat) : Value := .pointer (some ⟨b, 0, none⟩)
def holdsV (x : RIn) (n : Nd) : Value :=
 if x.kind = 1 then .iface 126 (.pointer (some ⟨n.b, 0, none⟩)) else if x.kind = 2 then .iface 68 (.pointer (some ⟨n.b, 0, none⟩)) else .iface 9 (.string x.target)
def inoC (x : RIn) (lk : Nat) (n : Nd) : Array Value := #[.int .i64 x.id, .int .i64 x.gen, .int .i64 x.mode, .int .i64 x.time, .int .i64 (lk : Int), holdsV x n]
structure NodeR (w : World) (r : RFs) (x : RIn) (n : Nd) : Prop where
 id : n.id = x.id
 head : w.heap[n.blk]? = some (.cells (inoC x (linksN r x) n) 73 (0, 0))
 big : n.big = decide (x.kind ≠ 3)
 file : x.kind = 1 → ∃ size bl, Raw w n.b n.m size bl ∧ SameS size bl x.B x.On
 dir : x.kind = 2 → w.heap[n.b]? = some (.cells #[.map (some n.m), .int .i64 x.parent] 71 (0, 0)) ∧ MapB w n.m strK intK (namesP r.nms x.id)
structure FsN (w : World) (f mi mg : Nat) (r : RFs) (N : List Nd) : Prop where
 head : w.heap[f]? = some (.cells #[.int .i64 r.room, .map (some mi), .map (some mg)] 66 (0, 0))
 imap : MapB w mi intK ptrV (N.map fun n => (n.id, n.blk))
 gmap : ∃ G, MapB w mg intK intK G ∧ ∀ id, (aget G id).getD 0 = gensAt r.gens id
 node : ∀ n ∈ N, ∃ x ∈ r.ins, NodeR w r x n
 all : ∀ x ∈ r.ins, ∃ n ∈ N, n.id = x.id
 sep : N.Pairwise fun n n' => ∀ k ∈ n.foot, k ∉ n'.foot
 off : ∀ n ∈ N, f ∉ n.foot ∧ mi ∉ n.foot ∧ mg ∉ n.foot
 mm : mi ≠ mg
theorem heap_lt {w : World} {k : Nat} {o : Obj} (h : w.heap[k]? = some o) : k < w.heap.size := (Array.getElem?_eq_some_iff.1 h).1
section
variable {w w' : World} {f mi mg K : Nat} {r : RFs} {N : List Nd} {x : RIn} {n : Nd}
theorem NodeR.lt (h : NodeR w r x n) (hk : x.kind = 1 ∨ x.kind = 2 ∨ x.kind = 3) : ∀ k ∈ n.foot, k < w.heap.size := by
 intro k hm
 unfold Nd.foot at hm
 rw [h.big] at hm
 rcases hk with hk | hk | hk
 ·obtain ⟨s, bl, h1, _⟩ := h.file hk
  simp [hk] at hm
  rcases hm with rfl | rfl | rfl
  ·exact heap_lt h.head
  ·exact h1.lt
  ·exact h1.map.lt
 ·obtain ⟨h1, h2⟩ := h.dir hk
  simp [hk] at hm
  rcases hm with rfl | rfl | rfl
  ·exact heap_lt h.head
  ·exact heap_lt h1
  ·exact h2.lt
 ·simp [hk] at hm
  subst hm
  exact heap_lt h.head
theorem NodeR.keep {r' : RFs} (h : NodeR w r x n) (hb : ∀ k ∈ n.foot, w'.heap[k]? = w.heap[k]?) (hl : linksN r' x = linksN r x) (hn : x.kind = 2 → namesP r'.nms x.id = namesP r.nms x.id) : NodeR w' r' x n := by
 refine ⟨h.id, by rw [hl]; exact (hb _ n.blk_mem).trans h.head, h.big, fun hk => ?_, fun hk => ?_⟩
 ·have hbig : n.big = true := by rw [h.big, hk]; rfl
  obtain ⟨s, bl, h1, h2⟩ := h.file hk
  exact ⟨s, bl, h1.keep (hb _ (Nd.b_mem hbig)) (hb _ (Nd.m_mem hbig)), h2⟩
 ·have hbig : n.big = true := by rw [h.big, hk]; rfl
  obtain ⟨h1, h2⟩ := h.dir hk
  exact ⟨(hb _ (Nd.b_mem hbig)).trans h1, by rw [hn hk]; exact h2.of_block (hb _ (Nd.m_mem hbig))⟩
theorem FsN.keep (h : FsN w f mi mg r N) (hf : w'.heap[f]? = w.heap[f]?) (h1 : w'.heap[mi]? = w.heap[mi]?) (h2 : w'.heap[mg]? = w.heap[mg]?) (hb : ∀ n ∈ N, ∀ k ∈ n.foot, w'.heap[k]? = w.heap[k]?) : FsN w' f mi mg r N := by
 obtain ⟨G, g1, g2⟩ := h.gmap
 refine ⟨hf.trans h.head, h.imap.of_block h1, ⟨G, g1.of_block h2, g2⟩, fun n hn => ?_, h.all, h.sep, h.off, h.mm⟩
 obtain ⟨x, hx, hr⟩ := h.node n hn
 exact ⟨x, hx, hr.keep (hb n hn) rfl (fun _ => rfl)⟩
theorem FsN.lt (h : FsN w f mi mg r N) (hW : Wf r K) : f < w.heap.size ∧ mi < w.heap.size ∧ mg < w.heap.size ∧ ∀ n ∈ N, ∀ k ∈ n.foot, k < w.heap.size := by
 obtain ⟨G, g1, _⟩ := h.gmap
 refine ⟨heap_lt h.head, h.imap.lt, g1.lt, fun n hn => ?_⟩
 obtain ⟨x, hx, hr⟩ := h.node n hn
 exact hr.lt (hW.kind x hx)
theorem FsN.below (h : FsN w f mi mg r N) (hW : Wf r K) (hb : Below w.heap.size w w') : FsN w' f mi mg r N := by
 obtain ⟨l1, l2, l3, l4⟩ := h.lt hW
 exact h.keep (hb.block _ l1) (hb.block _ l2) (hb.block _ l3) (fun n hn k hk => hb.block k (l4 n hn k hk))
theorem FsN.at_ (h : FsN w f mi mg r N) (hW : Wf r K) (hx : x ∈ r.ins) : ∃ n ∈ N, NodeR w r x n := by
 obtain ⟨n, hn, e⟩ := h.all x hx
 obtain ⟨y, hy, hr⟩ := h.node n hn
 have : y = x := by
  have e1 := hW.byId hy
  have e2 := hW.byId hx
  rw [← hr.id, e, e2] at e1
  exact e1.symm
 subst this
 exact ⟨n, hn, hr⟩
theorem FsN.idU (h : FsN w f mi mg r N) : (N.map (·.id)).Nodup := by
 have := h.imap.nodup
 simpa [List.map_map, Function.comp_def] using this
theorem nodup_inj {α β : Type} {g : α → β} {l : List α} (h : (l.map g).Nodup) {a b : α} (ha : a ∈ l) (hb : b ∈ l) (e : g a = g b) : a = b := by
 induction l with
 | nil => simp at ha
 | cons c l ih =>
  simp only [List.map_cons, List.nodup_cons] at h
  rcases List.mem_cons.1 ha with e1 | ha <;> rcases List.mem_cons.1 hb with e2 | hb
  ·rw [e1, e2]
  ·exact absurd (List.mem_map.2 ⟨b, hb, by rw [← e, e1]⟩) h.1
  ·exact absurd (List.mem_map.2 ⟨a, ha, by rw [e, e2]⟩) h.1
  ·exact ih h.2 ha hb
theorem FsN.apart (h : FsN w f mi mg r N) {a b : Nd} (ha : a ∈ N) (hb : b ∈ N) (hne : a ≠ b) : ∀ k ∈ a.foot, k ∉ b.foot := by
 obtain ⟨i, hi, rfl⟩ := List.getElem_of_mem ha
 obtain ⟨j, hj, rfl⟩ := List.getElem_of_mem hb
 have hp := List.pairwise_iff_getElem.1 h.sep
 rcases Nat.lt_trichotomy i j with hlt | heq | hgt
 ·exact hp i j hi hj hlt
 ·subst heq; exact absurd rfl hne
 ·exact fun k hk hk' => hp j i hj hi hgt k hk' hk
theorem FsN.get (h : FsN w f mi mg r N) (hn : n ∈ N) : aget (N.map fun n => (n.id, n.blk)) n.id = some n.blk :=
 aget_of_mem h.imap.nodup (List.mem_map.2 ⟨n, hn, rfl⟩)
theorem FsN.get_none (h : FsN w f mi mg r N) (hW : Wf r K) {id : Int} (hid : (byIdP r.ins id).id = 0) : aget (N.map fun n => (n.id, n.blk)) id = none := by
 rw [aget_none]
 intro p hp e
 obtain ⟨n, hn, rfl⟩ := List.mem_map.1 hp
 obtain ⟨x, hx, hr⟩ := h.node n hn
 have h1 := hW.byId hx
 rw [← hr.id, show n.id = id from e] at h1
 rw [h1] at hid
 exact hW.ne0 hx hid
end
theorem KI : KeyOk Tryz.prog 3 intK := int_keyOk Tryz.underlying3
theorem KS : KeyOk Tryz.prog 9 strK := str_keyOk Tryz.underlying9
theorem zptr (w : World) : (zeroValue 67).run Tryz.prog w = .ok (.pointer none) w := by kernel_rfl
theorem zint (w : World) : (zeroValue 3).run Tryz.prog w = .ok (.int .i64 0) w := by kernel_rfl
theorem neq_hnd (w : World) (a b c d : Int) : (binOp .neq 37 (.agg #[.int .i64 a, .int .i64 b]) (.agg #[.int .i64 c, .int .i64 d])).run Tryz.prog w = .ok (.bool (!decide (a = c ∧ b = d))) w := by
 have ht : Tryz.prog.underlying 37 = some (.struct (Tryz.prog.fieldsOf 37)) := by kernel_rfl
 have hL : (Tryz.prog.fieldsOf 37).toList.map (fun f => (f.name, f.type, f.offset)) = [("Id", 3, 0), ("Gen", 3, 1)] := by kernel_rfl
 rw [run_neq_fields w ht (by kernel_rfl) hL]
 have hp : Tryz.prog.plainKey 3 = true := by kernel_rfl
 have p0 := fun (w : World) (x y : Int) => run_part_plain (P := Tryz.prog) (w := w) hp (xs := #[.int .i64 x, .int .i64 y]) (off := 0) (v := .int .i64 x) rfl
 have p1 := fun (w : World) (x y : Int) => run_part_plain (P := Tryz.prog) (w := w) hp (xs := #[.int .i64 x, .int .i64 y]) (off := 1) (v := .int .i64 y) rfl
 have q := fun (w : World) (x y : Int) => run_equalIn_int (P := Tryz.prog) w 9998 3 .i64 .i64 x y Tryz.underlying3
 have hE : (eqF 9999 #[.int .i64 a, .int .i64 b] #[.int .i64 c, .int .i64 d] [("Id", 3, 0), ("Gen", 3, 1)]).run Tryz.prog w = .ok (decide (a = c ∧ b = d)) w := by
  simp only [eqF, ne_eq]
  by_cases h1 : a = c <;> by_cases h2 : b = d <;> simp [h1, h2, Sem.run_bind, p0, p1, q, Result.andThen]
 rw [hE]
 rfl
set_option maxHeartbeats 1000000 in
theorem find_yes {w : World} {f mi mg K : Nat} {r : RFs} {N : List Nd} (h : FsN w f mi mg r N) (hW : Wf r K) (i g : Int) (hl : liveP r (i, g) = true) {n : Nd} (hn : n ∈ N) (hi : n.id = i) :
  Calls Tryz.prog 59 #[.pointer (some ⟨f, 0, none⟩), .agg #[.int .i64 i, .int .i64 g]] w fun e w' => e = .returned (.tuple #[ptrV n.blk, .int .i64 0]) ∧ Below w.heap.size w w' := by
 obtain ⟨x, hx, hr⟩ := h.node n hn
 have hg : x.gen = g := by
  have := (live_mem hl).2.2
  have e := hW.byId hx
  rw [← hr.id, hi] at e
  rw [e] at this
  exact this
 have e0 : x.id = i := hr.id.symm.trans hi
 have hlk : ∀ w', Below w.heap.size w w' → (Instr.lookup 63 (.map (some mi)) (.int .i64 i) true).run Tryz.prog w' = .ok (.tuple #[.pointer (some ⟨n.blk, 0, none⟩), .bool true]) w' := fun w' hb => by
  have := run_lookup_ok KI (t := 63) (et := 67) Tryz.underlying63 (zptr w') ((h.below hW hb).imap) i
  rw [← hi, h.get hn] at this
  rw [← hi]
  exact this
 have hc : ∀ w', Below w.heap.size w w' → w'.cell? ⟨f, 1, none⟩ = some (.map (some mi)) ∧ w'.cell? ⟨n.blk, 0, none⟩ = some (.int .i64 i) ∧ w'.cell? ⟨n.blk, 1, none⟩ = some (.int .i64 g) := fun w' hb => by
  have h' := h.below hW hb
  obtain ⟨y, hy, hr'⟩ := h'.node n hn
  have : y = x := by
   have e1 := hW.byId hy
   rw [← hr'.id, hr.id, hW.byId hx] at e1
   exact e1.symm
  subst this
  refine ⟨by rw [cell_at h'.head]; rfl, ?_, ?_⟩
  ·rw [cell_at hr'.head, ← e0]; rfl
  ·rw [cell_at hr'.head, ← hg]; rfl
 obtain ⟨w1, hw1⟩ : ∃ w1, w.alloc (.cells #[.int .i64 i, .int .i64 g] 37) = w1 := ⟨_, rfl⟩
 have hB : Below w.heap.size w w1 := by rw [← hw1]; exact (Below.refl _ _).alloc (Nat.le_refl _) _
 have hb0 : w1.heap[w.heap.size]? = some (.cells #[.int .i64 i, .int .i64 g] 37 (0, 0)) := by rw [← hw1]; exact heap_alloc_new _ _
 have t0 : w1.cell? ⟨w.heap.size, 0, none⟩ = some (.int .i64 i) := by rw [cell_at hb0]; rfl
 have t1 : w1.cell? ⟨w.heap.size, 1, none⟩ = some (.int .i64 g) := by rw [cell_at hb0]; rfl
 obtain ⟨c1, c2, c3⟩ := hc w1 hB
 have hl1 := fun q => hlk (w1.drewN q) (below_drewN hB q)
 have hne := fun w => neq_hnd w i g i g
 simp only [and_self, decide_true, Bool.not_true] at hne
 have HW1 := Lib.hid hw1
 have HB := Lib.hid hB
 clear hw1 hB hb0 hlk hc hr hg e0 hx hl h hW hn hi
 go_enter Tryz.func59, Tryz.ntmps59
 go_wp2
 rw [HW1.out]
 go_quiet (fail)
 go_wp2
 go_quiet (fail)
 go_wp2
 go_ret2
 exact ⟨rfl, by repeat (first | exact HB.out | refine below_drewN ?_ _)⟩
section
variable {w w' : World} {f mi mg K : Nat} {r : RFs} {N : List Nd} {x : RIn} {n : Nd}
theorem FsN.cells (h : FsN w f mi mg r N) : w.cell? ⟨f, 0, none⟩ = some (.int .i64 r.room) ∧ w.cell? ⟨f, 1, none⟩ = some (.map (some mi)) ∧ w.cell? ⟨f, 2, none⟩ = some (.map (some mg)) :=
 ⟨by rw [cell_at h.head]; rfl, by rw [cell_at h.head]; rfl, by rw [cell_at h.head]; rfl⟩
theorem NodeR.cells (h : NodeR w r x n) : w.cell? ⟨n.blk, 0, none⟩ = some (.int .i64 x.id) ∧ w.cell? ⟨n.blk, 1, none⟩ = some (.int .i64 x.gen) ∧ w.cell? ⟨n.blk, 2, none⟩ = some (.int .i64 x.mode) ∧ w.cell? ⟨n.blk, 3, none⟩ = some (.int .i64 x.time) ∧ w.cell? ⟨n.blk, 4, none⟩ = some (.int .i64 (linksN r x : Int)) ∧ w.cell? ⟨n.blk, 5, none⟩ = some (holdsV x n) :=
 ⟨by rw [cell_at h.head]; rfl, by rw [cell_at h.head]; rfl, by rw [cell_at h.head]; rfl, by rw [cell_at h.head]; rfl, by rw [cell_at h.head]; rfl, by rw [cell_at h.head]; rfl⟩
theorem NodeR.below (h : NodeR w r x n) (hk : x.kind = 1 ∨ x.kind = 2 ∨ x.kind = 3) (hb : Below w.heap.size w w') : NodeR w' r x n :=
 h.keep (fun k hk' => hb.block k (h.lt hk k hk')) rfl (fun _ => rfl)
theorem FsN.look (h : FsN w f mi mg r N) (i : Int) : (Instr.lookup 63 (.map (some mi)) (.int .i64 i) true).run Tryz.prog w = .ok (.tuple #[((aget (N.map fun n => (n.id, n.blk)) i).map ptrV).getD (.pointer none), .bool (aget (N.map fun n => (n.id, n.blk)) i).isSome]) w ∧
  (Instr.lookup 63 (.map (some mi)) (.int .i64 i) false).run Tryz.prog w = .ok (((aget (N.map fun n => (n.id, n.blk)) i).map ptrV).getD (.pointer none)) w :=
 ⟨run_lookup_ok KI Tryz.underlying63 (zptr w) h.imap i, run_lookup_plain KI Tryz.underlying63 (zptr w) h.imap i⟩
end
set_option maxHeartbeats 1000000 in
theorem find_no {w : World} {f mi mg K : Nat} {r : RFs} {N : List Nd} (h : FsN w f mi mg r N) (hW : Wf r K) (i g : Int) (hl : liveP r (i, g) = false) :
  Calls Tryz.prog 59 #[.pointer (some ⟨f, 0, none⟩), .agg #[.int .i64 i, .int .i64 g]] w fun e w' => e = .returned (.tuple #[.pointer none, .int .i64 175]) ∧ Below w.heap.size w w' := by
 obtain ⟨w1, hw1⟩ : ∃ w1, w.alloc (.cells #[.int .i64 i, .int .i64 g] 37) = w1 := ⟨_, rfl⟩
 have hB : Below w.heap.size w w1 := by rw [← hw1]; exact (Below.refl _ _).alloc (Nat.le_refl _) _
 have hb0 : w1.heap[w.heap.size]? = some (.cells #[.int .i64 i, .int .i64 g] 37 (0, 0)) := by rw [← hw1]; exact heap_alloc_new _ _
 have t0 : w1.cell? ⟨w.heap.size, 0, none⟩ = some (.int .i64 i) := by rw [cell_at hb0]; rfl
 have t1 : w1.cell? ⟨w.heap.size, 1, none⟩ = some (.int .i64 g) := by rw [cell_at hb0]; rfl
 have h1 := h.below hW hB
 obtain ⟨-, c1, -⟩ := h1.cells
 have hlk := fun q => ((h.below hW (below_drewN hB q)).look i).1
 have HW1 := Lib.hid hw1
 have HB := Lib.hid hB
 by_cases hid : (byIdP r.ins i).id = 0
 ·rw [h.get_none hW hid] at hlk
  simp only [Option.map_none, Option.getD_none, Option.isSome_none] at hlk
  clear hw1 hB hb0 hl h hW h1 hid
  go_enter Tryz.func59, Tryz.ntmps59
  go_wp2
  rw [HW1.out]
  go_quiet (fail)
  go_wp2
  go_quiet (fail)
  go_wp2
  go_ret2
  exact ⟨rfl, by repeat (first | exact HB.out | refine below_drewN ?_ _)⟩
 ·obtain ⟨hx, he⟩ := byIdP_mem hid
  obtain ⟨n, hn, hr⟩ := h.at_ hW hx
  have hi : n.id = i := hr.id.trans he
  have hgne : (byIdP r.ins i).gen ≠ g := fun e => by
   have := of_decide_eq_false hl
   exact this ⟨hid, e⟩
  have hget := h.get hn
  rw [hi] at hget
  rw [hget] at hlk
  obtain ⟨d0, d1, -⟩ := (hr.below (hW.kind _ hx) hB).cells
  rw [he] at d0
  have hne := fun w => neq_hnd w i (byIdP r.ins i).gen i g
  simp only [true_and, hgne, decide_false, Bool.not_false] at hne
  simp only [Option.map_some, Option.getD_some, Option.isSome_some, ptrV] at hlk
  generalize (byIdP r.ins i).gen = g' at *
  clear hw1 hB hb0 hl h hW h1 hid hx he hr hi hget hn hgne
  go_enter Tryz.func59, Tryz.ntmps59
  go_wp2
  rw [HW1.out]
  go_quiet (fail)
  go_wp2
  go_quiet (fail)
  go_wp2
  go_ret2
  exact ⟨rfl, by repeat (first | exact HB.out | refine below_drewN ?_ _)⟩
end Go.Proofs.YtpcjmefchclhhaaGreat

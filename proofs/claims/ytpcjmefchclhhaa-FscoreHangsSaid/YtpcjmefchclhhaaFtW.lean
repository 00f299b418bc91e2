/- A part of the proof, merged from several texts. -/
import Derived.Test.YtpcjmefchclhhaaFsXW
import Derived.Test.YtpcjmefchclhhaaShJ
import Derived.Test.YtpcjmefchclhhaaRes
import Derived.Laws.Rows
import Derived.Deep.RegionHeld3
import Derived.Test.YtpcjmefchclhhaaFsM
import Derived.Test.YtpcjmefchclhhaaTag
/- What a call of a script leaves, said plainly: the room, the numbers and generations, and which handles live. -/
namespace Go.Proofs.Ytpcjmefchclhhaa
open Go.RowKit Go.MapKept

/-- All inodes were there, under the same handles. -/
structure Sub (r r' : RFs) : Prop where
  room : r'.room = r.room
  gens : r'.gens = r.gens
  ins : ∀ x ∈ r'.ins, ∃ y ∈ r.ins, y.id = x.id ∧ y.gen = x.gen
theorem Sub.refl (r : RFs) : Sub r r := ⟨rfl, rfl, fun x hx => ⟨x, hx, rfl, rfl⟩⟩
section
variable {r r' : RFs} {K : Nat}
theorem sub_named (h : Sub r r') (d : Int) (s : ByteArray) (i : Int) : Sub r (namedP r' d s i) := ⟨h.room, h.gens, h.ins⟩
theorem sub_unnamed (h : Sub r r') (d : Int) (s : ByteArray) : Sub r (unnamedP r' d s) := ⟨h.room, h.gens, h.ins⟩
theorem sub_gone (h : Sub r r') (i : Int) : Sub r (goneP r' i) := ⟨h.room, h.gens, fun x hx => h.ins x (List.mem_filter.1 hx).1⟩
theorem sub_drop (h : Sub r r') (d : Int) (s : ByteArray) : Sub r (dropP r' d s) := by
  unfold dropP
  split
  · exact sub_gone (sub_unnamed h _ _) _
  · exact sub_unnamed h _ _
theorem sub_set (h : Sub r r') {x y : RIn} (hy : y ∈ r.ins) (e1 : y.id = x.id) (e2 : y.gen = x.gen) : Sub r (setP r' x) := ⟨h.room, h.gens, fun z hz => by
  rcases setP_mem.1 hz with ⟨h1, _⟩ | rfl
  · exact h.ins z h1
  · exact ⟨y, hy, e1, e2⟩⟩
theorem sub_moved (h : Sub r r') (p : Int) (s : ByteArray) (q : Int) (t : ByteArray) {x : RIn} (hx : x ∈ r.ins) : Sub r (movedP r' p s q t x) := by
  unfold movedP
  split
  · exact sub_set (sub_named (sub_unnamed h _ _) _ _ _) hx rfl rfl
  · exact sub_named (sub_unnamed h _ _) _ _ _
theorem sub_link (h d : Int × Int) (s : ByteArray) : Sub r (linkP r h d s).1 := by
  unfold linkP
  repeat' split
  all_goals first | exact Sub.refl r | exact sub_named (Sub.refl r) _ _ _
theorem sub_remove (h : Int × Int) (s : ByteArray) (fo : Bool) : Sub r (removeP r h s fo).1 := by
  unfold removeP
  repeat' split
  all_goals first | exact Sub.refl r | exact sub_drop (Sub.refl r) _ _
theorem entry_in (hW : Wf r K) {d : Int} {s : ByteArray} (h : entryP r.nms d s ≠ 0) : byIdP r.ins (entryP r.nms d s) ∈ r.ins ∧ (byIdP r.ins (entryP r.nms d s)).id = entryP r.nms d s := by
  obtain ⟨n, hn, _, _, e⟩ := entry_mem h
  obtain ⟨_, x, hx, ex⟩ := hW.nmI n hn
  rw [← e, ← ex, hW.byId hx]
  exact ⟨hx, rfl⟩
theorem sub_rename (hW : Wf r K) (h : Int × Int) (s : ByteArray) (g : Int × Int) (t : ByteArray) : Sub r (renameP r h s g t).1 := by
  unfold renameP
  split
  · exact Sub.refl r
  · split
    · exact Sub.refl r
    · rename_i a
      obtain ⟨hx, _⟩ := entry_in hW a
      repeat' split
      all_goals first | exact Sub.refl r | exact sub_moved (sub_drop (Sub.refl r) _ _) _ _ _ _ hx | exact sub_moved (Sub.refl r) _ _ _ _ hx
theorem sub_write (h : Int × Int) (a : Int) (b : List UInt8) (t : Int) : Sub r (fwriteP r h a b t).1 := by
  unfold fwriteP
  split
  · exact Sub.refl r
  · rename_i a1
    obtain ⟨m1, _⟩ := sheet_mem (Decidable.not_not.1 a1)
    repeat' split
    all_goals first | exact Sub.refl r | exact sub_set (Sub.refl r) m1 rfl rfl
theorem sub_cut (h : Int × Int) (n t : Int) : Sub r (fcutP r h n t).1 := by
  unfold fcutP
  split
  · exact Sub.refl r
  · rename_i a1
    obtain ⟨m1, _⟩ := sheet_mem (Decidable.not_not.1 a1)
    repeat' split
    all_goals first | exact Sub.refl r | exact sub_set (Sub.refl r) m1 rfl rfl

/-- An inode that was made: of a number that was free, with the next generation. -/
def MadeP (r r' : RFs) (h : Int × Int) : Prop :=
  r'.room = r.room ∧ (∃ x, r'.ins = r.ins ++ [x] ∧ x.id = h.1 ∧ x.gen = h.2) ∧ r'.gens = gensUp r.gens h.1 ∧ h.2 = gensAt r.gens h.1 + 1 ∧ 1 ≤ h.1
theorem freeP_pos (l : List RIn) : 1 ≤ freeP l := by unfold freeP; omega
theorem makeP_cases (r : RFs) (h : Int × Int) (s : ByteArray) (m : RMk) : (∃ e, makeP r h s m = (r, (0, 0), e) ∧ e ≠ 0) ∨ makeP r h s m = (namedP (addP r (newIn r h m)) h.1 s (freeP r.ins), (freeP r.ins, gensAt r.gens (freeP r.ins) + 1), 0) := by
  unfold makeP
  split
  · rename_i a; exact .inl ⟨_, rfl, a⟩
  · repeat' split
    all_goals first | exact .inr rfl | exact .inl ⟨_, rfl, by decide⟩
theorem do_step (hW : Wf r K) (o : OpF) : Sub r (doP r o).1 ∨ (o.kind = 0 ∧ (doP r o).2.2.1 = 0 ∧ MadeP r (doP r o).1 (doP r o).2.1) := by
  unfold doP
  split
  · rename_i hk
    unfold makeP
    repeat' split
    all_goals first
      | exact .inl (Sub.refl r)
      | exact .inr ⟨hk, rfl, rfl, ⟨_, rfl, rfl, rfl⟩, rfl, rfl, freeP_pos _⟩
  · split
    · exact .inl (sub_link _ _ _)
    · split
      · exact .inl (sub_remove _ _ _)
      · split
        · exact .inl (sub_rename hW _ _ _ _)
        · split
          · exact .inl (sub_write _ _ _ _)
          · split
            · exact .inl (sub_cut _ _ _)
            · repeat' split
              all_goals exact .inl (Sub.refl r)
theorem do_room (hW : Wf r K) (o : OpF) : (doP r o).1.room = r.room := by
  rcases do_step hW o with h | ⟨_, _, h, _⟩
  · exact h.room
  · exact h
theorem live_iff (hW : Wf r K) (h : Int × Int) : liveP r h = true ↔ ∃ x ∈ r.ins, x.id = h.1 ∧ x.gen = h.2 := by
  constructor
  · intro hl
    obtain ⟨h1, h2, h3⟩ := live_mem hl
    exact ⟨_, h1, h2, h3⟩
  · rintro ⟨x, hx, e1, e2⟩
    unfold liveP
    rw [← e1, hW.byId hx]
    exact decide_eq_true ⟨hW.ne0 hx, e2⟩
/-- The generation of a handle was reached. -/
def Known (r : RFs) (h : Int × Int) : Prop := h.2 ≤ gensAt r.gens h.1
theorem known_live (hW : Wf r K) {h : Int × Int} (hl : liveP r h = true) : Known r h := by
  obtain ⟨x, hx, e1, e2⟩ := (live_iff hW h).1 hl
  have := (hW.gen x hx).1
  unfold Known
  rw [← e1, ← e2, this]
  exact Int.le_refl _
theorem known_do (hW : Wf r K) (o : OpF) {h : Int × Int} (hk : Known r h) : Known (doP r o).1 h := by
  unfold Known at *
  rcases do_step hW o with hs | ⟨_, _, _, _, hg, _, h1⟩
  · rw [hs.gens]; exact hk
  · rw [hg, gensAt_up _ (by omega)]
    split
    · rename_i e; rw [← e]; omega
    · exact hk
theorem dead_do (hW : Wf r K) (o : OpF) {h : Int × Int} (hk : Known r h) (hd : liveP r h = false) : liveP (doP r o).1 h = false := by
  cases hl : liveP (doP r o).1 h with
  | false => rfl
  | true =>
    exfalso
    obtain ⟨h1, h2, h3⟩ := live_mem hl
    have key : ∀ x ∈ r.ins, x.id = h.1 → x.gen = h.2 → False := fun x hx e1 e2 => by
      rw [(live_iff hW h).2 ⟨x, hx, e1, e2⟩] at hd
      cases hd
    rcases do_step hW o with hs | ⟨_, _, _, ⟨x, hx, e1, e2⟩, _, hg, _⟩
    · obtain ⟨y, hy, e1, e2⟩ := hs.ins _ h1
      exact key y hy (e1.trans h2) (e2.trans h3)
    · rw [hx] at h1
      rcases List.mem_append.1 h1 with h1 | h1
      · rw [← hx] at h1
        exact key _ h1 h2 h3
      · rw [← hx] at h1
        have := List.mem_singleton.1 h1
        rw [this] at h2 h3
        unfold Known at hk
        rw [← h2, ← h3, e1, e2] at hk
        omega
/-- A handle that a call answers is a live one then. -/
theorem answered (hW : Wf r K) (o : OpF) (h0 : (doP r o).2.2.1 = 0) (hne : (doP r o).2.1 ≠ (0, 0)) : Known (doP r o).1 (doP r o).2.1 := by
  rcases do_step hW o with hs | ⟨_, _, _, _, hg, hh, h1⟩
  · have key : ∀ h : Int × Int, Known r h → Known (doP r o).1 h := fun h hk => known_do hW o hk
    apply key
    revert h0 hne
    unfold doP
    split
    · rename_i hk
      rcases makeP_cases r o.h o.name o.m with ⟨e, he, _⟩ | he
      · rw [he]; intro _ hne; exact absurd rfl hne
      · exfalso
        have hgs := hs.gens
        unfold doP at hgs
        rw [if_pos hk, he] at hgs
        have hu := congrArg (fun l => gensAt l (freeP r.ins)) hgs
        have hf := freeP_pos r.ins
        simp only [namedP, addP, newIn] at hu
        rw [gensAt_up _ (by omega), if_pos rfl] at hu
        omega
    · split
      · intro _ hne; exact absurd rfl hne
      · split
        · intro _ hne; exact absurd rfl hne
        · split
          · intro _ hne; exact absurd rfl hne
          · split
            · intro _ hne; exact absurd rfl hne
            · split
              · intro _ hne; exact absurd rfl hne
              · split
                · intro h0 hne
                  dsimp only at h0 hne ⊢
                  unfold lookP at h0 hne ⊢
                  split at h0
                  · rename_i a; exact absurd h0 a
                  · rename_i a
                    rw [if_neg a] at hne ⊢
                    have ha := Decidable.not_not.1 a
                    have hf : folderE r o.h = 0 := by
                      unfold placeE at ha
                      split at ha
                      · rename_i q; exact absurd ha q
                      · rename_i q; exact Decidable.not_not.1 q
                    obtain ⟨hl, hk⟩ := folder_live hf
                    obtain ⟨m1, m2, _⟩ := live_mem hl
                    split
                    · exact known_live hW hl
                    · split
                      · obtain ⟨p, hp, e1, _⟩ := hW.par _ m1 hk
                        refine known_live hW ((live_iff hW _).2 ⟨p, hp, e1, ?_⟩)
                        rw [← e1, hW.byId hp]
                      · split
                        · rename_i b c d
                          rw [if_neg b, if_neg c, if_pos d] at hne
                          exact absurd rfl hne
                        · rename_i d
                          obtain ⟨q1, q2⟩ := entry_in hW d
                          exact known_live hW ((live_iff hW _).2 ⟨_, q1, q2, rfl⟩)
                · split
                  · intro _ hne; exact absurd rfl hne
                  · intro _ hne; exact absurd rfl hne
  · unfold Known
    rw [hg, gensAt_up _ (by omega), if_pos rfl, hh]
    exact Int.le_refl _
end
end Go.Proofs.Ytpcjmefchclhhaa

/- Openers: handles, what is made, calls of a script, strings. -/
namespace Go.Proofs.Ytpcjmefchclhhaa
open Go.RowKit Go.MapKept Go.ChangeShapes Go.WideShapes Go.ChangeAt

section
variable {W : World} {H : Type} {enc : TypeId × Value → H} {n : Nat} {cs : List Value} {y : DataW H × List MemPlace}
theorem hndList2 {α : Type} {l : List α} (h : l.length = 2) : ∃ a b, l = [a, b] := by
  match l, h with
  | [a, b], _ => exact ⟨a, b, rfl⟩
theorem list4b {α : Type} {l : List α} (h : l.length = 4) : ∃ a b c d, l = [a, b, c, d] := by
  match l, h with
  | [a, b, c, d], _ => exact ⟨a, b, c, d, rfl⟩
theorem fopList16 {α : Type} {l : List α} (h : l.length = 16) : ∃ c0 c1 c2 c3 c4 c5 c6 c7 c8 c9 c10 c11 c12 c13 c14 c15, l = [c0, c1, c2, c3, c4, c5, c6, c7, c8, c9, c10, c11, c12, c13, c14, c15] := by
  match l, h with
  | [c0, c1, c2, c3, c4, c5, c6, c7, c8, c9, c10, c11, c12, c13, c14, c15], _ => exact ⟨c0, c1, c2, c3, c4, c5, c6, c7, c8, c9, c10, c11, c12, c13, c14, c15, rfl⟩
set_option maxRecDepth 100000 in
theorem hnd_dec (h : DataW.trod enc Try.prog W 0 (fun _ => true) true n 55 cs = some y) : ∃ a b, cs = [.int .i64 a, .int .i64 b] ∧ i64ok a ∧ i64ok b := by
  obtain ⟨m, hlen, hf⟩ := struct_dec [(3, 0), (3, 1)] (by kernel_rfl) (by kernel_rfl) h
  rw [show Try.prog.cellsOf 55 = 2 by kernel_rfl] at hlen
  obtain ⟨c0, c1, rfl⟩ := hndList2 hlen
  obtain ⟨z0, g0⟩ := hf 0 _ _ rfl
  obtain ⟨z1, g1⟩ := hf 1 _ _ rfl
  rw [show Try.prog.cellsOf 3 = 1 by kernel_rfl] at g0 g1
  obtain ⟨a, e0, _, ha⟩ := DataW.trod_int Try.underlying3 g0
  obtain ⟨b, e1, _, hb⟩ := DataW.trod_int Try.underlying3 g1
  simp at e0 e1
  subst e0 e1
  exact ⟨a, b, rfl, wf_i64 ha, wf_i64 hb⟩
set_option maxRecDepth 100000 in
theorem mk_dec (h : DataW.trod enc Try.prog W 0 (fun _ => true) true n 57 cs = some y) : ∃ a b c s, cs = [.int .i64 a, .int .i64 b, .int .i64 c, .string s] ∧ s.size ≤ maxLen := by
  obtain ⟨m, hlen, hf⟩ := struct_dec [(3, 0), (3, 1), (3, 2), (9, 3)] (by kernel_rfl) (by kernel_rfl) h
  rw [show Try.prog.cellsOf 57 = 4 by kernel_rfl] at hlen
  obtain ⟨c0, c1, c2, c3, rfl⟩ := list4b hlen
  obtain ⟨z0, g0⟩ := hf 0 _ _ rfl
  obtain ⟨z1, g1⟩ := hf 1 _ _ rfl
  obtain ⟨z2, g2⟩ := hf 2 _ _ rfl
  obtain ⟨z3, g3⟩ := hf 3 _ _ rfl
  rw [show Try.prog.cellsOf 3 = 1 by kernel_rfl] at g0 g1 g2
  rw [show Try.prog.cellsOf 9 = 1 by kernel_rfl] at g3
  obtain ⟨a, e0, _, _⟩ := DataW.trod_int Try.underlying3 g0
  obtain ⟨b, e1, _, _⟩ := DataW.trod_int Try.underlying3 g1
  obtain ⟨c, e2, _, _⟩ := DataW.trod_int Try.underlying3 g2
  obtain ⟨s, e3, _, hs⟩ := DataW.trod_string Try.underlying9 g3
  simp at e0 e1 e2 e3
  subst e0 e1 e2 e3
  exact ⟨a, b, c, s, rfl, hs⟩
end

/-- A call of a script with the place of its bytes. -/
def fopC (x : OpF × Option Addr × Nat) : List Value :=
  [.int .i64 x.1.kind, .int .i64 x.1.h.1, .int .i64 x.1.h.2, .int .i64 x.1.g.1, .int .i64 x.1.g.2, .string x.1.name, .string x.1.other, .int .i64 x.1.m.kind, .int .i64 x.1.m.mode, .int .i64 x.1.m.time, .string x.1.m.target, .bool x.1.fo,
    .int .i64 x.1.pos, .int .i64 x.1.n, .int .i64 x.1.time, .slice x.2.1 x.1.b.length x.2.2]
structure FopQ (W : World) (B : Nat) (x : OpF × Option Addr × Nat) : Prop where
  name : x.1.name.size ≤ maxLen
  other : x.1.other.size ≤ maxLen
  target : x.1.m.target.size ≤ maxLen
  len : x.1.b.length ≤ maxLen
  cap : x.1.b.length ≤ x.2.2
  rd : Rd W B 1 byteC x.2.1 x.1.b
theorem FopQ.below {W W' : World} {B : Nat} {x : OpF × Option Addr × Nat} (h : FopQ W B x) (hb : Below B W W') : FopQ W' B x := ⟨h.name, h.other, h.target, h.len, h.cap, h.rd.below hb⟩
theorem FopQ.more {W : World} {B B' : Nat} {x : OpF × Option Addr × Nat} (h : FopQ W B x) (hb : B ≤ B') : FopQ W B' x := ⟨h.name, h.other, h.target, h.len, h.cap, h.rd.more hb⟩

set_option maxRecDepth 100000 in
set_option maxHeartbeats 2000000 in
theorem fop_dec (W : World) (H : Type) (enc : TypeId × Value → H) (n : Nat) (cs : List Value) (y : DataW H × List MemPlace) (h : DataW.trod enc Try.prog W 0 (fun _ => true) true n 59 cs = some y) (_ : (y.1.weights Try.prog 59).all (· ≤ reachBytes) = true) : ∃ x, cs = fopC x ∧ FopQ W W.heap.size x := by
  obtain ⟨m, hlen, hf⟩ := struct_dec [(3, 0), (55, 1), (55, 3), (9, 5), (9, 6), (57, 7), (4, 11), (3, 12), (3, 13), (3, 14), (27, 15)] (by kernel_rfl) (by kernel_rfl) h
  rw [show Try.prog.cellsOf 59 = 16 by kernel_rfl] at hlen
  obtain ⟨c0, c1, c2, c3, c4, c5, c6, c7, c8, c9, c10, c11, c12, c13, c14, c15, rfl⟩ := fopList16 hlen
  obtain ⟨z0, g0⟩ := hf 0 _ _ rfl
  obtain ⟨z1, g1⟩ := hf 1 _ _ rfl
  obtain ⟨z2, g2⟩ := hf 2 _ _ rfl
  obtain ⟨z3, g3⟩ := hf 3 _ _ rfl
  obtain ⟨z4, g4⟩ := hf 4 _ _ rfl
  obtain ⟨z5, g5⟩ := hf 5 _ _ rfl
  obtain ⟨z6, g6⟩ := hf 6 _ _ rfl
  obtain ⟨z7, g7⟩ := hf 7 _ _ rfl
  obtain ⟨z8, g8⟩ := hf 8 _ _ rfl
  obtain ⟨z9, g9⟩ := hf 9 _ _ rfl
  obtain ⟨z10, g10⟩ := hf 10 _ _ rfl
  clear hf h
  rw [show Try.prog.cellsOf 3 = 1 by kernel_rfl] at g0 g7 g8 g9
  rw [show Try.prog.cellsOf 55 = 2 by kernel_rfl] at g1 g2
  rw [show Try.prog.cellsOf 9 = 1 by kernel_rfl] at g3 g4
  rw [show Try.prog.cellsOf 57 = 4 by kernel_rfl] at g5
  rw [show Try.prog.cellsOf 4 = 1 by kernel_rfl] at g6
  rw [show Try.prog.cellsOf 27 = 1 by kernel_rfl] at g10
  obtain ⟨k, e0, _, _⟩ := DataW.trod_int Try.underlying3 g0
  obtain ⟨h1, h2, e1, _, _⟩ := hnd_dec g1
  obtain ⟨d1, d2, e2, _, _⟩ := hnd_dec g2
  obtain ⟨s, e3, _, hs⟩ := DataW.trod_string Try.underlying9 g3
  obtain ⟨s2, e4, _, hs2⟩ := DataW.trod_string Try.underlying9 g4
  obtain ⟨mk, mm, mt, ms, e5, hms⟩ := mk_dec g5
  obtain ⟨fo, e6, _⟩ := DataW.trod_bool Try.underlying4 g6
  obtain ⟨a, e7, _, _⟩ := DataW.trod_int Try.underlying3 g7
  obtain ⟨b, e8, _, _⟩ := DataW.trod_int Try.underlying3 g8
  obtain ⟨c, e9, _, _⟩ := DataW.trod_int Try.underlying3 g9
  obtain ⟨A, kk, l, e10, q1, q2, q3, _⟩ := slice_dec (sz := 1) byteC (fun _ _ => True) Try.underlying27 (by kernel_rfl) (by omega) byte_dec g10
  clear g0 g1 g2 g3 g4 g5 g6 g7 g8 g9 g10
  simp at e0 e1 e2 e3 e4 e5 e6 e7 e8 e9 e10
  obtain ⟨rfl, rfl⟩ := e1
  obtain ⟨rfl, rfl⟩ := e2
  obtain ⟨rfl, rfl, rfl, rfl⟩ := e5
  subst e0 e3 e4 e6 e7 e8 e9 e10
  exact ⟨(⟨k, (h1, h2), (d1, d2), s, s2, ⟨mk, mm, mt, ms⟩, fo, a, b, c, l⟩, A, kk), rfl, hs, hs2, hms, q1, q2, q3⟩
theorem opens_fops : Opens 50 (fun W v (x : Option Addr × Nat × List (OpF × Option Addr × Nat)) => v = .slice x.1 x.2.2.length x.2.1 ∧ x.2.2.length ≤ maxLen ∧ x.2.2.length ≤ x.2.1 ∧ x.2.1 * Try.prog.bytesOf 59 ≤ reachBytes ∧ Rd W W.heap.size 16 fopC x.1 x.2.2 ∧ ∀ y ∈ x.2.2, FopQ W W.heap.size y) :=
  opens_slice fopC (fun W x => FopQ W W.heap.size x) Try.underlying50 (by kernel_rfl) (by omega) fop_dec
set_option maxRecDepth 100000 in
theorem opens_hnd : Opens 55 (fun _ v (x : Int × Int) => v = .agg #[.int .i64 x.1, .int .i64 x.2]) := fun W H enc base v d p hv h _ => by
  have ht : Try.prog.underlying 55 = some (.struct (Try.prog.fieldsOf 55)) := by kernel_rfl
  obtain ⟨⟨cs⟩, rfl, _⟩ := okWide_struct ht hv
  obtain ⟨fuel, hf⟩ := h
  obtain ⟨a, b, e, _, _⟩ := hnd_dec hf
  simp [Value.cells] at e
  subst e
  exact ⟨(a, b), rfl⟩
end Go.Proofs.Ytpcjmefchclhhaa

/- The law's few. -/
namespace Go.Proofs.Ytpcjmefchclhhaa
open Go.RowKit Go.MapKept

def fewFO (o : OpF) : Bool := !decide (2000 < o.b.length ∨ (5000 < o.pos ∧ o.pos < 1048576) ∨ (5000 < o.n ∧ o.n ≤ 1048576))
def fewFB (l : List (OpF × Option Addr × Nat)) : Bool := decide (l.length ≤ 250) && l.all fun x => fewFO x.1
theorem fewFB_take {l : List (OpF × Option Addr × Nat)} {i : Nat} (hi : i < l.length) (h : (l.take i).all (fun x => fewFO x.1) = true) (hx : fewFO l[i].1 = true) : (l.take (i + 1)).all (fun x => fewFO x.1) = true := by
  rw [List.take_succ_eq_append_getElem hi, List.all_append, h]
  simpa using hx
theorem fewFB_no {l : List (OpF × Option Addr × Nat)} {i : Nat} (hi : i < l.length) (hx : fewFO l[i].1 = false) : l.all (fun x => fewFO x.1) = false := by
  rw [List.all_eq_false]
  exact ⟨l[i], List.getElem_mem hi, by rw [hx]; simp⟩
theorem fewFB_len {l : List (OpF × Option Addr × Nat)} (h : fewFB l = true) : l.length ≤ 250 := by
  unfold fewFB at h
  simp only [Bool.and_eq_true] at h
  exact of_decide_eq_true h.1

set_option maxRecDepth 100000 in
set_option maxHeartbeats 8000000 in
theorem few_any17 (l : List (OpF × Option Addr × Nat)) (A0 : Option Addr) (c0 : Nat) (W : World) (hm0 : l.length ≤ maxLen) (rd0 : Rd W W.heap.size 16 fopC A0 l) (hq : ∀ y ∈ l, y.1.b.length ≤ maxLen) :
    Calls Try.prog 30 #[.slice A0 l.length c0] W fun e W' => e = .returned (.bool (fewFB l)) ∧ Below W.heap.size W W' := by
  have HD0 := Lib.hid rd0
  have HQ := Lib.hid hq
  clear rd0 hq
  unfold maxLen at hm0
  generalize hn : l.length = n at *
  have HNl := Lib.hid hn
  clear hn
  by_cases h1 : n ≤ 250
  · have HE0 := Lib.hid (show fewFB l = l.all fun x => fewFO x.1 by unfold fewFB; rw [HNl.out, decide_eq_true h1]; rfl)
    go_enter Try.func30, Try.ntmps30
    go_wp2
    go_loopw [10] (fun vi wr => ∃ i : Nat, i ≤ n ∧ vi = .int .i64 (i : Int) ∧ (l.take i).all (fun x => fewFO x.1) = true ∧ Below W.heap.size W wr) (fun vi _ => n - (intOf vi).toNat)
    case atStart => exact ⟨0, Nat.zero_le _, rfl, rfl, Below.refl _ _⟩
    case round =>
      obtain ⟨i, hi, rfl, hall, hBr⟩ := hrel
      have HAll := Lib.hid hall
      have HBr := Lib.hid hBr
      clear hall hBr
      by_cases hin : i < n
      · have hil : i < l.length := by rw [HNl.out]; exact hin
        have hd := HD0.out.below HBr.out
        obtain ⟨ad, had, hadb⟩ := hd.addr hil
        subst had
        have d0 : wr.cell? (ad.add (i * 16)) = _ := hd.cell hil (j := 0) rfl
        have d1 : wr.cell? ⟨(ad.add (i * 16)).block, (ad.add (i * 16)).off + 1, none⟩ = _ := hd.cell hil (j := 1) rfl
        have d2 : wr.cell? ⟨(ad.add (i * 16)).block, (ad.add (i * 16)).off + 2, none⟩ = _ := hd.cell hil (j := 2) rfl
        have d3 : wr.cell? ⟨(ad.add (i * 16)).block, (ad.add (i * 16)).off + 3, none⟩ = _ := hd.cell hil (j := 3) rfl
        have d4 : wr.cell? ⟨(ad.add (i * 16)).block, (ad.add (i * 16)).off + 4, none⟩ = _ := hd.cell hil (j := 4) rfl
        have d5 : wr.cell? ⟨(ad.add (i * 16)).block, (ad.add (i * 16)).off + 5, none⟩ = _ := hd.cell hil (j := 5) rfl
        have d6 : wr.cell? ⟨(ad.add (i * 16)).block, (ad.add (i * 16)).off + 6, none⟩ = _ := hd.cell hil (j := 6) rfl
        have d7 : wr.cell? ⟨(ad.add (i * 16)).block, (ad.add (i * 16)).off + 7, none⟩ = _ := hd.cell hil (j := 7) rfl
        have d8 : wr.cell? ⟨(ad.add (i * 16)).block, (ad.add (i * 16)).off + 8, none⟩ = _ := hd.cell hil (j := 8) rfl
        have d9 : wr.cell? ⟨(ad.add (i * 16)).block, (ad.add (i * 16)).off + 9, none⟩ = _ := hd.cell hil (j := 9) rfl
        have d10 : wr.cell? ⟨(ad.add (i * 16)).block, (ad.add (i * 16)).off + 10, none⟩ = _ := hd.cell hil (j := 10) rfl
        have d11 : wr.cell? ⟨(ad.add (i * 16)).block, (ad.add (i * 16)).off + 11, none⟩ = _ := hd.cell hil (j := 11) rfl
        have d12 : wr.cell? ⟨(ad.add (i * 16)).block, (ad.add (i * 16)).off + 12, none⟩ = _ := hd.cell hil (j := 12) rfl
        have d13 : wr.cell? ⟨(ad.add (i * 16)).block, (ad.add (i * 16)).off + 13, none⟩ = _ := hd.cell hil (j := 13) rfl
        have d14 : wr.cell? ⟨(ad.add (i * 16)).block, (ad.add (i * 16)).off + 14, none⟩ = _ := hd.cell hil (j := 14) rfl
        have d15 : wr.cell? ⟨(ad.add (i * 16)).block, (ad.add (i * 16)).off + 15, none⟩ = _ := hd.cell hil (j := 15) rfl
        have q1 := HQ.out _ (List.getElem_mem hil)
        have HT := Lib.hid (fewFB_take hil HAll.out)
        have HF := Lib.hid (fewFB_no hil)
        generalize l[i] = x at *
        obtain ⟨⟨K, ⟨h1, h2⟩, ⟨g1, g2⟩, s1, s2, ⟨mk, mm, mt, ms⟩, fo, at_, nn, tm, bs⟩, A, c⟩ := x
        dsimp only at d0 d1 d2 d3 d4 d5 d6 d7 d8 d9 d10 d11 d12 d13 d14 d15 q1
        unfold maxLen at q1
        have HBa := Lib.hid (show Below W.heap.size W (wr.alloc (.cells #[.int .i64 K, .int .i64 h1, .int .i64 h2, .int .i64 g1, .int .i64 g2, .string s1, .string s2, .int .i64 mk, .int .i64 mm, .int .i64 mt, .string ms, .bool fo, .int .i64 at_, .int .i64 nn, .int .i64 tm, .slice A bs.length c] 59)) from HBr.out.alloc HBr.out.size _)
        clear hd hil
        go_wp2
        all_goals first
          | (have HX := Lib.hid (show fewFO ⟨K, (h1, h2), (g1, g2), s1, s2, ⟨mk, mm, mt, ms⟩, fo, at_, nn, tm, bs⟩ = true by unfold fewFO; rw [Bool.not_eq_true', decide_eq_false_iff_not]; dsimp only; omega)
             go_roundw
             case rel => exact ⟨i + 1, by omega, by go_num, HT.out HX.out, HBa.out⟩
             case measure => simp [intOf]; omega)
          | (have HX := Lib.hid (show fewFO ⟨K, (h1, h2), (g1, g2), s1, s2, ⟨mk, mm, mt, ms⟩, fo, at_, nn, tm, bs⟩ = false by unfold fewFO; rw [Bool.not_eq_false', decide_eq_true_eq]; dsimp only; omega)
             go_ret
             exact ⟨ret_bool (by rw [HE0.out, HF.out HX.out]), HBa.out⟩)
      · have HEn := Lib.hid (show fewFB l = true by rw [HE0.out]; have := HAll.out; rw [List.take_of_length_le (by rw [HNl.out]; omega)] at this; exact this)
        go_wp2
        go_ret
        exact ⟨ret_bool (by rw [HEn.out]), HBr.out⟩
  · have HE0 := Lib.hid (show fewFB l = false by unfold fewFB; rw [HNl.out, decide_eq_false h1]; rfl)
    go_enter Try.func30, Try.ntmps30
    go_wp2
    go_ret
    exact ⟨ret_bool (by rw [HE0.out]), Below.refl _ _⟩
end Go.Proofs.Ytpcjmefchclhhaa

/- A file system in memory that was made since a world. -/
namespace Go.Proofs.Ytpcjmefchclhhaa
open Go.RowKit Go.MapKept

structure FsAt (W w : World) (f mi mg : Nat) (r : RFs) (K : Nat) (N : List Nd) : Prop where
  fs : FsN w f mi mg r N
  wf : Wf r K
  new : ∀ k ∈ fpL f mi mg N, W.heap.size ≤ k
  blw : Below W.heap.size W w
/-- Behind a call: it is r' now; its blocks are the old ones or new; no other block has turned. -/
structure Goes (W w w' : World) (f mi mg : Nat) (N : List Nd) (r' : RFs) (K' : Nat) (N' : List Nd) : Prop where
  at_ : FsAt W w' f mi mg r' K' N'
  old : ∀ k ∈ fpL f mi mg N', k ∈ fpL f mi mg N ∨ w.heap.size ≤ k
  frm : Frm (fpL f mi mg N) w w'
section
variable {W w w1 w' : World} {f mi mg K K' : Nat} {r r' : RFs} {N : List Nd}
theorem FsAt.below (h : FsAt W w f mi mg r K N) (hb : Below w.heap.size w w') : FsAt W w' f mi mg r K N :=
  ⟨h.fs.below h.wf hb, h.wf, h.new, h.blw.trans (hb.mono h.blw.size)⟩
theorem FsAt.fpl (h : FsAt W w f mi mg r K N) : ∀ k ∈ fpL f mi mg N, k < w.heap.size := by
  obtain ⟨l1, l2, l3, l4⟩ := h.fs.lt h.wf
  intro k hk
  unfold fpL at hk
  simp only [List.mem_cons, List.mem_flatMap] at hk
  rcases hk with rfl | rfl | rfl | ⟨n, hn, hk⟩
  · exact l1
  · exact l2
  · exact l3
  · exact l4 n hn k hk
theorem FsAt.step (h : FsAt W w f mi mg r K N) (hb : Below w.heap.size w w1) (hs : StepR w1 w' f mi mg N r') (hW : Wf r' K') : ∃ N', Goes W w w' f mi mg N r' K' N' := by
  obtain ⟨N', h1, h2, h3⟩ := hs
  have hsz := hb.size
  have hf : Frm (fpL f mi mg N) w w' := (Frm.of_below hb).trans h3
  refine ⟨N', ⟨h1, hW, fun k hk => ?_, Frm.below hf h.blw h.blw.size h.new⟩, fun k hk => ?_, hf⟩
  · rcases h2 k hk with h4 | h4
    · exact h.new k h4
    · have := h.blw.size; omega
  · rcases h2 k hk with h4 | h4
    · exact .inl h4
    · exact .inr (Nat.le_trans hsz h4)
end
theorem fsAt_new (W w : World) (hb : Below W.heap.size W w) (room : Int) (hr : room ≤ 9223372036854775807) :
    Calls Try.prog 29 #[.int .i64 room] w fun e w' => ∃ f mi mg N, e = .returned (.pointer (some ⟨f, 0, none⟩)) ∧ FsAt W w' f mi mg (newP room) 0 N ∧ (∀ k ∈ fpL f mi mg N, w.heap.size ≤ k) ∧ Below w.heap.size w w' :=
  (fnew_any room w).mono fun e w' ⟨f, mi, mg, N, he, hf, h1, h2, h3, h4, hB⟩ => by
    have hs := hb.size
    have hnew : ∀ k ∈ fpL f mi mg N, w.heap.size ≤ k := fun k hk => by
      unfold fpL at hk
      simp only [List.mem_cons, List.mem_flatMap] at hk
      rcases hk with rfl | rfl | rfl | ⟨n, hn, hk⟩
      · exact h1
      · exact h2
      · exact h3
      · exact h4 n hn k hk
    exact ⟨f, mi, mg, N, he, ⟨hf, wf_new hr, fun k hk => Nat.le_trans hs (hnew k hk), hb.trans (hB.mono hs)⟩, hnew, hB⟩
end Go.Proofs.Ytpcjmefchclhhaa

/- The law's own: a handle of the program's; the end of a function whose one result lies in a block. -/
namespace Go.Proofs.Ytpcjmefchclhhaa
open Go.RowKit

/-- The end of a function whose one result lies in a block. -/
theorem end_cell {P : Program} {fn : Func} {R : Ending → World → Prop} {a : Act} {w : World} {p : Tmp} {ty : TypeId} (hr : fn.results = #[.cell p ty]) {g : Nat} {cs : Array Value} {t : TypeId} {fr : Nat × Nat} {d : TypeDesc}
    (hp : a.tmps.getD p undef = .pointer (some ⟨g, 0, none⟩)) (hg : w.heap[g]? = some (.cells cs t fr)) (hu : P.underlying ty = some d) (ha : (match d with | .struct _ | .array _ _ => true | _ => false) = true) {n : Nat} (hs : (P.info? ty).map (·.size) = some n) (hn : cs.size = n)
    (hd : a.defers = []) (hR : R (.returned (.agg cs)) w) : bodyPost P fn R .ret a w := by
  refine bodyPost_ret (v := .agg cs) ?_ hd hR
  exact results_cell_row hr a.tmps w g t cs fr d hp hg hu ha (by rw [hn]; exact hs)
theorem fhT : Try.prog.underlying 68 = some (.struct (Try.prog.fieldsOf 68)) := by kernel_rfl
theorem fhI : (Try.prog.info? 68).map (·.size) = some 2 := by kernel_rfl
set_option maxRecDepth 100000 in
set_option maxHeartbeats 1000000 in
theorem own_any (w : World) (i g : Int) : Calls Try.prog 34 #[.agg #[.int .i64 i, .int .i64 g]] w fun e w' => e = .returned (.agg #[.int .i64 i, .int .i64 g]) ∧ Below w.heap.size w w' := by
  have hB : Below w.heap.size w ((w.alloc (.cells #[.int .i64 i, .int .i64 g] 55)).alloc (.cells #[.int .i64 i, .int .i64 g] 68)) := ((Below.refl _ _).alloc (Nat.le_refl _) _).alloc (by simp) _
  have h1 : ((w.alloc (.cells #[.int .i64 i, .int .i64 g] 55)).alloc (.cells #[.int .i64 i, .int .i64 g] 68)).heap[w.heap.size + 1]? = some (.cells #[.int .i64 i, .int .i64 g] 68 (0, 0)) := by have := heap_alloc_new (w.alloc (.cells #[.int .i64 i, .int .i64 g] 55)) (.cells #[.int .i64 i, .int .i64 g] 68); simpa using this
  have HB := Lib.hid hB
  have H1 := Lib.hid h1
  clear hB h1
  go_enter Try.func34, Try.ntmps34
  go_wp2
  exact end_cell (p := 2) (by kernel_rfl) rfl H1.out fhT rfl fhI rfl rfl ⟨rfl, HB.out⟩
theorem eq_hnd (w : World) (a b c d : Int) : (binOp .eql 68 (.agg #[.int .i64 a, .int .i64 b]) (.agg #[.int .i64 c, .int .i64 d])).run Try.prog w = .ok (.bool (decide (a = c ∧ b = d))) w := by
  have ht : Try.prog.underlying 68 = some (.struct (Try.prog.fieldsOf 68)) := by kernel_rfl
  have hL : (Try.prog.fieldsOf 68).toList.map (fun f => (f.name, f.type, f.offset)) = [("Id", 3, 0), ("Gen", 3, 1)] := by kernel_rfl
  rw [run_eql_fields w ht (by kernel_rfl) hL]
  have hp : Try.prog.plainKey 3 = true := by kernel_rfl
  have p0 := fun (w : World) (x y : Int) => run_part_plain (P := Try.prog) (w := w) hp (xs := #[.int .i64 x, .int .i64 y]) (off := 0) (v := .int .i64 x) rfl
  have p1 := fun (w : World) (x y : Int) => run_part_plain (P := Try.prog) (w := w) hp (xs := #[.int .i64 x, .int .i64 y]) (off := 1) (v := .int .i64 y) rfl
  have q := fun (w : World) (x y : Int) => run_equalIn_int (P := Try.prog) w 9998 3 .i64 .i64 x y Try.underlying3
  have hE : (eqF 9999 #[.int .i64 a, .int .i64 b] #[.int .i64 c, .int .i64 d] [("Id", 3, 0), ("Gen", 3, 1)]).run Try.prog w = .ok (decide (a = c ∧ b = d)) w := by
    simp only [eqF, ne_eq]
    by_cases h1 : a = c <;> by_cases h2 : b = d <;> simp [h1, h2, Sem.run_bind, p0, p1, q, Result.andThen]
  rw [hE]
  rfl
end Go.Proofs.Ytpcjmefchclhhaa

/- A call of a script on the program's file system: Link, Remove, Rename, Write, Cut, and none. -/
namespace Go.Proofs.Ytpcjmefchclhhaa
open Go.RowKit Go.MapKept

theorem fpl_lt {w : World} {f mi mg K : Nat} {r : RFs} {N : List Nd} (h : FsN w f mi mg r N) (hW : Wf r K) : ∀ k ∈ fpL f mi mg N, k < w.heap.size := by
  obtain ⟨l1, l2, l3, l4⟩ := h.lt hW
  intro k hk
  unfold fpL at hk
  simp only [List.mem_cons, List.mem_flatMap] at hk
  rcases hk with rfl | rfl | rfl | ⟨n, hn, hk⟩
  · exact l1
  · exact l2
  · exact l3
  · exact l4 n hn k hk
theorem stepR_from {w w1 w' : World} {f mi mg : Nat} {N : List Nd} {r : RFs} (hb : Below w.heap.size w w1) (h : StepR w1 w' f mi mg N r) : StepR w w' f mi mg N r := by
  obtain ⟨N', h1, h2, h3⟩ := h
  refine ⟨N', h1, fun k hk => ?_, (Frm.of_below hb).trans h3⟩
  rcases h2 k hk with h4 | h4
  · exact .inl h4
  · exact .inr (Nat.le_trans hb.size h4)
theorem stepR_on {w w1 w' : World} {f mi mg K : Nat} {N : List Nd} {r : RFs} (h : StepR w w1 f mi mg N r) (hW : Wf r K) (hb : Below w1.heap.size w1 w') : StepR w w' f mi mg N r := by
  obtain ⟨N', h1, h2, h3⟩ := h
  exact ⟨N', h1.below hW hb, h2, h3.trans (Frm.of_below hb)⟩
theorem StepR.frm {w w' : World} {f mi mg : Nat} {N : List Nd} {r : RFs} (h : StepR w w' f mi mg N r) : Frm (fpL f mi mg N) w w' := h.choose_spec.2.2
/-- Blocks that were made on the way may be turned. -/
theorem stepR_out {w w3 w5 w7 : World} {f mi mg K : Nat} {N : List Nd} {r : RFs} {S : List Nat} (hb : Below w.heap.size w w3) (h : StepR w3 w5 f mi mg N r) (hW : Wf r K) (hlt : ∀ k ∈ fpL f mi mg N, k < w.heap.size) (hF : Frm S w5 w7) (hS : ∀ k ∈ S, w.heap.size ≤ k ∧ k < w3.heap.size) : StepR w w7 f mi mg N r := by
  obtain ⟨N', h1, h2, h3⟩ := h
  have hl := fpl_lt h1 hW
  have hk : ∀ k ∈ fpL f mi mg N', w7.heap[k]? = w5.heap[k]? := fun k hk => hF.block k (hl k hk) (fun hm => by
    have := hS k hm
    rcases h2 k hk with h4 | h4
    · have := hlt k h4; omega
    · omega)
  have hsz := hb.size
  refine ⟨N', h1.keep (hk _ (by simp [fpL])) (hk _ (by simp [fpL])) (hk _ (by simp [fpL])) (fun n hn k hkn => hk k (fp_node hn hkn)), fun k hk => ?_, ?_⟩
  · rcases h2 k hk with h4 | h4
    · exact .inl h4
    · exact .inr (Nat.le_trans hsz h4)
  · refine ⟨hF.os.trans (h3.os.trans hb.os), hF.tape.trans (h3.tape.trans hb.tape), hF.output.trans (h3.output.trans hb.output), Nat.le_trans hsz (Nat.le_trans h3.size hF.size), fun k hk hn => ?_⟩
    exact (hF.block k (Nat.lt_of_lt_of_le hk (Nat.le_trans hsz h3.size)) (fun hm => by have := hS k hm; omega)).trans ((h3.block k (Nat.lt_of_lt_of_le hk hsz) hn).trans (hb.block k hk))
theorem frm_grown {w w' : World} {g : Nat} {S : List Nat} (h : w.grownBy w' (some g)) (hS : g ∈ S) : Frm S w w' := ⟨h.os, h.tape, h.output, h.size, fun k hk hn => h.block k hk (fun e => by injection e with e; exact hn (e ▸ hS))⟩
theorem ans_one (a b : Int) (s : ByteArray) (e : Int) : ∀ u ∈ (#[Value.int .i64 a, Value.int .i64 b, Value.string s, Value.int .i64 e] : Array Value).toList, u.oneCell' = true := fun u hu => by simp at hu; rcases hu with rfl | rfl | rfl | rfl <;> rfl
theorem ansT : Try.prog.underlying 62 = some (.struct (Try.prog.fieldsOf 62)) := by kernel_rfl
theorem ansI : (Try.prog.info? 62).map (·.size) = some 4 := by kernel_rfl

set_option maxRecDepth 100000 in
set_option maxHeartbeats 8000000 in
theorem does_1 {w : World} {f mi mg K : Nat} {r : RFs} {N : List Nd} (h : FsN w f mi mg r N) (hW : Wf r K) (h1 h2 g1 g2 : Int) (s1 s2 : ByteArray) (mk mm mt : Int) (ms : ByteArray) (fo : Bool) (at_ nn tm : Int) (bs : List UInt8) (A : Option Addr) (c : Nat) (hq : FopQ w w.heap.size (⟨1, (h1, h2), (g1, g2), s1, s2, ⟨mk, mm, mt, ms⟩, fo, at_, nn, tm, bs⟩, A, c)) :
    Calls Try.prog 32 #[.pointer (some ⟨f, 0, none⟩), .agg #[.int .i64 1, .int .i64 h1, .int .i64 h2, .int .i64 g1, .int .i64 g2, .string s1, .string s2, .int .i64 mk, .int .i64 mm, .int .i64 mt, .string ms, .bool fo, .int .i64 at_, .int .i64 nn, .int .i64 tm, .slice A bs.length c]] w fun e w' => e = .returned (.agg #[.int .i64 0, .int .i64 0, .string ⟨#[]⟩, .int .i64 (linkP r (h1, h2) (g1, g2) s1).2]) ∧ StepR w w' f mi mg N (linkP r (h1, h2) (g1, g2) s1).1 := by
  obtain ⟨w3, hw3, hB, hs3, hb0, hb1, hb2⟩ := box3 w #[.int .i64 1, .int .i64 h1, .int .i64 h2, .int .i64 g1, .int .i64 g2, .string s1, .string s2, .int .i64 mk, .int .i64 mm, .int .i64 mt, .string ms, .bool fo, .int .i64 at_, .int .i64 nn, .int .i64 tm, .slice A bs.length c] #[.int .i64 0, .int .i64 0, .string ⟨#[]⟩, .int .i64 0] #[.int .i64 0, .int .i64 0, .string ⟨#[]⟩, .int .i64 0] 59 62 62
  have hlt := fpl_lt h hW
  have HK := Lib.hid (show ∀ w', Frm ((w.heap.size + 2) :: fpL f mi mg N) w3 w' → (fun w' => w'.cell? ⟨w.heap.size, 1, none⟩ = some (.int .i64 h1) ∧ w'.cell? ⟨w.heap.size, 2, none⟩ = some (.int .i64 h2) ∧ w'.cell? ⟨w.heap.size, 3, none⟩ = some (.int .i64 g1) ∧ w'.cell? ⟨w.heap.size, 4, none⟩ = some (.int .i64 g2) ∧ w'.cell? ⟨w.heap.size, 5, none⟩ = some (.string s1)) w' from fun w' hf => by
    have e0 := (hf.block w.heap.size (by omega) (fun hm => (List.mem_cons.1 hm).elim (fun e => by omega) (fun e => by have := hlt _ e; omega))).trans hb0
    exact ⟨cell_at e0 1, cell_at e0 2, cell_at e0 3, cell_at e0 4, cell_at e0 5⟩)
  have HA := Lib.hid (show ∀ w', Frm (fpL f mi mg N) w3 w' → w'.heap[w.heap.size + 1]? = some (.cells #[.int .i64 0, .int .i64 0, .string ⟨#[]⟩, .int .i64 0] 62 (0, 0)) ∧ w'.heap[w.heap.size + 2]? = some (.cells #[.int .i64 0, .int .i64 0, .string ⟨#[]⟩, .int .i64 0] 62 (0, 0)) from fun w' hf =>
    ⟨(hf.block (w.heap.size + 1) (by omega) (fun hm => by have := hlt _ hm; omega)).trans hb1, (hf.block (w.heap.size + 2) (by omega) (fun hm => by have := hlt _ hm; omega)).trans hb2⟩)
  have HM := Lib.hid (show ∀ w4, Below w3.heap.size w3 w4 → Calls Try.prog 40 #[.pointer (some ⟨f, 0, none⟩), .agg #[.int .i64 h1, .int .i64 h2], .agg #[.int .i64 g1, .int .i64 g2], .string s1] w4 (fun e w' => e = .returned (.int .i64 (linkP r (h1, h2) (g1, g2) s1).2) ∧ StepR w3 w' f mi mg N (linkP r (h1, h2) (g1, g2) s1).1 ∧ Frm (fpL f mi mg N) w3 w') from fun w4 hb =>
    (link_any (h.below hW (hB.trans (hb.mono (by omega)))) hW h1 h2 g1 g2 s1 hq.name).mono fun e w' ⟨he, hs⟩ => ⟨he, stepR_from hb hs, (Frm.of_below hb).trans hs.frm⟩)
  have HWf := Lib.hid (show ∃ K', Wf (linkP r (h1, h2) (g1, g2) s1).1 K' from ⟨_, wf_link hW (h1, h2) (g1, g2) s1⟩)
  have HO := Lib.hid (show ∀ (x y : Int) w4, Below w3.heap.size w3 w4 → Calls Try.prog 34 #[.agg #[.int .i64 x, .int .i64 y]] w4 (fun e w' => e = .returned (.agg #[.int .i64 x, .int .i64 y]) ∧ Below w3.heap.size w3 w') from fun x y w4 hb =>
    (own_any w4 x y).mono fun e w' ⟨he, hs⟩ => ⟨he, hb.trans (hs.mono hb.size)⟩)
  generalize (linkP r (h1, h2) (g1, g2) s1).2 = E at *
  generalize (linkP r (h1, h2) (g1, g2) s1).1 = R at *
  have hlt2 := Lib.hid hlt
  have HW3 := Lib.hid hw3
  have HB := Lib.hid hB
  have hbz := Below.refl w3.heap.size w3
  have hbz2 := hbz.drew
  obtain ⟨y1, y2, y3, y4, y5⟩ := HK.out w3 (Frm.refl _ _)
  clear hw3 hB hb0 hb1 hb2 h hW hq hlt
  go_enter Try.func32, Try.ntmps32
  go_wp2_with fail
  rw [HW3.out]
  go_region_held3 (fun w' => w'.cell? ⟨w.heap.size, 1, none⟩ = some (.int .i64 h1) ∧ w'.cell? ⟨w.heap.size, 2, none⟩ = some (.int .i64 h2) ∧ w'.cell? ⟨w.heap.size, 3, none⟩ = some (.int .i64 g1) ∧ w'.cell? ⟨w.heap.size, 4, none⟩ = some (.int .i64 g2) ∧ w'.cell? ⟨w.heap.size, 5, none⟩ = some (.string s1))
    (first | exact HK.out _ hF7 | exact HK.out _ (hF6 _) | exact HK.out _ (Frm.of_below (by assumption)) | go_keep)
    (first
      | (go_at_call 34; (with_reducible refine (HO.out _ _ _ (by assumption)).mono ?_); rintro e w4 ⟨rfl, hb4⟩)
      | (go_at_call 40; (with_reducible refine (HM.out _ (by assumption)).mono ?_); rintro e w5 ⟨rfl, hS5, hF5⟩; have hF7 : Frm ((w.heap.size + 2) :: fpL f mi mg N) w3 w5 := hF5.mono (fun _ hk => List.mem_cons_of_mem _ hk); have hF6 : ∀ u, Frm ((w.heap.size + 2) :: fpL f mi mg N) w3 (w5.setCell ⟨w.heap.size + 1 + 1, 3, none⟩ u) := (fun u => hF7.setCell (.inl (by simp)) u); have x3 : w5.cell? ⟨w.heap.size + 2, 3, none⟩ = _ := cell_at (HA.out _ hF5).2 3; have f3 : w5.frozen? ⟨w.heap.size + 2, 3, none⟩ = false := (by simp [World.frozen?, (HA.out _ hF5).2])))
  obtain ⟨w6, hw6⟩ : ∃ w6, w5.setCell ⟨w.heap.size + 2, 3, none⟩ (.int .i64 E) = w6 := ⟨_, rfl⟩
  rw [hw6]
  have HX6 := Lib.hid (show w6.heap[w.heap.size + 2]? = some (.cells #[.int .i64 0, .int .i64 0, .string ⟨#[]⟩, .int .i64 E] 62 (0, 0)) from by rw [← hw6]; exact heap_setCell_same _ _ 3 _ _ _ (HA.out _ hF5).2)
  have HY6 := Lib.hid (show w6.heap[w.heap.size + 1]? = some (.cells #[.int .i64 0, .int .i64 0, .string ⟨#[]⟩, .int .i64 0] 62 (0, 0)) from by rw [← hw6, setCell_far _ _ _ _ _ (show w.heap.size + 1 ≠ w.heap.size + 2 by omega)]; exact (HA.out _ hF5).1)
  have HF6 := Lib.hid (show Frm [w.heap.size + 1, w.heap.size + 2] w5 w6 from by rw [← hw6]; exact (Frm.refl _ _).setCell (.inl (by simp)) _)
  have HS5 := Lib.hid hS5
  have d0 : w6.cell? ⟨w.heap.size + 2, 0, none⟩ = _ := cell_at HX6.out 0
  have d1 : w6.cell? ⟨w.heap.size + 2, 1, none⟩ = _ := cell_at HX6.out 1
  have d2 : w6.cell? ⟨w.heap.size + 2, 2, none⟩ = _ := cell_at HX6.out 2
  have d3 : w6.cell? ⟨w.heap.size + 2, 3, none⟩ = _ := cell_at HX6.out 3
  have HOne := Lib.hid (ans_one 0 0 ⟨#[]⟩ E)
  clear hw6 x3 f3 hF5 hF6 hF7 hS5
  go_wp2_with (refine wpList_store_row rfl 62 (.tmp 4) (.tmp 133) rfl w6 (w.heap.size + 1) _ _ _ rfl rfl HY6.out rfl ansI HOne.out ?_; intro w7 hX7 hG7)
  obtain ⟨K', hWf⟩ := HWf.out
  exact end_cell (p := 4) (by kernel_rfl) rfl hX7 ansT rfl ansI rfl rfl ⟨rfl, stepR_out HB.out HS5.out hWf hlt2.out (HF6.out.trans (frm_grown hG7 (by simp))) (by simp; omega)⟩

set_option maxRecDepth 100000 in
set_option maxHeartbeats 8000000 in
theorem does_2 {w : World} {f mi mg K : Nat} {r : RFs} {N : List Nd} (h : FsN w f mi mg r N) (hW : Wf r K) (h1 h2 g1 g2 : Int) (s1 s2 : ByteArray) (mk mm mt : Int) (ms : ByteArray) (fo : Bool) (at_ nn tm : Int) (bs : List UInt8) (A : Option Addr) (c : Nat) (hq : FopQ w w.heap.size (⟨2, (h1, h2), (g1, g2), s1, s2, ⟨mk, mm, mt, ms⟩, fo, at_, nn, tm, bs⟩, A, c)) :
    Calls Try.prog 32 #[.pointer (some ⟨f, 0, none⟩), .agg #[.int .i64 2, .int .i64 h1, .int .i64 h2, .int .i64 g1, .int .i64 g2, .string s1, .string s2, .int .i64 mk, .int .i64 mm, .int .i64 mt, .string ms, .bool fo, .int .i64 at_, .int .i64 nn, .int .i64 tm, .slice A bs.length c]] w fun e w' => e = .returned (.agg #[.int .i64 0, .int .i64 0, .string ⟨#[]⟩, .int .i64 (removeP r (h1, h2) s1 fo).2]) ∧ StepR w w' f mi mg N (removeP r (h1, h2) s1 fo).1 := by
  obtain ⟨w3, hw3, hB, hs3, hb0, hb1, hb2⟩ := box3 w #[.int .i64 2, .int .i64 h1, .int .i64 h2, .int .i64 g1, .int .i64 g2, .string s1, .string s2, .int .i64 mk, .int .i64 mm, .int .i64 mt, .string ms, .bool fo, .int .i64 at_, .int .i64 nn, .int .i64 tm, .slice A bs.length c] #[.int .i64 0, .int .i64 0, .string ⟨#[]⟩, .int .i64 0] #[.int .i64 0, .int .i64 0, .string ⟨#[]⟩, .int .i64 0] 59 62 62
  have hlt := fpl_lt h hW
  have HK := Lib.hid (show ∀ w', Frm ((w.heap.size + 2) :: fpL f mi mg N) w3 w' → (fun w' => w'.cell? ⟨w.heap.size, 1, none⟩ = some (.int .i64 h1) ∧ w'.cell? ⟨w.heap.size, 2, none⟩ = some (.int .i64 h2) ∧ w'.cell? ⟨w.heap.size, 5, none⟩ = some (.string s1) ∧ w'.cell? ⟨w.heap.size, 11, none⟩ = some (.bool fo)) w' from fun w' hf => by
    have e0 := (hf.block w.heap.size (by omega) (fun hm => (List.mem_cons.1 hm).elim (fun e => by omega) (fun e => by have := hlt _ e; omega))).trans hb0
    exact ⟨cell_at e0 1, cell_at e0 2, cell_at e0 5, cell_at e0 11⟩)
  have HA := Lib.hid (show ∀ w', Frm (fpL f mi mg N) w3 w' → w'.heap[w.heap.size + 1]? = some (.cells #[.int .i64 0, .int .i64 0, .string ⟨#[]⟩, .int .i64 0] 62 (0, 0)) ∧ w'.heap[w.heap.size + 2]? = some (.cells #[.int .i64 0, .int .i64 0, .string ⟨#[]⟩, .int .i64 0] 62 (0, 0)) from fun w' hf =>
    ⟨(hf.block (w.heap.size + 1) (by omega) (fun hm => by have := hlt _ hm; omega)).trans hb1, (hf.block (w.heap.size + 2) (by omega) (fun hm => by have := hlt _ hm; omega)).trans hb2⟩)
  have HM := Lib.hid (show ∀ w4, Below w3.heap.size w3 w4 → Calls Try.prog 41 #[.pointer (some ⟨f, 0, none⟩), .agg #[.int .i64 h1, .int .i64 h2], .string s1, .bool fo] w4 (fun e w' => e = .returned (.int .i64 (removeP r (h1, h2) s1 fo).2) ∧ StepR w3 w' f mi mg N (removeP r (h1, h2) s1 fo).1 ∧ Frm (fpL f mi mg N) w3 w') from fun w4 hb =>
    (remove_any (h.below hW (hB.trans (hb.mono (by omega)))) hW h1 h2 s1 hq.name fo).mono fun e w' ⟨he, hs⟩ => ⟨he, stepR_from hb hs, (Frm.of_below hb).trans hs.frm⟩)
  have HWf := Lib.hid (show ∃ K', Wf (removeP r (h1, h2) s1 fo).1 K' from ⟨_, wf_remove hW (h1, h2) s1 fo⟩)
  have HO := Lib.hid (show ∀ (x y : Int) w4, Below w3.heap.size w3 w4 → Calls Try.prog 34 #[.agg #[.int .i64 x, .int .i64 y]] w4 (fun e w' => e = .returned (.agg #[.int .i64 x, .int .i64 y]) ∧ Below w3.heap.size w3 w') from fun x y w4 hb =>
    (own_any w4 x y).mono fun e w' ⟨he, hs⟩ => ⟨he, hb.trans (hs.mono hb.size)⟩)
  generalize (removeP r (h1, h2) s1 fo).2 = E at *
  generalize (removeP r (h1, h2) s1 fo).1 = R at *
  have hlt2 := Lib.hid hlt
  have HW3 := Lib.hid hw3
  have HB := Lib.hid hB
  have hbz := Below.refl w3.heap.size w3
  have hbz2 := hbz.drew
  obtain ⟨y1, y2, y5, y11⟩ := HK.out w3 (Frm.refl _ _)
  clear hw3 hB hb0 hb1 hb2 h hW hq hlt
  go_enter Try.func32, Try.ntmps32
  go_wp2_with fail
  rw [HW3.out]
  go_region_held3 (fun w' => w'.cell? ⟨w.heap.size, 1, none⟩ = some (.int .i64 h1) ∧ w'.cell? ⟨w.heap.size, 2, none⟩ = some (.int .i64 h2) ∧ w'.cell? ⟨w.heap.size, 5, none⟩ = some (.string s1) ∧ w'.cell? ⟨w.heap.size, 11, none⟩ = some (.bool fo))
    (first | exact HK.out _ hF7 | exact HK.out _ (hF6 _) | exact HK.out _ (Frm.of_below (by assumption)) | go_keep)
    (first
      | (go_at_call 34; (with_reducible refine (HO.out _ _ _ (by assumption)).mono ?_); rintro e w4 ⟨rfl, hb4⟩)
      | (go_at_call 41; (with_reducible refine (HM.out _ (by assumption)).mono ?_); rintro e w5 ⟨rfl, hS5, hF5⟩; have hF7 : Frm ((w.heap.size + 2) :: fpL f mi mg N) w3 w5 := hF5.mono (fun _ hk => List.mem_cons_of_mem _ hk); have hF6 : ∀ u, Frm ((w.heap.size + 2) :: fpL f mi mg N) w3 (w5.setCell ⟨w.heap.size + 1 + 1, 3, none⟩ u) := (fun u => hF7.setCell (.inl (by simp)) u); have x3 : w5.cell? ⟨w.heap.size + 2, 3, none⟩ = _ := cell_at (HA.out _ hF5).2 3; have f3 : w5.frozen? ⟨w.heap.size + 2, 3, none⟩ = false := (by simp [World.frozen?, (HA.out _ hF5).2])))
  obtain ⟨w6, hw6⟩ : ∃ w6, w5.setCell ⟨w.heap.size + 2, 3, none⟩ (.int .i64 E) = w6 := ⟨_, rfl⟩
  rw [hw6]
  have HX6 := Lib.hid (show w6.heap[w.heap.size + 2]? = some (.cells #[.int .i64 0, .int .i64 0, .string ⟨#[]⟩, .int .i64 E] 62 (0, 0)) from by rw [← hw6]; exact heap_setCell_same _ _ 3 _ _ _ (HA.out _ hF5).2)
  have HY6 := Lib.hid (show w6.heap[w.heap.size + 1]? = some (.cells #[.int .i64 0, .int .i64 0, .string ⟨#[]⟩, .int .i64 0] 62 (0, 0)) from by rw [← hw6, setCell_far _ _ _ _ _ (show w.heap.size + 1 ≠ w.heap.size + 2 by omega)]; exact (HA.out _ hF5).1)
  have HF6 := Lib.hid (show Frm [w.heap.size + 1, w.heap.size + 2] w5 w6 from by rw [← hw6]; exact (Frm.refl _ _).setCell (.inl (by simp)) _)
  have HS5 := Lib.hid hS5
  have d0 : w6.cell? ⟨w.heap.size + 2, 0, none⟩ = _ := cell_at HX6.out 0
  have d1 : w6.cell? ⟨w.heap.size + 2, 1, none⟩ = _ := cell_at HX6.out 1
  have d2 : w6.cell? ⟨w.heap.size + 2, 2, none⟩ = _ := cell_at HX6.out 2
  have d3 : w6.cell? ⟨w.heap.size + 2, 3, none⟩ = _ := cell_at HX6.out 3
  have HOne := Lib.hid (ans_one 0 0 ⟨#[]⟩ E)
  clear hw6 x3 f3 hF5 hF6 hF7 hS5
  go_wp2_with (refine wpList_store_row rfl 62 (.tmp 4) (.tmp 133) rfl w6 (w.heap.size + 1) _ _ _ rfl rfl HY6.out rfl ansI HOne.out ?_; intro w7 hX7 hG7)
  obtain ⟨K', hWf⟩ := HWf.out
  exact end_cell (p := 4) (by kernel_rfl) rfl hX7 ansT rfl ansI rfl rfl ⟨rfl, stepR_out HB.out HS5.out hWf hlt2.out (HF6.out.trans (frm_grown hG7 (by simp))) (by simp; omega)⟩

set_option maxRecDepth 100000 in
set_option maxHeartbeats 8000000 in
theorem does_3 {w : World} {f mi mg K : Nat} {r : RFs} {N : List Nd} (h : FsN w f mi mg r N) (hW : Wf r K) (h1 h2 g1 g2 : Int) (s1 s2 : ByteArray) (mk mm mt : Int) (ms : ByteArray) (fo : Bool) (at_ nn tm : Int) (bs : List UInt8) (A : Option Addr) (c : Nat) (hq : FopQ w w.heap.size (⟨3, (h1, h2), (g1, g2), s1, s2, ⟨mk, mm, mt, ms⟩, fo, at_, nn, tm, bs⟩, A, c)) :
    Calls Try.prog 32 #[.pointer (some ⟨f, 0, none⟩), .agg #[.int .i64 3, .int .i64 h1, .int .i64 h2, .int .i64 g1, .int .i64 g2, .string s1, .string s2, .int .i64 mk, .int .i64 mm, .int .i64 mt, .string ms, .bool fo, .int .i64 at_, .int .i64 nn, .int .i64 tm, .slice A bs.length c]] w fun e w' => e = .returned (.agg #[.int .i64 0, .int .i64 0, .string ⟨#[]⟩, .int .i64 (renameP r (h1, h2) s1 (g1, g2) s2).2]) ∧ StepR w w' f mi mg N (renameP r (h1, h2) s1 (g1, g2) s2).1 := by
  obtain ⟨w3, hw3, hB, hs3, hb0, hb1, hb2⟩ := box3 w #[.int .i64 3, .int .i64 h1, .int .i64 h2, .int .i64 g1, .int .i64 g2, .string s1, .string s2, .int .i64 mk, .int .i64 mm, .int .i64 mt, .string ms, .bool fo, .int .i64 at_, .int .i64 nn, .int .i64 tm, .slice A bs.length c] #[.int .i64 0, .int .i64 0, .string ⟨#[]⟩, .int .i64 0] #[.int .i64 0, .int .i64 0, .string ⟨#[]⟩, .int .i64 0] 59 62 62
  have hlt := fpl_lt h hW
  have HK := Lib.hid (show ∀ w', Frm ((w.heap.size + 2) :: fpL f mi mg N) w3 w' → (fun w' => w'.cell? ⟨w.heap.size, 1, none⟩ = some (.int .i64 h1) ∧ w'.cell? ⟨w.heap.size, 2, none⟩ = some (.int .i64 h2) ∧ w'.cell? ⟨w.heap.size, 3, none⟩ = some (.int .i64 g1) ∧ w'.cell? ⟨w.heap.size, 4, none⟩ = some (.int .i64 g2) ∧ w'.cell? ⟨w.heap.size, 5, none⟩ = some (.string s1) ∧ w'.cell? ⟨w.heap.size, 6, none⟩ = some (.string s2)) w' from fun w' hf => by
    have e0 := (hf.block w.heap.size (by omega) (fun hm => (List.mem_cons.1 hm).elim (fun e => by omega) (fun e => by have := hlt _ e; omega))).trans hb0
    exact ⟨cell_at e0 1, cell_at e0 2, cell_at e0 3, cell_at e0 4, cell_at e0 5, cell_at e0 6⟩)
  have HA := Lib.hid (show ∀ w', Frm (fpL f mi mg N) w3 w' → w'.heap[w.heap.size + 1]? = some (.cells #[.int .i64 0, .int .i64 0, .string ⟨#[]⟩, .int .i64 0] 62 (0, 0)) ∧ w'.heap[w.heap.size + 2]? = some (.cells #[.int .i64 0, .int .i64 0, .string ⟨#[]⟩, .int .i64 0] 62 (0, 0)) from fun w' hf =>
    ⟨(hf.block (w.heap.size + 1) (by omega) (fun hm => by have := hlt _ hm; omega)).trans hb1, (hf.block (w.heap.size + 2) (by omega) (fun hm => by have := hlt _ hm; omega)).trans hb2⟩)
  have HM := Lib.hid (show ∀ w4, Below w3.heap.size w3 w4 → Calls Try.prog 54 #[.pointer (some ⟨f, 0, none⟩), .agg #[.int .i64 h1, .int .i64 h2], .string s1, .agg #[.int .i64 g1, .int .i64 g2], .string s2] w4 (fun e w' => e = .returned (.int .i64 (renameP r (h1, h2) s1 (g1, g2) s2).2) ∧ StepR w3 w' f mi mg N (renameP r (h1, h2) s1 (g1, g2) s2).1 ∧ Frm (fpL f mi mg N) w3 w') from fun w4 hb =>
    (rename_any (h.below hW (hB.trans (hb.mono (by omega)))) hW h1 h2 s1 hq.name g1 g2 s2 hq.other).mono fun e w' ⟨he, hs⟩ => ⟨he, stepR_from hb hs, (Frm.of_below hb).trans hs.frm⟩)
  have HWf := Lib.hid (show ∃ K', Wf (renameP r (h1, h2) s1 (g1, g2) s2).1 K' from ⟨_, wf_rename hW (h1, h2) (g1, g2) s1 s2⟩)
  have HO := Lib.hid (show ∀ (x y : Int) w4, Below w3.heap.size w3 w4 → Calls Try.prog 34 #[.agg #[.int .i64 x, .int .i64 y]] w4 (fun e w' => e = .returned (.agg #[.int .i64 x, .int .i64 y]) ∧ Below w3.heap.size w3 w') from fun x y w4 hb =>
    (own_any w4 x y).mono fun e w' ⟨he, hs⟩ => ⟨he, hb.trans (hs.mono hb.size)⟩)
  generalize (renameP r (h1, h2) s1 (g1, g2) s2).2 = E at *
  generalize (renameP r (h1, h2) s1 (g1, g2) s2).1 = R at *
  have hlt2 := Lib.hid hlt
  have HW3 := Lib.hid hw3
  have HB := Lib.hid hB
  have hbz := Below.refl w3.heap.size w3
  have hbz2 := hbz.drew
  obtain ⟨y1, y2, y3, y4, y5, y6⟩ := HK.out w3 (Frm.refl _ _)
  clear hw3 hB hb0 hb1 hb2 h hW hq hlt
  go_enter Try.func32, Try.ntmps32
  go_wp2_with fail
  rw [HW3.out]
  go_region_held3 (fun w' => w'.cell? ⟨w.heap.size, 1, none⟩ = some (.int .i64 h1) ∧ w'.cell? ⟨w.heap.size, 2, none⟩ = some (.int .i64 h2) ∧ w'.cell? ⟨w.heap.size, 3, none⟩ = some (.int .i64 g1) ∧ w'.cell? ⟨w.heap.size, 4, none⟩ = some (.int .i64 g2) ∧ w'.cell? ⟨w.heap.size, 5, none⟩ = some (.string s1) ∧ w'.cell? ⟨w.heap.size, 6, none⟩ = some (.string s2))
    (first | exact HK.out _ hF7 | exact HK.out _ (hF6 _) | exact HK.out _ (Frm.of_below (by assumption)) | go_keep)
    (first
      | (go_at_call 34; (with_reducible refine (HO.out _ _ _ (by assumption)).mono ?_); rintro e w4 ⟨rfl, hb4⟩)
      | (go_at_call 54; (with_reducible refine (HM.out _ (by assumption)).mono ?_); rintro e w5 ⟨rfl, hS5, hF5⟩; have hF7 : Frm ((w.heap.size + 2) :: fpL f mi mg N) w3 w5 := hF5.mono (fun _ hk => List.mem_cons_of_mem _ hk); have hF6 : ∀ u, Frm ((w.heap.size + 2) :: fpL f mi mg N) w3 (w5.setCell ⟨w.heap.size + 1 + 1, 3, none⟩ u) := (fun u => hF7.setCell (.inl (by simp)) u); have x3 : w5.cell? ⟨w.heap.size + 2, 3, none⟩ = _ := cell_at (HA.out _ hF5).2 3; have f3 : w5.frozen? ⟨w.heap.size + 2, 3, none⟩ = false := (by simp [World.frozen?, (HA.out _ hF5).2])))
  obtain ⟨w6, hw6⟩ : ∃ w6, w5.setCell ⟨w.heap.size + 2, 3, none⟩ (.int .i64 E) = w6 := ⟨_, rfl⟩
  rw [hw6]
  have HX6 := Lib.hid (show w6.heap[w.heap.size + 2]? = some (.cells #[.int .i64 0, .int .i64 0, .string ⟨#[]⟩, .int .i64 E] 62 (0, 0)) from by rw [← hw6]; exact heap_setCell_same _ _ 3 _ _ _ (HA.out _ hF5).2)
  have HY6 := Lib.hid (show w6.heap[w.heap.size + 1]? = some (.cells #[.int .i64 0, .int .i64 0, .string ⟨#[]⟩, .int .i64 0] 62 (0, 0)) from by rw [← hw6, setCell_far _ _ _ _ _ (show w.heap.size + 1 ≠ w.heap.size + 2 by omega)]; exact (HA.out _ hF5).1)
  have HF6 := Lib.hid (show Frm [w.heap.size + 1, w.heap.size + 2] w5 w6 from by rw [← hw6]; exact (Frm.refl _ _).setCell (.inl (by simp)) _)
  have HS5 := Lib.hid hS5
  have d0 : w6.cell? ⟨w.heap.size + 2, 0, none⟩ = _ := cell_at HX6.out 0
  have d1 : w6.cell? ⟨w.heap.size + 2, 1, none⟩ = _ := cell_at HX6.out 1
  have d2 : w6.cell? ⟨w.heap.size + 2, 2, none⟩ = _ := cell_at HX6.out 2
  have d3 : w6.cell? ⟨w.heap.size + 2, 3, none⟩ = _ := cell_at HX6.out 3
  have HOne := Lib.hid (ans_one 0 0 ⟨#[]⟩ E)
  clear hw6 x3 f3 hF5 hF6 hF7 hS5
  go_wp2_with (refine wpList_store_row rfl 62 (.tmp 4) (.tmp 133) rfl w6 (w.heap.size + 1) _ _ _ rfl rfl HY6.out rfl ansI HOne.out ?_; intro w7 hX7 hG7)
  obtain ⟨K', hWf⟩ := HWf.out
  exact end_cell (p := 4) (by kernel_rfl) rfl hX7 ansT rfl ansI rfl rfl ⟨rfl, stepR_out HB.out HS5.out hWf hlt2.out (HF6.out.trans (frm_grown hG7 (by simp))) (by simp; omega)⟩

set_option maxRecDepth 100000 in
set_option maxHeartbeats 8000000 in
theorem does_4 {w : World} {f mi mg K : Nat} {r : RFs} {N : List Nd} (h : FsN w f mi mg r N) (hW : Wf r K) (h1 h2 g1 g2 : Int) (s1 s2 : ByteArray) (mk mm mt : Int) (ms : ByteArray) (fo : Bool) (at_ nn tm : Int) (bs : List UInt8) (A : Option Addr) (c : Nat) (hq : FopQ w w.heap.size (⟨4, (h1, h2), (g1, g2), s1, s2, ⟨mk, mm, mt, ms⟩, fo, at_, nn, tm, bs⟩, A, c)) :
    Calls Try.prog 32 #[.pointer (some ⟨f, 0, none⟩), .agg #[.int .i64 4, .int .i64 h1, .int .i64 h2, .int .i64 g1, .int .i64 g2, .string s1, .string s2, .int .i64 mk, .int .i64 mm, .int .i64 mt, .string ms, .bool fo, .int .i64 at_, .int .i64 nn, .int .i64 tm, .slice A bs.length c]] w fun e w' => e = .returned (.agg #[.int .i64 0, .int .i64 0, .string ⟨#[]⟩, .int .i64 (fwriteP r (h1, h2) at_ bs tm).2]) ∧ StepR w w' f mi mg N (fwriteP r (h1, h2) at_ bs tm).1 := by
  obtain ⟨w3, hw3, hB, hs3, hb0, hb1, hb2⟩ := box3 w #[.int .i64 4, .int .i64 h1, .int .i64 h2, .int .i64 g1, .int .i64 g2, .string s1, .string s2, .int .i64 mk, .int .i64 mm, .int .i64 mt, .string ms, .bool fo, .int .i64 at_, .int .i64 nn, .int .i64 tm, .slice A bs.length c] #[.int .i64 0, .int .i64 0, .string ⟨#[]⟩, .int .i64 0] #[.int .i64 0, .int .i64 0, .string ⟨#[]⟩, .int .i64 0] 59 62 62
  have hlt := fpl_lt h hW
  have HK := Lib.hid (show ∀ w', Frm ((w.heap.size + 2) :: fpL f mi mg N) w3 w' → (fun w' => w'.cell? ⟨w.heap.size, 1, none⟩ = some (.int .i64 h1) ∧ w'.cell? ⟨w.heap.size, 2, none⟩ = some (.int .i64 h2) ∧ w'.cell? ⟨w.heap.size, 12, none⟩ = some (.int .i64 at_) ∧ w'.cell? ⟨w.heap.size, 14, none⟩ = some (.int .i64 tm) ∧ w'.cell? ⟨w.heap.size, 15, none⟩ = some (.slice A bs.length c)) w' from fun w' hf => by
    have e0 := (hf.block w.heap.size (by omega) (fun hm => (List.mem_cons.1 hm).elim (fun e => by omega) (fun e => by have := hlt _ e; omega))).trans hb0
    exact ⟨cell_at e0 1, cell_at e0 2, cell_at e0 12, cell_at e0 14, cell_at e0 15⟩)
  have HA := Lib.hid (show ∀ w', Frm (fpL f mi mg N) w3 w' → w'.heap[w.heap.size + 1]? = some (.cells #[.int .i64 0, .int .i64 0, .string ⟨#[]⟩, .int .i64 0] 62 (0, 0)) ∧ w'.heap[w.heap.size + 2]? = some (.cells #[.int .i64 0, .int .i64 0, .string ⟨#[]⟩, .int .i64 0] 62 (0, 0)) from fun w' hf =>
    ⟨(hf.block (w.heap.size + 1) (by omega) (fun hm => by have := hlt _ hm; omega)).trans hb1, (hf.block (w.heap.size + 2) (by omega) (fun hm => by have := hlt _ hm; omega)).trans hb2⟩)
  have HM := Lib.hid (show ∀ w4, Below w3.heap.size w3 w4 → Calls Try.prog 39 #[.pointer (some ⟨f, 0, none⟩), .agg #[.int .i64 h1, .int .i64 h2], .int .i64 at_, .slice A bs.length c, .int .i64 tm] w4 (fun e w' => e = .returned (.int .i64 (fwriteP r (h1, h2) at_ bs tm).2) ∧ StepR w3 w' f mi mg N (fwriteP r (h1, h2) at_ bs tm).1 ∧ Frm (fpL f mi mg N) w3 w') from fun w4 hb =>
    (fwrite_any (h.below hW (hB.trans (hb.mono (by omega)))) hW h1 h2 at_ A c bs hq.len hq.cap ((hq.rd.below (hB.trans (hb.mono (by omega)))).more (Nat.le_trans hB.size hb.size)) tm).mono fun e w' ⟨he, hs⟩ => ⟨he, stepR_from hb hs, (Frm.of_below hb).trans hs.frm⟩)
  have HWf := Lib.hid (show ∃ K', Wf (fwriteP r (h1, h2) at_ bs tm).1 K' from ⟨_, wf_write h hW (h1, h2) at_ bs tm⟩)
  have HO := Lib.hid (show ∀ (x y : Int) w4, Below w3.heap.size w3 w4 → Calls Try.prog 34 #[.agg #[.int .i64 x, .int .i64 y]] w4 (fun e w' => e = .returned (.agg #[.int .i64 x, .int .i64 y]) ∧ Below w3.heap.size w3 w') from fun x y w4 hb =>
    (own_any w4 x y).mono fun e w' ⟨he, hs⟩ => ⟨he, hb.trans (hs.mono hb.size)⟩)
  generalize (fwriteP r (h1, h2) at_ bs tm).2 = E at *
  generalize (fwriteP r (h1, h2) at_ bs tm).1 = R at *
  have hlt2 := Lib.hid hlt
  have HW3 := Lib.hid hw3
  have HB := Lib.hid hB
  have hbz := Below.refl w3.heap.size w3
  have hbz2 := hbz.drew
  obtain ⟨y1, y2, y12, y14, y15⟩ := HK.out w3 (Frm.refl _ _)
  clear hw3 hB hb0 hb1 hb2 h hW hq hlt
  go_enter Try.func32, Try.ntmps32
  go_wp2_with fail
  rw [HW3.out]
  go_region_held3 (fun w' => w'.cell? ⟨w.heap.size, 1, none⟩ = some (.int .i64 h1) ∧ w'.cell? ⟨w.heap.size, 2, none⟩ = some (.int .i64 h2) ∧ w'.cell? ⟨w.heap.size, 12, none⟩ = some (.int .i64 at_) ∧ w'.cell? ⟨w.heap.size, 14, none⟩ = some (.int .i64 tm) ∧ w'.cell? ⟨w.heap.size, 15, none⟩ = some (.slice A bs.length c))
    (first | exact HK.out _ hF7 | exact HK.out _ (hF6 _) | exact HK.out _ (Frm.of_below (by assumption)) | go_keep)
    (first
      | (go_at_call 34; (with_reducible refine (HO.out _ _ _ (by assumption)).mono ?_); rintro e w4 ⟨rfl, hb4⟩)
      | (go_at_call 39; (with_reducible refine (HM.out _ (by assumption)).mono ?_); rintro e w5 ⟨rfl, hS5, hF5⟩; have hF7 : Frm ((w.heap.size + 2) :: fpL f mi mg N) w3 w5 := hF5.mono (fun _ hk => List.mem_cons_of_mem _ hk); have hF6 : ∀ u, Frm ((w.heap.size + 2) :: fpL f mi mg N) w3 (w5.setCell ⟨w.heap.size + 1 + 1, 3, none⟩ u) := (fun u => hF7.setCell (.inl (by simp)) u); have x3 : w5.cell? ⟨w.heap.size + 2, 3, none⟩ = _ := cell_at (HA.out _ hF5).2 3; have f3 : w5.frozen? ⟨w.heap.size + 2, 3, none⟩ = false := (by simp [World.frozen?, (HA.out _ hF5).2])))
  obtain ⟨w6, hw6⟩ : ∃ w6, w5.setCell ⟨w.heap.size + 2, 3, none⟩ (.int .i64 E) = w6 := ⟨_, rfl⟩
  rw [hw6]
  have HX6 := Lib.hid (show w6.heap[w.heap.size + 2]? = some (.cells #[.int .i64 0, .int .i64 0, .string ⟨#[]⟩, .int .i64 E] 62 (0, 0)) from by rw [← hw6]; exact heap_setCell_same _ _ 3 _ _ _ (HA.out _ hF5).2)
  have HY6 := Lib.hid (show w6.heap[w.heap.size + 1]? = some (.cells #[.int .i64 0, .int .i64 0, .string ⟨#[]⟩, .int .i64 0] 62 (0, 0)) from by rw [← hw6, setCell_far _ _ _ _ _ (show w.heap.size + 1 ≠ w.heap.size + 2 by omega)]; exact (HA.out _ hF5).1)
  have HF6 := Lib.hid (show Frm [w.heap.size + 1, w.heap.size + 2] w5 w6 from by rw [← hw6]; exact (Frm.refl _ _).setCell (.inl (by simp)) _)
  have HS5 := Lib.hid hS5
  have d0 : w6.cell? ⟨w.heap.size + 2, 0, none⟩ = _ := cell_at HX6.out 0
  have d1 : w6.cell? ⟨w.heap.size + 2, 1, none⟩ = _ := cell_at HX6.out 1
  have d2 : w6.cell? ⟨w.heap.size + 2, 2, none⟩ = _ := cell_at HX6.out 2
  have d3 : w6.cell? ⟨w.heap.size + 2, 3, none⟩ = _ := cell_at HX6.out 3
  have HOne := Lib.hid (ans_one 0 0 ⟨#[]⟩ E)
  clear hw6 x3 f3 hF5 hF6 hF7 hS5
  go_wp2_with (refine wpList_store_row rfl 62 (.tmp 4) (.tmp 133) rfl w6 (w.heap.size + 1) _ _ _ rfl rfl HY6.out rfl ansI HOne.out ?_; intro w7 hX7 hG7)
  obtain ⟨K', hWf⟩ := HWf.out
  exact end_cell (p := 4) (by kernel_rfl) rfl hX7 ansT rfl ansI rfl rfl ⟨rfl, stepR_out HB.out HS5.out hWf hlt2.out (HF6.out.trans (frm_grown hG7 (by simp))) (by simp; omega)⟩

set_option maxRecDepth 100000 in
set_option maxHeartbeats 8000000 in
theorem does_5 {w : World} {f mi mg K : Nat} {r : RFs} {N : List Nd} (h : FsN w f mi mg r N) (hW : Wf r K) (h1 h2 g1 g2 : Int) (s1 s2 : ByteArray) (mk mm mt : Int) (ms : ByteArray) (fo : Bool) (at_ nn tm : Int) (bs : List UInt8) (A : Option Addr) (c : Nat) (_hq : FopQ w w.heap.size (⟨5, (h1, h2), (g1, g2), s1, s2, ⟨mk, mm, mt, ms⟩, fo, at_, nn, tm, bs⟩, A, c)) :
    Calls Try.prog 32 #[.pointer (some ⟨f, 0, none⟩), .agg #[.int .i64 5, .int .i64 h1, .int .i64 h2, .int .i64 g1, .int .i64 g2, .string s1, .string s2, .int .i64 mk, .int .i64 mm, .int .i64 mt, .string ms, .bool fo, .int .i64 at_, .int .i64 nn, .int .i64 tm, .slice A bs.length c]] w fun e w' => e = .returned (.agg #[.int .i64 0, .int .i64 0, .string ⟨#[]⟩, .int .i64 (fcutP r (h1, h2) nn tm).2]) ∧ StepR w w' f mi mg N (fcutP r (h1, h2) nn tm).1 := by
  obtain ⟨w3, hw3, hB, hs3, hb0, hb1, hb2⟩ := box3 w #[.int .i64 5, .int .i64 h1, .int .i64 h2, .int .i64 g1, .int .i64 g2, .string s1, .string s2, .int .i64 mk, .int .i64 mm, .int .i64 mt, .string ms, .bool fo, .int .i64 at_, .int .i64 nn, .int .i64 tm, .slice A bs.length c] #[.int .i64 0, .int .i64 0, .string ⟨#[]⟩, .int .i64 0] #[.int .i64 0, .int .i64 0, .string ⟨#[]⟩, .int .i64 0] 59 62 62
  have hlt := fpl_lt h hW
  have HK := Lib.hid (show ∀ w', Frm ((w.heap.size + 2) :: fpL f mi mg N) w3 w' → (fun w' => w'.cell? ⟨w.heap.size, 1, none⟩ = some (.int .i64 h1) ∧ w'.cell? ⟨w.heap.size, 2, none⟩ = some (.int .i64 h2) ∧ w'.cell? ⟨w.heap.size, 13, none⟩ = some (.int .i64 nn) ∧ w'.cell? ⟨w.heap.size, 14, none⟩ = some (.int .i64 tm)) w' from fun w' hf => by
    have e0 := (hf.block w.heap.size (by omega) (fun hm => (List.mem_cons.1 hm).elim (fun e => by omega) (fun e => by have := hlt _ e; omega))).trans hb0
    exact ⟨cell_at e0 1, cell_at e0 2, cell_at e0 13, cell_at e0 14⟩)
  have HA := Lib.hid (show ∀ w', Frm (fpL f mi mg N) w3 w' → w'.heap[w.heap.size + 1]? = some (.cells #[.int .i64 0, .int .i64 0, .string ⟨#[]⟩, .int .i64 0] 62 (0, 0)) ∧ w'.heap[w.heap.size + 2]? = some (.cells #[.int .i64 0, .int .i64 0, .string ⟨#[]⟩, .int .i64 0] 62 (0, 0)) from fun w' hf =>
    ⟨(hf.block (w.heap.size + 1) (by omega) (fun hm => by have := hlt _ hm; omega)).trans hb1, (hf.block (w.heap.size + 2) (by omega) (fun hm => by have := hlt _ hm; omega)).trans hb2⟩)
  have HM := Lib.hid (show ∀ w4, Below w3.heap.size w3 w4 → Calls Try.prog 55 #[.pointer (some ⟨f, 0, none⟩), .agg #[.int .i64 h1, .int .i64 h2], .int .i64 nn, .int .i64 tm] w4 (fun e w' => e = .returned (.int .i64 (fcutP r (h1, h2) nn tm).2) ∧ StepR w3 w' f mi mg N (fcutP r (h1, h2) nn tm).1 ∧ Frm (fpL f mi mg N) w3 w') from fun w4 hb =>
    (fcut_any (h.below hW (hB.trans (hb.mono (by omega)))) hW h1 h2 nn tm).mono fun e w' ⟨he, hs⟩ => ⟨he, stepR_from hb hs, (Frm.of_below hb).trans hs.frm⟩)
  have HWf := Lib.hid (show ∃ K', Wf (fcutP r (h1, h2) nn tm).1 K' from ⟨_, wf_cut hW (h1, h2) nn tm⟩)
  have HO := Lib.hid (show ∀ (x y : Int) w4, Below w3.heap.size w3 w4 → Calls Try.prog 34 #[.agg #[.int .i64 x, .int .i64 y]] w4 (fun e w' => e = .returned (.agg #[.int .i64 x, .int .i64 y]) ∧ Below w3.heap.size w3 w') from fun x y w4 hb =>
    (own_any w4 x y).mono fun e w' ⟨he, hs⟩ => ⟨he, hb.trans (hs.mono hb.size)⟩)
  generalize (fcutP r (h1, h2) nn tm).2 = E at *
  generalize (fcutP r (h1, h2) nn tm).1 = R at *
  have hlt2 := Lib.hid hlt
  have HW3 := Lib.hid hw3
  have HB := Lib.hid hB
  have hbz := Below.refl w3.heap.size w3
  have hbz2 := hbz.drew
  obtain ⟨y1, y2, y13, y14⟩ := HK.out w3 (Frm.refl _ _)
  clear hw3 hB hb0 hb1 hb2 h hW _hq hlt
  go_enter Try.func32, Try.ntmps32
  go_wp2_with fail
  rw [HW3.out]
  go_region_held3 (fun w' => w'.cell? ⟨w.heap.size, 1, none⟩ = some (.int .i64 h1) ∧ w'.cell? ⟨w.heap.size, 2, none⟩ = some (.int .i64 h2) ∧ w'.cell? ⟨w.heap.size, 13, none⟩ = some (.int .i64 nn) ∧ w'.cell? ⟨w.heap.size, 14, none⟩ = some (.int .i64 tm))
    (first | exact HK.out _ hF7 | exact HK.out _ (hF6 _) | exact HK.out _ (Frm.of_below (by assumption)) | go_keep)
    (first
      | (go_at_call 34; (with_reducible refine (HO.out _ _ _ (by assumption)).mono ?_); rintro e w4 ⟨rfl, hb4⟩)
      | (go_at_call 55; (with_reducible refine (HM.out _ (by assumption)).mono ?_); rintro e w5 ⟨rfl, hS5, hF5⟩; have hF7 : Frm ((w.heap.size + 2) :: fpL f mi mg N) w3 w5 := hF5.mono (fun _ hk => List.mem_cons_of_mem _ hk); have hF6 : ∀ u, Frm ((w.heap.size + 2) :: fpL f mi mg N) w3 (w5.setCell ⟨w.heap.size + 1 + 1, 3, none⟩ u) := (fun u => hF7.setCell (.inl (by simp)) u); have x3 : w5.cell? ⟨w.heap.size + 2, 3, none⟩ = _ := cell_at (HA.out _ hF5).2 3; have f3 : w5.frozen? ⟨w.heap.size + 2, 3, none⟩ = false := (by simp [World.frozen?, (HA.out _ hF5).2])))
  obtain ⟨w6, hw6⟩ : ∃ w6, w5.setCell ⟨w.heap.size + 2, 3, none⟩ (.int .i64 E) = w6 := ⟨_, rfl⟩
  rw [hw6]
  have HX6 := Lib.hid (show w6.heap[w.heap.size + 2]? = some (.cells #[.int .i64 0, .int .i64 0, .string ⟨#[]⟩, .int .i64 E] 62 (0, 0)) from by rw [← hw6]; exact heap_setCell_same _ _ 3 _ _ _ (HA.out _ hF5).2)
  have HY6 := Lib.hid (show w6.heap[w.heap.size + 1]? = some (.cells #[.int .i64 0, .int .i64 0, .string ⟨#[]⟩, .int .i64 0] 62 (0, 0)) from by rw [← hw6, setCell_far _ _ _ _ _ (show w.heap.size + 1 ≠ w.heap.size + 2 by omega)]; exact (HA.out _ hF5).1)
  have HF6 := Lib.hid (show Frm [w.heap.size + 1, w.heap.size + 2] w5 w6 from by rw [← hw6]; exact (Frm.refl _ _).setCell (.inl (by simp)) _)
  have HS5 := Lib.hid hS5
  have d0 : w6.cell? ⟨w.heap.size + 2, 0, none⟩ = _ := cell_at HX6.out 0
  have d1 : w6.cell? ⟨w.heap.size + 2, 1, none⟩ = _ := cell_at HX6.out 1
  have d2 : w6.cell? ⟨w.heap.size + 2, 2, none⟩ = _ := cell_at HX6.out 2
  have d3 : w6.cell? ⟨w.heap.size + 2, 3, none⟩ = _ := cell_at HX6.out 3
  have HOne := Lib.hid (ans_one 0 0 ⟨#[]⟩ E)
  clear hw6 x3 f3 hF5 hF6 hF7 hS5
  go_wp2_with (refine wpList_store_row rfl 62 (.tmp 4) (.tmp 133) rfl w6 (w.heap.size + 1) _ _ _ rfl rfl HY6.out rfl ansI HOne.out ?_; intro w7 hX7 hG7)
  obtain ⟨K', hWf⟩ := HWf.out
  exact end_cell (p := 4) (by kernel_rfl) rfl hX7 ansT rfl ansI rfl rfl ⟨rfl, stepR_out HB.out HS5.out hWf hlt2.out (HF6.out.trans (frm_grown hG7 (by simp))) (by simp; omega)⟩
end Go.Proofs.Ytpcjmefchclhhaa

/- Contracts of the methods on a file system that was made since a world; the root's handle; alive. -/
namespace Go.Proofs.Ytpcjmefchclhhaa
open Go.RowKit Go.MapKept

set_option maxRecDepth 100000 in
theorem root_any (w : World) (p : Option Addr) : Calls Try.prog 38 #[.pointer p] w fun e w' => e = .returned (.agg #[.int .i64 1, .int .i64 1]) ∧ Below w.heap.size w w' := by
  have HB := Lib.hid (show Below w.heap.size w (w.alloc (.cells #[.int .i64 1, .int .i64 1] 68)) from (Below.refl _ _).alloc (Nat.le_refl _) _)
  have H1 := Lib.hid (heap_alloc_new w (.cells #[.int .i64 1, .int .i64 1] 68))
  go_enter Try.func38, Try.ntmps38
  go_wp2
  exact end_cell (p := 2) (by kernel_rfl) rfl H1.out fhT rfl fhI rfl rfl ⟨rfl, HB.out⟩

section
variable {W w : World} {f mi mg K : Nat} {r : RFs} {N : List Nd}
theorem make_at (h : FsAt W w f mi mg r K N) (hK : K ≤ 1000000) (i g : Int) (s : ByteArray) (hs : s.size ≤ maxLen) (m : RMk) (ht : m.target.size ≤ maxLen) :
    Calls Try.prog 37 #[.pointer (some ⟨f, 0, none⟩), .agg #[.int .i64 i, .int .i64 g], .string s, mkV m] w fun e w' => e = .returned (mkR (makeP r (i, g) s m)) ∧ ∃ N', Goes W w w' f mi mg N (makeP r (i, g) s m).1 (K + 1) N' :=
  (make_any h.fs h.wf hK i g s hs m.kind m.mode m.time m.target ht).mono fun _ _ ⟨he, hS⟩ => ⟨he, h.step (Below.refl _ _) hS (wf_make_all h.wf _ _ _)⟩
theorem link_at (h : FsAt W w f mi mg r K N) (i g di dg : Int) (s : ByteArray) (hs : s.size ≤ maxLen) :
    Calls Try.prog 40 #[.pointer (some ⟨f, 0, none⟩), .agg #[.int .i64 i, .int .i64 g], .agg #[.int .i64 di, .int .i64 dg], .string s] w fun e w' => e = .returned (.int .i64 (linkP r (i, g) (di, dg) s).2) ∧ ∃ N', Goes W w w' f mi mg N (linkP r (i, g) (di, dg) s).1 (K + 1) N' :=
  (link_any h.fs h.wf i g di dg s hs).mono fun _ _ ⟨he, hS⟩ => ⟨he, h.step (Below.refl _ _) hS (wf_link h.wf _ _ _)⟩
theorem remove_at (h : FsAt W w f mi mg r K N) (i g : Int) (s : ByteArray) (hs : s.size ≤ maxLen) (fo : Bool) :
    Calls Try.prog 41 #[.pointer (some ⟨f, 0, none⟩), .agg #[.int .i64 i, .int .i64 g], .string s, .bool fo] w fun e w' => e = .returned (.int .i64 (removeP r (i, g) s fo).2) ∧ ∃ N', Goes W w w' f mi mg N (removeP r (i, g) s fo).1 K N' :=
  (remove_any h.fs h.wf i g s hs fo).mono fun _ _ ⟨he, hS⟩ => ⟨he, h.step (Below.refl _ _) hS (wf_remove h.wf _ _ _)⟩
theorem write_at (h : FsAt W w f mi mg r K N) (i g a : Int) (A : Option Addr) (c : Nat) (l : List UInt8) (hl0 : l.length ≤ maxLen) (hlc : l.length ≤ c) (hrd : Rd w w.heap.size 1 byteC A l) (t : Int) :
    Calls Try.prog 39 #[.pointer (some ⟨f, 0, none⟩), .agg #[.int .i64 i, .int .i64 g], .int .i64 a, .slice A l.length c, .int .i64 t] w fun e w' => e = .returned (.int .i64 (fwriteP r (i, g) a l t).2) ∧ ∃ N', Goes W w w' f mi mg N (fwriteP r (i, g) a l t).1 K N' :=
  (fwrite_any h.fs h.wf i g a A c l hl0 hlc hrd t).mono fun _ _ ⟨he, hS⟩ => ⟨he, h.step (Below.refl _ _) hS (wf_write h.fs h.wf _ _ _ _)⟩
end

def aS : ByteArray := ⟨#[97]⟩
def bS : ByteArray := ⟨#[98]⟩
def alive1 : RFs := (makeP (newP 9) (1, 1) aS ⟨2, 0, 0, noStr⟩).1
def alive2 : RFs := (makeP alive1 (2, 1) bS ⟨1, 0, 0, noStr⟩).1
theorem alive_m1 : (makeP (newP 9) (1, 1) aS ⟨2, 0, 0, noStr⟩).2 = ((2, 1), 0) := by decide +kernel
theorem alive_m2 : (makeP alive1 (2, 1) bS ⟨1, 0, 0, noStr⟩).2 = ((3, 1), 0) := by decide +kernel
theorem alive_m3 : (removeP alive2 (1, 1) aS true).2 = 174 := by decide +kernel

set_option maxRecDepth 100000 in
set_option maxHeartbeats 4000000 in
theorem alive_any17 (w : World) : Calls Try.prog 31 #[] w fun e w' => e = .returned (.bool true) ∧ Below w.heap.size w w' := by
  have HN := Lib.hid (fsAt_new w w (Below.refl _ _) 9 (by decide))
  have H1 := Lib.hid (show ∀ (w1 : World) (f mi mg : Nat) (N : List Nd), FsAt w w1 f mi mg (newP 9) 0 N → Calls Try.prog 37 #[.pointer (some ⟨f, 0, none⟩), .agg #[.int .i64 1, .int .i64 1], .string ⟨#[97]⟩, .agg #[.int .i64 2, .int .i64 0, .int .i64 0, .string ⟨#[]⟩]] w1 (fun e w' => e = .returned (.tuple #[.agg #[.int .i64 2, .int .i64 1], .int .i64 0]) ∧ ∃ N', Goes w w1 w' f mi mg N alive1 1 N') from fun w1 f mi mg N h => by
    have := make_at h (by decide) 1 1 aS (by decide) ⟨2, 0, 0, noStr⟩ (by decide)
    unfold mkR at this
    rw [alive_m1] at this
    exact this)
  have H2 := Lib.hid (show ∀ (w1 : World) (f mi mg : Nat) (N : List Nd), FsAt w w1 f mi mg alive1 1 N → Calls Try.prog 37 #[.pointer (some ⟨f, 0, none⟩), .agg #[.int .i64 2, .int .i64 1], .string ⟨#[98]⟩, .agg #[.int .i64 1, .int .i64 0, .int .i64 0, .string ⟨#[]⟩]] w1 (fun e w' => e = .returned (.tuple #[.agg #[.int .i64 3, .int .i64 1], .int .i64 0]) ∧ ∃ N', Goes w w1 w' f mi mg N alive2 2 N') from fun w1 f mi mg N h => by
    have := make_at h (by decide) 2 1 bS (by decide) ⟨1, 0, 0, noStr⟩ (by decide)
    unfold mkR at this
    rw [alive_m2] at this
    exact this)
  have H3 := Lib.hid (show ∀ (w1 : World) (f mi mg : Nat) (N : List Nd), FsAt w w1 f mi mg alive2 2 N → Calls Try.prog 41 #[.pointer (some ⟨f, 0, none⟩), .agg #[.int .i64 1, .int .i64 1], .string ⟨#[97]⟩, .bool true] w1 (fun e w' => e = .returned (.int .i64 174) ∧ Below w.heap.size w w') from fun w1 f mi mg N h => by
    have := remove_at h 1 1 aS (by decide) true
    rw [alive_m3] at this
    exact this.mono fun _ _ ⟨he, _, hg⟩ => ⟨he, hg.at_.blw⟩)
  have heq := fun w => eq_hnd w 2 1 2 1
  go_enter Try.func31, Try.ntmps31
  go_wp2_with (first
    | (go_at_call 29; (with_reducible refine HN.out.mono ?_); rintro e w1 ⟨f, mi, mg, N, rfl, hA1, -, -⟩; replace hA1 := Lib.hid hA1)
    | (go_at_call 38; (with_reducible refine (root_any _ _).mono ?_); rintro e w5 ⟨rfl, hb5⟩; have hA5 := Lib.hid ((hG4.out.at_.below ((Below.refl _ _).alloc (Nat.le_refl _) _)).below hb5); replace hb5 := Lib.hid hb5)
    | (go_at_call 38; (with_reducible refine (root_any _ _).mono ?_); rintro e w2 ⟨rfl, hb2⟩; have hA2 := Lib.hid (hA1.out.below hb2); replace hb2 := Lib.hid hb2)
    | (go_at_call 37; (with_reducible refine (H1.out _ _ _ _ _ hA2.out).mono ?_); rintro e w3 ⟨rfl, N3, hG3⟩; have hA3 := Lib.hid hG3.at_; have hl3 := Lib.hid hA3.out.fpl; replace hG3 := Lib.hid hG3)
    | (go_at_call 37; (with_reducible refine (H2.out _ _ _ _ _ (hA3.out.below ((Below.refl _ _).alloc (Nat.le_refl _) _))).mono ?_); rintro e w4 ⟨rfl, N4, hG4⟩;
       have hx4 := (hG4.frm.block w3.heap.size (by simp) (fun hm => by have := hl3.out _ hm; omega)).trans (heap_alloc_new w3 (.cells #[.int .i64 2, .int .i64 1] 68));
       have x0 := cell_at hx4 0; have x1 := cell_at hx4 1; have hlt4 := heap_lt hx4; replace hG4 := Lib.hid hG4; clear hx4)
    | (go_at_call 41; (with_reducible refine (H3.out _ _ _ _ _ hA5.out).mono ?_); rintro e w6 ⟨rfl, hb6⟩; replace hb6 := Lib.hid hb6))
  go_ret
  exact ⟨rfl, hb6.out⟩
end Go.Proofs.Ytpcjmefchclhhaa

/- A call of a script on the program's file system: Make, Look, Read, and none. -/
namespace Go.Proofs.Ytpcjmefchclhhaa
open Go.RowKit Go.MapKept

theorem ownB_str {w w' : World} {P : Option Addr} {l : List UInt8} (h : OwnB w w' P l) : (convert 27 9 (.slice P l.length l.length)).run Try.prog w' = .ok (.string ⟨l.toArray⟩) w' := by
  rcases h with ⟨rfl, rfl⟩ | ⟨g, _, rfl, hg⟩
  · rw [run_convert_bytes_string w' _ _ 5 _ _ _ Try.underlying27 Try.underlying5 Try.underlying9]
    rfl
  · exact str_row hg _

set_option maxRecDepth 100000 in
set_option maxHeartbeats 8000000 in
theorem does_0 {w : World} {f mi mg K : Nat} {r : RFs} {N : List Nd} (h : FsN w f mi mg r N) (hW : Wf r K) (hK : K ≤ 1000000) (h1 h2 g1 g2 : Int) (s1 s2 : ByteArray) (mk mm mt : Int) (ms : ByteArray) (fo : Bool) (at_ nn tm : Int) (bs : List UInt8) (A : Option Addr) (c : Nat) (hq : FopQ w w.heap.size (⟨0, (h1, h2), (g1, g2), s1, s2, ⟨mk, mm, mt, ms⟩, fo, at_, nn, tm, bs⟩, A, c)) :
    Calls Try.prog 32 #[.pointer (some ⟨f, 0, none⟩), .agg #[.int .i64 0, .int .i64 h1, .int .i64 h2, .int .i64 g1, .int .i64 g2, .string s1, .string s2, .int .i64 mk, .int .i64 mm, .int .i64 mt, .string ms, .bool fo, .int .i64 at_, .int .i64 nn, .int .i64 tm, .slice A bs.length c]] w fun e w' => e = .returned (.agg #[.int .i64 (makeP r (h1, h2) s1 ⟨mk, mm, mt, ms⟩).2.1.1, .int .i64 (makeP r (h1, h2) s1 ⟨mk, mm, mt, ms⟩).2.1.2, .string ⟨#[]⟩, .int .i64 (makeP r (h1, h2) s1 ⟨mk, mm, mt, ms⟩).2.2]) ∧ StepR w w' f mi mg N (makeP r (h1, h2) s1 ⟨mk, mm, mt, ms⟩).1 := by
  obtain ⟨w3, hw3, hB, hs3, hb0, hb1, hb2⟩ := box3 w #[.int .i64 0, .int .i64 h1, .int .i64 h2, .int .i64 g1, .int .i64 g2, .string s1, .string s2, .int .i64 mk, .int .i64 mm, .int .i64 mt, .string ms, .bool fo, .int .i64 at_, .int .i64 nn, .int .i64 tm, .slice A bs.length c] #[.int .i64 0, .int .i64 0, .string ⟨#[]⟩, .int .i64 0] #[.int .i64 0, .int .i64 0, .string ⟨#[]⟩, .int .i64 0] 59 62 62
  have hlt := fpl_lt h hW
  have HK := Lib.hid (show ∀ w', Frm (fpL f mi mg N) w3 w' → (fun w' => w'.cell? ⟨w.heap.size, 1, none⟩ = some (.int .i64 h1) ∧ w'.cell? ⟨w.heap.size, 2, none⟩ = some (.int .i64 h2) ∧ w'.cell? ⟨w.heap.size, 5, none⟩ = some (.string s1) ∧ w'.cell? ⟨w.heap.size, 7, none⟩ = some (.int .i64 mk) ∧ w'.cell? ⟨w.heap.size, 8, none⟩ = some (.int .i64 mm) ∧ w'.cell? ⟨w.heap.size, 9, none⟩ = some (.int .i64 mt) ∧ w'.cell? ⟨w.heap.size, 10, none⟩ = some (.string ms)) w' from fun w' hf => by
    have e0 := (hf.block w.heap.size (by omega) (fun hm => by have := hlt _ hm; omega)).trans hb0
    exact ⟨cell_at e0 1, cell_at e0 2, cell_at e0 5, cell_at e0 7, cell_at e0 8, cell_at e0 9, cell_at e0 10⟩)
  have HA := Lib.hid (show ∀ w', Frm (fpL f mi mg N) w3 w' → w'.heap[w.heap.size + 1]? = some (.cells #[.int .i64 0, .int .i64 0, .string ⟨#[]⟩, .int .i64 0] 62 (0, 0)) ∧ w'.heap[w.heap.size + 2]? = some (.cells #[.int .i64 0, .int .i64 0, .string ⟨#[]⟩, .int .i64 0] 62 (0, 0)) from fun w' hf =>
    ⟨(hf.block (w.heap.size + 1) (by omega) (fun hm => by have := hlt _ hm; omega)).trans hb1, (hf.block (w.heap.size + 2) (by omega) (fun hm => by have := hlt _ hm; omega)).trans hb2⟩)
  have HM := Lib.hid (show ∀ w4, Below w3.heap.size w3 w4 → Calls Try.prog 37 #[.pointer (some ⟨f, 0, none⟩), .agg #[.int .i64 h1, .int .i64 h2], .string s1, .agg #[.int .i64 mk, .int .i64 mm, .int .i64 mt, .string ms]] w4 (fun e w' => e = .returned (.tuple #[.agg #[.int .i64 (makeP r (h1, h2) s1 ⟨mk, mm, mt, ms⟩).2.1.1, .int .i64 (makeP r (h1, h2) s1 ⟨mk, mm, mt, ms⟩).2.1.2], .int .i64 (makeP r (h1, h2) s1 ⟨mk, mm, mt, ms⟩).2.2]) ∧ StepR w4 w' f mi mg N (makeP r (h1, h2) s1 ⟨mk, mm, mt, ms⟩).1 ∧ Frm (fpL f mi mg N) w3 w' ∧ (∀ k o, w3.heap.size ≤ k → w4.heap[k]? = some o → w'.heap[k]? = some o) ∧ Below w.heap.size w w4 ∧ w3.heap.size ≤ w4.heap.size) from fun w4 hb =>
    (make_any (h.below hW (hB.trans (hb.mono (by omega)))) hW hK h1 h2 s1 hq.name mk mm mt ms hq.target).mono fun e w' ⟨he, hs⟩ => ⟨he, hs, (Frm.of_below hb).trans hs.frm, fun k o hle hk => (hs.frm.block k (heap_lt hk) (fun hm => by have := hlt _ hm; have := hB.size; omega)).trans hk, hB.trans (hb.mono (by omega)), hb.size⟩)
  have HWf := Lib.hid (show ∃ K', Wf (makeP r (h1, h2) s1 ⟨mk, mm, mt, ms⟩).1 K' from ⟨_, wf_make_all hW (h1, h2) s1 ⟨mk, mm, mt, ms⟩⟩)
  have HO := Lib.hid (show ∀ (x y : Int) w4, Below w3.heap.size w3 w4 → Calls Try.prog 34 #[.agg #[.int .i64 x, .int .i64 y]] w4 (fun e w' => e = .returned (.agg #[.int .i64 x, .int .i64 y]) ∧ Below w3.heap.size w3 w' ∧ ∀ k o, w4.heap[k]? = some o → w'.heap[k]? = some o) from fun x y w4 hb =>
    (own_any w4 x y).mono fun e w' ⟨he, hs⟩ => ⟨he, hb.trans (hs.mono hb.size), fun k o hk => (hs.block k (heap_lt hk)).trans hk⟩)
  generalize (makeP r (h1, h2) s1 ⟨mk, mm, mt, ms⟩).2.2 = E at *
  generalize (makeP r (h1, h2) s1 ⟨mk, mm, mt, ms⟩).2.1.1 = a1 at *
  generalize (makeP r (h1, h2) s1 ⟨mk, mm, mt, ms⟩).2.1.2 = a2 at *
  generalize (makeP r (h1, h2) s1 ⟨mk, mm, mt, ms⟩).1 = R at *
  have hlt2 := Lib.hid hlt
  have HW3 := Lib.hid hw3
  have HB := Lib.hid hB
  have hbz := Below.refl w3.heap.size w3
  have hbz2 := hbz.drew
  obtain ⟨y1, y2, y5, y7, y8, y9, y10⟩ := HK.out w3 (Frm.refl _ _)
  clear hw3 hB hb0 hb1 hb2 h hW hq hlt
  go_enter Try.func32, Try.ntmps32
  go_wp2_with fail
  rw [HW3.out]
  go_region_held3 (fun w' => w'.cell? ⟨w.heap.size, 1, none⟩ = some (.int .i64 h1) ∧ w'.cell? ⟨w.heap.size, 2, none⟩ = some (.int .i64 h2) ∧ w'.cell? ⟨w.heap.size, 5, none⟩ = some (.string s1) ∧ w'.cell? ⟨w.heap.size, 7, none⟩ = some (.int .i64 mk) ∧ w'.cell? ⟨w.heap.size, 8, none⟩ = some (.int .i64 mm) ∧ w'.cell? ⟨w.heap.size, 9, none⟩ = some (.int .i64 mt) ∧ w'.cell? ⟨w.heap.size, 10, none⟩ = some (.string ms))
    (first | exact HK.out _ hF5 | exact HK.out _ (hF6 _) | exact HK.out _ (hF8 _ _ _) | exact HK.out _ (Frm.of_below (by assumption)) | exact HK.out _ (Frm.of_below (hbz.alloc hbz.size _)) | exact HK.out _ (Frm.of_below (hbz2.alloc hbz2.size _)) | exact HK.out _ (Frm.of_below (hb4.alloc hb4.size _)) | go_keep)
    (first
      | (go_at_call 34; (with_reducible refine (HO.out _ _ _ (by first | assumption | exact hbz.alloc hbz.size _ | exact hbz2.alloc hbz2.size _ | exact (hbz.alloc hbz.size _).drew)).mono ?_); rintro e w4 ⟨rfl, hb4, hl4⟩)
      | (go_at_call 37; (with_reducible refine (HM.out _ (by first | assumption | exact hb4.alloc hb4.size _)).mono ?_); rintro e w5 ⟨rfl, hS5, hF5, hl5, hb5, hs5⟩; have hF6 : ∀ o, Frm (fpL f mi mg N) w3 (w5.alloc o) := (fun o => hF5.trans (Frm.of_below ((Below.refl _ _).alloc (Nat.le_refl _) _)));
         (first
           | (have hT := hl5 _ _ hb4.size (heap_alloc_new w4 (.cells #[.int .i64 0, .int .i64 0] 68)); have hge := hb4.size)
           | (have hT := hl5 _ _ (Nat.le_refl _) (hl4 _ _ (heap_alloc_new w3.drew (.cells #[.int .i64 0, .int .i64 0] 68))); have hge := Nat.le_refl w3.heap.size)
           | skip);
         (try (have x8 := cell_at hT 0; have x9 := cell_at hT 1; have hF8 := fun j a b => (hF5.setCell (p := ⟨_, j, none⟩) (.inr hge) a).setCell (p := ⟨_, j + 1, none⟩) (.inr hge) b; have f8 := fun j => frozen_of_row _ _ j _ _ hT))))
  all_goals
    first
      | (obtain ⟨w6, hw6⟩ : ∃ w6, w5.alloc (.cells #[.int .i64 a1, .int .i64 a2] 68) = w6 := ⟨_, rfl⟩
         rw [hw6]
         have hX6 : w6.heap[w5.heap.size]? = some (.cells #[.int .i64 a1, .int .i64 a2] 68 (0, 0)) := by rw [← hw6]; exact heap_alloc_new _ _
         have hF56 : Frm [w.heap.size + 1, w.heap.size + 2] w5 w6 := by rw [← hw6]; exact Frm.of_below ((Below.refl _ _).alloc (Nat.le_refl _) _)
         have hF36 : Frm (fpL f mi mg N) w3 w6 := by rw [← hw6]; exact hF6 _
         have hS3 : ∀ k ∈ [w.heap.size + 1, w.heap.size + 2], w.heap.size ≤ k ∧ k < w4.heap.size := (by have := hb4.size; simp; omega))
      | (obtain ⟨w6, hw6⟩ : ∃ w6, (w5.setCell ⟨w3.heap.size, 0, none⟩ (.int .i64 a1)).setCell ⟨w3.heap.size, 1, none⟩ (.int .i64 a2) = w6 := ⟨_, rfl⟩
         rw [hw6]
         have hX6 : w6.heap[w3.heap.size]? = some (.cells #[.int .i64 a1, .int .i64 a2] 68 (0, 0)) := by rw [← hw6]; exact heap_setCell_same _ _ 1 _ _ _ (heap_setCell_same _ _ 0 _ _ _ hT)
         have hF56 : Frm [w3.heap.size, w.heap.size + 1, w.heap.size + 2] w5 w6 := by rw [← hw6]; exact ((Frm.refl _ _).setCell (.inl (by simp)) _).setCell (.inl (by simp)) _
         have hF36 : Frm (fpL f mi mg N) w3 w6 := by rw [← hw6]; exact hF8 _ _ _
         have hS3 : ∀ k ∈ [w3.heap.size, w.heap.size + 1, w.heap.size + 2], w.heap.size ≤ k ∧ k < w4.heap.size := (by have := hb4.size; have h9 : w3.heap.size < w4.heap.size := heap_lt (hl4 _ _ (heap_alloc_new w3.drew (.cells #[.int .i64 0, .int .i64 0] 68))); simp; omega))
      | (obtain ⟨w6, hw6⟩ : ∃ w6, (w5.setCell ⟨w4.heap.size, 0, none⟩ (.int .i64 a1)).setCell ⟨w4.heap.size, 1, none⟩ (.int .i64 a2) = w6 := ⟨_, rfl⟩
         rw [hw6]
         have hX6 : w6.heap[w4.heap.size]? = some (.cells #[.int .i64 a1, .int .i64 a2] 68 (0, 0)) := by rw [← hw6]; exact heap_setCell_same _ _ 1 _ _ _ (heap_setCell_same _ _ 0 _ _ _ hT)
         have hF56 : Frm [w4.heap.size, w.heap.size + 1, w.heap.size + 2] w5 w6 := by rw [← hw6]; exact ((Frm.refl _ _).setCell (.inl (by simp)) _).setCell (.inl (by simp)) _
         have hF36 : Frm (fpL f mi mg N) w3 w6 := by rw [← hw6]; exact hF8 _ _ _
         have hS3 : ∀ k ∈ [w4.heap.size, w.heap.size + 1, w.heap.size + 2], w.heap.size ≤ k ∧ k < (w4.alloc (.cells #[.int .i64 0, .int .i64 0] 68)).heap.size := (by have := hb4.size; simp; omega))
    have HS3 := Lib.hid hS3
    have HS5 := Lib.hid hS5
    have HF56 := Lib.hid hF56
    have HF36 := Lib.hid hF36
    have HB5 := Lib.hid hb5
    have z0 := cell_at hX6 0
    have z1 := cell_at hX6 1
    have d0 : w6.cell? ⟨w.heap.size + 2, 0, none⟩ = _ := cell_at (HA.out _ hF36).2 0
    have d1 : w6.cell? ⟨w.heap.size + 2, 1, none⟩ = _ := cell_at (HA.out _ hF36).2 1
    have d3 : w6.cell? ⟨w.heap.size + 2, 3, none⟩ = _ := cell_at (HA.out _ hF36).2 3
    have df : ∀ k, w6.frozen? ⟨w.heap.size + 2, k, none⟩ = false := fun k => frozen_of_row _ _ k _ _ (HA.out _ hF36).2
    clear hS3 hS5 hF56 hF36 hb5 hw6 hX6 hF5 hl5 hl4 hs5 hbz hbz2 hb4
    (try clear hF6)
    (try clear hF8)
    (try clear hT hge x8 x9 f8)
    simp at z0 z1 d0 d1 d3
    go_upto_region 22 with fail
    obtain ⟨w7, hw7⟩ : ∃ w7, ((w6.setCell ⟨w.heap.size + 2, 0, none⟩ (.int .i64 a1)).setCell ⟨w.heap.size + 2, 1, none⟩ (.int .i64 a2)).setCell ⟨w.heap.size + 2, 3, none⟩ (.int .i64 E) = w7 := ⟨_, rfl⟩
    rw [hw7]
    have HX7 := Lib.hid (show w7.heap[w.heap.size + 2]? = some (.cells #[.int .i64 a1, .int .i64 a2, .string ⟨#[]⟩, .int .i64 E] 62 (0, 0)) from by rw [← hw7]; exact heap_setCell_same _ _ 3 _ _ _ (heap_setCell_same _ _ 1 _ _ _ (heap_setCell_same _ _ 0 _ _ _ (HA.out _ HF36.out).2)))
    have HY7 := Lib.hid (show w7.heap[w.heap.size + 1]? = some (.cells #[.int .i64 0, .int .i64 0, .string ⟨#[]⟩, .int .i64 0] 62 (0, 0)) from by rw [← hw7, setCell_far _ _ _ _ _ (show w.heap.size + 1 ≠ w.heap.size + 2 by omega), setCell_far _ _ _ _ _ (show w.heap.size + 1 ≠ w.heap.size + 2 by omega), setCell_far _ _ _ _ _ (show w.heap.size + 1 ≠ w.heap.size + 2 by omega)]; exact (HA.out _ HF36.out).1)
    have HF67 := Lib.hid (show Frm [w.heap.size + 2] w6 w7 from by rw [← hw7]; exact (((Frm.refl _ _).setCell (.inl (by simp)) _).setCell (.inl (by simp)) _).setCell (.inl (by simp)) _)
    clear z0 z1 d0 d1 d3 hw7 df
    have d0 : w7.cell? ⟨w.heap.size + 2, 0, none⟩ = _ := cell_at HX7.out 0
    have d1 : w7.cell? ⟨w.heap.size + 2, 1, none⟩ = _ := cell_at HX7.out 1
    have d2 : w7.cell? ⟨w.heap.size + 2, 2, none⟩ = _ := cell_at HX7.out 2
    have d3 : w7.cell? ⟨w.heap.size + 2, 3, none⟩ = _ := cell_at HX7.out 3
    have HOne := Lib.hid (ans_one a1 a2 ⟨#[]⟩ E)
    go_wp2_with (refine wpList_store_row rfl 62 (.tmp 4) (.tmp 133) rfl w7 (w.heap.size + 1) _ _ _ rfl rfl HY7.out rfl ansI HOne.out ?_; intro w8 hX8 hG8)
    obtain ⟨K', hWf⟩ := HWf.out
    exact end_cell (p := 4) (by kernel_rfl) rfl hX8 ansT rfl ansI rfl rfl ⟨rfl, stepR_out HB5.out HS5.out hWf hlt2.out ((HF56.out.trans (HF67.out.mono (by simp))).trans (frm_grown hG8 (by simp))) HS3.out⟩

set_option maxRecDepth 100000 in
set_option maxHeartbeats 8000000 in
theorem does_6 {w : World} {f mi mg K : Nat} {r : RFs} {N : List Nd} (h : FsN w f mi mg r N) (hW : Wf r K) (h1 h2 g1 g2 : Int) (s1 s2 : ByteArray) (mk mm mt : Int) (ms : ByteArray) (fo : Bool) (at_ nn tm : Int) (bs : List UInt8) (A : Option Addr) (c : Nat) (hq : FopQ w w.heap.size (⟨6, (h1, h2), (g1, g2), s1, s2, ⟨mk, mm, mt, ms⟩, fo, at_, nn, tm, bs⟩, A, c)) :
    Calls Try.prog 32 #[.pointer (some ⟨f, 0, none⟩), .agg #[.int .i64 6, .int .i64 h1, .int .i64 h2, .int .i64 g1, .int .i64 g2, .string s1, .string s2, .int .i64 mk, .int .i64 mm, .int .i64 mt, .string ms, .bool fo, .int .i64 at_, .int .i64 nn, .int .i64 tm, .slice A bs.length c]] w fun e w' => e = .returned (.agg #[.int .i64 (r, lookP r (h1, h2) s1).2.1.1, .int .i64 (r, lookP r (h1, h2) s1).2.1.2, .string ⟨#[]⟩, .int .i64 (r, lookP r (h1, h2) s1).2.2]) ∧ StepR w w' f mi mg N (r, lookP r (h1, h2) s1).1 := by
  obtain ⟨w3, hw3, hB, hs3, hb0, hb1, hb2⟩ := box3 w #[.int .i64 6, .int .i64 h1, .int .i64 h2, .int .i64 g1, .int .i64 g2, .string s1, .string s2, .int .i64 mk, .int .i64 mm, .int .i64 mt, .string ms, .bool fo, .int .i64 at_, .int .i64 nn, .int .i64 tm, .slice A bs.length c] #[.int .i64 0, .int .i64 0, .string ⟨#[]⟩, .int .i64 0] #[.int .i64 0, .int .i64 0, .string ⟨#[]⟩, .int .i64 0] 59 62 62
  have hlt := fpl_lt h hW
  have HK := Lib.hid (show ∀ w', Frm (fpL f mi mg N) w3 w' → (fun w' => w'.cell? ⟨w.heap.size, 1, none⟩ = some (.int .i64 h1) ∧ w'.cell? ⟨w.heap.size, 2, none⟩ = some (.int .i64 h2) ∧ w'.cell? ⟨w.heap.size, 5, none⟩ = some (.string s1)) w' from fun w' hf => by
    have e0 := (hf.block w.heap.size (by omega) (fun hm => by have := hlt _ hm; omega)).trans hb0
    exact ⟨cell_at e0 1, cell_at e0 2, cell_at e0 5⟩)
  have HA := Lib.hid (show ∀ w', Frm (fpL f mi mg N) w3 w' → w'.heap[w.heap.size + 1]? = some (.cells #[.int .i64 0, .int .i64 0, .string ⟨#[]⟩, .int .i64 0] 62 (0, 0)) ∧ w'.heap[w.heap.size + 2]? = some (.cells #[.int .i64 0, .int .i64 0, .string ⟨#[]⟩, .int .i64 0] 62 (0, 0)) from fun w' hf =>
    ⟨(hf.block (w.heap.size + 1) (by omega) (fun hm => by have := hlt _ hm; omega)).trans hb1, (hf.block (w.heap.size + 2) (by omega) (fun hm => by have := hlt _ hm; omega)).trans hb2⟩)
  have HM := Lib.hid (show ∀ w4, Below w3.heap.size w3 w4 → Calls Try.prog 36 #[.pointer (some ⟨f, 0, none⟩), .agg #[.int .i64 h1, .int .i64 h2], .string s1] w4 (fun e w' => e = .returned (.tuple #[.agg #[.int .i64 (r, lookP r (h1, h2) s1).2.1.1, .int .i64 (r, lookP r (h1, h2) s1).2.1.2], .int .i64 (r, lookP r (h1, h2) s1).2.2]) ∧ StepR w4 w' f mi mg N (r, lookP r (h1, h2) s1).1 ∧ Frm (fpL f mi mg N) w3 w' ∧ (∀ k o, w3.heap.size ≤ k → w4.heap[k]? = some o → w'.heap[k]? = some o) ∧ Below w.heap.size w w4 ∧ w3.heap.size ≤ w4.heap.size) from fun w4 hb =>
    (look_any (h.below hW (hB.trans (hb.mono (by omega)))) hW h1 h2 s1 hq.name).mono fun e w' ⟨he, hs⟩ => ⟨he, stepR_below ((h.below hW hB).below hW hb) hW hs, Frm.of_below (hb.trans (hs.mono hb.size)), fun k o _ hk => (hs.block k (heap_lt hk)).trans hk, hB.trans (hb.mono (by omega)), hb.size⟩)
  have HWf := Lib.hid (show ∃ K', Wf (r, lookP r (h1, h2) s1).1 K' from ⟨_, hW⟩)
  have HO := Lib.hid (show ∀ (x y : Int) w4, Below w3.heap.size w3 w4 → Calls Try.prog 34 #[.agg #[.int .i64 x, .int .i64 y]] w4 (fun e w' => e = .returned (.agg #[.int .i64 x, .int .i64 y]) ∧ Below w3.heap.size w3 w' ∧ ∀ k o, w4.heap[k]? = some o → w'.heap[k]? = some o) from fun x y w4 hb =>
    (own_any w4 x y).mono fun e w' ⟨he, hs⟩ => ⟨he, hb.trans (hs.mono hb.size), fun k o hk => (hs.block k (heap_lt hk)).trans hk⟩)
  generalize (r, lookP r (h1, h2) s1).2.2 = E at *
  generalize (r, lookP r (h1, h2) s1).2.1.1 = a1 at *
  generalize (r, lookP r (h1, h2) s1).2.1.2 = a2 at *
  generalize (r, lookP r (h1, h2) s1).1 = R at *
  have hlt2 := Lib.hid hlt
  have HW3 := Lib.hid hw3
  have HB := Lib.hid hB
  have hbz := Below.refl w3.heap.size w3
  have hbz2 := hbz.drew
  obtain ⟨y1, y2, y5⟩ := HK.out w3 (Frm.refl _ _)
  clear hw3 hB hb0 hb1 hb2 h hW hq hlt
  go_enter Try.func32, Try.ntmps32
  go_wp2_with fail
  rw [HW3.out]
  go_region_held3 (fun w' => w'.cell? ⟨w.heap.size, 1, none⟩ = some (.int .i64 h1) ∧ w'.cell? ⟨w.heap.size, 2, none⟩ = some (.int .i64 h2) ∧ w'.cell? ⟨w.heap.size, 5, none⟩ = some (.string s1))
    (first | exact HK.out _ hF5 | exact HK.out _ (hF6 _) | exact HK.out _ (hF8 _ _ _) | exact HK.out _ (Frm.of_below (by assumption)) | exact HK.out _ (Frm.of_below (hbz.alloc hbz.size _)) | exact HK.out _ (Frm.of_below (hbz2.alloc hbz2.size _)) | exact HK.out _ (Frm.of_below (hb4.alloc hb4.size _)) | go_keep)
    (first
      | (go_at_call 34; (with_reducible refine (HO.out _ _ _ (by first | assumption | exact hbz.alloc hbz.size _ | exact hbz2.alloc hbz2.size _ | exact (hbz.alloc hbz.size _).drew)).mono ?_); rintro e w4 ⟨rfl, hb4, hl4⟩)
      | (go_at_call 36; (with_reducible refine (HM.out _ (by first | assumption | exact hb4.alloc hb4.size _)).mono ?_); rintro e w5 ⟨rfl, hS5, hF5, hl5, hb5, hs5⟩; have hF6 : ∀ o, Frm (fpL f mi mg N) w3 (w5.alloc o) := (fun o => hF5.trans (Frm.of_below ((Below.refl _ _).alloc (Nat.le_refl _) _)));
         (first
           | (have hT := hl5 _ _ hb4.size (heap_alloc_new w4 (.cells #[.int .i64 0, .int .i64 0] 68)); have hge := hb4.size)
           | (have hT := hl5 _ _ (Nat.le_refl _) (hl4 _ _ (heap_alloc_new w3.drew (.cells #[.int .i64 0, .int .i64 0] 68))); have hge := Nat.le_refl w3.heap.size)
           | skip);
         (try (have x8 := cell_at hT 0; have x9 := cell_at hT 1; have hF8 := fun j a b => (hF5.setCell (p := ⟨_, j, none⟩) (.inr hge) a).setCell (p := ⟨_, j + 1, none⟩) (.inr hge) b; have f8 := fun j => frozen_of_row _ _ j _ _ hT))))
  all_goals
    first
      | (obtain ⟨w6, hw6⟩ : ∃ w6, w5.alloc (.cells #[.int .i64 a1, .int .i64 a2] 68) = w6 := ⟨_, rfl⟩
         rw [hw6]
         have hX6 : w6.heap[w5.heap.size]? = some (.cells #[.int .i64 a1, .int .i64 a2] 68 (0, 0)) := by rw [← hw6]; exact heap_alloc_new _ _
         have hF56 : Frm [w.heap.size + 1, w.heap.size + 2] w5 w6 := by rw [← hw6]; exact Frm.of_below ((Below.refl _ _).alloc (Nat.le_refl _) _)
         have hF36 : Frm (fpL f mi mg N) w3 w6 := by rw [← hw6]; exact hF6 _
         have hS3 : ∀ k ∈ [w.heap.size + 1, w.heap.size + 2], w.heap.size ≤ k ∧ k < w4.heap.size := (by have := hb4.size; simp; omega))
      | (obtain ⟨w6, hw6⟩ : ∃ w6, (w5.setCell ⟨w3.heap.size, 0, none⟩ (.int .i64 a1)).setCell ⟨w3.heap.size, 1, none⟩ (.int .i64 a2) = w6 := ⟨_, rfl⟩
         rw [hw6]
         have hX6 : w6.heap[w3.heap.size]? = some (.cells #[.int .i64 a1, .int .i64 a2] 68 (0, 0)) := by rw [← hw6]; exact heap_setCell_same _ _ 1 _ _ _ (heap_setCell_same _ _ 0 _ _ _ hT)
         have hF56 : Frm [w3.heap.size, w.heap.size + 1, w.heap.size + 2] w5 w6 := by rw [← hw6]; exact ((Frm.refl _ _).setCell (.inl (by simp)) _).setCell (.inl (by simp)) _
         have hF36 : Frm (fpL f mi mg N) w3 w6 := by rw [← hw6]; exact hF8 _ _ _
         have hS3 : ∀ k ∈ [w3.heap.size, w.heap.size + 1, w.heap.size + 2], w.heap.size ≤ k ∧ k < w4.heap.size := (by have := hb4.size; have h9 : w3.heap.size < w4.heap.size := heap_lt (hl4 _ _ (heap_alloc_new w3.drew (.cells #[.int .i64 0, .int .i64 0] 68))); simp; omega))
      | (obtain ⟨w6, hw6⟩ : ∃ w6, (w5.setCell ⟨w4.heap.size, 0, none⟩ (.int .i64 a1)).setCell ⟨w4.heap.size, 1, none⟩ (.int .i64 a2) = w6 := ⟨_, rfl⟩
         rw [hw6]
         have hX6 : w6.heap[w4.heap.size]? = some (.cells #[.int .i64 a1, .int .i64 a2] 68 (0, 0)) := by rw [← hw6]; exact heap_setCell_same _ _ 1 _ _ _ (heap_setCell_same _ _ 0 _ _ _ hT)
         have hF56 : Frm [w4.heap.size, w.heap.size + 1, w.heap.size + 2] w5 w6 := by rw [← hw6]; exact ((Frm.refl _ _).setCell (.inl (by simp)) _).setCell (.inl (by simp)) _
         have hF36 : Frm (fpL f mi mg N) w3 w6 := by rw [← hw6]; exact hF8 _ _ _
         have hS3 : ∀ k ∈ [w4.heap.size, w.heap.size + 1, w.heap.size + 2], w.heap.size ≤ k ∧ k < (w4.alloc (.cells #[.int .i64 0, .int .i64 0] 68)).heap.size := (by have := hb4.size; simp; omega))
    have HS3 := Lib.hid hS3
    have HS5 := Lib.hid hS5
    have HF56 := Lib.hid hF56
    have HF36 := Lib.hid hF36
    have HB5 := Lib.hid hb5
    have z0 := cell_at hX6 0
    have z1 := cell_at hX6 1
    have d0 : w6.cell? ⟨w.heap.size + 2, 0, none⟩ = _ := cell_at (HA.out _ hF36).2 0
    have d1 : w6.cell? ⟨w.heap.size + 2, 1, none⟩ = _ := cell_at (HA.out _ hF36).2 1
    have d3 : w6.cell? ⟨w.heap.size + 2, 3, none⟩ = _ := cell_at (HA.out _ hF36).2 3
    have df : ∀ k, w6.frozen? ⟨w.heap.size + 2, k, none⟩ = false := fun k => frozen_of_row _ _ k _ _ (HA.out _ hF36).2
    clear hS3 hS5 hF56 hF36 hb5 hw6 hX6 hF5 hl5 hl4 hs5 hbz hbz2 hb4
    (try clear hF6)
    (try clear hF8)
    (try clear hT hge x8 x9 f8)
    simp at z0 z1 d0 d1 d3
    go_upto_region 22 with fail
    obtain ⟨w7, hw7⟩ : ∃ w7, ((w6.setCell ⟨w.heap.size + 2, 0, none⟩ (.int .i64 a1)).setCell ⟨w.heap.size + 2, 1, none⟩ (.int .i64 a2)).setCell ⟨w.heap.size + 2, 3, none⟩ (.int .i64 E) = w7 := ⟨_, rfl⟩
    rw [hw7]
    have HX7 := Lib.hid (show w7.heap[w.heap.size + 2]? = some (.cells #[.int .i64 a1, .int .i64 a2, .string ⟨#[]⟩, .int .i64 E] 62 (0, 0)) from by rw [← hw7]; exact heap_setCell_same _ _ 3 _ _ _ (heap_setCell_same _ _ 1 _ _ _ (heap_setCell_same _ _ 0 _ _ _ (HA.out _ HF36.out).2)))
    have HY7 := Lib.hid (show w7.heap[w.heap.size + 1]? = some (.cells #[.int .i64 0, .int .i64 0, .string ⟨#[]⟩, .int .i64 0] 62 (0, 0)) from by rw [← hw7, setCell_far _ _ _ _ _ (show w.heap.size + 1 ≠ w.heap.size + 2 by omega), setCell_far _ _ _ _ _ (show w.heap.size + 1 ≠ w.heap.size + 2 by omega), setCell_far _ _ _ _ _ (show w.heap.size + 1 ≠ w.heap.size + 2 by omega)]; exact (HA.out _ HF36.out).1)
    have HF67 := Lib.hid (show Frm [w.heap.size + 2] w6 w7 from by rw [← hw7]; exact (((Frm.refl _ _).setCell (.inl (by simp)) _).setCell (.inl (by simp)) _).setCell (.inl (by simp)) _)
    clear z0 z1 d0 d1 d3 hw7 df
    have d0 : w7.cell? ⟨w.heap.size + 2, 0, none⟩ = _ := cell_at HX7.out 0
    have d1 : w7.cell? ⟨w.heap.size + 2, 1, none⟩ = _ := cell_at HX7.out 1
    have d2 : w7.cell? ⟨w.heap.size + 2, 2, none⟩ = _ := cell_at HX7.out 2
    have d3 : w7.cell? ⟨w.heap.size + 2, 3, none⟩ = _ := cell_at HX7.out 3
    have HOne := Lib.hid (ans_one a1 a2 ⟨#[]⟩ E)
    go_wp2_with (refine wpList_store_row rfl 62 (.tmp 4) (.tmp 133) rfl w7 (w.heap.size + 1) _ _ _ rfl rfl HY7.out rfl ansI HOne.out ?_; intro w8 hX8 hG8)
    obtain ⟨K', hWf⟩ := HWf.out
    exact end_cell (p := 4) (by kernel_rfl) rfl hX8 ansT rfl ansI rfl rfl ⟨rfl, stepR_out HB5.out HS5.out hWf hlt2.out ((HF56.out.trans (HF67.out.mono (by simp))).trans (frm_grown hG8 (by simp))) HS3.out⟩

set_option maxRecDepth 100000 in
set_option maxHeartbeats 8000000 in
theorem does_7 {w : World} {f mi mg K : Nat} {r : RFs} {N : List Nd} (h : FsN w f mi mg r N) (hW : Wf r K) (h1 h2 g1 g2 : Int) (s1 s2 : ByteArray) (mk mm mt : Int) (ms : ByteArray) (fo : Bool) (at_ nn tm : Int) (bs : List UInt8) (A : Option Addr) (c : Nat) (_hq : FopQ w w.heap.size (⟨7, (h1, h2), (g1, g2), s1, s2, ⟨mk, mm, mt, ms⟩, fo, at_, nn, tm, bs⟩, A, c)) :
    Calls Try.prog 32 #[.pointer (some ⟨f, 0, none⟩), .agg #[.int .i64 7, .int .i64 h1, .int .i64 h2, .int .i64 g1, .int .i64 g2, .string s1, .string s2, .int .i64 mk, .int .i64 mm, .int .i64 mt, .string ms, .bool fo, .int .i64 at_, .int .i64 nn, .int .i64 tm, .slice A bs.length c]] w fun e w' => e = .returned (.agg #[.int .i64 0, .int .i64 0, .string ⟨(freadP r (h1, h2) at_ nn).1.toArray⟩, .int .i64 (freadP r (h1, h2) at_ nn).2]) ∧ StepR w w' f mi mg N r := by
  obtain ⟨w3, hw3, hB, hs3, hb0, hb1, hb2⟩ := box3 w #[.int .i64 7, .int .i64 h1, .int .i64 h2, .int .i64 g1, .int .i64 g2, .string s1, .string s2, .int .i64 mk, .int .i64 mm, .int .i64 mt, .string ms, .bool fo, .int .i64 at_, .int .i64 nn, .int .i64 tm, .slice A bs.length c] #[.int .i64 0, .int .i64 0, .string ⟨#[]⟩, .int .i64 0] #[.int .i64 0, .int .i64 0, .string ⟨#[]⟩, .int .i64 0] 59 62 62
  have HK := Lib.hid (show ∀ w', Below w3.heap.size w3 w' → (fun w' => w'.cell? ⟨w.heap.size, 1, none⟩ = some (.int .i64 h1) ∧ w'.cell? ⟨w.heap.size, 2, none⟩ = some (.int .i64 h2) ∧ w'.cell? ⟨w.heap.size, 12, none⟩ = some (.int .i64 at_) ∧ w'.cell? ⟨w.heap.size, 13, none⟩ = some (.int .i64 nn)) w' from fun w' hf => by
    have e0 := (hf.block w.heap.size (by omega)).trans hb0
    exact ⟨cell_at e0 1, cell_at e0 2, cell_at e0 12, cell_at e0 13⟩)
  have HA := Lib.hid (show ∀ w', Below w3.heap.size w3 w' → w'.heap[w.heap.size + 1]? = some (.cells #[.int .i64 0, .int .i64 0, .string ⟨#[]⟩, .int .i64 0] 62 (0, 0)) ∧ w'.heap[w.heap.size + 2]? = some (.cells #[.int .i64 0, .int .i64 0, .string ⟨#[]⟩, .int .i64 0] 62 (0, 0)) from fun w' hf =>
    ⟨(hf.block (w.heap.size + 1) (by omega)).trans hb1, (hf.block (w.heap.size + 2) (by omega)).trans hb2⟩)
  have HM := Lib.hid (show ∀ w4, Below w3.heap.size w3 w4 → Calls Try.prog 42 #[.pointer (some ⟨f, 0, none⟩), .agg #[.int .i64 h1, .int .i64 h2], .int .i64 at_, .int .i64 nn] w4 (fun e w' => ∃ P, e = .returned (.tuple #[.slice P (freadP r (h1, h2) at_ nn).1.length (freadP r (h1, h2) at_ nn).1.length, .int .i64 (freadP r (h1, h2) at_ nn).2]) ∧ OwnB w4 w' P (freadP r (h1, h2) at_ nn).1 ∧ Below w3.heap.size w3 w') from fun w4 hb =>
    (fread_any (h.below hW (hB.trans (hb.mono (by omega)))) hW h1 h2 at_ nn).mono fun e w' ⟨P, he, ho, hs⟩ => ⟨P, he, ho, hb.trans (hs.mono hb.size)⟩)
  have HO := Lib.hid (show ∀ (x y : Int) w4, Below w3.heap.size w3 w4 → Calls Try.prog 34 #[.agg #[.int .i64 x, .int .i64 y]] w4 (fun e w' => e = .returned (.agg #[.int .i64 x, .int .i64 y]) ∧ Below w3.heap.size w3 w') from fun x y w4 hb =>
    (own_any w4 x y).mono fun e w' ⟨he, hs⟩ => ⟨he, hb.trans (hs.mono hb.size)⟩)
  have HF := Lib.hid h
  have HWf := Lib.hid hW
  generalize freadP r (h1, h2) at_ nn = bE at *
  obtain ⟨b, E⟩ := bE
  dsimp only at HM ⊢
  have HW3 := Lib.hid hw3
  have HB := Lib.hid hB
  have hbz := Below.refl w3.heap.size w3
  have hbz2 := hbz.drew
  obtain ⟨y1, y2, y12, y13⟩ := HK.out w3 (Below.refl _ _)
  clear hw3 hB hb0 hb1 hb2 h hW _hq
  go_enter Try.func32, Try.ntmps32
  go_wp2_with fail
  rw [HW3.out]
  go_region_held3 (fun w' => w'.cell? ⟨w.heap.size, 1, none⟩ = some (.int .i64 h1) ∧ w'.cell? ⟨w.heap.size, 2, none⟩ = some (.int .i64 h2) ∧ w'.cell? ⟨w.heap.size, 12, none⟩ = some (.int .i64 at_) ∧ w'.cell? ⟨w.heap.size, 13, none⟩ = some (.int .i64 nn))
    (first | exact HK.out _ hb5 | exact HK.out _ (by assumption) | go_keep)
    (first
      | (go_at_call 34; (with_reducible refine (HO.out _ _ _ (by assumption)).mono ?_); rintro e w4 ⟨rfl, hb4⟩)
      | (go_at_call 42; (with_reducible refine (HM.out _ (by assumption)).mono ?_); rintro e w5 ⟨P, rfl, ho5, hb5⟩))
  have hcv := ownB_str ho5
  have HB5 := Lib.hid hb5
  have d1 : w5.cell? ⟨w.heap.size + 2, 2, none⟩ = _ := cell_at (HA.out _ hb5).2 2
  have d3 : w5.cell? ⟨w.heap.size + 2, 3, none⟩ = _ := cell_at (HA.out _ hb5).2 3
  have df : ∀ k, w5.frozen? ⟨w.heap.size + 2, k, none⟩ = false := fun k => frozen_of_row _ _ k _ _ (HA.out _ hb5).2
  simp at d1 d3
  clear ho5 hb5 hbz hbz2
  go_upto_region 22 with fail
  obtain ⟨w7, hw7⟩ : ∃ w7, (w5.setCell ⟨w.heap.size + 2, 2, none⟩ (.string ⟨b.toArray⟩)).setCell ⟨w.heap.size + 2, 3, none⟩ (.int .i64 E) = w7 := ⟨_, rfl⟩
  rw [hw7]
  have HX7 := Lib.hid (show w7.heap[w.heap.size + 2]? = some (.cells #[.int .i64 0, .int .i64 0, .string ⟨b.toArray⟩, .int .i64 E] 62 (0, 0)) from by rw [← hw7]; exact heap_setCell_same _ _ 3 _ _ _ (heap_setCell_same _ _ 2 _ _ _ (HA.out _ HB5.out).2))
  have HY7 := Lib.hid (show w7.heap[w.heap.size + 1]? = some (.cells #[.int .i64 0, .int .i64 0, .string ⟨#[]⟩, .int .i64 0] 62 (0, 0)) from by rw [← hw7, setCell_far _ _ _ _ _ (show w.heap.size + 1 ≠ w.heap.size + 2 by omega), setCell_far _ _ _ _ _ (show w.heap.size + 1 ≠ w.heap.size + 2 by omega)]; exact (HA.out _ HB5.out).1)
  have HB7 := Lib.hid (show Below w.heap.size w w7 from by rw [← hw7]; exact (((HB.out.trans (HB5.out.mono (by omega))).setCell (show w.heap.size ≤ w.heap.size + 2 by omega) _).setCell (show w.heap.size ≤ w.heap.size + 2 by omega) _))
  have hs7 : w5.heap.size ≤ w7.heap.size := by rw [← hw7]; exact Nat.le_trans ((Frm.refl [w.heap.size + 2] w5).setCell (.inl (by simp)) _).size (((Frm.refl [w.heap.size + 2] _).setCell (.inl (by simp)) _).size)
  have hs5 := HB5.out.size
  clear d1 d3 hw7 df
  have d0 : w7.cell? ⟨w.heap.size + 2, 0, none⟩ = _ := cell_at HX7.out 0
  have d1 : w7.cell? ⟨w.heap.size + 2, 1, none⟩ = _ := cell_at HX7.out 1
  have d2 : w7.cell? ⟨w.heap.size + 2, 2, none⟩ = _ := cell_at HX7.out 2
  have d3 : w7.cell? ⟨w.heap.size + 2, 3, none⟩ = _ := cell_at HX7.out 3
  have HOne := Lib.hid (ans_one 0 0 ⟨b.toArray⟩ E)
  go_wp2_with (refine wpList_store_row rfl 62 (.tmp 4) (.tmp 133) rfl w7 (w.heap.size + 1) _ _ _ rfl rfl HY7.out rfl ansI HOne.out ?_; intro w8 hX8 hG8)
  exact end_cell (p := 4) (by kernel_rfl) rfl hX8 ansT rfl ansI rfl rfl ⟨rfl, stepR_below HF.out HWf.out (Below.grownBy HB7.out hG8 (by omega) (fun k hk => by injection hk with hk; omega))⟩

set_option maxRecDepth 100000 in
set_option maxHeartbeats 8000000 in
theorem does_none {w : World} {f mi mg K : Nat} {r : RFs} {N : List Nd} (h : FsN w f mi mg r N) (hW : Wf r K) (k : Int) (e0 : k ≠ 0) (e1 : k ≠ 1) (e2 : k ≠ 2) (e3 : k ≠ 3) (e4 : k ≠ 4) (e5 : k ≠ 5) (e6 : k ≠ 6) (e7 : k ≠ 7) (h1 h2 g1 g2 : Int) (s1 s2 : ByteArray) (mk mm mt : Int) (ms : ByteArray) (fo : Bool) (at_ nn tm : Int) (bs : List UInt8) (A : Option Addr) (c : Nat) :
    Calls Try.prog 32 #[.pointer (some ⟨f, 0, none⟩), .agg #[.int .i64 k, .int .i64 h1, .int .i64 h2, .int .i64 g1, .int .i64 g2, .string s1, .string s2, .int .i64 mk, .int .i64 mm, .int .i64 mt, .string ms, .bool fo, .int .i64 at_, .int .i64 nn, .int .i64 tm, .slice A bs.length c]] w fun e w' => e = .returned (.agg #[.int .i64 0, .int .i64 0, .string ⟨#[]⟩, .int .i64 0]) ∧ StepR w w' f mi mg N r := by
  obtain ⟨w3, hw3, hB, hs3, hb0, hb1, hb2⟩ := box3 w #[.int .i64 k, .int .i64 h1, .int .i64 h2, .int .i64 g1, .int .i64 g2, .string s1, .string s2, .int .i64 mk, .int .i64 mm, .int .i64 mt, .string ms, .bool fo, .int .i64 at_, .int .i64 nn, .int .i64 tm, .slice A bs.length c] #[.int .i64 0, .int .i64 0, .string ⟨#[]⟩, .int .i64 0] #[.int .i64 0, .int .i64 0, .string ⟨#[]⟩, .int .i64 0] 59 62 62
  have t0 : (k == 0) = false := beq_eq_false_iff_ne.2 e0
  have t1 : (k == 1) = false := beq_eq_false_iff_ne.2 e1
  have t2 : (k == 2) = false := beq_eq_false_iff_ne.2 e2
  have t3 : (k == 3) = false := beq_eq_false_iff_ne.2 e3
  have t4 : (k == 4) = false := beq_eq_false_iff_ne.2 e4
  have t5 : (k == 5) = false := beq_eq_false_iff_ne.2 e5
  have t6 : (k == 6) = false := beq_eq_false_iff_ne.2 e6
  have t7 : (k == 7) = false := beq_eq_false_iff_ne.2 e7
  have HY3 := Lib.hid hb1
  have HF := Lib.hid h
  have HWf := Lib.hid hW
  have HW3 := Lib.hid hw3
  have HB := Lib.hid hB
  have HOne := Lib.hid (ans_one 0 0 ⟨#[]⟩ 0)
  have d0 : w3.cell? ⟨w.heap.size + 2, 0, none⟩ = _ := cell_at hb2 0
  have d1 : w3.cell? ⟨w.heap.size + 2, 1, none⟩ = _ := cell_at hb2 1
  have d2 : w3.cell? ⟨w.heap.size + 2, 2, none⟩ = _ := cell_at hb2 2
  have d3 : w3.cell? ⟨w.heap.size + 2, 3, none⟩ = _ := cell_at hb2 3
  clear hw3 hB hb0 hb1 hb2 h hW e0 e1 e2 e3 e4 e5 e6 e7
  go_enter Try.func32, Try.ntmps32
  go_upto_region 22 with fail
  rw [HW3.out]
  go_wp2_with (refine wpList_store_row rfl 62 (.tmp 4) (.tmp 133) rfl w3 (w.heap.size + 1) _ _ _ rfl rfl HY3.out rfl ansI HOne.out ?_; intro w8 hX8 hG8)
  exact end_cell (p := 4) (by kernel_rfl) rfl hX8 ansT rfl ansI rfl rfl ⟨rfl, stepR_below HF.out HWf.out (Below.grownBy HB.out hG8 (by omega) (fun k hk => by injection hk with hk; omega))⟩
end Go.Proofs.Ytpcjmefchclhhaa

/- A call of a script on the program's file system, whatever it is; what Free tells lies between its bounds. -/
namespace Go.Proofs.Ytpcjmefchclhhaa
open Go.RowKit Go.MapKept

def ansV (p : RFs × (Int × Int) × Int × List UInt8) : Value := .agg #[.int .i64 p.2.1.1, .int .i64 p.2.1.2, .string ⟨p.2.2.2.toArray⟩, .int .i64 p.2.2.1]
theorem does_any17 {w : World} {f mi mg K : Nat} {r : RFs} {N : List Nd} (h : FsN w f mi mg r N) (hW : Wf r K) (hK : K ≤ 1000000) (x : OpF × Option Addr × Nat) (hq : FopQ w w.heap.size x) :
    Calls Try.prog 32 #[.pointer (some ⟨f, 0, none⟩), .agg (fopC x).toArray] w fun e w' => e = .returned (ansV (doP r x.1)) ∧ StepR w w' f mi mg N (doP r x.1).1 := by
  obtain ⟨⟨k, ⟨h1, h2⟩, ⟨g1, g2⟩, s1, s2, ⟨mk, mm, mt, ms⟩, fo, at_, nn, tm, bs⟩, A, c⟩ := x
  unfold doP
  dsimp only
  by_cases hk0 : k = 0
  · subst hk0
    rw [if_pos rfl]
    exact does_0 h hW hK h1 h2 g1 g2 s1 s2 mk mm mt ms fo at_ nn tm bs A c hq
  rw [if_neg hk0]
  by_cases hk1 : k = 1
  · subst hk1
    rw [if_pos rfl]
    exact does_1 h hW h1 h2 g1 g2 s1 s2 mk mm mt ms fo at_ nn tm bs A c hq
  rw [if_neg hk1]
  by_cases hk2 : k = 2
  · subst hk2
    rw [if_pos rfl]
    exact does_2 h hW h1 h2 g1 g2 s1 s2 mk mm mt ms fo at_ nn tm bs A c hq
  rw [if_neg hk2]
  by_cases hk3 : k = 3
  · subst hk3
    rw [if_pos rfl]
    exact does_3 h hW h1 h2 g1 g2 s1 s2 mk mm mt ms fo at_ nn tm bs A c hq
  rw [if_neg hk3]
  by_cases hk4 : k = 4
  · subst hk4
    rw [if_pos rfl]
    exact does_4 h hW h1 h2 g1 g2 s1 s2 mk mm mt ms fo at_ nn tm bs A c hq
  rw [if_neg hk4]
  by_cases hk5 : k = 5
  · subst hk5
    rw [if_pos rfl]
    exact does_5 h hW h1 h2 g1 g2 s1 s2 mk mm mt ms fo at_ nn tm bs A c hq
  rw [if_neg hk5]
  by_cases hk6 : k = 6
  · subst hk6
    rw [if_pos rfl]
    exact does_6 h hW h1 h2 g1 g2 s1 s2 mk mm mt ms fo at_ nn tm bs A c hq
  rw [if_neg hk6]
  by_cases hk7 : k = 7
  · subst hk7
    rw [if_pos rfl]
    exact does_7 h hW h1 h2 g1 g2 s1 s2 mk mm mt ms fo at_ nn tm bs A c hq
  rw [if_neg hk7]
  exact does_none h hW k hk0 hk1 hk2 hk3 hk4 hk5 hk6 hk7 h1 h2 g1 g2 s1 s2 mk mm mt ms fo at_ nn tm bs A c
theorem does_at {W w : World} {f mi mg K : Nat} {r : RFs} {N : List Nd} (h : FsAt W w f mi mg r K N) (hK : K ≤ 1000000) (x : OpF × Option Addr × Nat) (hq : FopQ w w.heap.size x) :
    Calls Try.prog 32 #[.pointer (some ⟨f, 0, none⟩), .agg (fopC x).toArray] w fun e w' => e = .returned (ansV (doP r x.1)) ∧ ∃ N', Goes W w w' f mi mg N (doP r x.1).1 (K + 1) N' :=
  (does_any17 h.fs h.wf hK x hq).mono fun _ _ ⟨he, hS⟩ => ⟨he, h.step (Below.refl _ _) hS (wf_do h.fs h.wf _)⟩
/-- An element's load, its run known. -/
theorem wpList_load_at {P : Program} {ops : Array Oper} {rest : List Oper} {o : Oper} {a : Act} {w : World} {Q : Exit → Act → World → Prop} (hgd : o.guard = none) (ty : TypeId) (x : Operand) (ho : o.op = .load ty x) (p : Addr) (v : Value) (hx : a.eval x = .pointer (some p)) (hl : (loadVar ty p).run P w = .ok v w)
    (h : wpList P ops Q rest (a.put o.dst v) w) : wpList P ops Q (o :: rest) a w := wpList_plain hgd fun _ hK => by
  unfold Oper.wp execOp
  simp only [ho, hx, Instr.loadAt, Instr.sureAddr, Sem.run_bind, Sem.run_pure, Result.andThen_ok, hl]
  exact hK _ _ h
theorem opT : Try.prog.underlying 59 = some (.struct (Try.prog.fieldsOf 59)) := by kernel_rfl
theorem opI (x : OpF × Option Addr × Nat) : (Try.prog.info? 59).map (·.size) = some (fopC x).toArray.size := by
  show _ = some 16
  kernel_rfl
theorem opI2 : (Try.prog.info? 59).map (·.size) = some 16 := by kernel_rfl
theorem fop_one (x : OpF × Option Addr × Nat) : ∀ u ∈ (fopC x).toArray.toList, u.oneCell' = true := fun u hu => by
  simp [fopC] at hu
  rcases hu with rfl | rfl | rfl | rfl | rfl | rfl | rfl | rfl | rfl | rfl | rfl | rfl | rfl | rfl | rfl | rfl <;> rfl
theorem load_fop {w : World} {B : Nat} {a : Addr} {l : List (OpF × Option Addr × Nat)} (h : Rd w B 16 fopC (some a) l) {i : Nat} (hi : i < l.length) : (loadVar 59 (a.add (i * 16))).run Try.prog w = .ok (.agg (fopC l[i]).toArray) w := by
  have h1 := run_loadCells_list (P := Try.prog) (w := w) (a.add (i * 16)) (fopC l[i]) (fun j v hv => h.cell hi hv)
  have hs : (sizeOf 59).run Try.prog w = .ok 16 w := by kernel_rfl
  have ha : (isAgg 59).run Try.prog w = .ok true w := by kernel_rfl
  unfold loadVar
  simp only [Sem.run_bind, ha, hs, Result.andThen_ok, if_true]
  rw [show (fopC l[i]).length = 16 from rfl] at h1
  rw [h1]
  rfl
theorem room_bounds {r : RFs} {K : Nat} (hW : Wf r K) : decide (roomP r < 0) = false ∧ decide (r.room < roomP r) = false ∧ decide (200 - (r.ins.length : Int) < 0) = false ∧ decide (200 ≤ 200 - (r.ins.length : Int)) = false := by
  have h1 := hW.sp
  have h2 := hW.cnt
  obtain ⟨x, hx, _⟩ := hW.root
  have h3 : 0 < r.ins.length := List.length_pos_of_mem hx
  unfold roomP usedN
  refine ⟨decide_eq_false ?_, decide_eq_false ?_, decide_eq_false ?_, decide_eq_false ?_⟩ <;> omega
end Go.Proofs.Ytpcjmefchclhhaa

/- Stat. -/
namespace Go.Proofs.Ytpcjmefchclhhaa
open Go.RowKit Go.MapKept

theorem infoI : (Try.prog.info? 71).map (·.size) = some 8 := by kernel_rfl
theorem infoT : Try.prog.underlying 71 = some (.struct (Try.prog.fieldsOf 71)) := by kernel_rfl
def sizeN (r : RFs) (x : RIn) : Int := if x.kind = 1 then x.B.length else if x.kind = 2 then manyP r.nms x.id else x.target.size
def infoV (i g k m l s b t : Int) : Value := .agg #[.int .i64 i, .int .i64 g, .int .i64 k, .int .i64 m, .int .i64 l, .int .i64 s, .int .i64 b, .int .i64 t]
def statV (r : RFs) (h : Int × Int) : Value :=
  if liveP r h = true then .tuple #[infoV h.1 h.2 (byIdP r.ins h.1).kind (byIdP r.ins h.1).mode (linksN r (byIdP r.ins h.1)) (sizeN r (byIdP r.ins h.1)) ((byIdP r.ins h.1).On.length : Int) (byIdP r.ins h.1).time, .int .i64 0]
  else .tuple #[infoV 0 0 0 0 0 0 0 0, .int .i64 175]
theorem agg8_one (a b c d e f g h : Int) : ∀ v ∈ (#[.int .i64 a, .int .i64 b, .int .i64 c, .int .i64 d, .int .i64 e, .int .i64 f, .int .i64 g, .int .i64 h] : Array Value).toList, v.oneCell' = true := fun v hv => by
  simp at hv
  rcases hv with rfl | rfl | rfl | rfl | rfl | rfl | rfl | rfl <;> rfl

set_option maxRecDepth 100000 in
set_option maxHeartbeats 8000000 in
theorem stat_any {w : World} {f mi mg K : Nat} {r : RFs} {N : List Nd} (h : FsN w f mi mg r N) (hW : Wf r K) (i g : Int) :
    Calls Try.prog 35 #[.pointer (some ⟨f, 0, none⟩), .agg #[.int .i64 i, .int .i64 g]] w fun e w' => e = .returned (statV r (i, g)) ∧ Below w.heap.size w w' := by
  obtain ⟨w2, hw2, hB, hs2, hb0, hb1⟩ := box2 w #[.int .i64 i, .int .i64 g] #[.int .i64 0, .int .i64 0, .int .i64 0, .int .i64 0, .int .i64 0, .int .i64 0, .int .i64 0, .int .i64 0] 68 71
  have t0 : w2.cell? ⟨w.heap.size, 0, none⟩ = some (.int .i64 i) := by rw [cell_at hb0]; rfl
  have t1 : w2.cell? ⟨w.heap.size, 1, none⟩ = some (.int .i64 g) := by rw [cell_at hb0]; rfl
  have h2 := h.below hW hB
  have HW2 := Lib.hid hw2
  have HB := Lib.hid hB
  have HB1 := Lib.hid hb1
  have HB0 := Lib.hid hb0
  cases hl : liveP r (i, g)
  · rw [show statV r (i, g) = .tuple #[infoV 0 0 0 0 0 0 0 0, .int .i64 175] by unfold statV; rw [hl]; rfl]
    have HFd := Lib.hid (find_no h2 hW i g hl)
    have HPv := Lib.hid (agg8_one 0 0 0 0 0 0 0 0)
    unfold infoV
    clear hw2 hB hb0 hb1 h h2 hW hl
    go_enter Try.func35, Try.ntmps35
    go_wp2_with fail
    rw [HW2.out]
    go_wp2_with (first
      | (go_at_call 57; (with_reducible refine HFd.out.mono ?_); rintro e w3 ⟨rfl, hB3⟩; have hX3 := (hB3.block _ (by omega)).trans HB1.out; have hs3 := hB3.size; replace hB3 := Lib.hid hB3; replace hX3 := Lib.hid hX3)
      | (refine wpList_store_row rfl 71 (.tmp 4) (.tmp 20) rfl w3 (w.heap.size + 1) _ _ _ rfl rfl hX3.out rfl infoI HPv.out ?_; intro w5 hX5 hG5))
    have hb5 := Below.grownBy (HB.out.trans (hB3.out.mono (by omega))) hG5 (by omega) (fun k hk => by injection hk with hk; omega)
    exact end_cell_tmp (p := 4) (u := 5) rfl rfl hX5 infoT rfl infoI rfl rfl ⟨rfl, hb5⟩
  · obtain ⟨m1, m2, m3⟩ := live_mem hl
    obtain ⟨n, hn, hr⟩ := h2.at_ hW m1
    have HFd := Lib.hid (find_yes h2 hW i g hl hn (hr.id.trans m2))
    unfold ptrV at HFd
    have hxk := hW.kind _ m1
    rw [show statV r (i, g) = .tuple #[infoV i g (byIdP r.ins i).kind (byIdP r.ins i).mode (linksN r (byIdP r.ins i)) (sizeN r (byIdP r.ins i)) ((byIdP r.ins i).On.length : Int) (byIdP r.ins i).time, .int .i64 0] by unfold statV; rw [if_pos hl]]
    have HX := Lib.hid (show ∀ w3, Below w2.heap.size w2 w3 → NodeR w3 r (byIdP r.ins i) n from fun w3 hb => hr.below hxk hb)
    have HFi := Lib.hid (hW.file _ m1)
    have HXi := Lib.hid m2
    generalize byIdP r.ins i = x at *
    generalize hlk : linksN r x = lk at *
    have HLk := Lib.hid hlk
    clear hlk
    unfold infoV
    clear hw2 hB hb0 hb1 h h2 hW hl m1 m2 m3 hn hr
    have hkk : x.kind = 1 ∨ x.kind = 2 ∨ x.kind = 3 := hxk
    rcases hkk with hk | hk | hk
    · have hta : ∀ w, (Instr.typeAssert (holdsV x n) 20 23 true).run Try.prog w = .ok (.tuple #[.pointer (some ⟨n.b, 0, none⟩), .bool true]) w := fun w => by rw [ta_sht, if_pos hk]; rfl
      have hsz : sizeN r x = x.B.length := by unfold sizeN; rw [if_pos hk]
      rw [hsz, hk]
      go_enter Try.func35, Try.ntmps35
      go_wp2_with fail
      rw [HW2.out]
      go_upto_region 4 with (go_at_call 57; (with_reducible refine HFd.out.mono ?_); rintro e w3 ⟨rfl, hB3⟩; have hX3 := (hB3.block _ (by omega)).trans HB1.out; have hs3 := hB3.size; obtain ⟨-, -, x2, x3, x4, x5⟩ := (HX.out w3 hB3).cells; have hY3 := (hB3.block _ (by omega)).trans HB0.out; have y0 : w3.cell? ⟨w.heap.size, 0, none⟩ = _ := cell_at hY3 0; have y1 : w3.cell? ⟨w.heap.size, 1, none⟩ = _ := cell_at hY3 1; clear hY3; replace hB3 := Lib.hid hB3; replace hX3 := Lib.hid hX3)
      rw [HLk.out] at x4
      go_region_held3 (fun w' => w'.cell? ⟨w.heap.size, 0, none⟩ = some (.int .i64 i) ∧ w'.cell? ⟨w.heap.size, 1, none⟩ = some (.int .i64 g) ∧ w'.cell? ⟨n.blk, 2, none⟩ = some (.int .i64 x.mode) ∧ w'.cell? ⟨n.blk, 3, none⟩ = some (.int .i64 x.time) ∧ w'.cell? ⟨n.blk, 4, none⟩ = some (.int .i64 (lk : Int)) ∧ w'.cell? ⟨n.blk, 5, none⟩ = some (holdsV x n))
        (go_keep)
        (fail)
      go_upto_region 5 with fail
      clear x2 x3 x4 x5 y0 y1
      obtain ⟨w4, hw4⟩ : ∃ w4, (w3.alloc (.cells #[.int .i64 i, .int .i64 g, .int .i64 0, .int .i64 x.mode, .int .i64 (lk : Int), .int .i64 0, .int .i64 0, .int .i64 x.time] 71)).drew = w4 := ⟨_, rfl⟩
      rw [hw4]
      have HX4 := Lib.hid ((show w4.heap[w.heap.size + 1]? = w3.heap[w.heap.size + 1]? from by rw [← hw4]; exact Below.heap_alloc _ _ _ (by omega)).trans hX3.out)
      have hN4 : w4.heap[w3.heap.size]? = some (.cells #[.int .i64 i, .int .i64 g, .int .i64 0, .int .i64 x.mode, .int .i64 (lk : Int), .int .i64 0, .int .i64 0, .int .i64 x.time] 71 (0, 0)) := by rw [← hw4]; exact heap_alloc_new _ _
      have HB4 := Lib.hid (show Below w2.heap.size w2 w4 from by rw [← hw4]; exact (hB3.out.alloc hs3 _).drew)
      clear hw4
      have d0 := cell_at hN4 0
      have d1 := cell_at hN4 1
      have d2 := cell_at hN4 2
      have d3 := cell_at hN4 3
      have d4 := cell_at hN4 4
      have d5 := cell_at hN4 5
      have d6 := cell_at hN4 6
      have d7 := cell_at hN4 7
      simp at d0 d1 d2 d3 d4 d5 d6 d7
      have df : ∀ k, w4.frozen? ⟨w3.heap.size, k, none⟩ = false := fun k => by simp [World.frozen?, hN4]
      have x5 := (HX.out _ HB4.out).cells.2.2.2.2.2
      obtain ⟨size, bl, hR, hS⟩ := (HX.out _ HB4.out).file hk
      have HSz := Lib.hid (size_any hR)
      have HBl := Lib.hid (blocks_any hR)
      rw [← same_blocks hS] at HBl
      rw [← hS.len] at HSz
      clear hR hS
      go_upto_region 15 with (first
        | (go_at_call 22; (with_reducible refine HSz.out.mono ?_); rintro e w5 ⟨rfl, rfl⟩)
        | (go_at_call 21; (with_reducible refine HBl.out.mono ?_); rintro e w5 ⟨rfl, rfl⟩))
      obtain ⟨w5, hw5⟩ : ∃ w5, (((w4.setCell ⟨w3.heap.size, 2, none⟩ (.int .i64 1)).setCell ⟨w3.heap.size, 5, none⟩ (.int .i64 (x.B.length : Int))).setCell ⟨w3.heap.size, 6, none⟩ (.int .i64 (x.On.length : Int))) = w5 := ⟨_, rfl⟩
      rw [hw5]
      have hX5 := (show w5.heap[w.heap.size + 1]? = w4.heap[w.heap.size + 1]? from by rw [← hw5]; simp only [setCell_far _ _ _ _ _ (show w.heap.size + 1 ≠ w3.heap.size by omega)]).trans HX4.out
      have hN5 : w5.heap[w3.heap.size]? = some (.cells #[.int .i64 i, .int .i64 g, .int .i64 1, .int .i64 x.mode, .int .i64 (lk : Int), .int .i64 (x.B.length : Int), .int .i64 (x.On.length : Int), .int .i64 x.time] 71 (0, 0)) := by
        rw [← hw5]
        exact (heap_setCell_same _ _ 6 _ _ _ (heap_setCell_same _ _ 5 _ _ _ (heap_setCell_same _ _ 2 _ _ _ hN4)))
      have HB5 := Lib.hid (show Below w2.heap.size w2 w5 from by rw [← hw5]; exact ((((((HB4.out).setCell (by omega) _)).setCell (by omega) _)).setCell (by omega) _))
      clear hw5 d0 d1 d2 d3 d4 d5 d6 d7 df hN4
      have d0 := cell_at hN5 0
      have d1 := cell_at hN5 1
      have d2 := cell_at hN5 2
      have d3 := cell_at hN5 3
      have d4 := cell_at hN5 4
      have d5 := cell_at hN5 5
      have d6 := cell_at hN5 6
      have d7 := cell_at hN5 7
      simp at d0 d1 d2 d3 d4 d5 d6 d7
      clear hN5
      have HX5 := Lib.hid hX5
      clear hX5
      have HPv := Lib.hid (agg8_one i g 1 x.mode lk (x.B.length : Int) (x.On.length : Int) x.time)
      go_wp2_with (refine wpList_store_row rfl 71 (.tmp 4) (.tmp 67) rfl _ (w.heap.size + 1) _ _ _ rfl rfl HX5.out rfl infoI HPv.out ?_; intro w6 hX6 hG6)
      have hb6 := Below.grownBy (HB.out.trans (HB5.out.mono (by omega))) hG6 (Nat.le_trans (by omega) HB5.out.size) (fun k hk => by injection hk with hk; omega)
      exact end_cell_tmp (p := 4) (u := 5) rfl rfl hX6 infoT rfl infoI rfl rfl ⟨rfl, hb6⟩
    · have hta : ∀ w, (Instr.typeAssert (holdsV x n) 20 23 true).run Try.prog w = .ok (.tuple #[.pointer none, .bool false]) w := fun w => by rw [ta_sht, if_neg (by omega)]
      have htd : ∀ w, (Instr.typeAssert (holdsV x n) 20 108 true).run Try.prog w = .ok (.tuple #[.pointer (some ⟨n.b, 0, none⟩), .bool true]) w := fun w => by rw [ta_dir, if_pos hk]; rfl
      have hsz : sizeN r x = manyP r.nms x.id := by unfold sizeN; rw [if_neg (by omega), if_pos hk]
      have hon : x.On = [] := (HFi.out (by omega)).2
      rw [hsz, hon, hk]
      go_enter Try.func35, Try.ntmps35
      go_wp2_with fail
      rw [HW2.out]
      go_upto_region 4 with (go_at_call 57; (with_reducible refine HFd.out.mono ?_); rintro e w3 ⟨rfl, hB3⟩; have hX3 := (hB3.block _ (by omega)).trans HB1.out; have hs3 := hB3.size; obtain ⟨-, -, x2, x3, x4, x5⟩ := (HX.out w3 hB3).cells; have hY3 := (hB3.block _ (by omega)).trans HB0.out; have y0 : w3.cell? ⟨w.heap.size, 0, none⟩ = _ := cell_at hY3 0; have y1 : w3.cell? ⟨w.heap.size, 1, none⟩ = _ := cell_at hY3 1; clear hY3; replace hB3 := Lib.hid hB3; replace hX3 := Lib.hid hX3)
      rw [HLk.out] at x4
      go_region_held3 (fun w' => w'.cell? ⟨w.heap.size, 0, none⟩ = some (.int .i64 i) ∧ w'.cell? ⟨w.heap.size, 1, none⟩ = some (.int .i64 g) ∧ w'.cell? ⟨n.blk, 2, none⟩ = some (.int .i64 x.mode) ∧ w'.cell? ⟨n.blk, 3, none⟩ = some (.int .i64 x.time) ∧ w'.cell? ⟨n.blk, 4, none⟩ = some (.int .i64 (lk : Int)) ∧ w'.cell? ⟨n.blk, 5, none⟩ = some (holdsV x n))
        (go_keep)
        (fail)
      go_upto_region 5 with fail
      clear x2 x3 x4 x5 y0 y1
      obtain ⟨w4, hw4⟩ : ∃ w4, (w3.alloc (.cells #[.int .i64 i, .int .i64 g, .int .i64 0, .int .i64 x.mode, .int .i64 (lk : Int), .int .i64 0, .int .i64 0, .int .i64 x.time] 71)).drew = w4 := ⟨_, rfl⟩
      rw [hw4]
      have HX4 := Lib.hid ((show w4.heap[w.heap.size + 1]? = w3.heap[w.heap.size + 1]? from by rw [← hw4]; exact Below.heap_alloc _ _ _ (by omega)).trans hX3.out)
      have hN4 : w4.heap[w3.heap.size]? = some (.cells #[.int .i64 i, .int .i64 g, .int .i64 0, .int .i64 x.mode, .int .i64 (lk : Int), .int .i64 0, .int .i64 0, .int .i64 x.time] 71 (0, 0)) := by rw [← hw4]; exact heap_alloc_new _ _
      have HB4 := Lib.hid (show Below w2.heap.size w2 w4 from by rw [← hw4]; exact (hB3.out.alloc hs3 _).drew)
      clear hw4
      have d0 := cell_at hN4 0
      have d1 := cell_at hN4 1
      have d2 := cell_at hN4 2
      have d3 := cell_at hN4 3
      have d4 := cell_at hN4 4
      have d5 := cell_at hN4 5
      have d6 := cell_at hN4 6
      have d7 := cell_at hN4 7
      simp at d0 d1 d2 d3 d4 d5 d6 d7
      have df : ∀ k, w4.frozen? ⟨w3.heap.size, k, none⟩ = false := fun k => by simp [World.frozen?, hN4]
      have x5 := (HX.out _ HB4.out).cells.2.2.2.2.2
      have hr4 := HX.out _ HB4.out
      obtain ⟨g1, g2⟩ := hr4.dir hk
      have c5 := cell_at g1 0
      have c6 : (Builtin.len_ #[109] 3 #[.map (some n.m)]).run Try.prog w4 = .ok (.int .i64 (manyP r.nms x.id : Int)) w4 := by
        rw [← namesP_len]
        exact run_len_map Try.underlying109 g2
      have hb5 : c5 = c5 := rfl
      clear hr4 g1 g2 hb5
      go_upto_region 15 with fail
      obtain ⟨w5, hw5⟩ : ∃ w5, ((w4.setCell ⟨w3.heap.size, 2, none⟩ (.int .i64 2)).setCell ⟨w3.heap.size, 5, none⟩ (.int .i64 (manyP r.nms x.id : Int))) = w5 := ⟨_, rfl⟩
      rw [hw5]
      have hX5 := (show w5.heap[w.heap.size + 1]? = w4.heap[w.heap.size + 1]? from by rw [← hw5]; simp only [setCell_far _ _ _ _ _ (show w.heap.size + 1 ≠ w3.heap.size by omega)]).trans HX4.out
      have hN5 : w5.heap[w3.heap.size]? = some (.cells #[.int .i64 i, .int .i64 g, .int .i64 2, .int .i64 x.mode, .int .i64 (lk : Int), .int .i64 (manyP r.nms x.id : Int), .int .i64 0, .int .i64 x.time] 71 (0, 0)) := by
        rw [← hw5]
        exact (heap_setCell_same _ _ 5 _ _ _ (heap_setCell_same _ _ 2 _ _ _ hN4))
      have HB5 := Lib.hid (show Below w2.heap.size w2 w5 from by rw [← hw5]; exact ((((HB4.out).setCell (by omega) _)).setCell (by omega) _))
      clear hw5 d0 d1 d2 d3 d4 d5 d6 d7 df hN4
      have d0 := cell_at hN5 0
      have d1 := cell_at hN5 1
      have d2 := cell_at hN5 2
      have d3 := cell_at hN5 3
      have d4 := cell_at hN5 4
      have d5 := cell_at hN5 5
      have d6 := cell_at hN5 6
      have d7 := cell_at hN5 7
      simp at d0 d1 d2 d3 d4 d5 d6 d7
      clear hN5
      have HX5 := Lib.hid hX5
      clear hX5
      have HPv := Lib.hid (agg8_one i g 2 x.mode lk (manyP r.nms x.id : Int) 0 x.time)
      go_wp2_with (refine wpList_store_row rfl 71 (.tmp 4) (.tmp 67) rfl _ (w.heap.size + 1) _ _ _ rfl rfl HX5.out rfl infoI HPv.out ?_; intro w6 hX6 hG6)
      have hb6 := Below.grownBy (HB.out.trans (HB5.out.mono (by omega))) hG6 (Nat.le_trans (by omega) HB5.out.size) (fun k hk => by injection hk with hk; omega)
      exact end_cell_tmp (p := 4) (u := 5) rfl rfl hX6 infoT rfl infoI rfl rfl ⟨rfl, hb6⟩
    · have hta : ∀ w, (Instr.typeAssert (holdsV x n) 20 23 true).run Try.prog w = .ok (.tuple #[.pointer none, .bool false]) w := fun w => by rw [ta_sht, if_neg (by omega)]
      have htd : ∀ w, (Instr.typeAssert (holdsV x n) 20 108 true).run Try.prog w = .ok (.tuple #[.pointer none, .bool false]) w := fun w => by rw [ta_dir, if_neg (by omega)]
      have htt : ∀ w, (Instr.typeAssert (holdsV x n) 20 9 true).run Try.prog w = .ok (.tuple #[.string x.target, .bool true]) w := fun w => by rw [ta_str, if_pos (by omega)]
      have hsz : sizeN r x = x.target.size := by unfold sizeN; rw [if_neg (by omega), if_neg (by omega)]
      have hon : x.On = [] := (HFi.out (by omega)).2
      rw [hsz, hon, hk]
      go_enter Try.func35, Try.ntmps35
      go_wp2_with fail
      rw [HW2.out]
      go_upto_region 4 with (go_at_call 57; (with_reducible refine HFd.out.mono ?_); rintro e w3 ⟨rfl, hB3⟩; have hX3 := (hB3.block _ (by omega)).trans HB1.out; have hs3 := hB3.size; obtain ⟨-, -, x2, x3, x4, x5⟩ := (HX.out w3 hB3).cells; have hY3 := (hB3.block _ (by omega)).trans HB0.out; have y0 : w3.cell? ⟨w.heap.size, 0, none⟩ = _ := cell_at hY3 0; have y1 : w3.cell? ⟨w.heap.size, 1, none⟩ = _ := cell_at hY3 1; clear hY3; replace hB3 := Lib.hid hB3; replace hX3 := Lib.hid hX3)
      rw [HLk.out] at x4
      go_region_held3 (fun w' => w'.cell? ⟨w.heap.size, 0, none⟩ = some (.int .i64 i) ∧ w'.cell? ⟨w.heap.size, 1, none⟩ = some (.int .i64 g) ∧ w'.cell? ⟨n.blk, 2, none⟩ = some (.int .i64 x.mode) ∧ w'.cell? ⟨n.blk, 3, none⟩ = some (.int .i64 x.time) ∧ w'.cell? ⟨n.blk, 4, none⟩ = some (.int .i64 (lk : Int)) ∧ w'.cell? ⟨n.blk, 5, none⟩ = some (holdsV x n))
        (go_keep)
        (fail)
      go_upto_region 5 with fail
      clear x2 x3 x4 x5 y0 y1
      obtain ⟨w4, hw4⟩ : ∃ w4, (w3.alloc (.cells #[.int .i64 i, .int .i64 g, .int .i64 0, .int .i64 x.mode, .int .i64 (lk : Int), .int .i64 0, .int .i64 0, .int .i64 x.time] 71)).drew = w4 := ⟨_, rfl⟩
      rw [hw4]
      have HX4 := Lib.hid ((show w4.heap[w.heap.size + 1]? = w3.heap[w.heap.size + 1]? from by rw [← hw4]; exact Below.heap_alloc _ _ _ (by omega)).trans hX3.out)
      have hN4 : w4.heap[w3.heap.size]? = some (.cells #[.int .i64 i, .int .i64 g, .int .i64 0, .int .i64 x.mode, .int .i64 (lk : Int), .int .i64 0, .int .i64 0, .int .i64 x.time] 71 (0, 0)) := by rw [← hw4]; exact heap_alloc_new _ _
      have HB4 := Lib.hid (show Below w2.heap.size w2 w4 from by rw [← hw4]; exact (hB3.out.alloc hs3 _).drew)
      clear hw4
      have d0 := cell_at hN4 0
      have d1 := cell_at hN4 1
      have d2 := cell_at hN4 2
      have d3 := cell_at hN4 3
      have d4 := cell_at hN4 4
      have d5 := cell_at hN4 5
      have d6 := cell_at hN4 6
      have d7 := cell_at hN4 7
      simp at d0 d1 d2 d3 d4 d5 d6 d7
      have df : ∀ k, w4.frozen? ⟨w3.heap.size, k, none⟩ = false := fun k => by simp [World.frozen?, hN4]
      have x5 := (HX.out _ HB4.out).cells.2.2.2.2.2
      go_upto_region 15 with fail
      obtain ⟨w5, hw5⟩ : ∃ w5, ((w4.setCell ⟨w3.heap.size, 2, none⟩ (.int .i64 3)).setCell ⟨w3.heap.size, 5, none⟩ (.int .i64 (x.target.size : Int))) = w5 := ⟨_, rfl⟩
      rw [hw5]
      have hX5 := (show w5.heap[w.heap.size + 1]? = w4.heap[w.heap.size + 1]? from by rw [← hw5]; simp only [setCell_far _ _ _ _ _ (show w.heap.size + 1 ≠ w3.heap.size by omega)]).trans HX4.out
      have hN5 : w5.heap[w3.heap.size]? = some (.cells #[.int .i64 i, .int .i64 g, .int .i64 3, .int .i64 x.mode, .int .i64 (lk : Int), .int .i64 (x.target.size : Int), .int .i64 0, .int .i64 x.time] 71 (0, 0)) := by
        rw [← hw5]
        exact (heap_setCell_same _ _ 5 _ _ _ (heap_setCell_same _ _ 2 _ _ _ hN4))
      have HB5 := Lib.hid (show Below w2.heap.size w2 w5 from by rw [← hw5]; exact ((((HB4.out).setCell (by omega) _)).setCell (by omega) _))
      clear hw5 d0 d1 d2 d3 d4 d5 d6 d7 df hN4
      have d0 := cell_at hN5 0
      have d1 := cell_at hN5 1
      have d2 := cell_at hN5 2
      have d3 := cell_at hN5 3
      have d4 := cell_at hN5 4
      have d5 := cell_at hN5 5
      have d6 := cell_at hN5 6
      have d7 := cell_at hN5 7
      simp at d0 d1 d2 d3 d4 d5 d6 d7
      clear hN5
      have HX5 := Lib.hid hX5
      clear hX5
      have HPv := Lib.hid (agg8_one i g 3 x.mode lk (x.target.size : Int) 0 x.time)
      go_wp2_with (refine wpList_store_row rfl 71 (.tmp 4) (.tmp 67) rfl _ (w.heap.size + 1) _ _ _ rfl rfl HX5.out rfl infoI HPv.out ?_; intro w6 hX6 hG6)
      have hb6 := Below.grownBy (HB.out.trans (HB5.out.mono (by omega))) hG6 (Nat.le_trans (by omega) HB5.out.size) (fun k hk => by injection hk with hk; omega)
      exact end_cell_tmp (p := 4) (u := 5) rfl rfl hX6 infoT rfl infoI rfl rfl ⟨rfl, hb6⟩
end Go.Proofs.Ytpcjmefchclhhaa

/- Slices of handles beside a file system. -/
namespace Go.Proofs.Ytpcjmefchclhhaa
open Go.RowKit Go.MapKept

def hndC (h : Int × Int) : List Value := [.int .i64 h.1, .int .i64 h.2]
theorem hndSl : SlT 67 68 2 16 hndC where
  under := Try.underlying67
  info := ⟨.agg #[.int .i64 0, .int .i64 0], by kernel_rfl, rfl⟩
  pos := by omega
  len := fun _ => rfl
  one := fun x u hu => by simp [hndC] at hu; rcases hu with rfl | rfl <;> rfl
section
variable {W w w' : World} {f mi mg K K' : Nat} {r r' : RFs} {N N' : List Nd} {base : Nat} {v : Value} {X : List (Int × Int)}
/-- No block of a file system is one of handles. -/
theorem fs_tag (h : FsN w f mi mg r N) (hW : Wf r K) : ∀ k ∈ fpL f mi mg N, ∃ o, w.heap[k]? = some o ∧ ∀ cs fr, o ≠ .cells cs 68 fr := by
  intro k hk
  have hmap : ∀ {α β : Type} {kk : α → Value} {vv : β → Value} {m : Nat} {l : List (α × β)}, MapB w m kk vv l → ∃ o, w.heap[m]? = some o ∧ ∀ cs fr, o ≠ .cells cs 68 fr := fun hm => by
    obtain ⟨es, cl, hb, _⟩ := hm
    exact ⟨_, hb, fun _ _ e => by cases e⟩
  unfold fpL at hk
  simp only [List.mem_cons, List.mem_flatMap] at hk
  rcases hk with rfl | rfl | rfl | ⟨n, hn, hk⟩
  · exact ⟨_, h.head, fun _ _ e => by injection e with _ e2 _; exact absurd e2 (by decide)⟩
  · exact hmap h.imap
  · obtain ⟨G, g1, _⟩ := h.gmap; exact hmap g1
  · obtain ⟨x, hx, hr⟩ := h.node n hn
    have hblk : ∃ o, w.heap[n.blk]? = some o ∧ ∀ cs fr, o ≠ .cells cs 68 fr := ⟨_, hr.head, fun _ _ e => by injection e with _ e2 _; exact absurd e2 (by decide)⟩
    unfold Nd.foot at hk
    rw [hr.big] at hk
    rcases hW.kind x hx with hk1 | hk1 | hk1
    · obtain ⟨s, bl, h1, _⟩ := hr.file hk1
      simp [hk1] at hk
      rcases hk with rfl | rfl | rfl
      · exact hblk
      · exact ⟨_, h1.head, fun _ _ e => by injection e with _ e2 _; exact absurd e2 (by decide)⟩
      · exact hmap h1.map
    · obtain ⟨h1, h2⟩ := hr.dir hk1
      simp [hk1] at hk
      rcases hk with rfl | rfl | rfl
      · exact hblk
      · exact ⟨_, h1, fun _ _ e => by injection e with _ e2 _; exact absurd e2 (by decide)⟩
      · exact hmap h2
    · simp [hk1] at hk
      subst hk
      exact hblk
theorem own_block (h : Own w base 68 2 hndC v X) : ∀ k, v.ownBlock = some k → ∃ cs fr, w.heap[k]? = some (.cells cs 68 fr) := by
  intro k hk
  rcases h.2 with ⟨rfl, _⟩ | ⟨g, cap, cur, rfl, _, hg, _⟩
  · cases hk
  · have : g = k := by simpa [Value.ownBlock] using hk
    subst this
    exact ⟨_, _, hg⟩
theorem own_off (hf : FsN w f mi mg r N) (hW : Wf r K) (h : Own w base 68 2 hndC v X) : ∀ k, v.ownBlock = some k → k ∉ fpL f mi mg N := by
  intro k hk hm
  obtain ⟨cs, fr, h1⟩ := own_block h k hk
  obtain ⟨o, h2, h3⟩ := fs_tag hf hW k hm
  rw [h1] at h2
  exact h3 _ _ (by injection h2 with h2; exact h2.symm)
/-- A call on the file system leaves the handles. -/
theorem Own.goes (h : Own w base 68 2 hndC v X) (hA : FsAt W w f mi mg r K N) (hG : Goes W w w' f mi mg N r' K' N') : Own w' base 68 2 hndC v X := by
  have ho := own_off hA.fs hA.wf h
  have hlt := h.lt
  refine ⟨h.1, ?_⟩
  rcases h.2 with ⟨rfl, h0⟩ | ⟨g, cap, cur, rfl, hb, hg, hr⟩
  · exact .inl ⟨rfl, h0⟩
  · have e : (Value.slice (some ⟨g, 0, none⟩) X.length cap).ownBlock = some g := by simp [Value.ownBlock]
    exact .inr ⟨g, cap, cur, rfl, hb, (hG.frm.block g (hlt g e).2 (ho g e)).trans hg, hr⟩
/-- One handle more leaves the file system. -/
theorem FsAt.app (hA : FsAt W w f mi mg r K N) (h : Own w base 68 2 hndC v X) (hb : W.heap.size ≤ base) (hg : w.grownBy w' v.ownBlock) : FsAt W w' f mi mg r K N := by
  have ho := own_off hA.fs hA.wf h
  have hl := hA.fpl
  have hk : ∀ k ∈ fpL f mi mg N, w'.heap[k]? = w.heap[k]? := fun k hk => hg.block k (hl k hk) (fun e => ho k e.symm hk)
  exact ⟨hA.fs.keep (hk _ (by simp [fpL])) (hk _ (by simp [fpL])) (hk _ (by simp [fpL])) (fun n hn k hkn => hk k (fp_node hn hkn)), hA.wf, hA.new, Below.grown hA.blw hg hA.blw.size (fun k e => Nat.le_trans hb (h.lt k e).1)⟩
end
/-- '!=' of two handles of the reference's. -/
theorem neq_rhnd (w : World) (a b c d : Int) : (binOp .neq 55 (.agg #[.int .i64 a, .int .i64 b]) (.agg #[.int .i64 c, .int .i64 d])).run Try.prog w = .ok (.bool (!decide (a = c ∧ b = d))) w := by
  have ht : Try.prog.underlying 55 = some (.struct (Try.prog.fieldsOf 55)) := by kernel_rfl
  have hL : (Try.prog.fieldsOf 55).toList.map (fun f => (f.name, f.type, f.offset)) = [("Id", 3, 0), ("Gen", 3, 1)] := by kernel_rfl
  rw [run_neq_fields w ht (by kernel_rfl) hL]
  have hp : Try.prog.plainKey 3 = true := by kernel_rfl
  have p0 := fun (w : World) (x y : Int) => run_part_plain (P := Try.prog) (w := w) hp (xs := #[.int .i64 x, .int .i64 y]) (off := 0) (v := .int .i64 x) rfl
  have p1 := fun (w : World) (x y : Int) => run_part_plain (P := Try.prog) (w := w) hp (xs := #[.int .i64 x, .int .i64 y]) (off := 1) (v := .int .i64 y) rfl
  have q := fun (w : World) (x y : Int) => run_equalIn_int (P := Try.prog) w 9998 3 .i64 .i64 x y Try.underlying3
  have hE : (eqF 9999 #[.int .i64 a, .int .i64 b] #[.int .i64 c, .int .i64 d] [("Id", 3, 0), ("Gen", 3, 1)]).run Try.prog w = .ok (decide (a = c ∧ b = d)) w := by
    simp only [eqF, ne_eq]
    by_cases h1 : a = c <;> by_cases h2 : b = d <;> simp [h1, h2, Sem.run_bind, p0, p1, q, Result.andThen]
  rw [hE]
  rfl
end Go.Proofs.Ytpcjmefchclhhaa

/- FscoreBack, said plainly: a file that was made at the root, written, named again, and its first name taken away. -/
namespace Go.Proofs.Ytpcjmefchclhhaa
open Go.RowKit Go.MapKept

def mineS : ByteArray := ⟨#[109, 105, 110, 101]⟩
def otherS : ByteArray := ⟨#[111, 116, 104, 101, 114]⟩
theorem mine_ok : validP mineS = true := by decide +kernel
theorem other_ok : validP otherS = true := by decide +kernel
section
variable {r : RFs} {K : Nat} {x : RIn} {s : ByteArray}
theorem Wf.rootP (hW : Wf r K) : liveP r (1, 1) = true ∧ (byIdP r.ins 1).kind = 2 := by
  obtain ⟨x, hx, e1, e2, e3, _⟩ := hW.root
  have hb := hW.byId hx
  rw [e1] at hb
  exact ⟨(live_iff hW _).2 ⟨x, hx, e1, e2⟩, by rw [hb]; exact e3⟩
theorem root_place (hW : Wf r K) (hv : validP s = true) (fr : Bool) : placeE r (1, 1) s fr = 0 := by
  obtain ⟨h1, h2⟩ := hW.rootP
  have hf : folderE r (1, 1) = 0 := by unfold folderE; rw [if_pos h1, if_pos h2]
  unfold placeE
  rw [if_neg (by rw [hf]; decide), hv]
  simp
/-- A file with one name, s at the root. -/
structure Mine (r : RFs) (K : Nat) (x : RIn) (s : ByteArray) : Prop where
  wf : Wf r K
  mem : x ∈ r.ins
  kind : x.kind = 1
  one : linksN r x = 1
  ent : entryP r.nms 1 s = x.id
theorem Mine.live (h : Mine r K x s) : liveP r (x.id, x.gen) = true := (live_iff h.wf _).2 ⟨x, h.mem, rfl, rfl⟩
theorem Mine.sheet (h : Mine r K x s) : sheetE r (x.id, x.gen) = 0 := by
  unfold sheetE
  rw [if_pos h.live, h.wf.byId h.mem, if_pos h.kind]
theorem entry_app {l : List RNm} {d : Int} {t : ByteArray} {i : Int} (h : entryP l d t = 0) (hl : ∀ n ∈ l, n.id ≠ 0) : entryP (l ++ [⟨d, t, i⟩]) d t = i := by
  unfold entryP at *
  rw [List.find?_append]
  cases hf : l.find? fun n => decide (n.dir = d ∧ n.name = t) with
  | none => simp
  | some n =>
    rw [hf] at h
    exact absurd h (hl n (List.mem_of_find?_eq_some hf))
theorem entry_app_ne {l : List RNm} {d : Int} {s t : ByteArray} {i : Int} (hne : t ≠ s) : entryP (l ++ [⟨d, t, i⟩]) d s = entryP l d s := by
  unfold entryP
  rw [List.find?_append]
  cases hf : l.find? fun n => decide (n.dir = d ∧ n.name = s) with
  | none => simp [hne]
  | some n => simp
theorem nms_ne (hW : Wf r K) : ∀ n ∈ r.nms, n.id ≠ 0 := fun n hn e => by
  obtain ⟨_, x, hx, ex⟩ := hW.nmI n hn
  exact hW.ne0 hx (ex.trans e)
theorem mine_made (hW : Wf r K) : ((makeP r (1, 1) mineS ⟨1, 0, 0, noStr⟩).2.2 = 171 ∨ (makeP r (1, 1) mineS ⟨1, 0, 0, noStr⟩).2.2 = 177) ∨
    ∃ x, (makeP r (1, 1) mineS ⟨1, 0, 0, noStr⟩).2 = ((x.id, x.gen), 0) ∧ x.B = [] ∧ Mine (makeP r (1, 1) mineS ⟨1, 0, 0, noStr⟩).1 (K + 1) x mineS := by
  have hw := wf_make_all hW (1, 1) mineS ⟨1, 0, 0, noStr⟩
  unfold makeP at *
  rw [if_neg (by rw [root_place hW mine_ok]; decide), if_neg (by decide +kernel)] at *
  by_cases h1 : entryP r.nms 1 mineS ≠ 0
  · rw [if_pos h1]; exact .inl (.inl rfl)
  · have h1' := h1
    rw [if_neg h1, if_neg (by simp)] at *
    by_cases h2 : 200 ≤ r.ins.length
    · rw [if_pos h2]; exact .inl (.inr rfl)
    · rw [if_neg h2] at *
      refine .inr ⟨newIn r (1, 1) ⟨1, 0, 0, noStr⟩, rfl, rfl, hw, ?_, rfl, ?_, (entry_app (l := r.nms) (d := 1) (Decidable.not_not.1 h1') (nms_ne hW) : entryP (r.nms ++ [⟨1, mineS, freeP r.ins⟩]) 1 mineS = freeP r.ins)⟩
      · show _ ∈ r.ins ++ [_]
        simp
      · have h0 : ∀ n ∈ r.nms, n.id ≠ freeP r.ins := fun n hn e => by
          obtain ⟨_, y, hy, ey⟩ := hW.nmI n hn
          exact (freeP_ok hW (by omega)).2.2 y hy (ey.trans e)
        unfold linksN
        rw [if_neg (by show (1 : Int) ≠ 2; decide)]
        show List.countP _ (r.nms ++ [_]) = 1
        rw [List.countP_append, List.countP_eq_zero.2 (fun n hn => by have := h0 n hn; simp [newIn, this])]
        simp [newIn]
theorem mine_write (h : Mine r K x s) (hf : ∃ w f mi mg N, FsN w f mi mg r N) {a : Int} (ha : 0 ≤ a) (b : List UInt8) :
    (fwriteP r (x.id, x.gen) a b 7).2 = 177 ∨ (fwriteP r (x.id, x.gen) a b 7).2 = 0 ∧ fitsB a b.length = true ∧ Mine (fwriteP r (x.id, x.gen) a b 7).1 K (fileP x (rwB x.B a b) (rwOn x.On a b.length) 7) s := by
  obtain ⟨w, f, mi, mg, N, hN⟩ := hf
  have hw := wf_write hN h.wf (x.id, x.gen) a b 7
  unfold fwriteP at *
  rw [if_neg (by rw [h.sheet]; decide), if_neg (fun h1 => h1.elim (fun e => by omega) (fun e => absurd e (by decide)))] at *
  rw [h.wf.byId h.mem] at *
  split
  · exact .inl rfl
  · rename_i a1
    rw [if_neg a1] at hw
    refine .inr ⟨rfl, ?_, hw, setP_mem.2 (.inr rfl), h.kind, ?_, h.ent⟩
    · cases hfi : fitsB a b.length
      · exact absurd (.inr hfi) a1
      · rfl
    · have := h.one
      unfold linksN at *
      rw [if_neg (by rw [h.kind]; decide)] at this
      rw [if_neg (by show x.kind ≠ 2; rw [h.kind]; decide)]
      exact this
theorem mine_drop (hw : Wf r K) (hx : x ∈ r.ins) (hk : x.kind = 1) (he1 : entryP r.nms 1 mineS = x.id) (he2 : entryP r.nms 1 otherS = x.id) (hl : linksN r x = 2) :
    (removeP r (1, 1) mineS false).2 = 0 ∧ Mine (removeP r (1, 1) mineS false).1 K x otherS := by
  have hne : otherS ≠ mineS := by decide +kernel
  have hk2 : x.kind ≠ 2 := by rw [hk]; decide
  have hx0 := hw.ne0 hx
  have hb := hw.byId hx
  have hm : mayP r x false = 0 := by unfold mayP; rw [if_neg hk2]; rfl
  have hl1 : linksN (unnamedP r 1 mineS) x = 1 := by
    unfold linksN at hl ⊢
    rw [if_neg hk2] at hl ⊢
    obtain ⟨n, hn, e1, e2, e3⟩ := entry_mem (show entryP r.nms 1 mineS ≠ 0 by rw [he1]; exact hx0)
    have h3 := countP_unnamed hw.uniq hn e1 e2 (fun n => decide (n.id = x.id))
    rw [if_pos (by rw [e3, he1]; simp)] at h3
    show (r.nms.filter _).countP _ = 1
    omega
  have hd : dropP r 1 mineS = unnamedP r 1 mineS := by
    unfold dropP
    rw [he1, hb, if_neg (fun h1 => h1.elim hk2 (fun e => by omega))]
  have hr : removeP r (1, 1) mineS false = (unnamedP r 1 mineS, 0) := by
    unfold removeP
    rw [if_neg (by rw [root_place hw mine_ok]; decide), if_neg (by rw [he1]; exact hx0)]
    show (if mayP r (byIdP r.ins (entryP r.nms 1 mineS)) false ≠ 0 then _ else (dropP r 1 mineS, 0)) = _
    rw [he1, hb, hm, if_neg (by decide), hd]
  have hwr := wf_remove hw (1, 1) mineS false
  rw [hr] at hwr ⊢
  refine ⟨rfl, hwr, hx, hk, hl1, ?_⟩
  show entryP (r.nms.filter _) 1 otherS = x.id
  rw [← he2]
  unfold entryP
  rw [List.find?_filter]
  have hfun : (fun n : RNm => decide ((!decide (n.dir = 1 ∧ n.name = mineS)) = true ∧ decide (n.dir = 1 ∧ n.name = otherS) = true)) = fun n => decide (n.dir = 1 ∧ n.name = otherS) := funext fun n => by
    by_cases hh : n.dir = 1 ∧ n.name = otherS
    · simp [hh.1, hh.2, hne]
    · rw [show (decide (n.dir = 1 ∧ n.name = otherS)) = false from decide_eq_false hh]; simp
  rw [hfun]
theorem mine_link (h : Mine r K x mineS) : (linkP r (x.id, x.gen) (1, 1) otherS).2 = 171 ∧ (linkP r (x.id, x.gen) (1, 1) otherS).1 = r ∨
    (linkP r (x.id, x.gen) (1, 1) otherS).2 = 0 ∧ (removeP (linkP r (x.id, x.gen) (1, 1) otherS).1 (1, 1) mineS false).2 = 0 ∧ Mine (removeP (linkP r (x.id, x.gen) (1, 1) otherS).1 (1, 1) mineS false).1 (K + 1) x otherS := by
  have hw := wf_link h.wf (x.id, x.gen) (1, 1) otherS
  have hne : otherS ≠ mineS := by decide +kernel
  have hk2 : x.kind ≠ 2 := by rw [h.kind]; decide
  unfold linkP at *
  rw [if_neg (by rw [h.live]; decide), if_neg (by rw [root_place h.wf other_ok]; decide), h.wf.byId h.mem, if_neg hk2] at *
  by_cases h1 : entryP r.nms 1 otherS ≠ 0
  · rw [if_pos h1]; exact .inl ⟨rfl, rfl⟩
  · rw [if_neg h1, if_neg (by rw [h.one]; decide)] at *
    refine .inr ⟨rfl, mine_drop (x := x) hw h.mem h.kind ((entry_app_ne hne).trans h.ent) (entry_app (l := r.nms) (Decidable.not_not.1 h1) (nms_ne h.wf)) ?_⟩
    have h2 := h.one
    unfold linksN at h2 ⊢
    rw [if_neg hk2] at h2 ⊢
    show (r.nms ++ [_]).countP _ = _
    rw [List.countP_append, h2]
    simp
/-- What is told of it. -/
theorem mine_look (h : Mine r K x s) (hv : validP s = true) : lookP r (1, 1) s = ((x.id, x.gen), 0) := by
  have hx0 := h.wf.ne0 h.mem
  have hd : s ≠ dotS ∧ s ≠ dot2S := by
    unfold validP at hv
    simp only [Bool.and_eq_true, decide_eq_true_eq] at hv
    exact ⟨hv.1.2.2.1, hv.1.2.2.2⟩
  unfold lookP
  rw [if_neg (by rw [root_place h.wf hv]; decide), if_neg hd.1, if_neg hd.2, h.ent, if_neg hx0, h.wf.byId h.mem]
theorem mine_read (h : Mine r K x s) {a n : Int} (ha : 0 ≤ a) (hn : 0 ≤ n) : freadP r (x.id, x.gen) a n = (rreadL x.B a n, 0) := by
  unfold freadP
  rw [if_neg (by rw [h.sheet]; decide), if_neg (by omega), h.wf.byId h.mem]
theorem mine_stat (h : Mine r K x s) : statV r (x.id, x.gen) = .tuple #[infoV x.id x.gen x.kind x.mode 1 (sizeN r x) (x.On.length : Int) x.time, .int .i64 0] := by
  unfold statV
  rw [if_pos h.live, h.wf.byId h.mem, h.one]
  rfl
theorem back_read {b : List UInt8} {a : Int} (ha : 0 ≤ a) (B : List UInt8) (hf : fitsB a b.length = true) : rreadL (rwB B a b) a b.length = b := by
  obtain ⟨j, rfl⟩ := Int.eq_ofNat_of_zero_le ha
  rcases Nat.eq_zero_or_pos b.length with h0 | hb
  · unfold rreadL
    rw [h0]
    split
    · simp; exact List.eq_nil_of_length_eq_zero h0
    · exact (List.eq_nil_of_length_eq_zero h0).symm
  · have hl : (rwB B j b).length = max B.length (j + b.length) := by
      unfold rwB; rw [if_pos ⟨hf, hb⟩, length_splice _ _ _ (by rw [padTo_len, Int.toNat_natCast]; omega), padTo_len, Int.toNat_natCast]
    unfold rreadL
    rw [show readOk (rwB B j b).length (j : Int) (b.length : Int) = true from decide_eq_true (by rw [hl]; omega), if_pos rfl]
    rw [Int.toNat_natCast, Int.toNat_natCast]
    unfold rwB
    rw [if_pos ⟨hf, hb⟩, Int.toNat_natCast]
    unfold splice
    rw [List.drop_append, List.length_take, padTo_len, List.drop_eq_nil_of_le (by rw [List.length_take, padTo_len]; omega), List.nil_append, show j - min j (max B.length (j + b.length)) = 0 by omega, List.drop_zero, List.take_left']
    rfl
end
end Go.Proofs.Ytpcjmefchclhhaa

/- A part of the proof, merged from several texts. -/
import Derived.Test.YtalfffamppmooaaGreatDoorPM
import Derived.Test.YtalfffamppmooaaGreatDoorRM
namespace Go.Proofs.YtalfffamppmooaaGreatDoor
open Go.RowKit
set_option maxRecDepth 100000
def aS : ByteArray := ⟨#[47, 97]⟩
theorem allC {m : Mp} {T : List RZ} (h : TM m T) (hw : Wz T) : FnO Tryz.prog 47 [.ptr 0 0] (cP m) fun g rs => ∃ l', (l' = m ∧ g = gT T) ∧ rs = cP l' :=
 tree_lift (all_o h hw) rfl rfl fun g l' hq => by rw [hq.2]; rfl
structure ROp where
 kind : Int
 zx : Int
 se : Int
 l : List RC
structure SmO (o : ROp) : Prop where
 len : o.l.length ≤ 2000000
 path : ∀ c ∈ o.l, c.path.size ≤ maxZ
def fewN (l : List ROp) : Nat := (l.map fun o => o.l.length + 1).sum
theorem few_len : ∀ (l : List ROp), l.length ≤ fewN l
 | [] => by simp
 | o :: l => by
  have := few_len l
  unfold fewN at *
  rw [List.map_cons, List.sum_cons, List.length_cons]; omega
end Go.Proofs.YtalfffamppmooaaGreatDoor
namespace Go.Proofs.YtalfffamppmooaaGreatDoor
open Go.RowKit
set_option maxRecDepth 100000
structure SmS (l : List ROp) : Prop where
 few : fewN l ≤ 2000000
 ops : ∀ o ∈ l, SmO o
theorem SmS.len {l : List ROp} (_ : SmS l) (hf : fewN l ≤ 300) : l.length ≤ 1000000 := by have := few_len l; omega
end Go.Proofs.YtalfffamppmooaaGreatDoor

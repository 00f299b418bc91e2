/- A part of the proof. -/
import Derived.Test.YtalfffamppmooaaGreatDoorZZSk
namespace Go.Proofs.YtalfffamppmooaaGreatDoor
open Go.RowKit
set_option maxRecDepth 100000
structure SmS11 (l : List ROS) : Prop where
 len : l.length ≤ 10000000
 ops : ∀ o ∈ l, SmT11 o.t
theorem few_len11 {l : List ROS} (h : fewS l = true) : l.length ≤ 150 := by
 unfold fewS at h
 rw [Bool.and_eq_true] at h
 exact of_decide_eq_true h.2
end Go.Proofs.YtalfffamppmooaaGreatDoor

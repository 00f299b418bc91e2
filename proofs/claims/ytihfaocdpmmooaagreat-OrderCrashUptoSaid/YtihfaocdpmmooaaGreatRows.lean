/-
  No cell of these rows narrows 'for every input' (looked for: loops, veiled, ifaces, maps, wideKeys, modest, calm, conditions, laid).
  DERIVED. THE GIVEN ROWS OF THIS SEAT. 7 by the template 'for every input the law returns true; each argument reads behind the call as it read before'; 0 by the template 'total and deterministic' (their statements: YtihfaocdpmmooaaGreatTotals.lean).
  GIVEN WITH THE SEED: the statements are not yours to turn. If you find one false, say at which input.
  Laid BY PROGRAM, IN A SANDBOX (cutbox-rows.mjs): the forced cells as the released guide's own fill.sh prints them over the translation 2649c594296ea065… (all of the seat's roots in one cut). By AI agents, Wed Nov 11 2026. No macro, syntax, notation, axiom, sorry.
-/
import Derived.Test.YtihfaocdpmmooaaGreatChecked
import GoSem.Claim
import GoSem.ClaimJoined
import GoSem.ClaimMapViews
import Derived.JoinedTies
import Derived.KernelRfl
namespace Go.Proofs.YtihfaocdpmmooaaGreat
/- THE CELL 'sum', in the pinned program and in every row, IS THE sha256 OF THE DUMP (.gsa) THAT YtihfaocdpmmooaaGreatProg.lean LOADS. Nothing in Lean hashes anything: it is a label: what it is worth is what the hold of that sum in a sandbox is worth. -/
noncomputable def Tryz.pinned : Pinned := { name := "ytihfaocdpmmooaagreat", sum := "2649c594296ea06543a9fbec271536ce67924ad66cc61f5d7951718a45ef16ae", checked := Tryz.checked }
namespace Rows
def none {H : Type} : Left H := { results := [], args := [] }

/-- 'harpsichordlaw13.OrderMessages': WHATEVER THE INPUT: true; the input reads as it did. -/
def orderMessagesSpec : ChangeSpec := { name := "orderMessages", fn := fun _ => fun
  | [d1, d2] => { results := [.lit (.bool true)], args := [d1, d2] }
  | _ => none }
def orderMessagesRow : OpenClaim := { program := "ytihfaocdpmmooaagreat", sum := "2649c594296ea06543a9fbec271536ce67924ad66cc61f5d7951718a45ef16ae", func := "harpsichord/harpsichordlaw13.OrderMessages", spec := "orderMessages", unfollowed := true, recurses := true, apart := false }
def OrderMessagesSaid : Prop := orderMessagesRow.holds Tryz.pinned (OpenSpec.ofChange orderMessagesSpec)

/-- ITS FALSE NEIGHBOUR: 'it returns false'. Refute it at one input. -/
def orderMessagesWrong : ChangeSpec := { name := "orderMessages", fn := fun _ => fun
  | [d1, d2] => { results := [.lit (.bool false)], args := [d1, d2] }
  | _ => none }
def OrderMessagesWrongFalsely : Prop := orderMessagesRow.holds Tryz.pinned (OpenSpec.ofChange orderMessagesWrong)

/-- 'harpsichordlaw13.OrderOpens': WHATEVER THE INPUT: true; the input reads as it did. -/
def orderOpensSpec : ChangeSpec := { name := "orderOpens", fn := fun _ => fun
  | [d1, d2, d3] => { results := [.lit (.bool true)], args := [d1, d2, d3] }
  | _ => none }
def orderOpensRow : OpenClaim := { program := "ytihfaocdpmmooaagreat", sum := "2649c594296ea06543a9fbec271536ce67924ad66cc61f5d7951718a45ef16ae", func := "harpsichord/harpsichordlaw13.OrderOpens", spec := "orderOpens", unfollowed := true, recurses := true, apart := false }
def OrderOpensSaid : Prop := orderOpensRow.holds Tryz.pinned (OpenSpec.ofChange orderOpensSpec)

/-- ITS FALSE NEIGHBOUR: 'it returns false'. Refute it at one input. -/
def orderOpensWrong : ChangeSpec := { name := "orderOpens", fn := fun _ => fun
  | [d1, d2, d3] => { results := [.lit (.bool false)], args := [d1, d2, d3] }
  | _ => none }
def OrderOpensWrongFalsely : Prop := orderOpensRow.holds Tryz.pinned (OpenSpec.ofChange orderOpensWrong)

/-- 'harpsichordlaw13.OrderOrigin': WHATEVER THE INPUT: true; the input reads as it did. -/
def orderOriginSpec : ChangeSpec := { name := "orderOrigin", fn := fun _ => fun
  | [d1, d2] => { results := [.lit (.bool true)], args := [d1, d2] }
  | _ => none }
def orderOriginRow : OpenClaim := { program := "ytihfaocdpmmooaagreat", sum := "2649c594296ea06543a9fbec271536ce67924ad66cc61f5d7951718a45ef16ae", func := "harpsichord/harpsichordlaw13.OrderOrigin", spec := "orderOrigin", unfollowed := true, recurses := true, apart := false }
def OrderOriginSaid : Prop := orderOriginRow.holds Tryz.pinned (OpenSpec.ofChange orderOriginSpec)

/-- ITS FALSE NEIGHBOUR: 'it returns false'. Refute it at one input. -/
def orderOriginWrong : ChangeSpec := { name := "orderOrigin", fn := fun _ => fun
  | [d1, d2] => { results := [.lit (.bool false)], args := [d1, d2] }
  | _ => none }
def OrderOriginWrongFalsely : Prop := orderOriginRow.holds Tryz.pinned (OpenSpec.ofChange orderOriginWrong)

/-- 'harpsichordlaw13.OrderLogs': WHATEVER THE INPUT: true; the input reads as it did. -/
def orderLogsSpec : ChangeSpec := { name := "orderLogs", fn := fun _ => fun
  | [d1, d2] => { results := [.lit (.bool true)], args := [d1, d2] }
  | _ => none }
def orderLogsRow : OpenClaim := { program := "ytihfaocdpmmooaagreat", sum := "2649c594296ea06543a9fbec271536ce67924ad66cc61f5d7951718a45ef16ae", func := "harpsichord/harpsichordlaw13.OrderLogs", spec := "orderLogs", unfollowed := true, recurses := true, apart := false }
def OrderLogsSaid : Prop := orderLogsRow.holds Tryz.pinned (OpenSpec.ofChange orderLogsSpec)

/-- ITS FALSE NEIGHBOUR: 'it returns false'. Refute it at one input. -/
def orderLogsWrong : ChangeSpec := { name := "orderLogs", fn := fun _ => fun
  | [d1, d2] => { results := [.lit (.bool false)], args := [d1, d2] }
  | _ => none }
def OrderLogsWrongFalsely : Prop := orderLogsRow.holds Tryz.pinned (OpenSpec.ofChange orderLogsWrong)

/-- 'harpsichordlaw13.OrderQuiet': WHATEVER THE INPUT: true; the input reads as it did. -/
def orderQuietSpec : ChangeSpec := { name := "orderQuiet", fn := fun _ => fun
  | [d1, d2] => { results := [.lit (.bool true)], args := [d1, d2] }
  | _ => none }
def orderQuietRow : OpenClaim := { program := "ytihfaocdpmmooaagreat", sum := "2649c594296ea06543a9fbec271536ce67924ad66cc61f5d7951718a45ef16ae", func := "harpsichord/harpsichordlaw13.OrderQuiet", spec := "orderQuiet", unfollowed := true, recurses := true, apart := false }
def OrderQuietSaid : Prop := orderQuietRow.holds Tryz.pinned (OpenSpec.ofChange orderQuietSpec)

/-- ITS FALSE NEIGHBOUR: 'it returns false'. Refute it at one input. -/
def orderQuietWrong : ChangeSpec := { name := "orderQuiet", fn := fun _ => fun
  | [d1, d2] => { results := [.lit (.bool false)], args := [d1, d2] }
  | _ => none }
def OrderQuietWrongFalsely : Prop := orderQuietRow.holds Tryz.pinned (OpenSpec.ofChange orderQuietWrong)

/-- 'harpsichordlaw13.OrderAll': WHATEVER THE INPUT: true; the input reads as it did. -/
def orderAllSpec : ChangeSpec := { name := "orderAll", fn := fun _ => fun
  | [d1, d2] => { results := [.lit (.bool true)], args := [d1, d2] }
  | _ => none }
def orderAllRow : OpenClaim := { program := "ytihfaocdpmmooaagreat", sum := "2649c594296ea06543a9fbec271536ce67924ad66cc61f5d7951718a45ef16ae", func := "harpsichord/harpsichordlaw13.OrderAll", spec := "orderAll", unfollowed := true, recurses := true, apart := false }
def OrderAllSaid : Prop := orderAllRow.holds Tryz.pinned (OpenSpec.ofChange orderAllSpec)

/-- ITS FALSE NEIGHBOUR: 'it returns false'. Refute it at one input. -/
def orderAllWrong : ChangeSpec := { name := "orderAll", fn := fun _ => fun
  | [d1, d2] => { results := [.lit (.bool false)], args := [d1, d2] }
  | _ => none }
def OrderAllWrongFalsely : Prop := orderAllRow.holds Tryz.pinned (OpenSpec.ofChange orderAllWrong)

/-- 'harpsichordlaw13.OrderCrash': WHATEVER THE INPUT: true; the input reads as it did. -/
def orderCrashSpec : ChangeSpec := { name := "orderCrash", fn := fun _ => fun
  | [d1, d2] => { results := [.lit (.bool true)], args := [d1, d2] }
  | _ => none }
def orderCrashRow : OpenClaim := { program := "ytihfaocdpmmooaagreat", sum := "2649c594296ea06543a9fbec271536ce67924ad66cc61f5d7951718a45ef16ae", func := "harpsichord/harpsichordlaw13.OrderCrash", spec := "orderCrash", unfollowed := true, recurses := true, apart := false }
def OrderCrashSaid : Prop := orderCrashRow.holds Tryz.pinned (OpenSpec.ofChange orderCrashSpec)

/-- ITS FALSE NEIGHBOUR: 'it returns false'. Refute it at one input. -/
def orderCrashWrong : ChangeSpec := { name := "orderCrash", fn := fun _ => fun
  | [d1, d2] => { results := [.lit (.bool false)], args := [d1, d2] }
  | _ => none }
def OrderCrashWrongFalsely : Prop := orderCrashRow.holds Tryz.pinned (OpenSpec.ofChange orderCrashWrong)

/- THE SECOND FORM. 'bulk': how many values and letters a reading holds, each counted each time it is reached (what is shared counts as often as it is met; a slice's spare places count too). A statement '..UptoSaid' is the law's where the arguments, and the package variables that the reading takes, are together of bulk at most 1048576: NARROWER than '..Said'. Prove '..Said' where nothing that the law and all that it calls make is longer than what came in: it says more and counts as full. Else prove '..UptoSaid'. A law counts once. -/
mutual
def uptoBulk {H : Type} : DataW H → Nat
  | .lit (.string bytes) => bytes.length + 1
  | .lit _ => 1
  | .nil => 1
  | .ptr d => uptoBulk d + 1
  | .slice elems spare => uptoBulkAll elems + uptoBulkAll spare + 1
  | .agg parts => uptoBulkAll parts + 1
  | .iface _ d => uptoBulk d + 1
  | .map entries => uptoBulkEntries entries + 1
  | .held _ => 1
def uptoBulkAll {H : Type} : List (DataW H) → Nat
  | [] => 0
  | d :: r => uptoBulk d + uptoBulkAll r
def uptoBulkEntries {H : Type} : List (Lit × DataW H) → Nat
  | [] => 0
  | x :: r => uptoBulkEntry x + uptoBulkEntries r
def uptoBulkEntry {H : Type} : Lit × DataW H → Nat
  | (.string bytes, d) => bytes.length + uptoBulk d + 1
  | (_, d) => uptoBulk d + 1
 end
def uptoSmall : (H : Type) → List (DataW H) → Bool := fun _ ds => decide (uptoBulkAll ds ≤ 1048576)
def OpenSpec.upto (s : _root_.Go.ChangeSpec) : _root_.Go.OpenSpec := { _root_.Go.OpenSpec.ofChange s with cond := some uptoSmall }

/-- 'harpsichordlaw13.OrderMessages', WHERE WHAT IT READS IS OF BULK AT MOST 1048576: true; the input reads as it did. -/
def orderMessagesUptoRow : OpenClaim := { program := "ytihfaocdpmmooaagreat", sum := "2649c594296ea06543a9fbec271536ce67924ad66cc61f5d7951718a45ef16ae", func := "harpsichord/harpsichordlaw13.OrderMessages", spec := "orderMessages", unfollowed := true, recurses := true, apart := false, narrowed := true }
def OrderMessagesUptoSaid : Prop := orderMessagesUptoRow.holds Tryz.pinned (OpenSpec.upto orderMessagesSpec)

/-- 'harpsichordlaw13.OrderOpens', WHERE WHAT IT READS IS OF BULK AT MOST 1048576: true; the input reads as it did. -/
def orderOpensUptoRow : OpenClaim := { program := "ytihfaocdpmmooaagreat", sum := "2649c594296ea06543a9fbec271536ce67924ad66cc61f5d7951718a45ef16ae", func := "harpsichord/harpsichordlaw13.OrderOpens", spec := "orderOpens", unfollowed := true, recurses := true, apart := false, narrowed := true }
def OrderOpensUptoSaid : Prop := orderOpensUptoRow.holds Tryz.pinned (OpenSpec.upto orderOpensSpec)

/-- 'harpsichordlaw13.OrderOrigin', WHERE WHAT IT READS IS OF BULK AT MOST 1048576: true; the input reads as it did. -/
def orderOriginUptoRow : OpenClaim := { program := "ytihfaocdpmmooaagreat", sum := "2649c594296ea06543a9fbec271536ce67924ad66cc61f5d7951718a45ef16ae", func := "harpsichord/harpsichordlaw13.OrderOrigin", spec := "orderOrigin", unfollowed := true, recurses := true, apart := false, narrowed := true }
def OrderOriginUptoSaid : Prop := orderOriginUptoRow.holds Tryz.pinned (OpenSpec.upto orderOriginSpec)

/-- 'harpsichordlaw13.OrderLogs', WHERE WHAT IT READS IS OF BULK AT MOST 1048576: true; the input reads as it did. -/
def orderLogsUptoRow : OpenClaim := { program := "ytihfaocdpmmooaagreat", sum := "2649c594296ea06543a9fbec271536ce67924ad66cc61f5d7951718a45ef16ae", func := "harpsichord/harpsichordlaw13.OrderLogs", spec := "orderLogs", unfollowed := true, recurses := true, apart := false, narrowed := true }
def OrderLogsUptoSaid : Prop := orderLogsUptoRow.holds Tryz.pinned (OpenSpec.upto orderLogsSpec)

/-- 'harpsichordlaw13.OrderQuiet', WHERE WHAT IT READS IS OF BULK AT MOST 1048576: true; the input reads as it did. -/
def orderQuietUptoRow : OpenClaim := { program := "ytihfaocdpmmooaagreat", sum := "2649c594296ea06543a9fbec271536ce67924ad66cc61f5d7951718a45ef16ae", func := "harpsichord/harpsichordlaw13.OrderQuiet", spec := "orderQuiet", unfollowed := true, recurses := true, apart := false, narrowed := true }
def OrderQuietUptoSaid : Prop := orderQuietUptoRow.holds Tryz.pinned (OpenSpec.upto orderQuietSpec)

/-- 'harpsichordlaw13.OrderAll', WHERE WHAT IT READS IS OF BULK AT MOST 1048576: true; the input reads as it did. -/
def orderAllUptoRow : OpenClaim := { program := "ytihfaocdpmmooaagreat", sum := "2649c594296ea06543a9fbec271536ce67924ad66cc61f5d7951718a45ef16ae", func := "harpsichord/harpsichordlaw13.OrderAll", spec := "orderAll", unfollowed := true, recurses := true, apart := false, narrowed := true }
def OrderAllUptoSaid : Prop := orderAllUptoRow.holds Tryz.pinned (OpenSpec.upto orderAllSpec)

/-- 'harpsichordlaw13.OrderCrash', WHERE WHAT IT READS IS OF BULK AT MOST 1048576: true; the input reads as it did. -/
def orderCrashUptoRow : OpenClaim := { program := "ytihfaocdpmmooaagreat", sum := "2649c594296ea06543a9fbec271536ce67924ad66cc61f5d7951718a45ef16ae", func := "harpsichord/harpsichordlaw13.OrderCrash", spec := "orderCrash", unfollowed := true, recurses := true, apart := false, narrowed := true }
def OrderCrashUptoSaid : Prop := orderCrashUptoRow.holds Tryz.pinned (OpenSpec.upto orderCrashSpec)

end Rows
end Go.Proofs.YtihfaocdpmmooaaGreat

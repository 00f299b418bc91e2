/-
  No cell of these rows narrows 'for every input' (looked for: loops, veiled, ifaces, maps, wideKeys, modest, calm, conditions, laid).
  DERIVED. THE GIVEN ROWS OF THIS SEAT. 7 by the template 'for every input the law returns true; each argument reads behind the call as it read before'; 0 by the template 'total and deterministic' (their statements: YtmmdikhljefeiaaGreatTotals.lean).
  GIVEN WITH THE SEED: the statements are not yours to turn. If you find one false, say at which input.
  Laid BY PROGRAM, IN A SANDBOX (cutbox-rows.mjs): the forced cells as the released guide's own fill.sh prints them over the translation e05a21fc8991c133… (all of the seat's roots in one cut). By AI agents, Wed Nov 11 2026. No macro, syntax, notation, axiom, sorry.
-/
import Derived.Test.YtmmdikhljefeiaaGreatChecked
import GoSem.Claim
import GoSem.ClaimJoined
import GoSem.ClaimMapViews
import Derived.JoinedTies
import Derived.KernelRfl
namespace Go.Proofs.YtmmdikhljefeiaaGreat
/- THE CELL 'sum', in the pinned program and in every row, IS THE sha256 OF THE DUMP (.gsa) THAT YtmmdikhljefeiaaGreatProg.lean LOADS. Nothing in Lean hashes anything: it is a label: what it is worth is what the hold of that sum in a sandbox is worth. -/
noncomputable def Tryz.pinned : Pinned := { name := "ytmmdikhljefeiaagreat", sum := "e05a21fc8991c133e14dfaa88e32fdb368a538739e59ed83067ca905d84cc502", checked := Tryz.checked }
namespace Rows
def none {H : Type} : Left H := { results := [], args := [] }

/-- 'harpsichordlaw18.FcallWrites': WHATEVER THE INPUT: true; the input reads as it did. -/
def fcallWritesSpec : ChangeSpec := { name := "fcallWrites", fn := fun _ => fun
  | [d] => { results := [.lit (.bool true)], args := [d] }
  | _ => none }
def fcallWritesRow : OpenClaim := { program := "ytmmdikhljefeiaagreat", sum := "e05a21fc8991c133e14dfaa88e32fdb368a538739e59ed83067ca905d84cc502", func := "harpsichord/harpsichordlaw18.FcallWrites", spec := "fcallWrites", inPlace := ["maps.clone", "internal/bytealg.IndexByteString"], unfollowed := true, recurses := true, apart := false }
def FcallWritesSaid : Prop := fcallWritesRow.holds Tryz.pinned (OpenSpec.ofChange fcallWritesSpec)

/-- ITS FALSE NEIGHBOUR: 'it returns false'. Refute it at one input. -/
def fcallWritesWrong : ChangeSpec := { name := "fcallWrites", fn := fun _ => fun
  | [d] => { results := [.lit (.bool false)], args := [d] }
  | _ => none }
def FcallWritesWrongFalsely : Prop := fcallWritesRow.holds Tryz.pinned (OpenSpec.ofChange fcallWritesWrong)

/-- 'harpsichordlaw18.FcallTexts': WHATEVER THE INPUT: true; the input reads as it did. -/
def fcallTextsSpec : ChangeSpec := { name := "fcallTexts", fn := fun _ => fun
  | [d] => { results := [.lit (.bool true)], args := [d] }
  | _ => none }
def fcallTextsRow : OpenClaim := { program := "ytmmdikhljefeiaagreat", sum := "e05a21fc8991c133e14dfaa88e32fdb368a538739e59ed83067ca905d84cc502", func := "harpsichord/harpsichordlaw18.FcallTexts", spec := "fcallTexts", inPlace := ["maps.clone", "internal/bytealg.IndexByteString"], unfollowed := true, recurses := true, apart := false }
def FcallTextsSaid : Prop := fcallTextsRow.holds Tryz.pinned (OpenSpec.ofChange fcallTextsSpec)

/-- ITS FALSE NEIGHBOUR: 'it returns false'. Refute it at one input. -/
def fcallTextsWrong : ChangeSpec := { name := "fcallTexts", fn := fun _ => fun
  | [d] => { results := [.lit (.bool false)], args := [d] }
  | _ => none }
def FcallTextsWrongFalsely : Prop := fcallTextsRow.holds Tryz.pinned (OpenSpec.ofChange fcallTextsWrong)

/-- 'harpsichordlaw18.FcallClients': WHATEVER THE INPUT: true; the input reads as it did. -/
def fcallClientsSpec : ChangeSpec := { name := "fcallClients", fn := fun _ => fun
  | [d1, d2] => { results := [.lit (.bool true)], args := [d1, d2] }
  | _ => none }
def fcallClientsRow : OpenClaim := { program := "ytmmdikhljefeiaagreat", sum := "e05a21fc8991c133e14dfaa88e32fdb368a538739e59ed83067ca905d84cc502", func := "harpsichord/harpsichordlaw18.FcallClients", spec := "fcallClients", inPlace := ["maps.clone", "internal/bytealg.IndexByteString"], unfollowed := true, recurses := true, apart := false }
def FcallClientsSaid : Prop := fcallClientsRow.holds Tryz.pinned (OpenSpec.ofChange fcallClientsSpec)

/-- ITS FALSE NEIGHBOUR: 'it returns false'. Refute it at one input. -/
def fcallClientsWrong : ChangeSpec := { name := "fcallClients", fn := fun _ => fun
  | [d1, d2] => { results := [.lit (.bool false)], args := [d1, d2] }
  | _ => none }
def FcallClientsWrongFalsely : Prop := fcallClientsRow.holds Tryz.pinned (OpenSpec.ofChange fcallClientsWrong)

/-- 'harpsichordlaw18.FcallAll': WHATEVER THE INPUT: true; the input reads as it did. -/
def fcallAllSpec : ChangeSpec := { name := "fcallAll", fn := fun _ => fun
  | [d1, d2] => { results := [.lit (.bool true)], args := [d1, d2] }
  | _ => none }
def fcallAllRow : OpenClaim := { program := "ytmmdikhljefeiaagreat", sum := "e05a21fc8991c133e14dfaa88e32fdb368a538739e59ed83067ca905d84cc502", func := "harpsichord/harpsichordlaw18.FcallAll", spec := "fcallAll", inPlace := ["maps.clone", "internal/bytealg.IndexByteString"], unfollowed := true, recurses := true, apart := false }
def FcallAllSaid : Prop := fcallAllRow.holds Tryz.pinned (OpenSpec.ofChange fcallAllSpec)

/-- ITS FALSE NEIGHBOUR: 'it returns false'. Refute it at one input. -/
def fcallAllWrong : ChangeSpec := { name := "fcallAll", fn := fun _ => fun
  | [d1, d2] => { results := [.lit (.bool false)], args := [d1, d2] }
  | _ => none }
def FcallAllWrongFalsely : Prop := fcallAllRow.holds Tryz.pinned (OpenSpec.ofChange fcallAllWrong)

/-- 'harpsichordlaw18.FcallTwice': WHATEVER THE INPUT: true; the input reads as it did. -/
def fcallTwiceSpec : ChangeSpec := { name := "fcallTwice", fn := fun _ => fun
  | [d1, d2] => { results := [.lit (.bool true)], args := [d1, d2] }
  | _ => none }
def fcallTwiceRow : OpenClaim := { program := "ytmmdikhljefeiaagreat", sum := "e05a21fc8991c133e14dfaa88e32fdb368a538739e59ed83067ca905d84cc502", func := "harpsichord/harpsichordlaw18.FcallTwice", spec := "fcallTwice", inPlace := ["maps.clone", "internal/bytealg.IndexByteString"], unfollowed := true, recurses := true, apart := false }
def FcallTwiceSaid : Prop := fcallTwiceRow.holds Tryz.pinned (OpenSpec.ofChange fcallTwiceSpec)

/-- ITS FALSE NEIGHBOUR: 'it returns false'. Refute it at one input. -/
def fcallTwiceWrong : ChangeSpec := { name := "fcallTwice", fn := fun _ => fun
  | [d1, d2] => { results := [.lit (.bool false)], args := [d1, d2] }
  | _ => none }
def FcallTwiceWrongFalsely : Prop := fcallTwiceRow.holds Tryz.pinned (OpenSpec.ofChange fcallTwiceWrong)

/-- 'harpsichordlaw18.FcallReads': WHATEVER THE INPUT: true; the input reads as it did. -/
def fcallReadsSpec : ChangeSpec := { name := "fcallReads", fn := fun _ => fun
  | [d1, d2] => { results := [.lit (.bool true)], args := [d1, d2] }
  | _ => none }
def fcallReadsRow : OpenClaim := { program := "ytmmdikhljefeiaagreat", sum := "e05a21fc8991c133e14dfaa88e32fdb368a538739e59ed83067ca905d84cc502", func := "harpsichord/harpsichordlaw18.FcallReads", spec := "fcallReads", inPlace := ["maps.clone", "internal/bytealg.IndexByteString"], unfollowed := true, recurses := true, apart := false }
def FcallReadsSaid : Prop := fcallReadsRow.holds Tryz.pinned (OpenSpec.ofChange fcallReadsSpec)

/-- ITS FALSE NEIGHBOUR: 'it returns false'. Refute it at one input. -/
def fcallReadsWrong : ChangeSpec := { name := "fcallReads", fn := fun _ => fun
  | [d1, d2] => { results := [.lit (.bool false)], args := [d1, d2] }
  | _ => none }
def FcallReadsWrongFalsely : Prop := fcallReadsRow.holds Tryz.pinned (OpenSpec.ofChange fcallReadsWrong)

/-- 'harpsichordlaw18.FcallApart': WHATEVER THE INPUT: true; the input reads as it did. -/
def fcallApartSpec : ChangeSpec := { name := "fcallApart", fn := fun _ => fun
  | [d1, d2] => { results := [.lit (.bool true)], args := [d1, d2] }
  | _ => none }
def fcallApartRow : OpenClaim := { program := "ytmmdikhljefeiaagreat", sum := "e05a21fc8991c133e14dfaa88e32fdb368a538739e59ed83067ca905d84cc502", func := "harpsichord/harpsichordlaw18.FcallApart", spec := "fcallApart", inPlace := ["maps.clone", "internal/bytealg.IndexByteString"], unfollowed := true, recurses := true, apart := false }
def FcallApartSaid : Prop := fcallApartRow.holds Tryz.pinned (OpenSpec.ofChange fcallApartSpec)

/-- ITS FALSE NEIGHBOUR: 'it returns false'. Refute it at one input. -/
def fcallApartWrong : ChangeSpec := { name := "fcallApart", fn := fun _ => fun
  | [d1, d2] => { results := [.lit (.bool false)], args := [d1, d2] }
  | _ => none }
def FcallApartWrongFalsely : Prop := fcallApartRow.holds Tryz.pinned (OpenSpec.ofChange fcallApartWrong)

/- THE SECOND FORM. 'bulk': how many values and letters a reading holds, each counted each time it is reached (what is shared counts as often as it is met; a slice's spare places count too). A statement '..UptoSaid' is the law's where the arguments, and the package variables that the reading takes, are together of bulk at most 1048576: NARROWER than '..Said'. Prove '..Said' where nothing that the law and all that it calls make is longer than what came in: it says more and counts as full. Else prove '..UptoSaid'. A law counts once. -/
mutual
def uptoBulk {H : Type} : DataW H → Nat
  | .lit (.string bytes) => bytes.length + 1
  | .lit _ => 1
  | .nil => 1
  | .ptr d => uptoBulk d + 1
  | .slice elems spare => uptoBulkAll elems + uptoBulkAll spare + 1
  | .agg parts => uptoBulkAll parts + 1
  | .iface _ d => uptoBulk d + 1
  | .map entries => uptoBulkEntries entries + 1
  | .held _ => 1
def uptoBulkAll {H : Type} : List (DataW H) → Nat
  | [] => 0
  | d :: r => uptoBulk d + uptoBulkAll r
def uptoBulkEntries {H : Type} : List (Lit × DataW H) → Nat
  | [] => 0
  | x :: r => uptoBulkEntry x + uptoBulkEntries r
def uptoBulkEntry {H : Type} : Lit × DataW H → Nat
  | (.string bytes, d) => bytes.length + uptoBulk d + 1
  | (_, d) => uptoBulk d + 1
 end
def uptoSmall : (H : Type) → List (DataW H) → Bool := fun _ ds => decide (uptoBulkAll ds ≤ 1048576)
def OpenSpec.upto (s : _root_.Go.ChangeSpec) : _root_.Go.OpenSpec := { _root_.Go.OpenSpec.ofChange s with cond := some uptoSmall }

/-- 'harpsichordlaw18.FcallWrites', WHERE WHAT IT READS IS OF BULK AT MOST 1048576: true; the input reads as it did. -/
def fcallWritesUptoRow : OpenClaim := { program := "ytmmdikhljefeiaagreat", sum := "e05a21fc8991c133e14dfaa88e32fdb368a538739e59ed83067ca905d84cc502", func := "harpsichord/harpsichordlaw18.FcallWrites", spec := "fcallWrites", inPlace := ["maps.clone", "internal/bytealg.IndexByteString"], unfollowed := true, recurses := true, apart := false, narrowed := true }
def FcallWritesUptoSaid : Prop := fcallWritesUptoRow.holds Tryz.pinned (OpenSpec.upto fcallWritesSpec)

/-- 'harpsichordlaw18.FcallTexts', WHERE WHAT IT READS IS OF BULK AT MOST 1048576: true; the input reads as it did. -/
def fcallTextsUptoRow : OpenClaim := { program := "ytmmdikhljefeiaagreat", sum := "e05a21fc8991c133e14dfaa88e32fdb368a538739e59ed83067ca905d84cc502", func := "harpsichord/harpsichordlaw18.FcallTexts", spec := "fcallTexts", inPlace := ["maps.clone", "internal/bytealg.IndexByteString"], unfollowed := true, recurses := true, apart := false, narrowed := true }
def FcallTextsUptoSaid : Prop := fcallTextsUptoRow.holds Tryz.pinned (OpenSpec.upto fcallTextsSpec)

/-- 'harpsichordlaw18.FcallClients', WHERE WHAT IT READS IS OF BULK AT MOST 1048576: true; the input reads as it did. -/
def fcallClientsUptoRow : OpenClaim := { program := "ytmmdikhljefeiaagreat", sum := "e05a21fc8991c133e14dfaa88e32fdb368a538739e59ed83067ca905d84cc502", func := "harpsichord/harpsichordlaw18.FcallClients", spec := "fcallClients", inPlace := ["maps.clone", "internal/bytealg.IndexByteString"], unfollowed := true, recurses := true, apart := false, narrowed := true }
def FcallClientsUptoSaid : Prop := fcallClientsUptoRow.holds Tryz.pinned (OpenSpec.upto fcallClientsSpec)

/-- 'harpsichordlaw18.FcallAll', WHERE WHAT IT READS IS OF BULK AT MOST 1048576: true; the input reads as it did. -/
def fcallAllUptoRow : OpenClaim := { program := "ytmmdikhljefeiaagreat", sum := "e05a21fc8991c133e14dfaa88e32fdb368a538739e59ed83067ca905d84cc502", func := "harpsichord/harpsichordlaw18.FcallAll", spec := "fcallAll", inPlace := ["maps.clone", "internal/bytealg.IndexByteString"], unfollowed := true, recurses := true, apart := false, narrowed := true }
def FcallAllUptoSaid : Prop := fcallAllUptoRow.holds Tryz.pinned (OpenSpec.upto fcallAllSpec)

/-- 'harpsichordlaw18.FcallTwice', WHERE WHAT IT READS IS OF BULK AT MOST 1048576: true; the input reads as it did. -/
def fcallTwiceUptoRow : OpenClaim := { program := "ytmmdikhljefeiaagreat", sum := "e05a21fc8991c133e14dfaa88e32fdb368a538739e59ed83067ca905d84cc502", func := "harpsichord/harpsichordlaw18.FcallTwice", spec := "fcallTwice", inPlace := ["maps.clone", "internal/bytealg.IndexByteString"], unfollowed := true, recurses := true, apart := false, narrowed := true }
def FcallTwiceUptoSaid : Prop := fcallTwiceUptoRow.holds Tryz.pinned (OpenSpec.upto fcallTwiceSpec)

/-- 'harpsichordlaw18.FcallReads', WHERE WHAT IT READS IS OF BULK AT MOST 1048576: true; the input reads as it did. -/
def fcallReadsUptoRow : OpenClaim := { program := "ytmmdikhljefeiaagreat", sum := "e05a21fc8991c133e14dfaa88e32fdb368a538739e59ed83067ca905d84cc502", func := "harpsichord/harpsichordlaw18.FcallReads", spec := "fcallReads", inPlace := ["maps.clone", "internal/bytealg.IndexByteString"], unfollowed := true, recurses := true, apart := false, narrowed := true }
def FcallReadsUptoSaid : Prop := fcallReadsUptoRow.holds Tryz.pinned (OpenSpec.upto fcallReadsSpec)

/-- 'harpsichordlaw18.FcallApart', WHERE WHAT IT READS IS OF BULK AT MOST 1048576: true; the input reads as it did. -/
def fcallApartUptoRow : OpenClaim := { program := "ytmmdikhljefeiaagreat", sum := "e05a21fc8991c133e14dfaa88e32fdb368a538739e59ed83067ca905d84cc502", func := "harpsichord/harpsichordlaw18.FcallApart", spec := "fcallApart", inPlace := ["maps.clone", "internal/bytealg.IndexByteString"], unfollowed := true, recurses := true, apart := false, narrowed := true }
def FcallApartUptoSaid : Prop := fcallApartUptoRow.holds Tryz.pinned (OpenSpec.upto fcallApartSpec)

end Rows
end Go.Proofs.YtmmdikhljefeiaaGreat

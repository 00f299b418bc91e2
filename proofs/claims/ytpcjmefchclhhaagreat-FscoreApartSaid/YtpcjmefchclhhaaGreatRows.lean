/-
  No cell of these rows narrows 'for every input' (looked for: loops, veiled, ifaces, maps, wideKeys, modest, calm, conditions, laid).
  DERIVED. THE GIVEN ROWS OF THIS SEAT. 5 by the template 'for every input the law returns true; each argument reads behind the call as it read before'; 0 by the template 'total and deterministic' (their statements: YtpcjmefchclhhaaGreatTotals.lean).
  GIVEN WITH THE SEED: the statements are not yours to turn. If you find one false, say at which input.
  Laid BY PROGRAM, IN A SANDBOX (cutbox-rows.mjs): the forced cells as the released guide's own fill.sh prints them over the translation efb412299166ff96… (all of the seat's roots in one cut). By AI agents, Wed Nov 11 2026. No macro, syntax, notation, axiom, sorry.
-/
import Derived.Test.YtpcjmefchclhhaaGreatChecked
import GoSem.Claim
import GoSem.ClaimJoined
import GoSem.ClaimMapViews
import Derived.JoinedTies
import Derived.KernelRfl
namespace Go.Proofs.YtpcjmefchclhhaaGreat
/- THE CELL 'sum', in the pinned program and in every row, IS THE sha256 OF THE DUMP (.gsa) THAT YtpcjmefchclhhaaGreatProg.lean LOADS. Nothing in Lean hashes anything: it is a label: what it is worth is what the hold of that sum in a sandbox is worth. -/
noncomputable def Tryz.pinned : Pinned := { name := "ytpcjmefchclhhaagreat", sum := "efb412299166ff96d5d88980c0529c452fcebadea8785ec8bb447697db79b82d", checked := Tryz.checked }
namespace Rows
def none {H : Type} : Left H := { results := [], args := [] }

/-- 'harpsichordlaw17.FscoreAsks': WHATEVER THE INPUT: true; the input reads as it did. -/
def fscoreAsksSpec : ChangeSpec := { name := "fscoreAsks", fn := fun _ => fun
  | [d1, d2, d3] => { results := [.lit (.bool true)], args := [d1, d2, d3] }
  | _ => none }
def fscoreAsksRow : OpenClaim := { program := "ytpcjmefchclhhaagreat", sum := "efb412299166ff96d5d88980c0529c452fcebadea8785ec8bb447697db79b82d", func := "harpsichord/harpsichordlaw17.FscoreAsks", spec := "fscoreAsks", inPlace := ["internal/bytealg.IndexByteString"], unfollowed := true, recurses := true, apart := false }
def FscoreAsksSaid : Prop := fscoreAsksRow.holds Tryz.pinned (OpenSpec.ofChange fscoreAsksSpec)

/-- ITS FALSE NEIGHBOUR: 'it returns false'. Refute it at one input. -/
def fscoreAsksWrong : ChangeSpec := { name := "fscoreAsks", fn := fun _ => fun
  | [d1, d2, d3] => { results := [.lit (.bool false)], args := [d1, d2, d3] }
  | _ => none }
def FscoreAsksWrongFalsely : Prop := fscoreAsksRow.holds Tryz.pinned (OpenSpec.ofChange fscoreAsksWrong)

/-- 'harpsichordlaw17.FscoreAll': WHATEVER THE INPUT: true; the input reads as it did. -/
def fscoreAllSpec : ChangeSpec := { name := "fscoreAll", fn := fun _ => fun
  | [d1, d2] => { results := [.lit (.bool true)], args := [d1, d2] }
  | _ => none }
def fscoreAllRow : OpenClaim := { program := "ytpcjmefchclhhaagreat", sum := "efb412299166ff96d5d88980c0529c452fcebadea8785ec8bb447697db79b82d", func := "harpsichord/harpsichordlaw17.FscoreAll", spec := "fscoreAll", inPlace := ["internal/bytealg.IndexByteString"], unfollowed := true, recurses := true, apart := false }
def FscoreAllSaid : Prop := fscoreAllRow.holds Tryz.pinned (OpenSpec.ofChange fscoreAllSpec)

/-- ITS FALSE NEIGHBOUR: 'it returns false'. Refute it at one input. -/
def fscoreAllWrong : ChangeSpec := { name := "fscoreAll", fn := fun _ => fun
  | [d1, d2] => { results := [.lit (.bool false)], args := [d1, d2] }
  | _ => none }
def FscoreAllWrongFalsely : Prop := fscoreAllRow.holds Tryz.pinned (OpenSpec.ofChange fscoreAllWrong)

/-- 'harpsichordlaw17.FscoreRefused': WHATEVER THE INPUT: true; the input reads as it did. -/
def fscoreRefusedSpec : ChangeSpec := { name := "fscoreRefused", fn := fun _ => fun
  | [d1, d2] => { results := [.lit (.bool true)], args := [d1, d2] }
  | _ => none }
def fscoreRefusedRow : OpenClaim := { program := "ytpcjmefchclhhaagreat", sum := "efb412299166ff96d5d88980c0529c452fcebadea8785ec8bb447697db79b82d", func := "harpsichord/harpsichordlaw17.FscoreRefused", spec := "fscoreRefused", inPlace := ["internal/bytealg.IndexByteString"], unfollowed := true, recurses := true, apart := false }
def FscoreRefusedSaid : Prop := fscoreRefusedRow.holds Tryz.pinned (OpenSpec.ofChange fscoreRefusedSpec)

/-- ITS FALSE NEIGHBOUR: 'it returns false'. Refute it at one input. -/
def fscoreRefusedWrong : ChangeSpec := { name := "fscoreRefused", fn := fun _ => fun
  | [d1, d2] => { results := [.lit (.bool false)], args := [d1, d2] }
  | _ => none }
def FscoreRefusedWrongFalsely : Prop := fscoreRefusedRow.holds Tryz.pinned (OpenSpec.ofChange fscoreRefusedWrong)

/-- 'harpsichordlaw17.FscoreTurns': WHATEVER THE INPUT: true; the input reads as it did. -/
def fscoreTurnsSpec : ChangeSpec := { name := "fscoreTurns", fn := fun _ => fun
  | [d1, d2] => { results := [.lit (.bool true)], args := [d1, d2] }
  | _ => none }
def fscoreTurnsRow : OpenClaim := { program := "ytpcjmefchclhhaagreat", sum := "efb412299166ff96d5d88980c0529c452fcebadea8785ec8bb447697db79b82d", func := "harpsichord/harpsichordlaw17.FscoreTurns", spec := "fscoreTurns", inPlace := ["internal/bytealg.IndexByteString"], unfollowed := true, recurses := true, apart := false }
def FscoreTurnsSaid : Prop := fscoreTurnsRow.holds Tryz.pinned (OpenSpec.ofChange fscoreTurnsSpec)

/-- ITS FALSE NEIGHBOUR: 'it returns false'. Refute it at one input. -/
def fscoreTurnsWrong : ChangeSpec := { name := "fscoreTurns", fn := fun _ => fun
  | [d1, d2] => { results := [.lit (.bool false)], args := [d1, d2] }
  | _ => none }
def FscoreTurnsWrongFalsely : Prop := fscoreTurnsRow.holds Tryz.pinned (OpenSpec.ofChange fscoreTurnsWrong)

/-- 'harpsichordlaw17.FscoreApart': WHATEVER THE INPUT: true; the input reads as it did. -/
def fscoreApartSpec : ChangeSpec := { name := "fscoreApart", fn := fun _ => fun
  | [d1, d2] => { results := [.lit (.bool true)], args := [d1, d2] }
  | _ => none }
def fscoreApartRow : OpenClaim := { program := "ytpcjmefchclhhaagreat", sum := "efb412299166ff96d5d88980c0529c452fcebadea8785ec8bb447697db79b82d", func := "harpsichord/harpsichordlaw17.FscoreApart", spec := "fscoreApart", inPlace := ["internal/bytealg.IndexByteString", "maps.clone"], unfollowed := true, recurses := true, apart := false }
def FscoreApartSaid : Prop := fscoreApartRow.holds Tryz.pinned (OpenSpec.ofChange fscoreApartSpec)

/-- ITS FALSE NEIGHBOUR: 'it returns false'. Refute it at one input. -/
def fscoreApartWrong : ChangeSpec := { name := "fscoreApart", fn := fun _ => fun
  | [d1, d2] => { results := [.lit (.bool false)], args := [d1, d2] }
  | _ => none }
def FscoreApartWrongFalsely : Prop := fscoreApartRow.holds Tryz.pinned (OpenSpec.ofChange fscoreApartWrong)

/- THE SECOND FORM. 'bulk': how many values and letters a reading holds, each counted each time it is reached (what is shared counts as often as it is met; a slice's spare places count too). A statement '..UptoSaid' is the law's where the arguments, and the package variables that the reading takes, are together of bulk at most 1048576: NARROWER than '..Said'. Prove '..Said' where nothing that the law and all that it calls make is longer than what came in: it says more and counts as full. Else prove '..UptoSaid'. A law counts once. -/
mutual
def uptoBulk {H : Type} : DataW H → Nat
  | .lit (.string bytes) => bytes.length + 1
  | .lit _ => 1
  | .nil => 1
  | .ptr d => uptoBulk d + 1
  | .slice elems spare => uptoBulkAll elems + uptoBulkAll spare + 1
  | .agg parts => uptoBulkAll parts + 1
  | .iface _ d => uptoBulk d + 1
  | .map entries => uptoBulkEntries entries + 1
  | .held _ => 1
def uptoBulkAll {H : Type} : List (DataW H) → Nat
  | [] => 0
  | d :: r => uptoBulk d + uptoBulkAll r
def uptoBulkEntries {H : Type} : List (Lit × DataW H) → Nat
  | [] => 0
  | x :: r => uptoBulkEntry x + uptoBulkEntries r
def uptoBulkEntry {H : Type} : Lit × DataW H → Nat
  | (.string bytes, d) => bytes.length + uptoBulk d + 1
  | (_, d) => uptoBulk d + 1
 end
def uptoSmall : (H : Type) → List (DataW H) → Bool := fun _ ds => decide (uptoBulkAll ds ≤ 1048576)
def OpenSpec.upto (s : _root_.Go.ChangeSpec) : _root_.Go.OpenSpec := { _root_.Go.OpenSpec.ofChange s with cond := some uptoSmall }

/-- 'harpsichordlaw17.FscoreAsks', WHERE WHAT IT READS IS OF BULK AT MOST 1048576: true; the input reads as it did. -/
def fscoreAsksUptoRow : OpenClaim := { program := "ytpcjmefchclhhaagreat", sum := "efb412299166ff96d5d88980c0529c452fcebadea8785ec8bb447697db79b82d", func := "harpsichord/harpsichordlaw17.FscoreAsks", spec := "fscoreAsks", inPlace := ["internal/bytealg.IndexByteString"], unfollowed := true, recurses := true, apart := false, narrowed := true }
def FscoreAsksUptoSaid : Prop := fscoreAsksUptoRow.holds Tryz.pinned (OpenSpec.upto fscoreAsksSpec)

/-- 'harpsichordlaw17.FscoreAll', WHERE WHAT IT READS IS OF BULK AT MOST 1048576: true; the input reads as it did. -/
def fscoreAllUptoRow : OpenClaim := { program := "ytpcjmefchclhhaagreat", sum := "efb412299166ff96d5d88980c0529c452fcebadea8785ec8bb447697db79b82d", func := "harpsichord/harpsichordlaw17.FscoreAll", spec := "fscoreAll", inPlace := ["internal/bytealg.IndexByteString"], unfollowed := true, recurses := true, apart := false, narrowed := true }
def FscoreAllUptoSaid : Prop := fscoreAllUptoRow.holds Tryz.pinned (OpenSpec.upto fscoreAllSpec)

/-- 'harpsichordlaw17.FscoreRefused', WHERE WHAT IT READS IS OF BULK AT MOST 1048576: true; the input reads as it did. -/
def fscoreRefusedUptoRow : OpenClaim := { program := "ytpcjmefchclhhaagreat", sum := "efb412299166ff96d5d88980c0529c452fcebadea8785ec8bb447697db79b82d", func := "harpsichord/harpsichordlaw17.FscoreRefused", spec := "fscoreRefused", inPlace := ["internal/bytealg.IndexByteString"], unfollowed := true, recurses := true, apart := false, narrowed := true }
def FscoreRefusedUptoSaid : Prop := fscoreRefusedUptoRow.holds Tryz.pinned (OpenSpec.upto fscoreRefusedSpec)

/-- 'harpsichordlaw17.FscoreTurns', WHERE WHAT IT READS IS OF BULK AT MOST 1048576: true; the input reads as it did. -/
def fscoreTurnsUptoRow : OpenClaim := { program := "ytpcjmefchclhhaagreat", sum := "efb412299166ff96d5d88980c0529c452fcebadea8785ec8bb447697db79b82d", func := "harpsichord/harpsichordlaw17.FscoreTurns", spec := "fscoreTurns", inPlace := ["internal/bytealg.IndexByteString"], unfollowed := true, recurses := true, apart := false, narrowed := true }
def FscoreTurnsUptoSaid : Prop := fscoreTurnsUptoRow.holds Tryz.pinned (OpenSpec.upto fscoreTurnsSpec)

/-- 'harpsichordlaw17.FscoreApart', WHERE WHAT IT READS IS OF BULK AT MOST 1048576: true; the input reads as it did. -/
def fscoreApartUptoRow : OpenClaim := { program := "ytpcjmefchclhhaagreat", sum := "efb412299166ff96d5d88980c0529c452fcebadea8785ec8bb447697db79b82d", func := "harpsichord/harpsichordlaw17.FscoreApart", spec := "fscoreApart", inPlace := ["internal/bytealg.IndexByteString", "maps.clone"], unfollowed := true, recurses := true, apart := false, narrowed := true }
def FscoreApartUptoSaid : Prop := fscoreApartUptoRow.holds Tryz.pinned (OpenSpec.upto fscoreApartSpec)

end Rows
end Go.Proofs.YtpcjmefchclhhaaGreat

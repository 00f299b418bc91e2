/-
  NARROWER THAN 'FOR EVERY INPUT', by the rows' own cells (each row's printed sentence says how): ZtreeAll: laid · ZtreeAsks: laid · ZtreeAtomic: laid · ZtreeEnds: laid · ZtreeLoads: laid · ZtreeBack: laid.
  DERIVED. THE GIVEN ROWS OF THIS SEAT. 6 by the template 'for every input the law returns true; each argument reads behind the call as it read before'; 0 by the template 'total and deterministic' (their statements: YtifdeajdlhgglaaGreatDoorTotals.lean).
  GIVEN WITH THE SEED: the statements are not yours to turn. If you find one false, say at which input.
  Laid BY PROGRAM, IN A SANDBOX (cutbox-rows.mjs): the forced cells as the released guide's own fill.sh prints them over the translation b5e14d93f4969b69… (all of the seat's roots in one cut). By AI agents, Wed Nov 11 2026. No macro, syntax, notation, axiom, sorry.
-/
import Derived.Test.YtifdeajdlhgglaaGreatDoorChecked
import GoSem.PinnedTables
import GoSem.Claim
import GoSem.ClaimJoined
import GoSem.ClaimMapViews
import Derived.JoinedTies
import Derived.KernelRfl
namespace Go.Proofs.YtifdeajdlhgglaaGreatDoor
/- THE CELL 'sum', in the pinned program and in every row, IS THE sha256 OF THE DUMP (.gsa) THAT YtifdeajdlhgglaaGreatDoorProg.lean LOADS. Nothing in Lean hashes anything: it is a label: what it is worth is what the hold of that sum in a sandbox is worth. -/
noncomputable def Tryz.pinned : Pinned := { name := "ytifdeajdlhgglaagreatdoor", sum := "b5e14d93f4969b690ccaa685ab5a74a7bfd19488da82cd3e87af4239a36afc76", checked := Tryz.checked }
namespace Rows
def none {H : Type} : Left H := { results := [], args := [] }

/- WHAT THE LISTED PACKAGE-LEVEL VARIABLES READ AS WHEN THE CALL BEGINS. Each datum BY PROGRAM (the guide's laid-datum.mjs) off the statement by which the dump's own 'gosem.cut.vars' lays the variable. In a bare row this is a premise. The card (YtifdeajdlhgglaaGreatDoorCards.lean) ties it to the program's text. -/
def laid_unicode_utf8_acceptRanges {H : Type} : DataW H := .agg [.agg [.lit (.int .u8 128), .lit (.int .u8 191)], .agg [.lit (.int .u8 160), .lit (.int .u8 191)], .agg [.lit (.int .u8 128), .lit (.int .u8 159)], .agg [.lit (.int .u8 144), .lit (.int .u8 191)], .agg [.lit (.int .u8 128), .lit (.int .u8 143)], .agg [.lit (.int .u8 0), .lit (.int .u8 0)], .agg [.lit (.int .u8 0), .lit (.int .u8 0)], .agg [.lit (.int .u8 0), .lit (.int .u8 0)], .agg [.lit (.int .u8 0), .lit (.int .u8 0)], .agg [.lit (.int .u8 0), .lit (.int .u8 0)], .agg [.lit (.int .u8 0), .lit (.int .u8 0)], .agg [.lit (.int .u8 0), .lit (.int .u8 0)], .agg [.lit (.int .u8 0), .lit (.int .u8 0)], .agg [.lit (.int .u8 0), .lit (.int .u8 0)], .agg [.lit (.int .u8 0), .lit (.int .u8 0)], .agg [.lit (.int .u8 0), .lit (.int .u8 0)]]
/-- One of Go's own tables, pinned by name: the form's constant. -/
def laid_unicode_utf8_first : DataW Unit := Go.Pinned.utf8First

/-- 'harpsichordlaw08.ZtreeAll': WHATEVER THE INPUT: true; the input reads as it did. -/
def ztreeAllSpec : ChangeSpec := { name := "ztreeAll", fn := fun _ => fun
  | [d] => { results := [.lit (.bool true)], args := [d] }
  | _ => none }
def ztreeAllRow : OpenClaim := { program := "ytifdeajdlhgglaagreatdoor", sum := "b5e14d93f4969b690ccaa685ab5a74a7bfd19488da82cd3e87af4239a36afc76", func := "harpsichord/harpsichordlaw08.ZtreeAll", spec := "ztreeAll", inPlace := ["maps.clone", "internal/bytealg.CountString", "internal/bytealg.IndexByteString", "internal/bytealg.IndexString", "internal/abi.NoEscape", "internal/bytealg.MakeNoZero"], unfollowed := true, recurses := true, named := ["unicode/utf8.first", "unicode/utf8.acceptRanges", "internal/bytealg.MaxLen"], apart := false, laid := [("unicode/utf8.acceptRanges", laid_unicode_utf8_acceptRanges), ("unicode/utf8.first", laid_unicode_utf8_first)] }
def ZtreeAllSaid : Prop := ztreeAllRow.holds Tryz.pinned (OpenSpec.ofChange ztreeAllSpec)

/-- ITS FALSE NEIGHBOUR: 'it returns false'. Refute it at one input. -/
def ztreeAllWrong : ChangeSpec := { name := "ztreeAll", fn := fun _ => fun
  | [d] => { results := [.lit (.bool false)], args := [d] }
  | _ => none }
def ZtreeAllWrongFalsely : Prop := ztreeAllRow.holds Tryz.pinned (OpenSpec.ofChange ztreeAllWrong)

/-- 'harpsichordlaw08.ZtreeAsks': WHATEVER THE INPUT: true; the input reads as it did. -/
def ztreeAsksSpec : ChangeSpec := { name := "ztreeAsks", fn := fun _ => fun
  | [d1, d2, d3] => { results := [.lit (.bool true)], args := [d1, d2, d3] }
  | _ => none }
def ztreeAsksRow : OpenClaim := { program := "ytifdeajdlhgglaagreatdoor", sum := "b5e14d93f4969b690ccaa685ab5a74a7bfd19488da82cd3e87af4239a36afc76", func := "harpsichord/harpsichordlaw08.ZtreeAsks", spec := "ztreeAsks", inPlace := ["maps.clone", "internal/bytealg.CountString", "internal/bytealg.IndexByteString", "internal/bytealg.IndexString", "internal/abi.NoEscape", "internal/bytealg.MakeNoZero"], unfollowed := true, recurses := true, named := ["unicode/utf8.first", "unicode/utf8.acceptRanges", "internal/bytealg.MaxLen"], apart := false, laid := [("unicode/utf8.acceptRanges", laid_unicode_utf8_acceptRanges), ("unicode/utf8.first", laid_unicode_utf8_first)] }
def ZtreeAsksSaid : Prop := ztreeAsksRow.holds Tryz.pinned (OpenSpec.ofChange ztreeAsksSpec)

/-- ITS FALSE NEIGHBOUR: 'it returns false'. Refute it at one input. -/
def ztreeAsksWrong : ChangeSpec := { name := "ztreeAsks", fn := fun _ => fun
  | [d1, d2, d3] => { results := [.lit (.bool false)], args := [d1, d2, d3] }
  | _ => none }
def ZtreeAsksWrongFalsely : Prop := ztreeAsksRow.holds Tryz.pinned (OpenSpec.ofChange ztreeAsksWrong)

/-- 'harpsichordlaw08.ZtreeAtomic': WHATEVER THE INPUT: true; the input reads as it did. -/
def ztreeAtomicSpec : ChangeSpec := { name := "ztreeAtomic", fn := fun _ => fun
  | [d1, d2, d3] => { results := [.lit (.bool true)], args := [d1, d2, d3] }
  | _ => none }
def ztreeAtomicRow : OpenClaim := { program := "ytifdeajdlhgglaagreatdoor", sum := "b5e14d93f4969b690ccaa685ab5a74a7bfd19488da82cd3e87af4239a36afc76", func := "harpsichord/harpsichordlaw08.ZtreeAtomic", spec := "ztreeAtomic", inPlace := ["maps.clone", "internal/bytealg.CountString", "internal/bytealg.IndexByteString", "internal/bytealg.IndexString", "internal/abi.NoEscape", "internal/bytealg.MakeNoZero"], unfollowed := true, recurses := true, named := ["unicode/utf8.first", "unicode/utf8.acceptRanges", "internal/bytealg.MaxLen"], apart := false, laid := [("unicode/utf8.acceptRanges", laid_unicode_utf8_acceptRanges), ("unicode/utf8.first", laid_unicode_utf8_first)] }
def ZtreeAtomicSaid : Prop := ztreeAtomicRow.holds Tryz.pinned (OpenSpec.ofChange ztreeAtomicSpec)

/-- ITS FALSE NEIGHBOUR: 'it returns false'. Refute it at one input. -/
def ztreeAtomicWrong : ChangeSpec := { name := "ztreeAtomic", fn := fun _ => fun
  | [d1, d2, d3] => { results := [.lit (.bool false)], args := [d1, d2, d3] }
  | _ => none }
def ZtreeAtomicWrongFalsely : Prop := ztreeAtomicRow.holds Tryz.pinned (OpenSpec.ofChange ztreeAtomicWrong)

/-- 'harpsichordlaw08.ZtreeEnds': WHATEVER THE INPUT: true; the input reads as it did. -/
def ztreeEndsSpec : ChangeSpec := { name := "ztreeEnds", fn := fun _ => fun
  | [d1, d2, d3] => { results := [.lit (.bool true)], args := [d1, d2, d3] }
  | _ => none }
def ztreeEndsRow : OpenClaim := { program := "ytifdeajdlhgglaagreatdoor", sum := "b5e14d93f4969b690ccaa685ab5a74a7bfd19488da82cd3e87af4239a36afc76", func := "harpsichord/harpsichordlaw08.ZtreeEnds", spec := "ztreeEnds", inPlace := ["maps.clone", "internal/bytealg.CountString", "internal/bytealg.IndexByteString", "internal/bytealg.IndexString", "internal/abi.NoEscape", "internal/bytealg.MakeNoZero"], unfollowed := true, recurses := true, named := ["unicode/utf8.first", "unicode/utf8.acceptRanges", "internal/bytealg.MaxLen"], apart := false, laid := [("unicode/utf8.acceptRanges", laid_unicode_utf8_acceptRanges), ("unicode/utf8.first", laid_unicode_utf8_first)] }
def ZtreeEndsSaid : Prop := ztreeEndsRow.holds Tryz.pinned (OpenSpec.ofChange ztreeEndsSpec)

/-- ITS FALSE NEIGHBOUR: 'it returns false'. Refute it at one input. -/
def ztreeEndsWrong : ChangeSpec := { name := "ztreeEnds", fn := fun _ => fun
  | [d1, d2, d3] => { results := [.lit (.bool false)], args := [d1, d2, d3] }
  | _ => none }
def ZtreeEndsWrongFalsely : Prop := ztreeEndsRow.holds Tryz.pinned (OpenSpec.ofChange ztreeEndsWrong)

/-- 'harpsichordlaw08.ZtreeLoads': WHATEVER THE INPUT: true; the input reads as it did. -/
def ztreeLoadsSpec : ChangeSpec := { name := "ztreeLoads", fn := fun _ => fun
  | [d1, d2] => { results := [.lit (.bool true)], args := [d1, d2] }
  | _ => none }
def ztreeLoadsRow : OpenClaim := { program := "ytifdeajdlhgglaagreatdoor", sum := "b5e14d93f4969b690ccaa685ab5a74a7bfd19488da82cd3e87af4239a36afc76", func := "harpsichord/harpsichordlaw08.ZtreeLoads", spec := "ztreeLoads", inPlace := ["maps.clone", "internal/bytealg.CountString", "internal/bytealg.IndexByteString", "internal/bytealg.IndexString", "internal/abi.NoEscape", "internal/bytealg.MakeNoZero"], unfollowed := true, recurses := true, named := ["unicode/utf8.first", "unicode/utf8.acceptRanges", "internal/bytealg.MaxLen"], apart := false, laid := [("unicode/utf8.acceptRanges", laid_unicode_utf8_acceptRanges), ("unicode/utf8.first", laid_unicode_utf8_first)] }
def ZtreeLoadsSaid : Prop := ztreeLoadsRow.holds Tryz.pinned (OpenSpec.ofChange ztreeLoadsSpec)

/-- ITS FALSE NEIGHBOUR: 'it returns false'. Refute it at one input. -/
def ztreeLoadsWrong : ChangeSpec := { name := "ztreeLoads", fn := fun _ => fun
  | [d1, d2] => { results := [.lit (.bool false)], args := [d1, d2] }
  | _ => none }
def ZtreeLoadsWrongFalsely : Prop := ztreeLoadsRow.holds Tryz.pinned (OpenSpec.ofChange ztreeLoadsWrong)

/-- 'harpsichordlaw08.ZtreeBack': WHATEVER THE INPUT: true; the input reads as it did. -/
def ztreeBackSpec : ChangeSpec := { name := "ztreeBack", fn := fun _ => fun
  | [d1, d2] => { results := [.lit (.bool true)], args := [d1, d2] }
  | _ => none }
def ztreeBackRow : OpenClaim := { program := "ytifdeajdlhgglaagreatdoor", sum := "b5e14d93f4969b690ccaa685ab5a74a7bfd19488da82cd3e87af4239a36afc76", func := "harpsichord/harpsichordlaw08.ZtreeBack", spec := "ztreeBack", inPlace := ["maps.clone", "internal/bytealg.CountString", "internal/bytealg.IndexByteString", "internal/bytealg.IndexString", "internal/abi.NoEscape", "internal/bytealg.MakeNoZero"], unfollowed := true, recurses := true, named := ["unicode/utf8.first", "unicode/utf8.acceptRanges", "internal/bytealg.MaxLen"], apart := false, laid := [("unicode/utf8.acceptRanges", laid_unicode_utf8_acceptRanges), ("unicode/utf8.first", laid_unicode_utf8_first)] }
def ZtreeBackSaid : Prop := ztreeBackRow.holds Tryz.pinned (OpenSpec.ofChange ztreeBackSpec)

/-- ITS FALSE NEIGHBOUR: 'it returns false'. Refute it at one input. -/
def ztreeBackWrong : ChangeSpec := { name := "ztreeBack", fn := fun _ => fun
  | [d1, d2] => { results := [.lit (.bool false)], args := [d1, d2] }
  | _ => none }
def ZtreeBackWrongFalsely : Prop := ztreeBackRow.holds Tryz.pinned (OpenSpec.ofChange ztreeBackWrong)

/- THE SECOND FORM. 'bulk': how many values and letters a reading holds, each counted each time it is reached (what is shared counts as often as it is met; a slice's spare places count too). A statement '..UptoSaid' is the law's where the arguments, and the package variables that the reading takes, are together of bulk at most 1048576: NARROWER than '..Said'. Prove '..Said' where nothing that the law and all that it calls make is longer than what came in: it says more and counts as full. Else prove '..UptoSaid'. A law counts once. -/
mutual
def uptoBulk {H : Type} : DataW H → Nat
  | .lit (.string bytes) => bytes.length + 1
  | .lit _ => 1
  | .nil => 1
  | .ptr d => uptoBulk d + 1
  | .slice elems spare => uptoBulkAll elems + uptoBulkAll spare + 1
  | .agg parts => uptoBulkAll parts + 1
  | .iface _ d => uptoBulk d + 1
  | .map entries => uptoBulkEntries entries + 1
  | .held _ => 1
def uptoBulkAll {H : Type} : List (DataW H) → Nat
  | [] => 0
  | d :: r => uptoBulk d + uptoBulkAll r
def uptoBulkEntries {H : Type} : List (Lit × DataW H) → Nat
  | [] => 0
  | x :: r => uptoBulkEntry x + uptoBulkEntries r
def uptoBulkEntry {H : Type} : Lit × DataW H → Nat
  | (.string bytes, d) => bytes.length + uptoBulk d + 1
  | (_, d) => uptoBulk d + 1
 end
def uptoSmall : (H : Type) → List (DataW H) → Bool := fun _ ds => decide (uptoBulkAll ds ≤ 1048576)
def OpenSpec.upto (s : _root_.Go.ChangeSpec) : _root_.Go.OpenSpec := { _root_.Go.OpenSpec.ofChange s with cond := some uptoSmall }

/-- 'harpsichordlaw08.ZtreeAll', WHERE WHAT IT READS IS OF BULK AT MOST 1048576: true; the input reads as it did. -/
def ztreeAllUptoRow : OpenClaim := { program := "ytifdeajdlhgglaagreatdoor", sum := "b5e14d93f4969b690ccaa685ab5a74a7bfd19488da82cd3e87af4239a36afc76", func := "harpsichord/harpsichordlaw08.ZtreeAll", spec := "ztreeAll", inPlace := ["maps.clone", "internal/bytealg.CountString", "internal/bytealg.IndexByteString", "internal/bytealg.IndexString", "internal/abi.NoEscape", "internal/bytealg.MakeNoZero"], unfollowed := true, recurses := true, named := ["unicode/utf8.first", "unicode/utf8.acceptRanges", "internal/bytealg.MaxLen"], apart := false, laid := [("unicode/utf8.acceptRanges", laid_unicode_utf8_acceptRanges), ("unicode/utf8.first", laid_unicode_utf8_first)], narrowed := true }
def ZtreeAllUptoSaid : Prop := ztreeAllUptoRow.holds Tryz.pinned (OpenSpec.upto ztreeAllSpec)

/-- 'harpsichordlaw08.ZtreeAsks', WHERE WHAT IT READS IS OF BULK AT MOST 1048576: true; the input reads as it did. -/
def ztreeAsksUptoRow : OpenClaim := { program := "ytifdeajdlhgglaagreatdoor", sum := "b5e14d93f4969b690ccaa685ab5a74a7bfd19488da82cd3e87af4239a36afc76", func := "harpsichord/harpsichordlaw08.ZtreeAsks", spec := "ztreeAsks", inPlace := ["maps.clone", "internal/bytealg.CountString", "internal/bytealg.IndexByteString", "internal/bytealg.IndexString", "internal/abi.NoEscape", "internal/bytealg.MakeNoZero"], unfollowed := true, recurses := true, named := ["unicode/utf8.first", "unicode/utf8.acceptRanges", "internal/bytealg.MaxLen"], apart := false, laid := [("unicode/utf8.acceptRanges", laid_unicode_utf8_acceptRanges), ("unicode/utf8.first", laid_unicode_utf8_first)], narrowed := true }
def ZtreeAsksUptoSaid : Prop := ztreeAsksUptoRow.holds Tryz.pinned (OpenSpec.upto ztreeAsksSpec)

/-- 'harpsichordlaw08.ZtreeAtomic', WHERE WHAT IT READS IS OF BULK AT MOST 1048576: true; the input reads as it did. -/
def ztreeAtomicUptoRow : OpenClaim := { program := "ytifdeajdlhgglaagreatdoor", sum := "b5e14d93f4969b690ccaa685ab5a74a7bfd19488da82cd3e87af4239a36afc76", func := "harpsichord/harpsichordlaw08.ZtreeAtomic", spec := "ztreeAtomic", inPlace := ["maps.clone", "internal/bytealg.CountString", "internal/bytealg.IndexByteString", "internal/bytealg.IndexString", "internal/abi.NoEscape", "internal/bytealg.MakeNoZero"], unfollowed := true, recurses := true, named := ["unicode/utf8.first", "unicode/utf8.acceptRanges", "internal/bytealg.MaxLen"], apart := false, laid := [("unicode/utf8.acceptRanges", laid_unicode_utf8_acceptRanges), ("unicode/utf8.first", laid_unicode_utf8_first)], narrowed := true }
def ZtreeAtomicUptoSaid : Prop := ztreeAtomicUptoRow.holds Tryz.pinned (OpenSpec.upto ztreeAtomicSpec)

/-- 'harpsichordlaw08.ZtreeEnds', WHERE WHAT IT READS IS OF BULK AT MOST 1048576: true; the input reads as it did. -/
def ztreeEndsUptoRow : OpenClaim := { program := "ytifdeajdlhgglaagreatdoor", sum := "b5e14d93f4969b690ccaa685ab5a74a7bfd19488da82cd3e87af4239a36afc76", func := "harpsichord/harpsichordlaw08.ZtreeEnds", spec := "ztreeEnds", inPlace := ["maps.clone", "internal/bytealg.CountString", "internal/bytealg.IndexByteString", "internal/bytealg.IndexString", "internal/abi.NoEscape", "internal/bytealg.MakeNoZero"], unfollowed := true, recurses := true, named := ["unicode/utf8.first", "unicode/utf8.acceptRanges", "internal/bytealg.MaxLen"], apart := false, laid := [("unicode/utf8.acceptRanges", laid_unicode_utf8_acceptRanges), ("unicode/utf8.first", laid_unicode_utf8_first)], narrowed := true }
def ZtreeEndsUptoSaid : Prop := ztreeEndsUptoRow.holds Tryz.pinned (OpenSpec.upto ztreeEndsSpec)

/-- 'harpsichordlaw08.ZtreeLoads', WHERE WHAT IT READS IS OF BULK AT MOST 1048576: true; the input reads as it did. -/
def ztreeLoadsUptoRow : OpenClaim := { program := "ytifdeajdlhgglaagreatdoor", sum := "b5e14d93f4969b690ccaa685ab5a74a7bfd19488da82cd3e87af4239a36afc76", func := "harpsichord/harpsichordlaw08.ZtreeLoads", spec := "ztreeLoads", inPlace := ["maps.clone", "internal/bytealg.CountString", "internal/bytealg.IndexByteString", "internal/bytealg.IndexString", "internal/abi.NoEscape", "internal/bytealg.MakeNoZero"], unfollowed := true, recurses := true, named := ["unicode/utf8.first", "unicode/utf8.acceptRanges", "internal/bytealg.MaxLen"], apart := false, laid := [("unicode/utf8.acceptRanges", laid_unicode_utf8_acceptRanges), ("unicode/utf8.first", laid_unicode_utf8_first)], narrowed := true }
def ZtreeLoadsUptoSaid : Prop := ztreeLoadsUptoRow.holds Tryz.pinned (OpenSpec.upto ztreeLoadsSpec)

/-- 'harpsichordlaw08.ZtreeBack', WHERE WHAT IT READS IS OF BULK AT MOST 1048576: true; the input reads as it did. -/
def ztreeBackUptoRow : OpenClaim := { program := "ytifdeajdlhgglaagreatdoor", sum := "b5e14d93f4969b690ccaa685ab5a74a7bfd19488da82cd3e87af4239a36afc76", func := "harpsichord/harpsichordlaw08.ZtreeBack", spec := "ztreeBack", inPlace := ["maps.clone", "internal/bytealg.CountString", "internal/bytealg.IndexByteString", "internal/bytealg.IndexString", "internal/abi.NoEscape", "internal/bytealg.MakeNoZero"], unfollowed := true, recurses := true, named := ["unicode/utf8.first", "unicode/utf8.acceptRanges", "internal/bytealg.MaxLen"], apart := false, laid := [("unicode/utf8.acceptRanges", laid_unicode_utf8_acceptRanges), ("unicode/utf8.first", laid_unicode_utf8_first)], narrowed := true }
def ZtreeBackUptoSaid : Prop := ztreeBackUptoRow.holds Tryz.pinned (OpenSpec.upto ztreeBackSpec)

end Rows
end Go.Proofs.YtifdeajdlhgglaaGreatDoor

/-
  NARROWER THAN 'FOR EVERY INPUT', by the rows' own cells (each row's printed sentence says how): ZstateAll: laid · ZstateTwice: laid · ZstateRises: laid · ZstateApart: laid · ZstateWrites: laid · ZstateReads: laid · ZstateRaw: laid.
  DERIVED. THE GIVEN ROWS OF THIS SEAT. 7 by the template 'for every input the law returns true; each argument reads behind the call as it read before'; 0 by the template 'total and deterministic' (their statements: YtalfffamppmooaaGreatDoorTotals.lean).
  GIVEN WITH THE SEED: the statements are not yours to turn. If you find one false, say at which input.
  Laid BY PROGRAM, IN A SANDBOX (cutbox-rows.mjs): the forced cells as the released guide's own fill.sh prints them over the translation e3f4560fa5c3ccb8… (all of the seat's roots in one cut). By AI agents, Wed Nov 11 2026. No macro, syntax, notation, axiom, sorry.
-/
import Derived.Test.YtalfffamppmooaaGreatDoorChecked
import GoSem.PinnedTables
import GoSem.Claim
import GoSem.ClaimJoined
import GoSem.ClaimMapViews
import Derived.JoinedTies
import Derived.KernelRfl
namespace Go.Proofs.YtalfffamppmooaaGreatDoor
/- THE CELL 'sum', in the pinned program and in every row, IS THE sha256 OF THE DUMP (.gsa) THAT YtalfffamppmooaaGreatDoorProg.lean LOADS. Nothing in Lean hashes anything: it is a label: what it is worth is what the hold of that sum in a sandbox is worth. -/
noncomputable def Tryz.pinned : Pinned := { name := "ytalfffamppmooaagreatdoor", sum := "e3f4560fa5c3ccb821bac897a03afe64e30fa5fae5d1e3165236f952c3c6b1dd", checked := Tryz.checked }
namespace Rows
def none {H : Type} : Left H := { results := [], args := [] }

/- WHAT THE LISTED PACKAGE-LEVEL VARIABLES READ AS WHEN THE CALL BEGINS. Each datum BY PROGRAM (the guide's laid-datum.mjs) off the statement by which the dump's own 'gosem.cut.vars' lays the variable. In a bare row this is a premise. The card (YtalfffamppmooaaGreatDoorCards.lean) ties it to the program's text. -/
def laid_unicode_utf8_acceptRanges {H : Type} : DataW H := .agg [.agg [.lit (.int .u8 128), .lit (.int .u8 191)], .agg [.lit (.int .u8 160), .lit (.int .u8 191)], .agg [.lit (.int .u8 128), .lit (.int .u8 159)], .agg [.lit (.int .u8 144), .lit (.int .u8 191)], .agg [.lit (.int .u8 128), .lit (.int .u8 143)], .agg [.lit (.int .u8 0), .lit (.int .u8 0)], .agg [.lit (.int .u8 0), .lit (.int .u8 0)], .agg [.lit (.int .u8 0), .lit (.int .u8 0)], .agg [.lit (.int .u8 0), .lit (.int .u8 0)], .agg [.lit (.int .u8 0), .lit (.int .u8 0)], .agg [.lit (.int .u8 0), .lit (.int .u8 0)], .agg [.lit (.int .u8 0), .lit (.int .u8 0)], .agg [.lit (.int .u8 0), .lit (.int .u8 0)], .agg [.lit (.int .u8 0), .lit (.int .u8 0)], .agg [.lit (.int .u8 0), .lit (.int .u8 0)], .agg [.lit (.int .u8 0), .lit (.int .u8 0)]]
/-- One of Go's own tables, pinned by name: the form's constant. -/
def laid_unicode_utf8_first : DataW Unit := Go.Pinned.utf8First

/-- 'harpsichordlaw11.ZstateAll': WHATEVER THE INPUT: true; the input reads as it did. -/
def zstateAllSpec : ChangeSpec := { name := "zstateAll", fn := fun _ => fun
  | [d] => { results := [.lit (.bool true)], args := [d] }
  | _ => none }
def zstateAllRow : OpenClaim := { program := "ytalfffamppmooaagreatdoor", sum := "e3f4560fa5c3ccb821bac897a03afe64e30fa5fae5d1e3165236f952c3c6b1dd", func := "harpsichord/harpsichordlaw11.ZstateAll", spec := "zstateAll", inPlace := ["slices.overlaps[harpsichord/lease.Lease]", "maps.clone", "internal/bytealg.CountString", "internal/bytealg.IndexByteString", "internal/bytealg.IndexString", "internal/abi.NoEscape", "internal/bytealg.MakeNoZero"], unfollowed := true, recurses := true, named := ["unicode/utf8.first", "unicode/utf8.acceptRanges", "internal/bytealg.MaxLen"], apart := false, laid := [("unicode/utf8.acceptRanges", laid_unicode_utf8_acceptRanges), ("unicode/utf8.first", laid_unicode_utf8_first)] }
def ZstateAllSaid : Prop := zstateAllRow.holds Tryz.pinned (OpenSpec.ofChange zstateAllSpec)

/-- ITS FALSE NEIGHBOUR: 'it returns false'. Refute it at one input. -/
def zstateAllWrong : ChangeSpec := { name := "zstateAll", fn := fun _ => fun
  | [d] => { results := [.lit (.bool false)], args := [d] }
  | _ => none }
def ZstateAllWrongFalsely : Prop := zstateAllRow.holds Tryz.pinned (OpenSpec.ofChange zstateAllWrong)

/-- 'harpsichordlaw11.ZstateTwice': WHATEVER THE INPUT: true; the input reads as it did. -/
def zstateTwiceSpec : ChangeSpec := { name := "zstateTwice", fn := fun _ => fun
  | [d1, d2] => { results := [.lit (.bool true)], args := [d1, d2] }
  | _ => none }
def zstateTwiceRow : OpenClaim := { program := "ytalfffamppmooaagreatdoor", sum := "e3f4560fa5c3ccb821bac897a03afe64e30fa5fae5d1e3165236f952c3c6b1dd", func := "harpsichord/harpsichordlaw11.ZstateTwice", spec := "zstateTwice", inPlace := ["slices.overlaps[harpsichord/lease.Lease]", "maps.clone", "internal/bytealg.CountString", "internal/bytealg.IndexByteString", "internal/bytealg.IndexString", "internal/abi.NoEscape", "internal/bytealg.MakeNoZero"], unfollowed := true, recurses := true, named := ["unicode/utf8.first", "unicode/utf8.acceptRanges", "internal/bytealg.MaxLen"], apart := false, laid := [("unicode/utf8.acceptRanges", laid_unicode_utf8_acceptRanges), ("unicode/utf8.first", laid_unicode_utf8_first)] }
def ZstateTwiceSaid : Prop := zstateTwiceRow.holds Tryz.pinned (OpenSpec.ofChange zstateTwiceSpec)

/-- ITS FALSE NEIGHBOUR: 'it returns false'. Refute it at one input. -/
def zstateTwiceWrong : ChangeSpec := { name := "zstateTwice", fn := fun _ => fun
  | [d1, d2] => { results := [.lit (.bool false)], args := [d1, d2] }
  | _ => none }
def ZstateTwiceWrongFalsely : Prop := zstateTwiceRow.holds Tryz.pinned (OpenSpec.ofChange zstateTwiceWrong)

/-- 'harpsichordlaw11.ZstateRises': WHATEVER THE INPUT: true; the input reads as it did. -/
def zstateRisesSpec : ChangeSpec := { name := "zstateRises", fn := fun _ => fun
  | [d1, d2] => { results := [.lit (.bool true)], args := [d1, d2] }
  | _ => none }
def zstateRisesRow : OpenClaim := { program := "ytalfffamppmooaagreatdoor", sum := "e3f4560fa5c3ccb821bac897a03afe64e30fa5fae5d1e3165236f952c3c6b1dd", func := "harpsichord/harpsichordlaw11.ZstateRises", spec := "zstateRises", inPlace := ["slices.overlaps[harpsichord/lease.Lease]", "maps.clone", "internal/bytealg.CountString", "internal/bytealg.IndexByteString", "internal/bytealg.IndexString", "internal/abi.NoEscape", "internal/bytealg.MakeNoZero"], unfollowed := true, recurses := true, named := ["unicode/utf8.first", "unicode/utf8.acceptRanges", "internal/bytealg.MaxLen"], apart := false, laid := [("unicode/utf8.acceptRanges", laid_unicode_utf8_acceptRanges), ("unicode/utf8.first", laid_unicode_utf8_first)] }
def ZstateRisesSaid : Prop := zstateRisesRow.holds Tryz.pinned (OpenSpec.ofChange zstateRisesSpec)

/-- ITS FALSE NEIGHBOUR: 'it returns false'. Refute it at one input. -/
def zstateRisesWrong : ChangeSpec := { name := "zstateRises", fn := fun _ => fun
  | [d1, d2] => { results := [.lit (.bool false)], args := [d1, d2] }
  | _ => none }
def ZstateRisesWrongFalsely : Prop := zstateRisesRow.holds Tryz.pinned (OpenSpec.ofChange zstateRisesWrong)

/-- 'harpsichordlaw11.ZstateApart': WHATEVER THE INPUT: true; the input reads as it did. -/
def zstateApartSpec : ChangeSpec := { name := "zstateApart", fn := fun _ => fun
  | [d1, d2] => { results := [.lit (.bool true)], args := [d1, d2] }
  | _ => none }
def zstateApartRow : OpenClaim := { program := "ytalfffamppmooaagreatdoor", sum := "e3f4560fa5c3ccb821bac897a03afe64e30fa5fae5d1e3165236f952c3c6b1dd", func := "harpsichord/harpsichordlaw11.ZstateApart", spec := "zstateApart", inPlace := ["slices.overlaps[harpsichord/lease.Lease]", "maps.clone", "internal/bytealg.CountString", "internal/bytealg.IndexByteString", "internal/bytealg.IndexString", "internal/abi.NoEscape", "internal/bytealg.MakeNoZero"], unfollowed := true, recurses := true, named := ["unicode/utf8.first", "unicode/utf8.acceptRanges", "internal/bytealg.MaxLen"], apart := false, laid := [("unicode/utf8.acceptRanges", laid_unicode_utf8_acceptRanges), ("unicode/utf8.first", laid_unicode_utf8_first)] }
def ZstateApartSaid : Prop := zstateApartRow.holds Tryz.pinned (OpenSpec.ofChange zstateApartSpec)

/-- ITS FALSE NEIGHBOUR: 'it returns false'. Refute it at one input. -/
def zstateApartWrong : ChangeSpec := { name := "zstateApart", fn := fun _ => fun
  | [d1, d2] => { results := [.lit (.bool false)], args := [d1, d2] }
  | _ => none }
def ZstateApartWrongFalsely : Prop := zstateApartRow.holds Tryz.pinned (OpenSpec.ofChange zstateApartWrong)

/-- 'harpsichordlaw11.ZstateWrites': WHATEVER THE INPUT: true; the input reads as it did. -/
def zstateWritesSpec : ChangeSpec := { name := "zstateWrites", fn := fun _ => fun
  | [d] => { results := [.lit (.bool true)], args := [d] }
  | _ => none }
def zstateWritesRow : OpenClaim := { program := "ytalfffamppmooaagreatdoor", sum := "e3f4560fa5c3ccb821bac897a03afe64e30fa5fae5d1e3165236f952c3c6b1dd", func := "harpsichord/harpsichordlaw11.ZstateWrites", spec := "zstateWrites", inPlace := ["slices.overlaps[harpsichord/lease.Lease]", "maps.clone", "internal/bytealg.CountString", "internal/bytealg.IndexByteString", "internal/bytealg.IndexString", "internal/abi.NoEscape", "internal/bytealg.MakeNoZero"], unfollowed := true, recurses := true, named := ["unicode/utf8.first", "unicode/utf8.acceptRanges", "internal/bytealg.MaxLen"], apart := false, laid := [("unicode/utf8.acceptRanges", laid_unicode_utf8_acceptRanges), ("unicode/utf8.first", laid_unicode_utf8_first)] }
def ZstateWritesSaid : Prop := zstateWritesRow.holds Tryz.pinned (OpenSpec.ofChange zstateWritesSpec)

/-- ITS FALSE NEIGHBOUR: 'it returns false'. Refute it at one input. -/
def zstateWritesWrong : ChangeSpec := { name := "zstateWrites", fn := fun _ => fun
  | [d] => { results := [.lit (.bool false)], args := [d] }
  | _ => none }
def ZstateWritesWrongFalsely : Prop := zstateWritesRow.holds Tryz.pinned (OpenSpec.ofChange zstateWritesWrong)

/-- 'harpsichordlaw11.ZstateReads': WHATEVER THE INPUT: true; the input reads as it did. -/
def zstateReadsSpec : ChangeSpec := { name := "zstateReads", fn := fun _ => fun
  | [d] => { results := [.lit (.bool true)], args := [d] }
  | _ => none }
def zstateReadsRow : OpenClaim := { program := "ytalfffamppmooaagreatdoor", sum := "e3f4560fa5c3ccb821bac897a03afe64e30fa5fae5d1e3165236f952c3c6b1dd", func := "harpsichord/harpsichordlaw11.ZstateReads", spec := "zstateReads", inPlace := ["slices.overlaps[harpsichord/lease.Lease]", "maps.clone", "internal/bytealg.CountString", "internal/bytealg.IndexByteString", "internal/bytealg.IndexString", "internal/abi.NoEscape", "internal/bytealg.MakeNoZero"], unfollowed := true, recurses := true, named := ["unicode/utf8.first", "unicode/utf8.acceptRanges", "internal/bytealg.MaxLen"], apart := false, laid := [("unicode/utf8.acceptRanges", laid_unicode_utf8_acceptRanges), ("unicode/utf8.first", laid_unicode_utf8_first)] }
def ZstateReadsSaid : Prop := zstateReadsRow.holds Tryz.pinned (OpenSpec.ofChange zstateReadsSpec)

/-- ITS FALSE NEIGHBOUR: 'it returns false'. Refute it at one input. -/
def zstateReadsWrong : ChangeSpec := { name := "zstateReads", fn := fun _ => fun
  | [d] => { results := [.lit (.bool false)], args := [d] }
  | _ => none }
def ZstateReadsWrongFalsely : Prop := zstateReadsRow.holds Tryz.pinned (OpenSpec.ofChange zstateReadsWrong)

/-- 'harpsichordlaw11.ZstateRaw': WHATEVER THE INPUT: true; the input reads as it did. -/
def zstateRawSpec : ChangeSpec := { name := "zstateRaw", fn := fun _ => fun
  | [d] => { results := [.lit (.bool true)], args := [d] }
  | _ => none }
def zstateRawRow : OpenClaim := { program := "ytalfffamppmooaagreatdoor", sum := "e3f4560fa5c3ccb821bac897a03afe64e30fa5fae5d1e3165236f952c3c6b1dd", func := "harpsichord/harpsichordlaw11.ZstateRaw", spec := "zstateRaw", inPlace := ["slices.overlaps[harpsichord/lease.Lease]", "maps.clone", "internal/bytealg.CountString", "internal/bytealg.IndexByteString", "internal/bytealg.IndexString", "internal/abi.NoEscape", "internal/bytealg.MakeNoZero"], unfollowed := true, recurses := true, named := ["unicode/utf8.first", "unicode/utf8.acceptRanges", "internal/bytealg.MaxLen"], apart := false, laid := [("unicode/utf8.acceptRanges", laid_unicode_utf8_acceptRanges), ("unicode/utf8.first", laid_unicode_utf8_first)] }
def ZstateRawSaid : Prop := zstateRawRow.holds Tryz.pinned (OpenSpec.ofChange zstateRawSpec)

/-- ITS FALSE NEIGHBOUR: 'it returns false'. Refute it at one input. -/
def zstateRawWrong : ChangeSpec := { name := "zstateRaw", fn := fun _ => fun
  | [d] => { results := [.lit (.bool false)], args := [d] }
  | _ => none }
def ZstateRawWrongFalsely : Prop := zstateRawRow.holds Tryz.pinned (OpenSpec.ofChange zstateRawWrong)

/- THE SECOND FORM. 'bulk': how many values and letters a reading holds, each counted each time it is reached (what is shared counts as often as it is met; a slice's spare places count too). A statement '..UptoSaid' is the law's where the arguments, and the package variables that the reading takes, are together of bulk at most 1048576: NARROWER than '..Said'. Prove '..Said' where nothing that the law and all that it calls make is longer than what came in: it says more and counts as full. Else prove '..UptoSaid'. A law counts once. -/
mutual
def uptoBulk {H : Type} : DataW H → Nat
  | .lit (.string bytes) => bytes.length + 1
  | .lit _ => 1
  | .nil => 1
  | .ptr d => uptoBulk d + 1
  | .slice elems spare => uptoBulkAll elems + uptoBulkAll spare + 1
  | .agg parts => uptoBulkAll parts + 1
  | .iface _ d => uptoBulk d + 1
  | .map entries => uptoBulkEntries entries + 1
  | .held _ => 1
def uptoBulkAll {H : Type} : List (DataW H) → Nat
  | [] => 0
  | d :: r => uptoBulk d + uptoBulkAll r
def uptoBulkEntries {H : Type} : List (Lit × DataW H) → Nat
  | [] => 0
  | x :: r => uptoBulkEntry x + uptoBulkEntries r
def uptoBulkEntry {H : Type} : Lit × DataW H → Nat
  | (.string bytes, d) => bytes.length + uptoBulk d + 1
  | (_, d) => uptoBulk d + 1
 end
def uptoSmall : (H : Type) → List (DataW H) → Bool := fun _ ds => decide (uptoBulkAll ds ≤ 1048576)
def OpenSpec.upto (s : _root_.Go.ChangeSpec) : _root_.Go.OpenSpec := { _root_.Go.OpenSpec.ofChange s with cond := some uptoSmall }

/-- 'harpsichordlaw11.ZstateAll', WHERE WHAT IT READS IS OF BULK AT MOST 1048576: true; the input reads as it did. -/
def zstateAllUptoRow : OpenClaim := { program := "ytalfffamppmooaagreatdoor", sum := "e3f4560fa5c3ccb821bac897a03afe64e30fa5fae5d1e3165236f952c3c6b1dd", func := "harpsichord/harpsichordlaw11.ZstateAll", spec := "zstateAll", inPlace := ["slices.overlaps[harpsichord/lease.Lease]", "maps.clone", "internal/bytealg.CountString", "internal/bytealg.IndexByteString", "internal/bytealg.IndexString", "internal/abi.NoEscape", "internal/bytealg.MakeNoZero"], unfollowed := true, recurses := true, named := ["unicode/utf8.first", "unicode/utf8.acceptRanges", "internal/bytealg.MaxLen"], apart := false, laid := [("unicode/utf8.acceptRanges", laid_unicode_utf8_acceptRanges), ("unicode/utf8.first", laid_unicode_utf8_first)], narrowed := true }
def ZstateAllUptoSaid : Prop := zstateAllUptoRow.holds Tryz.pinned (OpenSpec.upto zstateAllSpec)

/-- 'harpsichordlaw11.ZstateTwice', WHERE WHAT IT READS IS OF BULK AT MOST 1048576: true; the input reads as it did. -/
def zstateTwiceUptoRow : OpenClaim := { program := "ytalfffamppmooaagreatdoor", sum := "e3f4560fa5c3ccb821bac897a03afe64e30fa5fae5d1e3165236f952c3c6b1dd", func := "harpsichord/harpsichordlaw11.ZstateTwice", spec := "zstateTwice", inPlace := ["slices.overlaps[harpsichord/lease.Lease]", "maps.clone", "internal/bytealg.CountString", "internal/bytealg.IndexByteString", "internal/bytealg.IndexString", "internal/abi.NoEscape", "internal/bytealg.MakeNoZero"], unfollowed := true, recurses := true, named := ["unicode/utf8.first", "unicode/utf8.acceptRanges", "internal/bytealg.MaxLen"], apart := false, laid := [("unicode/utf8.acceptRanges", laid_unicode_utf8_acceptRanges), ("unicode/utf8.first", laid_unicode_utf8_first)], narrowed := true }
def ZstateTwiceUptoSaid : Prop := zstateTwiceUptoRow.holds Tryz.pinned (OpenSpec.upto zstateTwiceSpec)

/-- 'harpsichordlaw11.ZstateRises', WHERE WHAT IT READS IS OF BULK AT MOST 1048576: true; the input reads as it did. -/
def zstateRisesUptoRow : OpenClaim := { program := "ytalfffamppmooaagreatdoor", sum := "e3f4560fa5c3ccb821bac897a03afe64e30fa5fae5d1e3165236f952c3c6b1dd", func := "harpsichord/harpsichordlaw11.ZstateRises", spec := "zstateRises", inPlace := ["slices.overlaps[harpsichord/lease.Lease]", "maps.clone", "internal/bytealg.CountString", "internal/bytealg.IndexByteString", "internal/bytealg.IndexString", "internal/abi.NoEscape", "internal/bytealg.MakeNoZero"], unfollowed := true, recurses := true, named := ["unicode/utf8.first", "unicode/utf8.acceptRanges", "internal/bytealg.MaxLen"], apart := false, laid := [("unicode/utf8.acceptRanges", laid_unicode_utf8_acceptRanges), ("unicode/utf8.first", laid_unicode_utf8_first)], narrowed := true }
def ZstateRisesUptoSaid : Prop := zstateRisesUptoRow.holds Tryz.pinned (OpenSpec.upto zstateRisesSpec)

/-- 'harpsichordlaw11.ZstateApart', WHERE WHAT IT READS IS OF BULK AT MOST 1048576: true; the input reads as it did. -/
def zstateApartUptoRow : OpenClaim := { program := "ytalfffamppmooaagreatdoor", sum := "e3f4560fa5c3ccb821bac897a03afe64e30fa5fae5d1e3165236f952c3c6b1dd", func := "harpsichord/harpsichordlaw11.ZstateApart", spec := "zstateApart", inPlace := ["slices.overlaps[harpsichord/lease.Lease]", "maps.clone", "internal/bytealg.CountString", "internal/bytealg.IndexByteString", "internal/bytealg.IndexString", "internal/abi.NoEscape", "internal/bytealg.MakeNoZero"], unfollowed := true, recurses := true, named := ["unicode/utf8.first", "unicode/utf8.acceptRanges", "internal/bytealg.MaxLen"], apart := false, laid := [("unicode/utf8.acceptRanges", laid_unicode_utf8_acceptRanges), ("unicode/utf8.first", laid_unicode_utf8_first)], narrowed := true }
def ZstateApartUptoSaid : Prop := zstateApartUptoRow.holds Tryz.pinned (OpenSpec.upto zstateApartSpec)

/-- 'harpsichordlaw11.ZstateWrites', WHERE WHAT IT READS IS OF BULK AT MOST 1048576: true; the input reads as it did. -/
def zstateWritesUptoRow : OpenClaim := { program := "ytalfffamppmooaagreatdoor", sum := "e3f4560fa5c3ccb821bac897a03afe64e30fa5fae5d1e3165236f952c3c6b1dd", func := "harpsichord/harpsichordlaw11.ZstateWrites", spec := "zstateWrites", inPlace := ["slices.overlaps[harpsichord/lease.Lease]", "maps.clone", "internal/bytealg.CountString", "internal/bytealg.IndexByteString", "internal/bytealg.IndexString", "internal/abi.NoEscape", "internal/bytealg.MakeNoZero"], unfollowed := true, recurses := true, named := ["unicode/utf8.first", "unicode/utf8.acceptRanges", "internal/bytealg.MaxLen"], apart := false, laid := [("unicode/utf8.acceptRanges", laid_unicode_utf8_acceptRanges), ("unicode/utf8.first", laid_unicode_utf8_first)], narrowed := true }
def ZstateWritesUptoSaid : Prop := zstateWritesUptoRow.holds Tryz.pinned (OpenSpec.upto zstateWritesSpec)

/-- 'harpsichordlaw11.ZstateReads', WHERE WHAT IT READS IS OF BULK AT MOST 1048576: true; the input reads as it did. -/
def zstateReadsUptoRow : OpenClaim := { program := "ytalfffamppmooaagreatdoor", sum := "e3f4560fa5c3ccb821bac897a03afe64e30fa5fae5d1e3165236f952c3c6b1dd", func := "harpsichord/harpsichordlaw11.ZstateReads", spec := "zstateReads", inPlace := ["slices.overlaps[harpsichord/lease.Lease]", "maps.clone", "internal/bytealg.CountString", "internal/bytealg.IndexByteString", "internal/bytealg.IndexString", "internal/abi.NoEscape", "internal/bytealg.MakeNoZero"], unfollowed := true, recurses := true, named := ["unicode/utf8.first", "unicode/utf8.acceptRanges", "internal/bytealg.MaxLen"], apart := false, laid := [("unicode/utf8.acceptRanges", laid_unicode_utf8_acceptRanges), ("unicode/utf8.first", laid_unicode_utf8_first)], narrowed := true }
def ZstateReadsUptoSaid : Prop := zstateReadsUptoRow.holds Tryz.pinned (OpenSpec.upto zstateReadsSpec)

/-- 'harpsichordlaw11.ZstateRaw', WHERE WHAT IT READS IS OF BULK AT MOST 1048576: true; the input reads as it did. -/
def zstateRawUptoRow : OpenClaim := { program := "ytalfffamppmooaagreatdoor", sum := "e3f4560fa5c3ccb821bac897a03afe64e30fa5fae5d1e3165236f952c3c6b1dd", func := "harpsichord/harpsichordlaw11.ZstateRaw", spec := "zstateRaw", inPlace := ["slices.overlaps[harpsichord/lease.Lease]", "maps.clone", "internal/bytealg.CountString", "internal/bytealg.IndexByteString", "internal/bytealg.IndexString", "internal/abi.NoEscape", "internal/bytealg.MakeNoZero"], unfollowed := true, recurses := true, named := ["unicode/utf8.first", "unicode/utf8.acceptRanges", "internal/bytealg.MaxLen"], apart := false, laid := [("unicode/utf8.acceptRanges", laid_unicode_utf8_acceptRanges), ("unicode/utf8.first", laid_unicode_utf8_first)], narrowed := true }
def ZstateRawUptoSaid : Prop := zstateRawUptoRow.holds Tryz.pinned (OpenSpec.upto zstateRawSpec)

end Rows
end Go.Proofs.YtalfffamppmooaaGreatDoor

/-
  DERIVED. GIVEN WITH THE SEED: THE CARDS: each row of YtalfffamppmooaaGreatDoorRows.lean that lists a variable, with what it lists TIED to the program's text (the seventh form; the later family's looks); each row that meets fmt, with fmt's text TOLD by the authors' own Lean function (tested against real Go, not proved from fmt's source: count such statements apart). THE CARD IS WHAT COUNTS. Prove the row's statement (the work); the ties are given (YtalfffamppmooaaGreatDoorTie.lean); close each card by the builder's one call (the guide's Derived/Test/ToyasCard.lean, 'card_holds'). Laid BY PROGRAM, IN A SANDBOX (cutbox-door.mjs). By AI agents, Wed Nov 11 2026. No macro, syntax, notation, axiom, sorry.
-/
import Derived.Test.YtalfffamppmooaaGreatDoorRows
import GoSem.ClaimSeven
namespace Go.Proofs.YtalfffamppmooaaGreatDoor
namespace Rows

/-- THE TIED CARD OF 'harpsichordlaw11.ZstateAll'. -/
def zstateAllCard : Claim7 := { stood := { row := zstateAllRow, standIns := [], harness := (true, "cd53f8e4551ab2170e3128582b0a732c436270b4fd4cd086956358ff9a63a127"), looks := true }, kinds := [], alts := [], laidByText := true, laidKinds := [.data, .pinned], laidTests := true, laidLooks := .later }
def ZstateAllCardSaid : Prop := Claim7.holds Tryz.pinned (.plain (OpenSpec.ofChange zstateAllSpec)) zstateAllCard

/-- THE TIED CARD OF 'harpsichordlaw11.ZstateTwice'. -/
def zstateTwiceCard : Claim7 := { stood := { row := zstateTwiceRow, standIns := [], harness := (true, "cd53f8e4551ab2170e3128582b0a732c436270b4fd4cd086956358ff9a63a127"), looks := true }, kinds := [], alts := [], laidByText := true, laidKinds := [.data, .pinned], laidTests := true, laidLooks := .later }
def ZstateTwiceCardSaid : Prop := Claim7.holds Tryz.pinned (.plain (OpenSpec.ofChange zstateTwiceSpec)) zstateTwiceCard

/-- THE TIED CARD OF 'harpsichordlaw11.ZstateRises'. -/
def zstateRisesCard : Claim7 := { stood := { row := zstateRisesRow, standIns := [], harness := (true, "cd53f8e4551ab2170e3128582b0a732c436270b4fd4cd086956358ff9a63a127"), looks := true }, kinds := [], alts := [], laidByText := true, laidKinds := [.data, .pinned], laidTests := true, laidLooks := .later }
def ZstateRisesCardSaid : Prop := Claim7.holds Tryz.pinned (.plain (OpenSpec.ofChange zstateRisesSpec)) zstateRisesCard

/-- THE TIED CARD OF 'harpsichordlaw11.ZstateApart'. -/
def zstateApartCard : Claim7 := { stood := { row := zstateApartRow, standIns := [], harness := (true, "cd53f8e4551ab2170e3128582b0a732c436270b4fd4cd086956358ff9a63a127"), looks := true }, kinds := [], alts := [], laidByText := true, laidKinds := [.data, .pinned], laidTests := true, laidLooks := .later }
def ZstateApartCardSaid : Prop := Claim7.holds Tryz.pinned (.plain (OpenSpec.ofChange zstateApartSpec)) zstateApartCard

/-- THE TIED CARD OF 'harpsichordlaw11.ZstateWrites'. -/
def zstateWritesCard : Claim7 := { stood := { row := zstateWritesRow, standIns := [], harness := (true, "cd53f8e4551ab2170e3128582b0a732c436270b4fd4cd086956358ff9a63a127"), looks := true }, kinds := [], alts := [], laidByText := true, laidKinds := [.data, .pinned], laidTests := true, laidLooks := .later }
def ZstateWritesCardSaid : Prop := Claim7.holds Tryz.pinned (.plain (OpenSpec.ofChange zstateWritesSpec)) zstateWritesCard

/-- THE TIED CARD OF 'harpsichordlaw11.ZstateReads'. -/
def zstateReadsCard : Claim7 := { stood := { row := zstateReadsRow, standIns := [], harness := (true, "cd53f8e4551ab2170e3128582b0a732c436270b4fd4cd086956358ff9a63a127"), looks := true }, kinds := [], alts := [], laidByText := true, laidKinds := [.data, .pinned], laidTests := true, laidLooks := .later }
def ZstateReadsCardSaid : Prop := Claim7.holds Tryz.pinned (.plain (OpenSpec.ofChange zstateReadsSpec)) zstateReadsCard

/-- THE TIED CARD OF 'harpsichordlaw11.ZstateRaw'. -/
def zstateRawCard : Claim7 := { stood := { row := zstateRawRow, standIns := [], harness := (true, "cd53f8e4551ab2170e3128582b0a732c436270b4fd4cd086956358ff9a63a127"), looks := true }, kinds := [], alts := [], laidByText := true, laidKinds := [.data, .pinned], laidTests := true, laidLooks := .later }
def ZstateRawCardSaid : Prop := Claim7.holds Tryz.pinned (.plain (OpenSpec.ofChange zstateRawSpec)) zstateRawCard

/-- THE SECOND FORM's CARD OF 'harpsichordlaw11.ZstateAll'. -/
def zstateAllUptoCard : Claim7 := { stood := { row := zstateAllUptoRow, standIns := [], harness := (true, "cd53f8e4551ab2170e3128582b0a732c436270b4fd4cd086956358ff9a63a127"), looks := true }, kinds := [], alts := [], laidByText := true, laidKinds := [.data, .pinned], laidTests := true, laidLooks := .later }
def ZstateAllUptoCardSaid : Prop := Claim7.holds Tryz.pinned (.plain (OpenSpec.upto zstateAllSpec)) zstateAllUptoCard

/-- THE SECOND FORM's CARD OF 'harpsichordlaw11.ZstateTwice'. -/
def zstateTwiceUptoCard : Claim7 := { stood := { row := zstateTwiceUptoRow, standIns := [], harness := (true, "cd53f8e4551ab2170e3128582b0a732c436270b4fd4cd086956358ff9a63a127"), looks := true }, kinds := [], alts := [], laidByText := true, laidKinds := [.data, .pinned], laidTests := true, laidLooks := .later }
def ZstateTwiceUptoCardSaid : Prop := Claim7.holds Tryz.pinned (.plain (OpenSpec.upto zstateTwiceSpec)) zstateTwiceUptoCard

/-- THE SECOND FORM's CARD OF 'harpsichordlaw11.ZstateRises'. -/
def zstateRisesUptoCard : Claim7 := { stood := { row := zstateRisesUptoRow, standIns := [], harness := (true, "cd53f8e4551ab2170e3128582b0a732c436270b4fd4cd086956358ff9a63a127"), looks := true }, kinds := [], alts := [], laidByText := true, laidKinds := [.data, .pinned], laidTests := true, laidLooks := .later }
def ZstateRisesUptoCardSaid : Prop := Claim7.holds Tryz.pinned (.plain (OpenSpec.upto zstateRisesSpec)) zstateRisesUptoCard

/-- THE SECOND FORM's CARD OF 'harpsichordlaw11.ZstateApart'. -/
def zstateApartUptoCard : Claim7 := { stood := { row := zstateApartUptoRow, standIns := [], harness := (true, "cd53f8e4551ab2170e3128582b0a732c436270b4fd4cd086956358ff9a63a127"), looks := true }, kinds := [], alts := [], laidByText := true, laidKinds := [.data, .pinned], laidTests := true, laidLooks := .later }
def ZstateApartUptoCardSaid : Prop := Claim7.holds Tryz.pinned (.plain (OpenSpec.upto zstateApartSpec)) zstateApartUptoCard

/-- THE SECOND FORM's CARD OF 'harpsichordlaw11.ZstateWrites'. -/
def zstateWritesUptoCard : Claim7 := { stood := { row := zstateWritesUptoRow, standIns := [], harness := (true, "cd53f8e4551ab2170e3128582b0a732c436270b4fd4cd086956358ff9a63a127"), looks := true }, kinds := [], alts := [], laidByText := true, laidKinds := [.data, .pinned], laidTests := true, laidLooks := .later }
def ZstateWritesUptoCardSaid : Prop := Claim7.holds Tryz.pinned (.plain (OpenSpec.upto zstateWritesSpec)) zstateWritesUptoCard

/-- THE SECOND FORM's CARD OF 'harpsichordlaw11.ZstateReads'. -/
def zstateReadsUptoCard : Claim7 := { stood := { row := zstateReadsUptoRow, standIns := [], harness := (true, "cd53f8e4551ab2170e3128582b0a732c436270b4fd4cd086956358ff9a63a127"), looks := true }, kinds := [], alts := [], laidByText := true, laidKinds := [.data, .pinned], laidTests := true, laidLooks := .later }
def ZstateReadsUptoCardSaid : Prop := Claim7.holds Tryz.pinned (.plain (OpenSpec.upto zstateReadsSpec)) zstateReadsUptoCard

/-- THE SECOND FORM's CARD OF 'harpsichordlaw11.ZstateRaw'. -/
def zstateRawUptoCard : Claim7 := { stood := { row := zstateRawUptoRow, standIns := [], harness := (true, "cd53f8e4551ab2170e3128582b0a732c436270b4fd4cd086956358ff9a63a127"), looks := true }, kinds := [], alts := [], laidByText := true, laidKinds := [.data, .pinned], laidTests := true, laidLooks := .later }
def ZstateRawUptoCardSaid : Prop := Claim7.holds Tryz.pinned (.plain (OpenSpec.upto zstateRawSpec)) zstateRawUptoCard
end Rows
end Go.Proofs.YtalfffamppmooaaGreatDoor

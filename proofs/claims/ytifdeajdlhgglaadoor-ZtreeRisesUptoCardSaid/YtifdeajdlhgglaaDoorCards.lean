/-
  DERIVED. GIVEN WITH THE SEED: THE CARDS: each row of YtifdeajdlhgglaaDoorRows.lean that lists a variable, with what it lists TIED to the program's text (the seventh form; the later family's looks); each row that meets fmt, with fmt's text TOLD by the authors' own Lean function (tested against real Go, not proved from fmt's source: count such statements apart). THE CARD IS WHAT COUNTS. Prove the row's statement (the work); the ties are given (YtifdeajdlhgglaaDoorTie.lean); close each card by the builder's one call (the guide's Derived/Test/ToyasCard.lean, 'card_holds'). Laid BY PROGRAM, IN A SANDBOX (cutbox-door.mjs). By AI agents, Wed Nov 11 2026. No macro, syntax, notation, axiom, sorry.
-/
import Derived.Test.YtifdeajdlhgglaaDoorRows
import GoSem.ClaimSeven
namespace Go.Proofs.YtifdeajdlhgglaaDoor
namespace Rows

/-- THE TIED CARD OF 'harpsichordlaw08.ZtreeShape'. -/
def ztreeShapeCard : Claim7 := { stood := { row := ztreeShapeRow, standIns := [], harness := (true, "dce26b6d80591b4e381832f2363e75a458b565e8aeb5056910cbb8c5ea96c4da"), looks := true }, kinds := [], alts := [], laidByText := true, laidKinds := [.data, .pinned], laidTests := true, laidLooks := .later }
def ZtreeShapeCardSaid : Prop := Claim7.holds Tryd.pinned (.plain (OpenSpec.ofChange ztreeShapeSpec)) ztreeShapeCard

/-- THE TIED CARD OF 'harpsichordlaw08.ZtreeRises'. -/
def ztreeRisesCard : Claim7 := { stood := { row := ztreeRisesRow, standIns := [], harness := (true, "dce26b6d80591b4e381832f2363e75a458b565e8aeb5056910cbb8c5ea96c4da"), looks := true }, kinds := [], alts := [], laidByText := true, laidKinds := [.data, .pinned], laidTests := true, laidLooks := .later }
def ZtreeRisesCardSaid : Prop := Claim7.holds Tryd.pinned (.plain (OpenSpec.ofChange ztreeRisesSpec)) ztreeRisesCard

/-- THE SECOND FORM's CARD OF 'harpsichordlaw08.ZtreeShape'. -/
def ztreeShapeUptoCard : Claim7 := { stood := { row := ztreeShapeUptoRow, standIns := [], harness := (true, "dce26b6d80591b4e381832f2363e75a458b565e8aeb5056910cbb8c5ea96c4da"), looks := true }, kinds := [], alts := [], laidByText := true, laidKinds := [.data, .pinned], laidTests := true, laidLooks := .later }
def ZtreeShapeUptoCardSaid : Prop := Claim7.holds Tryd.pinned (.plain (OpenSpec.upto ztreeShapeSpec)) ztreeShapeUptoCard

/-- THE SECOND FORM's CARD OF 'harpsichordlaw08.ZtreeRises'. -/
def ztreeRisesUptoCard : Claim7 := { stood := { row := ztreeRisesUptoRow, standIns := [], harness := (true, "dce26b6d80591b4e381832f2363e75a458b565e8aeb5056910cbb8c5ea96c4da"), looks := true }, kinds := [], alts := [], laidByText := true, laidKinds := [.data, .pinned], laidTests := true, laidLooks := .later }
def ZtreeRisesUptoCardSaid : Prop := Claim7.holds Tryd.pinned (.plain (OpenSpec.upto ztreeRisesSpec)) ztreeRisesUptoCard
end Rows
end Go.Proofs.YtifdeajdlhgglaaDoor

/-
  DERIVED. GIVEN WITH THE SEED: THE CARDS: each row of YtifdeajdlhgglaaGreatDoorRows.lean that lists a variable, with what it lists TIED to the program's text (the seventh form; the later family's looks); each row that meets fmt, with fmt's text TOLD by the authors' own Lean function (tested against real Go, not proved from fmt's source: count such statements apart). THE CARD IS WHAT COUNTS. Prove the row's statement (the work); the ties are given (YtifdeajdlhgglaaGreatDoorTie.lean); close each card by the builder's one call (the guide's Derived/Test/ToyasCard.lean, 'card_holds'). Laid BY PROGRAM, IN A SANDBOX (cutbox-door.mjs). By AI agents, Wed Nov 11 2026. No macro, syntax, notation, axiom, sorry.
-/
import Derived.Test.YtifdeajdlhgglaaGreatDoorRows
import GoSem.ClaimSeven
namespace Go.Proofs.YtifdeajdlhgglaaGreatDoor
namespace Rows

/-- THE TIED CARD OF 'harpsichordlaw08.ZtreeAll'. -/
def ztreeAllCard : Claim7 := { stood := { row := ztreeAllRow, standIns := [], harness := (true, "f308d5ccfa65f43ac69238583b095e49e44f891b99b2a506513c208c1331ef0d"), looks := true }, kinds := [], alts := [], laidByText := true, laidKinds := [.data, .pinned], laidTests := true, laidLooks := .later }
def ZtreeAllCardSaid : Prop := Claim7.holds Tryz.pinned (.plain (OpenSpec.ofChange ztreeAllSpec)) ztreeAllCard

/-- THE TIED CARD OF 'harpsichordlaw08.ZtreeAsks'. -/
def ztreeAsksCard : Claim7 := { stood := { row := ztreeAsksRow, standIns := [], harness := (true, "f308d5ccfa65f43ac69238583b095e49e44f891b99b2a506513c208c1331ef0d"), looks := true }, kinds := [], alts := [], laidByText := true, laidKinds := [.data, .pinned], laidTests := true, laidLooks := .later }
def ZtreeAsksCardSaid : Prop := Claim7.holds Tryz.pinned (.plain (OpenSpec.ofChange ztreeAsksSpec)) ztreeAsksCard

/-- THE TIED CARD OF 'harpsichordlaw08.ZtreeAtomic'. -/
def ztreeAtomicCard : Claim7 := { stood := { row := ztreeAtomicRow, standIns := [], harness := (true, "f308d5ccfa65f43ac69238583b095e49e44f891b99b2a506513c208c1331ef0d"), looks := true }, kinds := [], alts := [], laidByText := true, laidKinds := [.data, .pinned], laidTests := true, laidLooks := .later }
def ZtreeAtomicCardSaid : Prop := Claim7.holds Tryz.pinned (.plain (OpenSpec.ofChange ztreeAtomicSpec)) ztreeAtomicCard

/-- THE TIED CARD OF 'harpsichordlaw08.ZtreeEnds'. -/
def ztreeEndsCard : Claim7 := { stood := { row := ztreeEndsRow, standIns := [], harness := (true, "f308d5ccfa65f43ac69238583b095e49e44f891b99b2a506513c208c1331ef0d"), looks := true }, kinds := [], alts := [], laidByText := true, laidKinds := [.data, .pinned], laidTests := true, laidLooks := .later }
def ZtreeEndsCardSaid : Prop := Claim7.holds Tryz.pinned (.plain (OpenSpec.ofChange ztreeEndsSpec)) ztreeEndsCard

/-- THE TIED CARD OF 'harpsichordlaw08.ZtreeLoads'. -/
def ztreeLoadsCard : Claim7 := { stood := { row := ztreeLoadsRow, standIns := [], harness := (true, "f308d5ccfa65f43ac69238583b095e49e44f891b99b2a506513c208c1331ef0d"), looks := true }, kinds := [], alts := [], laidByText := true, laidKinds := [.data, .pinned], laidTests := true, laidLooks := .later }
def ZtreeLoadsCardSaid : Prop := Claim7.holds Tryz.pinned (.plain (OpenSpec.ofChange ztreeLoadsSpec)) ztreeLoadsCard

/-- THE TIED CARD OF 'harpsichordlaw08.ZtreeBack'. -/
def ztreeBackCard : Claim7 := { stood := { row := ztreeBackRow, standIns := [], harness := (true, "f308d5ccfa65f43ac69238583b095e49e44f891b99b2a506513c208c1331ef0d"), looks := true }, kinds := [], alts := [], laidByText := true, laidKinds := [.data, .pinned], laidTests := true, laidLooks := .later }
def ZtreeBackCardSaid : Prop := Claim7.holds Tryz.pinned (.plain (OpenSpec.ofChange ztreeBackSpec)) ztreeBackCard

/-- THE SECOND FORM's CARD OF 'harpsichordlaw08.ZtreeAll'. -/
def ztreeAllUptoCard : Claim7 := { stood := { row := ztreeAllUptoRow, standIns := [], harness := (true, "f308d5ccfa65f43ac69238583b095e49e44f891b99b2a506513c208c1331ef0d"), looks := true }, kinds := [], alts := [], laidByText := true, laidKinds := [.data, .pinned], laidTests := true, laidLooks := .later }
def ZtreeAllUptoCardSaid : Prop := Claim7.holds Tryz.pinned (.plain (OpenSpec.upto ztreeAllSpec)) ztreeAllUptoCard

/-- THE SECOND FORM's CARD OF 'harpsichordlaw08.ZtreeAsks'. -/
def ztreeAsksUptoCard : Claim7 := { stood := { row := ztreeAsksUptoRow, standIns := [], harness := (true, "f308d5ccfa65f43ac69238583b095e49e44f891b99b2a506513c208c1331ef0d"), looks := true }, kinds := [], alts := [], laidByText := true, laidKinds := [.data, .pinned], laidTests := true, laidLooks := .later }
def ZtreeAsksUptoCardSaid : Prop := Claim7.holds Tryz.pinned (.plain (OpenSpec.upto ztreeAsksSpec)) ztreeAsksUptoCard

/-- THE SECOND FORM's CARD OF 'harpsichordlaw08.ZtreeAtomic'. -/
def ztreeAtomicUptoCard : Claim7 := { stood := { row := ztreeAtomicUptoRow, standIns := [], harness := (true, "f308d5ccfa65f43ac69238583b095e49e44f891b99b2a506513c208c1331ef0d"), looks := true }, kinds := [], alts := [], laidByText := true, laidKinds := [.data, .pinned], laidTests := true, laidLooks := .later }
def ZtreeAtomicUptoCardSaid : Prop := Claim7.holds Tryz.pinned (.plain (OpenSpec.upto ztreeAtomicSpec)) ztreeAtomicUptoCard

/-- THE SECOND FORM's CARD OF 'harpsichordlaw08.ZtreeEnds'. -/
def ztreeEndsUptoCard : Claim7 := { stood := { row := ztreeEndsUptoRow, standIns := [], harness := (true, "f308d5ccfa65f43ac69238583b095e49e44f891b99b2a506513c208c1331ef0d"), looks := true }, kinds := [], alts := [], laidByText := true, laidKinds := [.data, .pinned], laidTests := true, laidLooks := .later }
def ZtreeEndsUptoCardSaid : Prop := Claim7.holds Tryz.pinned (.plain (OpenSpec.upto ztreeEndsSpec)) ztreeEndsUptoCard

/-- THE SECOND FORM's CARD OF 'harpsichordlaw08.ZtreeLoads'. -/
def ztreeLoadsUptoCard : Claim7 := { stood := { row := ztreeLoadsUptoRow, standIns := [], harness := (true, "f308d5ccfa65f43ac69238583b095e49e44f891b99b2a506513c208c1331ef0d"), looks := true }, kinds := [], alts := [], laidByText := true, laidKinds := [.data, .pinned], laidTests := true, laidLooks := .later }
def ZtreeLoadsUptoCardSaid : Prop := Claim7.holds Tryz.pinned (.plain (OpenSpec.upto ztreeLoadsSpec)) ztreeLoadsUptoCard

/-- THE SECOND FORM's CARD OF 'harpsichordlaw08.ZtreeBack'. -/
def ztreeBackUptoCard : Claim7 := { stood := { row := ztreeBackUptoRow, standIns := [], harness := (true, "f308d5ccfa65f43ac69238583b095e49e44f891b99b2a506513c208c1331ef0d"), looks := true }, kinds := [], alts := [], laidByText := true, laidKinds := [.data, .pinned], laidTests := true, laidLooks := .later }
def ZtreeBackUptoCardSaid : Prop := Claim7.holds Tryz.pinned (.plain (OpenSpec.upto ztreeBackSpec)) ztreeBackUptoCard
end Rows
end Go.Proofs.YtifdeajdlhgglaaGreatDoor

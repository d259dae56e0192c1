/-
  DERIVED. GIVEN WITH THE SEED: THE CARDS: each row of YthacnnmlephkhaaGreatDoorRows.lean that lists a variable, with what it lists TIED to the program's text (the seventh form; the later family's looks); each row that meets fmt, with fmt's text TOLD by the authors' own Lean function (tested against real Go, not proved from fmt's source: count such statements apart). THE CARD IS WHAT COUNTS. Prove the row's statement (the work); the ties are given (YthacnnmlephkhaaGreatDoorTie.lean); close each card by the builder's one call (the guide's Derived/Test/ToyasCard.lean, 'card_holds'). Laid BY PROGRAM, IN A SANDBOX (cutbox-door.mjs). By AI agents, Wed Nov 11 2026. No macro, syntax, notation, axiom, sorry.
-/
import Derived.Test.YthacnnmlephkhaaGreatDoorRows
import GoSem.ClaimSeven
namespace Go.Proofs.YthacnnmlephkhaaGreatDoor
namespace Rows

/-- THE TIED CARD OF 'pressmarklaw13.PrintValues'. -/
def printValuesCard : Claim7 := { stood := { row := printValuesRow, standIns := [], harness := (true, "f05056fa1bdbaee4047459000588abd8856f5b0eedb14be6d6e12117c8d57a2a"), looks := false }, kinds := [], alts := [], laidByText := true, laidKinds := [.data, .data, .data, .data, .pinned], laidTests := true, laidLooks := .later }
def PrintValuesCardSaid : Prop := Claim7.holds Tryz.pinned (.plain (OpenSpec.ofChange printValuesSpec)) printValuesCard

/-- THE TIED CARD OF 'pressmarklaw13.PrintKnown'. -/
def printKnownCard : Claim7 := { stood := { row := printKnownRow, standIns := [], harness := (true, "f05056fa1bdbaee4047459000588abd8856f5b0eedb14be6d6e12117c8d57a2a"), looks := false }, kinds := [], alts := [], laidByText := true, laidKinds := [.data, .data, .data, .data, .pinned], laidTests := true, laidLooks := .later }
def PrintKnownCardSaid : Prop := Claim7.holds Tryz.pinned (.plain (OpenSpec.ofChange printKnownSpec)) printKnownCard

/-- THE TIED CARD OF 'pressmarklaw13.PrintItems'. -/
def printItemsCard : Claim7 := { stood := { row := printItemsRow, standIns := [], harness := (true, "f05056fa1bdbaee4047459000588abd8856f5b0eedb14be6d6e12117c8d57a2a"), looks := false }, kinds := [], alts := [], laidByText := true, laidKinds := [.data, .data, .data, .data, .pinned], laidTests := true, laidLooks := .later }
def PrintItemsCardSaid : Prop := Claim7.holds Tryz.pinned (.plain (OpenSpec.ofChange printItemsSpec)) printItemsCard

/-- THE TIED CARD OF 'pressmarklaw13.PrintBack'. -/
def printBackCard : Claim7 := { stood := { row := printBackRow, standIns := [], harness := (true, "f05056fa1bdbaee4047459000588abd8856f5b0eedb14be6d6e12117c8d57a2a"), looks := false }, kinds := [], alts := [], laidByText := true, laidKinds := [.data, .data, .data, .data, .pinned], laidTests := true, laidLooks := .later }
def PrintBackCardSaid : Prop := Claim7.holds Tryz.pinned (.plain (OpenSpec.ofChange printBackSpec)) printBackCard

/-- THE SECOND FORM's CARD OF 'pressmarklaw13.PrintValues'. -/
def printValuesUptoCard : Claim7 := { stood := { row := printValuesUptoRow, standIns := [], harness := (true, "f05056fa1bdbaee4047459000588abd8856f5b0eedb14be6d6e12117c8d57a2a"), looks := false }, kinds := [], alts := [], laidByText := true, laidKinds := [.data, .data, .data, .data, .pinned], laidTests := true, laidLooks := .later }
def PrintValuesUptoCardSaid : Prop := Claim7.holds Tryz.pinned (.plain (OpenSpec.upto printValuesSpec)) printValuesUptoCard

/-- THE SECOND FORM's CARD OF 'pressmarklaw13.PrintKnown'. -/
def printKnownUptoCard : Claim7 := { stood := { row := printKnownUptoRow, standIns := [], harness := (true, "f05056fa1bdbaee4047459000588abd8856f5b0eedb14be6d6e12117c8d57a2a"), looks := false }, kinds := [], alts := [], laidByText := true, laidKinds := [.data, .data, .data, .data, .pinned], laidTests := true, laidLooks := .later }
def PrintKnownUptoCardSaid : Prop := Claim7.holds Tryz.pinned (.plain (OpenSpec.upto printKnownSpec)) printKnownUptoCard

/-- THE SECOND FORM's CARD OF 'pressmarklaw13.PrintItems'. -/
def printItemsUptoCard : Claim7 := { stood := { row := printItemsUptoRow, standIns := [], harness := (true, "f05056fa1bdbaee4047459000588abd8856f5b0eedb14be6d6e12117c8d57a2a"), looks := false }, kinds := [], alts := [], laidByText := true, laidKinds := [.data, .data, .data, .data, .pinned], laidTests := true, laidLooks := .later }
def PrintItemsUptoCardSaid : Prop := Claim7.holds Tryz.pinned (.plain (OpenSpec.upto printItemsSpec)) printItemsUptoCard

/-- THE SECOND FORM's CARD OF 'pressmarklaw13.PrintBack'. -/
def printBackUptoCard : Claim7 := { stood := { row := printBackUptoRow, standIns := [], harness := (true, "f05056fa1bdbaee4047459000588abd8856f5b0eedb14be6d6e12117c8d57a2a"), looks := false }, kinds := [], alts := [], laidByText := true, laidKinds := [.data, .data, .data, .data, .pinned], laidTests := true, laidLooks := .later }
def PrintBackUptoCardSaid : Prop := Claim7.holds Tryz.pinned (.plain (OpenSpec.upto printBackSpec)) printBackUptoCard
end Rows
end Go.Proofs.YthacnnmlephkhaaGreatDoor

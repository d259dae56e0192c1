/-
  DERIVED. GIVEN WITH THE SEED: THE CARDS: each row of YtepedmjbppdekaaGreatDoorRows.lean that lists a variable, with what it lists TIED to the program's text (the seventh form; the later family's looks); each row that meets fmt, with fmt's text TOLD by the authors' own Lean function (tested against real Go, not proved from fmt's source: count such statements apart). THE CARD IS WHAT COUNTS. Prove the row's statement (the work); the ties are given (YtepedmjbppdekaaGreatDoorTie.lean); close each card by the builder's one call (the guide's Derived/Test/ToyasCard.lean, 'card_holds'). Laid BY PROGRAM, IN A SANDBOX (cutbox-door.mjs). By AI agents, Wed Nov 11 2026. No macro, syntax, notation, axiom, sorry.
-/
import Derived.Test.YtepedmjbppdekaaGreatDoorRows
import GoSem.ClaimSeven
namespace Go.Proofs.YtepedmjbppdekaaGreatDoor
namespace Rows

/-- THE TIED CARD OF 'pressmarklaw27.WritePlaces'. -/
def writePlacesCard : Claim7 := { stood := { row := writePlacesRow, standIns := [], harness := (true, "a1399b6416699554ce19a3de9ca6e41ed4321754980fa2561ac0d5fad9a84099"), looks := false }, kinds := [], alts := [], laidByText := true, laidKinds := [.data, .data, .data, .data, .pinned], laidTests := true, laidLooks := .later }
def WritePlacesCardSaid : Prop := Claim7.holds Tryz.pinned (.plain (OpenSpec.ofChange writePlacesSpec)) writePlacesCard

/-- THE TIED CARD OF 'pressmarklaw27.WriteKnown'. -/
def writeKnownCard : Claim7 := { stood := { row := writeKnownRow, standIns := [], harness := (true, "a1399b6416699554ce19a3de9ca6e41ed4321754980fa2561ac0d5fad9a84099"), looks := false }, kinds := [], alts := [], laidByText := true, laidKinds := [.data, .data, .data, .data, .pinned], laidTests := true, laidLooks := .later }
def WriteKnownCardSaid : Prop := Claim7.holds Tryz.pinned (.plain (OpenSpec.ofChange writeKnownSpec)) writeKnownCard

/-- THE TIED CARD OF 'pressmarklaw27.WriteFiles'. -/
def writeFilesCard : Claim7 := { stood := { row := writeFilesRow, standIns := [], harness := (true, "a1399b6416699554ce19a3de9ca6e41ed4321754980fa2561ac0d5fad9a84099"), looks := false }, kinds := [], alts := [], laidByText := true, laidKinds := [.data, .data, .data, .data, .pinned], laidTests := true, laidLooks := .later }
def WriteFilesCardSaid : Prop := Claim7.holds Tryz.pinned (.plain (OpenSpec.ofChange writeFilesSpec)) writeFilesCard

/-- THE TIED CARD OF 'pressmarklaw27.WriteBack'. -/
def writeBackCard : Claim7 := { stood := { row := writeBackRow, standIns := [], harness := (true, "a1399b6416699554ce19a3de9ca6e41ed4321754980fa2561ac0d5fad9a84099"), looks := false }, kinds := [], alts := [], laidByText := true, laidKinds := [.data, .data, .data, .data, .pinned], laidTests := true, laidLooks := .later }
def WriteBackCardSaid : Prop := Claim7.holds Tryz.pinned (.plain (OpenSpec.ofChange writeBackSpec)) writeBackCard

/-- THE TIED CARD OF 'pressmarklaw27.WriteMany'. -/
def writeManyCard : Claim7 := { stood := { row := writeManyRow, standIns := [], harness := (true, "a1399b6416699554ce19a3de9ca6e41ed4321754980fa2561ac0d5fad9a84099"), looks := false }, kinds := [], alts := [], laidByText := true, laidKinds := [.data, .data, .data, .data, .pinned], laidTests := true, laidLooks := .later }
def WriteManyCardSaid : Prop := Claim7.holds Tryz.pinned (.plain (OpenSpec.ofChange writeManySpec)) writeManyCard

/-- THE SECOND FORM's CARD OF 'pressmarklaw27.WritePlaces'. -/
def writePlacesUptoCard : Claim7 := { stood := { row := writePlacesUptoRow, standIns := [], harness := (true, "a1399b6416699554ce19a3de9ca6e41ed4321754980fa2561ac0d5fad9a84099"), looks := false }, kinds := [], alts := [], laidByText := true, laidKinds := [.data, .data, .data, .data, .pinned], laidTests := true, laidLooks := .later }
def WritePlacesUptoCardSaid : Prop := Claim7.holds Tryz.pinned (.plain (OpenSpec.upto writePlacesSpec)) writePlacesUptoCard

/-- THE SECOND FORM's CARD OF 'pressmarklaw27.WriteKnown'. -/
def writeKnownUptoCard : Claim7 := { stood := { row := writeKnownUptoRow, standIns := [], harness := (true, "a1399b6416699554ce19a3de9ca6e41ed4321754980fa2561ac0d5fad9a84099"), looks := false }, kinds := [], alts := [], laidByText := true, laidKinds := [.data, .data, .data, .data, .pinned], laidTests := true, laidLooks := .later }
def WriteKnownUptoCardSaid : Prop := Claim7.holds Tryz.pinned (.plain (OpenSpec.upto writeKnownSpec)) writeKnownUptoCard

/-- THE SECOND FORM's CARD OF 'pressmarklaw27.WriteFiles'. -/
def writeFilesUptoCard : Claim7 := { stood := { row := writeFilesUptoRow, standIns := [], harness := (true, "a1399b6416699554ce19a3de9ca6e41ed4321754980fa2561ac0d5fad9a84099"), looks := false }, kinds := [], alts := [], laidByText := true, laidKinds := [.data, .data, .data, .data, .pinned], laidTests := true, laidLooks := .later }
def WriteFilesUptoCardSaid : Prop := Claim7.holds Tryz.pinned (.plain (OpenSpec.upto writeFilesSpec)) writeFilesUptoCard

/-- THE SECOND FORM's CARD OF 'pressmarklaw27.WriteBack'. -/
def writeBackUptoCard : Claim7 := { stood := { row := writeBackUptoRow, standIns := [], harness := (true, "a1399b6416699554ce19a3de9ca6e41ed4321754980fa2561ac0d5fad9a84099"), looks := false }, kinds := [], alts := [], laidByText := true, laidKinds := [.data, .data, .data, .data, .pinned], laidTests := true, laidLooks := .later }
def WriteBackUptoCardSaid : Prop := Claim7.holds Tryz.pinned (.plain (OpenSpec.upto writeBackSpec)) writeBackUptoCard

/-- THE SECOND FORM's CARD OF 'pressmarklaw27.WriteMany'. -/
def writeManyUptoCard : Claim7 := { stood := { row := writeManyUptoRow, standIns := [], harness := (true, "a1399b6416699554ce19a3de9ca6e41ed4321754980fa2561ac0d5fad9a84099"), looks := false }, kinds := [], alts := [], laidByText := true, laidKinds := [.data, .data, .data, .data, .pinned], laidTests := true, laidLooks := .later }
def WriteManyUptoCardSaid : Prop := Claim7.holds Tryz.pinned (.plain (OpenSpec.upto writeManySpec)) writeManyUptoCard
end Rows
end Go.Proofs.YtepedmjbppdekaaGreatDoor

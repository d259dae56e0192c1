/-
  DERIVED. GIVEN WITH THE SEED: THE CARDS: each row of YthffpbkndnhlfaaGreatDoorRows.lean that lists a variable, with what it lists TIED to the program's text (the seventh form; the later family's looks); each row that meets fmt, with fmt's text TOLD by the authors' own Lean function (tested against real Go, not proved from fmt's source: count such statements apart). THE CARD IS WHAT COUNTS. Prove the row's statement (the work); the ties are given (YthffpbkndnhlfaaGreatDoorTie.lean); close each card by the builder's one call (the guide's Derived/Test/ToyasCard.lean, 'card_holds'). Laid BY PROGRAM, IN A SANDBOX (cutbox-door.mjs). By AI agents, Wed Nov 11 2026. No macro, syntax, notation, axiom, sorry.
-/
import Derived.Test.YthffpbkndnhlfaaGreatDoorRows
import GoSem.ClaimSeven
namespace Go.Proofs.YthffpbkndnhlfaaGreatDoor
namespace Rows

/-- THE TIED CARD OF 'pressmarklaw15.TableReads'. -/
def tableReadsCard : Claim7 := { stood := { row := tableReadsRow, standIns := [], harness := (true, "191f9556f04855ab3043c5d234e31cc6c6fb91b2a5b72cf1cbe3ca997f50596e"), looks := false }, kinds := [], alts := [], laidByText := true, laidKinds := [.data, .data, .data, .data, .pinned], laidTests := true, laidLooks := .later }
def TableReadsCardSaid : Prop := Claim7.holds Tryz.pinned (.plain (OpenSpec.ofChange tableReadsSpec)) tableReadsCard

/-- THE TIED CARD OF 'pressmarklaw15.TableBack'. -/
def tableBackCard : Claim7 := { stood := { row := tableBackRow, standIns := [], harness := (true, "191f9556f04855ab3043c5d234e31cc6c6fb91b2a5b72cf1cbe3ca997f50596e"), looks := false }, kinds := [], alts := [], laidByText := true, laidKinds := [.data, .data, .data, .data, .pinned], laidTests := true, laidLooks := .later }
def TableBackCardSaid : Prop := Claim7.holds Tryz.pinned (.plain (OpenSpec.ofChange tableBackSpec)) tableBackCard

/-- THE TIED CARD OF 'pressmarklaw15.TableKnown'. -/
def tableKnownCard : Claim7 := { stood := { row := tableKnownRow, standIns := [], harness := (true, "191f9556f04855ab3043c5d234e31cc6c6fb91b2a5b72cf1cbe3ca997f50596e"), looks := false }, kinds := [], alts := [], laidByText := true, laidKinds := [.data, .data, .data, .data, .pinned], laidTests := true, laidLooks := .later }
def TableKnownCardSaid : Prop := Claim7.holds Tryz.pinned (.plain (OpenSpec.ofChange tableKnownSpec)) tableKnownCard

/-- THE TIED CARD OF 'pressmarklaw15.TableWrites'. -/
def tableWritesCard : Claim7 := { stood := { row := tableWritesRow, standIns := [], harness := (true, "191f9556f04855ab3043c5d234e31cc6c6fb91b2a5b72cf1cbe3ca997f50596e"), looks := false }, kinds := [], alts := [], laidByText := true, laidKinds := [.data, .data, .data, .data, .pinned], laidTests := true, laidLooks := .later }
def TableWritesCardSaid : Prop := Claim7.holds Tryz.pinned (.plain (OpenSpec.ofChange tableWritesSpec)) tableWritesCard

/-- THE SECOND FORM's CARD OF 'pressmarklaw15.TableReads'. -/
def tableReadsUptoCard : Claim7 := { stood := { row := tableReadsUptoRow, standIns := [], harness := (true, "191f9556f04855ab3043c5d234e31cc6c6fb91b2a5b72cf1cbe3ca997f50596e"), looks := false }, kinds := [], alts := [], laidByText := true, laidKinds := [.data, .data, .data, .data, .pinned], laidTests := true, laidLooks := .later }
def TableReadsUptoCardSaid : Prop := Claim7.holds Tryz.pinned (.plain (OpenSpec.upto tableReadsSpec)) tableReadsUptoCard

/-- THE SECOND FORM's CARD OF 'pressmarklaw15.TableBack'. -/
def tableBackUptoCard : Claim7 := { stood := { row := tableBackUptoRow, standIns := [], harness := (true, "191f9556f04855ab3043c5d234e31cc6c6fb91b2a5b72cf1cbe3ca997f50596e"), looks := false }, kinds := [], alts := [], laidByText := true, laidKinds := [.data, .data, .data, .data, .pinned], laidTests := true, laidLooks := .later }
def TableBackUptoCardSaid : Prop := Claim7.holds Tryz.pinned (.plain (OpenSpec.upto tableBackSpec)) tableBackUptoCard

/-- THE SECOND FORM's CARD OF 'pressmarklaw15.TableKnown'. -/
def tableKnownUptoCard : Claim7 := { stood := { row := tableKnownUptoRow, standIns := [], harness := (true, "191f9556f04855ab3043c5d234e31cc6c6fb91b2a5b72cf1cbe3ca997f50596e"), looks := false }, kinds := [], alts := [], laidByText := true, laidKinds := [.data, .data, .data, .data, .pinned], laidTests := true, laidLooks := .later }
def TableKnownUptoCardSaid : Prop := Claim7.holds Tryz.pinned (.plain (OpenSpec.upto tableKnownSpec)) tableKnownUptoCard

/-- THE SECOND FORM's CARD OF 'pressmarklaw15.TableWrites'. -/
def tableWritesUptoCard : Claim7 := { stood := { row := tableWritesUptoRow, standIns := [], harness := (true, "191f9556f04855ab3043c5d234e31cc6c6fb91b2a5b72cf1cbe3ca997f50596e"), looks := false }, kinds := [], alts := [], laidByText := true, laidKinds := [.data, .data, .data, .data, .pinned], laidTests := true, laidLooks := .later }
def TableWritesUptoCardSaid : Prop := Claim7.holds Tryz.pinned (.plain (OpenSpec.upto tableWritesSpec)) tableWritesUptoCard
end Rows
end Go.Proofs.YthffpbkndnhlfaaGreatDoor

/-
  DERIVED. GIVEN WITH THE SEED: THE CARDS: each row of YtmgpjhpeglkeeaaGreatDoorRows.lean that lists a variable, with what it lists TIED to the program's text (the seventh form; the later family's looks); each row that meets fmt, with fmt's text TOLD by the authors' own Lean function (tested against real Go, not proved from fmt's source: count such statements apart). THE CARD IS WHAT COUNTS. Prove the row's statement (the work); the ties are given (YtmgpjhpeglkeeaaGreatDoorTie.lean); close each card by the builder's one call (the guide's Derived/Test/ToyasCard.lean, 'card_holds'). Laid BY PROGRAM, IN A SANDBOX (cutbox-door.mjs). By AI agents, Wed Nov 11 2026. No macro, syntax, notation, axiom, sorry.
-/
import Derived.Test.YtmgpjhpeglkeeaaGreatDoorRows
import GoSem.ClaimSeven
namespace Go.Proofs.YtmgpjhpeglkeeaaGreatDoor
namespace Rows

/-- THE TIED CARD OF 'pressmarklaw23.PaintKnown'. -/
def paintKnownCard : Claim7 := { stood := { row := paintKnownRow, standIns := [], harness := (true, "82b9cfc8ca3f43c8f46219869abb0af6f493f5cc6f499addfc3503f6c38438d7"), looks := false }, kinds := [], alts := [], laidByText := true, laidKinds := [.listed, .data], laidTests := true, laidLooks := .later }
def PaintKnownCardSaid : Prop := Claim7.holds Tryz.pinned (.plain (OpenSpec.ofChange paintKnownSpec)) paintKnownCard

/-- THE SECOND FORM's CARD OF 'pressmarklaw23.PaintKnown'. -/
def paintKnownUptoCard : Claim7 := { stood := { row := paintKnownUptoRow, standIns := [], harness := (true, "82b9cfc8ca3f43c8f46219869abb0af6f493f5cc6f499addfc3503f6c38438d7"), looks := false }, kinds := [], alts := [], laidByText := true, laidKinds := [.listed, .data], laidTests := true, laidLooks := .later }
def PaintKnownUptoCardSaid : Prop := Claim7.holds Tryz.pinned (.plain (OpenSpec.upto paintKnownSpec)) paintKnownUptoCard
end Rows
end Go.Proofs.YtmgpjhpeglkeeaaGreatDoor

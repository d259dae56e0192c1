/-
  DERIVED. GIVEN WITH THE SEED: THE CARDS: each row of YtjlomalpmlgjbaaGreatDoorRows.lean that lists a variable, with what it lists TIED to the program's text (the seventh form; the later family's looks); each row that meets fmt, with fmt's text TOLD by the authors' own Lean function (tested against real Go, not proved from fmt's source: count such statements apart). THE CARD IS WHAT COUNTS. Prove the row's statement (the work); the ties are given (YtjlomalpmlgjbaaGreatDoorTie.lean); close each card by the builder's one call (the guide's Derived/Test/ToyasCard.lean, 'card_holds'). Laid BY PROGRAM, IN A SANDBOX (cutbox-door.mjs). By AI agents, Wed Nov 11 2026. No macro, syntax, notation, axiom, sorry.
-/
import Derived.Test.YtjlomalpmlgjbaaGreatDoorRows
import GoSem.ClaimSeven
namespace Go.Proofs.YtjlomalpmlgjbaaGreatDoor
namespace Rows

/-- THE TIED CARD OF 'pressmarklaw23.PaintMatrices'. -/
def paintMatricesCard : Claim7 := { stood := { row := paintMatricesRow, standIns := [], harness := (true, "7e374e7b2565f4333f9ee9cc151de31bd734b8aec623d4671e998d8f58fd9fe7"), looks := false }, kinds := [], alts := [], laidByText := true, laidKinds := [.listed, .data], laidTests := true, laidLooks := .later }
def PaintMatricesCardSaid : Prop := Claim7.holds Tryz.pinned (.plain (OpenSpec.ofChange paintMatricesSpec)) paintMatricesCard

/-- THE SECOND FORM's CARD OF 'pressmarklaw23.PaintMatrices'. -/
def paintMatricesUptoCard : Claim7 := { stood := { row := paintMatricesUptoRow, standIns := [], harness := (true, "7e374e7b2565f4333f9ee9cc151de31bd734b8aec623d4671e998d8f58fd9fe7"), looks := false }, kinds := [], alts := [], laidByText := true, laidKinds := [.listed, .data], laidTests := true, laidLooks := .later }
def PaintMatricesUptoCardSaid : Prop := Claim7.holds Tryz.pinned (.plain (OpenSpec.upto paintMatricesSpec)) paintMatricesUptoCard
end Rows
end Go.Proofs.YtjlomalpmlgjbaaGreatDoor

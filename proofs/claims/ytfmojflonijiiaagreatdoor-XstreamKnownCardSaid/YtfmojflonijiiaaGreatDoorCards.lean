/-
  DERIVED. GIVEN WITH THE SEED: THE CARDS: each row of YtfmojflonijiiaaGreatDoorRows.lean that lists a variable, with what it lists TIED to the program's text (the seventh form; the later family's looks); each row that meets fmt, with fmt's text TOLD by the authors' own Lean function (tested against real Go, not proved from fmt's source: count such statements apart). THE CARD IS WHAT COUNTS. Prove the row's statement (the work); the ties are given (YtfmojflonijiiaaGreatDoorTie.lean); close each card by the builder's one call (the guide's Derived/Test/ToyasCard.lean, 'card_holds'). Laid BY PROGRAM, IN A SANDBOX (cutbox-door.mjs). By AI agents, Wed Nov 11 2026. No macro, syntax, notation, axiom, sorry.
-/
import Derived.Test.YtfmojflonijiiaaGreatDoorRows
import GoSem.ClaimSeven
namespace Go.Proofs.YtfmojflonijiiaaGreatDoor
namespace Rows

/-- THE TIED CARD OF 'pressmarklaw16.XstreamKnown'. -/
def xstreamKnownCard : Claim7 := { stood := { row := xstreamKnownRow, standIns := [], harness := (true, "71b20862a1dba31c474404329ca82ea0e889ffab584d22fbaac41f90539a61d2"), looks := false }, kinds := [], alts := [], laidByText := true, laidKinds := [.data, .data, .data, .data, .pinned], laidTests := true, laidLooks := .later }
def XstreamKnownCardSaid : Prop := Claim7.holds Tryz.pinned (.plain (OpenSpec.ofChange xstreamKnownSpec)) xstreamKnownCard

/-- THE SECOND FORM's CARD OF 'pressmarklaw16.XstreamKnown'. -/
def xstreamKnownUptoCard : Claim7 := { stood := { row := xstreamKnownUptoRow, standIns := [], harness := (true, "71b20862a1dba31c474404329ca82ea0e889ffab584d22fbaac41f90539a61d2"), looks := false }, kinds := [], alts := [], laidByText := true, laidKinds := [.data, .data, .data, .data, .pinned], laidTests := true, laidLooks := .later }
def XstreamKnownUptoCardSaid : Prop := Claim7.holds Tryz.pinned (.plain (OpenSpec.upto xstreamKnownSpec)) xstreamKnownUptoCard
end Rows
end Go.Proofs.YtfmojflonijiiaaGreatDoor

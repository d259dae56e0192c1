/-
  DERIVED. GIVEN WITH THE SEED: THE CARDS: each row of YtkpikpaepgknnaaGreatDoorRows.lean that lists a variable, with what it lists TIED to the program's text (the seventh form; the later family's looks); each row that meets fmt, with fmt's text TOLD by the authors' own Lean function (tested against real Go, not proved from fmt's source: count such statements apart). THE CARD IS WHAT COUNTS. Prove the row's statement (the work); the ties are given (YtkpikpaepgknnaaGreatDoorTie.lean); close each card by the builder's one call (the guide's Derived/Test/ToyasCard.lean, 'card_holds'). Laid BY PROGRAM, IN A SANDBOX (cutbox-door.mjs). By AI agents, Wed Nov 11 2026. No macro, syntax, notation, axiom, sorry.
-/
import Derived.Test.YtkpikpaepgknnaaGreatDoorRows
import GoSem.ClaimSeven
namespace Go.Proofs.YtkpikpaepgknnaaGreatDoor
namespace Rows

/-- THE TIED CARD OF 'pressmarklaw20.XmpWrites'. -/
def xmpWritesCard : Claim7 := { stood := { row := xmpWritesRow, standIns := [], harness := (true, "59ba235c9f002b617db2258ec1cc121147110b7c8c04acc2077a4ddc0fded6c6"), looks := false }, kinds := [], alts := [], laidByText := true, laidKinds := [.data, .pinned], laidTests := true, laidLooks := .later }
def XmpWritesCardSaid : Prop := Claim7.holds Tryz.pinned (.plain (OpenSpec.ofChange xmpWritesSpec)) xmpWritesCard

/-- THE TIED CARD OF 'pressmarklaw20.XmpBack'. -/
def xmpBackCard : Claim7 := { stood := { row := xmpBackRow, standIns := [], harness := (true, "59ba235c9f002b617db2258ec1cc121147110b7c8c04acc2077a4ddc0fded6c6"), looks := false }, kinds := [], alts := [], laidByText := true, laidKinds := [.data, .pinned], laidTests := true, laidLooks := .later }
def XmpBackCardSaid : Prop := Claim7.holds Tryz.pinned (.plain (OpenSpec.ofChange xmpBackSpec)) xmpBackCard

/-- THE TIED CARD OF 'pressmarklaw20.XmpDates'. -/
def xmpDatesCard : Claim7 := { stood := { row := xmpDatesRow, standIns := [], harness := (true, "59ba235c9f002b617db2258ec1cc121147110b7c8c04acc2077a4ddc0fded6c6"), looks := false }, kinds := [], alts := [], laidByText := true, laidKinds := [.data, .pinned], laidTests := true, laidLooks := .later }
def XmpDatesCardSaid : Prop := Claim7.holds Tryz.pinned (.plain (OpenSpec.ofChange xmpDatesSpec)) xmpDatesCard

/-- THE TIED CARD OF 'pressmarklaw20.XmpKnown'. -/
def xmpKnownCard : Claim7 := { stood := { row := xmpKnownRow, standIns := [], harness := (true, "59ba235c9f002b617db2258ec1cc121147110b7c8c04acc2077a4ddc0fded6c6"), looks := false }, kinds := [], alts := [], laidByText := true, laidKinds := [.data, .pinned], laidTests := true, laidLooks := .later }
def XmpKnownCardSaid : Prop := Claim7.holds Tryz.pinned (.plain (OpenSpec.ofChange xmpKnownSpec)) xmpKnownCard

/-- THE TIED CARD OF 'pressmarklaw20.XmpTexts'. -/
def xmpTextsCard : Claim7 := { stood := { row := xmpTextsRow, standIns := [], harness := (true, "59ba235c9f002b617db2258ec1cc121147110b7c8c04acc2077a4ddc0fded6c6"), looks := false }, kinds := [], alts := [], laidByText := true, laidKinds := [.data, .pinned], laidTests := true, laidLooks := .later }
def XmpTextsCardSaid : Prop := Claim7.holds Tryz.pinned (.plain (OpenSpec.ofChange xmpTextsSpec)) xmpTextsCard

/-- THE SECOND FORM's CARD OF 'pressmarklaw20.XmpWrites'. -/
def xmpWritesUptoCard : Claim7 := { stood := { row := xmpWritesUptoRow, standIns := [], harness := (true, "59ba235c9f002b617db2258ec1cc121147110b7c8c04acc2077a4ddc0fded6c6"), looks := false }, kinds := [], alts := [], laidByText := true, laidKinds := [.data, .pinned], laidTests := true, laidLooks := .later }
def XmpWritesUptoCardSaid : Prop := Claim7.holds Tryz.pinned (.plain (OpenSpec.upto xmpWritesSpec)) xmpWritesUptoCard

/-- THE SECOND FORM's CARD OF 'pressmarklaw20.XmpBack'. -/
def xmpBackUptoCard : Claim7 := { stood := { row := xmpBackUptoRow, standIns := [], harness := (true, "59ba235c9f002b617db2258ec1cc121147110b7c8c04acc2077a4ddc0fded6c6"), looks := false }, kinds := [], alts := [], laidByText := true, laidKinds := [.data, .pinned], laidTests := true, laidLooks := .later }
def XmpBackUptoCardSaid : Prop := Claim7.holds Tryz.pinned (.plain (OpenSpec.upto xmpBackSpec)) xmpBackUptoCard

/-- THE SECOND FORM's CARD OF 'pressmarklaw20.XmpDates'. -/
def xmpDatesUptoCard : Claim7 := { stood := { row := xmpDatesUptoRow, standIns := [], harness := (true, "59ba235c9f002b617db2258ec1cc121147110b7c8c04acc2077a4ddc0fded6c6"), looks := false }, kinds := [], alts := [], laidByText := true, laidKinds := [.data, .pinned], laidTests := true, laidLooks := .later }
def XmpDatesUptoCardSaid : Prop := Claim7.holds Tryz.pinned (.plain (OpenSpec.upto xmpDatesSpec)) xmpDatesUptoCard

/-- THE SECOND FORM's CARD OF 'pressmarklaw20.XmpKnown'. -/
def xmpKnownUptoCard : Claim7 := { stood := { row := xmpKnownUptoRow, standIns := [], harness := (true, "59ba235c9f002b617db2258ec1cc121147110b7c8c04acc2077a4ddc0fded6c6"), looks := false }, kinds := [], alts := [], laidByText := true, laidKinds := [.data, .pinned], laidTests := true, laidLooks := .later }
def XmpKnownUptoCardSaid : Prop := Claim7.holds Tryz.pinned (.plain (OpenSpec.upto xmpKnownSpec)) xmpKnownUptoCard

/-- THE SECOND FORM's CARD OF 'pressmarklaw20.XmpTexts'. -/
def xmpTextsUptoCard : Claim7 := { stood := { row := xmpTextsUptoRow, standIns := [], harness := (true, "59ba235c9f002b617db2258ec1cc121147110b7c8c04acc2077a4ddc0fded6c6"), looks := false }, kinds := [], alts := [], laidByText := true, laidKinds := [.data, .pinned], laidTests := true, laidLooks := .later }
def XmpTextsUptoCardSaid : Prop := Claim7.holds Tryz.pinned (.plain (OpenSpec.upto xmpTextsSpec)) xmpTextsUptoCard
end Rows
end Go.Proofs.YtkpikpaepgknnaaGreatDoor

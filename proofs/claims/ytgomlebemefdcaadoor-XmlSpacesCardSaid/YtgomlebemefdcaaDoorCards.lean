/-
  DERIVED. GIVEN WITH THE SEED: THE CARDS: each row of YtgomlebemefdcaaDoorRows.lean that lists a variable, with what it lists TIED to the program's text (the seventh form; the later family's looks); each row that meets fmt, with fmt's text TOLD by the authors' own Lean function (tested against real Go, not proved from fmt's source: count such statements apart). THE CARD IS WHAT COUNTS. Prove the row's statement (the work); the ties are given (YtgomlebemefdcaaDoorTie.lean); close each card by the builder's one call (the guide's Derived/Test/ToyasCard.lean, 'card_holds'). Laid BY PROGRAM, IN A SANDBOX (cutbox-door.mjs). By AI agents, Wed Nov 11 2026. No macro, syntax, notation, axiom, sorry.
-/
import Derived.Test.YtgomlebemefdcaaDoorRows
import GoSem.ClaimSeven
namespace Go.Proofs.YtgomlebemefdcaaDoor
namespace Rows

/-- THE TIED CARD OF 'pressmarklaw19.XmlDeep'. -/
def xmlDeepCard : Claim7 := { stood := { row := xmlDeepRow, standIns := [], harness := (true, "ede593fef8e9bc71e4ec8c87fdfb45d4348b8ed49b6112240491e0a21ff111a1"), looks := false }, kinds := [], alts := [], laidByText := true, laidKinds := [.data, .pinned], laidTests := true, laidLooks := .later }
def XmlDeepCardSaid : Prop := Claim7.holds Tryd.pinned (.plain (OpenSpec.ofChange xmlDeepSpec)) xmlDeepCard

/-- THE TIED CARD OF 'pressmarklaw19.XmlSpaces'. -/
def xmlSpacesCard : Claim7 := { stood := { row := xmlSpacesRow, standIns := [], harness := (true, "ede593fef8e9bc71e4ec8c87fdfb45d4348b8ed49b6112240491e0a21ff111a1"), looks := false }, kinds := [], alts := [], laidByText := true, laidKinds := [.data, .pinned], laidTests := true, laidLooks := .later }
def XmlSpacesCardSaid : Prop := Claim7.holds Tryd.pinned (.plain (OpenSpec.ofChange xmlSpacesSpec)) xmlSpacesCard

/-- THE TIED CARD OF 'pressmarklaw19.XmlSkips'. -/
def xmlSkipsCard : Claim7 := { stood := { row := xmlSkipsRow, standIns := [], harness := (true, "ede593fef8e9bc71e4ec8c87fdfb45d4348b8ed49b6112240491e0a21ff111a1"), looks := false }, kinds := [], alts := [], laidByText := true, laidKinds := [.data, .pinned], laidTests := true, laidLooks := .later }
def XmlSkipsCardSaid : Prop := Claim7.holds Tryd.pinned (.plain (OpenSpec.ofChange xmlSkipsSpec)) xmlSkipsCard

/-- THE TIED CARD OF 'pressmarklaw19.XmlKnown'. -/
def xmlKnownCard : Claim7 := { stood := { row := xmlKnownRow, standIns := [], harness := (true, "ede593fef8e9bc71e4ec8c87fdfb45d4348b8ed49b6112240491e0a21ff111a1"), looks := false }, kinds := [], alts := [], laidByText := true, laidKinds := [.data, .pinned], laidTests := true, laidLooks := .later }
def XmlKnownCardSaid : Prop := Claim7.holds Tryd.pinned (.plain (OpenSpec.ofChange xmlKnownSpec)) xmlKnownCard

/-- THE TIED CARD OF 'pressmarklaw19.XmlEscapes'. -/
def xmlEscapesCard : Claim7 := { stood := { row := xmlEscapesRow, standIns := [], harness := (true, "ede593fef8e9bc71e4ec8c87fdfb45d4348b8ed49b6112240491e0a21ff111a1"), looks := false }, kinds := [], alts := [], laidByText := true, laidKinds := [.data, .pinned], laidTests := true, laidLooks := .later }
def XmlEscapesCardSaid : Prop := Claim7.holds Tryd.pinned (.plain (OpenSpec.ofChange xmlEscapesSpec)) xmlEscapesCard

/-- THE SECOND FORM's CARD OF 'pressmarklaw19.XmlDeep'. -/
def xmlDeepUptoCard : Claim7 := { stood := { row := xmlDeepUptoRow, standIns := [], harness := (true, "ede593fef8e9bc71e4ec8c87fdfb45d4348b8ed49b6112240491e0a21ff111a1"), looks := false }, kinds := [], alts := [], laidByText := true, laidKinds := [.data, .pinned], laidTests := true, laidLooks := .later }
def XmlDeepUptoCardSaid : Prop := Claim7.holds Tryd.pinned (.plain (OpenSpec.upto xmlDeepSpec)) xmlDeepUptoCard

/-- THE SECOND FORM's CARD OF 'pressmarklaw19.XmlSpaces'. -/
def xmlSpacesUptoCard : Claim7 := { stood := { row := xmlSpacesUptoRow, standIns := [], harness := (true, "ede593fef8e9bc71e4ec8c87fdfb45d4348b8ed49b6112240491e0a21ff111a1"), looks := false }, kinds := [], alts := [], laidByText := true, laidKinds := [.data, .pinned], laidTests := true, laidLooks := .later }
def XmlSpacesUptoCardSaid : Prop := Claim7.holds Tryd.pinned (.plain (OpenSpec.upto xmlSpacesSpec)) xmlSpacesUptoCard

/-- THE SECOND FORM's CARD OF 'pressmarklaw19.XmlSkips'. -/
def xmlSkipsUptoCard : Claim7 := { stood := { row := xmlSkipsUptoRow, standIns := [], harness := (true, "ede593fef8e9bc71e4ec8c87fdfb45d4348b8ed49b6112240491e0a21ff111a1"), looks := false }, kinds := [], alts := [], laidByText := true, laidKinds := [.data, .pinned], laidTests := true, laidLooks := .later }
def XmlSkipsUptoCardSaid : Prop := Claim7.holds Tryd.pinned (.plain (OpenSpec.upto xmlSkipsSpec)) xmlSkipsUptoCard

/-- THE SECOND FORM's CARD OF 'pressmarklaw19.XmlKnown'. -/
def xmlKnownUptoCard : Claim7 := { stood := { row := xmlKnownUptoRow, standIns := [], harness := (true, "ede593fef8e9bc71e4ec8c87fdfb45d4348b8ed49b6112240491e0a21ff111a1"), looks := false }, kinds := [], alts := [], laidByText := true, laidKinds := [.data, .pinned], laidTests := true, laidLooks := .later }
def XmlKnownUptoCardSaid : Prop := Claim7.holds Tryd.pinned (.plain (OpenSpec.upto xmlKnownSpec)) xmlKnownUptoCard

/-- THE SECOND FORM's CARD OF 'pressmarklaw19.XmlEscapes'. -/
def xmlEscapesUptoCard : Claim7 := { stood := { row := xmlEscapesUptoRow, standIns := [], harness := (true, "ede593fef8e9bc71e4ec8c87fdfb45d4348b8ed49b6112240491e0a21ff111a1"), looks := false }, kinds := [], alts := [], laidByText := true, laidKinds := [.data, .pinned], laidTests := true, laidLooks := .later }
def XmlEscapesUptoCardSaid : Prop := Claim7.holds Tryd.pinned (.plain (OpenSpec.upto xmlEscapesSpec)) xmlEscapesUptoCard
end Rows
end Go.Proofs.YtgomlebemefdcaaDoor

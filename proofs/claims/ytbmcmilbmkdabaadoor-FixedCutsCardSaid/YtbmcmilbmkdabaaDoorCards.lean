/-
  DERIVED. GIVEN WITH THE SEED: THE CARDS: each row of YtbmcmilbmkdabaaDoorRows.lean that lists a variable, with what it lists TIED to the program's text (the seventh form; the later family's looks); each row that meets fmt, with fmt's text TOLD by the authors' own Lean function (tested against real Go, not proved from fmt's source: count such statements apart). THE CARD IS WHAT COUNTS. Prove the row's statement (the work); the ties are given (YtbmcmilbmkdabaaDoorTie.lean); close each card by the builder's one call (the guide's Derived/Test/ToyasCard.lean, 'card_holds'). Laid BY PROGRAM, IN A SANDBOX (cutbox-door.mjs). By AI agents, Wed Nov 11 2026. No macro, syntax, notation, axiom, sorry.
-/
import Derived.Test.YtbmcmilbmkdabaaDoorRows
import GoSem.ClaimSeven
namespace Go.Proofs.YtbmcmilbmkdabaaDoor
namespace Rows

/-- THE TIED CARD OF 'pressmarklaw2.FixedParses'. -/
def fixedParsesCard : Claim7 := { stood := { row := fixedParsesRow, standIns := [], harness := (true, "aaaa74c41fd0538a381ef2aa4a8f7f22568c1ec63d32b6b3b2e9fc9938ad1ebe"), looks := false }, kinds := [], alts := [], laidByText := true, laidKinds := [.data, .data, .data, .data, .pinned], laidTests := true, laidLooks := .later }
def FixedParsesCardSaid : Prop := Claim7.holds Tryd.pinned (.plain (OpenSpec.ofChange fixedParsesSpec)) fixedParsesCard

/-- THE TIED CARD OF 'pressmarklaw2.FixedTexts'. -/
def fixedTextsCard : Claim7 := { stood := { row := fixedTextsRow, standIns := [], harness := (true, "aaaa74c41fd0538a381ef2aa4a8f7f22568c1ec63d32b6b3b2e9fc9938ad1ebe"), looks := false }, kinds := [], alts := [], laidByText := true, laidKinds := [.data, .data, .data, .data, .pinned], laidTests := true, laidLooks := .later }
def FixedTextsCardSaid : Prop := Claim7.holds Tryd.pinned (.plain (OpenSpec.ofChange fixedTextsSpec)) fixedTextsCard

/-- THE TIED CARD OF 'pressmarklaw2.FixedBack'. -/
def fixedBackCard : Claim7 := { stood := { row := fixedBackRow, standIns := [], harness := (true, "aaaa74c41fd0538a381ef2aa4a8f7f22568c1ec63d32b6b3b2e9fc9938ad1ebe"), looks := false }, kinds := [], alts := [], laidByText := true, laidKinds := [.data, .data, .data, .data, .pinned], laidTests := true, laidLooks := .later }
def FixedBackCardSaid : Prop := Claim7.holds Tryd.pinned (.plain (OpenSpec.ofChange fixedBackSpec)) fixedBackCard

/-- THE TIED CARD OF 'pressmarklaw2.FixedCuts'. -/
def fixedCutsCard : Claim7 := { stood := { row := fixedCutsRow, standIns := [], harness := (true, "aaaa74c41fd0538a381ef2aa4a8f7f22568c1ec63d32b6b3b2e9fc9938ad1ebe"), looks := false }, kinds := [], alts := [], laidByText := true, laidKinds := [.data, .data, .data, .data, .pinned], laidTests := true, laidLooks := .later }
def FixedCutsCardSaid : Prop := Claim7.holds Tryd.pinned (.plain (OpenSpec.ofChange fixedCutsSpec)) fixedCutsCard

/-- THE TIED CARD OF 'pressmarklaw2.FixedKnown'. -/
def fixedKnownCard : Claim7 := { stood := { row := fixedKnownRow, standIns := [], harness := (true, "aaaa74c41fd0538a381ef2aa4a8f7f22568c1ec63d32b6b3b2e9fc9938ad1ebe"), looks := false }, kinds := [], alts := [], laidByText := true, laidKinds := [.data, .data, .data, .data, .pinned], laidTests := true, laidLooks := .later }
def FixedKnownCardSaid : Prop := Claim7.holds Tryd.pinned (.plain (OpenSpec.ofChange fixedKnownSpec)) fixedKnownCard

/-- THE TIED CARD OF 'pressmarklaw2.FixedShares'. -/
def fixedSharesCard : Claim7 := { stood := { row := fixedSharesRow, standIns := [], harness := (true, "aaaa74c41fd0538a381ef2aa4a8f7f22568c1ec63d32b6b3b2e9fc9938ad1ebe"), looks := false }, kinds := [], alts := [], laidByText := true, laidKinds := [.data, .data, .data, .data, .pinned], laidTests := true, laidLooks := .later }
def FixedSharesCardSaid : Prop := Claim7.holds Tryd.pinned (.plain (OpenSpec.ofChange fixedSharesSpec)) fixedSharesCard

/-- THE TIED CARD OF 'pressmarklaw2.FixedReckons'. -/
def fixedReckonsCard : Claim7 := { stood := { row := fixedReckonsRow, standIns := [], harness := (true, "aaaa74c41fd0538a381ef2aa4a8f7f22568c1ec63d32b6b3b2e9fc9938ad1ebe"), looks := false }, kinds := [], alts := [], laidByText := true, laidKinds := [.data, .data, .data, .data, .pinned], laidTests := true, laidLooks := .later }
def FixedReckonsCardSaid : Prop := Claim7.holds Tryd.pinned (.plain (OpenSpec.ofChange fixedReckonsSpec)) fixedReckonsCard

/-- THE TIED CARD OF 'pressmarklaw2.FixedRules'. -/
def fixedRulesCard : Claim7 := { stood := { row := fixedRulesRow, standIns := [], harness := (true, "aaaa74c41fd0538a381ef2aa4a8f7f22568c1ec63d32b6b3b2e9fc9938ad1ebe"), looks := false }, kinds := [], alts := [], laidByText := true, laidKinds := [.data, .data, .data, .data, .pinned], laidTests := true, laidLooks := .later }
def FixedRulesCardSaid : Prop := Claim7.holds Tryd.pinned (.plain (OpenSpec.ofChange fixedRulesSpec)) fixedRulesCard

/-- THE SECOND FORM's CARD OF 'pressmarklaw2.FixedParses'. -/
def fixedParsesUptoCard : Claim7 := { stood := { row := fixedParsesUptoRow, standIns := [], harness := (true, "aaaa74c41fd0538a381ef2aa4a8f7f22568c1ec63d32b6b3b2e9fc9938ad1ebe"), looks := false }, kinds := [], alts := [], laidByText := true, laidKinds := [.data, .data, .data, .data, .pinned], laidTests := true, laidLooks := .later }
def FixedParsesUptoCardSaid : Prop := Claim7.holds Tryd.pinned (.plain (OpenSpec.upto fixedParsesSpec)) fixedParsesUptoCard

/-- THE SECOND FORM's CARD OF 'pressmarklaw2.FixedTexts'. -/
def fixedTextsUptoCard : Claim7 := { stood := { row := fixedTextsUptoRow, standIns := [], harness := (true, "aaaa74c41fd0538a381ef2aa4a8f7f22568c1ec63d32b6b3b2e9fc9938ad1ebe"), looks := false }, kinds := [], alts := [], laidByText := true, laidKinds := [.data, .data, .data, .data, .pinned], laidTests := true, laidLooks := .later }
def FixedTextsUptoCardSaid : Prop := Claim7.holds Tryd.pinned (.plain (OpenSpec.upto fixedTextsSpec)) fixedTextsUptoCard

/-- THE SECOND FORM's CARD OF 'pressmarklaw2.FixedBack'. -/
def fixedBackUptoCard : Claim7 := { stood := { row := fixedBackUptoRow, standIns := [], harness := (true, "aaaa74c41fd0538a381ef2aa4a8f7f22568c1ec63d32b6b3b2e9fc9938ad1ebe"), looks := false }, kinds := [], alts := [], laidByText := true, laidKinds := [.data, .data, .data, .data, .pinned], laidTests := true, laidLooks := .later }
def FixedBackUptoCardSaid : Prop := Claim7.holds Tryd.pinned (.plain (OpenSpec.upto fixedBackSpec)) fixedBackUptoCard

/-- THE SECOND FORM's CARD OF 'pressmarklaw2.FixedCuts'. -/
def fixedCutsUptoCard : Claim7 := { stood := { row := fixedCutsUptoRow, standIns := [], harness := (true, "aaaa74c41fd0538a381ef2aa4a8f7f22568c1ec63d32b6b3b2e9fc9938ad1ebe"), looks := false }, kinds := [], alts := [], laidByText := true, laidKinds := [.data, .data, .data, .data, .pinned], laidTests := true, laidLooks := .later }
def FixedCutsUptoCardSaid : Prop := Claim7.holds Tryd.pinned (.plain (OpenSpec.upto fixedCutsSpec)) fixedCutsUptoCard

/-- THE SECOND FORM's CARD OF 'pressmarklaw2.FixedKnown'. -/
def fixedKnownUptoCard : Claim7 := { stood := { row := fixedKnownUptoRow, standIns := [], harness := (true, "aaaa74c41fd0538a381ef2aa4a8f7f22568c1ec63d32b6b3b2e9fc9938ad1ebe"), looks := false }, kinds := [], alts := [], laidByText := true, laidKinds := [.data, .data, .data, .data, .pinned], laidTests := true, laidLooks := .later }
def FixedKnownUptoCardSaid : Prop := Claim7.holds Tryd.pinned (.plain (OpenSpec.upto fixedKnownSpec)) fixedKnownUptoCard

/-- THE SECOND FORM's CARD OF 'pressmarklaw2.FixedShares'. -/
def fixedSharesUptoCard : Claim7 := { stood := { row := fixedSharesUptoRow, standIns := [], harness := (true, "aaaa74c41fd0538a381ef2aa4a8f7f22568c1ec63d32b6b3b2e9fc9938ad1ebe"), looks := false }, kinds := [], alts := [], laidByText := true, laidKinds := [.data, .data, .data, .data, .pinned], laidTests := true, laidLooks := .later }
def FixedSharesUptoCardSaid : Prop := Claim7.holds Tryd.pinned (.plain (OpenSpec.upto fixedSharesSpec)) fixedSharesUptoCard

/-- THE SECOND FORM's CARD OF 'pressmarklaw2.FixedReckons'. -/
def fixedReckonsUptoCard : Claim7 := { stood := { row := fixedReckonsUptoRow, standIns := [], harness := (true, "aaaa74c41fd0538a381ef2aa4a8f7f22568c1ec63d32b6b3b2e9fc9938ad1ebe"), looks := false }, kinds := [], alts := [], laidByText := true, laidKinds := [.data, .data, .data, .data, .pinned], laidTests := true, laidLooks := .later }
def FixedReckonsUptoCardSaid : Prop := Claim7.holds Tryd.pinned (.plain (OpenSpec.upto fixedReckonsSpec)) fixedReckonsUptoCard

/-- THE SECOND FORM's CARD OF 'pressmarklaw2.FixedRules'. -/
def fixedRulesUptoCard : Claim7 := { stood := { row := fixedRulesUptoRow, standIns := [], harness := (true, "aaaa74c41fd0538a381ef2aa4a8f7f22568c1ec63d32b6b3b2e9fc9938ad1ebe"), looks := false }, kinds := [], alts := [], laidByText := true, laidKinds := [.data, .data, .data, .data, .pinned], laidTests := true, laidLooks := .later }
def FixedRulesUptoCardSaid : Prop := Claim7.holds Tryd.pinned (.plain (OpenSpec.upto fixedRulesSpec)) fixedRulesUptoCard
end Rows
end Go.Proofs.YtbmcmilbmkdabaaDoor

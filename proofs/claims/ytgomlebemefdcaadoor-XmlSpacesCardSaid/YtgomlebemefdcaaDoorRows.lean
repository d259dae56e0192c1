/-
  NARROWER THAN 'FOR EVERY INPUT', by the rows' own cells (each row's printed sentence says how): XmlDeep: laid · XmlSpaces: laid · XmlSkips: laid · XmlKnown: laid · XmlEscapes: laid.
  DERIVED. THE GIVEN ROWS OF THIS SEAT. 5 by the template 'for every input the law returns true; each argument reads behind the call as it read before'; 0 by the template 'total and deterministic' (their statements: YtgomlebemefdcaaDoorTotals.lean).
  GIVEN WITH THE SEED: the statements are not yours to turn. If you find one false, say at which input.
  Laid BY PROGRAM, IN A SANDBOX (cutbox-rows.mjs): the forced cells as the released guide's own fill.sh prints them over the translation 1a540f8c4e8e00be… (all of the seat's roots in one cut). By AI agents, Wed Nov 11 2026. No macro, syntax, notation, axiom, sorry.
-/
import Derived.Test.YtgomlebemefdcaaDoorChecked
import GoSem.PinnedTables
import GoSem.Claim
import GoSem.ClaimJoined
import GoSem.ClaimMapViews
import Derived.JoinedTies
import Derived.KernelRfl
namespace Go.Proofs.YtgomlebemefdcaaDoor
/- THE CELL 'sum', in the pinned program and in every row, IS THE sha256 OF THE DUMP (.gsa) THAT YtgomlebemefdcaaDoorProg.lean LOADS. Nothing in Lean hashes anything: it is a label: what it is worth is what the hold of that sum in a sandbox is worth. -/
noncomputable def Tryd.pinned : Pinned := { name := "ytgomlebemefdcaadoor", sum := "1a540f8c4e8e00bed9ee1aac184741a9e5ac66014d495bcde04c868a477a7e3d", checked := Tryd.checked }
namespace Rows
def none {H : Type} : Left H := { results := [], args := [] }

/- WHAT THE LISTED PACKAGE-LEVEL VARIABLES READ AS WHEN THE CALL BEGINS. Each datum BY PROGRAM (the guide's laid-datum.mjs) off the statement by which the dump's own 'gosem.cut.vars' lays the variable. In a bare row this is a premise. The card (YtgomlebemefdcaaDoorCards.lean) ties it to the program's text. -/
def laid_unicode_utf8_acceptRanges {H : Type} : DataW H := .agg [.agg [.lit (.int .u8 128), .lit (.int .u8 191)], .agg [.lit (.int .u8 160), .lit (.int .u8 191)], .agg [.lit (.int .u8 128), .lit (.int .u8 159)], .agg [.lit (.int .u8 144), .lit (.int .u8 191)], .agg [.lit (.int .u8 128), .lit (.int .u8 143)], .agg [.lit (.int .u8 0), .lit (.int .u8 0)], .agg [.lit (.int .u8 0), .lit (.int .u8 0)], .agg [.lit (.int .u8 0), .lit (.int .u8 0)], .agg [.lit (.int .u8 0), .lit (.int .u8 0)], .agg [.lit (.int .u8 0), .lit (.int .u8 0)], .agg [.lit (.int .u8 0), .lit (.int .u8 0)], .agg [.lit (.int .u8 0), .lit (.int .u8 0)], .agg [.lit (.int .u8 0), .lit (.int .u8 0)], .agg [.lit (.int .u8 0), .lit (.int .u8 0)], .agg [.lit (.int .u8 0), .lit (.int .u8 0)], .agg [.lit (.int .u8 0), .lit (.int .u8 0)]]
/-- One of Go's own tables, pinned by name: the form's constant. -/
def laid_unicode_utf8_first : DataW Unit := Go.Pinned.utf8First

/-- 'pressmarklaw19.XmlDeep': WHATEVER THE INPUT: true; the input reads as it did. -/
def xmlDeepSpec : ChangeSpec := { name := "xmlDeep", fn := fun _ => fun
  | [d] => { results := [.lit (.bool true)], args := [d] }
  | _ => none }
def xmlDeepRow : OpenClaim := { program := "ytgomlebemefdcaadoor", sum := "1a540f8c4e8e00bed9ee1aac184741a9e5ac66014d495bcde04c868a477a7e3d", func := "pressmark/pressmarklaw19.XmlDeep", spec := "xmlDeep", inPlace := ["internal/abi.NoEscape"], unfollowed := true, recurses := true, named := ["unicode/utf8.first", "unicode/utf8.acceptRanges"], apart := false, laid := [("unicode/utf8.acceptRanges", laid_unicode_utf8_acceptRanges), ("unicode/utf8.first", laid_unicode_utf8_first)] }
def XmlDeepSaid : Prop := xmlDeepRow.holds Tryd.pinned (OpenSpec.ofChange xmlDeepSpec)

/-- ITS FALSE NEIGHBOUR: 'it returns false'. Refute it at one input. -/
def xmlDeepWrong : ChangeSpec := { name := "xmlDeep", fn := fun _ => fun
  | [d] => { results := [.lit (.bool false)], args := [d] }
  | _ => none }
def XmlDeepWrongFalsely : Prop := xmlDeepRow.holds Tryd.pinned (OpenSpec.ofChange xmlDeepWrong)

/-- 'pressmarklaw19.XmlSpaces': WHATEVER THE INPUT: true; the input reads as it did. -/
def xmlSpacesSpec : ChangeSpec := { name := "xmlSpaces", fn := fun _ => fun
  | [d] => { results := [.lit (.bool true)], args := [d] }
  | _ => none }
def xmlSpacesRow : OpenClaim := { program := "ytgomlebemefdcaadoor", sum := "1a540f8c4e8e00bed9ee1aac184741a9e5ac66014d495bcde04c868a477a7e3d", func := "pressmark/pressmarklaw19.XmlSpaces", spec := "xmlSpaces", inPlace := ["internal/abi.NoEscape"], unfollowed := true, recurses := true, named := ["unicode/utf8.first", "unicode/utf8.acceptRanges"], apart := false, laid := [("unicode/utf8.acceptRanges", laid_unicode_utf8_acceptRanges), ("unicode/utf8.first", laid_unicode_utf8_first)] }
def XmlSpacesSaid : Prop := xmlSpacesRow.holds Tryd.pinned (OpenSpec.ofChange xmlSpacesSpec)

/-- ITS FALSE NEIGHBOUR: 'it returns false'. Refute it at one input. -/
def xmlSpacesWrong : ChangeSpec := { name := "xmlSpaces", fn := fun _ => fun
  | [d] => { results := [.lit (.bool false)], args := [d] }
  | _ => none }
def XmlSpacesWrongFalsely : Prop := xmlSpacesRow.holds Tryd.pinned (OpenSpec.ofChange xmlSpacesWrong)

/-- 'pressmarklaw19.XmlSkips': WHATEVER THE INPUT: true; the input reads as it did. -/
def xmlSkipsSpec : ChangeSpec := { name := "xmlSkips", fn := fun _ => fun
  | [d] => { results := [.lit (.bool true)], args := [d] }
  | _ => none }
def xmlSkipsRow : OpenClaim := { program := "ytgomlebemefdcaadoor", sum := "1a540f8c4e8e00bed9ee1aac184741a9e5ac66014d495bcde04c868a477a7e3d", func := "pressmark/pressmarklaw19.XmlSkips", spec := "xmlSkips", inPlace := ["internal/abi.NoEscape"], unfollowed := true, recurses := true, named := ["unicode/utf8.first", "unicode/utf8.acceptRanges"], apart := false, laid := [("unicode/utf8.acceptRanges", laid_unicode_utf8_acceptRanges), ("unicode/utf8.first", laid_unicode_utf8_first)] }
def XmlSkipsSaid : Prop := xmlSkipsRow.holds Tryd.pinned (OpenSpec.ofChange xmlSkipsSpec)

/-- ITS FALSE NEIGHBOUR: 'it returns false'. Refute it at one input. -/
def xmlSkipsWrong : ChangeSpec := { name := "xmlSkips", fn := fun _ => fun
  | [d] => { results := [.lit (.bool false)], args := [d] }
  | _ => none }
def XmlSkipsWrongFalsely : Prop := xmlSkipsRow.holds Tryd.pinned (OpenSpec.ofChange xmlSkipsWrong)

/-- 'pressmarklaw19.XmlKnown': WHATEVER THE INPUT: true; the input reads as it did. -/
def xmlKnownSpec : ChangeSpec := { name := "xmlKnown", fn := fun _ => fun
  | [] => { results := [.lit (.bool true)], args := [] }
  | _ => none }
def xmlKnownRow : OpenClaim := { program := "ytgomlebemefdcaadoor", sum := "1a540f8c4e8e00bed9ee1aac184741a9e5ac66014d495bcde04c868a477a7e3d", func := "pressmark/pressmarklaw19.XmlKnown", spec := "xmlKnown", inPlace := ["internal/abi.NoEscape", "internal/bytealg.MakeNoZero"], unfollowed := true, recurses := true, named := ["unicode/utf8.first", "unicode/utf8.acceptRanges"], apart := false, laid := [("unicode/utf8.acceptRanges", laid_unicode_utf8_acceptRanges), ("unicode/utf8.first", laid_unicode_utf8_first)] }
def XmlKnownSaid : Prop := xmlKnownRow.holds Tryd.pinned (OpenSpec.ofChange xmlKnownSpec)

/-- ITS FALSE NEIGHBOUR: 'it returns false'. Refute it at one input. -/
def xmlKnownWrong : ChangeSpec := { name := "xmlKnown", fn := fun _ => fun
  | [] => { results := [.lit (.bool false)], args := [] }
  | _ => none }
def XmlKnownWrongFalsely : Prop := xmlKnownRow.holds Tryd.pinned (OpenSpec.ofChange xmlKnownWrong)

/-- 'pressmarklaw19.XmlEscapes': WHATEVER THE INPUT: true; the input reads as it did. -/
def xmlEscapesSpec : ChangeSpec := { name := "xmlEscapes", fn := fun _ => fun
  | [d] => { results := [.lit (.bool true)], args := [d] }
  | _ => none }
def xmlEscapesRow : OpenClaim := { program := "ytgomlebemefdcaadoor", sum := "1a540f8c4e8e00bed9ee1aac184741a9e5ac66014d495bcde04c868a477a7e3d", func := "pressmark/pressmarklaw19.XmlEscapes", spec := "xmlEscapes", inPlace := ["internal/abi.NoEscape", "internal/bytealg.MakeNoZero"], unfollowed := true, recurses := true, named := ["unicode/utf8.first", "unicode/utf8.acceptRanges"], apart := false, laid := [("unicode/utf8.acceptRanges", laid_unicode_utf8_acceptRanges), ("unicode/utf8.first", laid_unicode_utf8_first)] }
def XmlEscapesSaid : Prop := xmlEscapesRow.holds Tryd.pinned (OpenSpec.ofChange xmlEscapesSpec)

/-- ITS FALSE NEIGHBOUR: 'it returns false'. Refute it at one input. -/
def xmlEscapesWrong : ChangeSpec := { name := "xmlEscapes", fn := fun _ => fun
  | [d] => { results := [.lit (.bool false)], args := [d] }
  | _ => none }
def XmlEscapesWrongFalsely : Prop := xmlEscapesRow.holds Tryd.pinned (OpenSpec.ofChange xmlEscapesWrong)

/- THE SECOND FORM. 'bulk': how many values and letters a reading holds, each counted each time it is reached (what is shared counts as often as it is met; a slice's spare places count too). A statement '..UptoSaid' is the law's where the arguments, and the package variables that the reading takes, are together of bulk at most 1048576: NARROWER than '..Said'. Prove '..Said' where nothing that the law and all that it calls make is longer than what came in: it says more and counts as full. Else prove '..UptoSaid'. A law counts once. -/
mutual
def uptoBulk {H : Type} : DataW H → Nat
  | .lit (.string bytes) => bytes.length + 1
  | .lit _ => 1
  | .nil => 1
  | .ptr d => uptoBulk d + 1
  | .slice elems spare => uptoBulkAll elems + uptoBulkAll spare + 1
  | .agg parts => uptoBulkAll parts + 1
  | .iface _ d => uptoBulk d + 1
  | .map entries => uptoBulkEntries entries + 1
  | .held _ => 1
def uptoBulkAll {H : Type} : List (DataW H) → Nat
  | [] => 0
  | d :: r => uptoBulk d + uptoBulkAll r
def uptoBulkEntries {H : Type} : List (Lit × DataW H) → Nat
  | [] => 0
  | x :: r => uptoBulkEntry x + uptoBulkEntries r
def uptoBulkEntry {H : Type} : Lit × DataW H → Nat
  | (.string bytes, d) => bytes.length + uptoBulk d + 1
  | (_, d) => uptoBulk d + 1
 end
def uptoSmall : (H : Type) → List (DataW H) → Bool := fun _ ds => decide (uptoBulkAll ds ≤ 1048576)
def OpenSpec.upto (s : _root_.Go.ChangeSpec) : _root_.Go.OpenSpec := { _root_.Go.OpenSpec.ofChange s with cond := some uptoSmall }

/-- 'pressmarklaw19.XmlDeep', WHERE WHAT IT READS IS OF BULK AT MOST 1048576: true; the input reads as it did. -/
def xmlDeepUptoRow : OpenClaim := { program := "ytgomlebemefdcaadoor", sum := "1a540f8c4e8e00bed9ee1aac184741a9e5ac66014d495bcde04c868a477a7e3d", func := "pressmark/pressmarklaw19.XmlDeep", spec := "xmlDeep", inPlace := ["internal/abi.NoEscape"], unfollowed := true, recurses := true, named := ["unicode/utf8.first", "unicode/utf8.acceptRanges"], apart := false, laid := [("unicode/utf8.acceptRanges", laid_unicode_utf8_acceptRanges), ("unicode/utf8.first", laid_unicode_utf8_first)], narrowed := true }
def XmlDeepUptoSaid : Prop := xmlDeepUptoRow.holds Tryd.pinned (OpenSpec.upto xmlDeepSpec)

/-- 'pressmarklaw19.XmlSpaces', WHERE WHAT IT READS IS OF BULK AT MOST 1048576: true; the input reads as it did. -/
def xmlSpacesUptoRow : OpenClaim := { program := "ytgomlebemefdcaadoor", sum := "1a540f8c4e8e00bed9ee1aac184741a9e5ac66014d495bcde04c868a477a7e3d", func := "pressmark/pressmarklaw19.XmlSpaces", spec := "xmlSpaces", inPlace := ["internal/abi.NoEscape"], unfollowed := true, recurses := true, named := ["unicode/utf8.first", "unicode/utf8.acceptRanges"], apart := false, laid := [("unicode/utf8.acceptRanges", laid_unicode_utf8_acceptRanges), ("unicode/utf8.first", laid_unicode_utf8_first)], narrowed := true }
def XmlSpacesUptoSaid : Prop := xmlSpacesUptoRow.holds Tryd.pinned (OpenSpec.upto xmlSpacesSpec)

/-- 'pressmarklaw19.XmlSkips', WHERE WHAT IT READS IS OF BULK AT MOST 1048576: true; the input reads as it did. -/
def xmlSkipsUptoRow : OpenClaim := { program := "ytgomlebemefdcaadoor", sum := "1a540f8c4e8e00bed9ee1aac184741a9e5ac66014d495bcde04c868a477a7e3d", func := "pressmark/pressmarklaw19.XmlSkips", spec := "xmlSkips", inPlace := ["internal/abi.NoEscape"], unfollowed := true, recurses := true, named := ["unicode/utf8.first", "unicode/utf8.acceptRanges"], apart := false, laid := [("unicode/utf8.acceptRanges", laid_unicode_utf8_acceptRanges), ("unicode/utf8.first", laid_unicode_utf8_first)], narrowed := true }
def XmlSkipsUptoSaid : Prop := xmlSkipsUptoRow.holds Tryd.pinned (OpenSpec.upto xmlSkipsSpec)

/-- 'pressmarklaw19.XmlKnown', WHERE WHAT IT READS IS OF BULK AT MOST 1048576: true; the input reads as it did. -/
def xmlKnownUptoRow : OpenClaim := { program := "ytgomlebemefdcaadoor", sum := "1a540f8c4e8e00bed9ee1aac184741a9e5ac66014d495bcde04c868a477a7e3d", func := "pressmark/pressmarklaw19.XmlKnown", spec := "xmlKnown", inPlace := ["internal/abi.NoEscape", "internal/bytealg.MakeNoZero"], unfollowed := true, recurses := true, named := ["unicode/utf8.first", "unicode/utf8.acceptRanges"], apart := false, laid := [("unicode/utf8.acceptRanges", laid_unicode_utf8_acceptRanges), ("unicode/utf8.first", laid_unicode_utf8_first)], narrowed := true }
def XmlKnownUptoSaid : Prop := xmlKnownUptoRow.holds Tryd.pinned (OpenSpec.upto xmlKnownSpec)

/-- 'pressmarklaw19.XmlEscapes', WHERE WHAT IT READS IS OF BULK AT MOST 1048576: true; the input reads as it did. -/
def xmlEscapesUptoRow : OpenClaim := { program := "ytgomlebemefdcaadoor", sum := "1a540f8c4e8e00bed9ee1aac184741a9e5ac66014d495bcde04c868a477a7e3d", func := "pressmark/pressmarklaw19.XmlEscapes", spec := "xmlEscapes", inPlace := ["internal/abi.NoEscape", "internal/bytealg.MakeNoZero"], unfollowed := true, recurses := true, named := ["unicode/utf8.first", "unicode/utf8.acceptRanges"], apart := false, laid := [("unicode/utf8.acceptRanges", laid_unicode_utf8_acceptRanges), ("unicode/utf8.first", laid_unicode_utf8_first)], narrowed := true }
def XmlEscapesUptoSaid : Prop := xmlEscapesUptoRow.holds Tryd.pinned (OpenSpec.upto xmlEscapesSpec)

end Rows
end Go.Proofs.YtgomlebemefdcaaDoor

/-
  NARROWER THAN 'FOR EVERY INPUT', by the rows' own cells (each row's printed sentence says how): XmpWrites: laid · XmpBack: laid · XmpDates: laid · XmpKnown: laid · XmpTexts: laid.
  DERIVED. THE GIVEN ROWS OF THIS SEAT. 5 by the template 'for every input the law returns true; each argument reads behind the call as it read before'; 0 by the template 'total and deterministic' (their statements: YtkpikpaepgknnaaGreatDoorTotals.lean).
  GIVEN WITH THE SEED: the statements are not yours to turn. If you find one false, say at which input.
  Laid BY PROGRAM, IN A SANDBOX (cutbox-rows.mjs): the forced cells as the released guide's own fill.sh prints them over the translation 9d695ce419f4942e… (all of the seat's roots in one cut). By AI agents, Wed Nov 11 2026. No macro, syntax, notation, axiom, sorry.
-/
import Derived.Test.YtkpikpaepgknnaaGreatDoorChecked
import GoSem.PinnedTables
import GoSem.Claim
import GoSem.ClaimJoined
import GoSem.ClaimMapViews
import Derived.JoinedTies
import Derived.KernelRfl
namespace Go.Proofs.YtkpikpaepgknnaaGreatDoor
/- THE CELL 'sum', in the pinned program and in every row, IS THE sha256 OF THE DUMP (.gsa) THAT YtkpikpaepgknnaaGreatDoorProg.lean LOADS. Nothing in Lean hashes anything: it is a label: what it is worth is what the hold of that sum in a sandbox is worth. -/
noncomputable def Tryz.pinned : Pinned := { name := "ytkpikpaepgknnaagreatdoor", sum := "9d695ce419f4942e7ecf12a2011d203348d0207c51243bd75b854d678e1dc0dd", checked := Tryz.checked }
namespace Rows
def none {H : Type} : Left H := { results := [], args := [] }

/- WHAT THE LISTED PACKAGE-LEVEL VARIABLES READ AS WHEN THE CALL BEGINS. Each datum BY PROGRAM (the guide's laid-datum.mjs) off the statement by which the dump's own 'gosem.cut.vars' lays the variable. In a bare row this is a premise. The card (YtkpikpaepgknnaaGreatDoorCards.lean) ties it to the program's text. -/
def laid_unicode_utf8_acceptRanges {H : Type} : DataW H := .agg [.agg [.lit (.int .u8 128), .lit (.int .u8 191)], .agg [.lit (.int .u8 160), .lit (.int .u8 191)], .agg [.lit (.int .u8 128), .lit (.int .u8 159)], .agg [.lit (.int .u8 144), .lit (.int .u8 191)], .agg [.lit (.int .u8 128), .lit (.int .u8 143)], .agg [.lit (.int .u8 0), .lit (.int .u8 0)], .agg [.lit (.int .u8 0), .lit (.int .u8 0)], .agg [.lit (.int .u8 0), .lit (.int .u8 0)], .agg [.lit (.int .u8 0), .lit (.int .u8 0)], .agg [.lit (.int .u8 0), .lit (.int .u8 0)], .agg [.lit (.int .u8 0), .lit (.int .u8 0)], .agg [.lit (.int .u8 0), .lit (.int .u8 0)], .agg [.lit (.int .u8 0), .lit (.int .u8 0)], .agg [.lit (.int .u8 0), .lit (.int .u8 0)], .agg [.lit (.int .u8 0), .lit (.int .u8 0)], .agg [.lit (.int .u8 0), .lit (.int .u8 0)]]
/-- One of Go's own tables, pinned by name: the form's constant. -/
def laid_unicode_utf8_first : DataW Unit := Go.Pinned.utf8First

/-- 'pressmarklaw20.XmpWrites': WHATEVER THE INPUT: true; the input reads as it did. -/
def xmpWritesSpec : ChangeSpec := { name := "xmpWrites", fn := fun _ => fun
  | [d] => { results := [.lit (.bool true)], args := [d] }
  | _ => none }
def xmpWritesRow : OpenClaim := { program := "ytkpikpaepgknnaagreatdoor", sum := "9d695ce419f4942e7ecf12a2011d203348d0207c51243bd75b854d678e1dc0dd", func := "pressmark/pressmarklaw20.XmpWrites", spec := "xmpWrites", inPlace := ["internal/bytealg.IndexByteString", "slices.overlaps[pressmark/xmp.Prop]", "internal/abi.NoEscape", "internal/bytealg.MakeNoZero", "internal/bytealg.IndexByte", "internal/bytealg.Index", "internal/bytealg.IndexString"], unfollowed := true, recurses := true, named := ["unicode/utf8.first", "unicode/utf8.acceptRanges", "internal/bytealg.MaxLen"], apart := false, laid := [("unicode/utf8.acceptRanges", laid_unicode_utf8_acceptRanges), ("unicode/utf8.first", laid_unicode_utf8_first)] }
def XmpWritesSaid : Prop := xmpWritesRow.holds Tryz.pinned (OpenSpec.ofChange xmpWritesSpec)

/-- ITS FALSE NEIGHBOUR: 'it returns false'. Refute it at one input. -/
def xmpWritesWrong : ChangeSpec := { name := "xmpWrites", fn := fun _ => fun
  | [d] => { results := [.lit (.bool false)], args := [d] }
  | _ => none }
def XmpWritesWrongFalsely : Prop := xmpWritesRow.holds Tryz.pinned (OpenSpec.ofChange xmpWritesWrong)

/-- 'pressmarklaw20.XmpBack': WHATEVER THE INPUT: true; the input reads as it did. -/
def xmpBackSpec : ChangeSpec := { name := "xmpBack", fn := fun _ => fun
  | [d] => { results := [.lit (.bool true)], args := [d] }
  | _ => none }
def xmpBackRow : OpenClaim := { program := "ytkpikpaepgknnaagreatdoor", sum := "9d695ce419f4942e7ecf12a2011d203348d0207c51243bd75b854d678e1dc0dd", func := "pressmark/pressmarklaw20.XmpBack", spec := "xmpBack", inPlace := ["internal/bytealg.IndexByteString", "slices.overlaps[pressmark/xmp.Prop]", "internal/abi.NoEscape", "internal/bytealg.MakeNoZero", "internal/bytealg.IndexByte", "internal/bytealg.Index", "internal/bytealg.IndexString"], unfollowed := true, recurses := true, named := ["unicode/utf8.first", "unicode/utf8.acceptRanges", "internal/bytealg.MaxLen"], apart := false, laid := [("unicode/utf8.acceptRanges", laid_unicode_utf8_acceptRanges), ("unicode/utf8.first", laid_unicode_utf8_first)] }
def XmpBackSaid : Prop := xmpBackRow.holds Tryz.pinned (OpenSpec.ofChange xmpBackSpec)

/-- ITS FALSE NEIGHBOUR: 'it returns false'. Refute it at one input. -/
def xmpBackWrong : ChangeSpec := { name := "xmpBack", fn := fun _ => fun
  | [d] => { results := [.lit (.bool false)], args := [d] }
  | _ => none }
def XmpBackWrongFalsely : Prop := xmpBackRow.holds Tryz.pinned (OpenSpec.ofChange xmpBackWrong)

/-- 'pressmarklaw20.XmpDates': WHATEVER THE INPUT: true; the input reads as it did. -/
def xmpDatesSpec : ChangeSpec := { name := "xmpDates", fn := fun _ => fun
  | [d1, d2, d3] => { results := [.lit (.bool true)], args := [d1, d2, d3] }
  | _ => none }
def xmpDatesRow : OpenClaim := { program := "ytkpikpaepgknnaagreatdoor", sum := "9d695ce419f4942e7ecf12a2011d203348d0207c51243bd75b854d678e1dc0dd", func := "pressmark/pressmarklaw20.XmpDates", spec := "xmpDates", inPlace := ["internal/bytealg.IndexByteString", "slices.overlaps[pressmark/xmp.Prop]", "internal/abi.NoEscape", "internal/bytealg.MakeNoZero", "internal/bytealg.IndexByte", "internal/bytealg.Index", "internal/bytealg.IndexString"], unfollowed := true, recurses := true, named := ["unicode/utf8.first", "unicode/utf8.acceptRanges", "internal/bytealg.MaxLen"], apart := false, laid := [("unicode/utf8.acceptRanges", laid_unicode_utf8_acceptRanges), ("unicode/utf8.first", laid_unicode_utf8_first)] }
def XmpDatesSaid : Prop := xmpDatesRow.holds Tryz.pinned (OpenSpec.ofChange xmpDatesSpec)

/-- ITS FALSE NEIGHBOUR: 'it returns false'. Refute it at one input. -/
def xmpDatesWrong : ChangeSpec := { name := "xmpDates", fn := fun _ => fun
  | [d1, d2, d3] => { results := [.lit (.bool false)], args := [d1, d2, d3] }
  | _ => none }
def XmpDatesWrongFalsely : Prop := xmpDatesRow.holds Tryz.pinned (OpenSpec.ofChange xmpDatesWrong)

/-- 'pressmarklaw20.XmpKnown': WHATEVER THE INPUT: true; the input reads as it did. -/
def xmpKnownSpec : ChangeSpec := { name := "xmpKnown", fn := fun _ => fun
  | [] => { results := [.lit (.bool true)], args := [] }
  | _ => none }
def xmpKnownRow : OpenClaim := { program := "ytkpikpaepgknnaagreatdoor", sum := "9d695ce419f4942e7ecf12a2011d203348d0207c51243bd75b854d678e1dc0dd", func := "pressmark/pressmarklaw20.XmpKnown", spec := "xmpKnown", inPlace := ["internal/bytealg.IndexByteString", "slices.overlaps[pressmark/xmp.Prop]", "internal/abi.NoEscape", "internal/bytealg.MakeNoZero", "internal/bytealg.IndexByte", "internal/bytealg.Index", "internal/bytealg.IndexString"], unfollowed := true, recurses := true, named := ["unicode/utf8.first", "unicode/utf8.acceptRanges", "internal/bytealg.MaxLen"], apart := false, laid := [("unicode/utf8.acceptRanges", laid_unicode_utf8_acceptRanges), ("unicode/utf8.first", laid_unicode_utf8_first)] }
def XmpKnownSaid : Prop := xmpKnownRow.holds Tryz.pinned (OpenSpec.ofChange xmpKnownSpec)

/-- ITS FALSE NEIGHBOUR: 'it returns false'. Refute it at one input. -/
def xmpKnownWrong : ChangeSpec := { name := "xmpKnown", fn := fun _ => fun
  | [] => { results := [.lit (.bool false)], args := [] }
  | _ => none }
def XmpKnownWrongFalsely : Prop := xmpKnownRow.holds Tryz.pinned (OpenSpec.ofChange xmpKnownWrong)

/-- 'pressmarklaw20.XmpTexts': WHATEVER THE INPUT: true; the input reads as it did. -/
def xmpTextsSpec : ChangeSpec := { name := "xmpTexts", fn := fun _ => fun
  | [d1, d2, d3] => { results := [.lit (.bool true)], args := [d1, d2, d3] }
  | _ => none }
def xmpTextsRow : OpenClaim := { program := "ytkpikpaepgknnaagreatdoor", sum := "9d695ce419f4942e7ecf12a2011d203348d0207c51243bd75b854d678e1dc0dd", func := "pressmark/pressmarklaw20.XmpTexts", spec := "xmpTexts", inPlace := ["internal/bytealg.IndexByteString", "slices.overlaps[pressmark/xmp.Prop]", "internal/abi.NoEscape", "internal/bytealg.MakeNoZero", "internal/bytealg.IndexByte", "internal/bytealg.Index", "internal/bytealg.IndexString"], unfollowed := true, recurses := true, named := ["unicode/utf8.first", "unicode/utf8.acceptRanges", "internal/bytealg.MaxLen"], apart := false, laid := [("unicode/utf8.acceptRanges", laid_unicode_utf8_acceptRanges), ("unicode/utf8.first", laid_unicode_utf8_first)] }
def XmpTextsSaid : Prop := xmpTextsRow.holds Tryz.pinned (OpenSpec.ofChange xmpTextsSpec)

/-- ITS FALSE NEIGHBOUR: 'it returns false'. Refute it at one input. -/
def xmpTextsWrong : ChangeSpec := { name := "xmpTexts", fn := fun _ => fun
  | [d1, d2, d3] => { results := [.lit (.bool false)], args := [d1, d2, d3] }
  | _ => none }
def XmpTextsWrongFalsely : Prop := xmpTextsRow.holds Tryz.pinned (OpenSpec.ofChange xmpTextsWrong)

/- THE SECOND FORM. 'bulk': how many values and letters a reading holds, each counted each time it is reached (what is shared counts as often as it is met; a slice's spare places count too). A statement '..UptoSaid' is the law's where the arguments, and the package variables that the reading takes, are together of bulk at most 1048576: NARROWER than '..Said'. Prove '..Said' where nothing that the law and all that it calls make is longer than what came in: it says more and counts as full. Else prove '..UptoSaid'. A law counts once. -/
mutual
def uptoBulk {H : Type} : DataW H → Nat
  | .lit (.string bytes) => bytes.length + 1
  | .lit _ => 1
  | .nil => 1
  | .ptr d => uptoBulk d + 1
  | .slice elems spare => uptoBulkAll elems + uptoBulkAll spare + 1
  | .agg parts => uptoBulkAll parts + 1
  | .iface _ d => uptoBulk d + 1
  | .map entries => uptoBulkEntries entries + 1
  | .held _ => 1
def uptoBulkAll {H : Type} : List (DataW H) → Nat
  | [] => 0
  | d :: r => uptoBulk d + uptoBulkAll r
def uptoBulkEntries {H : Type} : List (Lit × DataW H) → Nat
  | [] => 0
  | x :: r => uptoBulkEntry x + uptoBulkEntries r
def uptoBulkEntry {H : Type} : Lit × DataW H → Nat
  | (.string bytes, d) => bytes.length + uptoBulk d + 1
  | (_, d) => uptoBulk d + 1
 end
def uptoSmall : (H : Type) → List (DataW H) → Bool := fun _ ds => decide (uptoBulkAll ds ≤ 1048576)
def OpenSpec.upto (s : _root_.Go.ChangeSpec) : _root_.Go.OpenSpec := { _root_.Go.OpenSpec.ofChange s with cond := some uptoSmall }

/-- 'pressmarklaw20.XmpWrites', WHERE WHAT IT READS IS OF BULK AT MOST 1048576: true; the input reads as it did. -/
def xmpWritesUptoRow : OpenClaim := { program := "ytkpikpaepgknnaagreatdoor", sum := "9d695ce419f4942e7ecf12a2011d203348d0207c51243bd75b854d678e1dc0dd", func := "pressmark/pressmarklaw20.XmpWrites", spec := "xmpWrites", inPlace := ["internal/bytealg.IndexByteString", "slices.overlaps[pressmark/xmp.Prop]", "internal/abi.NoEscape", "internal/bytealg.MakeNoZero", "internal/bytealg.IndexByte", "internal/bytealg.Index", "internal/bytealg.IndexString"], unfollowed := true, recurses := true, named := ["unicode/utf8.first", "unicode/utf8.acceptRanges", "internal/bytealg.MaxLen"], apart := false, laid := [("unicode/utf8.acceptRanges", laid_unicode_utf8_acceptRanges), ("unicode/utf8.first", laid_unicode_utf8_first)], narrowed := true }
def XmpWritesUptoSaid : Prop := xmpWritesUptoRow.holds Tryz.pinned (OpenSpec.upto xmpWritesSpec)

/-- 'pressmarklaw20.XmpBack', WHERE WHAT IT READS IS OF BULK AT MOST 1048576: true; the input reads as it did. -/
def xmpBackUptoRow : OpenClaim := { program := "ytkpikpaepgknnaagreatdoor", sum := "9d695ce419f4942e7ecf12a2011d203348d0207c51243bd75b854d678e1dc0dd", func := "pressmark/pressmarklaw20.XmpBack", spec := "xmpBack", inPlace := ["internal/bytealg.IndexByteString", "slices.overlaps[pressmark/xmp.Prop]", "internal/abi.NoEscape", "internal/bytealg.MakeNoZero", "internal/bytealg.IndexByte", "internal/bytealg.Index", "internal/bytealg.IndexString"], unfollowed := true, recurses := true, named := ["unicode/utf8.first", "unicode/utf8.acceptRanges", "internal/bytealg.MaxLen"], apart := false, laid := [("unicode/utf8.acceptRanges", laid_unicode_utf8_acceptRanges), ("unicode/utf8.first", laid_unicode_utf8_first)], narrowed := true }
def XmpBackUptoSaid : Prop := xmpBackUptoRow.holds Tryz.pinned (OpenSpec.upto xmpBackSpec)

/-- 'pressmarklaw20.XmpDates', WHERE WHAT IT READS IS OF BULK AT MOST 1048576: true; the input reads as it did. -/
def xmpDatesUptoRow : OpenClaim := { program := "ytkpikpaepgknnaagreatdoor", sum := "9d695ce419f4942e7ecf12a2011d203348d0207c51243bd75b854d678e1dc0dd", func := "pressmark/pressmarklaw20.XmpDates", spec := "xmpDates", inPlace := ["internal/bytealg.IndexByteString", "slices.overlaps[pressmark/xmp.Prop]", "internal/abi.NoEscape", "internal/bytealg.MakeNoZero", "internal/bytealg.IndexByte", "internal/bytealg.Index", "internal/bytealg.IndexString"], unfollowed := true, recurses := true, named := ["unicode/utf8.first", "unicode/utf8.acceptRanges", "internal/bytealg.MaxLen"], apart := false, laid := [("unicode/utf8.acceptRanges", laid_unicode_utf8_acceptRanges), ("unicode/utf8.first", laid_unicode_utf8_first)], narrowed := true }
def XmpDatesUptoSaid : Prop := xmpDatesUptoRow.holds Tryz.pinned (OpenSpec.upto xmpDatesSpec)

/-- 'pressmarklaw20.XmpKnown', WHERE WHAT IT READS IS OF BULK AT MOST 1048576: true; the input reads as it did. -/
def xmpKnownUptoRow : OpenClaim := { program := "ytkpikpaepgknnaagreatdoor", sum := "9d695ce419f4942e7ecf12a2011d203348d0207c51243bd75b854d678e1dc0dd", func := "pressmark/pressmarklaw20.XmpKnown", spec := "xmpKnown", inPlace := ["internal/bytealg.IndexByteString", "slices.overlaps[pressmark/xmp.Prop]", "internal/abi.NoEscape", "internal/bytealg.MakeNoZero", "internal/bytealg.IndexByte", "internal/bytealg.Index", "internal/bytealg.IndexString"], unfollowed := true, recurses := true, named := ["unicode/utf8.first", "unicode/utf8.acceptRanges", "internal/bytealg.MaxLen"], apart := false, laid := [("unicode/utf8.acceptRanges", laid_unicode_utf8_acceptRanges), ("unicode/utf8.first", laid_unicode_utf8_first)], narrowed := true }
def XmpKnownUptoSaid : Prop := xmpKnownUptoRow.holds Tryz.pinned (OpenSpec.upto xmpKnownSpec)

/-- 'pressmarklaw20.XmpTexts', WHERE WHAT IT READS IS OF BULK AT MOST 1048576: true; the input reads as it did. -/
def xmpTextsUptoRow : OpenClaim := { program := "ytkpikpaepgknnaagreatdoor", sum := "9d695ce419f4942e7ecf12a2011d203348d0207c51243bd75b854d678e1dc0dd", func := "pressmark/pressmarklaw20.XmpTexts", spec := "xmpTexts", inPlace := ["internal/bytealg.IndexByteString", "slices.overlaps[pressmark/xmp.Prop]", "internal/abi.NoEscape", "internal/bytealg.MakeNoZero", "internal/bytealg.IndexByte", "internal/bytealg.Index", "internal/bytealg.IndexString"], unfollowed := true, recurses := true, named := ["unicode/utf8.first", "unicode/utf8.acceptRanges", "internal/bytealg.MaxLen"], apart := false, laid := [("unicode/utf8.acceptRanges", laid_unicode_utf8_acceptRanges), ("unicode/utf8.first", laid_unicode_utf8_first)], narrowed := true }
def XmpTextsUptoSaid : Prop := xmpTextsUptoRow.holds Tryz.pinned (OpenSpec.upto xmpTextsSpec)

end Rows
end Go.Proofs.YtkpikpaepgknnaaGreatDoor

/-
  No cell of these rows narrows 'for every input' (looked for: loops, veiled, ifaces, maps, wideKeys, modest, calm, conditions, laid).
  DERIVED. THE GIVEN ROWS OF THIS SEAT. 3 by the template 'for every input the law returns true; each argument reads behind the call as it read before'; 0 by the template 'total and deterministic' (their statements: YtdeomolfbfplpaaTotals.lean).
  GIVEN WITH THE SEED: the statements are not yours to turn. If you find one false, say at which input.
  Laid BY PROGRAM, IN A SANDBOX (cutbox-rows.mjs): the forced cells as the released guide's own fill.sh prints them over the translation ad21c4b9e7c0fd30… (all of the seat's roots in one cut). By AI agents, Wed Nov 11 2026. No macro, syntax, notation, axiom, sorry.
-/
import Derived.Test.YtdeomolfbfplpaaChecked
import GoSem.Claim
import GoSem.ClaimJoined
import GoSem.ClaimMapViews
import Derived.JoinedTies
import Derived.KernelRfl
namespace Go.Proofs.Ytdeomolfbfplpaa
/- THE CELL 'sum', in the pinned program and in every row, IS THE sha256 OF THE DUMP (.gsa) THAT YtdeomolfbfplpaaProg.lean LOADS. Nothing in Lean hashes anything: it is a label: what it is worth is what the hold of that sum in a sandbox is worth. -/
noncomputable def Try.pinned : Pinned := { name := "ytdeomolfbfplpaa", sum := "ad21c4b9e7c0fd30e0265a94ec40c19bfca61dccaba65c7664c3d4016a5a5c6f", checked := Try.checked }
namespace Rows
def none {H : Type} : Left H := { results := [], args := [] }

/-- 'pressmarklaw3.SumsKnown': WHATEVER THE INPUT: true; the input reads as it did. -/
def sumsKnownSpec : ChangeSpec := { name := "sumsKnown", fn := fun _ => fun
  | [] => { results := [.lit (.bool true)], args := [] }
  | _ => none }
def sumsKnownRow : OpenClaim := { program := "ytdeomolfbfplpaa", sum := "ad21c4b9e7c0fd30e0265a94ec40c19bfca61dccaba65c7664c3d4016a5a5c6f", func := "pressmark/pressmarklaw3.SumsKnown", spec := "sumsKnown", apart := false }
def SumsKnownSaid : Prop := sumsKnownRow.holds Try.pinned (OpenSpec.ofChange sumsKnownSpec)

/-- ITS FALSE NEIGHBOUR: 'it returns false'. Refute it at one input. -/
def sumsKnownWrong : ChangeSpec := { name := "sumsKnown", fn := fun _ => fun
  | [] => { results := [.lit (.bool false)], args := [] }
  | _ => none }
def SumsKnownWrongFalsely : Prop := sumsKnownRow.holds Try.pinned (OpenSpec.ofChange sumsKnownWrong)

/-- 'pressmarklaw3.SumsParts': WHATEVER THE INPUT: true; the input reads as it did. -/
def sumsPartsSpec : ChangeSpec := { name := "sumsParts", fn := fun _ => fun
  | [d1, d2] => { results := [.lit (.bool true)], args := [d1, d2] }
  | _ => none }
def sumsPartsRow : OpenClaim := { program := "ytdeomolfbfplpaa", sum := "ad21c4b9e7c0fd30e0265a94ec40c19bfca61dccaba65c7664c3d4016a5a5c6f", func := "pressmark/pressmarklaw3.SumsParts", spec := "sumsParts", apart := false }
def SumsPartsSaid : Prop := sumsPartsRow.holds Try.pinned (OpenSpec.ofChange sumsPartsSpec)

/-- ITS FALSE NEIGHBOUR: 'it returns false'. Refute it at one input. -/
def sumsPartsWrong : ChangeSpec := { name := "sumsParts", fn := fun _ => fun
  | [d1, d2] => { results := [.lit (.bool false)], args := [d1, d2] }
  | _ => none }
def SumsPartsWrongFalsely : Prop := sumsPartsRow.holds Try.pinned (OpenSpec.ofChange sumsPartsWrong)

/-- 'pressmarklaw3.SumsOne': WHATEVER THE INPUT: true; the input reads as it did. -/
def sumsOneSpec : ChangeSpec := { name := "sumsOne", fn := fun _ => fun
  | [d1, d2, d3] => { results := [.lit (.bool true)], args := [d1, d2, d3] }
  | _ => none }
def sumsOneRow : OpenClaim := { program := "ytdeomolfbfplpaa", sum := "ad21c4b9e7c0fd30e0265a94ec40c19bfca61dccaba65c7664c3d4016a5a5c6f", func := "pressmark/pressmarklaw3.SumsOne", spec := "sumsOne", apart := false }
def SumsOneSaid : Prop := sumsOneRow.holds Try.pinned (OpenSpec.ofChange sumsOneSpec)

/-- ITS FALSE NEIGHBOUR: 'it returns false'. Refute it at one input. -/
def sumsOneWrong : ChangeSpec := { name := "sumsOne", fn := fun _ => fun
  | [d1, d2, d3] => { results := [.lit (.bool false)], args := [d1, d2, d3] }
  | _ => none }
def SumsOneWrongFalsely : Prop := sumsOneRow.holds Try.pinned (OpenSpec.ofChange sumsOneWrong)

/- THE SECOND FORM. 'bulk': how many values and letters a reading holds, each counted each time it is reached (what is shared counts as often as it is met; a slice's spare places count too). A statement '..UptoSaid' is the law's where the arguments, and the package variables that the reading takes, are together of bulk at most 1048576: NARROWER than '..Said'. Prove '..Said' where nothing that the law and all that it calls make is longer than what came in: it says more and counts as full. Else prove '..UptoSaid'. A law counts once. -/
mutual
def uptoBulk {H : Type} : DataW H → Nat
  | .lit (.string bytes) => bytes.length + 1
  | .lit _ => 1
  | .nil => 1
  | .ptr d => uptoBulk d + 1
  | .slice elems spare => uptoBulkAll elems + uptoBulkAll spare + 1
  | .agg parts => uptoBulkAll parts + 1
  | .iface _ d => uptoBulk d + 1
  | .map entries => uptoBulkEntries entries + 1
  | .held _ => 1
def uptoBulkAll {H : Type} : List (DataW H) → Nat
  | [] => 0
  | d :: r => uptoBulk d + uptoBulkAll r
def uptoBulkEntries {H : Type} : List (Lit × DataW H) → Nat
  | [] => 0
  | x :: r => uptoBulkEntry x + uptoBulkEntries r
def uptoBulkEntry {H : Type} : Lit × DataW H → Nat
  | (.string bytes, d) => bytes.length + uptoBulk d + 1
  | (_, d) => uptoBulk d + 1
 end
def uptoSmall : (H : Type) → List (DataW H) → Bool := fun _ ds => decide (uptoBulkAll ds ≤ 1048576)
def OpenSpec.upto (s : _root_.Go.ChangeSpec) : _root_.Go.OpenSpec := { _root_.Go.OpenSpec.ofChange s with cond := some uptoSmall }

/-- 'pressmarklaw3.SumsKnown', WHERE WHAT IT READS IS OF BULK AT MOST 1048576: true; the input reads as it did. -/
def sumsKnownUptoRow : OpenClaim := { program := "ytdeomolfbfplpaa", sum := "ad21c4b9e7c0fd30e0265a94ec40c19bfca61dccaba65c7664c3d4016a5a5c6f", func := "pressmark/pressmarklaw3.SumsKnown", spec := "sumsKnown", apart := false, narrowed := true }
def SumsKnownUptoSaid : Prop := sumsKnownUptoRow.holds Try.pinned (OpenSpec.upto sumsKnownSpec)

/-- 'pressmarklaw3.SumsParts', WHERE WHAT IT READS IS OF BULK AT MOST 1048576: true; the input reads as it did. -/
def sumsPartsUptoRow : OpenClaim := { program := "ytdeomolfbfplpaa", sum := "ad21c4b9e7c0fd30e0265a94ec40c19bfca61dccaba65c7664c3d4016a5a5c6f", func := "pressmark/pressmarklaw3.SumsParts", spec := "sumsParts", apart := false, narrowed := true }
def SumsPartsUptoSaid : Prop := sumsPartsUptoRow.holds Try.pinned (OpenSpec.upto sumsPartsSpec)

/-- 'pressmarklaw3.SumsOne', WHERE WHAT IT READS IS OF BULK AT MOST 1048576: true; the input reads as it did. -/
def sumsOneUptoRow : OpenClaim := { program := "ytdeomolfbfplpaa", sum := "ad21c4b9e7c0fd30e0265a94ec40c19bfca61dccaba65c7664c3d4016a5a5c6f", func := "pressmark/pressmarklaw3.SumsOne", spec := "sumsOne", apart := false, narrowed := true }
def SumsOneUptoSaid : Prop := sumsOneUptoRow.holds Try.pinned (OpenSpec.upto sumsOneSpec)

end Rows
end Go.Proofs.Ytdeomolfbfplpaa

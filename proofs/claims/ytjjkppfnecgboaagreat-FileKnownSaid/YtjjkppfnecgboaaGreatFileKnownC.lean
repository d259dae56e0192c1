/- The row of FileKnown lifted. No condition. -/
import Derived.Test.YtjjkppfnecgboaaGreatFileKnownA
import Derived.Test.YtjjkppfnecgboaaGreatRows
import Derived.PinnedBridge
import Derived.ProofKit
import Derived.OpenShut
set_option linter.unusedVariables false
namespace Go.Proofs.YtjjkppfnecgboaaGreat.fileKnown
open Go Go.ChangeShapes Go.WideShapes Go.ChangeAt Go.RowKit
theorem own : ownKnob Tryz.prog.godebug = none := by kernel_rfl
theorem emptyLaid : Rows.fileKnownRow.laid = [] := by kernel_rfl
set_option maxRecDepth 100000 in
theorem lifted (os : Os) (started : os.Started) (H : Type) (enc : TypeId × Value → H) :
    ReturnsInHanded {} Tryz.checked os 3 .any (Rows.fileKnownSpec.pre6 enc Tryz.prog Tryz.f3 Rows.fileKnownRow.domain false) (Rows.fileKnownSpec.post enc Tryz.prog Tryz.f3 false true false false) := by
  refine Am.law_plain (C := Tryz.checked) started own (by as_aux_lemma => kernel_rfl) Tryz.func3 rfl ?_ (by as_aux_lemma => kernel_rfl) Tryz.underlying4 (by as_aux_lemma => kernel_rfl) (by as_aux_lemma => kernel_rfl) (by as_aux_lemma => kernel_rfl)
    (ChangeSpec.witness6 (enc := enc) (C := Tryz.checked) false ⟨#[], #[], []⟩ 8 (by as_aux_lemma => kernel_rfl) (by as_aux_lemma => kernel_rfl) (by as_aux_lemma => kernel_rfl) (by as_aux_lemma => kernel_rfl)) ?_
  · intro ds hd
    have h2 : Tryz.f3.params.size = 0 := by kernel_rfl
    rw [h2] at hd
    match ds, hd with
    | [], _ => rfl
  · intro W base args ds before hg _ hA
    rw [show Tryz.f3.params.toList = [] by kernel_rfl] at hA
    obtain ⟨ha, rfl, rfl⟩ := trodAll_none hA
    rw [ha]
    exact Am.closed_true mixed ran Tryz.func3 (by kernel_rfl) W hg (by rw [emptyLaid]; exact Am.laid_none)
end Go.Proofs.YtjjkppfnecgboaaGreat.fileKnown

/- It proves the statement FileKnownSaid of this seat: the closed call answers true. No condition. -/
import Derived.Test.YtjjkppfnecgboaaGreatFileKnownC
import Derived.Test.YtjjkppfnecgboaaGreatFileKnownB
import Derived.Test.YtjjkppfnecgboaaGreatRows
import Derived.ProofKit
import Derived.OpenShut
set_option linter.unusedVariables false
namespace Go.Proofs.YtjjkppfnecgboaaGreat.fileKnown
open Go Go.ChangeShapes Go.WideShapes Go.ChangeAt Go.RowKit
theorem holds : Rows.fileKnownRow.holds Tryz.pinned (OpenSpec.ofChange Rows.fileKnownSpec) :=
  OpenClaim.holds_of_wide 3 Tryz.f3 rfl rfl rfl rfl rfl rfl rfl ⟨rfl, rfl, rfl, rfl, rfl⟩ rfl rfl rfl rfl rfl (by as_aux_lemma => kernel_rfl) Tryz.func3 closed
    (of_decide_eq_true (by as_aux_lemma => kernel_rfl)) (by unfold Func.isWrapper; first | (rw [if_pos (by decide +kernel)]; kernel_rfl) | (rw [if_neg (by decide +kernel)]; exact ⟨rfl, rfl⟩))
    (fun os started H enc _ => lifted os started H enc)
theorem proved : Rows.FileKnownSaid := holds
#print axioms proved
end Go.Proofs.YtjjkppfnecgboaaGreat.fileKnown

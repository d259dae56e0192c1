/- The closed facts of the row of WriteKnown. No condition. -/
import Derived.Test.YtepedmjbppdekaaGreatDoorRows
import Derived.ProofKit
import Derived.OpenShut
set_option linter.unusedVariables false
namespace Go.Proofs.YtepedmjbppdekaaGreatDoor.writeKnown
open Go Go.ChangeShapes Go.WideShapes Go.ChangeAt Go.RowKit
set_option maxHeartbeats 20000000 in
theorem closed : joinedFacts Tryz.pinned.checked.prog 4 Tryz.f4 Rows.writeKnownSpec Rows.writeKnownRow = true := by
  unfold joinedFacts
  repeat' ((with_reducible apply Bool.and_eq_true_iff.2); apply And.intro)
  all_goals (as_aux_lemma => kernel_rfl)
end Go.Proofs.YtepedmjbppdekaaGreatDoor.writeKnown

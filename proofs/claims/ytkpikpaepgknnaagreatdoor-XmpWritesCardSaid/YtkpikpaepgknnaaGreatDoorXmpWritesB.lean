/- The closed facts of the row of XmpWrites. No condition. -/
import Derived.Test.YtkpikpaepgknnaaGreatDoorRows
import Derived.ProofKit
import Derived.OpenShut
set_option linter.unusedVariables false
namespace Go.Proofs.YtkpikpaepgknnaaGreatDoor.xmpWrites
open Go Go.ChangeShapes Go.WideShapes Go.ChangeAt Go.RowKit
set_option maxHeartbeats 20000000 in
theorem closed : joinedFacts Tryz.pinned.checked.prog 3 Tryz.f3 Rows.xmpWritesSpec Rows.xmpWritesRow = true := by
  unfold joinedFacts
  repeat' ((with_reducible apply Bool.and_eq_true_iff.2); apply And.intro)
  all_goals (as_aux_lemma => kernel_rfl)
end Go.Proofs.YtkpikpaepgknnaaGreatDoor.xmpWrites

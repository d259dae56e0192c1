/- The closed facts of the row of XmpBack. No condition. -/
import Derived.Test.YtkpikpaepgknnaaGreatDoorRows
import Derived.ProofKit
import Derived.OpenShut
set_option linter.unusedVariables false
namespace Go.Proofs.YtkpikpaepgknnaaGreatDoor.xmpBack
open Go Go.ChangeShapes Go.WideShapes Go.ChangeAt Go.RowKit
set_option maxHeartbeats 20000000 in
theorem closed : joinedFacts Tryz.pinned.checked.prog 4 Tryz.f4 Rows.xmpBackSpec Rows.xmpBackRow = true := by
  unfold joinedFacts
  repeat' ((with_reducible apply Bool.and_eq_true_iff.2); apply And.intro)
  all_goals (as_aux_lemma => kernel_rfl)
end Go.Proofs.YtkpikpaepgknnaaGreatDoor.xmpBack

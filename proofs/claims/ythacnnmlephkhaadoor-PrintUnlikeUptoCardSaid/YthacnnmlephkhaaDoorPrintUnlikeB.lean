/- The closed facts of the row of PrintUnlike. No condition. -/
import Derived.Test.YthacnnmlephkhaaDoorRows
import Derived.ProofKit
import Derived.OpenShut
set_option linter.unusedVariables false
namespace Go.Proofs.YthacnnmlephkhaaDoor.printUnlike
open Go Go.ChangeShapes Go.WideShapes Go.ChangeAt Go.RowKit
set_option maxHeartbeats 20000000 in
theorem closed : joinedFacts Tryd.pinned.checked.prog 3 Tryd.f3 (Rows.OpenSpec.upto Rows.printUnlikeSpec).bare Rows.printUnlikeUptoRow = true := by
  unfold joinedFacts
  repeat' ((with_reducible apply Bool.and_eq_true_iff.2); apply And.intro)
  all_goals (as_aux_lemma => kernel_rfl)
end Go.Proofs.YthacnnmlephkhaaDoor.printUnlike

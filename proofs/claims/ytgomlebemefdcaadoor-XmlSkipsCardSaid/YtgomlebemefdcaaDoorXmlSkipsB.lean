/- The closed facts of the row of XmlSkips. No condition. -/
import Derived.Test.YtgomlebemefdcaaDoorRows
import Derived.ProofKit
import Derived.OpenShut
set_option linter.unusedVariables false
namespace Go.Proofs.YtgomlebemefdcaaDoor.xmlSkips
open Go Go.ChangeShapes Go.WideShapes Go.ChangeAt Go.RowKit
set_option maxHeartbeats 20000000 in
theorem closed : joinedFacts Tryd.pinned.checked.prog 5 Tryd.f5 Rows.xmlSkipsSpec Rows.xmlSkipsRow = true := by
  unfold joinedFacts
  repeat' ((with_reducible apply Bool.and_eq_true_iff.2); apply And.intro)
  all_goals (as_aux_lemma => kernel_rfl)
end Go.Proofs.YtgomlebemefdcaaDoor.xmlSkips

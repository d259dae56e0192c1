/- The closed facts of the row of XmlSpaces. No condition. -/
import Derived.Test.YtgomlebemefdcaaDoorRows
import Derived.ProofKit
import Derived.OpenShut
set_option linter.unusedVariables false
namespace Go.Proofs.YtgomlebemefdcaaDoor.xmlSpaces
open Go Go.ChangeShapes Go.WideShapes Go.ChangeAt Go.RowKit
set_option maxHeartbeats 20000000 in
theorem closed : joinedFacts Tryd.pinned.checked.prog 4 Tryd.f4 Rows.xmlSpacesSpec Rows.xmlSpacesRow = true := by
  unfold joinedFacts
  repeat' ((with_reducible apply Bool.and_eq_true_iff.2); apply And.intro)
  all_goals (as_aux_lemma => kernel_rfl)
end Go.Proofs.YtgomlebemefdcaaDoor.xmlSpaces

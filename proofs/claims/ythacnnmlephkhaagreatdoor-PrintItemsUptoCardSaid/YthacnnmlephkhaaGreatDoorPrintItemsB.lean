/- The closed facts of the row of PrintItems. No condition. -/
import Derived.Test.YthacnnmlephkhaaGreatDoorRows
import Derived.ProofKit
import Derived.OpenShut
set_option linter.unusedVariables false
namespace Go.Proofs.YthacnnmlephkhaaGreatDoor.printItems
open Go Go.ChangeShapes Go.WideShapes Go.ChangeAt Go.RowKit
set_option maxHeartbeats 20000000 in
theorem closed : joinedFacts Tryz.pinned.checked.prog 5 Tryz.f5 (Rows.OpenSpec.upto Rows.printItemsSpec).bare Rows.printItemsUptoRow = true := by
 unfold joinedFacts
 repeat' ((with_reducible apply Bool.and_eq_true_iff.2); apply And.intro)
 all_goals (as_aux_lemma => kernel_rfl)
end Go.Proofs.YthacnnmlephkhaaGreatDoor.printItems

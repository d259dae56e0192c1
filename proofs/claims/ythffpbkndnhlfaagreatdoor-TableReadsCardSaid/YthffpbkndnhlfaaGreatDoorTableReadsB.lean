/- The closed facts of the row of TableReads. No condition. -/
import Derived.Test.YthffpbkndnhlfaaGreatDoorRows
import Derived.ProofKit
import Derived.OpenShut
set_option maxRecDepth 100000
set_option maxHeartbeats 32000000
set_option linter.unusedVariables false
namespace Go.Proofs.YthffpbkndnhlfaaGreatDoor.tableReads
open Go Go.ChangeShapes Go.WideShapes Go.ChangeAt Go.RowKit
theorem closed:joinedFacts Tryz.pinned.checked.prog 3 Tryz.f3 Rows.tableReadsSpec Rows.tableReadsRow=true:=by
 unfold joinedFacts
 repeat' ((with_reducible apply Bool.and_eq_true_iff.2);apply And.intro)
 all_goals (as_aux_lemma=>kernel_rfl)
end Go.Proofs.YthffpbkndnhlfaaGreatDoor.tableReads

/- The laid variables, said plainly. No condition. -/
import Derived.Test.YthffpbkndnhlfaaGreatDoorTrJL
import Derived.Test.YthffpbkndnhlfaaGreatDoorTrJA
import Derived.JoinedCond
import Derived.Test.YthffpbkndnhlfaaGreatDoorRows
import Derived.MakeChecks
import Derived.ProofKit
import Derived.OpenShut
set_option maxRecDepth 100000
set_option maxHeartbeats 32000000
set_option linter.unusedVariables false
namespace Go.Proofs.YthffpbkndnhlfaaGreatDoor.tableReads
open Go Go.ChangeShapes Go.WideShapes Go.ChangeAt Go.RowKit
theorem noHandle (w:World) (h:laidMetH Tryz.prog Rows.tableReadsRow.laid w):laidMet Tryz.prog Rows.tableReadsUptoRow.laid w:=by
 rw[MakeChecks.laidMetH_plain _ _ _ (by kernel_rfl)]at h;exact h
end Go.Proofs.YthffpbkndnhlfaaGreatDoor.tableReads

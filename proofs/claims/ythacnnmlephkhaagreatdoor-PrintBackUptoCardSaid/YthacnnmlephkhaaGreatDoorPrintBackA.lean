/- The first sentence answers true, in every world that grew from the laid one. No condition. -/
import Derived.Test.YthacnnmlephkhaaGreatDoorPrJJ
import Derived.Test.YthacnnmlephkhaaGreatDoorPrJA
import Derived.JoinedCond
import Derived.Test.YthacnnmlephkhaaGreatDoorRows
import Derived.MakeChecks
import Derived.ProofKit
import Derived.OpenShut
set_option linter.unusedVariables false
namespace Go.Proofs.YthacnnmlephkhaaGreatDoor.printBack
open Go Go.ChangeShapes Go.WideShapes Go.ChangeAt Go.RowKit
theorem noHandle (w : World) (h : laidMetH Tryz.prog Rows.printBackUptoRow.laid w) : laidMet Tryz.prog Rows.printBackUptoRow.laid w := by
 rw [MakeChecks.laidMetH_plain _ _ _ (by kernel_rfl)] at h; exact h
theorem awakeG (w : World) (hw : Tryz.prog.globals.size < w.heap.size) (h : laidMetH Tryz.prog Rows.printBackUptoRow.laid w) (w1 : World) (hb : Below w.heap.size w w1) : Calls Tryz.prog 7 #[] w1 fun e w' => e = .returned (.bool true) ∧ Below w1.heap.size w1 w' :=
 aw_walk w1 ((tab_of (noHandle w h)).below hb)
end Go.Proofs.YthacnnmlephkhaaGreatDoor.printBack

/- The closed call of awake answers true: its run. No condition. -/
import Derived.Test.YthacnnmlephkhaaDoorAmD
import Derived.Test.YthacnnmlephkhaaDoorAmD
import Derived.Test.YthacnnmlephkhaaDoorAmD
import Derived.JoinedCond
import Derived.Test.YthacnnmlephkhaaDoorRows
import Derived.MakeChecks
import Derived.ProofKit
import Derived.OpenShut
set_option linter.unusedVariables false
namespace Go.Proofs.YthacnnmlephkhaaDoor.printUnlike
open Go Go.ChangeShapes Go.WideShapes Go.ChangeAt Go.RowKit
def nmL : List Nat := [0, 0, 0, 263679, 7, 4722367063416213864911, 2063, 33571891, 332306999105807178144501361237059711, 541, 27, 541, 5, 5, 5, 7, 290340896522807, 36099166300045563, 68719738943, 285, 72093337032863039, 1005, 16883, 8693, 536872765, 69437, 3885, 31, 71, 5, 19, 15, 23, 4227315, 39, 19, 15, 19, 19, 2149585011, 5, 13, 5, 5, 7, 19, 66483, 0, 0, 66483, 17188391667, 5491, 65555, 66109, 32915, 67240563, 1005, 5, 19, 17708878880335823391667, 19, 21, 13, 2923003971560093291123168138537876760321514930163, 20426010943356750102455122975, 19, 281518060864637, 19, 19, 0, 702342826256273603086707106465568295829491, 5, 16661, 13, 5, 5, 5, 1037, 15663183516433892416764882583213662997805349754095402995, 0, 0, 5, 151115727469970589747187, 21, 21, 316912838952437276284744179709, 1037, 1107300861, 0, 0, 0, 0, 0, 0, 0, 0, 0, 0, 0, 0, 0, 0, 0, 0, 0, 0, 0, 0, 0, 0, 0, 0, 0, 0, 0, 0]
def nm (f : Nat) : Nat := nmL.getD f 0
theorem mixed : Tryd.prog.follows .mixedOrders = true := by kernel_rfl
set_option maxRecDepth 1000000 in
theorem ran : Am.isTrue (Am.run0 Tryd.prog nm 10000 100 4 [] Rows.printUnlikeUptoRow.laid) = true := by kernel_rfl
theorem noHandle (w : World) (h : laidMetH Tryd.prog Rows.printUnlikeUptoRow.laid w) : laidMet Tryd.prog Rows.printUnlikeUptoRow.laid w := by
  rw [MakeChecks.laidMetH_plain _ _ _ (by kernel_rfl)] at h; exact h
theorem awake (w : World) (hw : Tryd.prog.globals.size < w.heap.size) (h : laidMetH Tryd.prog Rows.printUnlikeUptoRow.laid w) : Calls Tryd.prog 4 #[] w fun e w' => e = .returned (.bool true) ∧ Below w.heap.size w w' :=
  Am.closed_true mixed ran Tryd.func4 (by kernel_rfl) w hw (noHandle w h)
theorem awakeG (w : World) (hw : Tryd.prog.globals.size < w.heap.size) (h : laidMetH Tryd.prog Rows.printUnlikeUptoRow.laid w) (w1 : World) (hb : Below w.heap.size w w1) : Calls Tryd.prog 4 #[] w1 fun e w' => e = .returned (.bool true) ∧ Below w1.heap.size w1 w' :=
  Am.closed_trueG mixed ran Tryd.func4 (by kernel_rfl) w w1 hw (noHandle w h) hb
end Go.Proofs.YthacnnmlephkhaaDoor.printUnlike

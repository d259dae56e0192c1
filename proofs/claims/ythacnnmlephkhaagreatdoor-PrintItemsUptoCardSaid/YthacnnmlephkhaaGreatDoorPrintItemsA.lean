/- The closed call of awake answers true: its run. No condition. -/
import Derived.Test.YthacnnmlephkhaaGreatDoorAmD
import Derived.Test.YthacnnmlephkhaaGreatDoorAmD
import Derived.Test.YthacnnmlephkhaaGreatDoorAmD
import Derived.JoinedCond
import Derived.Test.YthacnnmlephkhaaGreatDoorRows
import Derived.MakeChecks
import Derived.ProofKit
import Derived.OpenShut
set_option linter.unusedVariables false
namespace Go.Proofs.YthacnnmlephkhaaGreatDoor.printItems
open Go Go.ChangeShapes Go.WideShapes Go.ChangeAt Go.RowKit
def nmL : List Nat := [0, 0, 0, 263671, 373, 4479, 36893488147421218303, 7, 4722367063416213864911, 2063, 2063, 33571891, 536872765, 1073742909, 8693, 140737488355613, 51, 2216203124991, 2203318222911, 7, 4198583, 19, 614750145263706237, 332306999105807178144501361237059711, 541, 27, 541, 5, 5, 5, 7, 290340896522807, 9690296635621770751386495, 5, 1005, 13, 28677, 285, 5, 285, 539991, 16883, 5, 250039, 27, 5, 3885, 137439086835, 17527, 196002644665464931395739783135643847098487, 7, 68719738943, 967, 83, 13, 536870963, 604472133320093225452283, 36099166300045563, 72093337032863039, 69437, 5, 19, 1005, 5, 5, 7, 64426475695, 1, 19, 19, 2149585011, 17708878880335823391667, 67178351, 31, 32781, 5, 132173, 147573952589676953719, 36893488147557530655, 88893831294812528799973619, 17180393509, 16777287, 19, 17527, 1048589, 31, 71, 5, 19, 15, 23, 4227315, 39, 19, 15, 19, 21, 17188391667, 5491, 65555, 66109, 32915, 67240563, 0, 66483, 31, 31, 537399539, 21, 19, 65597, 199, 295148186654866408443, 17593293342707, 9671415789297370127142899, 4115, 19, 66483, 0, 0, 0, 21, 13, 2923003971560093291123168138537876760321514930163, 20426010943356750102455122975, 19, 281518060864637, 19, 19, 191564865612207667720391025139256626476870292903826035, 19, 5, 16661, 13, 5, 5, 5, 1037, 15663183516433892416764882583213662997805349754095402995, 0, 18014948267394301, 90147309247135869, 18033167554838781, 262387, 1037, 702342826256273603086707106465568295829491, 21, 21, 316912838952437276284744179709, 1037, 5, 0, 4198413, 3075958545628299453, 340287561874417531818397010382341292029, 151115727469970589747187, 1107300861, 0, 0, 0, 0, 0, 0, 0, 0, 0, 0, 0, 0, 0, 0, 0, 0, 0, 0, 0, 0, 0, 0, 0, 0, 0, 0, 0, 0]
def nm (f : Nat) : Nat := nmL.getD f 0
theorem mixed : Tryz.prog.follows .mixedOrders = true := by kernel_rfl
set_option maxRecDepth 1000000 in
theorem ran : Am.isTrue (Am.run0 Tryz.prog nm 10000 100 7 [] Rows.printItemsUptoRow.laid) = true := by kernel_rfl
theorem noHandle (w : World) (h : laidMetH Tryz.prog Rows.printItemsUptoRow.laid w) : laidMet Tryz.prog Rows.printItemsUptoRow.laid w := by
 rw [MakeChecks.laidMetH_plain _ _ _ (by kernel_rfl)] at h; exact h
theorem awake (w : World) (hw : Tryz.prog.globals.size < w.heap.size) (h : laidMetH Tryz.prog Rows.printItemsUptoRow.laid w) : Calls Tryz.prog 7 #[] w fun e w' => e = .returned (.bool true) ∧ Below w.heap.size w w' :=
 Am.closed_true mixed ran Tryz.func7 (by kernel_rfl) w hw (noHandle w h)
theorem awakeG (w : World) (hw : Tryz.prog.globals.size < w.heap.size) (h : laidMetH Tryz.prog Rows.printItemsUptoRow.laid w) (w1 : World) (hb : Below w.heap.size w w1) : Calls Tryz.prog 7 #[] w1 fun e w' => e = .returned (.bool true) ∧ Below w1.heap.size w1 w' :=
 Am.closed_trueG mixed ran Tryz.func7 (by kernel_rfl) w w1 hw (noHandle w h) hb
end Go.Proofs.YthacnnmlephkhaaGreatDoor.printItems

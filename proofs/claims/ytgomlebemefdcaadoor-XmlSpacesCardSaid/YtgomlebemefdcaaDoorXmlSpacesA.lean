/- The closed call of awake answers true: its run. No condition. -/
import Derived.Test.YtgomlebemefdcaaDoorAmD
import Derived.Test.YtgomlebemefdcaaDoorAmD
import Derived.Test.YtgomlebemefdcaaDoorRows
import Derived.MakeChecks
import Derived.ProofKit
import Derived.OpenShut
set_option linter.unusedVariables false
namespace Go.Proofs.YtgomlebemefdcaaDoor.xmlSpaces
open Go Go.ChangeShapes Go.WideShapes Go.ChangeAt Go.RowKit
def nmL : List Nat := [0, 0, 0, 19342815455705873036872701, 680564733841876945821115062736831158269, 10174193413177341, 24405, 576469548413227773, 7, 29, 1209001912724204296339583, 281474976841791, 69471, 2454259645, 2965, 2361332005499928840445, 5, 144115462953828573, 51, 5, 7, 10404955393597153145976807980556275, 1037, 5, 5, 524307, 262259, 21, 34079869, 524353, 2097459, 125, 1011, 19, 2097283, 5, 316912838952437276284744179709, 5, 21, 131101, 9444741981752891834355, 13, 0, 5, 115, 16371, 19, 19, 21, 525, 4210749, 590367877299130367987, 9016006622318579, 4194557, 17179869203, 1037, 0, 5, 32787, 141, 66579, 2166358525, 18451266493885824783, 8804716512243, 528445, 564049532223997, 562953174650867, 268501363, 7, 19, 15, 19, 69810262141, 5, 5, 19, 15, 66483, 35184405647613, 66483, 4198413, 0, 0, 0, 0, 0, 0, 0, 0, 0, 0, 0, 0, 0, 0, 0, 0, 0, 0, 0, 0, 0, 0, 0]
def nm (f : Nat) : Nat := nmL.getD f 0
theorem mixed : Tryd.prog.follows .mixedOrders = true := by kernel_rfl
set_option maxRecDepth 1000000 in
theorem ran : Am.isTrue (Am.run0 Tryd.prog nm 10000 100 8 [] Rows.xmlSpacesRow.laid) = true := by kernel_rfl
theorem noHandle (w : World) (h : laidMetH Tryd.prog Rows.xmlSpacesRow.laid w) : laidMet Tryd.prog Rows.xmlSpacesRow.laid w := by
  rw [MakeChecks.laidMetH_plain _ _ _ (by kernel_rfl)] at h; exact h
theorem awake (w : World) (hw : Tryd.prog.globals.size < w.heap.size) (h : laidMetH Tryd.prog Rows.xmlSpacesRow.laid w) : Calls Tryd.prog 8 #[] w fun e w' => e = .returned (.bool true) ∧ Below w.heap.size w w' :=
  Am.closed_true mixed ran Tryd.func8 (by kernel_rfl) w hw (noHandle w h)
theorem awakeG (w : World) (hw : Tryd.prog.globals.size < w.heap.size) (h : laidMetH Tryd.prog Rows.xmlSpacesRow.laid w) (w1 : World) (hb : Below w.heap.size w w1) : Calls Tryd.prog 8 #[] w1 fun e w' => e = .returned (.bool true) ∧ Below w1.heap.size w1 w' :=
  Am.closed_trueG mixed ran Tryd.func8 (by kernel_rfl) w w1 hw (noHandle w h) hb
end Go.Proofs.YtgomlebemefdcaaDoor.xmlSpaces

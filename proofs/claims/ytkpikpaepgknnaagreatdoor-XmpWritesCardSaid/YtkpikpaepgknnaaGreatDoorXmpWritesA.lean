/- The closed call of awake answers true: its run. No condition. -/
import Derived.Test.YtkpikpaepgknnaaGreatDoorAmD
import Derived.Test.YtkpikpaepgknnaaGreatDoorAmD
import Derived.Test.YtkpikpaepgknnaaGreatDoorRows
import Derived.MakeChecks
import Derived.ProofKit
import Derived.OpenShut
set_option linter.unusedVariables false
namespace Go.Proofs.YtkpikpaepgknnaaGreatDoor.xmpWrites
open Go Go.ChangeShapes Go.WideShapes Go.ChangeAt Go.RowKit
def nmL : List Nat := [0, 0, 0, 2429, 332306998946309248456162885509355517, 348449330649727893840290225107999664373711, 21879, 536969159, 31, 4722366553513267300509, 2021670621, 68719477885, 618970019930921647489490941, 33571891, 37314676395005, 17399, 79228314220287599780896475251, 68719477885, 2099, 288230376277548925, 562949985405309, 172819, 10889035761772252310816123097901181174781, 5192296858534975202483635761447037, 448428417907, 31, 1048699, 257698054591, 147574025157443846159, 151134174195906651361787, 21, 2361332005499928840445, 29, 17213685821, 33562687, 4214623, 75562189433356416743355, 66483, 31, 21, 137439086835, 5, 17179869203, 31481615, 9007199254750205, 19, 295220245352174129661, 5, 16777287, 8797167303711, 66483, 5, 33554909, 2965, 19, 15, 7, 2147618775, 31, 295147905181504570311, 311, 549755814173, 131213, 134218301, 1099511628061, 1037, 5, 144115462953828573, 1074793075, 21, 2105543, 19, 5, 2213897589590050479615, 32781, 5, 262259, 141, 19, 4115, 19, 5, 5, 7, 66483, 5, 17389, 604275, 0, 3, 2454259645, 67108883, 9197, 316912838952437276284744179709, 524307, 21, 34079869, 540691, 66109, 270483, 17039987, 101218289428364493977104185500852357152742950873023135088627, 807412019, 17181970547, 1075708287, 701, 21, 32787, 19, 2097459, 125, 5, 3, 10404955393597153145976807980556275, 51, 5, 10141207824146148996807101849597, 131101, 9444741981752891834355, 13, 19, 18259, 19, 0, 5, 19342813113979202331215859, 263219, 4951760157178675796790743027, 8211, 65555, 66109, 4243, 32915, 262771, 67240563, 69471, 0, 5, 525, 1011, 19, 2097283, 5, 524353, 525, 4210749, 590367877299130367987, 9016006622318579, 4194557, 0, 2214597117, 4429193725, 19, 19, 281518060864637, 1037, 115, 16371, 19, 19, 0, 5, 66579, 2166358525, 18451266493885824783, 8804716512243, 528445, 15663183516433892416764882583213662997805349754095402995, 5, 0, 564049532223997, 562953174650867, 268501363, 7, 19, 15, 19, 69810262141, 0, 19, 15, 66483, 35184405647613, 66483, 4198413, 0, 0, 0, 0, 0, 0, 0, 0, 0, 0, 0, 0, 0, 0, 0, 0, 0, 0, 0, 0, 0, 0, 0]
def nm (f : Nat) : Nat := nmL.getD f 0
theorem mixed : Tryz.prog.follows .mixedOrders = true := by kernel_rfl
set_option maxRecDepth 1000000 in
theorem ran0 : Am.isTrue (Am.run0I Tryz.prog nm 10000 100 8 [] Rows.xmpWritesRow.laid 2 (-9223372036854775808) (1)) = true := by kernel_rfl
set_option maxRecDepth 1000000 in
theorem ran1 : Am.isTrue (Am.run0I Tryz.prog nm 10000 100 8 [] Rows.xmpWritesRow.laid 2 (2) (9223372036854775807)) = true := by kernel_rfl
theorem noHandle (w : World) (h : laidMetH Tryz.prog Rows.xmpWritesRow.laid w) : laidMet Tryz.prog Rows.xmpWritesRow.laid w := by
  rw [MakeChecks.laidMetH_plain _ _ _ (by kernel_rfl)] at h; exact h
theorem someInt (w : World) (hsh : w.ShapedOpen Tryz.prog) : ∃ n, w.heap[2]? = some (.cells #[.int .i64 n] 3 (0, 0)) ∧ -9223372036854775808 ≤ n ∧ n ≤ 9223372036854775807 :=
  Am.int_of_shape hsh (zero := #[.int .i64 0]) (Nat.le_of_ble_eq_true (by kernel_rfl)) (by kernel_rfl) (by kernel_rfl) (by kernel_rfl) (by kernel_rfl) (by kernel_rfl)
theorem awakeG (w : World) (hsh : w.ShapedOpen Tryz.prog) (hw : Tryz.prog.globals.size < w.heap.size) (h : laidMetH Tryz.prog Rows.xmpWritesRow.laid w) (w1 : World) (hg : Below w.heap.size w w1) : Calls Tryz.prog 8 #[] w1 fun e w' => e = .returned (.bool true) ∧ Below w1.heap.size w1 w' := by
  obtain ⟨n, hn, h1, h2⟩ := someInt w hsh
  by_cases c0 : n ≤ 1
  · exact Am.closed_trueI mixed ran0 Tryz.func8 (by kernel_rfl) w w1 hw (noHandle w h) ⟨Nat.le_of_ble_eq_true (by kernel_rfl), n, 3, hn, by omega, c0⟩ hg
  exact Am.closed_trueI mixed ran1 Tryz.func8 (by kernel_rfl) w w1 hw (noHandle w h) ⟨Nat.le_of_ble_eq_true (by kernel_rfl), n, 3, hn, by omega, h2⟩ hg
end Go.Proofs.YtkpikpaepgknnaaGreatDoor.xmpWrites

/- What the row lays: the tables of signs, and some number. No condition. -/
import Derived.Test.YtkpikpaepgknnaaGreatDoorXkJL
import Derived.Test.YtkpikpaepgknnaaGreatDoorRows
import Derived.MakeChecks
import Derived.ProofKit
import Derived.OpenShut
set_option linter.unusedVariables false
namespace Go.Proofs.YtkpikpaepgknnaaGreatDoor.xmpBack
open Go Go.ChangeShapes Go.WideShapes Go.ChangeAt Go.RowKit Go.Wk
theorem noHandle (w : World) (h : laidMetH Tryz.prog Rows.xmpBackRow.laid w) : laidMet Tryz.prog Rows.xmpBackRow.laid w := by
  rw [MakeChecks.laidMetH_plain _ _ _ (by kernel_rfl)] at h; exact h
theorem tabs_back {w : World} (h : laidMet Tryz.prog Rows.xmpBackRow.laid w) : Lib.Utf8Tabs 0 1 w :=
  Go.Proofs.YtkpikpaepgknnaaGreatDoor.tabs_of h
theorem max_len (w : World) (hsh : w.ShapedOpen Tryz.prog) : ∃ n, w.cell? ⟨2, 0, none⟩ = some (.int .i64 n) := by
  obtain ⟨n, hn, _⟩ := Am.int_of_shape (P := Tryz.prog) (g := 2) (t := 3) hsh (zero := #[.int .i64 0]) (Nat.le_of_ble_eq_true (by kernel_rfl)) (by kernel_rfl) (by kernel_rfl) (by kernel_rfl) (by kernel_rfl) (by kernel_rfl)
  exact ⟨n, Blk.cell (g := 2) hn 0⟩
end Go.Proofs.YtkpikpaepgknnaaGreatDoor.xmpBack

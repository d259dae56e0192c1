/- Walks and laws, joined: part E. No condition. -/
import Derived.Test.YtgomlebemefdcaaDoorXbJD
import Derived.Test.YtgomlebemefdcaaDoorRows
import Derived.Lib.LaidU8T
set_option linter.unusedSimpArgs false
set_option linter.unusedVariables false
/- The tables that lie as the row says. No condition. -/
namespace Go.Proofs.YtgomlebemefdcaaDoor
open Go Go.RowKit Go.Wk Go.Xt
set_option maxRecDepth 100000 in
theorem tabs_of {w : World} (h : laidMet Tryd.prog Rows.xmlSpacesRow.laid w) : Lib.Utf8Tabs 0 1 w :=
  utf8Tabs_of_readsT (P := Tryd.prog) (ρ := ⟨fun n => n, fun | 5 => 5 | 119 => 95 | 138 => 97 | 139 => 98 | n => n, fun | 3 => 0 | 4 => 1 | n => n⟩) ⟨Tryd.underlying5, Tryd.underlying95, Tryd.underlying97, Tryd.underlying98⟩ ⟨by kernel_rfl, by kernel_rfl, by kernel_rfl, by kernel_rfl, by kernel_rfl, by kernel_rfl, by kernel_rfl⟩
    (Go.Lib.laidMet.reads h (List.mem_of_getElem? (i := 1) (by kernel_rfl))) (Go.Lib.laidMet.reads h (List.mem_of_getElem? (i := 0) (by kernel_rfl)))
theorem globs : Tryd.prog.globals.size = 3 := by kernel_rfl
end Go.Proofs.YtgomlebemefdcaaDoor

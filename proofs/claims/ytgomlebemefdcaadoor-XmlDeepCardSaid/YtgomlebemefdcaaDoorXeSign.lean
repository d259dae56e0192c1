/- Signs: next, and the function that is ranged over. No condition. -/
import Derived.Test.YtgomlebemefdcaaDoorXeTake
import Derived.Test.YtgomlebemefdcaaDoorXtWideP
import Derived.Test.YtgomlebemefdcaaDoorRangeB
import Derived.Shelf.Unicode.DecodeAny
import Derived.RangeFuncNested
import Derived.RangeFuncBound
import Derived.Shelf.Abstract
import Derived.Shelf.RegionOpen
import Derived.OwnWalkIn
import Derived.TacticsInMore
import Derived.LoopNIn
import Derived.LoopIn
set_option linter.unusedVariables false
namespace Go.Proofs.YtgomlebemefdcaaDoor
open Go Go.RowKit Go.Wk Go.Xt
attribute [local go_sem] Oper.semAt_some
set_option maxHeartbeats 1000000 in
set_option maxRecDepth 100000 in
theorem ref_sign {w : World} (x : Int) : Calls Tryd.prog 23 #[.int .i32 x] w fun e w' => e = .returned (.bool (signB x)) ∧ w = w' := by
  have h : signB x = (decide (x = 9) || decide (x = 10) || decide (x = 13) || (decide (32 ≤ x) && decide (x ≠ 65534) && decide (x ≠ 65535))) := rfl
  replace h := Lib.hid h
  generalize signB x = B at *
  go_enter Tryd.func23, Tryd.ntmps23
  go_wp2
  all_goals go_ret
  all_goals (refine ⟨congrArg (fun b => Ending.returned (.bool b)) ?_, rfl⟩; rw [h.out, Bool.eq_iff_iff]; simp; try omega)
set_option maxHeartbeats 1000000 in
set_option maxRecDepth 100000 in
theorem valid_rune {w : World} (x : Int) : Calls Tryd.prog 55 #[.int .i32 x] w fun e w' => e = .returned (.bool (validB x)) ∧ w = w' := by
  have h : validB x = ((decide (0 ≤ x) && decide (x < 55296)) || (decide (57343 < x) && decide (x ≤ 1114111))) := rfl
  replace h := Lib.hid h
  generalize validB x = B at *
  go_enter Tryd.func55, Tryd.ntmps55
  go_wp2
  all_goals go_ret
  all_goals (refine ⟨congrArg (fun b => Ending.returned (.bool b)) ?_, rfl⟩; rw [h.out, Bool.eq_iff_iff]; simp; try omega)
def signV (x : Int) : Bool := signB x && (decide (x < 32) || validB x)
set_option maxHeartbeats 1000000 in
set_option maxRecDepth 100000 in
theorem xml_sign {w : World} (x : Int) : Calls Tryd.prog 43 #[.int .i32 x] w fun e w' => e = .returned (.bool (signV x)) ∧ w = w' := by
  have h : signV x = ((decide (x = 9) || decide (x = 10) || decide (x = 13) || (decide (32 ≤ x) && decide (x ≠ 65534) && decide (x ≠ 65535))) && (decide (x < 32) || validB x)) := rfl
  have cv := valid_rune (w := w) x
  replace h := Lib.hid h
  generalize signV x = B at *
  generalize validB x = V at *
  go_enter Tryd.func43, Tryd.ntmps43
  go_wp2_with (go_at_call 55; (with_reducible refine cv.mono ?_); rintro e w1 ⟨rfl, rfl⟩)
  all_goals go_ret
  all_goals (refine ⟨congrArg (fun b => Ending.returned (.bool b)) ?_, rfl⟩; rw [h.out]; cases V <;> (rw [Bool.eq_iff_iff]; simp; try omega))
end Go.Proofs.YtgomlebemefdcaaDoor

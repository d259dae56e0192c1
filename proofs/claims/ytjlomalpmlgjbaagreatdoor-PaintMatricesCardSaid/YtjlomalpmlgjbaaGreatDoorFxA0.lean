/- Fixed: the contracts of the small functions. No condition. -/
import Derived.Test.YtjlomalpmlgjbaaGreatDoorFxShelf
import Derived.Test.YtjlomalpmlgjbaaGreatDoorKnuthD
import Derived.Test.YtjlomalpmlgjbaaGreatDoorWk
import Derived.Test.YtjlomalpmlgjbaaGreatDoorRows
import Derived.ProofKit
import Derived.Lib.Hide
import Derived.IntWalk
import Derived.Laws.BitsAllLaws
namespace Go.Proofs.YtjlomalpmlgjbaaGreatDoor
open Go Go.RowKit Go.Wk
def most : Int := 214748364799999
def isIn (n : Int) : Bool := decide (-214748364799999 ≤ n) && decide (n ≤ 214748364799999)
def i64 (n : Int) : Prop := -9223372036854775808 ≤ n ∧ n ≤ 9223372036854775807
set_option maxHeartbeats 400000 in
theorem fixed_In (n : Int) (w : World) : Calls Tryz.prog 41 #[.int .i64 n] w fun e w' => e = .returned (.bool (isIn n)) ∧ w = w' := by
  go_enter Tryz.func41, Tryz.ntmps41
  go_wp2
  · go_ret
    refine ⟨?_, rfl⟩
    rename_i h1
    simp [isIn, h1]
  · go_ret
    refine ⟨?_, rfl⟩
    rename_i h1
    have : decide (-214748364799999 ≤ n) = false := by simp; omega
    simp [isIn, this]
set_option maxHeartbeats 400000 in
theorem fixed_size (n : Int) (h : i64 n) (w : World) : Calls Tryz.prog 75 #[.int .i64 n] w fun e w' => e = .returned (.int .u64 (n.natAbs : Nat)) ∧ w = w' := by
  obtain ⟨h1, h2⟩ := h
  go_enter Tryz.func75, Tryz.ntmps75
  go_wp2
  · go_ret
    refine ⟨?_, rfl⟩
    simp [IntKind.wrap_u64]
    omega
  · go_ret
    refine ⟨?_, rfl⟩
    simp
    omega
end Go.Proofs.YtjlomalpmlgjbaaGreatDoor

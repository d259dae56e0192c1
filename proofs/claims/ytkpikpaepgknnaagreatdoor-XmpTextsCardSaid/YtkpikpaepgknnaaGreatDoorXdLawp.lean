/- The law of dates, without the program. No condition. -/
import Derived.Test.YtkpikpaepgknnaaGreatDoorXdPlain
set_option linter.unusedVariables false
namespace Go.Proofs.YtkpikpaepgknnaaGreatDoor
open Go Go.RowKit Go.Wk Go.Lib
theorem okp2 (n : Nat) (h : n < 100) (lo hi : Int) : okp [dg (n / 10), dg (n % 10)] lo hi = (decide (lo ≤ n) && decide ((n : Int) ≤ hi)) := by
  unfold okp
  rw [num2 n h]
  simp [dg_is (n / 10) (by omega), dg_is (n % 10) (by omega)]
theorem okp4 (n : Nat) (h : n < 10000) (lo hi : Int) : okp [dg (n / 1000), dg (n / 100 % 10), dg (n / 10 % 10), dg (n % 10)] lo hi = (decide (lo ≤ n) && decide ((n : Int) ≤ hi)) := by
  unfold okp
  rw [num4 n h]
  simp [dg_is (n / 1000) (by omega), dg_is (n / 100 % 10) (by omega), dg_is (n / 10 % 10) (by omega), dg_is (n % 10) (by omega)]
def numText (n0 n1 n2 n3 n4 n5 : Nat) : List UInt8 := [68, 58] ++ padL n0 4 ++ padL n1 2 ++ padL n2 2 ++ padL n3 2 ++ padL n4 2 ++ padL n5 2
def wantText (n0 n1 n2 n3 n4 n5 : Nat) : List UInt8 := padL n0 4 ++ [45] ++ padL n1 2 ++ [45] ++ padL n2 2 ++ [84] ++ padL n3 2 ++ [58] ++ padL n4 2 ++ [58] ++ padL n5 2
def inR (n0 n1 n2 n3 n4 n5 : Nat) : Bool := decide (n0 ≤ 9999) && decide (1 ≤ n1) && decide (n1 ≤ 12) && decide (1 ≤ n2) && decide (n2 ≤ 31) && decide (n3 ≤ 23) && decide (n4 ≤ 59) && decide (n5 ≤ 59)
section
variable (n0 n1 n2 n3 n4 n5 : Nat) (g0 : n0 < 10000) (g1 : n1 < 100) (g2 : n2 < 100) (g3 : n3 < 100) (g4 : n4 < 100) (g5 : n5 < 100) (z : List UInt8)
include g0 g1 g2 g3 g4 g5
theorem numText_eq : numText n0 n1 n2 n3 n4 n5 ++ z = dateL (dg (n0 / 1000)) (dg (n0 / 100 % 10)) (dg (n0 / 10 % 10)) (dg (n0 % 10)) (dg (n1 / 10)) (dg (n1 % 10)) (dg (n2 / 10)) (dg (n2 % 10)) (dg (n3 / 10)) (dg (n3 % 10)) (dg (n4 / 10)) (dg (n4 % 10)) (dg (n5 / 10)) (dg (n5 % 10)) z := by
  unfold numText
  rw [pad4 n0 g0, pad2 n1 g1, pad2 n2 g2, pad2 n3 g3, pad2 n4 g4, pad2 n5 g5]; rfl
theorem date_txt (zt : List UInt8) (zb : Bool) (hz : zoneS (numText n0 n1 n2 n3 n4 n5 ++ z) 16 = (zt, zb)) : dateS (numText n0 n1 n2 n3 n4 n5 ++ z) = if inR n0 n1 n2 n3 n4 n5 && zb then (wantText n0 n1 n2 n3 n4 n5 ++ zt, true) else ([], false) := by
  rw [numText_eq n0 n1 n2 n3 n4 n5 g0 g1 g2 g3 g4 g5] at hz ⊢
  rw [date_val, hz, okp4 n0 g0, okp2 n1 g1, okp2 n2 g2, okp2 n3 g3, okp2 n4 g4, okp2 n5 g5]
  have hi : (decide ((0 : Int) ≤ n0) && decide ((n0 : Int) ≤ 9999) && (decide ((1 : Int) ≤ n1) && decide ((n1 : Int) ≤ 12)) && (decide ((1 : Int) ≤ n2) && decide ((n2 : Int) ≤ 31)) && (decide ((0 : Int) ≤ n3) && decide ((n3 : Int) ≤ 23)) && (decide ((0 : Int) ≤ n4) && decide ((n4 : Int) ≤ 59)) && (decide ((0 : Int) ≤ n5) && decide ((n5 : Int) ≤ 59))) = inR n0 n1 n2 n3 n4 n5 := by
    unfold inR
    rw [Bool.eq_iff_iff]; simp; omega
  rw [hi]
  unfold wantText
  rw [pad4 n0 g0, pad2 n1 g1, pad2 n2 g2, pad2 n3 g3, pad2 n4 g4, pad2 n5 g5]; rfl
theorem txt_Z : zoneS (numText n0 n1 n2 n3 n4 n5 ++ [90]) 16 = ([90], true) := by rw [numText_eq n0 n1 n2 n3 n4 n5 g0 g1 g2 g3 g4 g5]; rfl
theorem txt_Z0 : zoneS (numText n0 n1 n2 n3 n4 n5 ++ [90, 48]) 16 = ([90], false) := by rw [numText_eq n0 n1 n2 n3 n4 n5 g0 g1 g2 g3 g4 g5]; rfl
theorem txt_s (h m : Nat) (gh : h ≤ 23) (gm : m ≤ 59) (sg : UInt8) (hs : sg = 43 ∨ sg = 45) (t : List UInt8) :
    zoneS (numText n0 n1 n2 n3 n4 n5 ++ ([sg] ++ padL h 2 ++ [39] ++ padL m 2 ++ t)) 16 = if t = [] ∨ t = [39] then ([sg] ++ padL h 2 ++ [58] ++ padL m 2, true) else ([], false) := by
  rw [numText_eq n0 n1 n2 n3 n4 n5 g0 g1 g2 g3 g4 g5, pad2 h (by omega), pad2 m (by omega)]
  exact zone_s _ _ _ _ _ _ _ _ _ _ _ _ _ _ _ _ _ _ sg hs t (by rw [okp2 h (by omega)]; simp; omega) (by rw [okp2 m (by omega)]; simp; omega)
end
end Go.Proofs.YtkpikpaepgknnaaGreatDoor

/- Paint: a point by a matrix, by the program and by the document. No condition. -/
import Derived.Test.YtjlomalpmlgjbaaGreatDoorPmDot
namespace Go.Proofs.YtjlomalpmlgjbaaGreatDoor
open Go Go.RowKit Go.Wk
abbrev mat (a : Nat → Int) : Array Value := #[.int .i64 (a 0), .int .i64 (a 1), .int .i64 (a 2), .int .i64 (a 3), .int .i64 (a 4), .int .i64 (a 5)]
def apB (a : Nat → Int) (x y : Int) : Bool := dotB (a 0) x (a 2) y (a 4) && dotB (a 1) x (a 3) y (a 5)
def apU (a : Nat → Int) (x y : Int) : Int := if apB a x y then dotN (a 0) x (a 2) y (a 4) else 0
def apV (a : Nat → Int) (x y : Int) : Int := if apB a x y then dotN (a 1) x (a 3) y (a 5) else 0
theorem box6 (w : World) (e : Nat) (c0 c1 c2 c3 c4 c5 : Value) (w' : World) (hb : Below (w.heap.size + 1) (w.alloc (.cells #[c0, c1, c2, c3, c4, c5] e)) w') :
    w'.cell? ⟨w.heap.size, 0, none⟩ = some c0 ∧ w'.cell? ⟨w.heap.size, 1, none⟩ = some c1 ∧ w'.cell? ⟨w.heap.size, 2, none⟩ = some c2 ∧ w'.cell? ⟨w.heap.size, 3, none⟩ = some c3 ∧ w'.cell? ⟨w.heap.size, 4, none⟩ = some c4 ∧ w'.cell? ⟨w.heap.size, 5, none⟩ = some c5 := by
  have key : ∀ i, w'.cell? ⟨w.heap.size, 0 + i, none⟩ = (#[c0, c1, c2, c3, c4, c5] : Array Value)[i]? := fun i => by
    rw [hb.cell (p := ⟨w.heap.size, 0 + i, none⟩) (show w.heap.size < w.heap.size + 1 by omega), alloc_cell]
  exact ⟨key 0, key 1, key 2, key 3, key 4, key 5⟩
theorem size_al (w : World) (o : Obj) : (w.alloc o).heap.size = w.heap.size + 1 := by show (w.heap.push _).size = _; simp
set_option maxHeartbeats 400000 in
theorem paint_Apply (a : Nat → Int) (x y : Int) (ha : ∀ i, i64 (a i)) (hx : i64 x) (hy : i64 y) (w : World) : Calls Tryz.prog 7 #[.agg (mat a), .int .i64 x, .int .i64 y] w fun r w' => r = .returned (.tuple #[.int .i64 (apU a x y), .int .i64 (apV a x y), .bool (apB a x y)]) ∧ Below w.heap.size w w' := by
  have c1 := fun w => paint_dot (a 0) x (a 2) y (a 4) (ha 0) hx (ha 2) hy w
  have c2 := fun w => paint_dot (a 1) x (a 3) y (a 5) (ha 1) hx (ha 3) hy w
  have hU := Lib.hid (show apU a x y = if (dotB (a 0) x (a 2) y (a 4) && dotB (a 1) x (a 3) y (a 5)) then dotN (a 0) x (a 2) y (a 4) else 0 from rfl)
  have hV := Lib.hid (show apV a x y = if (dotB (a 0) x (a 2) y (a 4) && dotB (a 1) x (a 3) y (a 5)) then dotN (a 1) x (a 3) y (a 5) else 0 from rfl)
  have hB := Lib.hid (show apB a x y = (dotB (a 0) x (a 2) y (a 4) && dotB (a 1) x (a 3) y (a 5)) from rfl)
  clear ha hx hy
  unfold mat
  generalize apU a x y = U at *
  generalize apV a x y = V at *
  generalize apB a x y = B at *
  generalize dotN (a 0) x (a 2) y (a 4) = n1 at *
  generalize dotB (a 0) x (a 2) y (a 4) = b1 at *
  generalize dotN (a 1) x (a 3) y (a 5) = n2 at *
  generalize dotB (a 1) x (a 3) y (a 5) = b2 at *
  generalize a 0 = a0 at *
  generalize a 1 = a1 at *
  generalize a 2 = a2 at *
  generalize a 3 = a3 at *
  generalize a 4 = a4 at *
  generalize a 5 = a5 at *
  have hbx := Lib.hid (box6 w 26 (.int .i64 a0) (.int .i64 a1) (.int .i64 a2) (.int .i64 a3) (.int .i64 a4) (.int .i64 a5))
  go_enter Tryz.func7, Tryz.ntmps7
  go_wp2_with (first
    | (go_at_call 13; (with_reducible refine (c1 _).mono ?_); rintro e w1 ⟨rfl, hw1⟩; rw [size_al] at hw1; obtain ⟨_, h1, _, h3, _, h5⟩ := hbx.out w1 hw1)
    | (go_at_call 13; (with_reducible refine (c2 _).mono ?_); rintro e w2 ⟨rfl, hw2⟩))
  all_goals
    go_ret3
    refine ⟨?_, ((Below.refl _ _).alloc (Nat.le_refl _) _).trans ((hw1.mono (by omega)).trans (hw2.mono (by have := hw1.size; rw [size_al] at this; omega)))⟩
    rw [hU.out, hV.out, hB.out]
    simp_all
set_option maxHeartbeats 400000 in
theorem ref_Apply (a : Nat → Int) (x y : Int) (w : World) : Calls Tryz.prog 8 #[.agg (mat a), .int .i64 x, .int .i64 y] w fun r w' => r = .returned (.tuple #[.int .i64 (apU a x y), .int .i64 (apV a x y), .bool (apB a x y)]) ∧ Below w.heap.size w w' := by
  have c1 := fun w => ref_sum (a 0) x (a 2) y (a 4) w
  have c2 := fun w => ref_sum (a 1) x (a 3) y (a 5) w
  have hU := Lib.hid (show apU a x y = if (dotB (a 0) x (a 2) y (a 4) && dotB (a 1) x (a 3) y (a 5)) then dotN (a 0) x (a 2) y (a 4) else 0 from rfl)
  have hV := Lib.hid (show apV a x y = if (dotB (a 0) x (a 2) y (a 4) && dotB (a 1) x (a 3) y (a 5)) then dotN (a 1) x (a 3) y (a 5) else 0 from rfl)
  have hB := Lib.hid (show apB a x y = (dotB (a 0) x (a 2) y (a 4) && dotB (a 1) x (a 3) y (a 5)) from rfl)
  unfold mat
  generalize apU a x y = U at *
  generalize apV a x y = V at *
  generalize apB a x y = B at *
  have hs1 := Lib.hid (show sumN (a 0) x (a 2) y (a 4) = if dotB (a 0) x (a 2) y (a 4) then dotN (a 0) x (a 2) y (a 4) else 0 from rfl)
  have hs2 := Lib.hid (show sumN (a 1) x (a 3) y (a 5) = if dotB (a 1) x (a 3) y (a 5) then dotN (a 1) x (a 3) y (a 5) else 0 from rfl)
  generalize sumN (a 0) x (a 2) y (a 4) = s1 at *
  generalize sumN (a 1) x (a 3) y (a 5) = s2 at *
  generalize dotN (a 0) x (a 2) y (a 4) = n1 at *
  generalize dotB (a 0) x (a 2) y (a 4) = b1 at *
  generalize dotN (a 1) x (a 3) y (a 5) = n2 at *
  generalize dotB (a 1) x (a 3) y (a 5) = b2 at *
  generalize a 0 = a0 at *
  generalize a 1 = a1 at *
  generalize a 2 = a2 at *
  generalize a 3 = a3 at *
  generalize a 4 = a4 at *
  generalize a 5 = a5 at *
  have hbx := Lib.hid (box6 w 23 (.int .i64 a0) (.int .i64 a1) (.int .i64 a2) (.int .i64 a3) (.int .i64 a4) (.int .i64 a5))
  go_enter Tryz.func8, Tryz.ntmps8
  go_wp2_with (first
    | (go_at_call 14; (with_reducible refine (c1 _).mono ?_); rintro e w1 ⟨rfl, hw1⟩; rw [size_al] at hw1; obtain ⟨_, h1, _, h3, _, h5⟩ := hbx.out w1 hw1)
    | (go_at_call 14; (with_reducible refine (c2 _).mono ?_); rintro e w2 ⟨rfl, hw2⟩))
  all_goals
    go_ret3
    refine ⟨?_, ((Below.refl _ _).alloc (Nat.le_refl _) _).trans ((hw1.mono (by omega)).trans (hw2.mono (by have := hw1.size; rw [size_al] at this; omega)))⟩
    have hs1 := hs1.out
    have hs2 := hs2.out
    rw [hU.out, hV.out, hB.out]
    simp_all
end Go.Proofs.YtjlomalpmlgjbaaGreatDoor

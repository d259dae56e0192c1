/- Paint: two matrices, by the document. No condition. -/
import Derived.Test.YtjlomalpmlgjbaaGreatDoorPmMul
set_option linter.unusedVariables false
namespace Go.Proofs.YtjlomalpmlgjbaaGreatDoor
open Go Go.RowKit Go.Wk
attribute [local go_sem ↓] Go.wp_at_zero Go.wp_at_succ
set_option maxRecDepth 100000 in
set_option maxHeartbeats 2000000 in
theorem ref_mat (a b : Nat → Int) (w : World) : Calls Tryz.prog 6 #[.agg (mat a), .agg (mat b)] w fun r w' => r = .returned (.tuple #[.agg (matR a b), .bool (okM a b)]) ∧ Below w.heap.size w w' := by
  generalize hR : matR a b = R
  generalize hO : okM a b = O
  replace hR := Lib.hid hR
  replace hO := Lib.hid hO
  go_enter Tryz.func6, Tryz.ntmps6
  go_wp2_with fail
  go_loopw [7] (fun i wr => ∃ (k : Nat) (z : Int), z = k ∧ k ≤ 3 ∧ i = .int .i64 z ∧ At a b w.heap.size 23 w wr (2 * k)) (fun i _ => (3 - (intOf i).toNat))
  case atStart => exact ⟨0, 0, rfl, by omega, rfl, at_start a b 23 w⟩
  case round =>
    obtain ⟨k, z, hz, hk, rfl, hat⟩ := hrel
    by_cases hlt : k < 3
    · have h6 : k = 0 ∨ k = 1 ∨ k = 2 := by omega
      replace hat := Lib.hid hat
      rcases h6 with rfl | rfl | rfl
      · obtain rfl : z = 0 := by simpa using hz
        clear hz hk hlt
        go_wp2_with fail
        go_loopw [8] (fun j wr => ∃ (jj : Nat) (z : Int), z = jj ∧ jj ≤ 2 ∧ j = .int .i64 z ∧ At a b w.heap.size 23 w wr (0 + jj)) (fun j _ => (2 - (intOf j).toNat))
        case atStart => exact ⟨0, 0, rfl, by omega, rfl, hat.out⟩
        case round =>
          clear hat
          obtain ⟨j, z2, hz2, hj, rfl, hat⟩ := hrel
          replace hat := Lib.hid hat
          have h6 : j = 0 ∨ j = 1 ∨ j = 2 := by omega
          rcases h6 with rfl | rfl | rfl
          · obtain rfl : z2 = 0 := by simpa using hz2
            clear hz2 hj
            have c := fun w => ref_sum (a 0) (b 0) (a 1) (b 2) 0 w
            have hsn := Lib.hid (show sumN (a 0) (b 0) (a 1) (b 2) 0 = if dotB (a 0) (b 0) (a 1) (b 2) 0 then dotN (a 0) (b 0) (a 1) (b 2) 0 else 0 from rfl)
            have e0 : wr.cell? ⟨w.heap.size, 0, none⟩ = some (.int .i64 (a 0)) := hat.out.b1.cell 0
            have e1 : wr.cell? ⟨w.heap.size, 1, none⟩ = some (.int .i64 (a 1)) := hat.out.b1.cell 1
            have f0 : wr.cell? ⟨w.heap.size + 1, 0, none⟩ = some (.int .i64 (b 0)) := hat.out.b2.cell 0
            have f2 : wr.cell? ⟨w.heap.size + 1, 2, none⟩ = some (.int .i64 (b 2)) := hat.out.b2.cell 2
            have g0 : wr.cell? ⟨w.heap.size + 1, 0, none⟩ = some (.int .i64 (b 0)) := hat.out.b2.cell 0
            generalize sumN (a 0) (b 0) (a 1) (b 2) 0 = Z at *
            generalize hX : dotN (a 0) (b 0) (a 1) (b 2) 0 = X at *
            generalize hY : dotB (a 0) (b 0) (a 1) (b 2) 0 = Y at *
            replace hX := Lib.hid (show mN a b 0 = X from hX)
            replace hY := Lib.hid (show mB a b 0 = Y from hY)
            have kp := Lib.hid fun (w1 : World) (h : Below wr.heap.size wr w1) => keep5 h e0 e1 f0 f2 g0
            have wr0 : IntKind.i64.wrap 0 = 0 := by decide
            have wr1 : IntKind.i64.wrap 1 = 1 := by decide
            have wr2 : IntKind.i64.wrap 2 = 2 := by decide
            have wr3 : IntKind.i64.wrap 3 = 3 := by decide
            have wr4 : IntKind.i64.wrap 4 = 4 := by decide
            have wr5 : IntKind.i64.wrap 5 = 5 := by decide
            go_wp2_with fail
            go_region_held3 (fun w' => w'.cell? ⟨w.heap.size, 0, none⟩ = some (.int .i64 (a 0)) ∧ w'.cell? ⟨w.heap.size, 1, none⟩ = some (.int .i64 (a 1)) ∧ w'.cell? ⟨w.heap.size + 1, 0, none⟩ = some (.int .i64 (b 0)) ∧ w'.cell? ⟨w.heap.size + 1, 2, none⟩ = some (.int .i64 (b 2)))
              (first | go_keep | exact ⟨k0, k1, k2, k3⟩)
              ((go_at_call 14; (with_reducible refine (c _).mono ?_); rintro e w1 ⟨rfl, hw1⟩; obtain ⟨k0, k1, k2, k3⟩ := kp.out _ ((Below.refl wr.heap.size wr).drew.trans hw1)))
            have hb1 : Below wr.heap.size wr w1 := (Below.refl wr.heap.size wr).drew.trans hw1
            have hat1 := Lib.hid (hat.out.move hb1)
            clear hw1 k0 k1 k2 k3 c e0 e1 f0 f2 g0 kp
            have q0 : w1.cell? ⟨w.heap.size + 1 + 1 + 1, 0, none⟩ = some (.int .i64 0) := hat1.out.b4.cell 0
            have q1 : w1.frozen? ⟨w.heap.size + 1 + 1 + 1, 0, none⟩ = false := hat1.out.b4.frozen 0
            have z0 : w1.cell? ⟨w.heap.size + 1 + 1, 0, none⟩ = some (.int .i64 0) := hat1.out.b3.cell 0
            have z1 : w1.cell? ⟨w.heap.size + 1 + 1, 1, none⟩ = some (.int .i64 0) := hat1.out.b3.cell 1
            have z2 : w1.cell? ⟨w.heap.size + 1 + 1, 2, none⟩ = some (.int .i64 0) := hat1.out.b3.cell 2
            have z3 : w1.cell? ⟨w.heap.size + 1 + 1, 3, none⟩ = some (.int .i64 0) := hat1.out.b3.cell 3
            have z4 : w1.cell? ⟨w.heap.size + 1 + 1, 4, none⟩ = some (.int .i64 0) := hat1.out.b3.cell 4
            have z5 : w1.cell? ⟨w.heap.size + 1 + 1, 5, none⟩ = some (.int .i64 0) := hat1.out.b3.cell 5
            have zf := hat1.out.b3.frozen
            cases Y with
            | true =>
              obtain rfl : Z = X := by rw [hsn.out]; rfl
              go_wp2_with fail
              refine ⟨⟨1, 1, by simp, by omega, rfl, ?_⟩, by simp [intOf]⟩
              have h := hat1.out.step (by omega) hY.out
              rw [hX.out] at h
              exact h
            | false =>
              go_wp2_with fail
              have hb0 := six_below hat1.out.b0 (g := w.heap.size + 1 + 1) (by omega) (.int .i64 0) (.int .i64 0) (.int .i64 0) (.int .i64 0) (.int .i64 0) (.int .i64 0)
              have hz := six_set hat1.out.b3 (.int .i64 0) (.int .i64 0) (.int .i64 0) (.int .i64 0) (.int .i64 0) (.int .i64 0)
              have hz : Blk _ (w.heap.size + 1 + 1) 23 _ := hz
              refine bp6 hz ?_
              intro w9 r0 r1 r2 r3 r4 r5 hw9
              refine bodyPost_ret (by simp [results, Tryz.results6, go_sem, r0, r1, r2, r3, r4, r5]; try rfl) rfl ⟨?_, by rw [hw9.out]; exact hb0⟩
              rw [← hR.out, ← hO.out, show okM a b = false by simp [okM, hY.out], matR, show okM a b = false by simp [okM, hY.out]]; rfl
          · obtain rfl : z2 = 1 := by simpa using hz2
            clear hz2 hj
            have c := fun w => ref_sum (a 0) (b 1) (a 1) (b 3) 0 w
            have hsn := Lib.hid (show sumN (a 0) (b 1) (a 1) (b 3) 0 = if dotB (a 0) (b 1) (a 1) (b 3) 0 then dotN (a 0) (b 1) (a 1) (b 3) 0 else 0 from rfl)
            have e0 : wr.cell? ⟨w.heap.size, 0, none⟩ = some (.int .i64 (a 0)) := hat.out.b1.cell 0
            have e1 : wr.cell? ⟨w.heap.size, 1, none⟩ = some (.int .i64 (a 1)) := hat.out.b1.cell 1
            have f0 : wr.cell? ⟨w.heap.size + 1, 1, none⟩ = some (.int .i64 (b 1)) := hat.out.b2.cell 1
            have f2 : wr.cell? ⟨w.heap.size + 1, 3, none⟩ = some (.int .i64 (b 3)) := hat.out.b2.cell 3
            have g0 : wr.cell? ⟨w.heap.size + 1, 1, none⟩ = some (.int .i64 (b 1)) := hat.out.b2.cell 1
            generalize sumN (a 0) (b 1) (a 1) (b 3) 0 = Z at *
            generalize hX : dotN (a 0) (b 1) (a 1) (b 3) 0 = X at *
            generalize hY : dotB (a 0) (b 1) (a 1) (b 3) 0 = Y at *
            replace hX := Lib.hid (show mN a b 1 = X from hX)
            replace hY := Lib.hid (show mB a b 1 = Y from hY)
            have kp := Lib.hid fun (w1 : World) (h : Below wr.heap.size wr w1) => keep5 h e0 e1 f0 f2 g0
            have wr0 : IntKind.i64.wrap 0 = 0 := by decide
            have wr1 : IntKind.i64.wrap 1 = 1 := by decide
            have wr2 : IntKind.i64.wrap 2 = 2 := by decide
            have wr3 : IntKind.i64.wrap 3 = 3 := by decide
            have wr4 : IntKind.i64.wrap 4 = 4 := by decide
            have wr5 : IntKind.i64.wrap 5 = 5 := by decide
            go_wp2_with fail
            go_region_held3 (fun w' => w'.cell? ⟨w.heap.size, 0, none⟩ = some (.int .i64 (a 0)) ∧ w'.cell? ⟨w.heap.size, 1, none⟩ = some (.int .i64 (a 1)) ∧ w'.cell? ⟨w.heap.size + 1, 1, none⟩ = some (.int .i64 (b 1)) ∧ w'.cell? ⟨w.heap.size + 1, 3, none⟩ = some (.int .i64 (b 3)))
              (first | go_keep | exact ⟨k0, k1, k2, k3⟩)
              ((go_at_call 14; (with_reducible refine (c _).mono ?_); rintro e w1 ⟨rfl, hw1⟩; obtain ⟨k0, k1, k2, k3⟩ := kp.out _ ((Below.refl wr.heap.size wr).drew.trans hw1)))
            have hb1 : Below wr.heap.size wr w1 := (Below.refl wr.heap.size wr).drew.trans hw1
            have hat1 := Lib.hid (hat.out.move hb1)
            clear hw1 k0 k1 k2 k3 c e0 e1 f0 f2 g0 kp
            have q0 : w1.cell? ⟨w.heap.size + 1 + 1 + 1, 1, none⟩ = some (.int .i64 0) := hat1.out.b4.cell 1
            have q1 : w1.frozen? ⟨w.heap.size + 1 + 1 + 1, 1, none⟩ = false := hat1.out.b4.frozen 1
            have z0 : w1.cell? ⟨w.heap.size + 1 + 1, 0, none⟩ = some (.int .i64 0) := hat1.out.b3.cell 0
            have z1 : w1.cell? ⟨w.heap.size + 1 + 1, 1, none⟩ = some (.int .i64 0) := hat1.out.b3.cell 1
            have z2 : w1.cell? ⟨w.heap.size + 1 + 1, 2, none⟩ = some (.int .i64 0) := hat1.out.b3.cell 2
            have z3 : w1.cell? ⟨w.heap.size + 1 + 1, 3, none⟩ = some (.int .i64 0) := hat1.out.b3.cell 3
            have z4 : w1.cell? ⟨w.heap.size + 1 + 1, 4, none⟩ = some (.int .i64 0) := hat1.out.b3.cell 4
            have z5 : w1.cell? ⟨w.heap.size + 1 + 1, 5, none⟩ = some (.int .i64 0) := hat1.out.b3.cell 5
            have zf := hat1.out.b3.frozen
            cases Y with
            | true =>
              obtain rfl : Z = X := by rw [hsn.out]; rfl
              go_wp2_with fail
              refine ⟨⟨2, 2, by simp, by omega, rfl, ?_⟩, by simp [intOf]⟩
              have h := hat1.out.step (by omega) hY.out
              rw [hX.out] at h
              exact h
            | false =>
              go_wp2_with fail
              have hb0 := six_below hat1.out.b0 (g := w.heap.size + 1 + 1) (by omega) (.int .i64 0) (.int .i64 0) (.int .i64 0) (.int .i64 0) (.int .i64 0) (.int .i64 0)
              have hz := six_set hat1.out.b3 (.int .i64 0) (.int .i64 0) (.int .i64 0) (.int .i64 0) (.int .i64 0) (.int .i64 0)
              have hz : Blk _ (w.heap.size + 1 + 1) 23 _ := hz
              refine bp6 hz ?_
              intro w9 r0 r1 r2 r3 r4 r5 hw9
              refine bodyPost_ret (by simp [results, Tryz.results6, go_sem, r0, r1, r2, r3, r4, r5]; try rfl) rfl ⟨?_, by rw [hw9.out]; exact hb0⟩
              rw [← hR.out, ← hO.out, show okM a b = false by simp [okM, hY.out], matR, show okM a b = false by simp [okM, hY.out]]; rfl
          · obtain rfl : z2 = 2 := by simpa using hz2
            clear hz2 hj
            go_wp2_with fail
            exact ⟨⟨1, 1, by simp, by omega, rfl, hat.out⟩, by simp [intOf]⟩
      · obtain rfl : z = 1 := by simpa using hz
        clear hz hk hlt
        go_wp2_with fail
        go_loopw [8] (fun j wr => ∃ (jj : Nat) (z : Int), z = jj ∧ jj ≤ 2 ∧ j = .int .i64 z ∧ At a b w.heap.size 23 w wr (2 + jj)) (fun j _ => (2 - (intOf j).toNat))
        case atStart => exact ⟨0, 0, rfl, by omega, rfl, hat.out⟩
        case round =>
          clear hat
          obtain ⟨j, z2, hz2, hj, rfl, hat⟩ := hrel
          replace hat := Lib.hid hat
          have h6 : j = 0 ∨ j = 1 ∨ j = 2 := by omega
          rcases h6 with rfl | rfl | rfl
          · obtain rfl : z2 = 0 := by simpa using hz2
            clear hz2 hj
            have c := fun w => ref_sum (a 2) (b 0) (a 3) (b 2) 0 w
            have hsn := Lib.hid (show sumN (a 2) (b 0) (a 3) (b 2) 0 = if dotB (a 2) (b 0) (a 3) (b 2) 0 then dotN (a 2) (b 0) (a 3) (b 2) 0 else 0 from rfl)
            have e0 : wr.cell? ⟨w.heap.size, 2, none⟩ = some (.int .i64 (a 2)) := hat.out.b1.cell 2
            have e1 : wr.cell? ⟨w.heap.size, 3, none⟩ = some (.int .i64 (a 3)) := hat.out.b1.cell 3
            have f0 : wr.cell? ⟨w.heap.size + 1, 0, none⟩ = some (.int .i64 (b 0)) := hat.out.b2.cell 0
            have f2 : wr.cell? ⟨w.heap.size + 1, 2, none⟩ = some (.int .i64 (b 2)) := hat.out.b2.cell 2
            have g0 : wr.cell? ⟨w.heap.size + 1, 2, none⟩ = some (.int .i64 (b 2)) := hat.out.b2.cell 2
            generalize sumN (a 2) (b 0) (a 3) (b 2) 0 = Z at *
            generalize hX : dotN (a 2) (b 0) (a 3) (b 2) 0 = X at *
            generalize hY : dotB (a 2) (b 0) (a 3) (b 2) 0 = Y at *
            replace hX := Lib.hid (show mN a b 2 = X from hX)
            replace hY := Lib.hid (show mB a b 2 = Y from hY)
            have kp := Lib.hid fun (w1 : World) (h : Below wr.heap.size wr w1) => keep5 h e0 e1 f0 f2 g0
            have wr0 : IntKind.i64.wrap 0 = 0 := by decide
            have wr1 : IntKind.i64.wrap 1 = 1 := by decide
            have wr2 : IntKind.i64.wrap 2 = 2 := by decide
            have wr3 : IntKind.i64.wrap 3 = 3 := by decide
            have wr4 : IntKind.i64.wrap 4 = 4 := by decide
            have wr5 : IntKind.i64.wrap 5 = 5 := by decide
            go_wp2_with fail
            go_region_held3 (fun w' => w'.cell? ⟨w.heap.size, 2, none⟩ = some (.int .i64 (a 2)) ∧ w'.cell? ⟨w.heap.size, 3, none⟩ = some (.int .i64 (a 3)) ∧ w'.cell? ⟨w.heap.size + 1, 0, none⟩ = some (.int .i64 (b 0)) ∧ w'.cell? ⟨w.heap.size + 1, 2, none⟩ = some (.int .i64 (b 2)))
              (first | go_keep | exact ⟨k0, k1, k2, k3⟩)
              ((go_at_call 14; (with_reducible refine (c _).mono ?_); rintro e w1 ⟨rfl, hw1⟩; obtain ⟨k0, k1, k2, k3⟩ := kp.out _ ((Below.refl wr.heap.size wr).drew.trans hw1)))
            have hb1 : Below wr.heap.size wr w1 := (Below.refl wr.heap.size wr).drew.trans hw1
            have hat1 := Lib.hid (hat.out.move hb1)
            clear hw1 k0 k1 k2 k3 c e0 e1 f0 f2 g0 kp
            have q0 : w1.cell? ⟨w.heap.size + 1 + 1 + 1, 2, none⟩ = some (.int .i64 0) := hat1.out.b4.cell 2
            have q1 : w1.frozen? ⟨w.heap.size + 1 + 1 + 1, 2, none⟩ = false := hat1.out.b4.frozen 2
            have z0 : w1.cell? ⟨w.heap.size + 1 + 1, 0, none⟩ = some (.int .i64 0) := hat1.out.b3.cell 0
            have z1 : w1.cell? ⟨w.heap.size + 1 + 1, 1, none⟩ = some (.int .i64 0) := hat1.out.b3.cell 1
            have z2 : w1.cell? ⟨w.heap.size + 1 + 1, 2, none⟩ = some (.int .i64 0) := hat1.out.b3.cell 2
            have z3 : w1.cell? ⟨w.heap.size + 1 + 1, 3, none⟩ = some (.int .i64 0) := hat1.out.b3.cell 3
            have z4 : w1.cell? ⟨w.heap.size + 1 + 1, 4, none⟩ = some (.int .i64 0) := hat1.out.b3.cell 4
            have z5 : w1.cell? ⟨w.heap.size + 1 + 1, 5, none⟩ = some (.int .i64 0) := hat1.out.b3.cell 5
            have zf := hat1.out.b3.frozen
            cases Y with
            | true =>
              obtain rfl : Z = X := by rw [hsn.out]; rfl
              go_wp2_with fail
              refine ⟨⟨1, 1, by simp, by omega, rfl, ?_⟩, by simp [intOf]⟩
              have h := hat1.out.step (by omega) hY.out
              rw [hX.out] at h
              exact h
            | false =>
              go_wp2_with fail
              have hb0 := six_below hat1.out.b0 (g := w.heap.size + 1 + 1) (by omega) (.int .i64 0) (.int .i64 0) (.int .i64 0) (.int .i64 0) (.int .i64 0) (.int .i64 0)
              have hz := six_set hat1.out.b3 (.int .i64 0) (.int .i64 0) (.int .i64 0) (.int .i64 0) (.int .i64 0) (.int .i64 0)
              have hz : Blk _ (w.heap.size + 1 + 1) 23 _ := hz
              refine bp6 hz ?_
              intro w9 r0 r1 r2 r3 r4 r5 hw9
              refine bodyPost_ret (by simp [results, Tryz.results6, go_sem, r0, r1, r2, r3, r4, r5]; try rfl) rfl ⟨?_, by rw [hw9.out]; exact hb0⟩
              rw [← hR.out, ← hO.out, show okM a b = false by simp [okM, hY.out], matR, show okM a b = false by simp [okM, hY.out]]; rfl
          · obtain rfl : z2 = 1 := by simpa using hz2
            clear hz2 hj
            have c := fun w => ref_sum (a 2) (b 1) (a 3) (b 3) 0 w
            have hsn := Lib.hid (show sumN (a 2) (b 1) (a 3) (b 3) 0 = if dotB (a 2) (b 1) (a 3) (b 3) 0 then dotN (a 2) (b 1) (a 3) (b 3) 0 else 0 from rfl)
            have e0 : wr.cell? ⟨w.heap.size, 2, none⟩ = some (.int .i64 (a 2)) := hat.out.b1.cell 2
            have e1 : wr.cell? ⟨w.heap.size, 3, none⟩ = some (.int .i64 (a 3)) := hat.out.b1.cell 3
            have f0 : wr.cell? ⟨w.heap.size + 1, 1, none⟩ = some (.int .i64 (b 1)) := hat.out.b2.cell 1
            have f2 : wr.cell? ⟨w.heap.size + 1, 3, none⟩ = some (.int .i64 (b 3)) := hat.out.b2.cell 3
            have g0 : wr.cell? ⟨w.heap.size + 1, 3, none⟩ = some (.int .i64 (b 3)) := hat.out.b2.cell 3
            generalize sumN (a 2) (b 1) (a 3) (b 3) 0 = Z at *
            generalize hX : dotN (a 2) (b 1) (a 3) (b 3) 0 = X at *
            generalize hY : dotB (a 2) (b 1) (a 3) (b 3) 0 = Y at *
            replace hX := Lib.hid (show mN a b 3 = X from hX)
            replace hY := Lib.hid (show mB a b 3 = Y from hY)
            have kp := Lib.hid fun (w1 : World) (h : Below wr.heap.size wr w1) => keep5 h e0 e1 f0 f2 g0
            have wr0 : IntKind.i64.wrap 0 = 0 := by decide
            have wr1 : IntKind.i64.wrap 1 = 1 := by decide
            have wr2 : IntKind.i64.wrap 2 = 2 := by decide
            have wr3 : IntKind.i64.wrap 3 = 3 := by decide
            have wr4 : IntKind.i64.wrap 4 = 4 := by decide
            have wr5 : IntKind.i64.wrap 5 = 5 := by decide
            go_wp2_with fail
            go_region_held3 (fun w' => w'.cell? ⟨w.heap.size, 2, none⟩ = some (.int .i64 (a 2)) ∧ w'.cell? ⟨w.heap.size, 3, none⟩ = some (.int .i64 (a 3)) ∧ w'.cell? ⟨w.heap.size + 1, 1, none⟩ = some (.int .i64 (b 1)) ∧ w'.cell? ⟨w.heap.size + 1, 3, none⟩ = some (.int .i64 (b 3)))
              (first | go_keep | exact ⟨k0, k1, k2, k3⟩)
              ((go_at_call 14; (with_reducible refine (c _).mono ?_); rintro e w1 ⟨rfl, hw1⟩; obtain ⟨k0, k1, k2, k3⟩ := kp.out _ ((Below.refl wr.heap.size wr).drew.trans hw1)))
            have hb1 : Below wr.heap.size wr w1 := (Below.refl wr.heap.size wr).drew.trans hw1
            have hat1 := Lib.hid (hat.out.move hb1)
            clear hw1 k0 k1 k2 k3 c e0 e1 f0 f2 g0 kp
            have q0 : w1.cell? ⟨w.heap.size + 1 + 1 + 1, 3, none⟩ = some (.int .i64 0) := hat1.out.b4.cell 3
            have q1 : w1.frozen? ⟨w.heap.size + 1 + 1 + 1, 3, none⟩ = false := hat1.out.b4.frozen 3
            have z0 : w1.cell? ⟨w.heap.size + 1 + 1, 0, none⟩ = some (.int .i64 0) := hat1.out.b3.cell 0
            have z1 : w1.cell? ⟨w.heap.size + 1 + 1, 1, none⟩ = some (.int .i64 0) := hat1.out.b3.cell 1
            have z2 : w1.cell? ⟨w.heap.size + 1 + 1, 2, none⟩ = some (.int .i64 0) := hat1.out.b3.cell 2
            have z3 : w1.cell? ⟨w.heap.size + 1 + 1, 3, none⟩ = some (.int .i64 0) := hat1.out.b3.cell 3
            have z4 : w1.cell? ⟨w.heap.size + 1 + 1, 4, none⟩ = some (.int .i64 0) := hat1.out.b3.cell 4
            have z5 : w1.cell? ⟨w.heap.size + 1 + 1, 5, none⟩ = some (.int .i64 0) := hat1.out.b3.cell 5
            have zf := hat1.out.b3.frozen
            cases Y with
            | true =>
              obtain rfl : Z = X := by rw [hsn.out]; rfl
              go_wp2_with fail
              refine ⟨⟨2, 2, by simp, by omega, rfl, ?_⟩, by simp [intOf]⟩
              have h := hat1.out.step (by omega) hY.out
              rw [hX.out] at h
              exact h
            | false =>
              go_wp2_with fail
              have hb0 := six_below hat1.out.b0 (g := w.heap.size + 1 + 1) (by omega) (.int .i64 0) (.int .i64 0) (.int .i64 0) (.int .i64 0) (.int .i64 0) (.int .i64 0)
              have hz := six_set hat1.out.b3 (.int .i64 0) (.int .i64 0) (.int .i64 0) (.int .i64 0) (.int .i64 0) (.int .i64 0)
              have hz : Blk _ (w.heap.size + 1 + 1) 23 _ := hz
              refine bp6 hz ?_
              intro w9 r0 r1 r2 r3 r4 r5 hw9
              refine bodyPost_ret (by simp [results, Tryz.results6, go_sem, r0, r1, r2, r3, r4, r5]; try rfl) rfl ⟨?_, by rw [hw9.out]; exact hb0⟩
              rw [← hR.out, ← hO.out, show okM a b = false by simp [okM, hY.out], matR, show okM a b = false by simp [okM, hY.out]]; rfl
          · obtain rfl : z2 = 2 := by simpa using hz2
            clear hz2 hj
            go_wp2_with fail
            exact ⟨⟨2, 2, by simp, by omega, rfl, hat.out⟩, by simp [intOf]⟩
      · obtain rfl : z = 2 := by simpa using hz
        clear hz hk hlt
        go_wp2_with fail
        go_loopw [8] (fun j wr => ∃ (jj : Nat) (z : Int), z = jj ∧ jj ≤ 2 ∧ j = .int .i64 z ∧ At a b w.heap.size 23 w wr (4 + jj)) (fun j _ => (2 - (intOf j).toNat))
        case atStart => exact ⟨0, 0, rfl, by omega, rfl, hat.out⟩
        case round =>
          clear hat
          obtain ⟨j, z2, hz2, hj, rfl, hat⟩ := hrel
          replace hat := Lib.hid hat
          have h6 : j = 0 ∨ j = 1 ∨ j = 2 := by omega
          rcases h6 with rfl | rfl | rfl
          · obtain rfl : z2 = 0 := by simpa using hz2
            clear hz2 hj
            have c := fun w => ref_sum (a 4) (b 0) (a 5) (b 2) (b 4) w
            have hsn := Lib.hid (show sumN (a 4) (b 0) (a 5) (b 2) (b 4) = if dotB (a 4) (b 0) (a 5) (b 2) (b 4) then dotN (a 4) (b 0) (a 5) (b 2) (b 4) else 0 from rfl)
            have e0 : wr.cell? ⟨w.heap.size, 4, none⟩ = some (.int .i64 (a 4)) := hat.out.b1.cell 4
            have e1 : wr.cell? ⟨w.heap.size, 5, none⟩ = some (.int .i64 (a 5)) := hat.out.b1.cell 5
            have f0 : wr.cell? ⟨w.heap.size + 1, 0, none⟩ = some (.int .i64 (b 0)) := hat.out.b2.cell 0
            have f2 : wr.cell? ⟨w.heap.size + 1, 2, none⟩ = some (.int .i64 (b 2)) := hat.out.b2.cell 2
            have g0 : wr.cell? ⟨w.heap.size + 1, 4, none⟩ = some (.int .i64 (b 4)) := hat.out.b2.cell 4
            generalize sumN (a 4) (b 0) (a 5) (b 2) (b 4) = Z at *
            generalize hX : dotN (a 4) (b 0) (a 5) (b 2) (b 4) = X at *
            generalize hY : dotB (a 4) (b 0) (a 5) (b 2) (b 4) = Y at *
            replace hX := Lib.hid (show mN a b 4 = X from hX)
            replace hY := Lib.hid (show mB a b 4 = Y from hY)
            have kp := Lib.hid fun (w1 : World) (h : Below wr.heap.size wr w1) => keep5 h e0 e1 f0 f2 g0
            have wr0 : IntKind.i64.wrap 0 = 0 := by decide
            have wr1 : IntKind.i64.wrap 1 = 1 := by decide
            have wr2 : IntKind.i64.wrap 2 = 2 := by decide
            have wr3 : IntKind.i64.wrap 3 = 3 := by decide
            have wr4 : IntKind.i64.wrap 4 = 4 := by decide
            have wr5 : IntKind.i64.wrap 5 = 5 := by decide
            go_wp2_with fail
            go_region_held3 (fun w' => w'.cell? ⟨w.heap.size, 4, none⟩ = some (.int .i64 (a 4)) ∧ w'.cell? ⟨w.heap.size, 5, none⟩ = some (.int .i64 (a 5)) ∧ w'.cell? ⟨w.heap.size + 1, 0, none⟩ = some (.int .i64 (b 0)) ∧ w'.cell? ⟨w.heap.size + 1, 2, none⟩ = some (.int .i64 (b 2)))
              (first | go_keep | exact ⟨k0, k1, k2, k3⟩)
              ((go_at_call 14; (with_reducible refine (c _).mono ?_); rintro e w1 ⟨rfl, hw1⟩; obtain ⟨k0, k1, k2, k3⟩ := kp.out _ ((Below.refl wr.heap.size wr).drew.trans hw1)))
            have hb1 : Below wr.heap.size wr w1 := (Below.refl wr.heap.size wr).drew.trans hw1
            have hat1 := Lib.hid (hat.out.move hb1)
            clear hw1 k0 k1 k2 k3 c e0 e1 f0 f2 g0 kp
            have q0 : w1.cell? ⟨w.heap.size + 1 + 1 + 1, 4, none⟩ = some (.int .i64 0) := hat1.out.b4.cell 4
            have q1 : w1.frozen? ⟨w.heap.size + 1 + 1 + 1, 4, none⟩ = false := hat1.out.b4.frozen 4
            have z0 : w1.cell? ⟨w.heap.size + 1 + 1, 0, none⟩ = some (.int .i64 0) := hat1.out.b3.cell 0
            have z1 : w1.cell? ⟨w.heap.size + 1 + 1, 1, none⟩ = some (.int .i64 0) := hat1.out.b3.cell 1
            have z2 : w1.cell? ⟨w.heap.size + 1 + 1, 2, none⟩ = some (.int .i64 0) := hat1.out.b3.cell 2
            have z3 : w1.cell? ⟨w.heap.size + 1 + 1, 3, none⟩ = some (.int .i64 0) := hat1.out.b3.cell 3
            have z4 : w1.cell? ⟨w.heap.size + 1 + 1, 4, none⟩ = some (.int .i64 0) := hat1.out.b3.cell 4
            have z5 : w1.cell? ⟨w.heap.size + 1 + 1, 5, none⟩ = some (.int .i64 0) := hat1.out.b3.cell 5
            have zf := hat1.out.b3.frozen
            cases Y with
            | true =>
              obtain rfl : Z = X := by rw [hsn.out]; rfl
              go_wp2_with fail
              refine ⟨⟨1, 1, by simp, by omega, rfl, ?_⟩, by simp [intOf]⟩
              have h := hat1.out.step (by omega) hY.out
              rw [hX.out] at h
              exact h
            | false =>
              go_wp2_with fail
              have hb0 := six_below hat1.out.b0 (g := w.heap.size + 1 + 1) (by omega) (.int .i64 0) (.int .i64 0) (.int .i64 0) (.int .i64 0) (.int .i64 0) (.int .i64 0)
              have hz := six_set hat1.out.b3 (.int .i64 0) (.int .i64 0) (.int .i64 0) (.int .i64 0) (.int .i64 0) (.int .i64 0)
              have hz : Blk _ (w.heap.size + 1 + 1) 23 _ := hz
              refine bp6 hz ?_
              intro w9 r0 r1 r2 r3 r4 r5 hw9
              refine bodyPost_ret (by simp [results, Tryz.results6, go_sem, r0, r1, r2, r3, r4, r5]; try rfl) rfl ⟨?_, by rw [hw9.out]; exact hb0⟩
              rw [← hR.out, ← hO.out, show okM a b = false by simp [okM, hY.out], matR, show okM a b = false by simp [okM, hY.out]]; rfl
          · obtain rfl : z2 = 1 := by simpa using hz2
            clear hz2 hj
            have c := fun w => ref_sum (a 4) (b 1) (a 5) (b 3) (b 5) w
            have hsn := Lib.hid (show sumN (a 4) (b 1) (a 5) (b 3) (b 5) = if dotB (a 4) (b 1) (a 5) (b 3) (b 5) then dotN (a 4) (b 1) (a 5) (b 3) (b 5) else 0 from rfl)
            have e0 : wr.cell? ⟨w.heap.size, 4, none⟩ = some (.int .i64 (a 4)) := hat.out.b1.cell 4
            have e1 : wr.cell? ⟨w.heap.size, 5, none⟩ = some (.int .i64 (a 5)) := hat.out.b1.cell 5
            have f0 : wr.cell? ⟨w.heap.size + 1, 1, none⟩ = some (.int .i64 (b 1)) := hat.out.b2.cell 1
            have f2 : wr.cell? ⟨w.heap.size + 1, 3, none⟩ = some (.int .i64 (b 3)) := hat.out.b2.cell 3
            have g0 : wr.cell? ⟨w.heap.size + 1, 5, none⟩ = some (.int .i64 (b 5)) := hat.out.b2.cell 5
            generalize sumN (a 4) (b 1) (a 5) (b 3) (b 5) = Z at *
            generalize hX : dotN (a 4) (b 1) (a 5) (b 3) (b 5) = X at *
            generalize hY : dotB (a 4) (b 1) (a 5) (b 3) (b 5) = Y at *
            replace hX := Lib.hid (show mN a b 5 = X from hX)
            replace hY := Lib.hid (show mB a b 5 = Y from hY)
            have kp := Lib.hid fun (w1 : World) (h : Below wr.heap.size wr w1) => keep5 h e0 e1 f0 f2 g0
            have wr0 : IntKind.i64.wrap 0 = 0 := by decide
            have wr1 : IntKind.i64.wrap 1 = 1 := by decide
            have wr2 : IntKind.i64.wrap 2 = 2 := by decide
            have wr3 : IntKind.i64.wrap 3 = 3 := by decide
            have wr4 : IntKind.i64.wrap 4 = 4 := by decide
            have wr5 : IntKind.i64.wrap 5 = 5 := by decide
            go_wp2_with fail
            go_region_held3 (fun w' => w'.cell? ⟨w.heap.size, 4, none⟩ = some (.int .i64 (a 4)) ∧ w'.cell? ⟨w.heap.size, 5, none⟩ = some (.int .i64 (a 5)) ∧ w'.cell? ⟨w.heap.size + 1, 1, none⟩ = some (.int .i64 (b 1)) ∧ w'.cell? ⟨w.heap.size + 1, 3, none⟩ = some (.int .i64 (b 3)))
              (first | go_keep | exact ⟨k0, k1, k2, k3⟩)
              ((go_at_call 14; (with_reducible refine (c _).mono ?_); rintro e w1 ⟨rfl, hw1⟩; obtain ⟨k0, k1, k2, k3⟩ := kp.out _ ((Below.refl wr.heap.size wr).drew.trans hw1)))
            have hb1 : Below wr.heap.size wr w1 := (Below.refl wr.heap.size wr).drew.trans hw1
            have hat1 := Lib.hid (hat.out.move hb1)
            clear hw1 k0 k1 k2 k3 c e0 e1 f0 f2 g0 kp
            have q0 : w1.cell? ⟨w.heap.size + 1 + 1 + 1, 5, none⟩ = some (.int .i64 0) := hat1.out.b4.cell 5
            have q1 : w1.frozen? ⟨w.heap.size + 1 + 1 + 1, 5, none⟩ = false := hat1.out.b4.frozen 5
            have z0 : w1.cell? ⟨w.heap.size + 1 + 1, 0, none⟩ = some (.int .i64 0) := hat1.out.b3.cell 0
            have z1 : w1.cell? ⟨w.heap.size + 1 + 1, 1, none⟩ = some (.int .i64 0) := hat1.out.b3.cell 1
            have z2 : w1.cell? ⟨w.heap.size + 1 + 1, 2, none⟩ = some (.int .i64 0) := hat1.out.b3.cell 2
            have z3 : w1.cell? ⟨w.heap.size + 1 + 1, 3, none⟩ = some (.int .i64 0) := hat1.out.b3.cell 3
            have z4 : w1.cell? ⟨w.heap.size + 1 + 1, 4, none⟩ = some (.int .i64 0) := hat1.out.b3.cell 4
            have z5 : w1.cell? ⟨w.heap.size + 1 + 1, 5, none⟩ = some (.int .i64 0) := hat1.out.b3.cell 5
            have zf := hat1.out.b3.frozen
            cases Y with
            | true =>
              obtain rfl : Z = X := by rw [hsn.out]; rfl
              go_wp2_with fail
              refine ⟨⟨2, 2, by simp, by omega, rfl, ?_⟩, by simp [intOf]⟩
              have h := hat1.out.step (by omega) hY.out
              rw [hX.out] at h
              exact h
            | false =>
              go_wp2_with fail
              have hb0 := six_below hat1.out.b0 (g := w.heap.size + 1 + 1) (by omega) (.int .i64 0) (.int .i64 0) (.int .i64 0) (.int .i64 0) (.int .i64 0) (.int .i64 0)
              have hz := six_set hat1.out.b3 (.int .i64 0) (.int .i64 0) (.int .i64 0) (.int .i64 0) (.int .i64 0) (.int .i64 0)
              have hz : Blk _ (w.heap.size + 1 + 1) 23 _ := hz
              refine bp6 hz ?_
              intro w9 r0 r1 r2 r3 r4 r5 hw9
              refine bodyPost_ret (by simp [results, Tryz.results6, go_sem, r0, r1, r2, r3, r4, r5]; try rfl) rfl ⟨?_, by rw [hw9.out]; exact hb0⟩
              rw [← hR.out, ← hO.out, show okM a b = false by simp [okM, hY.out], matR, show okM a b = false by simp [okM, hY.out]]; rfl
          · obtain rfl : z2 = 2 := by simpa using hz2
            clear hz2 hj
            go_wp2_with fail
            exact ⟨⟨3, 3, by simp, by omega, rfl, hat.out⟩, by simp [intOf]⟩
    · obtain rfl : k = 3 := by omega
      obtain rfl : z = 3 := by simpa using hz
      clear hz hk hlt
      replace hat := Lib.hid hat
      have q0 : wr.cell? ⟨w.heap.size + 1 + 1 + 1, 0, none⟩ = some (.int .i64 (mN a b 0)) := hat.out.b4.cell 0
      have z0 : wr.cell? ⟨w.heap.size + 1 + 1, 0, none⟩ = some (.int .i64 0) := hat.out.b3.cell 0
      have q1 : wr.cell? ⟨w.heap.size + 1 + 1 + 1, 1, none⟩ = some (.int .i64 (mN a b 1)) := hat.out.b4.cell 1
      have z1 : wr.cell? ⟨w.heap.size + 1 + 1, 1, none⟩ = some (.int .i64 0) := hat.out.b3.cell 1
      have q2 : wr.cell? ⟨w.heap.size + 1 + 1 + 1, 2, none⟩ = some (.int .i64 (mN a b 2)) := hat.out.b4.cell 2
      have z2 : wr.cell? ⟨w.heap.size + 1 + 1, 2, none⟩ = some (.int .i64 0) := hat.out.b3.cell 2
      have q3 : wr.cell? ⟨w.heap.size + 1 + 1 + 1, 3, none⟩ = some (.int .i64 (mN a b 3)) := hat.out.b4.cell 3
      have z3 : wr.cell? ⟨w.heap.size + 1 + 1, 3, none⟩ = some (.int .i64 0) := hat.out.b3.cell 3
      have q4 : wr.cell? ⟨w.heap.size + 1 + 1 + 1, 4, none⟩ = some (.int .i64 (mN a b 4)) := hat.out.b4.cell 4
      have z4 : wr.cell? ⟨w.heap.size + 1 + 1, 4, none⟩ = some (.int .i64 0) := hat.out.b3.cell 4
      have q5 : wr.cell? ⟨w.heap.size + 1 + 1 + 1, 5, none⟩ = some (.int .i64 (mN a b 5)) := hat.out.b4.cell 5
      have z5 : wr.cell? ⟨w.heap.size + 1 + 1, 5, none⟩ = some (.int .i64 0) := hat.out.b3.cell 5
      have zf := hat.out.b3.frozen
      have hok : okM a b = true := by simp [okM, hat.out.ok 0, hat.out.ok 1, hat.out.ok 2, hat.out.ok 3, hat.out.ok 4, hat.out.ok 5]
      have hO1 : O = true := by rw [← hO.out]; exact hok
      have hR1 := Lib.hid (show R = #[.int .i64 (mN a b 0), .int .i64 (mN a b 1), .int .i64 (mN a b 2), .int .i64 (mN a b 3), .int .i64 (mN a b 4), .int .i64 (mN a b 5)] by rw [← hR.out, matR, hok]; rfl)
      subst hO1
      replace hok := Lib.hid hok
      clear hR
      generalize mN a b 0 = m0 at *
      generalize mN a b 1 = m1 at *
      generalize mN a b 2 = m2 at *
      generalize mN a b 3 = m3 at *
      generalize mN a b 4 = m4 at *
      generalize mN a b 5 = m5 at *
      go_wp2_with fail
      have hb0 := six_below hat.out.b0 (g := w.heap.size + 1 + 1) (by omega) (.int .i64 m0) (.int .i64 m1) (.int .i64 m2) (.int .i64 m3) (.int .i64 m4) (.int .i64 m5)
      have hz := six_set hat.out.b3 (.int .i64 m0) (.int .i64 m1) (.int .i64 m2) (.int .i64 m3) (.int .i64 m4) (.int .i64 m5)
      have hz : Blk _ (w.heap.size + 1 + 1) 23 _ := hz
      refine bp6 hz ?_
      intro w9 r0 r1 r2 r3 r4 r5 hw9
      exact bodyPost_ret (by simp [results, Tryz.results6, go_sem, r0, r1, r2, r3, r4, r5]; try rfl) rfl ⟨by rw [hR1.out], by rw [hw9.out]; exact hb0⟩
end Go.Proofs.YtjlomalpmlgjbaaGreatDoor

/- Paint: the law of matrices, walked. No condition. -/
import Derived.Test.YtjlomalpmlgjbaaGreatDoorPmRmul
import Derived.ChangeKeysEq
set_option linter.unusedVariables false
namespace Go.Proofs.YtjlomalpmlgjbaaGreatDoor
open Go Go.RowKit Go.Wk
attribute [local go_sem ↓] Go.wp_at_zero Go.wp_at_succ
theorem info2 : (Tryz.prog.info? 2).isSome = true := by kernel_rfl
theorem cells2' : Tryz.prog.cellsOf 2 = 1 := by kernel_rfl
theorem eq_one (d : Nat) (n : Int) (w : World) : (Op.equalIn (d + 1) 2 (.int .i64 n) (.int .i64 n)).run Tryz.prog w = .ok true w := by
  simp [Op.equalIn, run_underlying Tryz.underlying2]
theorem part_at (cs : Array Value) (off : Nat) (v : Value) (h : cs[off]? = some v) (w : World) : (Go.part 2 cs off).run Tryz.prog w = .ok v w := by
  simp [Go.part, isAgg, run_underlying Tryz.underlying2, h]
theorem eq_same6d (d : Nat) (r0 r1 r2 r3 r4 r5 : Int) (w : World) : (Op.equalIn (d + 1 + 1) 23 (.agg #[.int .i64 r0, .int .i64 r1, .int .i64 r2, .int .i64 r3, .int .i64 r4, .int .i64 r5]) (.agg #[.int .i64 r0, .int .i64 r1, .int .i64 r2, .int .i64 r3, .int .i64 r4, .int .i64 r5])).run Tryz.prog w = .ok true w := by
  obtain ⟨i, hi⟩ := Option.isSome_iff_exists.1 info2
  rw [run_equalIn_array w (d + 1) _ _ Tryz.underlying23 hi]
  rw [cells2', show List.range 6 = [0, 1, 2, 3, 4, 5] from rfl]
  simp [Op.eqItems, part_at, eq_one]
theorem eq_same6 (r0 r1 r2 r3 r4 r5 : Int) (w : World) : (Op.equalIn 10000 23 (.agg #[.int .i64 r0, .int .i64 r1, .int .i64 r2, .int .i64 r3, .int .i64 r4, .int .i64 r5]) (.agg #[.int .i64 r0, .int .i64 r1, .int .i64 r2, .int .i64 r3, .int .i64 r4, .int .i64 r5])).run Tryz.prog w = .ok true w := eq_same6d 9998 r0 r1 r2 r3 r4 r5 w
def oneM (i : Nat) : Int := if i = 0 ∨ i = 3 then 100000 else 0
theorem ref_One (w : World) : Calls Tryz.prog 9 #[] w fun r w' => r = .returned (.agg (mat oneM)) ∧ Below w.heap.size w w' := by
  go_enter Tryz.func9, Tryz.ntmps9
  go_wp2_with fail
  have hz := Blk.new w 23 #[.int .i64 100000, .int .i64 0, .int .i64 0, .int .i64 100000, .int .i64 0, .int .i64 0]
  have hb := (Below.refl w.heap.size w).alloc (Nat.le_refl _) (.cells #[.int .i64 100000, .int .i64 0, .int .i64 0, .int .i64 100000, .int .i64 0, .int .i64 0] 23)
  refine bp6 hz ?_
  intro w9 r0 r1 r2 r3 r4 r5 hw9
  exact bodyPost_ret (by simp [results, Tryz.results9, go_sem, r0, r1, r2, r3, r4, r5]; try rfl) rfl ⟨by rfl, by rw [hw9.out]; exact hb⟩
theorem scaled_in {x c : Int} (h : (scaledS x c 100000).2 = true) : isIn x = true := by
  unfold scaledS at h
  split at h
  · rename_i h2; simp only [Bool.and_eq_true] at h2; exact h2.1.1.1
  · cases h
theorem scaled_zero (x : Int) : (scaledS x 0 100000).1 = 0 := by
  unfold scaledS
  split
  · simp
  · rfl
theorem dot_left {x y : Int} (h : dotB x 100000 y 0 0 = true) : dotN x 100000 y 0 0 = x := by
  unfold dotB at h
  unfold dotN
  simp only [Bool.and_eq_true] at h
  have hx := scaled_in h.1.1
  rw [scaled_one x hx, scaled_zero]
  have h0 : isIn 0 = true := by decide
  simp [addF, hx, h0]
theorem dot_right {x y : Int} (h : dotB x 0 y 100000 0 = true) : dotN x 0 y 100000 0 = y := by
  unfold dotB at h
  unfold dotN
  simp only [Bool.and_eq_true] at h
  have hy := scaled_in h.1.2
  rw [scaled_one y hy, scaled_zero]
  have h0 : isIn 0 = true := by decide
  simp [addF, hy, h0]
theorem by_one {a : Nat → Int} (h : okM a oneM = true) : matR a oneM = mat a := by
  unfold matR
  rw [if_pos h]
  simp only [okM, Bool.and_eq_true] at h
  obtain ⟨⟨⟨⟨⟨h0, h1⟩, h2⟩, h3⟩, h4⟩, h5⟩ := h
  have e0 : mN a oneM 0 = a 0 := dot_left h0
  have e1 : mN a oneM 1 = a 1 := dot_right h1
  have e2 : mN a oneM 2 = a 2 := dot_left h2
  have e3 : mN a oneM 3 = a 3 := dot_right h3
  have e4 : mN a oneM 4 = a 4 := dot_left h4
  have e5 : mN a oneM 5 = a 5 := dot_right h5
  simp only [mat, e0, e1, e2, e3, e4, e5]
theorem mat_six (a b : Nat → Int) : ∃ r : Nat → Int, matR a b = mat r := by
  unfold matR
  split
  · exact ⟨_, rfl⟩
  · exact ⟨fun _ => 0, rfl⟩
theorem six_far {w : World} {g n t : Nat} {cs : Array Value} (h : Blk w g t cs) (hn : g ≠ n) (v0 v1 v2 v3 v4 v5 : Value) : Blk ((((((w.setCell ⟨n, 0, none⟩ v0).setCell ⟨n, 1, none⟩ v1).setCell ⟨n, 2, none⟩ v2).setCell ⟨n, 3, none⟩ v3).setCell ⟨n, 4, none⟩ v4).setCell ⟨n, 5, none⟩ v5) g t cs :=
  (((((h.far hn _).far hn _).far hn _).far hn _).far hn _).far hn _
theorem al_le {B : Nat} {w : World} {o : Obj} (h : B ≤ w.heap.size) : B ≤ (w.alloc o).heap.size := by rw [size_al]; omega
theorem mv {w w' : World} {g t : Nat} {cs : Array Value} (h : Blk w g t cs) (hb : Below w.heap.size w w') : Blk w' g t cs := h.below hb h.lt
theorem cells6 {w : World} {g t : Nat} {c0 c1 c2 c3 c4 c5 : Value} (h : Blk w g t #[c0, c1, c2, c3, c4, c5]) : w.cell? ⟨g, 0, none⟩ = some c0 ∧ w.cell? ⟨g, 1, none⟩ = some c1 ∧ w.cell? ⟨g, 2, none⟩ = some c2 ∧ w.cell? ⟨g, 3, none⟩ = some c3 ∧ w.cell? ⟨g, 4, none⟩ = some c4 ∧ w.cell? ⟨g, 5, none⟩ = some c5 :=
  ⟨h.cell 0, h.cell 1, h.cell 2, h.cell 3, h.cell 4, h.cell 5⟩
theorem cells2 {w : World} {g t : Nat} {c0 c1 : Value} (h : Blk w g t #[c0, c1]) : w.cell? ⟨g, 0, none⟩ = some c0 ∧ w.cell? ⟨g, 1, none⟩ = some c1 := ⟨h.cell 0, h.cell 1⟩
set_option maxRecDepth 100000 in
set_option maxHeartbeats 2000000 in
theorem matrices_law (a b : Nat → Int) (x y : Int) (ha : ∀ i, i64 (a i)) (hb : ∀ i, i64 (b i)) (hx : i64 x) (hy : i64 y) (w : World)
    (haw : ∀ w1, Below w.heap.size w w1 → Calls Tryz.prog 4 #[] w1 fun e w' => e = .returned (.bool true) ∧ Below w1.heap.size w1 w') :
    Calls Tryz.prog 3 #[.agg (mat a), .agg (mat b), .agg #[.int .i64 x, .int .i64 y]] w fun e w' => e = .returned (.bool true) ∧ Below w.heap.size w w' := by
  replace haw := Lib.hid haw
  have c5 := fun w => paint_Mul a b ha hb w
  have c6 := fun w => ref_mat a b w
  have c7 := fun w => paint_Apply a x y ha hx hy w
  have c8 := fun w => ref_Apply a x y w
  have c9 := fun w => ref_One w
  have c5' := fun w => paint_Mul a oneM ha (fun i => by unfold oneM i64; split <;> omega) w
  have hone := Lib.hid (by_one (a := a))
  clear ha hb hx hy
  obtain ⟨r, hr⟩ := mat_six a b
  rw [hr] at c5 c6
  clear hr
  obtain ⟨q, hq⟩ := mat_six a oneM
  rw [hq] at c5' hone
  clear hq
  generalize okM a b = B at *
  generalize apU a x y = U at *
  generalize apV a x y = V at *
  generalize apB a x y = D at *
  generalize okM a oneM = O at *
  unfold mat at *
  generalize a 0 = a0 at *
  generalize b 0 = b0 at *
  generalize r 0 = r0 at *
  generalize q 0 = q0 at *
  generalize a 1 = a1 at *
  generalize b 1 = b1 at *
  generalize r 1 = r1 at *
  generalize q 1 = q1 at *
  generalize a 2 = a2 at *
  generalize b 2 = b2 at *
  generalize r 2 = r2 at *
  generalize q 2 = q2 at *
  generalize a 3 = a3 at *
  generalize b 3 = b3 at *
  generalize r 3 = r3 at *
  generalize q 3 = q3 at *
  generalize a 4 = a4 at *
  generalize b 4 = b4 at *
  generalize r 4 = r4 at *
  generalize q 4 = q4 at *
  generalize a 5 = a5 at *
  generalize b 5 = b5 at *
  generalize r 5 = r5 at *
  generalize q 5 = q5 at *
  clear a b r q
  have A0 := Lib.hid (((Blk.new w 23 #[.int .i64 a0, .int .i64 a1, .int .i64 a2, .int .i64 a3, .int .i64 a4, .int .i64 a5]).alloc (.cells #[.int .i64 b0, .int .i64 b1, .int .i64 b2, .int .i64 b3, .int .i64 b4, .int .i64 b5] 23)).alloc (.cells #[.int .i64 x, .int .i64 y] 24))
  have B0 := (Blk.new (w.alloc (.cells #[.int .i64 a0, .int .i64 a1, .int .i64 a2, .int .i64 a3, .int .i64 a4, .int .i64 a5] 23)) 23 #[.int .i64 b0, .int .i64 b1, .int .i64 b2, .int .i64 b3, .int .i64 b4, .int .i64 b5]).alloc (.cells #[.int .i64 x, .int .i64 y] 24)
  rw [size_al] at B0
  replace B0 := Lib.hid B0
  have X0 := Blk.new ((w.alloc (.cells #[.int .i64 a0, .int .i64 a1, .int .i64 a2, .int .i64 a3, .int .i64 a4, .int .i64 a5] 23)).alloc (.cells #[.int .i64 b0, .int .i64 b1, .int .i64 b2, .int .i64 b3, .int .i64 b4, .int .i64 b5] 23)) 24 #[.int .i64 x, .int .i64 y]
  rw [size_al, size_al] at X0
  replace X0 := Lib.hid X0
  have W0 := Lib.hid ((((Below.refl w.heap.size w).alloc (Nat.le_refl _) (.cells #[.int .i64 a0, .int .i64 a1, .int .i64 a2, .int .i64 a3, .int .i64 a4, .int .i64 a5] 23)).alloc (by rw [size_al]; omega) (.cells #[.int .i64 b0, .int .i64 b1, .int .i64 b2, .int .i64 b3, .int .i64 b4, .int .i64 b5] 23)).alloc (by rw [size_al, size_al]; omega) (.cells #[.int .i64 x, .int .i64 y] 24))
  go_enter Tryz.func3, Tryz.ntmps3
  go_wp2_with (first
    | (go_at_call 4; (with_reducible refine (haw.out _ W0.out).mono ?_); rintro e w1 ⟨rfl, hw1⟩; have A1 := Lib.hid (mv A0.out hw1); have B1 := Lib.hid (mv B0.out hw1); have X1 := Lib.hid (mv X0.out hw1); have W1 := Lib.hid (W0.out.trans (hw1.mono (by rw [size_al, size_al, size_al]; omega))); obtain ⟨s10, s11, s12, s13, s14, s15⟩ := cells6 A1.out; obtain ⟨t10, t11, t12, t13, t14, t15⟩ := cells6 B1.out; obtain ⟨v10, v11⟩ := cells2 X1.out; clear hw1 A0 B0 X0 haw W0)
    | (go_at_call 5; (with_reducible refine (c5 _).mono ?_); rintro e w2 ⟨rfl, hw2⟩; have A2 := Lib.hid (mv A1.out hw2); have X2 := Lib.hid (mv X1.out hw2); have B2 := Lib.hid (mv B1.out hw2); have W2 := Lib.hid (W1.out.trans (hw2.mono W1.out.size)); obtain ⟨s20, s21, s22, s23, s24, s25⟩ := cells6 A2.out; obtain ⟨t20, t21, t22, t23, t24, t25⟩ := cells6 B2.out; obtain ⟨v20, v21⟩ := cells2 X2.out; have l2 := A2.out.lt; have m2 := B2.out.lt; have n2 := X2.out.lt; clear hw2 A1 B1 X1 W1 s10 s11 s12 s13 s14 s15 t10 t11 t12 t13 t14 t15 v10 v11)
    | (go_at_call 6; (with_reducible refine (c6 _).mono ?_); rintro e w3 ⟨rfl, hw3⟩; have A3 := Lib.hid (mv (A2.out.alloc _) hw3); have X3 := Lib.hid (mv (X2.out.alloc _) hw3); have R3 := Lib.hid (mv (Blk.new w2 26 _) hw3); have W3 := Lib.hid ((W2.out.alloc W2.out.size _).trans (hw3.mono (by have := W2.out.size; rw [size_al]; omega))); obtain ⟨s30, s31, s32, s33, s34, s35⟩ := cells6 A3.out; obtain ⟨t30, t31, t32, t33, t34, t35⟩ := cells6 R3.out; obtain ⟨v30, v31⟩ := cells2 X3.out; have l3 := A3.out.lt; have m3 := R3.out.lt; have n3 := X3.out.lt; clear hw3 A2 B2 X2 W2 s20 s21 s22 s23 s24 s25 t20 t21 t22 t23 t24 t25 v20 v21)
    | (go_at_call 7; (with_reducible refine (c7 _).mono ?_); rintro e w4 ⟨rfl, hw4⟩; have A4 := Lib.hid (mv (A3.out.alloc _) hw4); have X4 := Lib.hid (mv (X3.out.alloc _) hw4); have R4 := Lib.hid (mv (R3.out.alloc _) hw4); have T4 := Lib.hid (mv (Blk.new w3 23 _) hw4); have W4 := Lib.hid ((W3.out.alloc W3.out.size _).trans (hw4.mono (by have := W3.out.size; rw [size_al]; omega))); obtain ⟨s40, s41, s42, s43, s44, s45⟩ := cells6 A4.out; obtain ⟨v40, v41⟩ := cells2 X4.out; clear hw4 A3 X3 R3 W3 s30 s31 s32 s33 s34 s35 t30 t31 t32 t33 t34 t35 v30 v31)
    | (go_at_call 8; (with_reducible refine (c8 _).mono ?_); rintro e w5 ⟨rfl, hw5⟩; have A5 := Lib.hid (mv A4.out hw5); have R5 := Lib.hid (mv R4.out hw5); have T5 := Lib.hid (mv T4.out hw5); have W5 := Lib.hid (W4.out.trans (hw5.mono W4.out.size)); obtain ⟨s50, s51, s52, s53, s54, s55⟩ := cells6 A5.out; clear hw5 A4 X4 R4 T4 W4 s40 s41 s42 s43 s44 s45 v40 v41))
  go_region_held3 (fun w' => w'.cell? ⟨w.heap.size, 0, none⟩ = some (.int .i64 a0) ∧ w'.cell? ⟨w.heap.size, 1, none⟩ = some (.int .i64 a1) ∧ w'.cell? ⟨w.heap.size, 2, none⟩ = some (.int .i64 a2) ∧ w'.cell? ⟨w.heap.size, 3, none⟩ = some (.int .i64 a3) ∧ w'.cell? ⟨w.heap.size, 4, none⟩ = some (.int .i64 a4) ∧ w'.cell? ⟨w.heap.size, 5, none⟩ = some (.int .i64 a5))
    (first
      | (with_reducible exact cells6 (six_far A7.out (Nat.ne_of_lt A6.out.lt) _ _ _ _ _ _))
      | (with_reducible exact cells6 (six_far A7.out (Nat.ne_of_lt A5.out.lt) _ _ _ _ _ _))
      | (with_reducible exact ⟨s60, s61, s62, s63, s64, s65⟩) | (with_reducible exact ⟨s70, s71, s72, s73, s74, s75⟩) | go_keep)
    (first
      | (go_at_call 9; (with_reducible refine (c9 _).mono ?_); rintro e w6 ⟨rfl, hw6⟩; have A6 : Hid (Blk w6 w.heap.size 23 #[.int .i64 a0, .int .i64 a1, .int .i64 a2, .int .i64 a3, .int .i64 a4, .int .i64 a5]) := Lib.hid (by with_reducible first | exact mv A5.out.drew hw6 | exact mv (A5.out.drew.alloc _) hw6 | exact mv (A5.out.alloc _).drew hw6); have R6 : Hid (Blk w6 w2.heap.size 26 #[.int .i64 r0, .int .i64 r1, .int .i64 r2, .int .i64 r3, .int .i64 r4, .int .i64 r5]) := Lib.hid (by with_reducible first | exact mv R5.out.drew hw6 | exact mv (R5.out.drew.alloc _) hw6 | exact mv (R5.out.alloc _).drew hw6); have T6 : Hid (Blk w6 w3.heap.size 23 #[.int .i64 r0, .int .i64 r1, .int .i64 r2, .int .i64 r3, .int .i64 r4, .int .i64 r5]) := Lib.hid (by with_reducible first | exact mv T5.out.drew hw6 | exact mv (T5.out.drew.alloc _) hw6 | exact mv (T5.out.alloc _).drew hw6); have W6 : Hid (Below w.heap.size w w6) := Lib.hid (by with_reducible first | exact W5.out.drew.trans (hw6.mono W5.out.drew.size) | exact (W5.out.drew.alloc W5.out.drew.size _).trans (hw6.mono (W5.out.drew.alloc W5.out.drew.size _).size) | exact (W5.out.alloc W5.out.size _).drew.trans (hw6.mono (W5.out.alloc W5.out.size _).drew.size)); (try (have Z6 : Hid (Blk w6 w5.heap.size 26 #[.int .i64 0, .int .i64 0, .int .i64 0, .int .i64 0, .int .i64 0, .int .i64 0]) := Lib.hid (by with_reducible first | exact mv (Blk.new w5.drew 26 _) hw6 | exact mv (Blk.new w5 26 _).drew hw6))); obtain ⟨s60, s61, s62, s63, s64, s65⟩ := cells6 A6.out; clear hw6)
      | (go_at_call 5; (with_reducible refine (c5' _).mono ?_); rintro e w7 ⟨rfl, hw7⟩; have A7 : Hid (Blk w7 w.heap.size 23 #[.int .i64 a0, .int .i64 a1, .int .i64 a2, .int .i64 a3, .int .i64 a4, .int .i64 a5]) := Lib.hid (by with_reducible first | exact mv A6.out hw7 | exact mv (A6.out.alloc _) hw7 | exact mv (A6.out.alloc _).drew hw7); have R7 : Hid (Blk w7 w2.heap.size 26 #[.int .i64 r0, .int .i64 r1, .int .i64 r2, .int .i64 r3, .int .i64 r4, .int .i64 r5]) := Lib.hid (by with_reducible first | exact mv R6.out hw7 | exact mv (R6.out.alloc _) hw7 | exact mv (R6.out.alloc _).drew hw7); have T7 : Hid (Blk w7 w3.heap.size 23 #[.int .i64 r0, .int .i64 r1, .int .i64 r2, .int .i64 r3, .int .i64 r4, .int .i64 r5]) := Lib.hid (by with_reducible first | exact mv T6.out hw7 | exact mv (T6.out.alloc _) hw7 | exact mv (T6.out.alloc _).drew hw7); have W7 : Hid (Below w.heap.size w w7) := Lib.hid (by with_reducible first | exact W6.out.trans (hw7.mono W6.out.size) | exact (W6.out.alloc W6.out.size _).trans (hw7.mono (al_le W6.out.size)) | exact (W6.out.alloc W6.out.size _).drew.trans (hw7.mono (al_le W6.out.size))); (first | (have Z7 : Hid (Blk w7 w5.heap.size 26 #[.int .i64 0, .int .i64 0, .int .i64 0, .int .i64 0, .int .i64 0, .int .i64 0]) := Lib.hid (by with_reducible exact mv Z6.out hw7); obtain ⟨y70, y71, y72, y73, y74, y75⟩ := cells6 Z7.out; have yf := Z7.out.frozen) | (have Z7 : Hid (Blk w7 w6.heap.size 26 #[.int .i64 0, .int .i64 0, .int .i64 0, .int .i64 0, .int .i64 0, .int .i64 0]) := Lib.hid (by with_reducible exact mv (Blk.new w6 26 _) hw7); obtain ⟨y70, y71, y72, y73, y74, y75⟩ := cells6 Z7.out; have yf := Z7.out.frozen) | skip); obtain ⟨s70, s71, s72, s73, s74, s75⟩ := cells6 A7.out; clear hw7))
  · have hB := Lib.hid (W7.out.alloc W7.out.size (.cells #[.int .i64 q0, .int .i64 q1, .int .i64 q2, .int .i64 q3, .int .i64 q4, .int .i64 q5] 26))
    obtain ⟨af0, af1, af2, af3, af4, af5⟩ := cells6 (A7.out.alloc (.cells #[.int .i64 q0, .int .i64 q1, .int .i64 q2, .int .i64 q3, .int .i64 q4, .int .i64 q5] 26))
    obtain ⟨rf0, rf1, rf2, rf3, rf4, rf5⟩ := cells6 (R7.out.alloc (.cells #[.int .i64 q0, .int .i64 q1, .int .i64 q2, .int .i64 q3, .int .i64 q4, .int .i64 q5] 26))
    obtain ⟨tf0, tf1, tf2, tf3, tf4, tf5⟩ := cells6 (T7.out.alloc (.cells #[.int .i64 q0, .int .i64 q1, .int .i64 q2, .int .i64 q3, .int .i64 q4, .int .i64 q5] 26))
    obtain ⟨zf0, zf1, zf2, zf3, zf4, zf5⟩ := cells6 (Blk.new w7 26 #[.int .i64 q0, .int .i64 q1, .int .i64 q2, .int .i64 q3, .int .i64 q4, .int .i64 q5])
    clear s60 s61 s62 s63 s64 s65 s70 s71 s72 s73 s74 s75
    have eqr := fun w => eq_same6 r0 r1 r2 r3 r4 r5 w
    have eqa := fun w => eq_same6 a0 a1 a2 a3 a4 a5 w
    cases O with
    | true =>
      have hq := hone.out rfl
      simp only [Value.agg.injEq, Array.mk.injEq, List.cons.injEq, Value.int.injEq, true_and, and_true] at hq
      obtain ⟨rfl, rfl, rfl, rfl, rfl, rfl⟩ := hq
      go_wp2_with fail
      all_goals (go_ret; exact ⟨rfl, hB.out⟩)
    | false =>
      go_wp2_with fail
      all_goals (go_ret; exact ⟨rfl, hB.out⟩)
  · have hB := Lib.hid (six_below W7.out W6.out.size (.int .i64 q0) (.int .i64 q1) (.int .i64 q2) (.int .i64 q3) (.int .i64 q4) (.int .i64 q5))
    obtain ⟨af0, af1, af2, af3, af4, af5⟩ := cells6 (six_far A7.out (Nat.ne_of_lt (A6.out.lt)) (.int .i64 q0) (.int .i64 q1) (.int .i64 q2) (.int .i64 q3) (.int .i64 q4) (.int .i64 q5))
    obtain ⟨rf0, rf1, rf2, rf3, rf4, rf5⟩ := cells6 (six_far R7.out (Nat.ne_of_lt (R6.out.lt)) (.int .i64 q0) (.int .i64 q1) (.int .i64 q2) (.int .i64 q3) (.int .i64 q4) (.int .i64 q5))
    obtain ⟨tf0, tf1, tf2, tf3, tf4, tf5⟩ := cells6 (six_far T7.out (Nat.ne_of_lt (T6.out.lt)) (.int .i64 q0) (.int .i64 q1) (.int .i64 q2) (.int .i64 q3) (.int .i64 q4) (.int .i64 q5))
    obtain ⟨zf0, zf1, zf2, zf3, zf4, zf5⟩ := cells6 (six_set Z7.out (.int .i64 q0) (.int .i64 q1) (.int .i64 q2) (.int .i64 q3) (.int .i64 q4) (.int .i64 q5))
    clear s60 s61 s62 s63 s64 s65 s70 s71 s72 s73 s74 s75
    have eqr := fun w => eq_same6 r0 r1 r2 r3 r4 r5 w
    have eqa := fun w => eq_same6 a0 a1 a2 a3 a4 a5 w
    cases O with
    | true =>
      have hq := hone.out rfl
      simp only [Value.agg.injEq, Array.mk.injEq, List.cons.injEq, Value.int.injEq, true_and, and_true] at hq
      obtain ⟨rfl, rfl, rfl, rfl, rfl, rfl⟩ := hq
      go_wp2_with fail
      all_goals (go_ret; exact ⟨rfl, hB.out⟩)
    | false =>
      go_wp2_with fail
      all_goals (go_ret; exact ⟨rfl, hB.out⟩)
  · have hB := Lib.hid (six_below W7.out W5.out.size (.int .i64 q0) (.int .i64 q1) (.int .i64 q2) (.int .i64 q3) (.int .i64 q4) (.int .i64 q5))
    obtain ⟨af0, af1, af2, af3, af4, af5⟩ := cells6 (six_far A7.out (Nat.ne_of_lt (A5.out.lt)) (.int .i64 q0) (.int .i64 q1) (.int .i64 q2) (.int .i64 q3) (.int .i64 q4) (.int .i64 q5))
    obtain ⟨rf0, rf1, rf2, rf3, rf4, rf5⟩ := cells6 (six_far R7.out (Nat.ne_of_lt (R5.out.lt)) (.int .i64 q0) (.int .i64 q1) (.int .i64 q2) (.int .i64 q3) (.int .i64 q4) (.int .i64 q5))
    obtain ⟨tf0, tf1, tf2, tf3, tf4, tf5⟩ := cells6 (six_far T7.out (Nat.ne_of_lt (T5.out.lt)) (.int .i64 q0) (.int .i64 q1) (.int .i64 q2) (.int .i64 q3) (.int .i64 q4) (.int .i64 q5))
    obtain ⟨zf0, zf1, zf2, zf3, zf4, zf5⟩ := cells6 (six_set Z7.out (.int .i64 q0) (.int .i64 q1) (.int .i64 q2) (.int .i64 q3) (.int .i64 q4) (.int .i64 q5))
    clear s60 s61 s62 s63 s64 s65 s70 s71 s72 s73 s74 s75
    have eqr := fun w => eq_same6 r0 r1 r2 r3 r4 r5 w
    have eqa := fun w => eq_same6 a0 a1 a2 a3 a4 a5 w
    cases O with
    | true =>
      have hq := hone.out rfl
      simp only [Value.agg.injEq, Array.mk.injEq, List.cons.injEq, Value.int.injEq, true_and, and_true] at hq
      obtain ⟨rfl, rfl, rfl, rfl, rfl, rfl⟩ := hq
      go_wp2_with fail
      all_goals (go_ret; exact ⟨rfl, hB.out⟩)
    | false =>
      go_wp2_with fail
      all_goals (go_ret; exact ⟨rfl, hB.out⟩)
end Go.Proofs.YtjlomalpmlgjbaaGreatDoor

/- Paint: the sum of two products and a number, by the program and by the document. No condition. -/
import Derived.Test.YtjlomalpmlgjbaaGreatDoorFxRef
import Derived.Test.YtjlomalpmlgjbaaGreatDoorFxRules
namespace Go.Proofs.YtjlomalpmlgjbaaGreatDoor
open Go Go.RowKit Go.Wk
theorem nums_three (w : World) (a b c : Int) (e : Nat) : Nums (w.alloc (.cells #[.int .i64 a, .int .i64 b, .int .i64 c] e)) (some ⟨w.heap.size, 0, none⟩) [a, b, c] := by
  refine ⟨by simp [maxLen], fun _ => ⟨_, _, rfl, fun i hi => ?_⟩⟩
  match i, hi with
  | 0, _ => rw [alloc_cell]; rfl
  | 1, _ => rw [alloc_cell]; rfl
  | 2, _ => rw [alloc_cell]; rfl
  | i + 3, hi => simp at hi; omega
def dotN (a b c d e : Int) : Int := (addF 0 [(scaledS a b 100000).1, (scaledS c d 100000).1, e]).1
def dotB (a b c d e : Int) : Bool := (scaledS a b 100000).2 && (scaledS c d 100000).2 && (addF 0 [(scaledS a b 100000).1, (scaledS c d 100000).1, e]).2
theorem add3_call (x y z : Int) (w : World) (s : Int × Bool) (h : addF 0 [x, y, z] = s) : Calls Tryz.prog 25 #[.slice (some ⟨w.heap.size, 0, none⟩) 3 3] (w.alloc (.cells #[.int .i64 x, .int .i64 y, .int .i64 z] 2)) fun e w' => e = .returned (.tuple #[.int .i64 s.1, .bool s.2]) ∧ Below w.heap.size w w' := by
  have := fixed_Add (some ⟨w.heap.size, 0, none⟩) 3 [x, y, z] _ (nums_three w x y z 2)
  rw [h] at this
  refine this.mono ?_
  rintro e w' ⟨rfl, rfl⟩
  exact ⟨rfl, (Below.refl _ _).alloc (Nat.le_refl _) _⟩
theorem radd3_call (x y z : Int) (w : World) (s : Int × Bool) (h : addF 0 [x, y, z] = s) : Calls Tryz.prog 27 #[.slice (some ⟨w.heap.size, 0, none⟩) 3 3] (w.alloc (.cells #[.int .i64 x, .int .i64 y, .int .i64 z] 2)) fun e w' => e = .returned (.tuple #[.int .i64 s.1, .bool s.2]) ∧ Below w.heap.size w w' := by
  have := ref_Add (some ⟨w.heap.size, 0, none⟩) 3 [x, y, z] _ (nums_three w x y z 2)
  rw [h] at this
  refine this.mono ?_
  rintro e w' ⟨rfl, rfl⟩
  exact ⟨rfl, (Below.refl _ _).alloc (Nat.le_refl _) _⟩
set_option maxHeartbeats 400000 in
theorem paint_dot (a b c d e : Int) (ha : i64 a) (hb : i64 b) (hc : i64 c) (hd : i64 d) (w : World) : Calls Tryz.prog 13 #[.int .i64 a, .int .i64 b, .int .i64 c, .int .i64 d, .int .i64 e] w fun r w' => r = .returned (.tuple #[.int .i64 (dotN a b c d e), .bool (dotB a b c d e)]) ∧ Below w.heap.size w w' := by
  have c1 := fun w => fixed_Mul a b ha hb w
  have c2 := fun w => fixed_Mul c d hc hd w
  have hn := Lib.hid (show dotN a b c d e = (addF 0 [(scaledS a b 100000).1, (scaledS c d 100000).1, e]).1 from rfl)
  have hB := Lib.hid (show dotB a b c d e = ((scaledS a b 100000).2 && (scaledS c d 100000).2 && (addF 0 [(scaledS a b 100000).1, (scaledS c d 100000).1, e]).2) from rfl)
  generalize scaledS a b 100000 = S at *
  generalize scaledS c d 100000 = T at *
  obtain ⟨x, p⟩ := S
  obtain ⟨y, q⟩ := T
  simp only at c1 c2 hn hB
  have c3 := fun w => add3_call x y e w _ rfl
  generalize addF 0 [x, y, e] = R at *
  obtain ⟨n, r⟩ := R
  simp only at c3 hn hB
  clear ha hb hc hd
  go_enter Tryz.func13, Tryz.ntmps13
  go_wp2_with (first
    | (go_at_call 24; (with_reducible refine (c1 _).mono ?_); rintro e w1 ⟨rfl, hw1⟩)
    | (go_at_call 24; (with_reducible refine (c2 _).mono ?_); rintro e w2 ⟨rfl, hw2⟩)
    | (go_at_call 25; (with_reducible refine (c3 _).mono ?_); rintro e w3 ⟨rfl, hw3⟩))
  all_goals
    go_ret2
    refine ⟨?_, bthen (bthen hw1 hw2) hw3⟩
    rw [hn.out, hB.out]
    simp_all
def sumN (a b c d e : Int) : Int := if dotB a b c d e then dotN a b c d e else 0
set_option maxHeartbeats 400000 in
theorem ref_sum (a b c d e : Int) (w : World) : Calls Tryz.prog 14 #[.int .i64 a, .int .i64 b, .int .i64 c, .int .i64 d, .int .i64 e] w fun r w' => r = .returned (.tuple #[.int .i64 (sumN a b c d e), .bool (dotB a b c d e)]) ∧ Below w.heap.size w w' := by
  have c1 := fun w => ref_Mul a b w
  have c2 := fun w => ref_Mul c d w
  have hn := Lib.hid (show dotN a b c d e = (addF 0 [(scaledS a b 100000).1, (scaledS c d 100000).1, e]).1 from rfl)
  have hB := Lib.hid (show dotB a b c d e = ((scaledS a b 100000).2 && (scaledS c d 100000).2 && (addF 0 [(scaledS a b 100000).1, (scaledS c d 100000).1, e]).2) from rfl)
  have hs := Lib.hid (show sumN a b c d e = if dotB a b c d e then dotN a b c d e else 0 from rfl)
  generalize sumN a b c d e = Z at *
  generalize dotN a b c d e = N at *
  generalize dotB a b c d e = B at *
  generalize scaledS a b 100000 = S at *
  generalize scaledS c d 100000 = T at *
  obtain ⟨x, p⟩ := S
  obtain ⟨y, q⟩ := T
  simp only at c1 c2 hn hB
  have c3 := fun w => radd3_call x y e w _ rfl
  generalize addF 0 [x, y, e] = R at *
  obtain ⟨n, r⟩ := R
  simp only at c3 hn hB
  go_enter Tryz.func14, Tryz.ntmps14
  go_wp2_with (first
    | (go_at_call 26; (with_reducible refine (c1 _).mono ?_); rintro e w1 ⟨rfl, rfl⟩)
    | (go_at_call 26; (with_reducible refine (c2 _).mono ?_); rintro e w2 ⟨rfl, rfl⟩)
    | (go_at_call 27; (with_reducible refine (c3 _).mono ?_); rintro e w3 ⟨rfl, hw3⟩))
  all_goals
    go_ret2
    refine ⟨?_, hw3⟩
    have hn := hn.out
    have hB := hB.out
    have hs := hs.out
    simp_all
theorem addF3_bound (x y z : Int) : -214748364799999 ≤ (addF 0 [x, y, z]).1 ∧ (addF 0 [x, y, z]).1 ≤ 214748364799999 := by
  unfold addF addF addF addF
  split
  · split
    · split
      · rename_i h; simp [isIn] at h; simp only; omega
      · simp
    · simp
  · simp
theorem dotN_i64 (a b c d e : Int) : i64 (dotN a b c d e) := by
  have := addF3_bound (scaledS a b 100000).1 (scaledS c d 100000).1 e
  unfold i64 dotN; omega
end Go.Proofs.YtjlomalpmlgjbaaGreatDoor

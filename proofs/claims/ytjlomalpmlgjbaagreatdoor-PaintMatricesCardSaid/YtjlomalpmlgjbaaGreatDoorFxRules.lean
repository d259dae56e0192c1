/- Fixed: sums of two, and one as a factor. No condition. -/
import Derived.Test.YtjlomalpmlgjbaaGreatDoorFxB
namespace Go.Proofs.YtjlomalpmlgjbaaGreatDoor
open Go Go.RowKit Go.Wk
theorem bthen {a b c : World} (h : Below a.heap.size a b) (k : Below b.heap.size b c) : Below a.heap.size a c := h.trans (k.mono h.size)
theorem alloc_cell {w : World} {vs : Array Value} {e i : Nat} : (w.alloc (.cells vs e)).cell? ⟨w.heap.size, 0 + i, none⟩ = vs[i]? := by
  have h : (w.alloc (.cells vs e)).heap[w.heap.size]? = some (.cells vs e) := by
    show (w.heap.push _)[w.heap.size]? = _
    simp
  unfold World.cell?
  rw [h, Nat.zero_add]
  rfl
theorem nums_two (w : World) (a b : Int) (e : Nat) : Nums (w.alloc (.cells #[.int .i64 a, .int .i64 b] e)) (some ⟨w.heap.size, 0, none⟩) [a, b] := by
  refine ⟨by simp [maxLen], fun _ => ⟨_, _, rfl, fun i hi => ?_⟩⟩
  match i, hi with
  | 0, _ => rw [alloc_cell]; rfl
  | 1, _ => rw [alloc_cell]; rfl
  | i + 2, hi => simp at hi; omega
theorem scaled_one (a : Int) (h : isIn a = true) : scaledS a 100000 100000 = (a, true) := by
  have h1 := (isIn_iff a).1 h
  have e : a.natAbs * (100000 : Int).natAbs / (100000 : Int).natAbs = a.natAbs := Nat.mul_div_cancel _ (by decide)
  have e2 : (isIn a && isIn 100000 && !((100000 : Int) == 0) && decide (a.natAbs ≤ 214748364799999)) = true := by
    simp [h, h1]; decide
  unfold scaledS
  rw [e, if_pos e2]
  by_cases hn : a < 0
  · rw [if_pos (by simp [neg3, hn])]; congr 1; omega
  · rw [if_neg (by simp [neg3, hn])]; congr 1; omega
theorem scaled_neg (a b : Int) : (scaledS a b 100000).2 = (scaledS (-a) b 100000).2 ∧ (scaledS a b 100000).1 = -(scaledS (-a) b 100000).1 := by
  have e : (-a).natAbs = a.natAbs := Int.natAbs_neg a
  have e2 : isIn (-a) = isIn a := by unfold isIn; rw [Bool.eq_iff_iff]; simp; omega
  unfold scaledS
  rw [e, e2]
  split
  · refine ⟨rfl, ?_⟩
    by_cases h0 : a = 0
    · subst h0; simp
    · have : neg3 (-a) b 100000 = !neg3 a b 100000 := by
        by_cases h1 : a < 0
        · have h2 : ¬ (0 < a) := by omega
          simp [neg3, h1, h2]
        · have h2 : 0 < a := by omega
          simp [neg3, h1, h2]
      rw [this]
      cases neg3 a b 100000 <;> simp
  · exact ⟨rfl, rfl⟩
theorem add_two (a b : Int) (ha : isIn a = true) (hb : isIn b = true) : addF 0 [a, b] = if isIn (a + b) then (a + b, true) else (0, false) := by
  simp [addF, ha, hb]
set_option maxHeartbeats 400000 in
theorem ref_In (n : Int) (w : World) : Calls Tryz.prog 42 #[.int .i64 n] w fun e w' => e = .returned (.bool (isIn n)) ∧ w = w' := by
  go_enter Tryz.func42, Tryz.ntmps42
  go_wp2
  · go_ret
    refine ⟨?_, rfl⟩
    rename_i h1
    simp [isIn, h1]
  · go_ret
    refine ⟨?_, rfl⟩
    rename_i h1
    have : decide (-214748364799999 ≤ n) = false := by simp; omega
    simp [isIn, this]
theorem scaled_bound (a b c : Int) : -214748364799999 ≤ (scaledS a b c).1 ∧ (scaledS a b c).1 ≤ 214748364799999 := by
  unfold scaledS
  split
  · rename_i h
    simp only [Bool.and_eq_true, decide_eq_true_eq] at h
    have h := h.2
    generalize a.natAbs * b.natAbs / c.natAbs = q at *
    cases neg3 a b c <;> simp <;> omega
  · simp
theorem add_call (a b : Int) (w : World) (s : Int) (t : Bool) (h : addF 0 [a, b] = (s, t)) : Calls Tryz.prog 25 #[.slice (some ⟨w.heap.size, 0, none⟩) 2 2] (w.alloc (.cells #[.int .i64 a, .int .i64 b] 2)) fun e w' => e = .returned (.tuple #[.int .i64 s, .bool t]) ∧ Below w.heap.size w w' := by
  have := fixed_Add (some ⟨w.heap.size, 0, none⟩) 2 [a, b] _ (nums_two w a b 2)
  rw [h] at this
  refine this.mono ?_
  rintro e w' ⟨rfl, rfl⟩
  exact ⟨rfl, (Below.refl _ _).alloc (Nat.le_refl _) _⟩
end Go.Proofs.YtjlomalpmlgjbaaGreatDoor

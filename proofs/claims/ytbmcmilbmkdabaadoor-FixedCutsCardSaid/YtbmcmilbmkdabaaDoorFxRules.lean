/- Fixed: the law of rules, walked. No condition. -/
import Derived.Test.YtbmcmilbmkdabaaDoorFxB
namespace Go.Proofs.YtbmcmilbmkdabaaDoor
open Go Go.RowKit Go.Wk
theorem bthen {a b c : World} (h : Below a.heap.size a b) (k : Below b.heap.size b c) : Below a.heap.size a c := h.trans (k.mono h.size)
theorem alloc_cell {w : World} {vs : Array Value} {e i : Nat} : (w.alloc (.cells vs e)).cell? ⟨w.heap.size, 0 + i, none⟩ = vs[i]? := by
  have h : (w.alloc (.cells vs e)).heap[w.heap.size]? = some (.cells vs e) := by
    show (w.heap.push _)[w.heap.size]? = _
    simp
  unfold World.cell?
  rw [h, Nat.zero_add]
  rfl
theorem nums_two (w : World) (a b : Int) (e : Nat) : Nums (w.alloc (.cells #[.int .i64 a, .int .i64 b] e)) (some ⟨w.heap.size, 0, none⟩) [a, b] := by
  refine ⟨by simp [maxLen], fun _ => ⟨_, _, rfl, fun i hi => ?_⟩⟩
  match i, hi with
  | 0, _ => rw [alloc_cell]; rfl
  | 1, _ => rw [alloc_cell]; rfl
  | i + 2, hi => simp at hi; omega
theorem scaled_one (a : Int) (h : isIn a = true) : scaledS a 100000 100000 = (a, true) := by
  have h1 := (isIn_iff a).1 h
  have e : a.natAbs * (100000 : Int).natAbs / (100000 : Int).natAbs = a.natAbs := Nat.mul_div_cancel _ (by decide)
  have e2 : (isIn a && isIn 100000 && !((100000 : Int) == 0) && decide (a.natAbs ≤ 214748364799999)) = true := by
    simp [h, h1]; decide
  unfold scaledS
  rw [e, if_pos e2]
  by_cases hn : a < 0
  · rw [if_pos (by simp [neg3, hn])]; congr 1; omega
  · rw [if_neg (by simp [neg3, hn])]; congr 1; omega
theorem scaled_neg (a b : Int) : (scaledS a b 100000).2 = (scaledS (-a) b 100000).2 ∧ (scaledS a b 100000).1 = -(scaledS (-a) b 100000).1 := by
  have e : (-a).natAbs = a.natAbs := Int.natAbs_neg a
  have e2 : isIn (-a) = isIn a := by unfold isIn; rw [Bool.eq_iff_iff]; simp; omega
  unfold scaledS
  rw [e, e2]
  split
  · refine ⟨rfl, ?_⟩
    by_cases h0 : a = 0
    · subst h0; simp
    · have : neg3 (-a) b 100000 = !neg3 a b 100000 := by
        by_cases h1 : a < 0
        · have h2 : ¬ (0 < a) := by omega
          simp [neg3, h1, h2]
        · have h2 : 0 < a := by omega
          simp [neg3, h1, h2]
      rw [this]
      cases neg3 a b 100000 <;> simp
  · exact ⟨rfl, rfl⟩
theorem add_two (a b : Int) (ha : isIn a = true) (hb : isIn b = true) : addF 0 [a, b] = if isIn (a + b) then (a + b, true) else (0, false) := by
  simp [addF, ha, hb]
set_option maxHeartbeats 400000 in
theorem ref_In (n : Int) (w : World) : Calls Tryd.prog 17 #[.int .i64 n] w fun e w' => e = .returned (.bool (isIn n)) ∧ w = w' := by
  go_enter Tryd.func17, Tryd.ntmps17
  go_wp2
  · go_ret
    refine ⟨?_, rfl⟩
    rename_i h1
    simp [isIn, h1]
  · go_ret
    refine ⟨?_, rfl⟩
    rename_i h1
    have : decide (-214748364799999 ≤ n) = false := by simp; omega
    simp [isIn, this]
theorem scaled_bound (a b c : Int) : -214748364799999 ≤ (scaledS a b c).1 ∧ (scaledS a b c).1 ≤ 214748364799999 := by
  unfold scaledS
  split
  · rename_i h
    simp only [Bool.and_eq_true, decide_eq_true_eq] at h
    have h := h.2
    generalize a.natAbs * b.natAbs / c.natAbs = q at *
    cases neg3 a b c <;> simp <;> omega
  · simp
theorem add_call (a b : Int) (w : World) (s : Int) (t : Bool) (h : addF 0 [a, b] = (s, t)) : Calls Tryd.prog 20 #[.slice (some ⟨w.heap.size, 0, none⟩) 2 2] (w.alloc (.cells #[.int .i64 a, .int .i64 b] 2)) fun e w' => e = .returned (.tuple #[.int .i64 s, .bool t]) ∧ Below w.heap.size w w' := by
  have := fixed_Add (some ⟨w.heap.size, 0, none⟩) 2 [a, b] _ (nums_two w a b 2)
  rw [h] at this
  refine this.mono ?_
  rintro e w' ⟨rfl, rfl⟩
  exact ⟨rfl, (Below.refl _ _).alloc (Nat.le_refl _) _⟩
set_option maxHeartbeats 1000000 in
theorem rules_law (a b : Int) (ha : i64 a) (hb : i64 b) (w : World)
    (haw : Calls Tryd.prog 11 #[] w fun e w' => e = .returned (.bool true) ∧ Below w.heap.size w w') :
    Calls Tryd.prog 10 #[.int .i64 a, .int .i64 b] w fun e w' => e = .returned (.bool true) ∧ Below w.heap.size w w' := by
  cases h1 : isIn a with
  | false =>
    go_enter Tryd.func10, Tryd.ntmps10
    go_wp2_with (first
      | (go_at_call 11; (with_reducible refine haw.mono ?_); rintro e w1 ⟨rfl, hw1⟩)
      | (go_at_call 17; (with_reducible refine (ref_In a _).mono ?_); rintro e w1 ⟨rfl, rfl⟩; rw [h1]))
    go_ret
    exact ⟨rfl, hw1⟩
  | true =>
  cases h2 : isIn b with
  | false =>
    go_enter Tryd.func10, Tryd.ntmps10
    go_wp2_with (first
      | (go_at_call 11; (with_reducible refine haw.mono ?_); rintro e w1 ⟨rfl, hw1⟩)
      | (go_at_call 17; (with_reducible refine (ref_In a _).mono ?_); rintro e w1 ⟨rfl, rfl⟩; rw [h1])
      | (go_at_call 17; (with_reducible refine (ref_In b _).mono ?_); rintro e w1 ⟨rfl, rfl⟩; rw [h2]))
    go_ret
    exact ⟨rfl, hw1⟩
  | true =>
    have hA := (isIn_iff a).1 h1
    have hB := (isIn_iff b).1 h2
    have ha2 : -214748364799999 ≤ a ∧ a ≤ 214748364799999 := by omega
    have hb2 : -214748364799999 ≤ b ∧ b ≤ 214748364799999 := by omega
    obtain ⟨s, hs⟩ : ∃ s, s = (addF 0 [a, b]).1 := ⟨_, rfl⟩
    have hS1 : addF 0 [a, b] = (s, isIn (a + b)) := by rw [hs, add_two a b h1 h2]; cases isIn (a + b) <;> rfl
    have hS2 : addF 0 [b, a] = (s, isIn (a + b)) := by rw [← hS1, add_two a b h1 h2, add_two b a h2 h1, Int.add_comm]
    have c1 := fun w => add_call a b w s _ hS1
    have c2 := fun w => add_call b a w s _ hS2
    have c3 := fun w => ref_In (a + b) w
    have c4 := fun w => fixed_Mul a 100000 ha (by unfold i64; omega) w
    have c5 := fun w => fixed_Mul a b ha hb w
    have c6 := fun w => fixed_Mul (-a) b (by unfold i64; omega) hb w
    have c7 := fun w => fixed_Div a 100000 ha (by unfold i64; omega) w
    have hd : divS a 100000 = (a, true) := by unfold divS; rw [if_pos (by decide), scaled_one a h1]
    rw [scaled_one a h1] at c4
    rw [hd] at c7
    obtain ⟨n1, n2⟩ := scaled_neg a b
    have hbd := scaled_bound (-a) b 100000
    rw [n1, n2] at c5
    generalize (scaledS (-a) b 100000) = S at *
    generalize isIn (a + b) = t at *
    obtain ⟨q, j⟩ := S
    simp only at c5 c6 hbd
    clear hs hS1 hS2 hd n1 n2 hA hB ha hb
    go_enter Tryd.func10, Tryd.ntmps10
    go_wp2_with (first
      | (go_at_call 11; (with_reducible refine haw.mono ?_); rintro e w1 ⟨rfl, hw1⟩)
      | (go_at_call 17; (with_reducible refine (ref_In a _).mono ?_); rintro e w1 ⟨rfl, rfl⟩; rw [h1])
      | (go_at_call 17; (with_reducible refine (ref_In b _).mono ?_); rintro e w1 ⟨rfl, rfl⟩; rw [h2])
      | (go_at_call 17; (with_reducible refine (c3 _).mono ?_); rintro e w1 ⟨rfl, rfl⟩)
      | (go_at_call 20; (with_reducible refine (c1 _).mono ?_); rintro e w2 ⟨rfl, hw2⟩)
      | (go_at_call 20; (with_reducible refine (c2 _).mono ?_); rintro e w3 ⟨rfl, hw3⟩)
      | (go_at_call 18; (with_reducible refine (c4 _).mono ?_); rintro e w4 ⟨rfl, hw4⟩)
      | (go_at_call 18; (with_reducible refine (c5 _).mono ?_); rintro e w5 ⟨rfl, hw5⟩)
      | (go_at_call 18; (with_reducible refine (c6 _).mono ?_); rintro e w6 ⟨rfl, hw6⟩)
      | (go_at_call 19; (with_reducible refine (c7 _).mono ?_); rintro e w7 ⟨rfl, hw7⟩))
    go_ret
    exact ⟨rfl, bthen (bthen (bthen (bthen (bthen (bthen hw1 hw2) hw3) hw4) hw7) hw5) hw6⟩
end Go.Proofs.YtbmcmilbmkdabaaDoor

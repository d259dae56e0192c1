/- Fixed: contracts of the reference's scaled, Mul, Div, Add. No condition. -/
import Derived.Test.YtjlomalpmlgjbaaGreatDoorFxWide
namespace Go.Proofs.YtjlomalpmlgjbaaGreatDoor
open Go Go.RowKit Go.Wk
set_option maxHeartbeats 400000 in
theorem ref_abs (n : Int) (h : isIn n = true) (w : World) : Calls Tryz.prog 78 #[.int .i64 n] w fun e w' => e = .returned (.int .u64 (n.natAbs : Nat)) ∧ w = w' := by
  have h2 := (isIn_iff n).1 h
  have hn : -214748364799999 ≤ n ∧ n ≤ 214748364799999 := by omega
  clear h h2
  go_enter Tryz.func78, Tryz.ntmps78
  go_wp2
  · go_ret
    refine ⟨?_, rfl⟩
    simp
    omega
  · go_ret
    refine ⟨?_, rfl⟩
    simp
    omega
set_option maxHeartbeats 1000000 in
theorem ref_scaled (a b c : Int) (h1 : isIn a = true) (h2 : isIn b = true) (h3 : isIn c = true) (hc0 : c ≠ 0) (w : World) : Calls Tryz.prog 43 #[.int .i64 a, .int .i64 b, .int .i64 c] w fun e w' => e = .returned (.tuple #[.int .i64 (scaledS a b c).1, .bool (scaledS a b c).2]) ∧ w = w' := by
  have hc1 : (c == 0) = false := by simpa using hc0
  have hA := (isIn_iff a).1 h1
  have hB := (isIn_iff b).1 h2
  have hC := (isIn_iff c).1 h3
  have hC1 : 1 ≤ c.natAbs := by omega
  have hS := Lib.hid (show scaledS a b c = if decide (a.natAbs * b.natAbs / c.natAbs ≤ 214748364799999) = true then (if neg3 a b c = true then -((a.natAbs * b.natAbs / c.natAbs : Nat) : Int) else ((a.natAbs * b.natAbs / c.natAbs : Nat) : Int), true) else (0, false) by simp [scaledS, h1, h2, hc1])
  have s1 := ref_abs a h1
  have s2 := ref_abs b h2
  have s3 := ref_abs c h3
  have m1 := fun w => ref_wide a.natAbs b.natAbs c.natAbs (by omega) (by omega) hC1 hC w
  have hng := Lib.hid (show neg3 a b c = ((decide (a < 0) != decide (b < 0)) != decide (c < 0)) from rfl)
  generalize scaledS a b c = S at *
  clear h1 h2 h3 hc0 hc1
  generalize a.natAbs = A at *
  generalize b.natAbs = B at *
  generalize c.natAbs = C at *
  clear hA hB hC hC1
  go_enter Tryz.func43, Tryz.ntmps43
  go_wp2_with (first
    | (go_at_call 78; (with_reducible refine (s1 _).mono ?_); rintro e w1 ⟨rfl, rfl⟩)
    | (go_at_call 78; (with_reducible refine (s2 _).mono ?_); rintro e w1 ⟨rfl, rfl⟩)
    | (go_at_call 78; (with_reducible refine (s3 _).mono ?_); rintro e w1 ⟨rfl, rfl⟩)
    | (go_at_call 77; (with_reducible refine (m1 _).mono ?_); rintro e w1 ⟨q, t, rfl, hq, rfl⟩
       obtain ⟨Q, hQ⟩ := hidE (q : Int)
       have hQ0 : 0 ≤ Q := by rw [hQ.out]; exact Int.natCast_nonneg _
       rw [← hQ.out]
       replace hq := Lib.hid hq))
  all_goals
    generalize A * B / C = X at *
    have hQ1 := hQ.out
    have hq1 := hq.out
    go_ret2
    refine ⟨?_, rfl⟩
    rw [hS.out]
    clear m1 s1 s2 s3
  · rename_i ht hgt
    rw [if_neg (by simp; omega)]; rfl
  · rename_i ht hle hn
    have hX : X = q := by rcases hq1 with ⟨_, h, _⟩ | ⟨h, _⟩; exact h.symm; rw [ht] at h; cases h
    rw [if_pos (by simp; omega), if_pos (by rw [hng.out]; revert hn; cases decide (a < 0) <;> cases decide (b < 0) <;> cases decide (c < 0) <;> simp), hX, ← hQ1]; rfl
  · rename_i ht hle hn
    have hX : X = q := by rcases hq1 with ⟨_, h, _⟩ | ⟨h, _⟩; exact h.symm; rw [ht] at h; cases h
    rw [if_pos (by simp; omega), if_neg (by rw [hng.out]; revert hn; cases decide (a < 0) <;> cases decide (b < 0) <;> cases decide (c < 0) <;> simp), hX, ← hQ1]; rfl
  · rename_i ht
    rw [if_neg (by
      rcases hq1 with ⟨h, _⟩ | ⟨_, h⟩
      · exact absurd h ht
      · simp; omega)]; rfl
set_option maxHeartbeats 400000 in
theorem ref_Mul (a b : Int) (w : World) : Calls Tryz.prog 26 #[.int .i64 a, .int .i64 b] w fun e w' => e = .returned (.tuple #[.int .i64 (scaledS a b 100000).1, .bool (scaledS a b 100000).2]) ∧ w = w' := by
  have hS := Lib.hid (show isIn a = true → isIn b = true → ∀ w, Calls Tryz.prog 43 #[.int .i64 a, .int .i64 b, .int .i64 100000] w fun e w' => e = .returned (.tuple #[.int .i64 (scaledS a b 100000).1, .bool (scaledS a b 100000).2]) ∧ w = w' from fun h1 h2 w => ref_scaled a b 100000 h1 h2 (by decide) (by decide) w)
  have hZ := Lib.hid (show (isIn a && isIn b) = false → scaledS a b 100000 = (0, false) by
    intro h; unfold scaledS; rw [if_neg (by rw [h]; simp)])
  generalize scaledS a b 100000 = S at *
  cases h1 : isIn a with
  | false =>
    go_enter Tryz.func26, Tryz.ntmps26
    go_wp2_with (first
      | (go_at_call 42; (with_reducible refine (ref_In a _).mono ?_); rintro e w1 ⟨rfl, rfl⟩; rw [h1]))
    go_ret2
    exact ⟨by rw [hZ.out (by rw [h1]; rfl)]; rfl, rfl⟩
  | true =>
  cases h2 : isIn b with
  | false =>
    go_enter Tryz.func26, Tryz.ntmps26
    go_wp2_with (first
      | (go_at_call 42; (with_reducible refine (ref_In a _).mono ?_); rintro e w1 ⟨rfl, rfl⟩; rw [h1])
      | (go_at_call 42; (with_reducible refine (ref_In b _).mono ?_); rintro e w1 ⟨rfl, rfl⟩; rw [h2]))
    go_ret2
    exact ⟨by rw [hZ.out (by rw [h1, h2]; rfl)]; rfl, rfl⟩
  | true =>
    have hC := hS.out h1 h2
    go_enter Tryz.func26, Tryz.ntmps26
    go_wp2_with (first
      | (go_at_call 42; (with_reducible refine (ref_In a _).mono ?_); rintro e w1 ⟨rfl, rfl⟩; rw [h1])
      | (go_at_call 42; (with_reducible refine (ref_In b _).mono ?_); rintro e w1 ⟨rfl, rfl⟩; rw [h2])
      | (go_at_call 43; (with_reducible refine (hC _).mono ?_); rintro e w1 ⟨rfl, rfl⟩))
    go_ret2
    exact ⟨rfl, rfl⟩
set_option maxHeartbeats 1000000 in
theorem ref_Add (A : Option Addr) (c : Nat) (zs : List Int) (w : World) (h : Nums w A zs) : Calls Tryz.prog 27 #[.slice A zs.length c] w fun e w' => e = .returned (.tuple #[.int .i64 (addF 0 zs).1, .bool (addF 0 zs).2]) ∧ w = w' := by
  obtain ⟨hm, hcell⟩ := h
  unfold maxLen at hm
  have hstop := Lib.hid (addF_stop zs)
  have htk := Lib.hid (addF_take zs)
  obtain ⟨S, hS⟩ : ∃ S, S = addF 0 zs := ⟨_, rfl⟩
  have hall := Lib.hid (show addF 0 (zs.take zs.length) = S by rw [List.take_length, hS])
  rw [← hS] at hstop ⊢
  clear hS
  go_enter Tryz.func27, Tryz.ntmps27
  go_wp2
  go_loop [4, 5] (fun s i => ∃ k : Nat, k ≤ zs.length ∧ i = .int .i64 k ∧ s = .int .i64 (addF 0 (zs.take k)).1 ∧ (addF 0 (zs.take k)).2 = true) (fun _ i => zs.length - (intOf i).toNat)
  case atStart => exact ⟨0, Nat.zero_le _, rfl, rfl, rfl⟩
  case round =>
    obtain ⟨k, hk, rfl, rfl, ht⟩ := hrel
    by_cases hlt : k < zs.length
    · obtain ⟨b, o, rfl, hc⟩ := hcell (by omega)
      have hck := hc k hlt
      have ht1 := htk.out k hlt ht
      have hst := hstop.out (k + 1)
      have hin := addF_in (zs.take k) 0 (by decide) ht
      have hin2 := (isIn_iff _).1 hin
      clear hc hcell
      generalize zs[k] = x at *
      have hs := Lib.hid (show addF 0 (zs.take k) = ((addF 0 (zs.take k)).1, true) by rw [← ht])
      generalize addF 0 (zs.take k) = q at *
      generalize hq1 : addF 0 (zs.take (k + 1)) = q1 at ht1 hst
      replace hq1 := Lib.hid hq1
      cases hx : isIn x with
      | false =>
        rw [hx] at ht1
        have hS := hst (by rw [ht1]; rfl)
        clear hst ht1 hs ht
        go_wp2_with (first
          | (go_at_call 42; (with_reducible refine (ref_In x _).mono ?_); rintro e w1 ⟨rfl, rfl⟩; rw [hx]))
        go_ret2
        exact ⟨by rw [hS]; rfl, rfl⟩
      | true =>
        rw [hx] at ht1
        have hx2 := (isIn_iff _).1 hx
        cases hy : isIn (q.1 + x) with
        | false =>
          rw [hy] at ht1
          have hS := hst (by rw [ht1]; rfl)
          clear hst ht1 hs ht
          go_wp2_with (first
            | (go_at_call 42; (with_reducible refine (ref_In x _).mono ?_); rintro e w1 ⟨rfl, rfl⟩; rw [hx])
            | (go_at_call 42; (with_reducible refine (ref_In (q.1 + x) _).mono ?_); rintro e w1 ⟨rfl, rfl⟩; rw [hy]))
          go_ret2
          exact ⟨by rw [hS]; rfl, rfl⟩
        | true =>
          rw [hy] at ht1
          clear hst hs ht
          go_wp2_with (first
            | (go_at_call 42; (with_reducible refine (ref_In x _).mono ?_); rintro e w1 ⟨rfl, rfl⟩; rw [hx])
            | (go_at_call 42; (with_reducible refine (ref_In (q.1 + x) _).mono ?_); rintro e w1 ⟨rfl, rfl⟩; rw [hy]))
          refine ⟨⟨k + 1, by omega, by go_num, ?_, ?_⟩, by simp [intOf]; omega⟩
          · rw [hq1.out, ht1]; rfl
          · rw [hq1.out, ht1]; rfl
    · have hk' : k = zs.length := by omega
      subst hk'
      rw [hall.out] at ht ⊢
      clear htk hstop
      go_wp2
      go_ret2
      exact ⟨rfl, rfl⟩
end Go.Proofs.YtjlomalpmlgjbaaGreatDoor

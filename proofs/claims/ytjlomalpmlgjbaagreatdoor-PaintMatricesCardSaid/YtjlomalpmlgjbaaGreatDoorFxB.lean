/- Fixed: contracts of scaled, Mul, Div, Add. No condition. -/
import Derived.Test.YtjlomalpmlgjbaaGreatDoorFxDiv
namespace Go.Proofs.YtjlomalpmlgjbaaGreatDoor
open Go Go.RowKit Go.Wk
/-- whether the signs are unlike -/
def neg3 (a b c : Int) : Bool := (decide (a < 0) != decide (b < 0)) != decide (c < 0)
/-- a times b by c, cut towards 0 -/
def scaledS (a b c : Int) : Int × Bool :=
  if isIn a && isIn b && !(c == 0) && decide (a.natAbs * b.natAbs / c.natAbs ≤ 214748364799999) then
    (if neg3 a b c then -((a.natAbs * b.natAbs / c.natAbs : Nat) : Int) else ((a.natAbs * b.natAbs / c.natAbs : Nat) : Int), true)
  else (0, false)
theorem isIn_iff (n : Int) : isIn n = true ↔ n.natAbs ≤ 214748364799999 := by
  simp [isIn]; omega
set_option maxHeartbeats 1000000 in
theorem fixed_scaled (a b c : Int) (ha : i64 a) (hb : i64 b) (hc : i64 c) (w : World) : Calls Tryz.prog 40 #[.int .i64 a, .int .i64 b, .int .i64 c] w fun e w' => e = .returned (.tuple #[.int .i64 (scaledS a b c).1, .bool (scaledS a b c).2]) ∧ Below w.heap.size w w' := by
  cases h1 : isIn a with
  | false =>
    go_enter Tryz.func40, Tryz.ntmps40
    go_wp2_with (first
      | (go_at_call 41; (with_reducible refine (fixed_In a _).mono ?_); rintro e w1 ⟨rfl, rfl⟩; rw [h1]))
    go_ret2
    exact ⟨by simp [scaledS, h1], Below.refl _ _⟩
  | true =>
  cases h2 : isIn b with
  | false =>
    go_enter Tryz.func40, Tryz.ntmps40
    go_wp2_with (first
      | (go_at_call 41; (with_reducible refine (fixed_In a _).mono ?_); rintro e w1 ⟨rfl, rfl⟩; rw [h1])
      | (go_at_call 41; (with_reducible refine (fixed_In b _).mono ?_); rintro e w1 ⟨rfl, rfl⟩; rw [h2]))
    go_ret2
    exact ⟨by simp [scaledS, h1, h2], Below.refl _ _⟩
  | true =>
  by_cases hc0 : c = 0
  · subst hc0
    go_enter Tryz.func40, Tryz.ntmps40
    go_wp2_with (first
      | (go_at_call 41; (with_reducible refine (fixed_In a _).mono ?_); rintro e w1 ⟨rfl, rfl⟩; rw [h1])
      | (go_at_call 41; (with_reducible refine (fixed_In b _).mono ?_); rintro e w1 ⟨rfl, rfl⟩; rw [h2]))
    go_ret2
    exact ⟨by simp [scaledS], Below.refl _ _⟩
  · have hc1 : (c == 0) = false := by simpa using hc0
    have hA := (isIn_iff a).1 h1
    have hB := (isIn_iff b).1 h2
    have hC : 1 ≤ c.natAbs ∧ c.natAbs ≤ 9223372036854775808 := by unfold i64 at hc; omega
    have hS := Lib.hid (show scaledS a b c = if decide (a.natAbs * b.natAbs / c.natAbs ≤ 214748364799999) = true then (if neg3 a b c = true then -((a.natAbs * b.natAbs / c.natAbs : Nat) : Int) else ((a.natAbs * b.natAbs / c.natAbs : Nat) : Int), true) else (0, false) by simp [scaledS, h1, h2, hc1])
    have s1 := fixed_size a ha
    have s2 := fixed_size b hb
    have s3 := fixed_size c hc
    have m1 := fun w => Tryz.bits_Mul64 a.natAbs b.natAbs (by omega) (by omega) w
    have hng := Lib.hid (show neg3 a b c = ((decide (a < 0) != decide (b < 0)) != decide (c < 0)) from rfl)
    generalize scaledS a b c = S at *
    clear ha hb hc
    generalize a.natAbs = A at *
    generalize b.natAbs = B at *
    generalize c.natAbs = C at *
    generalize A * B = X at *
    have hmod := Nat.div_add_mod' X 18446744073709551616
    have hml := Nat.mod_lt X (show 0 < 18446744073709551616 by omega)
    generalize X / 18446744073709551616 = H at *
    generalize X % 18446744073709551616 = L at *
    by_cases hHC : C ≤ H
    · have hx : ¬ (X / C ≤ 214748364799999) := by
        intro h
        have h3 : X < (214748364799999 + 1) * C := by
          have := Nat.div_lt_iff_lt_mul (k := C) (x := X) (y := 214748364799999 + 1) (by omega)
          exact this.1 (by omega)
        omega
      have hS := Lib.hid (show S = (0, false) by rw [hS.out, if_neg (by simpa using hx)])
      clear hx
      clear hmod hml
      go_enter Tryz.func40, Tryz.ntmps40
      go_wp2_with (first
        | (go_at_call 41; (with_reducible refine (fixed_In a _).mono ?_); rintro e w1 ⟨rfl, rfl⟩; rw [h1])
        | (go_at_call 41; (with_reducible refine (fixed_In b _).mono ?_); rintro e w1 ⟨rfl, rfl⟩; rw [h2])
        | (go_at_call 75; (with_reducible refine (s1 _).mono ?_); rintro e w1 ⟨rfl, rfl⟩)
        | (go_at_call 75; (with_reducible refine (s2 _).mono ?_); rintro e w1 ⟨rfl, rfl⟩)
        | (go_at_call 75; (with_reducible refine (s3 _).mono ?_); rintro e w1 ⟨rfl, rfl⟩)
        | (go_at_call 74; (with_reducible refine (m1 _).mono ?_); rintro e w1 ⟨rfl, rfl⟩))
      go_ret2
      exact ⟨by rw [hS.out]; rfl, Below.refl _ _⟩
    · have dv := fun w => div64 H L C (by omega) (by omega) hml w
      rw [hmod] at dv
      obtain ⟨Q, hQ⟩ := hidE ((X / C : Nat) : Int)
      have hQ0 : 0 ≤ Q := by rw [hQ.out]; exact Int.natCast_nonneg _
      have hS := Lib.hid (show S = if Q ≤ 214748364799999 then (if neg3 a b c = true then -Q else Q, true) else (0, false) by
        rw [hS.out, hQ.out]
        clear dv
        generalize X / C = q at *
        by_cases h : q ≤ 214748364799999
        · have h' : (q : Int) ≤ 214748364799999 := by omega
          simp [h, h']
        · have h' : ¬ (q : Int) ≤ 214748364799999 := by omega
          simp [h, h'])
      rw [← hQ.out] at dv
      clear hQ
      generalize X % C = M at *
      clear hmod hml
      go_enter Tryz.func40, Tryz.ntmps40
      go_wp2_with (first
        | (go_at_call 41; (with_reducible refine (fixed_In a _).mono ?_); rintro e w1 ⟨rfl, rfl⟩; rw [h1])
        | (go_at_call 41; (with_reducible refine (fixed_In b _).mono ?_); rintro e w1 ⟨rfl, rfl⟩; rw [h2])
        | (go_at_call 75; (with_reducible refine (s1 _).mono ?_); rintro e w1 ⟨rfl, rfl⟩)
        | (go_at_call 75; (with_reducible refine (s2 _).mono ?_); rintro e w1 ⟨rfl, rfl⟩)
        | (go_at_call 75; (with_reducible refine (s3 _).mono ?_); rintro e w1 ⟨rfl, rfl⟩)
        | (go_at_call 74; (with_reducible refine (m1 _).mono ?_); rintro e w1 ⟨rfl, rfl⟩)
        | (go_at_call 76; (with_reducible refine (dv _).mono ?_); rintro e w2 ⟨rfl, hw2⟩))
      · rename_i hq
        go_ret2
        exact ⟨by rw [hS.out, if_neg (by omega)]; rfl, hw2⟩
      · rename_i hq hn
        go_ret2
        exact ⟨by rw [hS.out, if_pos hq, if_pos (by rw [hng.out]; revert hn; cases decide (a < 0) <;> cases decide (b < 0) <;> cases decide (c < 0) <;> simp)]; rfl, hw2⟩
      · rename_i hq hn
        go_ret2
        exact ⟨by rw [hS.out, if_pos hq, if_neg (by rw [hng.out]; revert hn; cases decide (a < 0) <;> cases decide (b < 0) <;> cases decide (c < 0) <;> simp)]; rfl, hw2⟩
set_option maxHeartbeats 400000 in
theorem fixed_Mul (a b : Int) (ha : i64 a) (hb : i64 b) (w : World) : Calls Tryz.prog 24 #[.int .i64 a, .int .i64 b] w fun e w' => e = .returned (.tuple #[.int .i64 (scaledS a b 100000).1, .bool (scaledS a b 100000).2]) ∧ Below w.heap.size w w' := by
  have s := fixed_scaled a b 100000 ha hb (by unfold i64; omega) w
  generalize scaledS a b 100000 = S at *
  go_enter Tryz.func24, Tryz.ntmps24
  go_wp2_with (go_at_call 40; (with_reducible refine s.mono ?_); rintro e w1 ⟨rfl, hw1⟩)
  go_ret2
  exact ⟨rfl, hw1⟩
/-- numbers that lie at an address, if there are any -/
def Nums (w : World) (A : Option Addr) (zs : List Int) : Prop :=
  zs.length ≤ maxLen ∧ (0 < zs.length → ∃ b o, A = some ⟨b, o, none⟩ ∧ ∀ i (h : i < zs.length), w.cell? ⟨b, o + i, none⟩ = some (.int .i64 zs[i]))
theorem Nums.below {w w' : World} {A : Option Addr} {zs : List Int} (h : Nums w A zs) (hb : Below w.heap.size w w') : Nums w' A zs := by
  refine ⟨h.1, fun h0 => ?_⟩
  obtain ⟨b, o, e, hc⟩ := h.2 h0
  refine ⟨b, o, e, fun i hi => ?_⟩
  rw [hb.cell (p := ⟨b, o + i, none⟩) (cell_lt (hc i hi))]
  exact hc i hi
/-- the sum, as it is reckoned -/
def addF (s : Int) : List Int → Int × Bool
  | [] => (s, true)
  | x :: xs => if isIn x && isIn (s + x) then addF (s + x) xs else (0, false)
/-- the sum on the way: none, if there is none -/
def addO (zs : List Int) (k : Nat) : Option Int := if (addF 0 (zs.take k)).2 then some (addF 0 (zs.take k)).1 else none
theorem addF_app (a b : List Int) : ∀ s, addF s (a ++ b) = if (addF s a).2 then addF (addF s a).1 b else (0, false) := by
  induction a with
  | nil => intro s; rfl
  | cons x xs ih =>
    intro s
    simp only [List.cons_append, addF]
    split
    · rw [ih]
    · rfl
theorem addF_in : ∀ (zs : List Int) (s : Int), isIn s = true → (addF s zs).2 = true → isIn (addF s zs).1 = true := by
  intro zs
  induction zs with
  | nil => intro s h _; exact h
  | cons x xs ih =>
    intro s hs h
    simp only [addF] at h ⊢
    split at h
    · rename_i h2
      rw [if_pos h2]
      exact ih _ (by simp at h2; exact h2.2) h
    · cases h
theorem addF_take (zs : List Int) (k : Nat) (h : k < zs.length) (h2 : (addF 0 (zs.take k)).2 = true) : addF 0 (zs.take (k + 1)) = if isIn zs[k] && isIn ((addF 0 (zs.take k)).1 + zs[k]) then ((addF 0 (zs.take k)).1 + zs[k], true) else (0, false) := by
  rw [List.take_succ_eq_append_getElem h, addF_app, if_pos h2]
  rfl
theorem addF_stop (zs : List Int) (k : Nat) (h2 : (addF 0 (zs.take k)).2 = false) : (addF 0 zs) = (0, false) := by
  have : addF 0 zs = addF 0 (zs.take k ++ zs.drop k) := by rw [List.take_append_drop]
  rw [this, addF_app, if_neg (by rw [h2]; simp)]
theorem addF_bad : ∀ (zs : List Int) (s : Int), (addF s zs).2 = false → (addF s zs).1 = 0 := by
  intro zs
  induction zs with
  | nil => intro s h; cases h
  | cons x xs ih =>
    intro s h
    simp only [addF] at h ⊢
    split
    · rename_i h2; rw [if_pos h2] at h; exact ih _ h
    · rfl
set_option maxHeartbeats 1000000 in
theorem fixed_Add (A : Option Addr) (c : Nat) (zs : List Int) (w : World) (h : Nums w A zs) : Calls Tryz.prog 25 #[.slice A zs.length c] w fun e w' => e = .returned (.tuple #[.int .i64 (addF 0 zs).1, .bool (addF 0 zs).2]) ∧ w = w' := by
  obtain ⟨hm, hcell⟩ := h
  unfold maxLen at hm
  have hstop := Lib.hid (addF_stop zs)
  have htk := Lib.hid (addF_take zs)
  obtain ⟨S, hS⟩ : ∃ S, S = addF 0 zs := ⟨_, rfl⟩
  have hall := Lib.hid (show addF 0 (zs.take zs.length) = S by rw [List.take_length, hS])
  rw [← hS] at hstop ⊢
  clear hS
  go_enter Tryz.func25, Tryz.ntmps25
  go_wp2
  go_loop [4, 9] (fun s i => ∃ k : Nat, k ≤ zs.length ∧ i = .int .i64 k ∧ s = .int .i64 (addF 0 (zs.take k)).1 ∧ (addF 0 (zs.take k)).2 = true) (fun _ i => zs.length - (intOf i).toNat)
  case atStart => exact ⟨0, Nat.zero_le _, rfl, rfl, rfl⟩
  case round =>
    obtain ⟨k, hk, rfl, rfl, ht⟩ := hrel
    by_cases hlt : k < zs.length
    · obtain ⟨b, o, rfl, hc⟩ := hcell (by omega)
      have hck := hc k hlt
      have ht1 := htk.out k hlt ht
      have hst := hstop.out (k + 1)
      have hin := addF_in (zs.take k) 0 (by decide) ht
      have hin2 := (isIn_iff _).1 hin
      clear hc hcell
      generalize zs[k] = x at *
      have hs := Lib.hid (show addF 0 (zs.take k) = ((addF 0 (zs.take k)).1, true) by rw [← ht])
      generalize addF 0 (zs.take k) = q at *
      generalize hq1 : addF 0 (zs.take (k + 1)) = q1 at ht1 hst
      replace hq1 := Lib.hid hq1
      cases hx : isIn x with
      | false =>
        rw [hx] at ht1
        have hS := hst (by rw [ht1]; rfl)
        clear hst ht1 hs ht
        go_wp2_with (first
          | (go_at_call 41; (with_reducible refine (fixed_In x _).mono ?_); rintro e w1 ⟨rfl, rfl⟩; rw [hx]))
        go_ret2
        exact ⟨by rw [hS]; rfl, rfl⟩
      | true =>
        rw [hx] at ht1
        have hx2 := (isIn_iff _).1 hx
        cases hy : isIn (q.1 + x) with
        | false =>
          rw [hy] at ht1
          have hS := hst (by rw [ht1]; rfl)
          clear hst ht1 hs ht
          go_wp2_with (first
            | (go_at_call 41; (with_reducible refine (fixed_In x _).mono ?_); rintro e w1 ⟨rfl, rfl⟩; rw [hx])
            | (go_at_call 41; (with_reducible refine (fixed_In (q.1 + x) _).mono ?_); rintro e w1 ⟨rfl, rfl⟩; rw [hy]))
          go_ret2
          exact ⟨by rw [hS]; rfl, rfl⟩
        | true =>
          rw [hy] at ht1
          clear hst hs ht
          go_wp2_with (first
            | (go_at_call 41; (with_reducible refine (fixed_In x _).mono ?_); rintro e w1 ⟨rfl, rfl⟩; rw [hx])
            | (go_at_call 41; (with_reducible refine (fixed_In (q.1 + x) _).mono ?_); rintro e w1 ⟨rfl, rfl⟩; rw [hy]))
          refine ⟨⟨k + 1, by omega, by go_num, ?_, ?_⟩, by simp [intOf]; omega⟩
          · rw [hq1.out, ht1]; rfl
          · rw [hq1.out, ht1]; rfl
    · have hk' : k = zs.length := by omega
      subst hk'
      rw [hall.out] at ht ⊢
      clear htk hstop
      go_wp2
      go_ret2
      exact ⟨rfl, rfl⟩
end Go.Proofs.YtjlomalpmlgjbaaGreatDoor

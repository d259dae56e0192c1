/- Fixed: the reference's wide. No condition. -/
import Derived.Test.YtjlomalpmlgjbaaGreatDoorFxRules
namespace Go.Proofs.YtjlomalpmlgjbaaGreatDoor
open Go Go.RowKit Go.Wk
theorem and_one (x : Nat) (hx : x < 18446744073709551616) : bits .and .u64 (x : Int) 1 = ((x % 2 : Nat) : Int) := by
  have h := bits_and_u64_nat x 1 hx (by omega)
  rw [Nat.and_one_is_mod] at h
  exact h
theorem or_bit (x y : Nat) (hx : x * 2 < 18446744073709551616) (hy : y < 2) : bits .or .u64 ((x * 2 : Nat) : Int) (y : Int) = ((x * 2 + y : Nat) : Int) := or_parts x y 1 (by omega) (by simpa using hy) hx
/-- one bit more -/
theorem bit_step (b k : Nat) (hk : k < 64) : b / 2 ^ (63 - k) = b / 2 ^ (64 - k) * 2 + b / 2 ^ (63 - k) % 2 := by
  have : b / 2 ^ (64 - k) = b / 2 ^ (63 - k) / 2 := by
    rw [Nat.div_div_eq_div_mul, ← Nat.pow_succ, show (63 - k).succ = 64 - k by omega]
  rw [this]
  omega
theorem mul_step (a b k : Nat) (hk : k < 64) : a * (b / 2 ^ (63 - k)) = a * (b / 2 ^ (64 - k)) * 2 + a * (b / 2 ^ (63 - k) % 2) := by
  rw [bit_step b k hk, Nat.mul_add, Nat.mul_assoc, ← bit_step b k hk]
theorem carry {p a : Nat} (ha : a < 18446744073709551616) (h : (p * 2 + a) % 18446744073709551616 < p * 2 % 18446744073709551616) : (p * 2 + a) / 18446744073709551616 = p * 2 / 18446744073709551616 + 1 := by omega
theorem nocarry {p a : Nat} (ha : a < 18446744073709551616) (h : p * 2 % 18446744073709551616 ≤ (p * 2 + a) % 18446744073709551616) : (p * 2 + a) / 18446744073709551616 = p * 2 / 18446744073709551616 := by omega
theorem halves (p : Nat) : p / 18446744073709551616 * 2 + p % 18446744073709551616 / 9223372036854775808 = p * 2 / 18446744073709551616 := by omega
theorem and63 (J : Int) (h0 : 0 ≤ J) (h : J < 64) : bits .and .i64 J 63 = J := by
  obtain ⟨n, rfl⟩ : ∃ n : Nat, J = n := ⟨J.toNat, by omega⟩
  have hn : n < 64 := by omega
  have : ∀ m : Fin 64, bits .and .i64 ((m.val : Nat) : Int) 63 = ((m.val : Nat) : Int) := by decide +kernel
  exact this ⟨n, hn⟩
/-- what wide answers -/
def WideR (a b c : Nat) (w : World) (e : Ending) (w' : World) : Prop :=
  ∃ (q : Nat) (t : Bool), e = .returned (.tuple #[.int .u64 q, .bool t]) ∧ (t = true ∧ q = a * b / c ∧ q < 18446744073709551616 ∨ t = false ∧ 18446744073709551616 ≤ a * b / c) ∧ w = w'
theorem div_step {x c bit : Nat} (h : 0 < c) : (x % c * 2 + bit < c → (x * 2 + bit) / c = x / c * 2 ∧ (x * 2 + bit) % c = x % c * 2 + bit) ∧
    (c ≤ x % c * 2 + bit → bit < 2 → (x * 2 + bit) / c = x / c * 2 + 1 ∧ (x * 2 + bit) % c = x % c * 2 + bit - c) := by
  have e := Nat.div_add_mod' x c
  have hr := Nat.mod_lt x h
  generalize x / c = q at *
  generalize x % c = r at *
  constructor
  · intro h1
    have e2 : x * 2 + bit = r * 2 + bit + q * 2 * c := by
      rw [← e, Nat.add_mul, Nat.mul_right_comm]; omega
    rw [e2, Nat.add_mul_div_right _ _ h, Nat.add_mul_mod_self_right, Nat.div_eq_of_lt h1, Nat.mod_eq_of_lt h1]
    omega
  · intro h1 hb
    have e2 : x * 2 + bit = r * 2 + bit - c + (q * 2 + 1) * c := by
      rw [← e, Nat.add_mul, Nat.mul_right_comm, Nat.add_mul, Nat.one_mul]; omega
    have h3 : r * 2 + bit - c < c := by omega
    rw [e2, Nat.add_mul_div_right _ _ h, Nat.add_mul_mod_self_right, Nat.div_eq_of_lt h3, Nat.mod_eq_of_lt h3]
    omega
theorem bit_high (p k : Nat) (hk : k < 64) : p / 18446744073709551616 / 2 ^ (63 - k) = p / 2 ^ (127 - k) := by
  have : (18446744073709551616 : Nat) = 2 ^ 64 := by decide
  rw [this, Nat.div_div_eq_div_mul, ← Nat.pow_add, show 64 + (63 - k) = 127 - k by omega]
theorem bit_low (p j : Nat) (hj : j < 64) : p % 18446744073709551616 / 2 ^ j % 2 = p / 2 ^ j % 2 := by
  have e : (18446744073709551616 : Nat) = 2 ^ j * 2 ^ (64 - j) := by rw [← Nat.pow_add, show j + (64 - j) = 64 by omega]
  rw [e, Nat.mod_mul_right_div_self, Nat.mod_mod_of_dvd]
  exact ⟨2 ^ (63 - j), by rw [Nat.mul_comm, ← Nat.pow_succ, show (63 - j).succ = 64 - j by omega]⟩
theorem bit_step2 (p k : Nat) (hk : k < 128) : p / 2 ^ (127 - k) = p / 2 ^ (128 - k) * 2 + p / 2 ^ (127 - k) % 2 := by
  have : p / 2 ^ (128 - k) = p / 2 ^ (127 - k) / 2 := by
    rw [Nat.div_div_eq_div_mul, ← Nat.pow_succ, show (127 - k).succ = 128 - k by omega]
  rw [this]
  omega
theorem big_quot {p c k : Nat} (hk : k < 128) (h : 9223372036854775808 ≤ p / 2 ^ (128 - k) / c) : 18446744073709551616 ≤ p / c := by
  rw [Nat.div_div_eq_div_mul, Nat.mul_comm, ← Nat.div_div_eq_div_mul] at h
  have h2 := Nat.div_mul_le_self (p / c) (2 ^ (128 - k))
  have h3 : 2 ≤ 2 ^ (128 - k) := by
    have : 2 ^ 1 ≤ 2 ^ (128 - k) := Nat.pow_le_pow_right (by omega) (by omega)
    simpa using this
  have h4 : 9223372036854775808 * 2 ≤ p / c / 2 ^ (128 - k) * 2 ^ (128 - k) := Nat.mul_le_mul h h3
  omega
set_option maxHeartbeats 2000000 in
theorem ref_wide (a b c : Nat) (ha : a < 18446744073709551616) (hb : b < 18446744073709551616) (hc : 1 ≤ c) (hc2 : c ≤ 214748364799999) (w : World) :
    Calls Tryz.prog 77 #[.int .u64 a, .int .u64 b, .int .u64 c] w fun e w' => WideR a b c w e w' := by
  obtain ⟨A, hA⟩ := hidE (a : Int)
  obtain ⟨B, hB⟩ := hidE (b : Int)
  obtain ⟨C, hC⟩ := hidE (c : Int)
  rw [← hA.out, ← hB.out, ← hC.out]
  go_enter Tryz.func77, Tryz.ntmps77
  go_wp2
  go_loop [8, 9, 10] (fun h l i => ∃ k p : Nat, k ≤ 64 ∧ i = .int .i64 (63 - k) ∧ h = .int .u64 (p / 18446744073709551616 : Nat) ∧ l = .int .u64 (p % 18446744073709551616 : Nat) ∧ p = a * (b / 2 ^ (64 - k))) (fun _ _ i => (intOf i + 1).toNat)
  case atStart =>
    refine ⟨0, 0, by omega, rfl, rfl, rfl, ?_⟩
    rw [Nat.div_eq_of_lt (by simpa using hb), Nat.mul_zero]
  case round =>
    obtain ⟨k, p, hk, rfl, rfl, rfl, hp⟩ := hrel
    obtain ⟨H, hH⟩ := hidE ((p / 18446744073709551616 : Nat) : Int)
    obtain ⟨L, hL⟩ := hidE ((p % 18446744073709551616 : Nat) : Int)
    obtain ⟨I, hI⟩ := hidE (63 - (k : Int))
    rw [← hH.out, ← hL.out, ← hI.out]
    replace hp := Lib.hid hp
    by_cases hlt : k < 64
    · have hI0 : 0 ≤ I ∧ I ≤ 63 := by rw [hI.out]; omega
      have hc' := Lib.hid hc; have ha' := Lib.hid ha; have hb' := Lib.hid hb; have hc2' := Lib.hid hc2
      have hlt' := hlt
      clear ha hb hc hc2
      have hms := mul_step a b k hlt'
      have hbs : b / 2 ^ (63 - k) < 18446744073709551616 := Nat.lt_of_le_of_lt (Nat.div_le_self _ _) hb'.out
      have hpl : a * (b / 2 ^ (63 - k)) < 18446744073709551616 * 18446744073709551616 := Nat.mul_lt_mul'' ha'.out hbs
      rw [← hp.out] at hms
      have F1 : bits .and .u64 (B / 2 ^ I.toNat) 1 = ((b / 2 ^ (63 - k) % 2 : Nat) : Int) := by
        rw [hB.out, show I.toNat = 63 - k by rw [hI.out]; omega, show ((b : Int) / 2 ^ (63 - k)) = ((b / 2 ^ (63 - k) : Nat) : Int) by rw [Int.natCast_ediv, Int.natCast_pow]; rfl, and_one _ hbs]
      have hbit : b / 2 ^ (63 - k) % 2 < 2 := Nat.mod_lt _ (by omega)
      have hexp : 64 - (k + 1) = 63 - k := by omega
      generalize b / 2 ^ (63 - k) % 2 = bit at *
      generalize hP : a * (b / 2 ^ (63 - k)) = P at *
      have hal := ha'.out
      have hmb : a * bit = 0 ∧ bit = 0 ∨ a * bit = a ∧ bit = 1 := by
        rcases (by omega : bit = 0 ∨ bit = 1) with rfl | rfl
        · exact .inl ⟨Nat.mul_zero _, rfl⟩
        · exact .inr ⟨Nat.mul_one _, rfl⟩
      have F2 : IntKind.u64.wrap (H * 2) = ((p / 18446744073709551616 * 2 : Nat) : Int) := by rw [hH.out, IntKind.wrap_u64]; omega
      have F3 : L / 9223372036854775808 = ((p % 18446744073709551616 / 9223372036854775808 : Nat) : Int) := by rw [hL.out]; omega
      have F4 := or_bit (p / 18446744073709551616) (p % 18446744073709551616 / 9223372036854775808) (by omega) (by omega)
      have F5 : IntKind.u64.wrap (L * 2) = ((p * 2 % 18446744073709551616 : Nat) : Int) := by rw [hL.out, IntKind.wrap_u64]; omega
      have F6 : IntKind.u64.wrap (((p * 2 % 18446744073709551616 : Nat) : Int) + A) = (((p * 2 + a) % 18446744073709551616 : Nat) : Int) := by rw [hA.out, IntKind.wrap_u64]; omega
      have G := Lib.hid (And.intro F1 (And.intro F2 (And.intro F3 (And.intro F4 (And.intro F5 (And.intro F6 (And.intro hms hmb)))))))
      replace hpl := Lib.hid hpl
      replace hP := Lib.hid hP
      clear F1 F2 F3 F4 F5 F6 hms hmb hbs hbit hal
      go_wp2
      · rename_i hb1 hb2
        obtain ⟨F1, F2, F3, F4, F5, F6, hms, hmb⟩ := G.out
        have hpl := hpl.out
        rw [F1] at hb1
        rw [F5, F6] at hb2
        have hb3 : bit = 1 := by simp at hb1; omega
        have hab : a * bit = a := by rw [hb3, Nat.mul_one]
        have hcy := carry ha'.out (by omega : (p * 2 + a) % 18446744073709551616 < p * 2 % 18446744073709551616)
        have hP2 : P = p * 2 + a := by omega
        have hPn : P / 18446744073709551616 < 18446744073709551616 := Nat.div_lt_of_lt_mul hpl
        refine ⟨⟨k + 1, P, by omega, by rw [hI.out]; congr 1; omega, ?_, ?_, by rw [hexp, hP.out]⟩, by simp [intOf]; omega⟩
        · rw [F2, F3, F4, halves, IntKind.wrap_u64, hP2, hcy]
          rw [hP2, hcy] at hPn
          congr 1
          omega
        · rw [F5, F6, hP2]
      · rename_i hb1 hb2
        obtain ⟨F1, F2, F3, F4, F5, F6, hms, hmb⟩ := G.out
        have hpl := hpl.out
        rw [F1] at hb1
        rw [F5, F6] at hb2
        have hb3 : bit = 1 := by simp at hb1; omega
        have hab : a * bit = a := by rw [hb3, Nat.mul_one]
        have hcy := nocarry ha'.out (by omega : p * 2 % 18446744073709551616 ≤ (p * 2 + a) % 18446744073709551616)
        have hP2 : P = p * 2 + a := by omega
        refine ⟨⟨k + 1, P, by omega, by rw [hI.out]; congr 1; omega, ?_, ?_, by rw [hexp, hP.out]⟩, by simp [intOf]; omega⟩
        · rw [F2, F3, F4, halves, hP2, hcy]
        · rw [F5, F6, hP2]
      · rename_i hb1
        obtain ⟨F1, F2, F3, F4, F5, F6, hms, hmb⟩ := G.out
        rw [F1] at hb1
        have hb3 : bit = 0 := by
          rcases hmb with ⟨_, h⟩ | ⟨_, h⟩
          · exact h
          · subst h; simp at hb1
        have hP2 : P = p * 2 := by rw [hms, hb3, Nat.mul_zero, Nat.add_zero]
        refine ⟨⟨k + 1, P, by omega, by rw [hI.out]; congr 1; omega, ?_, ?_, by rw [hexp, hP.out]⟩, by simp [intOf]; omega⟩
        · rw [F2, F3, F4, halves, hP2]
        · rw [F5, hP2]
    · have hk64 : k = 64 := by omega
      have hI0 : I < 0 := by rw [hI.out]; omega
      have hp2 : p = a * b := by rw [hp.out, hk64]; simp
      have hc' := Lib.hid hc; have ha' := Lib.hid ha; have hb' := Lib.hid hb; have hc2' := Lib.hid hc2
      clear ha hb hc hc2 hlt hk
      replace hp2 := Lib.hid hp2
      go_wp2
      have hpb : p < 18446744073709551616 * 18446744073709551616 := by rw [hp2.out]; exact Nat.mul_lt_mul'' ha'.out hb'.out
      replace hpb := Lib.hid hpb
      have hpb : p < 18446744073709551616 * 18446744073709551616 := by rw [hp2.out]; exact Nat.mul_lt_mul'' ha'.out hb'.out
      replace hpb := Lib.hid hpb
      have hpb : p < 18446744073709551616 * 18446744073709551616 := by rw [hp2.out]; exact Nat.mul_lt_mul'' ha'.out hb'.out
      replace hpb := Lib.hid hpb
      have hpb : p < 18446744073709551616 * 18446744073709551616 := by rw [hp2.out]; exact Nat.mul_lt_mul'' ha'.out hb'.out
      replace hpb := Lib.hid hpb
      go_loop [12, 13, 14] (fun q r i => ∃ k : Nat, k ≤ 128 ∧ i = .int .i64 (127 - k) ∧ q = .int .u64 (p / 2 ^ (128 - k) / c : Nat) ∧ r = .int .u64 (p / 2 ^ (128 - k) % c : Nat) ∧ p / 2 ^ (128 - k) / c < 18446744073709551616) (fun _ _ i => (intOf i + 1).toNat)
      case atStart =>
        have h0 : p / 2 ^ (128 - 0) = 0 := Nat.div_eq_of_lt hpb.out
        refine ⟨0, by omega, rfl, ?_, ?_, ?_⟩ <;> rw [h0] <;> simp
      case round =>
        obtain ⟨k, hk, rfl, rfl, rfl, hq⟩ := hrel
        by_cases hlt : k < 128
        · have hst := bit_step2 p k hlt
          have hdv := @div_step (p / 2 ^ (128 - k)) c (p / 2 ^ (127 - k) % 2) (by have := hc'.out; omega)
          rw [← hst] at hdv
          have hbig := @big_quot p c k hlt
          have hbh := bit_high p k
          have hbl := bit_low p (127 - k)
          have hexp : 128 - (k + 1) = 127 - k := by omega
          have hr : p / 2 ^ (128 - k) % c < c := Nat.mod_lt _ (by have := hc'.out; omega)
          have hbit : p / 2 ^ (127 - k) % 2 < 2 := Nat.mod_lt _ (by omega)
          have hph : p / 18446744073709551616 < 18446744073709551616 := Nat.div_lt_of_lt_mul hpb.out
          have hpl : p % 18446744073709551616 < 18446744073709551616 := Nat.mod_lt _ (by omega)
          have hJ1 : (127 - (k : Int)) - 1 = 127 - ((k + 1 : Nat) : Int) := by omega
          obtain ⟨J, hJ⟩ := hidE (127 - (k : Int))
          rw [← hJ.out] at hJ1 ⊢
          have hJ0 : 0 ≤ J ∧ J ≤ 127 := by rw [hJ.out]; omega
          have D1 : 64 ≤ J → bits .and .u64 (H / 2 ^ (J - 64).toNat) 1 = ((p / 2 ^ (127 - k) % 2 : Nat) : Int) := by
            intro h
            rw [hH.out, show (J - 64).toNat = 63 - k by rw [hJ.out]; omega, show (((p / 18446744073709551616 : Nat) : Int) / 2 ^ (63 - k)) = ((p / 18446744073709551616 / 2 ^ (63 - k) : Nat) : Int) by rw [Int.natCast_ediv (p / 18446744073709551616), Int.natCast_pow]; rfl,
              and_one _ (Nat.lt_of_le_of_lt (Nat.div_le_self _ _) hph), hbh (by rw [hJ.out] at h; omega)]
          have D2 : J < 64 → bits .and .u64 (L / 2 ^ min (IntKind.u64.wrap (bits .and .i64 J 63)).toNat 64) 1 = ((p / 2 ^ (127 - k) % 2 : Nat) : Int) := by
            intro h
            have e1 : bits .and .i64 J 63 = J := and63 J hJ0.1 h
            rw [e1, show min (IntKind.u64.wrap J).toNat 64 = 127 - k by rw [IntKind.wrap_u64, hJ.out]; rw [hJ.out] at h; omega, hL.out, show (((p % 18446744073709551616 : Nat) : Int) / 2 ^ (127 - k)) = ((p % 18446744073709551616 / 2 ^ (127 - k) : Nat) : Int) by rw [Int.natCast_ediv (p % 18446744073709551616), Int.natCast_pow]; rfl,
              and_one _ (Nat.lt_of_le_of_lt (Nat.div_le_self _ _) hpl), hbl (by rw [hJ.out] at h; omega)]
          generalize p / 2 ^ (127 - k) % 2 = bit at *
          generalize hx : p / 2 ^ (127 - k) = x' at *
          replace hx := Lib.hid hx
          generalize p / 2 ^ (128 - k) / c = q at *
          generalize p / 2 ^ (128 - k) % c = r at *
          have hcc := hc2'.out
          have hc0 := hc'.out
          obtain ⟨Q, hQ⟩ := hidE (q : Int)
          obtain ⟨R, hR⟩ := hidE (r : Int)
          rw [← hQ.out, ← hR.out]
          have D3 : R * 2 = ((r * 2 : Nat) : Int) := by rw [hR.out]; omega
          have D4 := or_bit r bit (by omega) hbit
          have D7 : c ≤ r * 2 + bit → IntKind.u64.wrap (((r * 2 + bit : Nat) : Int) - C) = ((r * 2 + bit - c : Nat) : Int) := by intro h; rw [hC.out, IntKind.wrap_u64]; omega
          have D5 : q < 9223372036854775808 → IntKind.u64.wrap (Q * 2) = ((q * 2 : Nat) : Int) ∧ bits .or .u64 ((q * 2 : Nat) : Int) 1 = ((q * 2 + 1 : Nat) : Int) := by
            intro h
            exact ⟨by rw [hQ.out, IntKind.wrap_u64]; omega, or_bit q 1 (by omega) (by omega)⟩
          have hR0 : 0 ≤ R ∧ R < 214748364799999 := by rw [hR.out]; omega
          have hQ0 : 0 ≤ Q ∧ Q < 18446744073709551616 := by rw [hQ.out]; omega
          have G := Lib.hid (And.intro D1 (And.intro D2 (And.intro D3 (And.intro D4 (And.intro D5 (And.intro D7 (And.intro hdv (And.intro hbig (And.intro hbit hJ1)))))))))
          clear D1 D2 D3 D4 D5 D7 hdv hbig hbit hJ1 hst hbh hbl hcc hc0 hph hpl hr hq
          go_wp2
          all_goals
            obtain ⟨D1, D2, D3, D4, D5, D7, hdv, hbig, hbit, hJ1⟩ := G.out
            have hQe := hQ.out
            have hRe := hR.out
          all_goals first
            | (exfalso; omega)
            | (rename (_ == (1 : Int)) = true => hq1
               have hq2 : Q / 9223372036854775808 = 1 := by simpa using hq1
               go_ret2
               exact ⟨0, false, rfl, .inr ⟨rfl, by rw [← hp2.out]; exact hbig (by omega)⟩, rfl⟩)
            | skip
          all_goals
            rename (Q / _ == (1 : Int)) = false => hq1
            have hq2 : ¬ Q / 9223372036854775808 = 1 := by simpa using hq1
            have hq3 : q < 9223372036854775808 := by omega
            obtain ⟨E1, E2⟩ := D5 hq3
            have hRz : (R / 9223372036854775808 == 1) = false := by simp; omega
          all_goals first
            | have D := D1 (by assumption)
            | have D := D2 (by assumption)
          all_goals first
            | (rename _ ∨ _ ≤ bits _ _ _ _ => hge
               rw [D3, D, D4] at hge
               have hge2 : c ≤ r * 2 + bit := by
                 rcases hge with h | h
                 · rw [hRz] at h; cases h
                 · rw [hC.out] at h; omega
               obtain ⟨e1, e2⟩ := hdv.2 hge2 hbit
               refine ⟨⟨k + 1, by omega, by rw [hJ1], ?_, ?_, ?_⟩, by simp [intOf]; omega⟩
               · rw [hexp, hx.out, E1, E2, e1]
               · rw [hexp, hx.out, D3, D, D4, D7 hge2, e2]
               · rw [hexp, hx.out, e1]; omega)
            | (rename _ ∧ bits _ _ _ _ < _ => hge
               rw [D3, D, D4] at hge
               have hge2 : r * 2 + bit < c := by
                 have h := hge.2
                 rw [hC.out] at h; omega
               obtain ⟨e1, e2⟩ := hdv.1 hge2
               refine ⟨⟨k + 1, by omega, by rw [hJ1], ?_, ?_, ?_⟩, by simp [intOf]; omega⟩
               · rw [hexp, hx.out, E1, e1]
               · rw [hexp, hx.out, D3, D, D4, e2]
               · rw [hexp, hx.out, e1]; omega)
        · have hk2 : k = 128 := by omega
          subst hk2
          have hq2 : p / 2 ^ (128 - 128) / c = a * b / c := by rw [hp2.out]; simp
          rw [hq2] at hq ⊢
          generalize hq3 : a * b / c = q at *
          replace hq3 := Lib.hid hq3
          clear hq2
          have hJ0 : (127 : Int) - ((128 : Nat) : Int) = -1 := by omega
          rw [hJ0]
          have hq4 := Lib.hid hq
          clear hq
          go_wp2
          go_ret2
          exact ⟨q, true, rfl, .inl ⟨rfl, hq3.out.symm, hq4.out⟩, rfl⟩
end Go.Proofs.YtjlomalpmlgjbaaGreatDoor

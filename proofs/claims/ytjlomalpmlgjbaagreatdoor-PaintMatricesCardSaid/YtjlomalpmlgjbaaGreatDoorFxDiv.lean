/- Fixed: the contract of Div64. No condition. -/
import Derived.Test.YtjlomalpmlgjbaaGreatDoorFxA0
import Derived.Lib.ItoaNum
import Derived.RegionTactic
import Derived.ChangeAlike
namespace Go.Proofs.YtjlomalpmlgjbaaGreatDoor
open Go Go.RowKit Go.Wk
theorem wrapN (a : Nat) (ha : a < 18446744073709551616) : IntKind.u64.wrap (a : Int) = (a : Int) := by rw [IntKind.wrap_u64]; omega
theorem norm_y (y s : Nat) (_hy : y < 18446744073709551616) (b1 : 1 ≤ Lib.bitLenAux 64 y) (b2 : 2 ^ (Lib.bitLenAux 64 y - 1) ≤ y) (b3 : y < 2 ^ Lib.bitLenAux 64 y) (hs : s + Lib.bitLenAux 64 y = 64) : 9223372036854775808 ≤ y * 2 ^ s ∧ y * 2 ^ s < 18446744073709551616 := by
  have hp := Nat.two_pow_pos s
  constructor
  · have : 2 ^ (Lib.bitLenAux 64 y - 1) * 2 ^ s ≤ y * 2 ^ s := Nat.mul_le_mul_right _ b2
    rw [← Nat.pow_add, show Lib.bitLenAux 64 y - 1 + s = 63 by omega] at this
    omega
  · have : y * 2 ^ s < 2 ^ Lib.bitLenAux 64 y * 2 ^ s := Nat.mul_lt_mul_of_pos_right b3 hp
    rw [← Nat.pow_add, show Lib.bitLenAux 64 y + s = 64 by omega] at this
    omega
theorem top_lt {hi y l p : Nat} (h : hi < y) (hl : l < p) : hi * p + l < y * p := by
  have : (hi + 1) * p ≤ y * p := Nat.mul_le_mul_right _ h
  rw [Nat.add_mul] at this
  omega
theorem quot_lt {N Q Y R M : Nat} (h : N = Q * Y + R) (hR : R < Y) (hM : N / Y < M) : Q < M := by
  have : N / Y = Q := by rw [h, Nat.add_comm, Nat.add_mul_div_right _ _ (Nat.lt_of_le_of_lt (Nat.zero_le _) hR), Nat.div_eq_of_lt hR, Nat.zero_add]
  omega
/-- a number under another name -/
theorem hidE (a : Int) : ∃ A : Int, Hid (A = a) := ⟨a, Lib.hid rfl⟩
theorem or_parts (a b s : Nat) (hs : s ≤ 64) (hb : b < 2 ^ s) (ha : a * 2 ^ s < 18446744073709551616) : bits .or .u64 ((a * 2 ^ s : Nat) : Int) (b : Int) = ((a * 2 ^ s + b : Nat) : Int) := by
  have hp : 2 ^ s ≤ 2 ^ 64 := Nat.pow_le_pow_right (by omega) hs
  have h := bits_or_u64_nat (a * 2 ^ s) b ha (by omega)
  have h2 : a * 2 ^ s ||| b = a * 2 ^ s + b := by
    have := Nat.shiftLeft_add_eq_or_of_lt hb a
    rw [Nat.shiftLeft_eq] at this
    exact this.symm
  rw [h2] at h
  exact h
set_option maxHeartbeats 1000000 in
theorem div64_low (lo y : Nat) (h : 0 < y) (hy : y < 18446744073709551616) (hl : lo < 18446744073709551616) (w : World) : Calls Tryz.prog 76 #[.int .u64 0, .int .u64 lo, .int .u64 y] w fun e w' => e = .returned (.tuple #[.int .u64 (lo / y : Nat), .int .u64 (lo % y : Nat)]) ∧ Below w.heap.size w w' := by
  have E8 : Hid ((lo : Int) / (y : Int) = ((lo / y : Nat) : Int)) := Lib.hid (Int.natCast_ediv _ _).symm
  have E9 : Hid ((lo : Int) % (y : Int) = ((lo % y : Nat) : Int)) := Lib.hid (Int.natCast_emod _ _).symm
  obtain ⟨Y, hY⟩ := hidE (y : Int)
  obtain ⟨L, hL⟩ := hidE (lo : Int)
  rw [← hY.out, ← hL.out] at E8 E9
  have hY0 : 0 < Y ∧ Y < 18446744073709551616 := by rw [hY.out]; omega
  have hL0 : 0 ≤ L ∧ L < 18446744073709551616 := by rw [hL.out]; omega
  rw [← hY.out, ← hL.out]
  generalize lo / y = q at *
  generalize lo % y = r at *
  clear h hy hl
  go_enter Tryz.func76, Tryz.ntmps76
  go_wp2
  go_region
  go_wp2
  go_ret2
  refine ⟨?_, (Below.refl _ _).drew⟩
  simp [E8.out, E9.out]
set_option maxHeartbeats 4000000 in
theorem div64 (hi lo y : Nat) (h : hi < y) (hy : y < 18446744073709551616) (hl : lo < 18446744073709551616) (w : World) : Calls Tryz.prog 76 #[.int .u64 hi, .int .u64 lo, .int .u64 y] w fun e w' => e = .returned (.tuple #[.int .u64 ((hi * 18446744073709551616 + lo) / y : Nat), .int .u64 ((hi * 18446744073709551616 + lo) % y : Nat)]) ∧ Below w.heap.size w w' := by
  by_cases h0 : hi = 0
  · subst h0
    simp only [Nat.zero_mul, Nat.zero_add]
    exact div64_low lo y h hy hl w
  · have e0 : ((hi : Int) == 0) = false := by simp; omega
    have e1 : ((y : Int) == 0) = false := by simp; omega
    have e2 : decide ((y : Int) ≤ (hi : Int)) = false := by simp; omega
    generalize hq : (hi * 18446744073709551616 + lo) / y = qq at *
    generalize hm : (hi * 18446744073709551616 + lo) % y = mm at *
    replace hq := Lib.hid hq
    replace hm := Lib.hid hm
    go_enter Tryz.func76, Tryz.ntmps76
    go_wp2_with (go_at_call 125; (with_reducible refine (Tryz.bits_LeadingZeros64 y w (by omega) (by omega)).mono ?_); rintro e w1 ⟨rfl, rfl⟩)
    all_goals
      obtain ⟨b1, b2, b3⟩ := Lib.bitLenAux_bounds 64 y (by omega) (by omega)
      have b4 := Lib.bitLen_le y 64 (by omega) (by omega)
      obtain ⟨s, hs⟩ : ∃ s, s = 64 - Lib.bitLen y := ⟨_, rfl⟩
      have hs63 : s ≤ 63 := by unfold Lib.bitLen at *; omega
      have hY := norm_y y s hy b1 b2 b3 (by unfold Lib.bitLen at *; omega)
      have E1 : IntKind.u64.wrap (64 - (Lib.bitLen y : Int)) = (s : Int) := by rw [IntKind.wrap_u64]; omega
      have E1b : min ((s : Int)).toNat 64 = s := by omega
      have E5 : IntKind.u64.wrap (64 - (s : Int)) = ((64 - s : Nat) : Int) := by rw [IntKind.wrap_u64]; omega
      have E5b : min (((64 - s : Nat) : Int)).toNat 64 = 64 - s := by omega
      have ez : ∀ a : Nat, (a : Int) * 2 ^ s = ((a * 2 ^ s : Nat) : Int) := fun a => by rw [Int.natCast_mul, Int.natCast_pow]; rfl
      have E2 : IntKind.u64.wrap ((y : Int) * 2 ^ s) = ((y * 2 ^ s : Nat) : Int) := by rw [ez]; exact wrapN _ hY.2
      have hiY : hi * 2 ^ s < y * 2 ^ s := Nat.mul_lt_mul_of_pos_right h (Nat.two_pow_pos s)
      have E6a : IntKind.u64.wrap ((hi : Int) * 2 ^ s) = ((hi * 2 ^ s : Nat) : Int) := by rw [ez]; exact wrapN _ (by omega)
      have E6b : (lo : Int) / 2 ^ (64 - s) = ((lo / 2 ^ (64 - s) : Nat) : Int) := by rw [Int.natCast_ediv, Int.natCast_pow]; rfl
      have hlo : lo / 2 ^ (64 - s) < 2 ^ s := by
        rw [Nat.div_lt_iff_lt_mul (Nat.two_pow_pos _), ← Nat.pow_add, show s + (64 - s) = 64 by omega]; omega
      have E6 := or_parts hi (lo / 2 ^ (64 - s)) s (by omega) hlo (by omega)
      have E7 : IntKind.u64.wrap ((lo : Int) * 2 ^ s) = ((lo * 2 ^ s % 18446744073709551616 : Nat) : Int) := by rw [ez, IntKind.wrap_u64]; omega
      have hU : hi * 2 ^ s + lo / 2 ^ (64 - s) < y * 2 ^ s := top_lt h hlo
      have E1c := Go.Proofs.Mul64.maskN
      have E1d := Go.Proofs.Mul64.divN
    all_goals (simp only [E1, E1b, E2, E5, E5b, E6a, E6b, E6, E7, E1d, E1c _ hY.2, E1c _ (Nat.mod_lt (lo * 2 ^ s) (show 0 < 18446744073709551616 by omega))])
    · exfalso
      have hne : ¬ IntKind.u64.wrap ((y : Int) * 2 ^ min (IntKind.u64.wrap (64 - (Lib.bitLen y : Int))).toNat 64) / 4294967296 = 0 := by
        simp only [E1, E1b, E2, E1d]
        omega
      exact absurd (by assumption) hne
    · have hW : Hid (∀ q1 r1 q0 r0, (hi * 2 ^ s + lo / 2 ^ (64 - s)) * 4294967296 + (lo * 2 ^ s % 18446744073709551616) / 4294967296 = q1 * (y * 2 ^ s) + r1 → r1 * 4294967296 + (lo * 2 ^ s % 18446744073709551616) % 4294967296 = q0 * (y * 2 ^ s) + r0 → r0 < y * 2 ^ s → q1 * 4294967296 + q0 = qq ∧ r0 / 2 ^ s = mm) :=
        Lib.hid fun q1 r1 q0 r0 h1 h0 hr => by rw [← hq.out, ← hm.out]; exact kn_whole hi lo y s (by omega) (by omega) _ _ _ q1 r1 q0 r0 rfl rfl rfl h1 h0 hr
      have ht0 : (lo * 2 ^ s % 18446744073709551616) % 4294967296 < 4294967296 := Nat.mod_lt _ (by omega)
      have ht1 : (lo * 2 ^ s % 18446744073709551616) / 4294967296 < 4294967296 := by omega
      have hY1 : 2147483648 ≤ y * 2 ^ s / 4294967296 ∧ y * 2 ^ s / 4294967296 < 4294967296 := by omega
      have hY0 : y * 2 ^ s % 4294967296 < 4294967296 := Nat.mod_lt _ (by omega)
      have hYe : y * 2 ^ s = y * 2 ^ s / 4294967296 * 4294967296 + y * 2 ^ s % 4294967296 := (Nat.div_add_mod' _ _).symm
      have hsh : ∀ r : Nat, ((r : Int) / 2 ^ s) = ((r / 2 ^ s : Nat) : Int) := fun r => by rw [Int.natCast_ediv, Int.natCast_pow]; rfl
      have hsh := Lib.hid hsh
      clear E1 E1b E2 E5 E5b E6a E6b E6 E7 E1d E1c ez hlo hiY b1 b2 b3 b4
      generalize (lo * 2 ^ s % 18446744073709551616) / 4294967296 = t1 at *
      generalize (lo * 2 ^ s % 18446744073709551616) % 4294967296 = t0 at *
      generalize (lo * 2 ^ s % 18446744073709551616) = t at *
      generalize y * 2 ^ s / 4294967296 = y1 at *
      generalize y * 2 ^ s % 4294967296 = y0 at *
      generalize y * 2 ^ s = Y at *
      generalize hi * 2 ^ s + lo / 2 ^ (64 - s) = U at *
      generalize hi * 2 ^ s = junk1 at *
      generalize lo / 2 ^ (64 - s) = junk2 at *
      generalize 64 - s = junk3 at *
      generalize (64 - (Lib.bitLen y : Int)) = junk4 at *
      have hK : ∀ U d, U < Y → d < 4294967296 → KnOk Y y1 y0 U d := fun U d hu hd => ⟨hYe, hY0, hY1.1, hY1.2, hu, hd⟩
      have hY2 := hY.2
      have E8 : IntKind.u64.wrap ((U : Int).tdiv (y1 : Int)) = ((U / y1 : Nat) : Int) := by
        rw [← Int.ofNat_tdiv, wrapN]
        have := Nat.div_le_self U y1
        omega
      have hm1 := Nat.mod_add_div' U y1
      have E9 : IntKind.u64.wrap (((U / y1 : Nat) : Int) * (y1 : Int)) = ((U / y1 * y1 : Nat) : Int) := by
        rw [← Int.natCast_mul, wrapN]; omega
      have E10 : IntKind.u64.wrap ((U : Int) - ((U / y1 * y1 : Nat) : Int)) = ((U % y1 : Nat) : Int) := by
        rw [IntKind.wrap_u64]; omega
      simp only [E8, E9, E10]
      obtain ⟨i1, i2⟩ := kn_init (hK U t1 hU ht1)
      rename ¬ (_ / 4294967296 = (0 : Int)) => g2
      replace hK := Lib.hid hK
      clear E8 E9 E10 hm1 hY hs g2
      go_loop [15, 16] (fun q b => ∃ a r : Nat, q = .int .u64 a ∧ b = .int .u64 r ∧ Kn Y y1 y0 U t1 a r ∧ r < 4294967296) (fun q _ => (intOf q).toNat)
      case atStart => exact ⟨_, _, rfl, rfl, i1, i2⟩
      case round =>
        obtain ⟨a, r, rfl, rfl, i3, i4⟩ := hrel
        have i5 := i3.top
        clear i1 i2 hYe
        have hst := Lib.hid (kn_step (hK.out U t1 hU ht1) i3)
        have hen := Lib.hid (kn_end (hK.out U t1 hU ht1) i3)
        have hbr := Lib.hid fun (h : 1 ≤ a ∧ Kn Y y1 y0 U t1 (a - 1) (r + y1)) (h2 : 4294967296 ≤ r + y1) => kn_break (hK.out U t1 hU ht1) h.2 (by omega) h2
        have hay : a * y0 ≤ 18446744073709551615 := by
          have : a * y0 ≤ 4294967297 * 4294967295 := Nat.mul_le_mul i5 (by omega)
          omega
        have E1 := Lib.hid (show IntKind.u64.wrap ((a : Int) * (y0 : Int)) = ((a * y0 : Nat) : Int) by rw [← Int.natCast_mul, wrapN]; omega)
        have E2 := Lib.hid (show IntKind.u64.wrap (IntKind.u64.wrap (4294967296 * (r : Int)) + (t1 : Int)) = ((4294967296 * r + t1 : Nat) : Int) by rw [IntKind.wrap_u64, IntKind.wrap_u64]; omega)
        have E3 := Lib.hid (show IntKind.u64.wrap ((r : Int) + (y1 : Int)) = ((r + y1 : Nat) : Int) by rw [IntKind.wrap_u64]; omega)
        have E4 := Lib.hid (show 1 ≤ a → IntKind.u64.wrap ((a : Int) - 1) = ((a - 1 : Nat) : Int) by intro h; rw [IntKind.wrap_u64]; omega)
        have hcases : Hid (((4294967296 ≤ a ∨ 4294967296 * r + t1 < a * y0) ∧ 4294967296 ≤ r + y1) ∨ ((4294967296 ≤ a ∨ 4294967296 * r + t1 < a * y0) ∧ r + y1 < 4294967296) ∨ (a < 4294967296 ∧ a * y0 ≤ 4294967296 * r + t1)) := Lib.hid (by omega)
        clear hay
        obtain ⟨A, hA⟩ := hidE (a : Int)
        rw [← hA.out] at E1 E4 ⊢
        obtain ⟨R, hR⟩ := hidE (r : Int)
        rw [← hR.out] at E2 E3 ⊢
        obtain ⟨Y0, hY0'⟩ := hidE (y0 : Int)
        rw [← hY0'.out] at E1 ⊢
        obtain ⟨Y1, hY1'⟩ := hidE (y1 : Int)
        rw [← hY1'.out] at E3 ⊢
        obtain ⟨T1, hT1'⟩ := hidE (t1 : Int)
        rw [← hT1'.out] at E2 ⊢
        rcases hcases.out with hc | hc | hc
        · replace hc := Lib.hid hc
          go_wp2
          all_goals first
            | (exfalso
               have k1 := E1.out; have k2 := E2.out; have k3 := E3.out; have k4 := E4.out; have k5 := hA.out; have k6 := hR.out; have k7 := hY0'.out; have k8 := hY1'.out; have k9 := hT1'.out; have k0 := hc.out
               simp only [k1, k2, k3] at *
               omega)
            | skip
          all_goals
            have hY5 := hY2
            obtain ⟨Q, R1, hQ1, hR1, e15⟩ : ∃ Q R1 : Nat, U * 4294967296 + t1 = Q * Y + R1 ∧ R1 < Y ∧ IntKind.u64.wrap (A - 1) = (Q : Int) := by
              have st := hst.out hc.out.1
              exact ⟨(U * 4294967296 + t1) / Y, (U * 4294967296 + t1) % Y, (Nat.div_add_mod' _ _).symm, Nat.mod_lt _ (by omega), by rw [E4.out st.1, hbr.out st hc.out.2]⟩
            have e17 : IntKind.u64.wrap (IntKind.u64.wrap (IntKind.u64.wrap ((U : Int) * 4294967296) + (t1 : Int)) - IntKind.u64.wrap ((Q : Int) * (Y : Int))) = (R1 : Int) := by
              rw [← Int.natCast_mul]
              generalize Q * Y = p at hQ1 ⊢
              rw [IntKind.wrap_u64, IntKind.wrap_u64, IntKind.wrap_u64, IntKind.wrap_u64]
              omega
            have hm1 := Nat.mod_add_div' R1 y1
            have E8 : IntKind.u64.wrap ((R1 : Int).tdiv (y1 : Int)) = ((R1 / y1 : Nat) : Int) := by
              rw [← Int.ofNat_tdiv, wrapN]
              have := Nat.div_le_self R1 y1
              omega
            have E9 : IntKind.u64.wrap (((R1 / y1 : Nat) : Int) * (y1 : Int)) = ((R1 / y1 * y1 : Nat) : Int) := by
              rw [← Int.natCast_mul, wrapN]; omega
            have E10 : IntKind.u64.wrap ((R1 : Int) - ((R1 / y1 * y1 : Nat) : Int)) = ((R1 % y1 : Nat) : Int) := by
              rw [IntKind.wrap_u64]; omega
            simp only [e15, hY0'.out, hY1'.out, hT1'.out]
            simp only [e17, E8, E9, E10]
            obtain ⟨j1, j2⟩ := kn_init (hK.out R1 t0 hR1 ht0)
            replace hQ1 := Lib.hid hQ1
            replace e17 := Lib.hid e17
            clear E8 E9 E10 hm1 hst hen hbr E1 E2 E3 E4 i3 hc hcases e15 hA hR hY0' hY1' hT1' hY5
            rename ¬ (_ = (0 : Int)) => g3
            clear g3
            go_loop [18, 16] (fun q b => ∃ a r : Nat, q = .int .u64 a ∧ b = .int .u64 r ∧ Kn Y y1 y0 R1 t0 a r ∧ r < 4294967296) (fun q _ => (intOf q).toNat)
            case atStart => exact ⟨_, _, rfl, rfl, j1, j2⟩
            case round =>
              obtain ⟨a, r, rfl, rfl, i3, i4⟩ := hrel
              have i5 := i3.top
              clear j1 j2
              have hst := Lib.hid (kn_step (hK.out R1 t0 hR1 ht0) i3)
              have hen := Lib.hid (kn_end (hK.out R1 t0 hR1 ht0) i3)
              have hbr := Lib.hid fun (h : 1 ≤ a ∧ Kn Y y1 y0 R1 t0 (a - 1) (r + y1)) (h2 : 4294967296 ≤ r + y1) => kn_break (hK.out R1 t0 hR1 ht0) h.2 (by omega) h2
              have hay : a * y0 ≤ 18446744073709551615 := by
                have : a * y0 ≤ 4294967297 * 4294967295 := Nat.mul_le_mul i5 (by omega)
                omega
              have E1 := Lib.hid (show IntKind.u64.wrap ((a : Int) * (y0 : Int)) = ((a * y0 : Nat) : Int) by rw [← Int.natCast_mul, wrapN]; omega)
              have E2 := Lib.hid (show IntKind.u64.wrap (IntKind.u64.wrap (4294967296 * (r : Int)) + (t0 : Int)) = ((4294967296 * r + t0 : Nat) : Int) by rw [IntKind.wrap_u64, IntKind.wrap_u64]; omega)
              have E3 := Lib.hid (show IntKind.u64.wrap ((r : Int) + (y1 : Int)) = ((r + y1 : Nat) : Int) by rw [IntKind.wrap_u64]; omega)
              have E4 := Lib.hid (show 1 ≤ a → IntKind.u64.wrap ((a : Int) - 1) = ((a - 1 : Nat) : Int) by intro h; rw [IntKind.wrap_u64]; omega)
              have hcases : Hid (((4294967296 ≤ a ∨ 4294967296 * r + t0 < a * y0) ∧ 4294967296 ≤ r + y1) ∨ ((4294967296 ≤ a ∨ 4294967296 * r + t0 < a * y0) ∧ r + y1 < 4294967296) ∨ (a < 4294967296 ∧ a * y0 ≤ 4294967296 * r + t0)) := Lib.hid (by omega)
              clear hay
              obtain ⟨A, hA⟩ := hidE (a : Int)
              rw [← hA.out] at E1 E4 ⊢
              obtain ⟨R, hR⟩ := hidE (r : Int)
              rw [← hR.out] at E2 E3 ⊢
              obtain ⟨Y0, hY0'⟩ := hidE (y0 : Int)
              rw [← hY0'.out] at E1 ⊢
              obtain ⟨Y1, hY1'⟩ := hidE (y1 : Int)
              rw [← hY1'.out] at E3 ⊢
              obtain ⟨T0, hT0'⟩ := hidE (t0 : Int)
              rw [← hT0'.out] at E2 ⊢
              rcases hcases.out with hc | hc | hc
              · replace hc := Lib.hid hc
                go_wp2
                all_goals first
                  | (exfalso
                     have k1 := E1.out; have k2 := E2.out; have k3 := E3.out; have k4 := E4.out; have k5 := hA.out; have k6 := hR.out; have k7 := hY0'.out; have k8 := hY1'.out; have k9 := hT0'.out; have k0 := hc.out
                     simp only [k1, k2, k3] at *
                     omega)
                  | skip
                all_goals
                  go_ret2
                  refine ⟨?_, Below.refl _ _⟩
                  obtain ⟨Q0, R0, hQ01, hR0, e18⟩ : ∃ Q0 R0 : Nat, R1 * 4294967296 + t0 = Q0 * Y + R0 ∧ R0 < Y ∧ IntKind.u64.wrap (A - 1) = (Q0 : Int) := by
                    have st := hst.out hc.out.1
                    exact ⟨(R1 * 4294967296 + t0) / Y, (R1 * 4294967296 + t0) % Y, (Nat.div_add_mod' _ _).symm, Nat.mod_lt _ (by omega), by rw [E4.out st.1, hbr.out st hc.out.2]⟩
                  simp only [e18, hT0'.out]
                  have e19 : IntKind.u64.wrap (IntKind.u64.wrap (IntKind.u64.wrap ((R1 : Int) * 4294967296) + (t0 : Int)) - IntKind.u64.wrap ((Q0 : Int) * (Y : Int))) = (R0 : Int) := by
                    rw [← Int.natCast_mul]
                    generalize Q0 * Y = p at hQ01 ⊢
                    rw [IntKind.wrap_u64, IntKind.wrap_u64, IntKind.wrap_u64, IntKind.wrap_u64]
                    omega
                  have hq1 := q_lt (hK.out U t1 hU ht1)
                  have hq0 := q_lt (hK.out R1 t0 hR1 ht0)
                  have hQl : Q < 4294967296 := quot_lt hQ1.out hR1 hq1
                  have hQ0l : Q0 < 4294967296 := quot_lt hQ01 hR0 hq0
                  have e20 : IntKind.u64.wrap (IntKind.u64.wrap ((Q : Int) * 4294967296) + (Q0 : Int)) = ((Q * 4294967296 + Q0 : Nat) : Int) := by
                    rw [IntKind.wrap_u64, IntKind.wrap_u64]
                    clear hq1 hq0 hQ01 e19
                    omega
                  obtain ⟨f1, f2⟩ := hW.out Q R1 Q0 R0 hQ1.out hQ01 hR0
                  have E1b : min ((s : Int)).toNat 64 = s := by omega
                  simp only [e19, e20]
                  rw [hsh.out, f1, f2]
                  rfl

              · replace hc := Lib.hid hc
                go_wp2
                all_goals first
                  | (exfalso
                     have k1 := E1.out; have k2 := E2.out; have k3 := E3.out; have k4 := E4.out; have k5 := hA.out; have k6 := hR.out; have k7 := hY0'.out; have k8 := hY1'.out; have k9 := hT0'.out; have k0 := hc.out
                     simp only [k1, k2, k3] at *
                     omega)
                  | skip
                all_goals
                  have st := hst.out hc.out.1
                  refine ⟨⟨a - 1, E4.out st.1, r + y1, E3.out, st.2, hc.out.2⟩, ?_⟩
                  rw [E4.out st.1, hA.out]
                  simp only [intOf]
                  have := st.1
                  omega
              · replace hc := Lib.hid hc
                go_wp2
                all_goals first
                  | (exfalso
                     have k1 := E1.out; have k2 := E2.out; have k3 := E3.out; have k4 := E4.out; have k5 := hA.out; have k6 := hR.out; have k7 := hY0'.out; have k8 := hY1'.out; have k9 := hT0'.out; have k0 := hc.out
                     simp only [k1, k2, k3] at *
                     omega)
                  | skip
                all_goals
                  go_ret2
                  refine ⟨?_, Below.refl _ _⟩
                  obtain ⟨Q0, R0, hQ01, hR0, e18⟩ : ∃ Q0 R0 : Nat, R1 * 4294967296 + t0 = Q0 * Y + R0 ∧ R0 < Y ∧ A = (Q0 : Int) :=
                    ⟨(R1 * 4294967296 + t0) / Y, (R1 * 4294967296 + t0) % Y, (Nat.div_add_mod' _ _).symm, Nat.mod_lt _ (by omega), by rw [hA.out, ← hen.out hc.out.2]⟩
                  simp only [e18, hT0'.out]
                  have e19 : IntKind.u64.wrap (IntKind.u64.wrap (IntKind.u64.wrap ((R1 : Int) * 4294967296) + (t0 : Int)) - IntKind.u64.wrap ((Q0 : Int) * (Y : Int))) = (R0 : Int) := by
                    rw [← Int.natCast_mul]
                    generalize Q0 * Y = p at hQ01 ⊢
                    rw [IntKind.wrap_u64, IntKind.wrap_u64, IntKind.wrap_u64, IntKind.wrap_u64]
                    omega
                  have hq1 := q_lt (hK.out U t1 hU ht1)
                  have hq0 := q_lt (hK.out R1 t0 hR1 ht0)
                  have hQl : Q < 4294967296 := quot_lt hQ1.out hR1 hq1
                  have hQ0l : Q0 < 4294967296 := quot_lt hQ01 hR0 hq0
                  have e20 : IntKind.u64.wrap (IntKind.u64.wrap ((Q : Int) * 4294967296) + (Q0 : Int)) = ((Q * 4294967296 + Q0 : Nat) : Int) := by
                    rw [IntKind.wrap_u64, IntKind.wrap_u64]
                    clear hq1 hq0 hQ01 e19
                    omega
                  obtain ⟨f1, f2⟩ := hW.out Q R1 Q0 R0 hQ1.out hQ01 hR0
                  have E1b : min ((s : Int)).toNat 64 = s := by omega
                  simp only [e19, e20]
                  rw [hsh.out, f1, f2]
                  rfl

        · replace hc := Lib.hid hc
          go_wp2
          all_goals first
            | (exfalso
               have k1 := E1.out; have k2 := E2.out; have k3 := E3.out; have k4 := E4.out; have k5 := hA.out; have k6 := hR.out; have k7 := hY0'.out; have k8 := hY1'.out; have k9 := hT1'.out; have k0 := hc.out
               simp only [k1, k2, k3] at *
               omega)
            | skip
          all_goals
            have st := hst.out hc.out.1
            refine ⟨⟨a - 1, E4.out st.1, r + y1, E3.out, st.2, hc.out.2⟩, ?_⟩
            rw [E4.out st.1, hA.out]
            simp only [intOf]
            have := st.1
            omega
        · replace hc := Lib.hid hc
          go_wp2
          all_goals first
            | (exfalso
               have k1 := E1.out; have k2 := E2.out; have k3 := E3.out; have k4 := E4.out; have k5 := hA.out; have k6 := hR.out; have k7 := hY0'.out; have k8 := hY1'.out; have k9 := hT1'.out; have k0 := hc.out
               simp only [k1, k2, k3] at *
               omega)
            | skip
          all_goals
            have hY5 := hY2
            obtain ⟨Q, R1, hQ1, hR1, e15⟩ : ∃ Q R1 : Nat, U * 4294967296 + t1 = Q * Y + R1 ∧ R1 < Y ∧ A = (Q : Int) :=
              ⟨(U * 4294967296 + t1) / Y, (U * 4294967296 + t1) % Y, (Nat.div_add_mod' _ _).symm, Nat.mod_lt _ (by omega), by rw [hA.out, ← hen.out hc.out.2]⟩
            have e17 : IntKind.u64.wrap (IntKind.u64.wrap (IntKind.u64.wrap ((U : Int) * 4294967296) + (t1 : Int)) - IntKind.u64.wrap ((Q : Int) * (Y : Int))) = (R1 : Int) := by
              rw [← Int.natCast_mul]
              generalize Q * Y = p at hQ1 ⊢
              rw [IntKind.wrap_u64, IntKind.wrap_u64, IntKind.wrap_u64, IntKind.wrap_u64]
              omega
            have hm1 := Nat.mod_add_div' R1 y1
            have E8 : IntKind.u64.wrap ((R1 : Int).tdiv (y1 : Int)) = ((R1 / y1 : Nat) : Int) := by
              rw [← Int.ofNat_tdiv, wrapN]
              have := Nat.div_le_self R1 y1
              omega
            have E9 : IntKind.u64.wrap (((R1 / y1 : Nat) : Int) * (y1 : Int)) = ((R1 / y1 * y1 : Nat) : Int) := by
              rw [← Int.natCast_mul, wrapN]; omega
            have E10 : IntKind.u64.wrap ((R1 : Int) - ((R1 / y1 * y1 : Nat) : Int)) = ((R1 % y1 : Nat) : Int) := by
              rw [IntKind.wrap_u64]; omega
            simp only [e15, hY0'.out, hY1'.out, hT1'.out]
            simp only [e17, E8, E9, E10]
            obtain ⟨j1, j2⟩ := kn_init (hK.out R1 t0 hR1 ht0)
            replace hQ1 := Lib.hid hQ1
            replace e17 := Lib.hid e17
            clear E8 E9 E10 hm1 hst hen hbr E1 E2 E3 E4 i3 hc hcases e15 hA hR hY0' hY1' hT1' hY5
            rename ¬ (_ = (0 : Int)) => g3
            clear g3
            go_loop [18, 16] (fun q b => ∃ a r : Nat, q = .int .u64 a ∧ b = .int .u64 r ∧ Kn Y y1 y0 R1 t0 a r ∧ r < 4294967296) (fun q _ => (intOf q).toNat)
            case atStart => exact ⟨_, _, rfl, rfl, j1, j2⟩
            case round =>
              obtain ⟨a, r, rfl, rfl, i3, i4⟩ := hrel
              have i5 := i3.top
              clear j1 j2
              have hst := Lib.hid (kn_step (hK.out R1 t0 hR1 ht0) i3)
              have hen := Lib.hid (kn_end (hK.out R1 t0 hR1 ht0) i3)
              have hbr := Lib.hid fun (h : 1 ≤ a ∧ Kn Y y1 y0 R1 t0 (a - 1) (r + y1)) (h2 : 4294967296 ≤ r + y1) => kn_break (hK.out R1 t0 hR1 ht0) h.2 (by omega) h2
              have hay : a * y0 ≤ 18446744073709551615 := by
                have : a * y0 ≤ 4294967297 * 4294967295 := Nat.mul_le_mul i5 (by omega)
                omega
              have E1 := Lib.hid (show IntKind.u64.wrap ((a : Int) * (y0 : Int)) = ((a * y0 : Nat) : Int) by rw [← Int.natCast_mul, wrapN]; omega)
              have E2 := Lib.hid (show IntKind.u64.wrap (IntKind.u64.wrap (4294967296 * (r : Int)) + (t0 : Int)) = ((4294967296 * r + t0 : Nat) : Int) by rw [IntKind.wrap_u64, IntKind.wrap_u64]; omega)
              have E3 := Lib.hid (show IntKind.u64.wrap ((r : Int) + (y1 : Int)) = ((r + y1 : Nat) : Int) by rw [IntKind.wrap_u64]; omega)
              have E4 := Lib.hid (show 1 ≤ a → IntKind.u64.wrap ((a : Int) - 1) = ((a - 1 : Nat) : Int) by intro h; rw [IntKind.wrap_u64]; omega)
              have hcases : Hid (((4294967296 ≤ a ∨ 4294967296 * r + t0 < a * y0) ∧ 4294967296 ≤ r + y1) ∨ ((4294967296 ≤ a ∨ 4294967296 * r + t0 < a * y0) ∧ r + y1 < 4294967296) ∨ (a < 4294967296 ∧ a * y0 ≤ 4294967296 * r + t0)) := Lib.hid (by omega)
              clear hay
              obtain ⟨A, hA⟩ := hidE (a : Int)
              rw [← hA.out] at E1 E4 ⊢
              obtain ⟨R, hR⟩ := hidE (r : Int)
              rw [← hR.out] at E2 E3 ⊢
              obtain ⟨Y0, hY0'⟩ := hidE (y0 : Int)
              rw [← hY0'.out] at E1 ⊢
              obtain ⟨Y1, hY1'⟩ := hidE (y1 : Int)
              rw [← hY1'.out] at E3 ⊢
              obtain ⟨T0, hT0'⟩ := hidE (t0 : Int)
              rw [← hT0'.out] at E2 ⊢
              rcases hcases.out with hc | hc | hc
              · replace hc := Lib.hid hc
                go_wp2
                all_goals first
                  | (exfalso
                     have k1 := E1.out; have k2 := E2.out; have k3 := E3.out; have k4 := E4.out; have k5 := hA.out; have k6 := hR.out; have k7 := hY0'.out; have k8 := hY1'.out; have k9 := hT0'.out; have k0 := hc.out
                     simp only [k1, k2, k3] at *
                     omega)
                  | skip
                all_goals
                  go_ret2
                  refine ⟨?_, Below.refl _ _⟩
                  obtain ⟨Q0, R0, hQ01, hR0, e18⟩ : ∃ Q0 R0 : Nat, R1 * 4294967296 + t0 = Q0 * Y + R0 ∧ R0 < Y ∧ IntKind.u64.wrap (A - 1) = (Q0 : Int) := by
                    have st := hst.out hc.out.1
                    exact ⟨(R1 * 4294967296 + t0) / Y, (R1 * 4294967296 + t0) % Y, (Nat.div_add_mod' _ _).symm, Nat.mod_lt _ (by omega), by rw [E4.out st.1, hbr.out st hc.out.2]⟩
                  simp only [e18, hT0'.out]
                  have e19 : IntKind.u64.wrap (IntKind.u64.wrap (IntKind.u64.wrap ((R1 : Int) * 4294967296) + (t0 : Int)) - IntKind.u64.wrap ((Q0 : Int) * (Y : Int))) = (R0 : Int) := by
                    rw [← Int.natCast_mul]
                    generalize Q0 * Y = p at hQ01 ⊢
                    rw [IntKind.wrap_u64, IntKind.wrap_u64, IntKind.wrap_u64, IntKind.wrap_u64]
                    omega
                  have hq1 := q_lt (hK.out U t1 hU ht1)
                  have hq0 := q_lt (hK.out R1 t0 hR1 ht0)
                  have hQl : Q < 4294967296 := quot_lt hQ1.out hR1 hq1
                  have hQ0l : Q0 < 4294967296 := quot_lt hQ01 hR0 hq0
                  have e20 : IntKind.u64.wrap (IntKind.u64.wrap ((Q : Int) * 4294967296) + (Q0 : Int)) = ((Q * 4294967296 + Q0 : Nat) : Int) := by
                    rw [IntKind.wrap_u64, IntKind.wrap_u64]
                    clear hq1 hq0 hQ01 e19
                    omega
                  obtain ⟨f1, f2⟩ := hW.out Q R1 Q0 R0 hQ1.out hQ01 hR0
                  have E1b : min ((s : Int)).toNat 64 = s := by omega
                  simp only [e19, e20]
                  rw [hsh.out, f1, f2]
                  rfl

              · replace hc := Lib.hid hc
                go_wp2
                all_goals first
                  | (exfalso
                     have k1 := E1.out; have k2 := E2.out; have k3 := E3.out; have k4 := E4.out; have k5 := hA.out; have k6 := hR.out; have k7 := hY0'.out; have k8 := hY1'.out; have k9 := hT0'.out; have k0 := hc.out
                     simp only [k1, k2, k3] at *
                     omega)
                  | skip
                all_goals
                  have st := hst.out hc.out.1
                  refine ⟨⟨a - 1, E4.out st.1, r + y1, E3.out, st.2, hc.out.2⟩, ?_⟩
                  rw [E4.out st.1, hA.out]
                  simp only [intOf]
                  have := st.1
                  omega
              · replace hc := Lib.hid hc
                go_wp2
                all_goals first
                  | (exfalso
                     have k1 := E1.out; have k2 := E2.out; have k3 := E3.out; have k4 := E4.out; have k5 := hA.out; have k6 := hR.out; have k7 := hY0'.out; have k8 := hY1'.out; have k9 := hT0'.out; have k0 := hc.out
                     simp only [k1, k2, k3] at *
                     omega)
                  | skip
                all_goals
                  go_ret2
                  refine ⟨?_, Below.refl _ _⟩
                  obtain ⟨Q0, R0, hQ01, hR0, e18⟩ : ∃ Q0 R0 : Nat, R1 * 4294967296 + t0 = Q0 * Y + R0 ∧ R0 < Y ∧ A = (Q0 : Int) :=
                    ⟨(R1 * 4294967296 + t0) / Y, (R1 * 4294967296 + t0) % Y, (Nat.div_add_mod' _ _).symm, Nat.mod_lt _ (by omega), by rw [hA.out, ← hen.out hc.out.2]⟩
                  simp only [e18, hT0'.out]
                  have e19 : IntKind.u64.wrap (IntKind.u64.wrap (IntKind.u64.wrap ((R1 : Int) * 4294967296) + (t0 : Int)) - IntKind.u64.wrap ((Q0 : Int) * (Y : Int))) = (R0 : Int) := by
                    rw [← Int.natCast_mul]
                    generalize Q0 * Y = p at hQ01 ⊢
                    rw [IntKind.wrap_u64, IntKind.wrap_u64, IntKind.wrap_u64, IntKind.wrap_u64]
                    omega
                  have hq1 := q_lt (hK.out U t1 hU ht1)
                  have hq0 := q_lt (hK.out R1 t0 hR1 ht0)
                  have hQl : Q < 4294967296 := quot_lt hQ1.out hR1 hq1
                  have hQ0l : Q0 < 4294967296 := quot_lt hQ01 hR0 hq0
                  have e20 : IntKind.u64.wrap (IntKind.u64.wrap ((Q : Int) * 4294967296) + (Q0 : Int)) = ((Q * 4294967296 + Q0 : Nat) : Int) := by
                    rw [IntKind.wrap_u64, IntKind.wrap_u64]
                    clear hq1 hq0 hQ01 e19
                    omega
                  obtain ⟨f1, f2⟩ := hW.out Q R1 Q0 R0 hQ1.out hQ01 hR0
                  have E1b : min ((s : Int)).toNat 64 = s := by omega
                  simp only [e19, e20]
                  rw [hsh.out, f1, f2]
                  rfl
end Go.Proofs.YtjlomalpmlgjbaaGreatDoor

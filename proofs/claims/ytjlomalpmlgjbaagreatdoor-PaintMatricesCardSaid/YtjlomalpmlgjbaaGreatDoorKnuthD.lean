/- The school's long division by two digits, plain. No condition. -/
namespace Go.Wk
/-- what stands between two tries -/
structure Kn (Y y1 y0 U d a b : Nat) : Prop where
  sum : b + a * y1 = U
  low : (U * 4294967296 + d) / Y ≤ a
  top : a ≤ 4294967297
structure KnOk (Y y1 y0 U d : Nat) : Prop where
  e : Y = y1 * 4294967296 + y0
  h0 : y0 < 4294967296
  h1 : 2147483648 ≤ y1
  h2 : y1 < 4294967296
  u : U < Y
  d : d < 4294967296
theorem mul_y {Y y1 y0 U d : Nat} (k : KnOk Y y1 y0 U d) (a : Nat) : a * Y = a * y1 * 4294967296 + a * y0 := by rw [k.e, Nat.mul_add, Nat.mul_assoc]
theorem q_lt {Y y1 y0 U d : Nat} (k : KnOk Y y1 y0 U d) : (U * 4294967296 + d) / Y < 4294967296 := by
  have h1 := k.u; have h2 := k.d
  rw [Nat.div_lt_iff_lt_mul (by omega)]
  have : U * 4294967296 + 4294967296 ≤ Y * 4294967296 := by omega
  have e : 4294967296 * Y = Y * 4294967296 := Nat.mul_comm _ _
  omega
theorem kn_init {Y y1 y0 U d : Nat} (k : KnOk Y y1 y0 U d) : Kn Y y1 y0 U d (U / y1) (U % y1) ∧ U % y1 < 4294967296 := by
  have hy := k.h1; have hy2 := k.h2; have hd := k.d; have h0 := k.h0; have hu := k.u
  refine ⟨⟨Nat.mod_add_div' U y1, ?_, ?_⟩, by have := Nat.mod_lt U (show 0 < y1 by omega); omega⟩
  · rw [Nat.le_div_iff_mul_le (by omega)]
    have h := Nat.div_mul_le_self (U * 4294967296 + d) Y
    generalize (U * 4294967296 + d) / Y = q at *
    have e := mul_y k q
    generalize q * y1 = t at *
    omega
  · have : U < y1 * 4294967298 := by have := k.e; omega
    have : U / y1 < 4294967298 := by rw [Nat.div_lt_iff_lt_mul (by omega)]; rw [Nat.mul_comm]; exact this
    omega
theorem kn_step {Y y1 y0 U d a b : Nat} (k : KnOk Y y1 y0 U d) (i : Kn Y y1 y0 U d a b) (h : 4294967296 ≤ a ∨ 4294967296 * b + d < a * y0) : 1 ≤ a ∧ Kn Y y1 y0 U d (a - 1) (b + y1) := by
  have hq := q_lt k
  have hlt : (U * 4294967296 + d) / Y < a := by
    rcases h with h | h
    · omega
    · have hu := k.u
      rw [Nat.div_lt_iff_lt_mul (by omega)]
      have e := mul_y k a
      have hs := i.sum
      generalize a * y1 = t at *
      generalize a * y0 = s at *
      generalize a * Y = p at *
      omega
  have ha : 1 ≤ a := Nat.lt_of_le_of_lt (Nat.zero_le _) hlt
  refine ⟨ha, ?_, by omega, by have := i.top; omega⟩
  have hs := i.sum
  obtain ⟨c, rfl⟩ : ∃ c, a = c + 1 := ⟨a - 1, by omega⟩
  rw [Nat.add_mul] at hs
  simp only [Nat.add_sub_cancel]
  omega
theorem kn_end {Y y1 y0 U d a b : Nat} (k : KnOk Y y1 y0 U d) (i : Kn Y y1 y0 U d a b) (h : a * y0 ≤ 4294967296 * b + d) : a = (U * 4294967296 + d) / Y := by
  have hu := k.u
  refine Nat.le_antisymm ?_ i.low
  rw [Nat.le_div_iff_mul_le (by omega)]
  have e := mul_y k a
  have hs := i.sum
  generalize a * y1 = t at *
  generalize a * y0 = s at *
  generalize a * Y = p at *
  omega
theorem kn_break {Y y1 y0 U d a b : Nat} (k : KnOk Y y1 y0 U d) (i : Kn Y y1 y0 U d a b) (ha : a ≤ 4294967296) (hb : 4294967296 ≤ b) : a = (U * 4294967296 + d) / Y := by
  refine kn_end k i ?_
  have h0 := k.h0
  have : a * y0 ≤ 4294967296 * 4294967296 := Nat.mul_le_mul ha (by omega)
  omega
theorem two_steps (K c l t1 t0 a b r1 r0 : Nat) (h1 : (c + l) * K + t1 = a + r1) (h0 : r1 * K + t0 = b + r0) : c * (K * K) + (l * (K * K) + (t1 * K + t0)) = a * K + b + r0 := by
  have e : c * (K * K) + (l * (K * K) + (t1 * K + t0)) = ((c + l) * K + t1) * K + t0 := by
    rw [Nat.add_mul, Nat.add_mul, Nat.add_mul, Nat.mul_assoc, Nat.mul_assoc]; omega
  rw [e, h1, Nat.add_mul, Nat.add_assoc, h0, Nat.add_assoc]
/-- the whole: from the two digits' quotients -/
theorem kn_whole (hi lo y s : Nat) (hs : s ≤ 64) (_hy : 0 < y) (U t Y q1 r1 q0 r0 : Nat) (hU : U = hi * 2 ^ s + lo / 2 ^ (64 - s)) (ht : t = lo * 2 ^ s % 18446744073709551616) (hY : Y = y * 2 ^ s)
    (h1 : U * 4294967296 + t / 4294967296 = q1 * Y + r1) (h0 : r1 * 4294967296 + t % 4294967296 = q0 * Y + r0) (hr : r0 < Y) :
    q1 * 4294967296 + q0 = (hi * 18446744073709551616 + lo) / y ∧ r0 / 2 ^ s = (hi * 18446744073709551616 + lo) % y := by
  have hp : 0 < 2 ^ s := Nat.two_pow_pos s
  have e64 : 2 ^ s * 2 ^ (64 - s) = 18446744073709551616 := by rw [← Nat.pow_add, show s + (64 - s) = 64 by omega]
  have hlo : lo * 2 ^ s = lo / 2 ^ (64 - s) * 18446744073709551616 + t := by
    rw [ht]
    have : lo * 2 ^ s / 18446744073709551616 = lo / 2 ^ (64 - s) := by rw [← e64, Nat.mul_comm lo, Nat.mul_div_mul_left _ _ hp]
    rw [← this]
    exact (Nat.div_add_mod' _ _).symm
  have hA : (hi * 18446744073709551616 + lo) * 2 ^ s = (q1 * 4294967296 + q0) * Y + r0 := by
    rw [Nat.add_mul, hlo, Nat.mul_right_comm]
    have e1 : (q1 * 4294967296 + q0) * Y = q1 * Y * 4294967296 + q0 * Y := by rw [Nat.add_mul, Nat.mul_right_comm]
    rw [e1]
    clear e64 hlo ht
    generalize lo / 2 ^ (64 - s) = l at *
    generalize hi * 2 ^ s = c at *
    generalize q1 * Y = a at *
    generalize q0 * Y = b at *
    clear hY hr hp hs
    have h3 := Nat.div_add_mod' t 4294967296
    generalize t / 4294967296 = t1 at *
    generalize t % 4294967296 = t0 at *
    clear e1
    subst hU
    subst h3
    exact two_steps 4294967296 c l t1 t0 a b r1 r0 h1 h0
  have hd : (hi * 18446744073709551616 + lo) * 2 ^ s / Y = q1 * 4294967296 + q0 := by
    rw [hA, Nat.add_comm, Nat.add_mul_div_right _ _ (Nat.lt_of_le_of_lt (Nat.zero_le _) hr), Nat.div_eq_of_lt hr, Nat.zero_add]
  have hm : (hi * 18446744073709551616 + lo) * 2 ^ s % Y = r0 := by
    rw [hA, Nat.add_comm, Nat.add_mul_mod_self_right, Nat.mod_eq_of_lt hr]
  rw [hY] at hd hm
  rw [Nat.mul_div_mul_right _ _ hp] at hd
  rw [Nat.mul_mod_mul_right] at hm
  refine ⟨hd.symm, ?_⟩
  rw [← hm, Nat.mul_div_cancel _ hp]
end Go.Wk

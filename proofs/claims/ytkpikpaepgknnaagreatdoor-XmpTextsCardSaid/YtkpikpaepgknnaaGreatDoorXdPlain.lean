/- A date as it is written is read. No condition. -/
import Derived.Test.YtkpikpaepgknnaaGreatDoorXdDate
import Derived.Test.YtkpikpaepgknnaaGreatDoorXdPad
set_option linter.unusedVariables false
namespace Go.Proofs.YtkpikpaepgknnaaGreatDoor
open Go Go.RowKit Go.Wk Go.Lib
def dg (x : Nat) : UInt8 := UInt8.ofNat (48 + x)
theorem dg_nat (x : Nat) (h : x < 10) : (dg x).toNat = 48 + x := UInt8.toNat_ofNat_of_lt' (by show 48 + x < 256; omega)
theorem dg_is (x : Nat) (h : x < 10) : isD (dg x) = true := by
  unfold isD; rw [dg_nat x h]; simp; omega
theorem dec_small (n : Nat) (h : n < 10) : decDigits n = [dg n] := by rw [decDigits, dif_pos h]; rfl
theorem dec_more (n : Nat) (h : ¬ n < 10) : decDigits n = decDigits (n / 10) ++ [dg (n % 10)] := by rw [decDigits, dif_neg h]; rfl
theorem pad2 (n : Nat) (h : n < 100) : padL n 2 = [dg (n / 10), dg (n % 10)] := by
  unfold padL
  by_cases a : n < 10
  · rw [dec_small n a, show n / 10 = 0 by omega, show n % 10 = n by omega]; rfl
  · rw [dec_more n a, dec_small (n / 10) (by omega)]; rfl
theorem pad4 (n : Nat) (h : n < 10000) : padL n 4 = [dg (n / 1000), dg (n / 100 % 10), dg (n / 10 % 10), dg (n % 10)] := by
  unfold padL
  by_cases a : n < 10
  · rw [dec_small n a, show n / 1000 = 0 by omega, show n / 100 % 10 = 0 by omega, show n / 10 % 10 = 0 by omega, show n % 10 = n by omega]; rfl
  · rw [dec_more n a]
    by_cases b : n / 10 < 10
    · rw [dec_small _ b, show n / 1000 = 0 by omega, show n / 100 % 10 = 0 by omega, show n / 10 % 10 = n / 10 by omega]; rfl
    · rw [dec_more _ b]
      by_cases c : n / 10 / 10 < 10
      · rw [dec_small _ c, show n / 1000 = 0 by omega, show n / 100 % 10 = n / 10 / 10 by omega]; rfl
      · rw [dec_more _ c, dec_small _ (by omega), show n / 1000 = n / 10 / 10 / 10 by omega, show n / 100 % 10 = n / 10 / 10 % 10 by omega]; rfl
theorem num2 (n : Nat) (h : n < 100) : numI [dg (n / 10), dg (n % 10)] = n := by
  simp only [numI, List.foldl, dg_nat (n / 10) (by omega), dg_nat (n % 10) (by omega)]; omega
theorem num4 (n : Nat) (h : n < 10000) : numI [dg (n / 1000), dg (n / 100 % 10), dg (n / 10 % 10), dg (n % 10)] = n := by
  simp only [numI, List.foldl, dg_nat (n / 1000) (by omega), dg_nat (n / 100 % 10) (by omega), dg_nat (n / 10 % 10) (by omega), dg_nat (n % 10) (by omega)]; omega
def okp (l : List UInt8) (lo hi : Int) : Bool := l.all isD && decide (lo ≤ numI l) && decide (numI l ≤ hi)
theorem partOk_eq {bs : List UInt8} {p d : Nat} {l : List UInt8} {lo hi : Int} (h : p + d ≤ bs.length) (hl : (bs.drop p).take d = l) : partOk bs p d lo hi = okp l lo hi := by
  have e : takeS bs p d = l := by unfold takeS; rw [if_pos h]; exact hl
  unfold partOk okp; rw [e, takeB, decide_eq_true h]; rfl
section
variable (y0 y1 y2 y3 a0 a1 b0 b1 c0 c1 d0 d1 e0 e1 : UInt8) (z : List UInt8)
def dateL : List UInt8 := 68 :: 58 :: y0 :: y1 :: y2 :: y3 :: a0 :: a1 :: b0 :: b1 :: c0 :: c1 :: d0 :: d1 :: e0 :: e1 :: z
theorem date_len : (dateL y0 y1 y2 y3 a0 a1 b0 b1 c0 c1 d0 d1 e0 e1 z).length = z.length + 16 := by simp [dateL]
theorem date_parts : dP (dateL y0 y1 y2 y3 a0 a1 b0 b1 c0 c1 d0 d1 e0 e1 z) 6 = 16 ∧ dO (dateL y0 y1 y2 y3 a0 a1 b0 b1 c0 c1 d0 d1 e0 e1 z) 6 = [y0, y1, y2, y3, a0, a1, b0, b1, c0, c1, d0, d1, e0, e1] ∧
    dB (dateL y0 y1 y2 y3 a0 a1 b0 b1 c0 c1 d0 d1 e0 e1 z) 6 = (okp [y0, y1, y2, y3] 0 9999 && okp [a0, a1] 1 12 && okp [b0, b1] 1 31 && okp [c0, c1] 0 23 && okp [d0, d1] 0 59 && okp [e0, e1] 0 59) := by
  have hl := date_len y0 y1 y2 y3 a0 a1 b0 b1 c0 c1 d0 d1 e0 e1 z
  generalize hB : dateL y0 y1 y2 y3 a0 a1 b0 b1 c0 c1 d0 d1 e0 e1 z = B at *
  have st : stands B 0 [68, 58] = true := by
    unfold stands; rw [decide_eq_true (by show 0 + 2 ≤ B.length; omega), ← hB]; rfl
  have tk : ∀ {p d : Nat} {l : List UInt8}, p + d ≤ 16 → (B.drop p).take d = l → takeS B p d = l ∧ takeB B p d = true ∧ ∀ lo hi, partOk B p d lo hi = okp l lo hi := fun h e =>
    ⟨by unfold takeS; rw [if_pos (by omega)]; exact e, by unfold takeB; exact decide_eq_true (by omega), fun lo hi => partOk_eq (by omega) e⟩
  obtain ⟨t1, u1, v1⟩ := tk (p := 2) (d := 4) (l := [y0, y1, y2, y3]) (by omega) (by rw [← hB]; rfl)
  obtain ⟨t2, u2, v2⟩ := tk (p := 6) (d := 2) (l := [a0, a1]) (by omega) (by rw [← hB]; rfl)
  obtain ⟨t3, u3, v3⟩ := tk (p := 8) (d := 2) (l := [b0, b1]) (by omega) (by rw [← hB]; rfl)
  obtain ⟨t4, u4, v4⟩ := tk (p := 10) (d := 2) (l := [c0, c1]) (by omega) (by rw [← hB]; rfl)
  obtain ⟨t5, u5, v5⟩ := tk (p := 12) (d := 2) (l := [d0, d1]) (by omega) (by rw [← hB]; rfl)
  obtain ⟨t6, u6, v6⟩ := tk (p := 14) (d := 2) (l := [e0, e1]) (by omega) (by rw [← hB]; rfl)
  have p0 : dP B 0 = 2 := by show mP B 0 [68, 58] = 2; unfold mP; rw [if_pos st]; rfl
  have p1 : dP B 1 = 6 := by show partP B (dP B 0) 4 = 6; rw [p0]; unfold partP; rw [if_pos u1]
  have p2 : dP B 2 = 8 := by show partP B (dP B 1) 2 = 8; rw [p1]; unfold partP; rw [if_pos u2]
  have p3 : dP B 3 = 10 := by show partP B (dP B 2) 2 = 10; rw [p2]; unfold partP; rw [if_pos u3]
  have p4 : dP B 4 = 12 := by show partP B (dP B 3) 2 = 12; rw [p3]; unfold partP; rw [if_pos u4]
  have p5 : dP B 5 = 14 := by show partP B (dP B 4) 2 = 14; rw [p4]; unfold partP; rw [if_pos u5]
  have p6 : dP B 6 = 16 := by show partP B (dP B 5) 2 = 16; rw [p5]; unfold partP; rw [if_pos u6]
  refine ⟨p6, ?_, ?_⟩
  · show (((((([] ++ takeS B (dP B 0) 4) ++ takeS B (dP B 1) 2) ++ takeS B (dP B 2) 2) ++ takeS B (dP B 3) 2) ++ takeS B (dP B 4) 2) ++ takeS B (dP B 5) 2) = _
    rw [p0, p1, p2, p3, p4, p5, t1, t2, t3, t4, t5, t6]; rfl
  · show ((((((stands B 0 [68, 58] && partOk B (dP B 0) 4 0 9999) && partOk B (dP B 1) 2 1 12) && partOk B (dP B 2) 2 1 31) && partOk B (dP B 3) 2 0 23) && partOk B (dP B 4) 2 0 59) && partOk B (dP B 5) 2 0 59) = _
    rw [p0, p1, p2, p3, p4, p5, v1, v2, v3, v4, v5, v6, st]; rfl
theorem date_val : dateS (dateL y0 y1 y2 y3 a0 a1 b0 b1 c0 c1 d0 d1 e0 e1 z) =
    if (okp [y0, y1, y2, y3] 0 9999 && okp [a0, a1] 1 12 && okp [b0, b1] 1 31 && okp [c0, c1] 0 23 && okp [d0, d1] 0 59 && okp [e0, e1] 0 59) && (zoneS (dateL y0 y1 y2 y3 a0 a1 b0 b1 c0 c1 d0 d1 e0 e1 z) 16).2 then
      (y0 :: y1 :: y2 :: y3 :: 45 :: a0 :: a1 :: 45 :: b0 :: b1 :: 84 :: c0 :: c1 :: 58 :: d0 :: d1 :: 58 :: e0 :: e1 :: (zoneS (dateL y0 y1 y2 y3 a0 a1 b0 b1 c0 c1 d0 d1 e0 e1 z) 16).1, true) else ([], false) := by
  obtain ⟨h1, h2, h3⟩ := date_parts y0 y1 y2 y3 a0 a1 b0 b1 c0 c1 d0 d1 e0 e1 z
  unfold dateS
  rw [h1, h2, h3]; rfl
theorem zone_Z : zoneS (dateL y0 y1 y2 y3 a0 a1 b0 b1 c0 c1 d0 d1 e0 e1 [90]) 16 = ([90], true) := rfl
theorem zone_Z0 : zoneS (dateL y0 y1 y2 y3 a0 a1 b0 b1 c0 c1 d0 d1 e0 e1 [90, 48]) 16 = ([90], false) := rfl
variable (h0 h1 m0 m1 : UInt8)
theorem zone_s (sg : UInt8) (hs : sg = 43 ∨ sg = 45) (t : List UInt8) (g1 : okp [h0, h1] 0 23 = true) (g2 : okp [m0, m1] 0 59 = true) :
    zoneS (dateL y0 y1 y2 y3 a0 a1 b0 b1 c0 c1 d0 d1 e0 e1 (sg :: h0 :: h1 :: 39 :: m0 :: m1 :: t)) 16 = if t = [] ∨ t = [39] then (sg :: h0 :: h1 :: 58 :: m0 :: m1 :: [], true) else ([], false) := by
  have hl := date_len y0 y1 y2 y3 a0 a1 b0 b1 c0 c1 d0 d1 e0 e1 (sg :: h0 :: h1 :: 39 :: m0 :: m1 :: t)
  simp only [List.length_cons] at hl
  generalize hB : dateL y0 y1 y2 y3 a0 a1 b0 b1 c0 c1 d0 d1 e0 e1 (sg :: h0 :: h1 :: 39 :: m0 :: m1 :: t) = B at *
  have pk : peekS B 16 = (sg.toNat : Int) := by rw [← hB]; rfl
  have n0 : nextP B 16 = 17 := by unfold nextP; rw [if_pos (by omega)]
  have tk : ∀ {p d : Nat} {l : List UInt8}, p + d ≤ 22 → (B.drop p).take d = l → takeS B p d = l ∧ takeB B p d = true ∧ ∀ lo hi, partOk B p d lo hi = okp l lo hi := fun h e =>
    ⟨by unfold takeS; rw [if_pos (by omega)]; exact e, by unfold takeB; exact decide_eq_true (by omega), fun lo hi => partOk_eq (by omega) e⟩
  obtain ⟨t1, u1, v1⟩ := tk (p := 17) (d := 2) (l := [h0, h1]) (by omega) (by rw [← hB]; rfl)
  obtain ⟨t2, u2, v2⟩ := tk (p := 20) (d := 2) (l := [m0, m1]) (by omega) (by rw [← hB]; rfl)
  have q1 : partP B 17 2 = 19 := by unfold partP; rw [if_pos u1]
  have s1 : stands B 19 [39] = true := by unfold stands; rw [decide_eq_true (by show 19 + 1 ≤ B.length; omega), ← hB]; rfl
  have q2 : mP B 19 [39] = 20 := by unfold mP; rw [if_pos s1]; rfl
  have q3 : partP B 20 2 = 22 := by unfold partP; rw [if_pos u2]
  have q4 : decide (mP B 22 [39] = B.length) = decide (t = [] ∨ t = [39]) := by
    have st : stands B 22 [39] = (decide (1 ≤ t.length) && (t.take 1 == [39])) := by
      unfold stands
      have e1 : decide (22 + ([39] : List UInt8).length ≤ B.length) = decide (1 ≤ t.length) := by rw [Bool.eq_iff_iff]; simp; omega
      rw [e1, ← hB]; rfl
    unfold mP
    rw [st]
    match t, hl with
    | [], hl => simp only [List.length_nil] at hl; simp [hl]
    | [x], hl =>
      simp only [List.length_cons, List.length_nil] at hl
      by_cases hx : x = 39
      · subst hx; simp [hl]
      · simp [hl, hx]
    | x :: y :: t', hl =>
      simp only [List.length_cons] at hl
      by_cases hx : x = 39
      · subst hx; simp [hl]
      · simp [hl, hx]
  have zb : zoneB B 16 = decide (t = [] ∨ t = [39]) := by
    unfold zoneB
    rw [n0, q1, q2, q3, q4, v1, v2, g1, g2, s1, pk]
    rcases hs with rfl | rfl <;> rfl
  have zt : zoneT B 16 = sg :: h0 :: h1 :: 58 :: m0 :: m1 :: [] := by
    unfold zoneT
    rw [n0, q1, q2, t1, t2, pk]
    rcases hs with rfl | rfl <;> rfl
  unfold zoneS
  rw [if_neg (by rw [pk]; rcases hs with rfl | rfl <;> decide), zb, zt]
  simp only [decide_eq_true_eq]
end
end Go.Proofs.YtkpikpaepgknnaaGreatDoor

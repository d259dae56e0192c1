/- The document's Date, walked. No condition. -/
import Derived.Test.YtkpikpaepgknnaaGreatDoorXtLeaf
set_option linter.unusedVariables false
namespace Go.Proofs.YtkpikpaepgknnaaGreatDoor
open Go Go.RowKit Go.Wk
theorem date_R (y0 y1 y2 y3 a0 a1 b0 b1 c0 c1 d0 d1 e0 e1 : UInt8) (z : List UInt8) (h : headOk (dateL y0 y1 y2 y3 a0 a1 b0 b1 c0 c1 d0 d1 e0 e1 z) = true) :
    dateS (dateL y0 y1 y2 y3 a0 a1 b0 b1 c0 c1 d0 d1 e0 e1 z) = if (zoneR (dateL y0 y1 y2 y3 a0 a1 b0 b1 c0 c1 d0 d1 e0 e1 z) z).2 then (y0 :: y1 :: y2 :: y3 :: 45 :: a0 :: a1 :: 45 :: b0 :: b1 :: 84 :: c0 :: c1 :: 58 :: d0 :: d1 :: 58 :: e0 :: e1 :: (zoneR (dateL y0 y1 y2 y3 a0 a1 b0 b1 c0 c1 d0 d1 e0 e1 z) z).1, true) else ([], false) := by
  obtain ⟨h1, h2, h3⟩ := date_parts y0 y1 y2 y3 a0 a1 b0 b1 c0 c1 d0 d1 e0 e1 z
  unfold dateS
  rw [← head_dB, h, h1, h2, zone_same]
  cases hz : (zoneS (dateL y0 y1 y2 y3 a0 a1 b0 b1 c0 c1 d0 d1 e0 e1 z) 16).2 with
  | false => rfl
  | true =>
    simp [hz, fmtD]
theorem idx_str {X : ByteArray} {l : List UInt8} (h : X.data.toList = l) (k : Nat) (hk : k < l.length) (w : World) : (Instr.index 9 (.string X) (.int .i64 k)).run Tryz.prog w = .ok (.int .u8 (l[k].toNat : Int)) w := by
  have hl : l.length = X.size := by rw [← h]; exact Array.length_toList
  rw [run_index_string w 9 X .i64 k Tryz.underlying9, dif_pos ⟨by omega, by omega⟩]
  subst h
  rfl
theorem u8_43 (x : UInt8) (n : UInt8) : (x == n) = decide ((x.toNat : Int) = (n.toNat : Int)) := by
  rw [Bool.eq_iff_iff]
  simp only [beq_iff_eq, decide_eq_true_eq]
  constructor
  · intro h; rw [h]
  · intro h; exact UInt8.toNat_inj.1 (by omega)
theorem zone6 {bs : List UInt8} (z0 z1 z2 z3 z4 z5 : UInt8) : zoneR bs [z0, z1, z2, z3, z4, z5] = if ((z0.toNat : Int) = 43 ∨ (z0.toNat : Int) = 45) ∧ (z3.toNat : Int) = 39 ∧ 0 ≤ prS bs 17 2 0 23 ∧ 0 ≤ prS bs 20 2 0 59 then ([z0, z1, z2, 58, z4, z5], true) else ([], false) := by
  have n7 := prS_neg (bs := bs) (p := 17) (n := 2) (hi := 23) (show (0 : Int) ≤ 0 by omega)
  have n8 := prS_neg (bs := bs) (p := 20) (n := 2) (hi := 59) (show (0 : Int) ≤ 0 by omega)
  have e : zoneOk bs [z0, z1, z2, z3, z4, z5] = decide (((z0.toNat : Int) = 43 ∨ (z0.toNat : Int) = 45) ∧ (z3.toNat : Int) = 39 ∧ 0 ≤ prS bs 17 2 0 23 ∧ 0 ≤ prS bs 20 2 0 59) := by
    show ((z0 == 43 || z0 == 45) && z3 == 39 && partOk bs 17 2 0 23 && partOk bs 20 2 0 59) = _
    rw [u8_43 z0 43, u8_43 z0 45, u8_43 z3 39]
    have v7 : partOk bs 17 2 0 23 = decide (0 ≤ prS bs 17 2 0 23) := by
      cases h : partOk bs 17 2 0 23 with
      | false => have := n7.2 h; symm; apply decide_eq_false; omega
      | true => symm; apply decide_eq_true; rcases Int.lt_or_le (prS bs 17 2 0 23) 0 with hl | hl; · rw [n7.1 hl] at h; cases h
                · exact hl
    have v8 : partOk bs 20 2 0 59 = decide (0 ≤ prS bs 20 2 0 59) := by
      cases h : partOk bs 20 2 0 59 with
      | false => have := n8.2 h; symm; apply decide_eq_false; omega
      | true => symm; apply decide_eq_true; rcases Int.lt_or_le (prS bs 20 2 0 59) 0 with hl | hl; · rw [n8.1 hl] at h; cases h
                · exact hl
    rw [v7, v8]
    show (((((decide ((z0.toNat : Int) = 43) || decide ((z0.toNat : Int) = 45)) && decide ((z3.toNat : Int) = 39)) && decide (0 ≤ prS bs 17 2 0 23)) && decide (0 ≤ prS bs 20 2 0 59))) = _
    simp [Bool.and_assoc]
  unfold zoneR
  rw [if_neg (by simp), e]
  simp
theorem zone7 {bs : List UInt8} (z0 z1 z2 z3 z4 z5 z6 : UInt8) : zoneR bs [z0, z1, z2, z3, z4, z5, z6] = if ((z6.toNat : Int) = 39) then (zoneR bs [z0, z1, z2, z3, z4, z5]) else ([], false) := by
  have u : ∀ z : List UInt8, z ≠ [90] → zoneR bs z = if zoneOk bs z then (z.take 3 ++ [58] ++ (z.drop 4).take 2, true) else ([], false) := fun z h => by unfold zoneR; rw [if_neg h]
  rw [u _ (by simp), u _ (by simp)]
  have e : zoneOk bs [z0, z1, z2, z3, z4, z5, z6] = (decide ((z6.toNat : Int) = 39) && zoneOk bs [z0, z1, z2, z3, z4, z5]) := by
    show ((z0 == 43 || z0 == 45) && z3 == 39 && z6 == 39 && partOk bs 17 2 0 23 && partOk bs 20 2 0 59) = (_ && ((z0 == 43 || z0 == 45) && z3 == 39 && partOk bs 17 2 0 23 && partOk bs 20 2 0 59))
    rw [u8_43 z6 39]
    show ((((_ || _) && _) && decide ((z6.toNat : Int) = 39)) && _ && _) = _
    cases (z0 == 43 || z0 == 45) <;> cases (z3 == 39) <;> cases decide ((z6.toNat : Int) = 39) <;> rfl
  rw [e]
  by_cases h : (z6.toNat : Int) = 39 <;> simp [h]
theorem zone_no {bs z : List UInt8} (h90 : z ≠ [90]) (h : z.length < 6 ∨ 7 < z.length) : zoneR bs z = ([], false) := by
  have ho : zoneOk bs z = false := by
    unfold zoneOk
    split
    · simp at h
    · simp at h
    · rfl
  unfold zoneR
  rw [if_neg h90, ho]; rfl
set_option maxHeartbeats 4000000 in
set_option maxRecDepth 100000 in
theorem ref_Date {w : World} {A : Option Addr} {bs : List UInt8} (c : Nat) (hb : Byt w A bs) (hcap : bs.length ≤ c) (hsm : bs.length ≤ 1000) :
    Calls Tryz.prog 23 #[.slice A bs.length c] w fun e w' => e = .returned (.tuple #[str (dateS bs).1, .bool (dateS bs).2]) ∧ Below w.heap.size w w' := by
  have cS0 := ref_Stands c 0 ⟨#[68, 58]⟩ hb hcap (by omega) (by decide) (by decide) (by omega)
  have cS : Calls Tryz.prog 48 #[.slice A bs.length c, .int .i64 0, .string ⟨#[68, 58]⟩] w fun e w' => e = .returned (.bool (stands bs 0 [68, 58])) ∧ w = w' := cS0
  clear cS0
  have c1 : Calls Tryz.prog 49 #[.slice A bs.length c, .int .i64 2, .int .i64 4, .int .i64 0, .int .i64 9999] w fun e w' => e = .returned (.int .i64 (prS bs 2 4 0 9999)) ∧ w = w' := ref_part c 2 4 0 9999 hb (by omega) (by omega) (by omega) (by omega) (by omega) (by omega) (by omega) (by omega)
  have n1 := prS_neg (bs := bs) (p := 2) (n := 4) (hi := 9999) (show (0 : Int) ≤ 0 by omega)
  have c2 : Calls Tryz.prog 49 #[.slice A bs.length c, .int .i64 6, .int .i64 2, .int .i64 1, .int .i64 12] w fun e w' => e = .returned (.int .i64 (prS bs 6 2 1 12)) ∧ w = w' := ref_part c 6 2 1 12 hb (by omega) (by omega) (by omega) (by omega) (by omega) (by omega) (by omega) (by omega)
  have n2 := prS_neg (bs := bs) (p := 6) (n := 2) (hi := 12) (show (0 : Int) ≤ 1 by omega)
  have c3 : Calls Tryz.prog 49 #[.slice A bs.length c, .int .i64 8, .int .i64 2, .int .i64 1, .int .i64 31] w fun e w' => e = .returned (.int .i64 (prS bs 8 2 1 31)) ∧ w = w' := ref_part c 8 2 1 31 hb (by omega) (by omega) (by omega) (by omega) (by omega) (by omega) (by omega) (by omega)
  have n3 := prS_neg (bs := bs) (p := 8) (n := 2) (hi := 31) (show (0 : Int) ≤ 1 by omega)
  have c4 : Calls Tryz.prog 49 #[.slice A bs.length c, .int .i64 10, .int .i64 2, .int .i64 0, .int .i64 23] w fun e w' => e = .returned (.int .i64 (prS bs 10 2 0 23)) ∧ w = w' := ref_part c 10 2 0 23 hb (by omega) (by omega) (by omega) (by omega) (by omega) (by omega) (by omega) (by omega)
  have n4 := prS_neg (bs := bs) (p := 10) (n := 2) (hi := 23) (show (0 : Int) ≤ 0 by omega)
  have c5 : Calls Tryz.prog 49 #[.slice A bs.length c, .int .i64 12, .int .i64 2, .int .i64 0, .int .i64 59] w fun e w' => e = .returned (.int .i64 (prS bs 12 2 0 59)) ∧ w = w' := ref_part c 12 2 0 59 hb (by omega) (by omega) (by omega) (by omega) (by omega) (by omega) (by omega) (by omega)
  have n5 := prS_neg (bs := bs) (p := 12) (n := 2) (hi := 59) (show (0 : Int) ≤ 0 by omega)
  have c6 : Calls Tryz.prog 49 #[.slice A bs.length c, .int .i64 14, .int .i64 2, .int .i64 0, .int .i64 59] w fun e w' => e = .returned (.int .i64 (prS bs 14 2 0 59)) ∧ w = w' := ref_part c 14 2 0 59 hb (by omega) (by omega) (by omega) (by omega) (by omega) (by omega) (by omega) (by omega)
  have n6 := prS_neg (bs := bs) (p := 14) (n := 2) (hi := 59) (show (0 : Int) ≤ 0 by omega)
  cases hh : headOk bs with
  | false =>
    have hD := Lib.hid (head_no hh)
    generalize dateS bs = D at *
    unfold headOk at hh
    generalize prS bs 2 4 0 9999 = V1 at *
    generalize partOk bs 2 4 0 9999 = B1 at *
    generalize prS bs 6 2 1 12 = V2 at *
    generalize partOk bs 6 2 1 12 = B2 at *
    generalize prS bs 8 2 1 31 = V3 at *
    generalize partOk bs 8 2 1 31 = B3 at *
    generalize prS bs 10 2 0 23 = V4 at *
    generalize partOk bs 10 2 0 23 = B4 at *
    generalize prS bs 12 2 0 59 = V5 at *
    generalize partOk bs 12 2 0 59 = B5 at *
    generalize prS bs 14 2 0 59 = V6 at *
    generalize partOk bs 14 2 0 59 = B6 at *
    generalize stands bs 0 [68, 58] = st at *
    clear hb
    cases st with
    | false =>
      clear n1 n2 n3 n4 n5 n6 hh
      go_enter Tryz.func23, Tryz.ntmps23
      go_wp2_with (first
        | (go_at_call 48; (with_reducible refine cS.mono ?_); rintro e w1 ⟨rfl, rfl⟩)
        | (go_at_call 49; (with_reducible refine (c1).mono ?_); rintro e w1 ⟨rfl, rfl⟩)
        | (go_at_call 49; (with_reducible refine (c2).mono ?_); rintro e w1 ⟨rfl, rfl⟩)
        | (go_at_call 49; (with_reducible refine (c3).mono ?_); rintro e w1 ⟨rfl, rfl⟩)
        | (go_at_call 49; (with_reducible refine (c4).mono ?_); rintro e w1 ⟨rfl, rfl⟩)
        | (go_at_call 49; (with_reducible refine (c5).mono ?_); rintro e w1 ⟨rfl, rfl⟩)
        | (go_at_call 49; (with_reducible refine (c6).mono ?_); rintro e w1 ⟨rfl, rfl⟩))
      go_ret2
      exact ⟨by rw [hD.out]; rfl, Below.refl _ _⟩
    | true =>
      by_cases v1 : V1 < 0
      · clear n1 n2 n3 n4 n5 n6 hh
        go_enter Tryz.func23, Tryz.ntmps23
        go_wp2_with (first
        | (go_at_call 48; (with_reducible refine cS.mono ?_); rintro e w1 ⟨rfl, rfl⟩)
        | (go_at_call 49; (with_reducible refine (c1).mono ?_); rintro e w1 ⟨rfl, rfl⟩)
        | (go_at_call 49; (with_reducible refine (c2).mono ?_); rintro e w1 ⟨rfl, rfl⟩)
        | (go_at_call 49; (with_reducible refine (c3).mono ?_); rintro e w1 ⟨rfl, rfl⟩)
        | (go_at_call 49; (with_reducible refine (c4).mono ?_); rintro e w1 ⟨rfl, rfl⟩)
        | (go_at_call 49; (with_reducible refine (c5).mono ?_); rintro e w1 ⟨rfl, rfl⟩)
        | (go_at_call 49; (with_reducible refine (c6).mono ?_); rintro e w1 ⟨rfl, rfl⟩))
        go_ret2
        exact ⟨by rw [hD.out]; rfl, Below.refl _ _⟩
      have w1 : B1 = true := by cases hB : B1 with | true => rfl | false => exact absurd (n1.2 hB) v1
      have u1 : 0 ≤ V1 := by omega
      clear v1
      by_cases v2 : V2 < 0
      · clear n1 n2 n3 n4 n5 n6 hh
        go_enter Tryz.func23, Tryz.ntmps23
        go_wp2_with (first
        | (go_at_call 48; (with_reducible refine cS.mono ?_); rintro e w1 ⟨rfl, rfl⟩)
        | (go_at_call 49; (with_reducible refine (c1).mono ?_); rintro e w1 ⟨rfl, rfl⟩)
        | (go_at_call 49; (with_reducible refine (c2).mono ?_); rintro e w1 ⟨rfl, rfl⟩)
        | (go_at_call 49; (with_reducible refine (c3).mono ?_); rintro e w1 ⟨rfl, rfl⟩)
        | (go_at_call 49; (with_reducible refine (c4).mono ?_); rintro e w1 ⟨rfl, rfl⟩)
        | (go_at_call 49; (with_reducible refine (c5).mono ?_); rintro e w1 ⟨rfl, rfl⟩)
        | (go_at_call 49; (with_reducible refine (c6).mono ?_); rintro e w1 ⟨rfl, rfl⟩))
        go_ret2
        exact ⟨by rw [hD.out]; rfl, Below.refl _ _⟩
      have w2 : B2 = true := by cases hB : B2 with | true => rfl | false => exact absurd (n2.2 hB) v2
      have u2 : 0 ≤ V2 := by omega
      clear v2
      by_cases v3 : V3 < 0
      · clear n1 n2 n3 n4 n5 n6 hh
        go_enter Tryz.func23, Tryz.ntmps23
        go_wp2_with (first
        | (go_at_call 48; (with_reducible refine cS.mono ?_); rintro e w1 ⟨rfl, rfl⟩)
        | (go_at_call 49; (with_reducible refine (c1).mono ?_); rintro e w1 ⟨rfl, rfl⟩)
        | (go_at_call 49; (with_reducible refine (c2).mono ?_); rintro e w1 ⟨rfl, rfl⟩)
        | (go_at_call 49; (with_reducible refine (c3).mono ?_); rintro e w1 ⟨rfl, rfl⟩)
        | (go_at_call 49; (with_reducible refine (c4).mono ?_); rintro e w1 ⟨rfl, rfl⟩)
        | (go_at_call 49; (with_reducible refine (c5).mono ?_); rintro e w1 ⟨rfl, rfl⟩)
        | (go_at_call 49; (with_reducible refine (c6).mono ?_); rintro e w1 ⟨rfl, rfl⟩))
        go_ret2
        exact ⟨by rw [hD.out]; rfl, Below.refl _ _⟩
      have w3 : B3 = true := by cases hB : B3 with | true => rfl | false => exact absurd (n3.2 hB) v3
      have u3 : 0 ≤ V3 := by omega
      clear v3
      by_cases v4 : V4 < 0
      · clear n1 n2 n3 n4 n5 n6 hh
        go_enter Tryz.func23, Tryz.ntmps23
        go_wp2_with (first
        | (go_at_call 48; (with_reducible refine cS.mono ?_); rintro e w1 ⟨rfl, rfl⟩)
        | (go_at_call 49; (with_reducible refine (c1).mono ?_); rintro e w1 ⟨rfl, rfl⟩)
        | (go_at_call 49; (with_reducible refine (c2).mono ?_); rintro e w1 ⟨rfl, rfl⟩)
        | (go_at_call 49; (with_reducible refine (c3).mono ?_); rintro e w1 ⟨rfl, rfl⟩)
        | (go_at_call 49; (with_reducible refine (c4).mono ?_); rintro e w1 ⟨rfl, rfl⟩)
        | (go_at_call 49; (with_reducible refine (c5).mono ?_); rintro e w1 ⟨rfl, rfl⟩)
        | (go_at_call 49; (with_reducible refine (c6).mono ?_); rintro e w1 ⟨rfl, rfl⟩))
        go_ret2
        exact ⟨by rw [hD.out]; rfl, Below.refl _ _⟩
      have w4 : B4 = true := by cases hB : B4 with | true => rfl | false => exact absurd (n4.2 hB) v4
      have u4 : 0 ≤ V4 := by omega
      clear v4
      by_cases v5 : V5 < 0
      · clear n1 n2 n3 n4 n5 n6 hh
        go_enter Tryz.func23, Tryz.ntmps23
        go_wp2_with (first
        | (go_at_call 48; (with_reducible refine cS.mono ?_); rintro e w1 ⟨rfl, rfl⟩)
        | (go_at_call 49; (with_reducible refine (c1).mono ?_); rintro e w1 ⟨rfl, rfl⟩)
        | (go_at_call 49; (with_reducible refine (c2).mono ?_); rintro e w1 ⟨rfl, rfl⟩)
        | (go_at_call 49; (with_reducible refine (c3).mono ?_); rintro e w1 ⟨rfl, rfl⟩)
        | (go_at_call 49; (with_reducible refine (c4).mono ?_); rintro e w1 ⟨rfl, rfl⟩)
        | (go_at_call 49; (with_reducible refine (c5).mono ?_); rintro e w1 ⟨rfl, rfl⟩)
        | (go_at_call 49; (with_reducible refine (c6).mono ?_); rintro e w1 ⟨rfl, rfl⟩))
        go_ret2
        exact ⟨by rw [hD.out]; rfl, Below.refl _ _⟩
      have w5 : B5 = true := by cases hB : B5 with | true => rfl | false => exact absurd (n5.2 hB) v5
      have u5 : 0 ≤ V5 := by omega
      clear v5
      by_cases v6 : V6 < 0
      · clear n1 n2 n3 n4 n5 n6 hh
        go_enter Tryz.func23, Tryz.ntmps23
        go_wp2_with (first
        | (go_at_call 48; (with_reducible refine cS.mono ?_); rintro e w1 ⟨rfl, rfl⟩)
        | (go_at_call 49; (with_reducible refine (c1).mono ?_); rintro e w1 ⟨rfl, rfl⟩)
        | (go_at_call 49; (with_reducible refine (c2).mono ?_); rintro e w1 ⟨rfl, rfl⟩)
        | (go_at_call 49; (with_reducible refine (c3).mono ?_); rintro e w1 ⟨rfl, rfl⟩)
        | (go_at_call 49; (with_reducible refine (c4).mono ?_); rintro e w1 ⟨rfl, rfl⟩)
        | (go_at_call 49; (with_reducible refine (c5).mono ?_); rintro e w1 ⟨rfl, rfl⟩)
        | (go_at_call 49; (with_reducible refine (c6).mono ?_); rintro e w1 ⟨rfl, rfl⟩))
        go_ret2
        exact ⟨by rw [hD.out]; rfl, Below.refl _ _⟩
      have w6 : B6 = true := by cases hB : B6 with | true => rfl | false => exact absurd (n6.2 hB) v6
      have u6 : 0 ≤ V6 := by omega
      clear v6
      rw [w1, w2, w3, w4, w5, w6] at hh
      exact absurd hh (by decide)
  | true =>
    have c7 : ∀ k, Calls Tryz.prog 49 #[.slice A bs.length c, .int .i64 17, .int .i64 2, .int .i64 0, .int .i64 23] (w.drewN k) fun e w' => e = .returned (.int .i64 (prS bs 17 2 0 23)) ∧ w.drewN k = w' := fun k => ref_part c 17 2 0 23 (hb.below (below_drawn w k)) (by omega) (by omega) (by omega) (by omega) (by omega) (by omega) (by omega) (by omega)
    have c8 : ∀ k, Calls Tryz.prog 49 #[.slice A bs.length c, .int .i64 20, .int .i64 2, .int .i64 0, .int .i64 59] (w.drewN k) fun e w' => e = .returned (.int .i64 (prS bs 20 2 0 59)) ∧ w.drewN k = w' := fun k => ref_part c 20 2 0 59 (hb.below (below_drawn w k)) (by omega) (by omega) (by omega) (by omega) (by omega) (by omega) (by omega) (by omega)
    have n7 := prS_neg (bs := bs) (p := 17) (n := 2) (hi := 23) (show (0 : Int) ≤ 0 by omega)
    have n8 := prS_neg (bs := bs) (p := 20) (n := 2) (hi := 59) (show (0 : Int) ≤ 0 by omega)
    have hcv := fun k => conv_byt (c := c) (hb.below (below_drawn w k))
    have hcv0 := conv_byt (c := c) hb
    have hst : stands bs 0 [68, 58] = true := by unfold headOk at hh; simp only [Bool.and_eq_true] at hh; exact hh.1.1.1.1.1.1
    have u1 : 0 ≤ prS bs 2 4 0 9999 := by
      have hk : partOk bs 2 4 0 9999 = true := by unfold headOk at hh; simp only [Bool.and_eq_true] at hh; exact hh.1.1.1.1.1.2
      have h9 := n1
      rw [hk] at h9
      have : ¬ prS bs 2 4 0 9999 < 0 := fun h => by have := h9.1 h; cases this
      omega
    have u2 : 0 ≤ prS bs 6 2 1 12 := by
      have hk : partOk bs 6 2 1 12 = true := by unfold headOk at hh; simp only [Bool.and_eq_true] at hh; exact hh.1.1.1.1.2
      have h9 := n2
      rw [hk] at h9
      have : ¬ prS bs 6 2 1 12 < 0 := fun h => by have := h9.1 h; cases this
      omega
    have u3 : 0 ≤ prS bs 8 2 1 31 := by
      have hk : partOk bs 8 2 1 31 = true := by unfold headOk at hh; simp only [Bool.and_eq_true] at hh; exact hh.1.1.1.2
      have h9 := n3
      rw [hk] at h9
      have : ¬ prS bs 8 2 1 31 < 0 := fun h => by have := h9.1 h; cases this
      omega
    have u4 : 0 ≤ prS bs 10 2 0 23 := by
      have hk : partOk bs 10 2 0 23 = true := by unfold headOk at hh; simp only [Bool.and_eq_true] at hh; exact hh.1.1.2
      have h9 := n4
      rw [hk] at h9
      have : ¬ prS bs 10 2 0 23 < 0 := fun h => by have := h9.1 h; cases this
      omega
    have u5 : 0 ≤ prS bs 12 2 0 59 := by
      have hk : partOk bs 12 2 0 59 = true := by unfold headOk at hh; simp only [Bool.and_eq_true] at hh; exact hh.1.2
      have h9 := n5
      rw [hk] at h9
      have : ¬ prS bs 12 2 0 59 < 0 := fun h => by have := h9.1 h; cases this
      omega
    have u6 : 0 ≤ prS bs 14 2 0 59 := by
      have hk : partOk bs 14 2 0 59 = true := by unfold headOk at hh; simp only [Bool.and_eq_true] at hh; exact hh.2
      have h9 := n6
      rw [hk] at h9
      have : ¬ prS bs 14 2 0 59 < 0 := fun h => by have := h9.1 h; cases this
      omega
    rw [hst] at cS
    obtain ⟨y0, y1, y2, y3, a0, a1, b0, b1, c0, c1', d0, d1, e0, e1, z, rfl⟩ := head_shape hh
    have hD := Lib.hid (date_R _ _ _ _ _ _ _ _ _ _ _ _ _ _ _ hh)
    have hl := date_len y0 y1 y2 y3 a0 a1 b0 b1 c0 c1' d0 d1 e0 e1 z
    generalize prS (dateL y0 y1 y2 y3 a0 a1 b0 b1 c0 c1' d0 d1 e0 e1 z) 2 4 0 9999 = V1 at *
    generalize prS (dateL y0 y1 y2 y3 a0 a1 b0 b1 c0 c1' d0 d1 e0 e1 z) 6 2 1 12 = V2 at *
    generalize prS (dateL y0 y1 y2 y3 a0 a1 b0 b1 c0 c1' d0 d1 e0 e1 z) 8 2 1 31 = V3 at *
    generalize prS (dateL y0 y1 y2 y3 a0 a1 b0 b1 c0 c1' d0 d1 e0 e1 z) 10 2 0 23 = V4 at *
    generalize prS (dateL y0 y1 y2 y3 a0 a1 b0 b1 c0 c1' d0 d1 e0 e1 z) 12 2 0 59 = V5 at *
    generalize prS (dateL y0 y1 y2 y3 a0 a1 b0 b1 c0 c1' d0 d1 e0 e1 z) 14 2 0 59 = V6 at *
    generalize hV7 : prS (dateL y0 y1 y2 y3 a0 a1 b0 b1 c0 c1' d0 d1 e0 e1 z) 17 2 0 23 = V7 at *
    replace hV7 := Lib.hid hV7
    generalize hV8 : prS (dateL y0 y1 y2 y3 a0 a1 b0 b1 c0 c1' d0 d1 e0 e1 z) 20 2 0 59 = V8 at *
    replace hV8 := Lib.hid hV8
    generalize hZ : zoneR (dateL y0 y1 y2 y3 a0 a1 b0 b1 c0 c1' d0 d1 e0 e1 z) z = Z at *
    replace hZ := Lib.hid hZ
    generalize dateS (dateL y0 y1 y2 y3 a0 a1 b0 b1 c0 c1' d0 d1 e0 e1 z) = D at *
    generalize (dateL y0 y1 y2 y3 a0 a1 b0 b1 c0 c1' d0 d1 e0 e1 z).length = Ln at *
    generalize partOk (dateL y0 y1 y2 y3 a0 a1 b0 b1 c0 c1' d0 d1 e0 e1 z) 17 2 0 23 = B7 at *
    generalize partOk (dateL y0 y1 y2 y3 a0 a1 b0 b1 c0 c1' d0 d1 e0 e1 z) 20 2 0 59 = B8 at *
    unfold str at hcv0
    generalize hS : (⟨(dateL y0 y1 y2 y3 a0 a1 b0 b1 c0 c1' d0 d1 e0 e1 z).toArray⟩ : ByteArray) = S at *
    have hSl : S.data.toList = 68 :: 58 :: y0 :: y1 :: y2 :: y3 :: a0 :: a1 :: b0 :: b1 :: c0 :: c1' :: d0 :: d1 :: e0 :: e1 :: z := by rw [← hS]; rfl
    have hSz : S.size = z.length + 16 := by
      show S.data.size = _
      rw [← Array.length_toList, hSl]; rfl
    clear hS
    have hX : (S.extract 16 (z.length + 16)).data.toList = z := by rw [bytes_cut, hSl, List.take_of_length_le (by simp)]; rfl
    have hXe : ((S.extract 16 (z.length + 16)).toList == [90]) = decide (z = [90]) := by
      rw [ByteArray.toList_eq, hX]; by_cases h : z = [90] <;> simp [h]
    replace hX := Lib.hid hX
    replace hSl := Lib.hid hSl
    have q2 : ∀ w : World, (Instr.slice 9 (.string S) (some (.int .i64 2)) (some (.int .i64 6)) none).run Tryz.prog w = .ok (.string (S.extract 2 6)) w := fun w => run_slice_string w 9 S .i64 .i64 2 6 Tryz.underlying9 (by omega) (by omega) (by omega)
    have q6 : ∀ w : World, (Instr.slice 9 (.string S) (some (.int .i64 6)) (some (.int .i64 8)) none).run Tryz.prog w = .ok (.string (S.extract 6 8)) w := fun w => run_slice_string w 9 S .i64 .i64 6 8 Tryz.underlying9 (by omega) (by omega) (by omega)
    have q8 : ∀ w : World, (Instr.slice 9 (.string S) (some (.int .i64 8)) (some (.int .i64 10)) none).run Tryz.prog w = .ok (.string (S.extract 8 10)) w := fun w => run_slice_string w 9 S .i64 .i64 8 10 Tryz.underlying9 (by omega) (by omega) (by omega)
    have q10 : ∀ w : World, (Instr.slice 9 (.string S) (some (.int .i64 10)) (some (.int .i64 12)) none).run Tryz.prog w = .ok (.string (S.extract 10 12)) w := fun w => run_slice_string w 9 S .i64 .i64 10 12 Tryz.underlying9 (by omega) (by omega) (by omega)
    have q12 : ∀ w : World, (Instr.slice 9 (.string S) (some (.int .i64 12)) (some (.int .i64 14)) none).run Tryz.prog w = .ok (.string (S.extract 12 14)) w := fun w => run_slice_string w 9 S .i64 .i64 12 14 Tryz.underlying9 (by omega) (by omega) (by omega)
    have q14 : ∀ w : World, (Instr.slice 9 (.string S) (some (.int .i64 14)) (some (.int .i64 16)) none).run Tryz.prog w = .ok (.string (S.extract 14 16)) w := fun w => run_slice_string w 9 S .i64 .i64 14 16 Tryz.underlying9 (by omega) (by omega) (by omega)
    have hzl : z.length ≤ 984 := by omega
    replace hl := Lib.hid hl
    clear hb hh hst hcv n1 n2 n3 n4 n5 n6
    by_cases h90 : z = [90]
    · rw [decide_eq_true h90] at hXe
      have hZ2 : Z = ([90], true) := by rw [← hZ.out, h90]; rfl
      rw [h90] at hXe
      have hXe : ((S.extract 16 17).toList == [90]) = true := hXe
      have hSl2 := hSl.out
      rw [h90] at hSl2
      replace hSl2 := Lib.hid hSl2
      have hD2 := hD.out
      rw [hZ2] at hD2
      replace hD2 := Lib.hid hD2
      clear hZ2 hD hZ
      go_enter Tryz.func23, Tryz.ntmps23
      go_wp2_with (first
        | (go_at_call 48; (with_reducible refine cS.mono ?_); rintro e w1 ⟨rfl, rfl⟩)
        | (go_at_call 49; (with_reducible refine (c1).mono ?_); rintro e w1 ⟨rfl, rfl⟩)
        | (go_at_call 49; (with_reducible refine (c2).mono ?_); rintro e w1 ⟨rfl, rfl⟩)
        | (go_at_call 49; (with_reducible refine (c3).mono ?_); rintro e w1 ⟨rfl, rfl⟩)
        | (go_at_call 49; (with_reducible refine (c4).mono ?_); rintro e w1 ⟨rfl, rfl⟩)
        | (go_at_call 49; (with_reducible refine (c5).mono ?_); rintro e w1 ⟨rfl, rfl⟩)
        | (go_at_call 49; (with_reducible refine (c6).mono ?_); rintro e w1 ⟨rfl, rfl⟩))
      go_quiet (fail)
      go_wp2
      all_goals go_ret2
      refine ⟨?_, below_drawn _ _⟩
      rw [hD2.out]
      refine congrArg (fun v => Ending.returned (Value.tuple #[v, .bool true])) ?_
      refine congrArg Value.string ?_
      apply bytes_ext
      simp only [bytes_app, bytes_cut, hSl2.out]
      rfl
    · rw [decide_eq_false h90] at hXe
      by_cases hlen : z.length < 6 ∨ 7 < z.length
      · have hD2 := hD.out
        rw [← hZ.out, zone_no h90 hlen] at hD2
        have hD2 : D = ([], false) := hD2
        rcases hlen with hlen | hlen
        · exact dl_short cS c1 c2 c3 c4 c5 c6 c7 c8 u1 u2 u3 u4 u5 u6 hcv0 q2 q6 q8 q10 q12 q14 hSz hXe hlen (Lib.hid hD2)
        · exact dl_long cS c1 c2 c3 c4 c5 c6 c7 c8 u1 u2 u3 u4 u5 u6 hcv0 q2 q6 q8 q10 q12 q14 hSz hXe hlen (Lib.hid hD2)
      · have h67 : z.length = 6 ∨ z.length = 7 := by omega
        clear hlen
        rcases h67 with h6 | h7
        · obtain ⟨z0, z1, z2, z3, z4, z5, rfl⟩ : ∃ z0 z1 z2 z3 z4 z5, z = [z0, z1, z2, z3, z4, z5] := by
            match z, h6 with
            | [z0, z1, z2, z3, z4, z5], _ => exact ⟨z0, z1, z2, z3, z4, z5, rfl⟩
          replace hX := hX.out
          replace hSl := hSl.out
          have i0 : ∀ w : World, (Instr.index 9 (.string (S.extract 16 22)) (.int .i64 0)).run Tryz.prog w = .ok (.int .u8 (z0.toNat : Int)) w := fun w => idx_str hX 0 (by show 0 < 6; omega) w
          have i3 : ∀ w : World, (Instr.index 9 (.string (S.extract 16 22)) (.int .i64 3)).run Tryz.prog w = .ok (.int .u8 (z3.toNat : Int)) w := fun w => idx_str hX 3 (by show 3 < 6; omega) w
          have hXe : ((S.extract 16 22).toList == [90]) = false := hXe
          have hSz : S.size = 22 := hSz
          have hZ2 := hZ.out
          rw [zone6, hV7.out, hV8.out] at hZ2
          have hDn : Z = ([], false) → D = ([], false) := fun h => by rw [hD.out, h]; rfl
          have hDy : Z = ([z0, z1, z2, 58, z4, z5], true) → str D.1 = .string (S.extract 2 6 ++ ⟨#[45]⟩ ++ S.extract 6 8 ++ ⟨#[45]⟩ ++ S.extract 8 10 ++ ⟨#[84]⟩ ++ S.extract 10 12 ++ ⟨#[58]⟩ ++ S.extract 12 14 ++ ⟨#[58]⟩ ++ S.extract 14 16 ++ (S.extract 16 22).extract 0 3 ++ ⟨#[58]⟩ ++ (S.extract 16 22).extract 4 6) ∧ D.2 = true := fun h => by
            rw [hD.out, h]
            refine ⟨?_, rfl⟩
            refine congrArg Value.string ?_
            apply bytes_ext
            simp only [bytes_app, bytes_cut, hSl]
            rfl
          generalize (z0.toNat : Int) = m0 at *
          generalize (z3.toNat : Int) = m3 at *
          by_cases p0 : m0 = 43
          · by_cases p3 : m3 = 39
            case neg => exact dl6a_3 cS c1 c2 c3 c4 c5 c6 c7 c8 u1 u2 u3 u4 u5 u6 hcv0 q2 q6 q8 q10 q12 q14 hSz hXe i0 i3 p0 p3 (Lib.hid (hDn (by rw [← hZ2]; simp [*])))
            by_cases p7 : 0 ≤ V7
            case neg => exact dl6a_7 cS c1 c2 c3 c4 c5 c6 c7 c8 u1 u2 u3 u4 u5 u6 hcv0 q2 q6 q8 q10 q12 q14 hSz hXe i0 i3 p0 p3 (by omega) (Lib.hid (hDn (by rw [← hZ2]; simp [*])))
            by_cases p8 : 0 ≤ V8
            case neg => exact dl6a_8 cS c1 c2 c3 c4 c5 c6 c7 c8 u1 u2 u3 u4 u5 u6 hcv0 q2 q6 q8 q10 q12 q14 hSz hXe i0 i3 p0 p3 p7 (by omega) (Lib.hid (hDn (by rw [← hZ2]; simp [*])))
            exact dl6a_y cS c1 c2 c3 c4 c5 c6 c7 c8 u1 u2 u3 u4 u5 u6 hcv0 q2 q6 q8 q10 q12 q14 hSz hXe i0 i3 p0 p3 p7 p8 (Lib.hid (hDy (by rw [← hZ2]; simp [*])))
          · by_cases p1 : m0 = 45
            · by_cases p3 : m3 = 39
              case neg => exact dl6b_3 cS c1 c2 c3 c4 c5 c6 c7 c8 u1 u2 u3 u4 u5 u6 hcv0 q2 q6 q8 q10 q12 q14 hSz hXe i0 i3 p1 p3 (Lib.hid (hDn (by rw [← hZ2]; simp [*])))
              by_cases p7 : 0 ≤ V7
              case neg => exact dl6b_7 cS c1 c2 c3 c4 c5 c6 c7 c8 u1 u2 u3 u4 u5 u6 hcv0 q2 q6 q8 q10 q12 q14 hSz hXe i0 i3 p1 p3 (by omega) (Lib.hid (hDn (by rw [← hZ2]; simp [*])))
              by_cases p8 : 0 ≤ V8
              case neg => exact dl6b_8 cS c1 c2 c3 c4 c5 c6 c7 c8 u1 u2 u3 u4 u5 u6 hcv0 q2 q6 q8 q10 q12 q14 hSz hXe i0 i3 p1 p3 p7 (by omega) (Lib.hid (hDn (by rw [← hZ2]; simp [*])))
              exact dl6b_y cS c1 c2 c3 c4 c5 c6 c7 c8 u1 u2 u3 u4 u5 u6 hcv0 q2 q6 q8 q10 q12 q14 hSz hXe i0 i3 p1 p3 p7 p8 (Lib.hid (hDy (by rw [← hZ2]; simp [*])))
            · exact dl6_bad cS c1 c2 c3 c4 c5 c6 c7 c8 u1 u2 u3 u4 u5 u6 hcv0 q2 q6 q8 q10 q12 q14 hSz hXe i0 i3 p0 p1 (Lib.hid (hDn (by rw [← hZ2]; simp [*])))
        · obtain ⟨z0, z1, z2, z3, z4, z5, z6, rfl⟩ : ∃ z0 z1 z2 z3 z4 z5 z6, z = [z0, z1, z2, z3, z4, z5, z6] := by
            match z, h7 with
            | [z0, z1, z2, z3, z4, z5, z6], _ => exact ⟨z0, z1, z2, z3, z4, z5, z6, rfl⟩
          replace hX := hX.out
          replace hSl := hSl.out
          have i0 : ∀ w : World, (Instr.index 9 (.string (S.extract 16 23)) (.int .i64 0)).run Tryz.prog w = .ok (.int .u8 (z0.toNat : Int)) w := fun w => idx_str hX 0 (by show 0 < 7; omega) w
          have i3 : ∀ w : World, (Instr.index 9 (.string (S.extract 16 23)) (.int .i64 3)).run Tryz.prog w = .ok (.int .u8 (z3.toNat : Int)) w := fun w => idx_str hX 3 (by show 3 < 7; omega) w
          have i6 : ∀ w : World, (Instr.index 9 (.string (S.extract 16 23)) (.int .i64 6)).run Tryz.prog w = .ok (.int .u8 (z6.toNat : Int)) w := fun w => idx_str hX 6 (by show 6 < 7; omega) w
          have hXe : ((S.extract 16 23).toList == [90]) = false := hXe
          have hSz : S.size = 23 := hSz
          have hZ2 := hZ.out
          rw [zone7, zone6, hV7.out, hV8.out] at hZ2
          have hDn : Z = ([], false) → D = ([], false) := fun h => by rw [hD.out, h]; rfl
          have hDy : Z = ([z0, z1, z2, 58, z4, z5], true) → str D.1 = .string (S.extract 2 6 ++ ⟨#[45]⟩ ++ S.extract 6 8 ++ ⟨#[45]⟩ ++ S.extract 8 10 ++ ⟨#[84]⟩ ++ S.extract 10 12 ++ ⟨#[58]⟩ ++ S.extract 12 14 ++ ⟨#[58]⟩ ++ S.extract 14 16 ++ (S.extract 16 23).extract 0 3 ++ ⟨#[58]⟩ ++ (S.extract 16 23).extract 4 6) ∧ D.2 = true := fun h => by
            rw [hD.out, h]
            refine ⟨?_, rfl⟩
            refine congrArg Value.string ?_
            apply bytes_ext
            simp only [bytes_app, bytes_cut, hSl]
            rfl
          generalize (z0.toNat : Int) = m0 at *
          generalize (z3.toNat : Int) = m3 at *
          generalize (z6.toNat : Int) = m6 at *
          by_cases p0 : m0 = 43
          · by_cases p3 : m3 = 39
            case neg => exact dl7a_3 cS c1 c2 c3 c4 c5 c6 c7 c8 u1 u2 u3 u4 u5 u6 hcv0 q2 q6 q8 q10 q12 q14 hSz hXe i0 i3 i6 p0 p3 (Lib.hid (hDn (by rw [← hZ2]; simp [*])))
            by_cases p6 : m6 = 39
            case neg => exact dl7a_6 cS c1 c2 c3 c4 c5 c6 c7 c8 u1 u2 u3 u4 u5 u6 hcv0 q2 q6 q8 q10 q12 q14 hSz hXe i0 i3 i6 p0 p3 p6 (Lib.hid (hDn (by rw [← hZ2]; simp [*])))
            by_cases p7 : 0 ≤ V7
            case neg => exact dl7a_7 cS c1 c2 c3 c4 c5 c6 c7 c8 u1 u2 u3 u4 u5 u6 hcv0 q2 q6 q8 q10 q12 q14 hSz hXe i0 i3 i6 p0 p3 p6 (by omega) (Lib.hid (hDn (by rw [← hZ2]; simp [*])))
            by_cases p8 : 0 ≤ V8
            case neg => exact dl7a_8 cS c1 c2 c3 c4 c5 c6 c7 c8 u1 u2 u3 u4 u5 u6 hcv0 q2 q6 q8 q10 q12 q14 hSz hXe i0 i3 i6 p0 p3 p6 p7 (by omega) (Lib.hid (hDn (by rw [← hZ2]; simp [*])))
            exact dl7a_y cS c1 c2 c3 c4 c5 c6 c7 c8 u1 u2 u3 u4 u5 u6 hcv0 q2 q6 q8 q10 q12 q14 hSz hXe i0 i3 i6 p0 p3 p6 p7 p8 (Lib.hid (hDy (by rw [← hZ2]; simp [*])))
          · by_cases p1 : m0 = 45
            · by_cases p3 : m3 = 39
              case neg => exact dl7b_3 cS c1 c2 c3 c4 c5 c6 c7 c8 u1 u2 u3 u4 u5 u6 hcv0 q2 q6 q8 q10 q12 q14 hSz hXe i0 i3 i6 p1 p3 (Lib.hid (hDn (by rw [← hZ2]; simp [*])))
              by_cases p6 : m6 = 39
              case neg => exact dl7b_6 cS c1 c2 c3 c4 c5 c6 c7 c8 u1 u2 u3 u4 u5 u6 hcv0 q2 q6 q8 q10 q12 q14 hSz hXe i0 i3 i6 p1 p3 p6 (Lib.hid (hDn (by rw [← hZ2]; simp [*])))
              by_cases p7 : 0 ≤ V7
              case neg => exact dl7b_7 cS c1 c2 c3 c4 c5 c6 c7 c8 u1 u2 u3 u4 u5 u6 hcv0 q2 q6 q8 q10 q12 q14 hSz hXe i0 i3 i6 p1 p3 p6 (by omega) (Lib.hid (hDn (by rw [← hZ2]; simp [*])))
              by_cases p8 : 0 ≤ V8
              case neg => exact dl7b_8 cS c1 c2 c3 c4 c5 c6 c7 c8 u1 u2 u3 u4 u5 u6 hcv0 q2 q6 q8 q10 q12 q14 hSz hXe i0 i3 i6 p1 p3 p6 p7 (by omega) (Lib.hid (hDn (by rw [← hZ2]; simp [*])))
              exact dl7b_y cS c1 c2 c3 c4 c5 c6 c7 c8 u1 u2 u3 u4 u5 u6 hcv0 q2 q6 q8 q10 q12 q14 hSz hXe i0 i3 i6 p1 p3 p6 p7 p8 (Lib.hid (hDy (by rw [← hZ2]; simp [*])))
            · exact dl7_bad cS c1 c2 c3 c4 c5 c6 c7 c8 u1 u2 u3 u4 u5 u6 hcv0 q2 q6 q8 q10 q12 q14 hSz hXe i0 i3 i6 p0 p1 (Lib.hid (hDn (by rw [← hZ2]; simp [*])))
end Go.Proofs.YtkpikpaepgknnaaGreatDoor

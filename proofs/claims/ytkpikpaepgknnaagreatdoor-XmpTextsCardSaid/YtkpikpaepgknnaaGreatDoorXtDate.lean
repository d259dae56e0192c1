/- The document's date is the program's. No condition. -/
import Derived.Test.YtkpikpaepgknnaaGreatDoorXtRef
set_option linter.unusedVariables false
namespace Go.Proofs.YtkpikpaepgknnaaGreatDoor
open Go Go.RowKit Go.Wk Go.Lib
theorem prS_neg {bs : List UInt8} {p n : Nat} {lo hi : Int} (h : 0 ≤ lo) : prS bs p n lo hi < 0 ↔ partOk bs p n lo hi = false := by
  unfold prS
  by_cases hp : partOk bs p n lo hi = true
  · rw [if_pos hp, hp]
    have : lo ≤ numI (takeS bs p n) := by
      unfold partOk at hp; simp only [Bool.and_eq_true, decide_eq_true_eq] at hp; exact hp.1.2
    simp; omega
  · rw [if_neg hp]
    simp at hp
    simp [hp]
/-- the parts at their places -/
def headOk (bs : List UInt8) : Bool := stands bs 0 [68, 58] && partOk bs 2 4 0 9999 && partOk bs 6 2 1 12 && partOk bs 8 2 1 31 && partOk bs 10 2 0 23 && partOk bs 12 2 0 59 && partOk bs 14 2 0 59
theorem part_t {bs : List UInt8} {p d : Nat} {lo hi : Int} (h : partOk bs p d lo hi = true) : partP bs p d = p + d := by
  unfold partOk at h; simp only [Bool.and_eq_true] at h; unfold partP; rw [if_pos h.1.1.1]
theorem head_dB (bs : List UInt8) : headOk bs = dB bs 6 := by
  have s0 : stands bs 0 [68, 58] = true → dP bs 0 = 2 := fun h => by show mP bs 0 [68, 58] = 2; unfold mP; rw [if_pos h]; rfl
  have step : ∀ k p d, dP bs k = p → (if k = 0 then 4 else 2) = d → dB bs (k + 1) = (dB bs k && partOk bs p d (loD k) (hiD k)) := fun k p d h1 h2 => by rw [← h1, ← h2]; rfl
  have pstep : ∀ k p d, dP bs k = p → (if k = 0 then 4 else 2) = d → partOk bs p d (loD k) (hiD k) = true → dP bs (k + 1) = p + d := fun k p d h1 h2 h3 => by
    show partP bs (dP bs k) (if k = 0 then 4 else 2) = _; rw [h1, h2]; exact part_t h3
  unfold headOk
  cases hs : stands bs 0 [68, 58] with
  | false =>
    have : ∀ k, dB bs k = false := fun k => by induction k with
      | zero => exact hs
      | succ k ih => show (dB bs k && _) = false; rw [ih]; rfl
    rw [this]; rfl
  | true =>
    have p0 := s0 hs
    have f : ∀ k, dB bs k = false → ∀ j, dB bs (k + j) = false := fun k h j => by induction j with
      | zero => exact h
      | succ j ih => show (dB bs (k + j) && _) = false; rw [ih]; rfl
    have e1 := step 0 2 4 p0 rfl
    rw [show dB bs 0 = true from hs] at e1
    cases h1 : partOk bs 2 4 0 9999 with
    | false => rw [f 1 (by rw [e1]; exact h1) 5]; rfl
    | true =>
      rw [show partOk bs 2 4 (loD 0) (hiD 0) = true from h1] at e1
      have p1 := pstep 0 2 4 p0 rfl h1
      have e2 := step 1 6 2 p1 rfl
      rw [e1] at e2
      cases h2 : partOk bs 6 2 1 12 with
      | false => rw [f 2 (by rw [e2]; exact h2) 4]; rfl
      | true =>
        rw [show partOk bs 6 2 (loD 1) (hiD 1) = true from h2] at e2
        have p2 := pstep 1 6 2 p1 rfl h2
        have e3 := step 2 8 2 p2 rfl
        rw [e2] at e3
        cases h3 : partOk bs 8 2 1 31 with
        | false => rw [f 3 (by rw [e3]; exact h3) 3]; rfl
        | true =>
          rw [show partOk bs 8 2 (loD 2) (hiD 2) = true from h3] at e3
          have p3 := pstep 2 8 2 p2 rfl h3
          have e4 := step 3 10 2 p3 rfl
          rw [e3] at e4
          cases h4 : partOk bs 10 2 0 23 with
          | false => rw [f 4 (by rw [e4]; exact h4) 2]; rfl
          | true =>
            rw [show partOk bs 10 2 (loD 3) (hiD 3) = true from h4] at e4
            have p4 := pstep 3 10 2 p3 rfl h4
            have e5 := step 4 12 2 p4 rfl
            rw [e4] at e5
            cases h5 : partOk bs 12 2 0 59 with
            | false => rw [f 5 (by rw [e5]; exact h5) 1]; rfl
            | true =>
              rw [show partOk bs 12 2 (loD 4) (hiD 4) = true from h5] at e5
              have p5 := pstep 4 12 2 p4 rfl h5
              have e6 := step 5 14 2 p5 rfl
              rw [e5] at e6
              rw [e6]; rfl
theorem head_no {bs : List UInt8} (h : headOk bs = false) : dateS bs = ([], false) := by
  unfold dateS; rw [← head_dB, h]; rfl
theorem head_shape {bs : List UInt8} (h : headOk bs = true) : ∃ y0 y1 y2 y3 a0 a1 b0 b1 c0 c1 d0 d1 e0 e1 z, bs = dateL y0 y1 y2 y3 a0 a1 b0 b1 c0 c1 d0 d1 e0 e1 z := by
  have h2 := h
  unfold headOk at h
  simp only [Bool.and_eq_true] at h
  have hl : 16 ≤ bs.length := by
    have := h.2; unfold partOk takeB at this; simp only [Bool.and_eq_true, decide_eq_true_eq] at this; omega
  have hs := h.1.1.1.1.1.1
  match bs, hl, hs with
  | x0 :: x1 :: y0 :: y1 :: y2 :: y3 :: a0 :: a1 :: b0 :: b1 :: c0 :: c1 :: d0 :: d1 :: e0 :: e1 :: z, _, hs =>
    unfold stands at hs
    simp only [Bool.and_eq_true] at hs
    have h3 : [x0, x1] = [68, 58] := by have := hs.2; simpa using this
    obtain ⟨rfl, rfl⟩ : x0 = 68 ∧ x1 = 58 := by simpa using h3
    exact ⟨y0, y1, y2, y3, a0, a1, b0, b1, c0, c1, d0, d1, e0, e1, z, rfl⟩
theorem zoneB_len {bs : List UInt8} (h : zoneB bs 16 = true) : bs.length = 22 ∨ bs.length = 23 := by
  unfold zoneB at h
  simp only [Bool.and_eq_true, decide_eq_true_eq] at h
  obtain ⟨⟨⟨⟨_, h1⟩, h2⟩, h3⟩, h4⟩ := h
  have n0 : nextP bs 16 = 17 := by
    have := h1; unfold partOk takeB at this; simp only [Bool.and_eq_true, decide_eq_true_eq] at this
    unfold nextP at this ⊢; split at this <;> rename_i hx
    · rw [if_pos hx]
    · omega
  rw [n0] at h1 h2 h3 h4
  have p1 := part_t h1
  rw [p1] at h2 h3 h4
  have m1 : mP bs 19 [39] = 20 := by unfold mP; rw [if_pos h2]; rfl
  rw [show 17 + 2 = 19 from rfl] at h3 h4
  rw [m1] at h3 h4
  have p2 := part_t h3
  rw [p2] at h4
  unfold mP at h4
  split at h4
  · simp at h4; omega
  · omega
def zoneOk (bs z : List UInt8) : Bool := match z with
  | [z0, _, _, z3, _, _] => (z0 == 43 || z0 == 45) && z3 == 39 && partOk bs 17 2 0 23 && partOk bs 20 2 0 59
  | [z0, _, _, z3, _, _, z6] => (z0 == 43 || z0 == 45) && z3 == 39 && z6 == 39 && partOk bs 17 2 0 23 && partOk bs 20 2 0 59
  | _ => false
def zoneR (bs z : List UInt8) : List UInt8 × Bool := if z = [90] then ([90], true) else if zoneOk bs z then (z.take 3 ++ [58] ++ (z.drop 4).take 2, true) else ([], false)
theorem u8_beq (x : UInt8) (n : Nat) (hn : n < 256) : ((x.toNat : Int) == (n : Int)) = (x == UInt8.ofNat n) := by
  rw [Bool.eq_iff_iff]
  simp only [beq_iff_eq]
  constructor
  · intro h
    apply UInt8.toNat_inj.1
    rw [UInt8.toNat_ofNat_of_lt' (by show n < 256; omega)]; omega
  · intro h; rw [h, UInt8.toNat_ofNat_of_lt' (by show n < 256; omega)]
section
variable (y0 y1 y2 y3 a0 a1 b0 b1 c0 c1 d0 d1 e0 e1 : UInt8) (z : List UInt8)
theorem zone_same : zoneR (dateL y0 y1 y2 y3 a0 a1 b0 b1 c0 c1 d0 d1 e0 e1 z) z = if (zoneS (dateL y0 y1 y2 y3 a0 a1 b0 b1 c0 c1 d0 d1 e0 e1 z) 16).2 then zoneS (dateL y0 y1 y2 y3 a0 a1 b0 b1 c0 c1 d0 d1 e0 e1 z) 16 else ([], false) := by
  have hl := date_len y0 y1 y2 y3 a0 a1 b0 b1 c0 c1 d0 d1 e0 e1 z
  by_cases h90 : z = [90]
  · subst h90; rfl
  by_cases h6 : z.length = 6 ∨ z.length = 7
  · obtain ⟨z0, z1, z2, z3, z4, z5, r, rfl, hr⟩ : ∃ z0 z1 z2 z3 z4 z5 r, z = z0 :: z1 :: z2 :: z3 :: z4 :: z5 :: r ∧ r.length ≤ 1 := by
      match z, h6 with
      | [z0, z1, z2, z3, z4, z5], _ => exact ⟨z0, z1, z2, z3, z4, z5, [], rfl, by simp⟩
      | [z0, z1, z2, z3, z4, z5, z6], _ => exact ⟨z0, z1, z2, z3, z4, z5, [z6], rfl, by simp⟩
      | [], h => simp at h
      | [_], h => simp at h
      | [_, _], h => simp at h
      | [_, _, _], h => simp at h
      | [_, _, _, _], h => simp at h
      | [_, _, _, _, _], h => simp at h
      | _ :: _ :: _ :: _ :: _ :: _ :: _ :: _ :: _, h => simp at h
    simp only [List.length_cons] at hl
    generalize hB : dateL y0 y1 y2 y3 a0 a1 b0 b1 c0 c1 d0 d1 e0 e1 (z0 :: z1 :: z2 :: z3 :: z4 :: z5 :: r) = B at *
    have pk : peekS B 16 = (z0.toNat : Int) := by rw [← hB]; rfl
    have n0 : nextP B 16 = 17 := by unfold nextP; rw [if_pos (by omega)]
    have tk : ∀ {p d : Nat} {l : List UInt8}, p + d ≤ 22 → (B.drop p).take d = l → takeS B p d = l ∧ takeB B p d = true := fun h e =>
      ⟨by unfold takeS; rw [if_pos (by omega)]; exact e, by unfold takeB; exact decide_eq_true (by omega)⟩
    obtain ⟨t1, u1⟩ := tk (p := 17) (d := 2) (l := [z1, z2]) (by omega) (by rw [← hB]; rfl)
    obtain ⟨t2, u2⟩ := tk (p := 20) (d := 2) (l := [z4, z5]) (by omega) (by rw [← hB]; rfl)
    have q1 : partP B 17 2 = 19 := by unfold partP; rw [if_pos u1]
    have q3 : partP B 20 2 = 22 := by unfold partP; rw [if_pos u2]
    have s1 : stands B 19 [39] = (z3 == 39) := by
      unfold stands; rw [decide_eq_true (by show 19 + 1 ≤ B.length; omega), ← hB]
      show (true && ([z3] == [39])) = _
      simp
    have b43 := u8_beq z0 43 (by omega)
    have b45 := u8_beq z0 45 (by omega)
    have q4 : decide (mP B 22 [39] = B.length) = decide (r = [] ∨ r = [39]) := by
      match r, hr, hB, hl with
      | [], _, hB, hl =>
        have st : stands B 22 [39] = false := by unfold stands; rw [decide_eq_false (by show ¬ 22 + 1 ≤ B.length; simp at hl; omega)]; rfl
        unfold mP; rw [st]; simp at hl ⊢; omega
      | [z6], _, hB, hl =>
        have st : stands B 22 [39] = (z6 == 39) := by
          unfold stands; rw [decide_eq_true (by show 22 + 1 ≤ B.length; simp at hl; omega), ← hB]
          show (true && ([z6] == [39])) = _
          simp
        unfold mP; rw [st]
        by_cases h : z6 = 39
        · subst h; simp at hl ⊢; omega
        · simp at hl; simp [h]; omega
    have ok : zoneOk B (z0 :: z1 :: z2 :: z3 :: z4 :: z5 :: r) = ((z0 == 43 || z0 == 45) && z3 == 39 && decide (r = [] ∨ r = [39]) && partOk B 17 2 0 23 && partOk B 20 2 0 59) := by
      match r, hr with
      | [], _ => simp [zoneOk]
      | [z6], _ => simp [zoneOk]; rfl
    have zb : zoneB B 16 = zoneOk B (z0 :: z1 :: z2 :: z3 :: z4 :: z5 :: r) := by
      rw [ok]
      unfold zoneB
      rw [n0, q1, s1, pk]
      by_cases h3 : z3 = 39
      · subst h3
        have m1 : mP B 19 [39] = 20 := by unfold mP; rw [s1]; rfl
        rw [m1, q3, q4]
        have e1 : ((z0.toNat : Int) == 43 || (z0.toNat : Int) == 45) = (z0 == 43 || z0 == 45) := by
          have b1 : ((z0.toNat : Int) == 43) = (z0 == 43) := b43
          have b2 : ((z0.toNat : Int) == 45) = (z0 == 45) := b45
          rw [b1, b2]
        rw [e1]
        cases (z0 == 43 || z0 == 45) <;> cases partOk B 17 2 0 23 <;> cases partOk B 20 2 0 59 <;> cases decide (r = [] ∨ r = [39]) <;> rfl
      · have h3b : (z3 == 39) = false := by simpa using h3
        rw [h3b]; simp
    have hz0 : UInt8.ofNat ((z0.toNat : Int)).toNat = z0 := by rw [Int.toNat_natCast]; exact UInt8.ofNat_toNat
    unfold zoneR zoneS
    rw [if_neg h90, zb, pk, n0]
    by_cases hp : (z0.toNat : Int) = 90
    · have hz : z0 = 90 := UInt8.toNat_inj.1 (by show z0.toNat = 90; omega)
      subst hz
      rw [if_pos hp, ok]
      have hne : ¬ 17 = B.length := by omega
      simp [hne]
    · rw [if_neg hp]
      cases hok : zoneOk B (z0 :: z1 :: z2 :: z3 :: z4 :: z5 :: r) with
      | false => rfl
      | true =>
        rw [ok] at hok
        simp only [Bool.and_eq_true] at hok
        have h3 : z3 = 39 := by simpa using hok.1.1.1.2
        subst h3
        have m1 : mP B 19 [39] = 20 := by unfold mP; rw [s1]; rfl
        unfold zoneT
        rw [pk, n0, q1, m1, t1, t2, hz0]; rfl
  · have hb : zoneB (dateL y0 y1 y2 y3 a0 a1 b0 b1 c0 c1 d0 d1 e0 e1 z) 16 = false := by
      rw [Bool.eq_false_iff]; intro h; have := zoneB_len h; omega
    have ho : ∀ bs, zoneOk bs z = false := fun bs => by
      unfold zoneOk
      split
      · simp at h6
      · simp at h6
      · rfl
    unfold zoneR zoneS
    rw [if_neg h90, ho, hb]
    by_cases hp : peekS (dateL y0 y1 y2 y3 a0 a1 b0 b1 c0 c1 d0 d1 e0 e1 z) 16 = 90
    · rw [if_pos hp]
      have hz : z.length ≠ 1 := by
        intro h1
        match z, h1 with
        | [x], _ =>
          have : (x.toNat : Int) = 90 := hp
          apply h90
          have : x = 90 := UInt8.toNat_inj.1 (by show x.toNat = 90; omega)
          rw [this]
      have hn : nextP (dateL y0 y1 y2 y3 a0 a1 b0 b1 c0 c1 d0 d1 e0 e1 z) 16 ≠ (dateL y0 y1 y2 y3 a0 a1 b0 b1 c0 c1 d0 d1 e0 e1 z).length := by
        have hlt : 16 < (dateL y0 y1 y2 y3 a0 a1 b0 b1 c0 c1 d0 d1 e0 e1 z).length := by
          rcases Nat.lt_or_ge 16 (dateL y0 y1 y2 y3 a0 a1 b0 b1 c0 c1 d0 d1 e0 e1 z).length with h | h
          · exact h
          · rw [peekS_out (by omega)] at hp; omega
        unfold nextP; rw [if_pos hlt, hl]; omega
      simp [hn]
    · rw [if_neg hp]; rfl
end
end Go.Proofs.YtkpikpaepgknnaaGreatDoor

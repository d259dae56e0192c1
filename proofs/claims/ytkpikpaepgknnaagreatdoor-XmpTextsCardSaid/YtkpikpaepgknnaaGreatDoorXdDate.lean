/- A date. No condition. -/
import Derived.Test.YtkpikpaepgknnaaGreatDoorXdZone
set_option linter.unusedVariables false
namespace Go.Proofs.YtkpikpaepgknnaaGreatDoor
open Go Go.RowKit Go.Wk
set_option maxHeartbeats 1000000 in
set_option maxRecDepth 100000 in
theorem cur_new (A : Option Addr) (n c : Nat) (w : World) (hc : n ≤ c) (hn : n ≤ 100000) :
    Calls Tryz.prog 41 #[.slice A n c] w fun e w' => e = .returned (.pointer (some ⟨w.heap.size, 0, none⟩)) ∧ w' = w.alloc (.cells #[.slice A n n, .int .i64 0] 117) := by
  go_enter Tryz.func41, Tryz.ntmps41
  cases A with
  | none =>
    go_wp2
    go_ret
    exact ⟨rfl, rfl⟩
  | some a =>
    go_wp2
    go_ret
    exact ⟨rfl, rfl⟩
theorem new_cur {w : World} {A : Option Addr} {bs : List UInt8} (h : Byt w A bs) (hs : bs.length ≤ 100000) : Cur (w.alloc (.cells #[.slice A bs.length bs.length, .int .i64 0] 117)) (w.alloc (.cells #[.slice A bs.length bs.length, .int .i64 0] 117)) w.heap.size A bs.length bs 0 := by
  have hB := Blk.new w 117 #[.slice A bs.length bs.length, .int .i64 0]
  refine ⟨fun h0 x hx => ?_, Save.refl _ _, hB.cell 0, hB.cell 1, hB.frozen 1, h.below ((Below.refl _ _).alloc (Nat.le_refl _) _), Nat.zero_le _, hs⟩
  obtain ⟨b, o, e, hc⟩ := h.2 h0
  have := cell_lt (hc 0 h0)
  rw [hx] at e
  cases e
  exact Nat.ne_of_lt this
def dP (bs : List UInt8) : Nat → Nat
  | 0 => mP bs 0 [68, 58]
  | k + 1 => partP bs (dP bs k) (if k = 0 then 4 else 2)
def dO (bs : List UInt8) : Nat → List UInt8
  | 0 => []
  | k + 1 => dO bs k ++ takeS bs (dP bs k) (if k = 0 then 4 else 2)
def loD (k : Nat) : Int := if k = 1 then 1 else if k = 2 then 1 else 0
def hiD (k : Nat) : Int := if k = 0 then 9999 else if k = 1 then 12 else if k = 2 then 31 else if k = 3 then 23 else 59
def dB (bs : List UInt8) : Nat → Bool
  | 0 => stands bs 0 [68, 58]
  | k + 1 => dB bs k && partOk bs (dP bs k) (if k = 0 then 4 else 2) (loD k) (hiD k)
theorem dO_len (bs : List UInt8) : ∀ k, (dO bs k).length ≤ 4 * k
  | 0 => by simp [dO]
  | k + 1 => by
    have h := dO_len bs k
    have h2 := takeS_len bs (dP bs k) (if k = 0 then 4 else 2)
    rw [dO, List.length_append]
    by_cases hk : k = 0
    · subst hk; simp only [if_true] at h2 ⊢; omega
    · rw [if_neg hk] at h2 ⊢; omega
theorem save_blk {L g t : Nat} {a b : World} {cs : Array Value} (h : Save L a b) (hb : Blk a g t cs) (hn : g ≠ L) : Blk b g t cs := (h.block g hb.lt hn).trans hb
theorem zone_len (bs : List UInt8) (p : Nat) : (zoneS bs p).1.length ≤ 6 := by
  unfold zoneS zoneT
  have := takeS_len bs (nextP bs p) 2
  have := takeS_len bs (mP bs (partP bs (nextP bs p) 2) [39]) 2
  split
  · simp
  · split
    · simp; omega
    · simp
def fmtD (o z : List UInt8) : List UInt8 := o.take 4 ++ 45 :: ((o.drop 4).take 2 ++ 45 :: ((o.drop 6).take 2 ++ 84 :: ((o.drop 8).take 2 ++ 58 :: ((o.drop 10).take 2 ++ 58 :: (o.drop 12 ++ z)))))
def dateS (bs : List UInt8) : List UInt8 × Bool := if dB bs 6 && (zoneS bs (dP bs 6)).2 then (fmtD (dO bs 6) (zoneS bs (dP bs 6)).1, true) else ([], false)
theorem partOk_take {bs : List UInt8} {p d : Nat} {lo hi : Int} (h : partOk bs p d lo hi = true) : (takeS bs p d).length = d := by
  unfold partOk takeB at h
  simp only [Bool.and_eq_true, decide_eq_true_eq] at h
  unfold takeS
  rw [if_pos h.1.1.1]; simp; omega
theorem dB_len (bs : List UInt8) (h : dB bs 6 = true) : (dO bs 6).length = 14 := by
  simp only [dB, Bool.and_eq_true] at h
  obtain ⟨⟨⟨⟨⟨⟨_, h0⟩, h1⟩, h2⟩, h3⟩, h4⟩, h5⟩ := h
  simp only [dO, List.length_append, List.length_nil]
  have := partOk_take h0; have := partOk_take h1; have := partOk_take h2; have := partOk_take h3; have := partOk_take h4; have := partOk_take h5
  simp at *
  omega
set_option maxHeartbeats 4000000 in
set_option maxRecDepth 100000 in
theorem xmp_Date (A : Option Addr) (c : Nat) (bs : List UInt8) (w : World) (hb : Byt w A bs) (hc : bs.length ≤ c) (hs : bs.length ≤ 100000) :
    Calls Tryz.prog 19 #[.slice A bs.length c] w fun e w' => e = .returned (.tuple #[str (dateS bs).1, .bool (dateS bs).2]) ∧ Below w.heap.size w w' := by
  have cn := Lib.hid (cur_new A bs.length c w hc hs)
  have hC0 := Lib.hid (new_cur hb hs)
  have cm := Lib.hid (cur_match ⟨#[68, 58]⟩ hC0.out (Nat.le_refl _) (by decide) (by decide))
  have hD := Lib.hid (show dateS bs = if dB bs 6 && (zoneS bs (dP bs 6)).2 then (fmtD (dO bs 6) (zoneS bs (dP bs 6)).1, true) else ([], false) from rfl)
  generalize dateS bs = D at *
  clear hb
  go_enter Tryz.func19, Tryz.ntmps19
  go_wp2_with (first
    | (go_at_call 41; (with_reducible refine cn.out.mono ?_); rintro e w1 ⟨rfl, rfl⟩)
    | (go_at_call 42; (with_reducible refine cm.out.mono ?_); rintro e w2 ⟨rfl, hC2⟩; replace hC2 := Lib.hid hC2))
  have hL2 : w.heap.size < w2.heap.size := cell_lt hC2.out.cb
  have hW2 := Lib.hid (((Below.refl w.heap.size w).alloc (Nat.le_refl _) (.cells #[.slice A bs.length bs.length, .int .i64 0] 117)).trans (hC2.out.bel.below (Nat.le_refl _) (by rw [size_alloc]; omega)))
  have hBG := Lib.hid (Blk.new w2 85 #[.int .i64 4, .int .i64 0, .int .i64 9999, .int .i64 2, .int .i64 1, .int .i64 12, .int .i64 2, .int .i64 1, .int .i64 31, .int .i64 2, .int .i64 0, .int .i64 23, .int .i64 2, .int .i64 0, .int .i64 59, .int .i64 2, .int .i64 0, .int .i64 59])
  have hGL := Lib.hid (show w2.heap.size ≠ w.heap.size by omega)
  go_loopw [5, 6, 25] (fun ok out i wr => ∃ (k : Nat) (z : Int), z = k ∧ k ≤ 6 ∧ i = .int .i64 z ∧ ok = .bool (dB bs k) ∧ out = str (dO bs k) ∧ Cur wr wr w.heap.size A bs.length bs (dP bs k) ∧ Blk wr w2.heap.size 85 #[.int .i64 4, .int .i64 0, .int .i64 9999, .int .i64 2, .int .i64 1, .int .i64 12, .int .i64 2, .int .i64 1, .int .i64 31, .int .i64 2, .int .i64 0, .int .i64 23, .int .i64 2, .int .i64 0, .int .i64 59, .int .i64 2, .int .i64 0, .int .i64 59] ∧ Below w.heap.size w wr) (fun _ _ i _ => (6 - (intOf i).toNat))
  case atStart =>
    refine ⟨0, 0, rfl, by omega, rfl, rfl, rfl, (hC2.out.below ((Below.refl _ _).alloc (Nat.le_refl _) _)).here, hBG.out, hW2.out.alloc (by have := hW2.out.size; omega) _⟩
  case round =>
    obtain ⟨k, z, hz, hk, rfl, rfl, rfl, hC, hG, hW⟩ := hrel
    replace hC := Lib.hid hC
    replace hG := Lib.hid hG
    replace hW := Lib.hid hW
    by_cases hlt : k < 6
    · have h6 : k = 0 ∨ k = 1 ∨ k = 2 ∨ k = 3 ∨ k = 4 ∨ k = 5 := by omega
      rcases h6 with rfl | rfl | rfl | rfl | rfl | rfl
      · obtain rfl : z = 0 := by simpa using hz
        clear hz hk hlt
        have g0 : wr.cell? ⟨w2.heap.size, 0, none⟩ = some (.int .i64 4) := hG.out.cell 0
        have g1 : wr.cell? ⟨w2.heap.size, 1, none⟩ = some (.int .i64 0) := hG.out.cell 1
        have g2 : wr.cell? ⟨w2.heap.size, 2, none⟩ = some (.int .i64 9999) := hG.out.cell 2
        have hX := Lib.hid (hC.out.below ((Below.refl wr.heap.size wr).alloc (Nat.le_refl _) (.cells #[.int .i64 4, .int .i64 0, .int .i64 9999] 85))).here
        have cp : Hid (Calls Tryz.prog 43 #[.pointer (some ⟨w.heap.size, 0, none⟩), .int .i64 4, .int .i64 0, .int .i64 9999] (wr.alloc (.cells #[.int .i64 4, .int .i64 0, .int .i64 9999] 85)) fun e w' => e = .returned (.tuple #[str (takeS bs (dP bs 0) 4), .bool (partOk bs (dP bs 0) 4 0 9999)]) ∧ Cur (wr.alloc (.cells #[.int .i64 4, .int .i64 0, .int .i64 9999] 85)) w' w.heap.size A bs.length bs (dP bs 1)) :=
          Lib.hid (xmp_part 4 0 9999 hX.out (Nat.le_refl _) (by omega) (by omega) (by omega) (by omega) (by omega) (by omega))
        have e1 := Lib.hid (show dO bs 1 = dO bs 0 ++ takeS bs (dP bs 0) 4 from rfl)
        have e2 := Lib.hid (show dB bs 1 = (dB bs 0 && partOk bs (dP bs 0) 4 0 9999) from rfl)
        have hol := dO_len bs 0
        have htl := takeS_len bs (dP bs 0) 4
        generalize dB bs 0 = b0 at *
        generalize dO bs 0 = o0 at *
        generalize takeS bs (dP bs 0) 4 = t0 at *
        generalize partOk bs (dP bs 0) 4 0 9999 = p0 at *
        unfold str at cp ⊢
        cases b0 <;>
          go_wp2_with (go_at_call 43; (with_reducible refine cp.out.mono ?_); rintro e w3 ⟨rfl, hC3⟩; replace hC3 := Lib.hid hC3)
        all_goals
          refine ⟨⟨1, 1, by simp, by omega, rfl, by rw [e2.out]; rfl, ?_, hC3.out.here, ?_, ?_⟩, by simp [intOf]⟩
          · rw [e1.out]; exact congrArg Value.string (bytes_ext (by simp))
          · exact save_blk hC3.out.bel (hG.out.alloc _) hGL.out
          · exact (hW.out.alloc hW.out.size _).trans (hC3.out.bel.below (Nat.le_refl _) (by rw [size_alloc]; have := hW.out.size; omega))
      · obtain rfl : z = 1 := by simpa using hz
        clear hz hk hlt
        have g0 : wr.cell? ⟨w2.heap.size, 3, none⟩ = some (.int .i64 2) := hG.out.cell 3
        have g1 : wr.cell? ⟨w2.heap.size, 4, none⟩ = some (.int .i64 1) := hG.out.cell 4
        have g2 : wr.cell? ⟨w2.heap.size, 5, none⟩ = some (.int .i64 12) := hG.out.cell 5
        have hX := Lib.hid (hC.out.below ((Below.refl wr.heap.size wr).alloc (Nat.le_refl _) (.cells #[.int .i64 2, .int .i64 1, .int .i64 12] 85))).here
        have cp : Hid (Calls Tryz.prog 43 #[.pointer (some ⟨w.heap.size, 0, none⟩), .int .i64 2, .int .i64 1, .int .i64 12] (wr.alloc (.cells #[.int .i64 2, .int .i64 1, .int .i64 12] 85)) fun e w' => e = .returned (.tuple #[str (takeS bs (dP bs 1) 2), .bool (partOk bs (dP bs 1) 2 1 12)]) ∧ Cur (wr.alloc (.cells #[.int .i64 2, .int .i64 1, .int .i64 12] 85)) w' w.heap.size A bs.length bs (dP bs 2)) :=
          Lib.hid (xmp_part 2 1 12 hX.out (Nat.le_refl _) (by omega) (by omega) (by omega) (by omega) (by omega) (by omega))
        have e1 := Lib.hid (show dO bs 2 = dO bs 1 ++ takeS bs (dP bs 1) 2 from rfl)
        have e2 := Lib.hid (show dB bs 2 = (dB bs 1 && partOk bs (dP bs 1) 2 1 12) from rfl)
        have hol := dO_len bs 1
        have htl := takeS_len bs (dP bs 1) 2
        generalize dB bs 1 = b0 at *
        generalize dO bs 1 = o0 at *
        generalize takeS bs (dP bs 1) 2 = t0 at *
        generalize partOk bs (dP bs 1) 2 1 12 = p0 at *
        unfold str at cp ⊢
        cases b0 <;>
          go_wp2_with (go_at_call 43; (with_reducible refine cp.out.mono ?_); rintro e w3 ⟨rfl, hC3⟩; replace hC3 := Lib.hid hC3)
        all_goals
          refine ⟨⟨2, 2, by simp, by omega, rfl, by rw [e2.out]; rfl, ?_, hC3.out.here, ?_, ?_⟩, by simp [intOf]⟩
          · rw [e1.out]; exact congrArg Value.string (bytes_ext (by simp))
          · exact save_blk hC3.out.bel (hG.out.alloc _) hGL.out
          · exact (hW.out.alloc hW.out.size _).trans (hC3.out.bel.below (Nat.le_refl _) (by rw [size_alloc]; have := hW.out.size; omega))
      · obtain rfl : z = 2 := by simpa using hz
        clear hz hk hlt
        have g0 : wr.cell? ⟨w2.heap.size, 6, none⟩ = some (.int .i64 2) := hG.out.cell 6
        have g1 : wr.cell? ⟨w2.heap.size, 7, none⟩ = some (.int .i64 1) := hG.out.cell 7
        have g2 : wr.cell? ⟨w2.heap.size, 8, none⟩ = some (.int .i64 31) := hG.out.cell 8
        have hX := Lib.hid (hC.out.below ((Below.refl wr.heap.size wr).alloc (Nat.le_refl _) (.cells #[.int .i64 2, .int .i64 1, .int .i64 31] 85))).here
        have cp : Hid (Calls Tryz.prog 43 #[.pointer (some ⟨w.heap.size, 0, none⟩), .int .i64 2, .int .i64 1, .int .i64 31] (wr.alloc (.cells #[.int .i64 2, .int .i64 1, .int .i64 31] 85)) fun e w' => e = .returned (.tuple #[str (takeS bs (dP bs 2) 2), .bool (partOk bs (dP bs 2) 2 1 31)]) ∧ Cur (wr.alloc (.cells #[.int .i64 2, .int .i64 1, .int .i64 31] 85)) w' w.heap.size A bs.length bs (dP bs 3)) :=
          Lib.hid (xmp_part 2 1 31 hX.out (Nat.le_refl _) (by omega) (by omega) (by omega) (by omega) (by omega) (by omega))
        have e1 := Lib.hid (show dO bs 3 = dO bs 2 ++ takeS bs (dP bs 2) 2 from rfl)
        have e2 := Lib.hid (show dB bs 3 = (dB bs 2 && partOk bs (dP bs 2) 2 1 31) from rfl)
        have hol := dO_len bs 2
        have htl := takeS_len bs (dP bs 2) 2
        generalize dB bs 2 = b0 at *
        generalize dO bs 2 = o0 at *
        generalize takeS bs (dP bs 2) 2 = t0 at *
        generalize partOk bs (dP bs 2) 2 1 31 = p0 at *
        unfold str at cp ⊢
        cases b0 <;>
          go_wp2_with (go_at_call 43; (with_reducible refine cp.out.mono ?_); rintro e w3 ⟨rfl, hC3⟩; replace hC3 := Lib.hid hC3)
        all_goals
          refine ⟨⟨3, 3, by simp, by omega, rfl, by rw [e2.out]; rfl, ?_, hC3.out.here, ?_, ?_⟩, by simp [intOf]⟩
          · rw [e1.out]; exact congrArg Value.string (bytes_ext (by simp))
          · exact save_blk hC3.out.bel (hG.out.alloc _) hGL.out
          · exact (hW.out.alloc hW.out.size _).trans (hC3.out.bel.below (Nat.le_refl _) (by rw [size_alloc]; have := hW.out.size; omega))
      · obtain rfl : z = 3 := by simpa using hz
        clear hz hk hlt
        have g0 : wr.cell? ⟨w2.heap.size, 9, none⟩ = some (.int .i64 2) := hG.out.cell 9
        have g1 : wr.cell? ⟨w2.heap.size, 10, none⟩ = some (.int .i64 0) := hG.out.cell 10
        have g2 : wr.cell? ⟨w2.heap.size, 11, none⟩ = some (.int .i64 23) := hG.out.cell 11
        have hX := Lib.hid (hC.out.below ((Below.refl wr.heap.size wr).alloc (Nat.le_refl _) (.cells #[.int .i64 2, .int .i64 0, .int .i64 23] 85))).here
        have cp : Hid (Calls Tryz.prog 43 #[.pointer (some ⟨w.heap.size, 0, none⟩), .int .i64 2, .int .i64 0, .int .i64 23] (wr.alloc (.cells #[.int .i64 2, .int .i64 0, .int .i64 23] 85)) fun e w' => e = .returned (.tuple #[str (takeS bs (dP bs 3) 2), .bool (partOk bs (dP bs 3) 2 0 23)]) ∧ Cur (wr.alloc (.cells #[.int .i64 2, .int .i64 0, .int .i64 23] 85)) w' w.heap.size A bs.length bs (dP bs 4)) :=
          Lib.hid (xmp_part 2 0 23 hX.out (Nat.le_refl _) (by omega) (by omega) (by omega) (by omega) (by omega) (by omega))
        have e1 := Lib.hid (show dO bs 4 = dO bs 3 ++ takeS bs (dP bs 3) 2 from rfl)
        have e2 := Lib.hid (show dB bs 4 = (dB bs 3 && partOk bs (dP bs 3) 2 0 23) from rfl)
        have hol := dO_len bs 3
        have htl := takeS_len bs (dP bs 3) 2
        generalize dB bs 3 = b0 at *
        generalize dO bs 3 = o0 at *
        generalize takeS bs (dP bs 3) 2 = t0 at *
        generalize partOk bs (dP bs 3) 2 0 23 = p0 at *
        unfold str at cp ⊢
        cases b0 <;>
          go_wp2_with (go_at_call 43; (with_reducible refine cp.out.mono ?_); rintro e w3 ⟨rfl, hC3⟩; replace hC3 := Lib.hid hC3)
        all_goals
          refine ⟨⟨4, 4, by simp, by omega, rfl, by rw [e2.out]; rfl, ?_, hC3.out.here, ?_, ?_⟩, by simp [intOf]⟩
          · rw [e1.out]; exact congrArg Value.string (bytes_ext (by simp))
          · exact save_blk hC3.out.bel (hG.out.alloc _) hGL.out
          · exact (hW.out.alloc hW.out.size _).trans (hC3.out.bel.below (Nat.le_refl _) (by rw [size_alloc]; have := hW.out.size; omega))
      · obtain rfl : z = 4 := by simpa using hz
        clear hz hk hlt
        have g0 : wr.cell? ⟨w2.heap.size, 12, none⟩ = some (.int .i64 2) := hG.out.cell 12
        have g1 : wr.cell? ⟨w2.heap.size, 13, none⟩ = some (.int .i64 0) := hG.out.cell 13
        have g2 : wr.cell? ⟨w2.heap.size, 14, none⟩ = some (.int .i64 59) := hG.out.cell 14
        have hX := Lib.hid (hC.out.below ((Below.refl wr.heap.size wr).alloc (Nat.le_refl _) (.cells #[.int .i64 2, .int .i64 0, .int .i64 59] 85))).here
        have cp : Hid (Calls Tryz.prog 43 #[.pointer (some ⟨w.heap.size, 0, none⟩), .int .i64 2, .int .i64 0, .int .i64 59] (wr.alloc (.cells #[.int .i64 2, .int .i64 0, .int .i64 59] 85)) fun e w' => e = .returned (.tuple #[str (takeS bs (dP bs 4) 2), .bool (partOk bs (dP bs 4) 2 0 59)]) ∧ Cur (wr.alloc (.cells #[.int .i64 2, .int .i64 0, .int .i64 59] 85)) w' w.heap.size A bs.length bs (dP bs 5)) :=
          Lib.hid (xmp_part 2 0 59 hX.out (Nat.le_refl _) (by omega) (by omega) (by omega) (by omega) (by omega) (by omega))
        have e1 := Lib.hid (show dO bs 5 = dO bs 4 ++ takeS bs (dP bs 4) 2 from rfl)
        have e2 := Lib.hid (show dB bs 5 = (dB bs 4 && partOk bs (dP bs 4) 2 0 59) from rfl)
        have hol := dO_len bs 4
        have htl := takeS_len bs (dP bs 4) 2
        generalize dB bs 4 = b0 at *
        generalize dO bs 4 = o0 at *
        generalize takeS bs (dP bs 4) 2 = t0 at *
        generalize partOk bs (dP bs 4) 2 0 59 = p0 at *
        unfold str at cp ⊢
        cases b0 <;>
          go_wp2_with (go_at_call 43; (with_reducible refine cp.out.mono ?_); rintro e w3 ⟨rfl, hC3⟩; replace hC3 := Lib.hid hC3)
        all_goals
          refine ⟨⟨5, 5, by simp, by omega, rfl, by rw [e2.out]; rfl, ?_, hC3.out.here, ?_, ?_⟩, by simp [intOf]⟩
          · rw [e1.out]; exact congrArg Value.string (bytes_ext (by simp))
          · exact save_blk hC3.out.bel (hG.out.alloc _) hGL.out
          · exact (hW.out.alloc hW.out.size _).trans (hC3.out.bel.below (Nat.le_refl _) (by rw [size_alloc]; have := hW.out.size; omega))
      · obtain rfl : z = 5 := by simpa using hz
        clear hz hk hlt
        have g0 : wr.cell? ⟨w2.heap.size, 15, none⟩ = some (.int .i64 2) := hG.out.cell 15
        have g1 : wr.cell? ⟨w2.heap.size, 16, none⟩ = some (.int .i64 0) := hG.out.cell 16
        have g2 : wr.cell? ⟨w2.heap.size, 17, none⟩ = some (.int .i64 59) := hG.out.cell 17
        have hX := Lib.hid (hC.out.below ((Below.refl wr.heap.size wr).alloc (Nat.le_refl _) (.cells #[.int .i64 2, .int .i64 0, .int .i64 59] 85))).here
        have cp : Hid (Calls Tryz.prog 43 #[.pointer (some ⟨w.heap.size, 0, none⟩), .int .i64 2, .int .i64 0, .int .i64 59] (wr.alloc (.cells #[.int .i64 2, .int .i64 0, .int .i64 59] 85)) fun e w' => e = .returned (.tuple #[str (takeS bs (dP bs 5) 2), .bool (partOk bs (dP bs 5) 2 0 59)]) ∧ Cur (wr.alloc (.cells #[.int .i64 2, .int .i64 0, .int .i64 59] 85)) w' w.heap.size A bs.length bs (dP bs 6)) :=
          Lib.hid (xmp_part 2 0 59 hX.out (Nat.le_refl _) (by omega) (by omega) (by omega) (by omega) (by omega) (by omega))
        have e1 := Lib.hid (show dO bs 6 = dO bs 5 ++ takeS bs (dP bs 5) 2 from rfl)
        have e2 := Lib.hid (show dB bs 6 = (dB bs 5 && partOk bs (dP bs 5) 2 0 59) from rfl)
        have hol := dO_len bs 5
        have htl := takeS_len bs (dP bs 5) 2
        generalize dB bs 5 = b0 at *
        generalize dO bs 5 = o0 at *
        generalize takeS bs (dP bs 5) 2 = t0 at *
        generalize partOk bs (dP bs 5) 2 0 59 = p0 at *
        unfold str at cp ⊢
        cases b0 <;>
          go_wp2_with (go_at_call 43; (with_reducible refine cp.out.mono ?_); rintro e w3 ⟨rfl, hC3⟩; replace hC3 := Lib.hid hC3)
        all_goals
          refine ⟨⟨6, 6, by simp, by omega, rfl, by rw [e2.out]; rfl, ?_, hC3.out.here, ?_, ?_⟩, by simp [intOf]⟩
          · rw [e1.out]; exact congrArg Value.string (bytes_ext (by simp))
          · exact save_blk hC3.out.bel (hG.out.alloc _) hGL.out
          · exact (hW.out.alloc hW.out.size _).trans (hC3.out.bel.below (Nat.le_refl _) (by rw [size_alloc]; have := hW.out.size; omega))
    · obtain rfl : k = 6 := by omega
      obtain rfl : z = 6 := by simpa using hz
      clear hz hk hlt hG hBG hGL
      have cz := Lib.hid (xmp_zone hC.out (Nat.le_refl _))
      have hol := dB_len bs
      have hzl := zone_len bs (dP bs 6)
      generalize zoneS bs (dP bs 6) = Z at *
      obtain ⟨zt, zb⟩ := Z
      generalize dB bs 6 = b6 at *
      generalize dO bs 6 = o6 at *
      simp only at cz hD hzl
      have fin : Hid (∀ w4, Save w.heap.size wr w4 → Below w.heap.size w w4) := Lib.hid fun w4 h4 => hW.out.trans (h4.below (Nat.le_refl _) hW.out.size)
      unfold str at cz ⊢
      cases b6 with
      | false =>
        clear hol
        go_wp2_with (go_at_call 44; (with_reducible refine cz.out.mono ?_); rintro e w4 ⟨rfl, h4⟩; replace h4 := Lib.hid h4)
        go_ret2
        exact ⟨by rw [hD.out]; rfl, fin.out _ h4.out⟩
      | true =>
        cases zb with
        | false =>
          clear hol
          go_wp2_with (go_at_call 44; (with_reducible refine cz.out.mono ?_); rintro e w4 ⟨rfl, h4⟩; replace h4 := Lib.hid h4)
          go_ret2
          exact ⟨by rw [hD.out]; rfl, fin.out _ h4.out⟩
        | true =>
          have hol := hol rfl
          match o6, hol with
          | [o0, o1, o2, o3, o4, o5, o6, o7, o8, o9, o10, o11, o12, o13], _ =>
          go_wp2_with (go_at_call 44; (with_reducible refine cz.out.mono ?_); rintro e w4 ⟨rfl, h4⟩; replace h4 := Lib.hid h4)
          go_quiet (fail)
          go_wp2
          go_ret2
          refine ⟨?_, fin.out _ (h4.out.drawn nq)⟩
          rw [hD.out]
          refine congrArg (fun b => Ending.returned (.tuple #[.string b, .bool true])) (bytes_ext ?_)
          simp [fmtD]
end Go.Proofs.YtkpikpaepgknnaaGreatDoor

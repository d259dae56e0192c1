/- Zone of a date. No condition. -/
import Derived.Test.YtkpikpaepgknnaaGreatDoorXdPart
set_option linter.unusedVariables false
namespace Go.Proofs.YtkpikpaepgknnaaGreatDoor
open Go Go.RowKit Go.Wk
def nextP (bs : List UInt8) (p : Nat) : Nat := if p < bs.length then p + 1 else p
def partP (bs : List UInt8) (p d : Nat) : Nat := if takeB bs p d then p + d else p
def mP (bs : List UInt8) (p : Nat) (s : List UInt8) : Nat := if stands bs p s then p + s.length else p
def zoneB (bs : List UInt8) (p : Nat) : Bool :=
  (peekS bs p == 43 || peekS bs p == 45) && partOk bs (nextP bs p) 2 0 23 && stands bs (partP bs (nextP bs p) 2) [39] && partOk bs (mP bs (partP bs (nextP bs p) 2) [39]) 2 0 59 && decide (mP bs (partP bs (mP bs (partP bs (nextP bs p) 2) [39]) 2) [39] = bs.length)
def zoneT (bs : List UInt8) (p : Nat) : List UInt8 :=
  UInt8.ofNat (peekS bs p).toNat :: (takeS bs (nextP bs p) 2 ++ 58 :: takeS bs (mP bs (partP bs (nextP bs p) 2) [39]) 2)
def zoneS (bs : List UInt8) (p : Nat) : List UInt8 × Bool :=
  if peekS bs p = 90 then ([90], decide (nextP bs p = bs.length)) else if zoneB bs p then (zoneT bs p, true) else ([], false)
theorem cur_match1 {w0 w : World} {L : Nat} {A : Option Addr} {c : Nat} {bs : List UInt8} {p : Nat} (ch : UInt8) (h : Cur w0 w L A c bs p) (hcap : bs.length ≤ c) :
    Calls Tryz.prog 42 #[.pointer (some ⟨L, 0, none⟩), .string ⟨#[ch]⟩] w fun e w' => e = .returned (.bool (stands bs p [ch])) ∧ Cur w0 w' L A c bs (mP bs p [ch]) :=
  cur_match ⟨#[ch]⟩ h hcap (Nat.le_refl 1) (by show 1 ≤ 100000; omega)
theorem sign_text (w : World) (q : Int) (h : q = 43 ∨ q = 45) : (convert 21 9 (.int .i32 q)).run Tryz.prog w = .ok (str [UInt8.ofNat q.toNat]) w := by
  rcases h with rfl | rfl
  · rw [run_convert_int_string w 21 9 .i32 43 (by kernel_rfl) Tryz.underlying9]; kernel_rfl
  · rw [run_convert_int_string w 21 9 .i32 45 (by kernel_rfl) Tryz.underlying9]; kernel_rfl
set_option maxHeartbeats 2000000 in
set_option maxRecDepth 100000 in
theorem xmp_zone {w0 w : World} {L : Nat} {A : Option Addr} {c : Nat} {bs : List UInt8} {p : Nat} (h : Cur w0 w L A c bs p) (hcap : bs.length ≤ c) :
    Calls Tryz.prog 44 #[.pointer (some ⟨L, 0, none⟩)] w fun e w' => e = .returned (.tuple #[str (zoneS bs p).1, .bool (zoneS bs p).2]) ∧ Save L w0 w' := by
  have H := Lib.hid h
  have cn := Lib.hid (cur_next h)
  have hZ := Lib.hid (show zoneS bs p = if peekS bs p = 90 then ([90], decide (nextP bs p = bs.length)) else if zoneB bs p then (zoneT bs p, true) else ([], false) from rfl)
  have hB := Lib.hid (show zoneB bs p = ((peekS bs p == 43 || peekS bs p == 45) && partOk bs (nextP bs p) 2 0 23 && stands bs (partP bs (nextP bs p) 2) [39] && partOk bs (mP bs (partP bs (nextP bs p) 2) [39]) 2 0 59 && decide (mP bs (partP bs (mP bs (partP bs (nextP bs p) 2) [39]) 2) [39] = bs.length)) from rfl)
  have hT := Lib.hid (show zoneT bs p = UInt8.ofNat (peekS bs p).toNat :: (takeS bs (nextP bs p) 2 ++ 58 :: takeS bs (mP bs (partP bs (nextP bs p) 2) [39]) 2) from rfl)
  have hq0 : (if p < bs.length then p + 1 else p) = nextP bs p := rfl
  have hpk : -1 ≤ peekS bs p ∧ peekS bs p ≤ 255 := by
    by_cases hlt : p < bs.length
    · have := peekS_in hlt; omega
    · have := peekS_out hlt; omega
  rw [hq0] at cn
  generalize zoneS bs p = Z at *
  generalize zoneB bs p = ZB at *
  generalize zoneT bs p = ZT at *
  generalize hq0 : nextP bs p = q0 at *
  generalize peekS bs p = S at *
  generalize hq1 : partP bs q0 2 = q1 at *
  generalize hq2 : mP bs q1 [39] = q2 at *
  generalize hq3 : partP bs q2 2 = q3 at *
  generalize hq4 : mP bs q3 [39] = q4 at *
  replace hq0 := Lib.hid hq0
  replace hq1 := Lib.hid hq1
  replace hq2 := Lib.hid hq2
  replace hq3 := Lib.hid hq3
  replace hq4 := Lib.hid hq4
  have C1 : Hid (∀ w1, Cur w0 w1 L A c bs q0 → Calls Tryz.prog 43 #[.pointer (some ⟨L, 0, none⟩), .int .i64 2, .int .i64 0, .int .i64 23] w1 fun e w' => e = .returned (.tuple #[str (takeS bs q0 2), .bool (partOk bs q0 2 0 23)]) ∧ Cur w0 w' L A c bs q1) :=
    Lib.hid fun w1 h1 => by rw [← hq1.out]; exact xmp_part 2 0 23 h1 hcap (by omega) (by omega) (by omega) (by omega) (by omega) (by omega)
  have C2 : Hid (∀ w1, Cur w0 w1 L A c bs q1 → Calls Tryz.prog 42 #[.pointer (some ⟨L, 0, none⟩), .string ⟨#[39]⟩] w1 fun e w' => e = .returned (.bool (stands bs q1 [39])) ∧ Cur w0 w' L A c bs q2) :=
    Lib.hid fun w1 h1 => by rw [← hq2.out]; exact cur_match1 39 h1 hcap
  have C3 : Hid (∀ w1, Cur w0 w1 L A c bs q2 → Calls Tryz.prog 43 #[.pointer (some ⟨L, 0, none⟩), .int .i64 2, .int .i64 0, .int .i64 59] w1 fun e w' => e = .returned (.tuple #[str (takeS bs q2 2), .bool (partOk bs q2 2 0 59)]) ∧ Cur w0 w' L A c bs q3) :=
    Lib.hid fun w1 h1 => by rw [← hq3.out]; exact xmp_part 2 0 59 h1 hcap (by omega) (by omega) (by omega) (by omega) (by omega) (by omega)
  have C4 : Hid (∀ w1, Cur w0 w1 L A c bs q3 → Calls Tryz.prog 42 #[.pointer (some ⟨L, 0, none⟩), .string ⟨#[39]⟩] w1 fun e w' => e = .returned (.bool (stands bs q3 [39])) ∧ Cur w0 w' L A c bs q4) :=
    Lib.hid fun w1 h1 => by rw [← hq4.out]; exact cur_match1 39 h1 hcap
  have hst := fun (w : World) => sign_text w S
  have l1 := takeS_len bs q0 2
  have l2 := takeS_len bs q2 2
  generalize takeS bs q0 2 = T1 at *
  generalize takeS bs q2 2 = T2 at *
  generalize partOk bs q0 2 0 23 = B1 at *
  generalize stands bs q1 [39] = B2 at *
  generalize partOk bs q2 2 0 59 = B3 at *
  generalize stands bs q3 [39] = B4 at *
  clear h hq0 hq1 hq2 hq3 hq4
  unfold str at C1 C3 hst
  by_cases h90 : S = 90
  · subst h90
    go_enter Tryz.func44, Tryz.ntmps44
    go_wp2_with (first
      | (go_at_call 77; (with_reducible refine cn.out.mono ?_); rintro e w1 ⟨rfl, H1⟩; replace H1 := Lib.hid H1)
      | (go_at_call 75; (with_reducible refine (cur_left H1.out).mono ?_); rintro e w2 ⟨rfl, rfl⟩))
    go_ret2
    refine ⟨?_, H1.out.bel⟩
    rw [hZ.out]
    have hle := H1.out.le
    have : ((bs.length : Int) - (q0 : Int) == 0) = decide (q0 = bs.length) := by rw [Bool.eq_iff_iff]; simp; omega
    simp [str, this]
  · have hZ2 := Lib.hid (show Z = if ZB then (ZT, true) else ([], false) by rw [hZ.out, if_neg h90])
    clear hZ
    by_cases h45 : S = 43 ∨ S = 45
    · have hBB : Hid (ZB = (B1 && B2 && B3 && decide (q4 = bs.length))) := Lib.hid (by rw [hB.out]; rcases h45 with rfl | rfl <;> simp)
      replace hst := fun w => hst w h45
      clear hB
      rcases h45 with rfl | rfl
      all_goals
        cases B1 <;> cases B2 <;> cases B3
        all_goals
          go_enter Tryz.func44, Tryz.ntmps44
          go_wp2_with (first
            | (go_at_call 77; (with_reducible refine cn.out.mono ?_); rintro e w1 ⟨rfl, H1⟩; replace H1 := Lib.hid H1)
            | (go_at_call 43; (with_reducible refine (C1.out _ H1.out).mono ?_); rintro e w2 ⟨rfl, H2⟩; replace H2 := Lib.hid H2)
            | (go_at_call 42; (with_reducible refine (C2.out _ H2.out).mono ?_); rintro e w3 ⟨rfl, H3⟩; replace H3 := Lib.hid H3)
            | (go_at_call 43; (with_reducible refine (C3.out _ H3.out).mono ?_); rintro e w4 ⟨rfl, H4⟩; replace H4 := Lib.hid H4)
            | (go_at_call 42; (with_reducible refine (C4.out _ H4.out).mono ?_); rintro e w5 ⟨rfl, H5⟩; replace H5 := Lib.hid H5)
            | (go_at_call 75; (with_reducible refine (cur_left H5.out).mono ?_); rintro e w6 ⟨rfl, rfl⟩))
        all_goals
          go_ret2
          refine ⟨?_, H5.out.bel⟩
          have hle := H5.out.le
          rw [hZ2.out, hBB.out]
        all_goals first
          | (simp [str]; done)
          | (have hq : q4 = bs.length := by omega
             rw [hT.out, if_pos (by simp [hq])]
             exact congrArg (fun b => Ending.returned (.tuple #[.string b, .bool true])) (bytes_ext (by simp)))
          | (have hq : ¬ q4 = bs.length := by omega
             simp [hq, str]; done)
    · have h1 : ¬ S = 43 := fun e => h45 (.inl e)
      have h2 : ¬ S = 45 := fun e => h45 (.inr e)
      have hBB : Hid (ZB = false) := Lib.hid (by rw [hB.out]; simp [h1, h2])
      clear hB hst h45
      go_enter Tryz.func44, Tryz.ntmps44
      go_wp2_with (first
        | (go_at_call 77; (with_reducible refine cn.out.mono ?_); rintro e w1 ⟨rfl, H1⟩; replace H1 := Lib.hid H1)
        | (go_at_call 43; (with_reducible refine (C1.out _ H1.out).mono ?_); rintro e w2 ⟨rfl, H2⟩; replace H2 := Lib.hid H2)
        | (go_at_call 42; (with_reducible refine (C2.out _ H2.out).mono ?_); rintro e w3 ⟨rfl, H3⟩; replace H3 := Lib.hid H3)
        | (go_at_call 43; (with_reducible refine (C3.out _ H3.out).mono ?_); rintro e w4 ⟨rfl, H4⟩; replace H4 := Lib.hid H4)
        | (go_at_call 42; (with_reducible refine (C4.out _ H4.out).mono ?_); rintro e w5 ⟨rfl, H5⟩; replace H5 := Lib.hid H5)
        | (go_at_call 75; (with_reducible refine (cur_left H5.out).mono ?_); rintro e w6 ⟨rfl, rfl⟩))
      go_ret2
      refine ⟨?_, H5.out.bel⟩
      rw [hZ2.out, hBB.out]; rfl
end Go.Proofs.YtkpikpaepgknnaaGreatDoor

/- Part of a date. No condition. -/
import Derived.Test.YtkpikpaepgknnaaGreatDoorXdTake
set_option linter.unusedVariables false
namespace Go.Proofs.YtkpikpaepgknnaaGreatDoor
open Go Go.RowKit Go.Wk
def isD (b : UInt8) : Bool := decide (48 ≤ b.toNat) && decide (b.toNat ≤ 57)
def numI (l : List UInt8) : Int := l.foldl (fun n x => 10 * n + (x.toNat : Int) - 48) 0
theorem numI_snoc (l : List UInt8) (b : UInt8) : numI (l ++ [b]) = 10 * numI l + (b.toNat : Int) - 48 := by unfold numI; rw [List.foldl_append]; rfl
theorem numI_bd (l : List UInt8) (h : l.length ≤ 4) : -100000 ≤ numI l ∧ numI l ≤ 1000000 := by
  match l, h with
  | [], _ => simp only [numI, List.foldl]; omega
  | [a], _ => have := u8_lt a; simp only [numI, List.foldl]; omega
  | [a, b], _ => have := u8_lt a; have := u8_lt b; simp [numI]; omega
  | [a, b, c], _ => have := u8_lt a; have := u8_lt b; have := u8_lt c; simp [numI]; omega
  | [a, b, c, d], _ => have := u8_lt a; have := u8_lt b; have := u8_lt c; have := u8_lt d; simp [numI]; omega
  | _ :: _ :: _ :: _ :: _ :: _, h => simp at h
def partOk (bs : List UInt8) (p d : Nat) (lo hi : Int) : Bool := takeB bs p d && (takeS bs p d).all isD && decide (lo ≤ numI (takeS bs p d)) && decide (numI (takeS bs p d) ≤ hi)
theorem takeS_len (bs : List UInt8) (p d : Nat) : (takeS bs p d).length ≤ d := by unfold takeS; split <;> simp; omega
theorem take_all (l : List UInt8) (k : Nat) (h : k < l.length) : (l.take (k + 1)).all isD = ((l.take k).all isD && isD l[k]) := by
  rw [List.take_succ_eq_append_getElem h, List.all_append]; simp
theorem take_num (l : List UInt8) (k : Nat) (h : k < l.length) : numI (l.take (k + 1)) = 10 * numI (l.take k) + (l[k].toNat : Int) - 48 := by
  rw [List.take_succ_eq_append_getElem h, numI_snoc]
set_option maxRecDepth 100000 in
theorem conv_byt {w : World} {A : Option Addr} {c : Nat} {l : List UInt8} (h : Byt w A l) : (convert 25 9 (.slice A l.length c)).run Tryz.prog w = .ok (str l) w := by
  by_cases h0 : 0 < l.length
  · obtain ⟨b, o, rfl, hc⟩ := h.2 h0
    exact conv_many w b o l.length c l rfl hc
  · obtain rfl : l = [] := List.eq_nil_of_length_eq_zero (by omega)
    cases A with
    | none => simp [convert, run_underlying Tryz.underlying25, run_underlying Tryz.underlying5, run_underlying Tryz.underlying9, str, Conv.bytesToString]; rfl
    | some a => exact run_convert_bytes_back w 25 9 5 a c [] Tryz.underlying25 Tryz.underlying5 Tryz.underlying9 (fun j hj => by simp at hj)
set_option maxHeartbeats 1000000 in
set_option maxRecDepth 100000 in
theorem xmp_part {w0 w : World} {L : Nat} {A : Option Addr} {c : Nat} {bs : List UInt8} {p : Nat} (d : Nat) (lo hi : Int) (h : Cur w0 w L A c bs p) (hcap : bs.length ≤ c) (hd : 1 ≤ d) (hd4 : d ≤ 4) (hlo : 0 ≤ lo) (hhi : hi ≤ 10000) (hlo2 : lo ≤ 10000) (hhi2 : 0 ≤ hi) :
    Calls Tryz.prog 43 #[.pointer (some ⟨L, 0, none⟩), .int .i64 d, .int .i64 lo, .int .i64 hi] w fun e w' => e = .returned (.tuple #[str (takeS bs p d), .bool (partOk bs p d lo hi)]) ∧ Cur w0 w' L A c bs (if takeB bs p d then p + d else p) := by
  have H := Lib.hid h
  have ct := cur_take d h hcap hd (by omega)
  have hP := Lib.hid (show partOk bs p d lo hi = (takeB bs p d && (takeS bs p d).all isD && decide (lo ≤ numI (takeS bs p d)) && decide (numI (takeS bs p d) ≤ hi)) from rfl)
  have hl4 := takeS_len bs p d
  unfold TakeR at ct
  generalize partOk bs p d lo hi = P at *
  generalize takeS bs p d = T at *
  generalize (if takeB bs p d then p + d else p) = q at *
  generalize takeB bs p d = B at *
  replace ct := Lib.hid ct
  clear h
  go_enter Tryz.func43, Tryz.ntmps43
  go_wp2_with (go_at_call 76; (with_reducible refine ct.out.mono ?_); rintro e w1 ⟨A1, c1, rfl, hby, hC⟩; replace hby := Lib.hid hby; replace hC := Lib.hid hC)
  go_loop [11, 12, 23] (fun ok n i => ∃ k : Nat, k ≤ T.length ∧ i = .int .i64 k ∧ ok = .bool (B && (T.take k).all isD) ∧ n = .int .i64 (numI (T.take k))) (fun _ _ i => T.length - (intOf i).toNat)
  case atStart => exact ⟨0, Nat.zero_le _, rfl, by simp, rfl⟩
  case round =>
    obtain ⟨k, hk, rfl, rfl, rfl⟩ := hrel
    have hbd := numI_bd (T.take k) (by simp; omega)
    by_cases hlt : k < T.length
    · obtain ⟨b, o, rfl, hc⟩ := hby.out.2 (by omega)
      have hck := hc k hlt
      have ha := Lib.hid (take_all T k hlt)
      have hn := Lib.hid (take_num T k hlt)
      have hx := u8_lt T[k]
      have hx0 : (0 : Int) ≤ (T[k].toNat : Int) := Int.natCast_nonneg _
      have hisD := Lib.hid (show isD T[k] = (decide (48 ≤ T[k].toNat) && decide (T[k].toNat ≤ 57)) from rfl)
      generalize isD T[k] = D at *
      generalize T[k] = x at *
      generalize (T.take k).all isD = al at *
      generalize numI (T.take k) = N at *
      generalize hal : (T.take (k + 1)).all isD = al1 at *
      generalize hN1 : numI (T.take (k + 1)) = N1 at *
      replace hal := Lib.hid hal
      replace hN1 := Lib.hid hN1
      clear hc
      cases hBa : (B && al) with
      | true =>
        have hBD : Hid ((B && (al && D)) = (decide (48 ≤ x.toNat) && decide (x.toNat ≤ 57))) := Lib.hid (by
          rw [← Bool.and_assoc, hBa, hisD.out]; rfl)
        go_wp2
        · rename_i h48
          refine ⟨⟨k + 1, by omega, by go_num, ?_, by rw [hN1.out, hn.out]⟩, by simp [intOf]; omega⟩
          rw [hal.out, ha.out, hBD.out]
          have h48 : 48 ≤ x.toNat := by omega
          congr 1
          rw [Bool.eq_iff_iff]; simp [h48]; omega
        · rename_i h48
          refine ⟨⟨k + 1, by omega, by go_num, ?_, by rw [hN1.out, hn.out]⟩, by simp [intOf]; omega⟩
          rw [hal.out, ha.out, hBD.out]
          have : ¬ 48 ≤ x.toNat := by omega
          simp [this]
      | false =>
        have hBD : Hid ((B && (al && D)) = false) := Lib.hid (by rw [← Bool.and_assoc, hBa]; rfl)
        go_wp2
        refine ⟨⟨k + 1, by omega, by go_num, ?_, by rw [hN1.out, hn.out]⟩, by simp [intOf]; omega⟩
        rw [hal.out, ha.out, hBD.out]
    · obtain rfl : k = T.length := by omega
      have hcv : (convert 25 9 (.slice A1 T.length c1)).run Tryz.prog w1 = .ok (str T) w1 := conv_byt hby.out
      rw [List.take_length] at hbd ⊢
      unfold str at hcv
      clear hlt hk
      have hP2 := Lib.hid (show P = ((B && T.all isD) && decide (lo ≤ numI T) && decide (numI T ≤ hi)) from hP.out)
      generalize T.all isD = al at *
      generalize numI T = N at *
      cases hBa : (B && al) with
      | true =>
        rw [hBa] at hP2
        go_wp2
        all_goals
          go_ret2
          refine ⟨?_, hC.out⟩
          have h9 := hP2.out
          simp at h9
          first | (simp [h9, str, *]; done) | (simp [h9, str, *]; omega) | (simp [h9, str]; omega)
      | false =>
        rw [hBa] at hP2
        go_wp2
        all_goals
          go_ret2
          refine ⟨?_, hC.out⟩
          have h9 := hP2.out
          simp at h9
          simp [h9, str]
end Go.Proofs.YtkpikpaepgknnaaGreatDoor

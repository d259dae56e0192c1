/- The document's small functions on bytes. No condition. -/
import Derived.Test.YtkpikpaepgknnaaGreatDoorXdLawp
set_option linter.unusedVariables false
namespace Go.Proofs.YtkpikpaepgknnaaGreatDoor
open Go Go.RowKit Go.Wk
set_option maxHeartbeats 1000000 in
set_option maxRecDepth 100000 in
theorem ref_Peek {w : World} {A : Option Addr} {bs : List UInt8} (c i : Nat) (hb : Byt w A bs) (hi : i ≤ 100000) : Calls Tryz.prog 79 #[.slice A bs.length c, .int .i64 i] w fun e w' => e = .returned (.int .i64 (peekS bs i)) ∧ w = w' := by
  have hm := hb.1
  unfold maxLen at hm
  by_cases hlt : i < bs.length
  · obtain ⟨hs0, hs1, hs2⟩ := peekS_in hlt
    obtain ⟨b, o, rfl, hc⟩ := hb.2 (by omega)
    have hck := hc i hlt
    have hx := u8_lt bs[i]
    replace hs2 := Lib.hid hs2
    generalize peekS bs i = S at *
    generalize bs[i] = x at *
    clear hc hb
    have hxw : wrap64 (x.toNat : Int) = (x.toNat : Int) := by unfold wrap64; omega
    go_enter Tryz.func79, Tryz.ntmps79
    go_wp2
    go_ret
    exact ⟨by rw [hs2.out]; rfl, rfl⟩
  · have hs := Lib.hid (peekS_out hlt)
    generalize peekS bs i = S at *
    clear hb
    go_enter Tryz.func79, Tryz.ntmps79
    go_wp2
    go_ret
    exact ⟨by rw [hs.out]; rfl, rfl⟩
set_option maxHeartbeats 1000000 in
set_option maxRecDepth 100000 in
theorem ref_Stands {w : World} {A : Option Addr} {bs : List UInt8} (c p : Nat) (s : ByteArray) (hb : Byt w A bs) (hcap : bs.length ≤ c) (hp : p ≤ 100000) (hs : 1 ≤ s.size) (hs2 : s.size ≤ 100000) (hsm : bs.length ≤ 100000) :
    Calls Tryz.prog 48 #[.slice A bs.length c, .int .i64 p, .string s] w fun e w' => e = .returned (.bool (stands bs p s.data.toList)) ∧ w = w' := by
  have hsl : s.data.toList.length = s.size := Array.length_toList
  by_cases hle : p + s.size ≤ bs.length
  · obtain ⟨b, o, rfl, hc⟩ := hb.2 (by omega)
    have hcv := conv_many w b (o + p) s.size (c - p) ((bs.drop p).take s.size) (by simp; omega) (fun i hi => by
      have hi2 : i < s.size := by simp at hi; omega
      rw [Nat.add_assoc, List.getElem_take, List.getElem_drop]
      exact hc (p + i) (by omega))
    have hpc : ¬ c = p := by omega
    clear hc hb
    by_cases heq : (bs.drop p).take s.size = s.data.toList
    · have hst : stands bs p s.data.toList = true := by simp [stands, hsl, hle, heq]
      rw [hst]
      have hX : ({ data := (List.take s.size (List.drop p bs)).toArray } : ByteArray) = s := by apply bytes_ext; simpa using heq
      rw [hX] at hcv
      clear heq hX hst hsl
      go_enter Tryz.func48, Tryz.ntmps48
      go_wp2
      all_goals (go_ret; exact ⟨by first | rfl | simp, rfl⟩)
    · have hst : stands bs p s.data.toList = false := by
        unfold stands
        rw [hsl]
        simp [heq]
      rw [hst]
      generalize hX : ({ data := (List.take s.size (List.drop p bs)).toArray } : ByteArray) = X at hcv
      have hXl : X.data.toList = (bs.drop p).take s.size := by rw [← hX]
      have hne := str_ne (a := X) (b := s) (by rw [hXl]; exact heq)
      clear hXl heq hX hst hsl
      go_enter Tryz.func48, Tryz.ntmps48
      go_wp2
      all_goals (go_ret; exact ⟨by first | rfl | simp [hne], rfl⟩)
  · have hst : stands bs p s.data.toList = false := by
      unfold stands
      rw [hsl]
      simp [hle]
    rw [hst]
    clear hst hsl hb
    go_enter Tryz.func48, Tryz.ntmps48
    go_wp2
    all_goals first
      | (go_ret; exact ⟨rfl, rfl⟩)
      | (exfalso; omega)
/-- what the document's part answers -/
def prS (bs : List UInt8) (p n : Nat) (lo hi : Int) : Int := if partOk bs p n lo hi then numI (takeS bs p n) else -1
set_option maxHeartbeats 1000000 in
set_option maxRecDepth 100000 in
theorem ref_part {w : World} {A : Option Addr} {bs : List UInt8} (c p n : Nat) (lo hi : Int) (hb : Byt w A bs) (hsm : bs.length ≤ 10000) (hp : p ≤ 1000) (hn : 1 ≤ n) (hn4 : n ≤ 4) (hlo : 0 ≤ lo) (hlo2 : lo ≤ 10000) (hhi : hi ≤ 10000) (hhi2 : 0 ≤ hi) :
    Calls Tryz.prog 49 #[.slice A bs.length c, .int .i64 p, .int .i64 n, .int .i64 lo, .int .i64 hi] w fun e w' => e = .returned (.int .i64 (prS bs p n lo hi)) ∧ w = w' := by
  obtain ⟨T, hT⟩ : ∃ T, T = (bs.drop p).take n := ⟨_, rfl⟩
  have hTl : T.length ≤ n := by rw [hT]; simp; omega
  have hfull : T.length = n → p + n ≤ bs.length := by rw [hT]; simp; omega
  have hshort : T.length < n → bs.length ≤ p + T.length := by rw [hT]; simp; omega
  have hno := Lib.hid (show (T.all isD = false ∨ T.length < n) → prS bs p n lo hi = -1 from fun h => by
    unfold prS
    rw [if_neg]
    unfold partOk takeB
    rcases h with h | h
    · by_cases hle : p + n ≤ bs.length
      · have e : takeS bs p n = T := by unfold takeS; rw [if_pos hle, hT]
        rw [e, h]; simp
      · simp [hle]
    · have hle : ¬ p + n ≤ bs.length := by
        intro hle
        have : T.length = n := by rw [hT]; simp; omega
        omega
      simp [hle])
  have hyes := Lib.hid (show T.length = n → T.all isD = true → prS bs p n lo hi = if decide (lo ≤ numI T) && decide (numI T ≤ hi) then numI T else -1 from fun h1 h2 => by
    have hle := hfull h1
    have e : takeS bs p n = T := by unfold takeS; rw [if_pos hle, hT]
    unfold prS partOk takeB
    rw [e, h2, decide_eq_true hle]; rfl)
  have pk := Lib.hid (show ∀ k (h : k < T.length), peekS bs (p + k) = (T[k].toNat : Int) from fun k h => by
    have hlt : p + k < bs.length := by rw [hT] at h; simp at h; omega
    rw [(peekS_in hlt).2.2]
    have : T[k] = bs[p + k] := by
      have e1 : T[k]? = some bs[p + k] := by rw [hT, List.getElem?_take_of_lt (by omega), List.getElem?_drop, List.getElem?_eq_getElem hlt]
      rw [List.getElem?_eq_getElem h] at e1
      exact Option.some.inj e1
    rw [this])
  have po := Lib.hid (show T.length < n → peekS bs (p + T.length) = -1 from fun h => peekS_out (by have := hshort h; omega))
  generalize prS bs p n lo hi = R at *
  replace hb := Lib.hid hb
  replace hT := Lib.hid hT
  clear hfull hshort
  go_enter Tryz.func49, Tryz.ntmps49
  go_wp2_with fail
  go_loop [11, 12] (fun x i => ∃ k : Nat, k ≤ T.length ∧ i = .int .i64 ((p + k : Nat) : Int) ∧ (T.take k).all isD = true ∧ x = .int .i64 (numI (T.take k))) (fun _ i => p + n - (intOf i).toNat)
  case atStart => exact ⟨0, Nat.zero_le _, rfl, rfl, rfl⟩
  case round =>
    obtain ⟨k, hk, rfl, hal, rfl⟩ := hrel
    have hbd := numI_bd (T.take k) (by simp; omega)
    have cp := ref_Peek c (p + k) hb.out (by omega)
    rw [show ((p + k : Nat) : Int) = (p : Int) + (k : Int) by omega] at cp
    replace cp := Lib.hid cp
    by_cases hlt : k < T.length
    · have ha := Lib.hid (take_all T k hlt)
      have hnm := Lib.hid (take_num T k hlt)
      have hpk := pk.out k hlt
      rw [hpk] at cp
      clear hpk
      have hx := u8_lt T[k]
      have hx0 : (0 : Int) ≤ (T[k].toNat : Int) := Int.natCast_nonneg _
      have hisD := Lib.hid (show isD T[k] = (decide (48 ≤ T[k].toNat) && decide (T[k].toNat ≤ 57)) from rfl)
      have hmem : Hid (isD T[k] = false → T.all isD = false) := Lib.hid fun h => by
        rw [List.all_eq_false]; exact ⟨T[k], List.getElem_mem _, by simp [h]⟩
      rw [hal] at ha
      replace hal := Lib.hid hal
      generalize isD T[k] = D at *
      generalize T[k] = x at *
      generalize numI (T.take k) = N at *
      generalize hN1 : numI (T.take (k + 1)) = N1 at *
      replace hN1 := Lib.hid hN1
      go_wp2_with (go_at_call 79; (with_reducible refine cp.out.mono ?_); rintro e w1 ⟨rfl, rfl⟩)
      all_goals first
        | (go_ret
           refine ⟨?_, rfl⟩
           rw [hno.out (.inl (hmem.out (by rw [hisD.out]; rw [Bool.eq_false_iff]; simp; omega)))]; rfl)
        | (refine ⟨⟨k + 1, by omega, by go_num, ?_, ?_⟩, by simp [intOf]; omega⟩
           · rw [ha.out, hisD.out]; simp; omega
           · rw [hN1.out, hnm.out])
    · obtain rfl : k = T.length := by omega
      rw [List.take_length] at hal hbd ⊢
      by_cases hTn : T.length < n
      · rw [po.out hTn] at cp
        have hR := Lib.hid (hno.out (.inr hTn))
        replace hal := Lib.hid hal
        generalize numI T = N at *
        go_wp2_with (go_at_call 79; (with_reducible refine cp.out.mono ?_); rintro e w1 ⟨rfl, rfl⟩)
        go_ret
        exact ⟨by rw [hR.out]; rfl, rfl⟩
      · have hTn2 : T.length = n := by omega
        have hR := Lib.hid (hyes.out hTn2 hal)
        replace hal := Lib.hid hal
        clear cp
        generalize numI T = N at *
        go_wp2_with fail
        all_goals
          go_ret
          refine ⟨?_, rfl⟩
          rw [hR.out]
          first
            | (rw [if_neg (by simp; omega)]; rfl)
            | (rw [if_pos (by simp; omega)]; rfl)
end Go.Proofs.YtkpikpaepgknnaaGreatDoor

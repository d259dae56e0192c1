/- Fixed: contracts of digits and behind. No condition. -/
import Derived.Test.YtbmcmilbmkdabaaDoorFxCur
namespace Go.Proofs.YtbmcmilbmkdabaaDoor
open Go Go.RowKit Go.Wk
def isD (b : UInt8) : Bool := decide (48 ≤ b.toNat) && decide (b.toNat ≤ 57)
/-- the digits from a place on -/
def digs (bs : List UInt8) (p : Nat) : List UInt8 := (bs.drop p).takeWhile isD
theorem tw_lt (f : UInt8 → Bool) : ∀ (l : List UInt8) (k : Nat) (h : k < (l.takeWhile f).length), l[k]? = some (l.takeWhile f)[k] ∧ f (l.takeWhile f)[k] = true := by
  intro l
  induction l with
  | nil => intro k h; simp at h
  | cons x xs ih =>
    intro k h
    by_cases hx : f x = true
    · cases k with
      | zero => simp [List.takeWhile_cons, hx]
      | succ k =>
        have h2 : k < (xs.takeWhile f).length := by simpa [List.takeWhile_cons, hx] using h
        have := ih k h2
        simpa [List.takeWhile_cons, hx] using this
    · simp [List.takeWhile_cons, hx] at h
theorem tw_end (f : UInt8 → Bool) : ∀ (l : List UInt8) (b : UInt8), l[(l.takeWhile f).length]? = some b → f b = false := by
  intro l
  induction l with
  | nil => intro b h; simp at h
  | cons x xs ih =>
    intro b h
    by_cases hx : f x = true
    · exact ih b (by simpa [List.takeWhile_cons, hx] using h)
    · simp [List.takeWhile_cons, hx] at h
      subst h; simpa using hx
theorem digs_in {bs : List UInt8} {p k : Nat} (h : k < (digs bs p).length) : bs[p + k]? = some (digs bs p)[k] ∧ isD (digs bs p)[k] = true := by
  have := tw_lt isD (bs.drop p) k h
  rw [List.getElem?_drop] at this
  exact this
theorem digs_out {bs : List UInt8} {p : Nat} (b : UInt8) (h : bs[p + (digs bs p).length]? = some b) : isD b = false := by
  refine tw_end isD (bs.drop p) b ?_
  rw [List.getElem?_drop]; exact h
theorem peek_in {bs : List UInt8} {p k : Nat} (h : k < (digs bs p).length) : peekS bs (p + k) = ((digs bs p)[k].toNat : Int) ∧ 48 ≤ peekS bs (p + k) ∧ peekS bs (p + k) ≤ 57 ∧ p + k < bs.length := by
  obtain ⟨h1, h2⟩ := digs_in h
  have e : peekS bs (p + k) = ((digs bs p)[k].toNat : Int) := by unfold peekS; rw [h1]
  have hl := (List.getElem?_eq_some_iff.1 h1).1
  simp [isD] at h2
  rw [e]; omega
theorem peek_out (bs : List UInt8) (p : Nat) : peekS bs (p + (digs bs p).length) < 48 ∨ 57 < peekS bs (p + (digs bs p).length) := by
  unfold peekS
  cases h : bs[p + (digs bs p).length]? with
  | none => left; simp
  | some b =>
    have := digs_out b h
    simp [isD] at this
    simp
    omega
/-- one digit more, not above the greatest whole number -/
def stepD (s : Nat × Bool) (b : UInt8) : Nat × Bool := if s.1 * 10 + (b.toNat - 48) > 2147483647 then (2147483647, false) else (s.1 * 10 + (b.toNat - 48), s.2)
def numD (l : List UInt8) : Nat × Bool := l.foldl stepD (0, true)
theorem numD_take (l : List UInt8) (k : Nat) (h : k < l.length) : numD (l.take (k + 1)) = stepD (numD (l.take k)) l[k] := by
  unfold numD; rw [List.take_succ_eq_append_getElem h, List.foldl_append]; rfl
theorem numD_le : ∀ (l : List UInt8) (s : Nat × Bool), s.1 ≤ 2147483647 → (l.foldl stepD s).1 ≤ 2147483647 := by
  intro l
  induction l with
  | nil => intro s h; exact h
  | cons b l ih =>
    intro s h
    refine ih _ ?_
    unfold stepD; split <;> simp <;> omega
set_option maxHeartbeats 2000000 in
set_option maxRecDepth 100000 in
theorem fx_digits {w0 w : World} {L : Nat} {A : Option Addr} {c : Nat} {bs : List UInt8} {p : Nat} (h : Cur w0 w L A c bs p) :
    Calls Tryd.prog 26 #[.pointer (some ⟨L, 0, none⟩)] w fun e w' => e = .returned (.tuple #[.int .i64 ((numD (digs bs p)).1 : Nat), .int .i64 ((digs bs p).length : Nat), .bool (numD (digs bs p)).2]) ∧ Cur w0 w' L A c bs (p + (digs bs p).length) := by
  have hsm := h.small
  go_enter Tryd.func26, Tryd.ntmps26
  go_wp2
  go_loopw [5, 6, 7] (fun nv mv ov wr => ∃ k : Nat, k ≤ (digs bs p).length ∧ nv = .int .i64 ((numD ((digs bs p).take k)).1 : Nat) ∧ mv = .int .i64 k ∧ ov = .bool (numD ((digs bs p).take k)).2 ∧ Cur w0 wr L A c bs (p + k)) (fun _ mv _ _ => (digs bs p).length - (RowKit.intOf mv).toNat)
  case atStart => exact ⟨0, Nat.zero_le _, rfl, rfl, rfl, h⟩
  case round =>
    obtain ⟨k, hk, rfl, rfl, rfl, hC⟩ := hrel
    have hle := numD_le ((digs bs p).take k) (0, true) (by omega)
    change (numD ((digs bs p).take k)).1 ≤ 2147483647 at hle
    replace hC := Lib.hid hC
    have hdl : (digs bs p).length ≤ 100000 := by
      have : (digs bs p).length ≤ (bs.drop p).length := (List.takeWhile_sublist _).length_le
      rw [List.length_drop] at this; omega
    by_cases hlt : k < (digs bs p).length
    · obtain ⟨hp1, hp2, hp3, hp4⟩ := peek_in hlt
      have HT := Lib.hid (numD_take (digs bs p) k hlt)
      generalize hd : (digs bs p)[k] = d at *
      obtain ⟨S, hS⟩ := hidE (peekS bs (p + k))
      have hS2 := Lib.hid (show S = (d.toNat : Int) by rw [hS.out, hp1])
      have hS0 : 48 ≤ S ∧ S ≤ 57 := by rw [hS.out]; omega
      clear hd hp1 hp2 hp3
      replace hp4 := Lib.hid hp4
      generalize numD ((digs bs p).take k) = q at *
      obtain ⟨n, ok⟩ := q
      simp only at hle ⊢
      obtain ⟨N, hN⟩ := hidE (n : Int)
      have hN0 : 0 ≤ N ∧ N ≤ 2147483647 := by rw [hN.out]; omega
      rw [← hN.out]
      clear hle h
      go_wp2_with (first
        | (go_at_call 35; (with_reducible refine (cur_peek hC.out).mono ?_); clear hC; rintro e w1 ⟨rfl, hC⟩; replace hC := Lib.hid hC; rw [← hS.out])
        | (go_at_call 36; (with_reducible refine (cur_next hC.out).mono ?_); clear hC; rintro e w1 ⟨rfl, hC⟩; rw [if_pos hp4.out] at hC; replace hC := Lib.hid hC; rw [← hS.out]))
      · rename_i hgt
        have e := HT.out
        have h1 := hS2.out
        have h2 := hN.out
        rw [stepD, if_pos (by simp only; omega)] at e
        refine ⟨⟨k + 1, by omega, by rw [e]; rfl, by rfl, by rw [e], hC.out⟩, by simp only [RowKit.intOf]; omega⟩
      · rename_i hgt
        have e := HT.out
        have h1 := hS2.out
        have h2 := hN.out
        rw [stepD, if_neg (by simp only; omega)] at e
        refine ⟨⟨k + 1, by omega, by rw [e]; congr 1; simp only; omega, by rfl, by rw [e], hC.out⟩, by simp only [RowKit.intOf]; omega⟩
    · have hk' : k = (digs bs p).length := by omega
      subst hk'
      rw [List.take_length] at hle ⊢
      have hpo := peek_out bs p
      obtain ⟨S, hS⟩ := hidE (peekS bs (p + (digs bs p).length))
      rw [← hS.out] at hpo
      clear h hle
      rcases hpo with hpo | hpo
      · go_wp2_with (go_at_call 35; (with_reducible refine (cur_peek hC.out).mono ?_); clear hC; rintro e w1 ⟨rfl, hC⟩; replace hC := Lib.hid hC; rw [← hS.out])
        go_ret3
        exact ⟨rfl, hC.out⟩
      · go_wp2_with (go_at_call 35; (with_reducible refine (cur_peek hC.out).mono ?_); clear hC; rintro e w1 ⟨rfl, hC⟩; replace hC := Lib.hid hC; rw [← hS.out])
        go_ret3
        exact ⟨rfl, hC.out⟩
def valD (l : List UInt8) : Nat := l.foldl (fun s b => s * 10 + (b.toNat - 48)) 0
theorem valD_snoc (l : List UInt8) (b : UInt8) : valD (l ++ [b]) = valD l * 10 + (b.toNat - 48) := by unfold valD; rw [List.foldl_append]; rfl
theorem valD_aux : ∀ (l : List UInt8) (s : Nat), (∀ b ∈ l, isD b = true) → l.foldl (fun s b => s * 10 + (b.toNat - 48)) s + 1 ≤ (s + 1) * 10 ^ l.length := by
  intro l
  induction l with
  | nil => intro s _; simp
  | cons b l ih =>
    intro s h
    have h1 := ih (s * 10 + (b.toNat - 48)) fun x hx => h x (List.mem_cons_of_mem _ hx)
    have h2 := h b (List.mem_cons_self ..)
    simp [isD] at h2
    rw [List.foldl_cons, List.length_cons, Nat.pow_succ, Nat.mul_comm (10 ^ l.length) 10, ← Nat.mul_assoc]
    refine Nat.le_trans h1 (Nat.mul_le_mul_right _ ?_)
    omega
theorem valD_lt (l : List UInt8) (h : ∀ b ∈ l, isD b = true) : valD l < 10 ^ l.length := by
  have := valD_aux l 0 h
  unfold valD
  omega
theorem val_step (l : List UInt8) (k : Nat) (h : k < l.length) : (k < 5 → valD ((l.take (k + 1)).take 5) = valD ((l.take k).take 5) * 10 + (l[k].toNat - 48)) ∧ (5 ≤ k → valD ((l.take (k + 1)).take 5) = valD ((l.take k).take 5)) := by
  constructor
  · intro h5
    rw [List.take_take, List.take_take, show min 5 (k + 1) = k + 1 by omega, show min 5 k = k by omega, List.take_succ_eq_append_getElem h, valD_snoc]
  · intro h5
    rw [List.take_take, List.take_take]
    congr 2; omega
/-- the digits behind a point, in parts -/
def fracD (l : List UInt8) : Nat := valD (l.take 5) * 10 ^ (5 - l.length)
theorem digs_all {bs : List UInt8} {p : Nat} : ∀ b ∈ digs bs p, isD b = true := by
  intro b hb
  obtain ⟨k, hk, rfl⟩ := List.getElem_of_mem hb
  exact (digs_in hk).2
set_option maxHeartbeats 2000000 in
set_option maxRecDepth 100000 in
theorem fx_behind {w0 w : World} {L : Nat} {A : Option Addr} {c : Nat} {bs : List UInt8} {p : Nat} (h : Cur w0 w L A c bs p) :
    Calls Tryd.prog 27 #[.pointer (some ⟨L, 0, none⟩)] w fun e w' => e = .returned (.tuple #[.int .i64 (fracD (digs bs p) : Nat), .int .i64 ((digs bs p).length : Nat)]) ∧ Cur w0 w' L A c bs (p + (digs bs p).length) := by
  have hsm := h.small
  go_enter Tryd.func27, Tryd.ntmps27
  go_wp2
  go_loopw [4, 5] (fun nv mv wr => ∃ k : Nat, k ≤ (digs bs p).length ∧ nv = .int .i64 (valD (((digs bs p).take k).take 5) : Nat) ∧ mv = .int .i64 k ∧ Cur w0 wr L A c bs (p + k)) (fun _ mv _ => (digs bs p).length - (RowKit.intOf mv).toNat)
  case atStart => exact ⟨0, Nat.zero_le _, rfl, rfl, h⟩
  case round =>
    obtain ⟨k, hk, rfl, rfl, hC⟩ := hrel
    have hle : valD (((digs bs p).take k).take 5) ≤ 99999 := by
      have h1 := valD_lt (((digs bs p).take k).take 5) fun b hb => digs_all b (List.mem_of_mem_take (List.mem_of_mem_take hb))
      have h2 : 10 ^ (((digs bs p).take k).take 5).length ≤ 10 ^ 5 := Nat.pow_le_pow_right (by omega) (by rw [List.length_take]; omega)
      omega
    replace hC := Lib.hid hC
    have hdl : (digs bs p).length ≤ 100000 := by
      have : (digs bs p).length ≤ (bs.drop p).length := (List.takeWhile_sublist _).length_le
      rw [List.length_drop] at this; omega
    by_cases hlt : k < (digs bs p).length
    · obtain ⟨hp1, hp2, hp3, hp4⟩ := peek_in hlt
      have HT := Lib.hid (val_step (digs bs p) k hlt)
      generalize hd : (digs bs p)[k] = d at *
      obtain ⟨S, hS⟩ := hidE (peekS bs (p + k))
      have hS2 := Lib.hid (show S = (d.toNat : Int) by rw [hS.out, hp1])
      have hS0 : 48 ≤ S ∧ S ≤ 57 := by rw [hS.out]; omega
      clear hd hp1 hp2 hp3
      replace hp4 := Lib.hid hp4
      generalize valD (((digs bs p).take k).take 5) = n at *
      obtain ⟨N, hN⟩ := hidE (n : Int)
      have hN0 : 0 ≤ N ∧ N ≤ 99999 := by rw [hN.out]; omega
      rw [← hN.out]
      clear hle h
      go_wp2_with (first
        | (go_at_call 35; (with_reducible refine (cur_peek hC.out).mono ?_); clear hC; rintro e w1 ⟨rfl, hC⟩; replace hC := Lib.hid hC; rw [← hS.out])
        | (go_at_call 36; (with_reducible refine (cur_next hC.out).mono ?_); clear hC; rintro e w1 ⟨rfl, hC⟩; rw [if_pos hp4.out] at hC; replace hC := Lib.hid hC; rw [← hS.out]))
      · rename_i hgt
        have e := HT.out.1 (by omega)
        have h1 := hS2.out
        have h2 := hN.out
        refine ⟨⟨k + 1, by omega, by rw [e]; congr 1; omega, by rfl, hC.out⟩, by simp only [RowKit.intOf]; omega⟩
      · rename_i hgt
        have e := HT.out.2 (by omega)
        have h2 := hN.out
        refine ⟨⟨k + 1, by omega, by rw [e, h2], by rfl, hC.out⟩, by simp only [RowKit.intOf]; omega⟩
    · have hk' : k = (digs bs p).length := by omega
      subst hk'
      rw [List.take_length] at hle ⊢
      have hpo := peek_out bs p
      obtain ⟨S, hS⟩ := hidE (peekS bs (p + (digs bs p).length))
      rw [← hS.out] at hpo
      clear h
      rcases hpo with hpo | hpo
      · go_wp2_with (go_at_call 35; (with_reducible refine (cur_peek hC.out).mono ?_); clear hC; rintro e w1 ⟨rfl, hC⟩; replace hC := Lib.hid hC; rw [← hS.out])
        have hv : Hid (valD ((digs bs p).take 5) < 10 ^ (((digs bs p).take 5).length)) := Lib.hid (valD_lt _ fun b hb => digs_all b (List.mem_of_mem_take hb))
        rw [List.length_take] at hv
        go_loop [4, 7] (fun nv iv => ∃ j : Nat, (digs bs p).length ≤ j ∧ (j ≤ 5 ∨ j = (digs bs p).length) ∧ iv = .int .i64 j ∧ nv = .int .i64 (valD ((digs bs p).take 5) * 10 ^ (j - (digs bs p).length) : Nat)) (fun _ iv => 5 - (RowKit.intOf iv).toNat)
        case atStart => exact ⟨_, Nat.le_refl _, .inr rfl, rfl, by simp⟩
        case round =>
          obtain ⟨j, hj1, hj2, rfl, rfl⟩ := hrel
          have hjl : j ≤ 100000 := by omega
          by_cases hj5 : j < 5
          · have hb : valD ((digs bs p).take 5) * 10 ^ (j - (digs bs p).length) ≤ 99999 := by
              have h1 : valD ((digs bs p).take 5) * 10 ^ (j - (digs bs p).length) ≤ 10 ^ (min 5 (digs bs p).length) * 10 ^ (j - (digs bs p).length) := Nat.mul_le_mul_right _ (Nat.le_of_lt hv.out)
              rw [← Nat.pow_add] at h1
              have h2 : 10 ^ (min 5 (digs bs p).length + (j - (digs bs p).length)) ≤ 10 ^ 4 := Nat.pow_le_pow_right (by omega) (by omega)
              omega
            have hnx := Lib.hid (show valD ((digs bs p).take 5) * 10 ^ (j + 1 - (digs bs p).length) = valD ((digs bs p).take 5) * 10 ^ (j - (digs bs p).length) * 10 by
              rw [show j + 1 - (digs bs p).length = (j - (digs bs p).length) + 1 by omega, Nat.pow_succ, Nat.mul_assoc])
            generalize valD ((digs bs p).take 5) * 10 ^ (j - (digs bs p).length) = m at *
            obtain ⟨M, hM⟩ := hidE (m : Int)
            have hM0 : 0 ≤ M ∧ M ≤ 99999 := by rw [hM.out]; omega
            rw [← hM.out]
            clear hb hle hj2
            go_wp2
            refine ⟨⟨j + 1, by omega, .inl (by omega), by rfl, by rw [hnx.out]; congr 1; have := hM.out; omega⟩, by simp only [RowKit.intOf]; omega⟩
          · have hf := Lib.hid (show valD ((digs bs p).take 5) * 10 ^ (j - (digs bs p).length) = fracD (digs bs p) by
              unfold fracD
              rw [show j - (digs bs p).length = 5 - (digs bs p).length by omega])
            generalize valD ((digs bs p).take 5) * 10 ^ (j - (digs bs p).length) = m at *
            obtain ⟨M, hM⟩ := hidE (m : Int)
            rw [← hM.out]
            clear hle hj2 hj1
            go_wp2
            go_ret2
            exact ⟨by rw [← hf.out, ← hM.out]; rfl, hC.out⟩
      · go_wp2_with (go_at_call 35; (with_reducible refine (cur_peek hC.out).mono ?_); clear hC; rintro e w1 ⟨rfl, hC⟩; replace hC := Lib.hid hC; rw [← hS.out])
        have hv : Hid (valD ((digs bs p).take 5) < 10 ^ (((digs bs p).take 5).length)) := Lib.hid (valD_lt _ fun b hb => digs_all b (List.mem_of_mem_take hb))
        rw [List.length_take] at hv
        go_loop [4, 7] (fun nv iv => ∃ j : Nat, (digs bs p).length ≤ j ∧ (j ≤ 5 ∨ j = (digs bs p).length) ∧ iv = .int .i64 j ∧ nv = .int .i64 (valD ((digs bs p).take 5) * 10 ^ (j - (digs bs p).length) : Nat)) (fun _ iv => 5 - (RowKit.intOf iv).toNat)
        case atStart => exact ⟨_, Nat.le_refl _, .inr rfl, rfl, by simp⟩
        case round =>
          obtain ⟨j, hj1, hj2, rfl, rfl⟩ := hrel
          have hjl : j ≤ 100000 := by omega
          by_cases hj5 : j < 5
          · have hb : valD ((digs bs p).take 5) * 10 ^ (j - (digs bs p).length) ≤ 99999 := by
              have h1 : valD ((digs bs p).take 5) * 10 ^ (j - (digs bs p).length) ≤ 10 ^ (min 5 (digs bs p).length) * 10 ^ (j - (digs bs p).length) := Nat.mul_le_mul_right _ (Nat.le_of_lt hv.out)
              rw [← Nat.pow_add] at h1
              have h2 : 10 ^ (min 5 (digs bs p).length + (j - (digs bs p).length)) ≤ 10 ^ 4 := Nat.pow_le_pow_right (by omega) (by omega)
              omega
            have hnx := Lib.hid (show valD ((digs bs p).take 5) * 10 ^ (j + 1 - (digs bs p).length) = valD ((digs bs p).take 5) * 10 ^ (j - (digs bs p).length) * 10 by
              rw [show j + 1 - (digs bs p).length = (j - (digs bs p).length) + 1 by omega, Nat.pow_succ, Nat.mul_assoc])
            generalize valD ((digs bs p).take 5) * 10 ^ (j - (digs bs p).length) = m at *
            obtain ⟨M, hM⟩ := hidE (m : Int)
            have hM0 : 0 ≤ M ∧ M ≤ 99999 := by rw [hM.out]; omega
            rw [← hM.out]
            clear hb hle hj2
            go_wp2
            refine ⟨⟨j + 1, by omega, .inl (by omega), by rfl, by rw [hnx.out]; congr 1; have := hM.out; omega⟩, by simp only [RowKit.intOf]; omega⟩
          · have hf := Lib.hid (show valD ((digs bs p).take 5) * 10 ^ (j - (digs bs p).length) = fracD (digs bs p) by
              unfold fracD
              rw [show j - (digs bs p).length = 5 - (digs bs p).length by omega])
            generalize valD ((digs bs p).take 5) * 10 ^ (j - (digs bs p).length) = m at *
            obtain ⟨M, hM⟩ := hidE (m : Int)
            rw [← hM.out]
            clear hle hj2 hj1
            go_wp2
            go_ret2
            exact ⟨by rw [← hf.out, ← hM.out]; rfl, hC.out⟩
end Go.Proofs.YtbmcmilbmkdabaaDoor

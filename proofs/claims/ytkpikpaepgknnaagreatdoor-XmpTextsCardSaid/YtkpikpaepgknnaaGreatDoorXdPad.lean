/- Digits in so many places. No condition. -/
import Derived.Test.YtkpikpaepgknnaaGreatDoorXdDig
set_option linter.unusedVariables false
namespace Go.Proofs.YtkpikpaepgknnaaGreatDoor
open Go Go.RowKit Go.Wk Go.Sort Go.Lib
def padL (n k : Nat) : List UInt8 := List.replicate (k - (decDigits n).length) 48 ++ decDigits n
theorem dec_le (n : Nat) (h : n < 10000) : (decDigits n).length ≤ 4 := by
  have h1 : ∀ m, m < 10 → (decDigits m).length = 1 := fun m hm => by rw [decDigits, dif_pos hm]; rfl
  by_cases a : n < 10
  · rw [h1 n a]; omega
  · rw [decDigits, dif_neg a, List.length_append]
    by_cases b : n / 10 < 10
    · rw [h1 _ b]; simp
    · rw [decDigits, dif_neg b, List.length_append]
      by_cases c : n / 10 / 10 < 10
      · rw [h1 _ c]; simp
      · rw [decDigits, dif_neg c, List.length_append, h1 _ (by omega)]; simp
theorem ref_TextN (n : Nat) (h : n < 10000) (w : World) :
    Calls Tryz.prog 40 #[.int .i64 n, .bool true] w fun e w' => e = .returned (str (decDigits n)) ∧ Below w.heap.size w w' := by
  have c := Lib.hid (ref_digits n (by omega) w)
  have hl := dec_le n h
  obtain ⟨U, hU⟩ := hidE (n : Int)
  have hU0 : 0 ≤ U ∧ U < 10000 := by rw [hU.out]; omega
  rw [← hU.out] at c ⊢
  generalize decDigits n = D at *
  clear h
  go_enter Tryz.func40, Tryz.ntmps40
  go_wp2_with (go_at_call 74; (with_reducible refine c.out.mono ?_); rintro e w1 ⟨rfl, hw1⟩; unfold str; replace hw1 := Lib.hid hw1)
  go_ret
  exact ⟨congrArg (fun b => Ending.returned (.string b)) (bytes_ext (by simp)), hw1.out⟩
set_option maxHeartbeats 1000000 in
theorem law_digits (n k : Nat) (h : n < 10000) (hk : k ≤ 4) (w : World) :
    Calls Tryz.prog 18 #[.int .i64 n, .int .i64 k] w fun e w' => e = .returned (str (padL n k)) ∧ Below w.heap.size w w' := by
  have c := Lib.hid (ref_TextN n h w)
  have hl := dec_le n h
  have hP := Lib.hid (show padL n k = List.replicate (k - (decDigits n).length) 48 ++ decDigits n from rfl)
  generalize padL n k = P at *
  generalize decDigits n = D at *
  unfold str at c
  go_enter Tryz.func18, Tryz.ntmps18
  go_wp2_with (go_at_call 40; (with_reducible refine c.out.mono ?_); rintro e w1 ⟨rfl, hw1⟩; replace hw1 := Lib.hid hw1)
  go_loop [5] (fun s => ∃ j : Nat, D.length + j ≤ 4 ∧ (j = 0 ∨ D.length + j ≤ k) ∧ s = str (List.replicate j 48 ++ D)) (fun s => 4 - (match s with | .string b => b.size | _ => 0))
  case atStart => exact ⟨0, by omega, .inl rfl, rfl⟩
  case round =>
    obtain ⟨j, hj, hjk, rfl⟩ := hrel
    have hsz : (List.replicate j (48 : UInt8) ++ D).length = j + D.length := by simp
    unfold str
    by_cases hlt : j + D.length < k
    · go_wp2
      refine ⟨⟨j + 1, by omega, .inr (by omega), congrArg Value.string (bytes_ext (by simp [List.replicate_succ]))⟩, ?_⟩
      have e1 : (({ data := #[48] } : ByteArray) ++ { data := (List.replicate j 48 ++ D).toArray }).size = j + D.length + 1 := by
        rw [ByteArray.size_append]; show 1 + (List.replicate j (48 : UInt8) ++ D).toArray.size = _; simp; omega
      have e2 : ({ data := (List.replicate j 48 ++ D).toArray } : ByteArray).size = j + D.length := by
        show (List.replicate j (48 : UInt8) ++ D).toArray.size = _; simp
      simp only [e1, e2]
      omega
    · go_wp2
      go_ret
      refine ⟨?_, hw1.out⟩
      have : j = k - D.length := by omega
      rw [hP.out, ← this]; rfl
end Go.Proofs.YtkpikpaepgknnaaGreatDoor

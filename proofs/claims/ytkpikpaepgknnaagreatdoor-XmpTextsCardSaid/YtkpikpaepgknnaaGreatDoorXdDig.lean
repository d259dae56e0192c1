/- The document's digits. No condition. -/
import Derived.Test.YtkpikpaepgknnaaGreatDoorXdBase
namespace Go.Proofs.YtkpikpaepgknnaaGreatDoor
open Go Go.RowKit Go.Wk Go.Sort Go.Lib
set_option maxRecDepth 100000 in
theorem conv_one (w : World) (d : UInt8) (x : Int) (h : (d.toNat : Int) = x) : (convert 25 9 (.slice (some ⟨w.heap.size, 0, none⟩) 1 1)).run Tryz.prog (w.alloc (.cells #[.int .u8 x] 5)) = .ok (.string ⟨#[d]⟩) (w.alloc (.cells #[.int .u8 x] 5)) := by
  subst h
  have h := run_convert_bytes_back (P := Tryz.prog) (w.alloc (.cells #[.int .u8 (d.toNat : Int)] 5)) 25 9 5 ⟨w.heap.size, 0, none⟩ 1 [d] Tryz.underlying25 Tryz.underlying5 Tryz.underlying9 (fun j hj => by
    have : j = 0 := by simpa using hj
    subst this
    rw [Lib.add_plain, alloc_cell]; rfl)
  exact h
set_option maxHeartbeats 1000000 in
set_option maxRecDepth 100000 in
theorem ref_digits (u : Nat) (h : u < 18446744073709551616) (w : World) :
    Calls Tryz.prog 74 #[.int .u64 u] w fun e w' => e = .returned (str (decDigits u)) ∧ Below w.heap.size w w' := by
  obtain ⟨U, hU⟩ := hidE (u : Int)
  rw [← hU.out]
  have hlen : (decDigits u).length ≤ 20 := by
    rw [decDigits_length]
    by_cases h0 : u = 0
    · rw [h0, nDigits_small (by omega)]; omega
    · have := Lib.numDigits_eq u (by omega) h; split at this <;> omega
  generalize hD : decDigits u = D at *
  replace hD := Lib.hid hD
  go_enter Tryz.func74, Tryz.ntmps74
  go_wp2
  go_loopw [0, 3] (fun nv sv wr => ∃ (k : Nat) (l : List UInt8), nv = .int .u64 k ∧ sv = str l ∧ k < 18446744073709551616 ∧ D = decDigits k ++ l ∧ Below w.heap.size w wr) (fun nv _ _ => (RowKit.intOf nv).toNat)
  case atStart => exact ⟨u, [], by rw [hU.out], rfl, h, by rw [hD.out]; simp, Below.refl _ _⟩
  case round =>
    obtain ⟨k, l, rfl, rfl, hk, hDk, hb⟩ := hrel
    have hll : l.length ≤ 20 := by rw [hDk, List.length_append] at hlen; omega
    obtain ⟨K, hK⟩ := hidE (k : Int)
    have hK0 : 0 ≤ K ∧ K < 18446744073709551616 := by rw [hK.out]; omega
    rw [← hK.out]
    replace hDk := Lib.hid hDk
    replace hk := Lib.hid hk
    have hll2 : ¬ (9223372036854775807 < 1 + l.length) := by omega
    have hdig : ((UInt8.ofNat (48 + k % 10)).toNat : Int) = 48 + K % 10 := by
      rw [UInt8.toNat_ofNat_of_lt' (by have := Nat.mod_lt k (show 0 < 10 by omega); show 48 + k % 10 < 256; omega), hK.out]; omega
    have hcv := conv_one wr (UInt8.ofNat (48 + k % 10)) (48 + K % 10) hdig
    have HD := Lib.hid (show k < 10 → decDigits k = [UInt8.ofNat (48 + k % 10)] by intro h; rw [decDigits, dif_pos h, Nat.mod_eq_of_lt h])
    have HE := Lib.hid (show ¬ k < 10 → decDigits k = decDigits (k / 10) ++ [UInt8.ofNat (48 + k % 10)] by intro h; rw [decDigits, dif_neg h])
    generalize UInt8.ofNat (48 + k % 10) = d at *
    clear hlen hll hdig
    unfold str
    go_wp2
    · rename_i h0
      have hK1 := hK.out
      have h1 : K / 10 = 0 := by simpa using h0
      go_ret
      refine ⟨?_, hb.alloc (by have := hb.size; omega) _⟩
      have e : D = d :: l := by rw [hDk.out, HD.out (by omega)]; rfl
      rw [e]
      exact congrArg (fun b => Ending.returned (.string b)) (bytes_ext (by simp))
    · rename_i h0
      have hK1 := hK.out
      have h1 : ¬ K / 10 = 0 := by simpa using h0
      have hk1 := hk.out
      refine ⟨⟨k / 10, d :: l, by rw [hK1]; congr 1, ?_, by omega, ?_, hb.alloc (by have := hb.size; omega) _⟩, ?_⟩
      · exact congrArg Value.string (bytes_ext (by simp))
      · rw [hDk.out, HE.out (by omega), List.append_assoc]; rfl
      · simp only [RowKit.intOf]; omega
end Go.Proofs.YtkpikpaepgknnaaGreatDoor

/- Texts in two bytes a sign, and in one: the plain law. No condition. -/
import Derived.Lib.MapLaws
namespace Go.Xt
open Go
def signB (x : Int) : Bool := decide (x = 9) || decide (x = 10) || decide (x = 13) || (decide (32 ≤ x) && decide (x ≠ 65534) && decide (x ≠ 65535))
def validB (x : Int) : Bool := (decide (0 ≤ x) && decide (x < 55296)) || (decide (57343 < x) && decide (x ≤ 1114111))
def encU (x : Nat) : List UInt8 := (Utf8.encode (x : Int)).data.toList
def two (a b : UInt8) : Nat := a.toNat * 256 + b.toNat
def pairS (half c : Nat) : Nat := 65536 + (half - 55296) * 1024 + c - 56320
theorem pairS_int (half c : Nat) (h : 55296 ≤ half) (hc : 56320 ≤ c) : ((pairS half c : Nat) : Int) = 65536 + ((half : Int) - 55296) * 1024 + (c : Int) - 56320 := by unfold pairS; omega
theorem pairS_bd (half c : Nat) (h : 55296 ≤ half) (h2 : half < 56320) (hc : 56320 ≤ c) (hc2 : c ≤ 57343) : 65536 ≤ pairS half c ∧ pairS half c ≤ 1114111 := by unfold pairS; omega
/-- what stands in two bytes each, half a sign being kept; none: it is no text -/
def wS : Nat → List UInt8 → Option (List UInt8)
  | half, a :: b :: r =>
    if half ≠ 0 then (if two a b < 56320 ∨ 57343 < two a b then none else if signB ((pairS half (two a b) : Nat) : Int) then (wS 0 r).map (encU (pairS half (two a b)) ++ ·) else none)
    else if 55296 ≤ two a b ∧ two a b < 56320 then wS (two a b) r
    else if 56320 ≤ two a b ∧ two a b ≤ 57343 then none
    else if signB ((two a b : Nat) : Int) then (wS 0 r).map (encU (two a b) ++ ·) else none
  | half, [] => if half = 0 then some [] else none
  | _, [_] => none
def okB (c : UInt8) : Bool := decide (32 ≤ c.toNat ∧ c.toNat ≤ 126) || c == 9 || c == 10 || c == 13 || decide (161 ≤ c.toNat)
def lS : List UInt8 → Option (List UInt8)
  | [] => some []
  | c :: r => if okB c then (lS r).map (encU c.toNat ++ ·) else none
def plainS (bs : List UInt8) : Option (List UInt8) := match bs with
  | 254 :: 255 :: r => wS 0 r
  | _ => lS bs
theorem map_app (o : Option (List UInt8)) (a b : List UInt8) : (o.map (b ++ ·)).map (a ++ ·) = o.map ((a ++ b) ++ ·) := by
  cases o with
  | none => rfl
  | some x => simp
theorem two_lt (a b : UInt8) : two a b < 65536 := by have := a.toNat_lt; have := b.toNat_lt; unfold two; omega
set_option maxRecDepth 100000 in
theorem enc_cases (x : Nat) (h : validB (x : Int) = true) : (x < 128 ∧ encU x = [UInt8.ofNat x]) ∨ (128 ≤ x ∧ x < 2048 ∧ encU x = [UInt8.ofNat (192 + x / 64), UInt8.ofNat (128 + x % 64)]) ∨
    (2048 ≤ x ∧ x < 65536 ∧ (x < 55296 ∨ 57344 ≤ x) ∧ encU x = [UInt8.ofNat (224 + x / 4096), UInt8.ofNat (128 + x / 64 % 64), UInt8.ofNat (128 + x % 64)]) ∨
    (65536 ≤ x ∧ x ≤ 1114111 ∧ encU x = [UInt8.ofNat (240 + x / 262144), UInt8.ofNat (128 + x / 4096 % 64), UInt8.ofNat (128 + x / 64 % 64), UInt8.ofNat (128 + x % 64)]) := by
  have hv : Utf8.valid (x : Int) = true := by
    unfold validB at h; unfold Utf8.valid
    simp only [Bool.or_eq_true, Bool.and_eq_true, decide_eq_true_eq] at h ⊢
    omega
  have hb : (x < 55296 ∨ 57344 ≤ x) ∧ x ≤ 1114111 := by
    unfold validB at h
    simp only [Bool.or_eq_true, Bool.and_eq_true, decide_eq_true_eq] at h
    omega
  unfold encU Utf8.encode
  simp only [hv, if_true, Int.toNat_natCast]
  by_cases h1 : x < 128
  · left; exact ⟨h1, by rw [if_pos h1]⟩
  · by_cases h2 : x < 2048
    · right; left; exact ⟨by omega, h2, by rw [if_neg h1, if_pos h2]⟩
    · by_cases h3 : x < 65536
      · right; right; left; exact ⟨by omega, h3, hb.1, by rw [if_neg h1, if_neg h2, if_pos h3]⟩
      · right; right; right; exact ⟨by omega, hb.2, by rw [if_neg h1, if_neg h2, if_neg h3]⟩
theorem un (n : Nat) (h : n < 256) : (UInt8.ofNat n).toNat = n := UInt8.toNat_ofNat_of_lt' (by show n < 256; exact h)
theorem dec1 (x : Nat) (h1 : x < 128) : Lib.decodeN 1 x 0 0 0 = (x, 1) := by
  unfold Lib.decodeN
  rw [if_pos h1]
theorem dec2 (x : Nat) (h1 : 128 ≤ x) (h2 : x < 2048) (b2 b3 : Nat) : Lib.decodeN 2 (192 + x / 64) (128 + x % 64) b2 b3 = (x, 2) := by
  unfold Lib.decodeN
  rw [if_neg (by omega), if_pos ⟨by omega, by omega, by omega⟩, if_pos (by omega)]
  congr 1; omega
theorem dec3 (x : Nat) (h1 : 2048 ≤ x) (h2 : x < 65536) (h3 : x < 55296 ∨ 57344 ≤ x) (b3 : Nat) : Lib.decodeN 3 (224 + x / 4096) (128 + x / 64 % 64) (128 + x % 64) b3 = (x, 3) := by
  unfold Lib.decodeN
  rw [if_neg (by omega), if_neg (by omega), if_pos ⟨by omega, ⟨by omega, by omega⟩, by omega, by omega⟩, if_pos (by omega)]
  congr 1; omega
theorem dec4 (x : Nat) (h1 : 65536 ≤ x) (h2 : x ≤ 1114111) : Lib.decodeN 4 (240 + x / 262144) (128 + x / 4096 % 64) (128 + x / 64 % 64) (128 + x % 64) = (x, 4) := by
  unfold Lib.decodeN
  rw [if_neg (by omega), if_neg (by omega), if_neg (by omega), if_pos ⟨by omega, ⟨by omega, by omega⟩, ⟨by omega, by omega⟩, by omega, by omega⟩, if_pos (by omega)]
  congr 1; omega
theorem lst1 (a : Nat) (h : a < 256) : Lib.decodeL [UInt8.ofNat a] = Lib.decodeN 1 a 0 0 0 := by
  rw [Lib.decodeL_N]; show Lib.decodeN 1 (UInt8.ofNat a).toNat 0 0 0 = _; rw [un a h]
theorem lst2 (a b : Nat) (h : a < 256) (h2 : b < 256) : Lib.decodeL [UInt8.ofNat a, UInt8.ofNat b] = Lib.decodeN 2 a b 0 0 := by
  rw [Lib.decodeL_N]; show Lib.decodeN 2 (UInt8.ofNat a).toNat (UInt8.ofNat b).toNat 0 0 = _; rw [un a h, un b h2]
theorem lst3 (a b c : Nat) (h : a < 256) (h2 : b < 256) (h3 : c < 256) : Lib.decodeL [UInt8.ofNat a, UInt8.ofNat b, UInt8.ofNat c] = Lib.decodeN 3 a b c 0 := by
  rw [Lib.decodeL_N]; show Lib.decodeN 3 (UInt8.ofNat a).toNat (UInt8.ofNat b).toNat (UInt8.ofNat c).toNat 0 = _; rw [un a h, un b h2, un c h3]
theorem lst4 (a b c d : Nat) (h : a < 256) (h2 : b < 256) (h3 : c < 256) (h4 : d < 256) : Lib.decodeL [UInt8.ofNat a, UInt8.ofNat b, UInt8.ofNat c, UInt8.ofNat d] = Lib.decodeN 4 a b c d := by
  rw [Lib.decodeL_N]; show Lib.decodeN 4 (UInt8.ofNat a).toNat (UInt8.ofNat b).toNat (UInt8.ofNat c).toNat (UInt8.ofNat d).toNat = _; rw [un a h, un b h2, un c h3, un d h4]
/-- a sign's bytes are read as the sign -/
theorem dec_enc (x : Nat) (h : validB (x : Int) = true) : Lib.decodeL (encU x) = (x, (encU x).length) := by
  rcases enc_cases x h with ⟨h1, e⟩ | ⟨h1, h2, e⟩ | ⟨h1, h2, h3, e⟩ | ⟨h1, h2, e⟩
  · rw [e]; exact (lst1 x (by omega)).trans (dec1 x h1)
  · rw [e]; exact (lst2 _ _ (by omega) (by omega)).trans (dec2 x h1 h2 0 0)
  · rw [e]; exact (lst3 _ _ _ (by omega) (by omega) (by omega)).trans (dec3 x h1 h2 h3 0)
  · rw [e]; exact (lst4 _ _ _ _ (by omega) (by omega) (by omega) (by omega)).trans (dec4 x h1 h2)
theorem enc_pos (x : Nat) (h : validB (x : Int) = true) : 0 < (encU x).length := by
  rcases enc_cases x h with ⟨h1, e⟩ | ⟨h1, h2, e⟩ | ⟨h1, h2, h3, e⟩ | ⟨h1, h2, e⟩
  all_goals (rw [e]; exact Nat.succ_pos _)
theorem enc_le (x : Nat) (h : validB (x : Int) = true) : (encU x).length ≤ 4 := by
  rcases enc_cases x h with ⟨h1, e⟩ | ⟨h1, h2, e⟩ | ⟨h1, h2, h3, e⟩ | ⟨h1, h2, e⟩
  all_goals (rw [e]; simp)
end Go.Xt

/- Fixed: digits, a point, five digits and more, read: in plain Lean. -/
import Derived.Test.YtbmcmilbmkdabaaDoorFxPlain
namespace Go.Proofs.YtbmcmilbmkdabaaDoor
open Go Go.RowKit Go.Wk Go.Lib
/-- sign, digits, point, digits -/
theorem parse_form (S D E : List UInt8) (neg : Bool) (n : Nat) (hD : ∀ b ∈ D, isD b = true) (hE : ∀ b ∈ E, isD b = true) (h0 : 0 < D.length) (hn : numD D = (n, true)) :
    parseP (S ++ (D ++ (46 :: E))) S.length neg = (signI neg * ((n : Int) * 100000 + (fracD E : Int)), false, 0) := by
  unfold parseP
  have hd := digs_at S D (46 :: E) S.length rfl hD (fun b h => by simp at h; subst h; exact point_notD)
  rw [hd]
  have hdot : (S ++ (D ++ (46 :: E)))[S.length + D.length]? = some 46 := by
    rw [← List.append_assoc, List.getElem?_append_right (by simp)]
    simp
  have hd2 := digs_at (S ++ (D ++ [46])) E [] (S.length + D.length + 1) (by simp; omega) hE (fun b h => by simp at h)
  have he : (S ++ (D ++ [46])) ++ (E ++ []) = S ++ (D ++ (46 :: E)) := by simp
  rw [he] at hd2
  have hl : (S ++ (D ++ (46 :: E))).length = S.length + D.length + 1 + E.length := by simp; omega
  rw [hdot, if_pos rfl]
  rw [hd2, hl, if_neg (by omega), hn, if_pos rfl]
/-- the digit of a byte -/
def digB (u : UInt8) : UInt8 := UInt8.ofNat (48 + u.toNat % 10)
theorem digB_is (u : UInt8) : isD (digB u) = true ∧ (digB u).toNat = 48 + u.toNat % 10 := by
  have h := Nat.mod_lt u.toNat (show 0 < 10 by omega)
  have e : (digB u).toNat = 48 + u.toNat % 10 := UInt8.toNat_ofNat_of_lt' (by show 48 + u.toNat % 10 < 256; omega)
  refine ⟨?_, e⟩
  unfold isD
  rw [e, decide_eq_true (show 48 ≤ 48 + u.toNat % 10 by omega), decide_eq_true (show 48 + u.toNat % 10 ≤ 57 by omega)]
  rfl
theorem digB_all (l : List UInt8) : ∀ b ∈ l.map digB, isD b = true := by
  intro b hb
  obtain ⟨u, _, rfl⟩ := List.mem_map.1 hb
  exact (digB_is u).1
theorem frac_cutF (F M : List UInt8) (h : F.length = 5) : fracD (F ++ M) = valD F := by
  unfold fracD
  rw [List.take_left' h, List.length_append, show 5 - (F.length + M.length) = 0 by omega, Nat.pow_zero, Nat.mul_one]
theorem sgn_digit (d rest : List UInt8) (hd : 0 < d.length) (hda : ∀ b ∈ d, isD b = true) : sgn (d ++ rest) = (0, false) := by
  unfold sgn
  match d, hd with
  | x :: d, _ =>
    have hx := hda x (List.mem_cons_self ..)
    have h1 : x ≠ 43 := fun e => by subst e; exact absurd hx (by decide)
    have h2 : x ≠ 45 := fun e => by subst e; exact absurd hx (by decide)
    simp [h1, h2]
/-- the three texts of the law -/
theorem cuts_plain (n : Nat) (hn : n ≤ 2147483647) (F M : List UInt8) (hF : ∀ b ∈ F, isD b = true) (hM : ∀ b ∈ M, isD b = true) (h5 : F.length = 5) :
    parseS (decDigits n ++ (46 :: F)) = ((n : Int) * 100000 + (valD F : Int), false, 0) ∧
    parseS ([43, 48, 48] ++ (decDigits n ++ (46 :: (F ++ M)))) = ((n : Int) * 100000 + (valD F : Int), false, 0) ∧
    parseS ([45] ++ (decDigits n ++ (46 :: (F ++ M)))) = (-((n : Int) * 100000 + (valD F : Int)), false, 0) := by
  have hFM : ∀ b ∈ F ++ M, isD b = true := fun b hb => (List.mem_append.1 hb).elim (hF b) (hM b)
  refine ⟨?_, ?_, ?_⟩
  · rw [parseS_eq, sgn_digit _ _ (dec_pos n) (dec_isD n)]
    have h := parse_form [] (decDigits n) F false n (dec_isD n) hF (dec_pos n) (dec_num n hn)
    have hf := frac_cutF F [] h5
    rw [List.append_nil] at hf
    rw [hf] at h
    refine h.trans ?_
    simp [signI]
  · have hz : numD ([48, 48] ++ decDigits n) = (n, true) := by
      rw [← dec_num n hn]
      unfold numD
      rw [List.foldl_append]
      rfl
    have h := parse_form [43] ([48, 48] ++ decDigits n) (F ++ M) false n (fun b hb => by
      rcases List.mem_append.1 hb with h | h
      · simp at h; subst h; rfl
      · exact dec_isD n b h) hFM (by simp) hz
    rw [frac_cutF F M h5] at h
    rw [parseS_eq]
    have e : [43] ++ (([48, 48] ++ decDigits n) ++ (46 :: (F ++ M))) = [43, 48, 48] ++ (decDigits n ++ (46 :: (F ++ M))) := by simp
    rw [e] at h
    have hs : sgn ([43, 48, 48] ++ (decDigits n ++ (46 :: (F ++ M)))) = (1, false) := by simp [sgn]
    rw [hs]
    refine h.trans ?_
    simp [signI]
  · have h := parse_form [45] (decDigits n) (F ++ M) true n (dec_isD n) hFM (dec_pos n) (dec_num n hn)
    rw [frac_cutF F M h5] at h
    rw [parseS_eq]
    have hs : sgn ([45] ++ (decDigits n ++ (46 :: (F ++ M)))) = (1, true) := by simp [sgn]
    rw [hs]
    refine h.trans ?_
    simp [signI]
end Go.Proofs.YtbmcmilbmkdabaaDoor

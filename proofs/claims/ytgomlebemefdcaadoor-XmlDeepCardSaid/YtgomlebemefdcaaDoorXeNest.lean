/- Names in one another as bytes: all signs. No condition. -/
import Derived.Test.YtgomlebemefdcaaDoorXeSigns
import Derived.Test.YtgomlebemefdcaaDoorXeDeepP
set_option linter.unusedVariables false
namespace Go.Proofs.YtgomlebemefdcaaDoor
open Go Go.RowKit Go.Wk Go.Xt Go.Xe
theorem next_ascii (x : UInt8) (r : List UInt8) (h1 : 32 ≤ x.toNat) (h2 : x.toNat < 128) : (Lib.decodeL (x :: r)).2 = 1 ∧ nextOk (x :: r) = true := by
  have e : Lib.decodeL (x :: r) = (x.toNat, 1) := by
    rw [Lib.decodeL_N]
    unfold Lib.decodeN
    simp [h2]
  unfold nextOk
  rw [e]
  refine ⟨rfl, ?_⟩
  simp [signV, signB, validB]
  omega
theorem signs_ascii : ∀ (l : List UInt8), (∀ x ∈ l, 32 ≤ x.toNat ∧ x.toNat < 128) → signsB l = true := by
  intro l
  induction l with
  | nil => intro _; unfold signsB; rw [partsS_nil]; rfl
  | cons x r ih =>
    intro h
    have hx := h x (by simp)
    obtain ⟨e1, e2⟩ := next_ascii x r hx.1 hx.2
    unfold signsB at ih ⊢
    rw [partsS_cons _ (by simp), e1]
    simp only [List.drop_succ_cons, List.drop_zero, List.all_cons, e2, Bool.true_and]
    exact ih fun y hy => h y (by simp [hy])
def openS (l : List UInt8) : List UInt8 := l.flatMap fun n => [60, n, 62]
def closeS (l : List UInt8) : List UInt8 := l.reverse.flatMap fun n => [60, 47, n, 62]
theorem openS_snoc (l : List UInt8) (n : UInt8) : openS (l ++ [n]) = openS l ++ [60, n, 62] := by simp [openS]
theorem closeS_snoc (l : List UInt8) (n : UInt8) : closeS (l ++ [n]) = [60, 47, n, 62] ++ closeS l := by simp [closeS]
theorem nestS_eq (l : List UInt8) : openS l ++ ([116] ++ closeS l) = nestS l := by
  induction l with
  | nil => rfl
  | cons n l ih =>
    have e1 : openS (n :: l) = [60, n, 62] ++ openS l := by simp [openS]
    have e2 : closeS (n :: l) = closeS l ++ [60, 47, n, 62] := by simp [closeS]
    rw [e1, e2]
    show _ = [60, n, 62] ++ nestS l ++ [60, 47, n, 62]
    rw [← ih]
    simp
theorem nest_len (l : List UInt8) : (nestS l).length = 7 * l.length + 1 := by
  induction l with
  | nil => rfl
  | cons n l ih => simp [nestS, ih]; omega
theorem nest_ascii : ∀ (l : List UInt8), (∀ n ∈ l, low n) → ∀ x ∈ nestS l, 32 ≤ x.toNat ∧ x.toNat < 128 := by
  intro l
  induction l with
  | nil => intro _ x hx; simp [nestS] at hx; subst hx; decide
  | cons n l ih =>
    intro h x hx
    have hn := h n (by simp)
    unfold low at hn
    simp only [nestS, List.mem_append, List.mem_cons, List.not_mem_nil, or_false] at hx
    rcases hx with ((rfl | rfl | rfl) | hx) | (rfl | rfl | rfl | rfl)
    · decide
    · omega
    · decide
    · exact ih (fun y hy => h y (by simp [hy])) x hx
    · decide
    · decide
    · omega
    · decide
/-- the letter of a number -/
def chU (x : UInt8) : UInt8 := UInt8.ofNat (97 + x.toNat % 26)
theorem chU_nat (x : UInt8) : (chU x).toNat = 97 + x.toNat % 26 := by unfold chU; exact UInt8.toNat_ofNat_of_lt' (by show _ < 256; omega)
theorem chU_low (x : UInt8) : low (chU x) := by unfold low; rw [chU_nat]; omega
theorem chs_low (l : List UInt8) : ∀ n ∈ l.map chU, low n := by
  intro n h; obtain ⟨x, _, rfl⟩ := List.mem_map.1 h; exact chU_low x
theorem misc_root (n : UInt8) (h : low n) (r : List UInt8) : Around (60 :: n :: r) (60 :: n :: r) := by
  have e : (60 :: n :: r).drop (ws (60 :: n :: r)) = 60 :: n :: r := by
    have : ws (60 :: n :: r) = 0 := by simp [ws, List.takeWhile_cons, whiteB]
    rw [this]; rfl
  have := Around.stop (60 :: n :: r) (by rw [e]; exact misc_low h r)
  rw [e] at this
  exact this
theorem misc_out : Around [] [] := .stop [] (.no _ (by simp) (by simp))
end Go.Proofs.YtgomlebemefdcaaDoor

/- Fixed: what the document's own Parse sees, in plain Lean. -/
import Derived.Test.YtbmcmilbmkdabaaDoorFxPlain
namespace Go.Proofs.YtbmcmilbmkdabaaDoor
open Go Go.RowKit Go.Wk
def isP (b : UInt8) : Bool := b == 46
theorem tw_split (R : List UInt8) : ∃ rest, R = R.takeWhile isD ++ rest ∧ ∀ b, rest[0]? = some b → isD b = false := by
  refine ⟨R.dropWhile isD, (List.takeWhile_append_dropWhile ..).symm, fun b h => ?_⟩
  refine tw_end isD R b ?_
  have e : R[(R.takeWhile isD).length]? = (R.takeWhile isD ++ R.dropWhile isD)[(R.takeWhile isD).length]? := by rw [List.takeWhile_append_dropWhile]
  rw [e, List.getElem?_append_right (by omega), Nat.sub_self]
  exact h
theorem tw_digits (R : List UInt8) : ∀ b ∈ R.takeWhile isD, isD b = true := fun b h => tw_mem isD R b h
theorem cnt_digits (D : List UInt8) (h : ∀ b ∈ D, isD b = true) : D.countP isP = 0 ∧ D.countP isD = D.length := by
  refine ⟨List.countP_eq_zero.2 fun b hb => ?_, List.countP_eq_length.2 h⟩
  have := h b hb
  intro e
  have e2 : b = 46 := by simpa [isP] using e
  subst e2
  exact absurd this (by decide)
theorem parts_ne (bs : List UInt8) (p : Nat) (hp : p ≤ bs.length) : ∃ D rest, bs.drop p = D ++ rest ∧ digs bs p = D ∧ (∀ b ∈ D, isD b = true) ∧ (∀ b, rest[0]? = some b → isD b = false) ∧ bs.length = p + (D.length + rest.length) ∧ (∀ k, bs[p + D.length + k]? = rest[k]?) ∧ (∀ k, digs bs (p + D.length + k) = (rest.drop k).takeWhile isD) := by
  obtain ⟨rest, h1, h2⟩ := tw_split (bs.drop p)
  refine ⟨digs bs p, rest, h1, rfl, tw_digits _, h2, ?_, fun k => ?_, fun k => ?_⟩
  · have := congrArg List.length h1
    rw [List.length_drop, List.length_append] at this
    unfold digs
    omega
  · have e : bs[p + (digs bs p).length + k]? = (bs.drop p)[(digs bs p).length + k]? := by rw [List.getElem?_drop]; congr 1; omega
    rw [e]
    have h1' : bs.drop p = digs bs p ++ rest := h1
    rw [h1', List.getElem?_append_right (by omega)]
    congr 1; omega
  · have e : bs.drop (p + (digs bs p).length + k) = (bs.drop p).drop ((digs bs p).length + k) := by rw [List.drop_drop]; congr 1; omega
    unfold digs
    unfold digs at e
    rw [e]
    have h1' : bs.drop p = digs bs p ++ rest := h1
    have : (bs.drop p).drop ((digs bs p).length + k) = rest.drop k := by
      rw [h1', List.drop_append]
      have : (digs bs p).drop ((digs bs p).length + k) = [] := List.drop_eq_nil_of_le (by omega)
      rw [this]
      simp
    unfold digs at this
    rw [this]
/-- a byte that is no digit and no point -/
theorem parse_bad (bs : List UInt8) (p : Nat) (neg : Bool) (hp : p ≤ bs.length) (b : UInt8) (hb : b ∈ bs.drop p) (h1 : isD b = false) (h2 : isP b = false) : parseP bs p neg = (0, false, 4) := by
  obtain ⟨D, rest, e, hd, hD, hr, hl, hat, hdr⟩ := parts_ne bs p hp
  unfold parseP
  rw [hd]
  have hbr : b ∈ rest := by
    rw [e] at hb
    rcases List.mem_append.1 hb with h | h
    · rw [hD b h] at h1; cases h1
    · exact h
  match rest, hbr with
  | c :: r, hbr =>
    have h0 := hat 0
    rw [Nat.add_zero] at h0
    rw [h0]
    by_cases hc : c = 46
    · subst hc
      have hbr2 : b ∈ r := by
        rcases List.mem_cons.1 hbr with h | h
        · subst h; exact absurd h2 (by decide)
        · exact h
      rw [show (46 :: r : List UInt8)[0]? = some 46 from rfl, if_pos rfl, if_pos]
      left
      rw [hdr 1, hl]
      show _ + ((r.takeWhile isD).length) < p + (D.length + (r.length + 1))
      have hne : (r.takeWhile isD).length ≠ r.length := by
        intro he
        have h3 : r.takeWhile isD = r := (List.takeWhile_prefix _).eq_of_length he
        rw [← h3] at hbr2
        rw [tw_digits _ _ hbr2] at h1; cases h1
      have := (List.takeWhile_sublist (p := isD) (l := r)).length_le
      omega
    · rw [show (c :: r : List UInt8)[0]? = some c from rfl, if_neg (by simpa using hc), if_pos]
      left
      rw [hl, List.length_cons]; omega
/-- all digits and points: what is wrong, or the parts -/
theorem parse_fit (bs : List UInt8) (p : Nat) (neg : Bool) (hp : p ≤ bs.length) (hall : ∀ b ∈ bs.drop p, isD b = true ∨ isP b = true) :
    (1 < (bs.drop p).countP isP ∨ (bs.drop p).countP isD = 0 → parseP bs p neg = (0, false, 4)) ∧
    (¬ (1 < (bs.drop p).countP isP ∨ (bs.drop p).countP isD = 0) →
      (p + (digs bs p).length < bs.length → bs[p + (digs bs p).length]? = some 46) ∧
      ((numD (digs bs p)).2 = false → parseP bs p neg = (0, false, 5)) ∧
      ((numD (digs bs p)).2 = true → (bs.drop p).countP isP = 0 → p + (digs bs p).length = bs.length ∧ parseP bs p neg = (signI neg * ((numD (digs bs p)).1 : Int), true, 0)) ∧
      ((numD (digs bs p)).2 = true → ¬ (bs.drop p).countP isP = 0 → p + (digs bs p).length < bs.length ∧ p + (digs bs p).length + 1 + (digs bs (p + (digs bs p).length + 1)).length = bs.length ∧
        parseP bs p neg = (signI neg * (((numD (digs bs p)).1 : Int) * 100000 + (fracD (digs bs (p + (digs bs p).length + 1)) : Int)), false, 0))) := by
  obtain ⟨D, rest, e, hd, hD, hr, hl, hat, hdr⟩ := parts_ne bs p hp
  have hcD := cnt_digits D hD
  rw [e, List.countP_append, List.countP_append, hcD.1, hcD.2, hd]
  unfold parseP
  rw [hd]
  have h0 := hat 0
  rw [Nat.add_zero] at h0
  rw [h0, hdr 1, hl]
  rw [e] at hall
  match rest, hr with
  | [], _ =>
    simp
    refine ⟨fun h h2 => absurd h h2, fun h => ⟨fun h2 => ?_, fun h2 => ?_⟩⟩
    · rw [if_neg h, h2]; simp
    · rw [if_neg h, h2]; simp
  | c :: r, hr =>
    have hc : c = 46 := by
      have h3 := hall c (by simp)
      rw [hr c rfl] at h3
      simpa [isP] using h3
    subst hc
    have h5 : (46 :: r).countP isP = r.countP isP + 1 := by rw [List.countP_cons]; rfl
    have h6 : (46 :: r).countP isD = r.countP isD := by rw [List.countP_cons]; rfl
    rw [h5, h6, show (46 :: r : List UInt8)[0]? = some 46 from rfl, List.length_cons, show (46 :: r : List UInt8).drop 1 = r from rfl]
    have hle := (List.takeWhile_sublist (p := isD) (l := r)).length_le
    by_cases hpt : r.countP isP = 0
    · have hrd : ∀ b ∈ r, isD b = true := by
        intro b hb
        rcases hall b (by simp [hb]) with h | h
        · exact h
        · exact absurd h (List.countP_eq_zero.1 hpt b hb)
      have hrt : r.takeWhile isD = r := by have := tw_all r [] hrd (fun b h => by simp at h); rwa [List.append_nil] at this
      have hcr := (cnt_digits r hrd).2
      rw [hrt, hcr, hpt]
      refine ⟨fun h => by rw [if_pos rfl, if_pos (by omega)], fun h => ⟨fun _ => rfl, fun h2 => ?_, fun _ h2 => by omega, fun h2 _ => ⟨by omega, by omega, ?_⟩⟩⟩
      · rw [if_pos rfl, if_neg (by omega), h2, if_neg (by simp)]
      · rw [if_pos rfl, if_neg (by omega), h2, if_pos rfl]
    · have hlt : (r.takeWhile isD).length < r.length := by
        refine Nat.lt_of_le_of_ne hle fun he => hpt ?_
        have h3 : r.takeWhile isD = r := (List.takeWhile_prefix _).eq_of_length he
        exact (cnt_digits r (by rw [← h3]; exact tw_digits _)).1
      refine ⟨fun _ => by rw [if_pos rfl, if_pos (by omega)], fun h => absurd (by omega) h⟩
/-- once too great, too great for good -/
theorem num_false : ∀ (l : List UInt8) (s : Nat × Bool), s.2 = false → (l.foldl stepD s).2 = false := by
  intro l
  induction l with
  | nil => intro s h; exact h
  | cons b l ih =>
    intro s h
    refine ih _ ?_
    unfold stepD
    split
    · rfl
    · exact h
theorem num_stop (l : List UInt8) (k : Nat) (h : k < l.length) (ht : (numD (l.take k)).1 * 10 + (l[k].toNat - 48) > 2147483647) : (numD l).2 = false := by
  have e : l = l.take (k + 1) ++ l.drop (k + 1) := (List.take_append_drop _ _).symm
  have h1 : (numD (l.take (k + 1))).2 = false := by rw [numD_take l k h]; unfold stepD; rw [if_pos ht]
  unfold numD at h1 ⊢
  rw [e, List.foldl_append]
  exact num_false _ _ h1
theorem num_go (l : List UInt8) (k : Nat) (h : k < l.length) (hf : (numD (l.take k)).2 = true) (ht : ¬ (numD (l.take k)).1 * 10 + (l[k].toNat - 48) > 2147483647) : numD (l.take (k + 1)) = ((numD (l.take k)).1 * 10 + (l[k].toNat - 48), true) := by
  rw [numD_take l k h]; unfold stepD; rw [if_neg ht, hf]
/-- digits behind the point, one by one -/
theorem frac_go (l : List UInt8) (k : Nat) : (∀ h : k < l.length, valD (l.take (k + 1)) * 10 ^ (k + 1 - l.length) = 10 * (valD (l.take k) * 10 ^ (k - l.length)) + (l[k].toNat - 48)) ∧ (¬ k < l.length → valD (l.take (k + 1)) * 10 ^ (k + 1 - l.length) = 10 * (valD (l.take k) * 10 ^ (k - l.length))) := by
  constructor
  · intro h
    rw [List.take_succ_eq_append_getElem h, valD_snoc, show k + 1 - l.length = 0 by omega, show k - l.length = 0 by omega]
    omega
  · intro h
    rw [List.take_of_length_le (by omega), List.take_of_length_le (by omega), show k + 1 - l.length = (k - l.length) + 1 by omega, Nat.pow_succ]
    rw [← Nat.mul_assoc, Nat.mul_comm 10]
theorem frac_bd (l : List UInt8) (h : ∀ b ∈ l, isD b = true) (k : Nat) : valD (l.take k) * 10 ^ (k - l.length) < 10 ^ k := by
  have h1 := valD_lt (l.take k) fun b hb => h b (List.mem_of_mem_take hb)
  rw [List.length_take] at h1
  have h2 : valD (l.take k) * 10 ^ (k - l.length) < 10 ^ (min k l.length) * 10 ^ (k - l.length) := Nat.mul_lt_mul_of_pos_right h1 (Nat.pow_pos (by omega))
  rw [← Nat.pow_add, show min k l.length + (k - l.length) = k by omega] at h2
  exact h2
end Go.Proofs.YtbmcmilbmkdabaaDoor

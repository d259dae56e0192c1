/- Fixed: plain: a text is read as it was. No condition. -/
import Derived.Test.YtbmcmilbmkdabaaDoorFxParse
namespace Go.Proofs.YtbmcmilbmkdabaaDoor
open Go Go.RowKit Go.Wk Go.Lib
theorem tw_all (ds post : List UInt8) (h : ∀ b ∈ ds, isD b = true) (hp : ∀ b, post[0]? = some b → isD b = false) : (ds ++ post).takeWhile isD = ds := by
  induction ds with
  | nil =>
    cases post with
    | nil => rfl
    | cons x xs => simp [List.takeWhile_cons, hp x rfl]
  | cons x xs ih =>
    rw [List.cons_append, List.takeWhile_cons, if_pos (h x (List.mem_cons_self ..)), ih fun b hb => h b (List.mem_cons_of_mem _ hb)]
theorem digs_at (pre ds post : List UInt8) (p : Nat) (hp : pre.length = p) (h : ∀ b ∈ ds, isD b = true) (hq : ∀ b, post[0]? = some b → isD b = false) : digs (pre ++ (ds ++ post)) p = ds := by
  unfold digs
  rw [List.drop_left' hp]
  exact tw_all ds post h hq
theorem dig_isD (d : Nat) (h : d < 10) : isD (UInt8.ofNat (48 + d)) = true ∧ (UInt8.ofNat (48 + d)).toNat - 48 = d := by
  have : (UInt8.ofNat (48 + d)).toNat = 48 + d := UInt8.toNat_ofNat_of_lt' (by show 48 + d < 256; omega)
  unfold isD
  rw [this]
  simp
  omega
theorem dec_isD (u : Nat) : ∀ b ∈ decDigits u, isD b = true := by
  induction u using Nat.strongRecOn with
  | _ u ih =>
    intro b hb
    rw [decDigits] at hb
    split at hb
    · rename_i h
      rw [List.mem_singleton] at hb; subst hb
      exact (dig_isD u h).1
    · rename_i h
      rcases List.mem_append.1 hb with hb | hb
      · exact ih (u / 10) (by omega) b hb
      · rw [List.mem_singleton] at hb; subst hb
        exact (dig_isD (u % 10) (by omega)).1
theorem dec_val (u : Nat) : valD (decDigits u) = u := by
  induction u using Nat.strongRecOn with
  | _ u ih =>
    rw [decDigits]
    split
    · rename_i h
      show 0 * 10 + _ = _
      rw [(dig_isD u h).2]; omega
    · rename_i h
      rw [valD_snoc, ih (u / 10) (by omega), (dig_isD (u % 10) (by omega)).2]; omega
theorem dec_num (u : Nat) (h : u ≤ 2147483647) : numD (decDigits u) = (u, true) := by
  induction u using Nat.strongRecOn with
  | _ u ih =>
    rw [decDigits]
    split
    · rename_i h10
      show stepD (0, true) _ = _
      unfold stepD
      rw [(dig_isD u h10).2, if_neg (by simp only; omega)]; simp
    · rename_i h10
      have e := ih (u / 10) (by omega) (by omega)
      unfold numD at e ⊢
      rw [List.foldl_append, e]
      show stepD (u / 10, true) _ = _
      unfold stepD
      rw [(dig_isD (u % 10) (by omega)).2, if_neg (by simp only; omega)]
      congr 1; simp only; omega
theorem dec_pos (u : Nat) : 0 < (decDigits u).length := by
  rw [decDigits]; split <;> simp
theorem tw_mem (f : UInt8 → Bool) : ∀ (l : List UInt8) (b : UInt8), b ∈ l.takeWhile f → f b = true := by
  intro l
  induction l with
  | nil => intro b h; simp at h
  | cons x xs ih =>
    intro b h
    by_cases hx : f x = true
    · rw [List.takeWhile_cons, if_pos hx] at h
      rcases List.mem_cons.1 h with rfl | h
      · exact hx
      · exact ih b h
    · simp [List.takeWhile_cons, hx] at h
theorem fold_val : ∀ (l : List UInt8) (s : Nat), l.foldl (fun s b => s * 10 + (b.toNat - 48)) s = s * 10 ^ l.length + valD l := by
  intro l
  induction l with
  | nil => intro s; simp [valD]
  | cons x xs ih =>
    intro s
    have e : valD (x :: xs) = (0 * 10 + (x.toNat - 48)) * 10 ^ xs.length + valD xs := by unfold valD; rw [List.foldl_cons, ih]; rfl
    rw [List.foldl_cons, ih, e, List.length_cons, Nat.pow_succ, Nat.add_mul, Nat.mul_assoc, Nat.mul_comm 10]
    simp
    omega
theorem trim_zeros (l : List UInt8) : ∃ z : List UInt8, l = trimRightB l 48 ++ z ∧ ∀ b ∈ z, b = 48 := by
  refine ⟨(l.reverse.takeWhile (· == 48)).reverse, ?_, fun b hb => ?_⟩
  · unfold trimRightB
    rw [← List.reverse_append, List.takeWhile_append_dropWhile, List.reverse_reverse]
  · rw [List.mem_reverse] at hb
    have := tw_mem (· == 48) _ b hb
    simpa using this
theorem valD_zeros (a z : List UInt8) (h : ∀ b ∈ z, b = 48) : valD (a ++ z) = valD a * 10 ^ z.length := by
  induction z generalizing a with
  | nil => simp
  | cons x xs ih =>
    have hx := h x (List.mem_cons_self ..)
    subst hx
    rw [show a ++ 48 :: xs = (a ++ [48]) ++ xs by simp, ih _ fun b hb => h b (List.mem_cons_of_mem _ hb), valD_snoc, List.length_cons, Nat.pow_succ]
    simp [Nat.mul_assoc, Nat.mul_comm, Nat.mul_left_comm]
theorem frac_parts (r : Nat) (h : r < 100000) : ∃ z : List UInt8, (decDigits (100000 + r)).drop 1 = fracL r ++ z ∧ (∀ b ∈ z, b = 48) ∧ 1 ≤ (fracL r).length ∧ (fracL r).length + z.length = 5 := by
  have h6 := six r h
  generalize hp : (decDigits (100000 + r)).drop 1 = p
  have hl : p.length = 5 := by rw [← hp, List.length_drop, h6]
  obtain ⟨z, hz, hz2⟩ := trim_zeros (p.drop 1)
  have hf : fracL r = p.take 1 ++ trimRightB (p.drop 1) 48 := by unfold fracL; rw [hp]
  have e : p = fracL r ++ z := by
    rw [hf, List.append_assoc, ← hz, List.take_append_drop]
  refine ⟨z, e, hz2, ?_, ?_⟩
  · rw [hf, List.length_append, List.length_take]; omega
  · rw [← List.length_append, ← e, hl]
theorem frac_isD (r : Nat) (h : r < 100000) : ∀ b ∈ fracL r, isD b = true := by
  obtain ⟨z, e, _⟩ := frac_parts r h
  intro b hb
  exact dec_isD (100000 + r) b (List.mem_of_mem_drop (i := 1) (by rw [e]; exact List.mem_append_left _ hb))
theorem frac_val (r : Nat) (h : r < 100000) : fracD (fracL r) = r := by
  obtain ⟨z, e, hz, h1, h5⟩ := frac_parts r h
  have h6 := six r h
  have hv := dec_val (100000 + r)
  have hall := dec_isD (100000 + r)
  generalize decDigits (100000 + r) = P at *
  match P, h6 with
  | x :: p, h6 =>
    have e' : p = fracL r ++ z := e
    have hpl : p.length = 5 := by simpa using h6
    have hv2 : (x.toNat - 48) * 10 ^ 5 + valD p = 100000 + r := by
      rw [← hv, ← hpl]
      show _ = (x :: p).foldl (fun s b => s * 10 + (b.toNat - 48)) 0
      rw [List.foldl_cons, fold_val, Nat.zero_mul, Nat.zero_add]
    have hlt := valD_lt p fun b hb => hall b (List.mem_cons_of_mem _ hb)
    rw [hpl] at hlt
    have hvp : valD p = r := by
      have h5' : (10 : Nat) ^ 5 = 100000 := by decide
      rw [h5'] at hv2 hlt
      omega
    unfold fracD
    have hpz : valD p = valD (fracL r) * 10 ^ z.length := by
      rw [← valD_zeros _ _ hz, ← e']
    rw [List.take_of_length_le (by omega), show 5 - (fracL r).length = z.length by omega, ← hpz, hvp]
theorem frac_five (r : Nat) (h : r < 100000) : (fracL r).length ≤ 5 := by
  obtain ⟨z, _, _, _, h5⟩ := frac_parts r h
  omega
theorem point_notD : isD 46 = false := by decide
/-- a number that may be, as a text, is read as it was -/
theorem parse_text (n : Int) (whole : Bool) (hn : isIn n = true) (hw : whole = true → -2147483647 ≤ n ∧ n ≤ 2147483647) : parseS (textL n whole) = (n, whole, 0) := by
  have hm := (isIn_iff n).1 hn
  obtain ⟨S, hS⟩ : ∃ S, S = (if n < 0 then [45] else [] : List UInt8) := ⟨_, rfl⟩
  have hsl : S.length = if n < 0 then 1 else 0 := by rw [hS]; split <;> rfl
  have hsg : ∀ (d : List UInt8) (rest : List UInt8), 0 < d.length → (∀ b ∈ d, isD b = true) → sgn (S ++ (d ++ rest)) = (S.length, decide (n < 0)) := by
    intro d rest hd hda
    unfold sgn
    rw [hS]
    by_cases h : n < 0
    · simp [h]
    · match d, hd with
      | x :: d, _ =>
        have hx := hda x (List.mem_cons_self ..)
        have h1 : x ≠ 43 := fun e => by subst e; exact absurd hx (by decide)
        have h2 : x ≠ 45 := fun e => by subst e; exact absurd hx (by decide)
        simp [h, h1, h2]
  have hsi : ∀ m : Int, m = n.natAbs → signI (decide (n < 0)) * m = n := by
    intro m e
    by_cases h : n < 0
    · simp [signI, h]; omega
    · simp [signI, h]; omega
  cases whole with
  | true =>
    obtain ⟨h1, h2⟩ := hw rfl
    have ht : textL n true = S ++ (decDigits n.natAbs ++ []) := by
      show itoa n = _
      unfold itoa
      rw [hS]
      split
      · simp
      · rw [show n.toNat = n.natAbs by omega]; simp
    rw [ht, parseS_eq, hsg _ _ (dec_pos _) (dec_isD _)]
    unfold parseP
    have hd := digs_at S (decDigits n.natAbs) [] S.length rfl (dec_isD _) (fun b h => by simp at h)
    rw [hd]
    have hl : (S ++ (decDigits n.natAbs ++ [])).length = S.length + (decDigits n.natAbs).length := by simp
    have hnone : (S ++ (decDigits n.natAbs ++ []))[S.length + (decDigits n.natAbs).length]? = none := List.getElem?_eq_none (by omega)
    rw [hnone, if_neg (by simp), if_neg (by have := dec_pos n.natAbs; omega), dec_num _ (by omega), if_pos rfl]
    rw [hsi _ rfl]
  | false =>
    have hr : n.natAbs % 100000 < 100000 := Nat.mod_lt _ (by omega)
    have ht : textL n false = S ++ (decDigits (n.natAbs / 100000) ++ (46 :: fracL (n.natAbs % 100000))) := by
      rw [hS]; rfl
    rw [ht, parseS_eq, hsg _ _ (dec_pos _) (dec_isD _)]
    unfold parseP
    have hd := digs_at S (decDigits (n.natAbs / 100000)) (46 :: fracL (n.natAbs % 100000)) S.length rfl (dec_isD _) (fun b h => by simp at h; subst h; exact point_notD)
    rw [hd]
    have hF := frac_isD _ hr
    have hv := frac_val _ hr
    generalize fracL (n.natAbs % 100000) = F at *
    have hdot : (S ++ (decDigits (n.natAbs / 100000) ++ (46 :: F)))[S.length + (decDigits (n.natAbs / 100000)).length]? = some 46 := by
      rw [← List.append_assoc, List.getElem?_append_right (by simp)]
      simp
    have hd2 := digs_at (S ++ (decDigits (n.natAbs / 100000) ++ [46])) F [] (S.length + (decDigits (n.natAbs / 100000)).length + 1) (by simp; omega) hF (fun b h => by simp at h)
    have he : (S ++ (decDigits (n.natAbs / 100000) ++ [46])) ++ (F ++ []) = S ++ (decDigits (n.natAbs / 100000) ++ (46 :: F)) := by simp
    rw [he] at hd2
    have hl : (S ++ (decDigits (n.natAbs / 100000) ++ (46 :: F))).length = S.length + (decDigits (n.natAbs / 100000)).length + 1 + F.length := by simp; omega
    rw [hdot, if_pos rfl]
    simp only []
    rw [hd2, hl, if_neg (by have := dec_pos (n.natAbs / 100000); omega), dec_num _ (by omega), if_pos rfl, hv, hsi _ (by omega)]
end Go.Proofs.YtbmcmilbmkdabaaDoor

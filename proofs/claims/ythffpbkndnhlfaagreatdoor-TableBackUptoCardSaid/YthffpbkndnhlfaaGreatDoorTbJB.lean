/- Walks and laws, joined: part B. No condition. -/
import Derived.Test.YthffpbkndnhlfaaGreatDoorTbJA
import Derived.Lib.ItoaLen
import Derived.Shelf.Bytes.SlClone
import Derived.Test.YthffpbkndnhlfaaGreatDoorProg
import Derived.Deep.RegionHeld3
import Derived.Deep.DrawnRows
import Derived.Maps.AppendAt
import Derived.Laws.AppendOwnNone
import Derived.BigRegion
import Derived.RegionTactic
import Derived.Deep.DeepCutAuto
import Derived.Deep.Cut
set_option linter.unusedSimpArgs false
set_option linter.unusedVariables false
set_option maxRecDepth 100000
set_option maxHeartbeats 32000000
namespace Go.Fx
open Go Go.RowKit Go.Wk Go.Lib
def isIn (n : Int) : Bool := decide (-214748364799999 ≤ n) && decide (n ≤ 214748364799999)
theorem isIn_iff (n : Int) : isIn n = true ↔ n.natAbs ≤ 214748364799999 := by
 simp [isIn]; omega
theorem six (r : Nat) (h : r < 100000) : (decDigits (100000 + r)).length = 6 := by
 rw [decDigits_length]
 exact nDigits_unique 5 _ (by omega) (by omega)
def peekS (bs : List UInt8) (p : Nat) : Int := match bs[p]? with | some b => (b.toNat : Int) | none => -1
theorem peekS_in {bs : List UInt8} {p : Nat} (h : p < bs.length) : 0 ≤ peekS bs p ∧ peekS bs p ≤ 255 ∧ peekS bs p = (bs[p].toNat : Int) := by
 have e : peekS bs p = (bs[p].toNat : Int) := by unfold peekS; rw [List.getElem?_eq_getElem h]
 have := u8_lt bs[p]
 rw [e]; omega
theorem peekS_out {bs : List UInt8} {p : Nat} (h : ¬ p < bs.length) : peekS bs p = -1 := by unfold peekS; rw [List.getElem?_eq_none (by omega)]
def isD (b : UInt8) : Bool := decide (48 ≤ b.toNat) && decide (b.toNat ≤ 57)
def digs (bs : List UInt8) (p : Nat) : List UInt8 := (bs.drop p).takeWhile isD
theorem tw_lt (f : UInt8 → Bool) : ∀ (l : List UInt8) (k : Nat) (h : k < (l.takeWhile f).length), l[k]? = some (l.takeWhile f)[k] ∧ f (l.takeWhile f)[k] = true := by
 intro l
 induction l with
 | nil => intro k h; simp at h
 | cons x xs ih =>
  intro k h
  by_cases hx : f x = true
  ·cases k with
   | zero => simp [List.takeWhile_cons, hx]
   | succ k =>
    have h2 : k < (xs.takeWhile f).length := by simpa [List.takeWhile_cons, hx] using h
    have := ih k h2
    simpa [List.takeWhile_cons, hx] using this
  ·simp [List.takeWhile_cons, hx] at h
theorem tw_end (f : UInt8 → Bool) : ∀ (l : List UInt8) (b : UInt8), l[(l.takeWhile f).length]? = some b → f b = false := by
 intro l
 induction l with
 | nil => intro b h; simp at h
 | cons x xs ih =>
  intro b h
  by_cases hx : f x = true
  ·exact ih b (by simpa [List.takeWhile_cons, hx] using h)
  ·simp [List.takeWhile_cons, hx] at h
   subst h; simpa using hx
theorem digs_in {bs : List UInt8} {p k : Nat} (h : k < (digs bs p).length) : bs[p + k]? = some (digs bs p)[k] ∧ isD (digs bs p)[k] = true := by
 have := tw_lt isD (bs.drop p) k h
 rw [List.getElem?_drop] at this
 exact this
theorem digs_out {bs : List UInt8} {p : Nat} (b : UInt8) (h : bs[p + (digs bs p).length]? = some b) : isD b = false := by
 refine tw_end isD (bs.drop p) b ?_
 rw [List.getElem?_drop]; exact h
theorem peek_in {bs : List UInt8} {p k : Nat} (h : k < (digs bs p).length) : peekS bs (p + k) = ((digs bs p)[k].toNat : Int) ∧ 48 ≤ peekS bs (p + k) ∧ peekS bs (p + k) ≤ 57 ∧ p + k < bs.length := by
 obtain ⟨h1, h2⟩ := digs_in h
 have e : peekS bs (p + k) = ((digs bs p)[k].toNat : Int) := by unfold peekS; rw [h1]
 have hl := (List.getElem?_eq_some_iff.1 h1).1
 simp [isD] at h2
 rw [e]; omega
theorem peek_out (bs : List UInt8) (p : Nat) : peekS bs (p + (digs bs p).length) < 48 ∨ 57 < peekS bs (p + (digs bs p).length) := by
 unfold peekS
 cases h : bs[p + (digs bs p).length]? with
 | none => left; simp
 | some b =>
  have := digs_out b h
  simp [isD] at this
  simp
  omega
def stepD (s : Nat × Bool) (b : UInt8) : Nat × Bool := if s.1 * 10 + (b.toNat - 48) > 2147483647 then (2147483647, false) else (s.1 * 10 + (b.toNat - 48), s.2)
def numD (l : List UInt8) : Nat × Bool := l.foldl stepD (0, true)
theorem numD_take (l : List UInt8) (k : Nat) (h : k < l.length) : numD (l.take (k + 1)) = stepD (numD (l.take k)) l[k] := by
 unfold numD; rw [List.take_succ_eq_append_getElem h, List.foldl_append]; rfl
theorem numD_le : ∀ (l : List UInt8) (s : Nat × Bool), s.1 ≤ 2147483647 → (l.foldl stepD s).1 ≤ 2147483647 := by
 intro l
 induction l with
 | nil => intro s h; exact h
 | cons b l ih =>
  intro s h
  refine ih _ ?_
  unfold stepD; split <;> simp <;> omega
def valD (l : List UInt8) : Nat := l.foldl (fun s b => s * 10 + (b.toNat - 48)) 0
theorem valD_snoc (l : List UInt8) (b : UInt8) : valD (l ++ [b]) = valD l * 10 + (b.toNat - 48) := by unfold valD; rw [List.foldl_append]; rfl
theorem valD_aux : ∀ (l : List UInt8) (s : Nat), (∀ b ∈ l, isD b = true) → l.foldl (fun s b => s * 10 + (b.toNat - 48)) s + 1 ≤ (s + 1) * 10 ^ l.length := by
 intro l
 induction l with
 | nil => intro s _; simp
 | cons b l ih =>
  intro s h
  have h1 := ih (s * 10 + (b.toNat - 48)) fun x hx => h x (List.mem_cons_of_mem _ hx)
  have h2 := h b (List.mem_cons_self ..)
  simp [isD] at h2
  rw [List.foldl_cons, List.length_cons, Nat.pow_succ, Nat.mul_comm (10 ^ l.length) 10, ← Nat.mul_assoc]
  refine Nat.le_trans h1 (Nat.mul_le_mul_right _ ?_)
  omega
theorem valD_lt (l : List UInt8) (h : ∀ b ∈ l, isD b = true) : valD l < 10 ^ l.length := by
 have := valD_aux l 0 h
 unfold valD
 omega
theorem val_step (l : List UInt8) (k : Nat) (h : k < l.length) : (k < 5 → valD ((l.take (k + 1)).take 5) = valD ((l.take k).take 5) * 10 + (l[k].toNat - 48)) ∧ (5 ≤ k → valD ((l.take (k + 1)).take 5) = valD ((l.take k).take 5)) := by
 constructor
 ·intro h5
  rw [List.take_take, List.take_take, show min 5 (k + 1) = k + 1 by omega, show min 5 k = k by omega, List.take_succ_eq_append_getElem h, valD_snoc]
 ·intro h5
  rw [List.take_take, List.take_take]
  congr 2; omega
def fracD (l : List UInt8) : Nat := valD (l.take 5) * 10 ^ (5 - l.length)
theorem digs_all {bs : List UInt8} {p : Nat} : ∀ b ∈ digs bs p, isD b = true := by
 intro b hb
 obtain ⟨k, hk, rfl⟩ := List.getElem_of_mem hb
 exact (digs_in hk).2
def sgn (bs : List UInt8) : Nat × Bool := if bs[0]? = some 43 then (1, false) else if bs[0]? = some 45 then (1, true) else (0, false)
def signI (b : Bool) : Int := if b then -1 else 1
def parseS (bs : List UInt8) : Int × Bool × Int :=
 if bs[(sgn bs).1 + (digs bs (sgn bs).1).length]? = some 46 then
  if (sgn bs).1 + (digs bs (sgn bs).1).length + 1 + (digs bs ((sgn bs).1 + (digs bs (sgn bs).1).length + 1)).length < bs.length ∨ (digs bs (sgn bs).1).length + (digs bs ((sgn bs).1 + (digs bs (sgn bs).1).length + 1)).length = 0 then (0, false, 4)
  else if (numD (digs bs (sgn bs).1)).2 then (signI (sgn bs).2 * (((numD (digs bs (sgn bs).1)).1 : Int) * 100000 + (fracD (digs bs ((sgn bs).1 + (digs bs (sgn bs).1).length + 1)) : Int)), false, 0) else (0, false, 5)
 else
  if (sgn bs).1 + (digs bs (sgn bs).1).length < bs.length ∨ (digs bs (sgn bs).1).length = 0 then (0, false, 4)
  else if (numD (digs bs (sgn bs).1)).2 then (signI (sgn bs).2 * ((numD (digs bs (sgn bs).1)).1 : Int), true, 0) else (0, false, 5)
def parseP (bs : List UInt8) (p : Nat) (neg : Bool) : Int × Bool × Int :=
 if bs[p + (digs bs p).length]? = some 46 then
  if p + (digs bs p).length + 1 + (digs bs (p + (digs bs p).length + 1)).length < bs.length ∨ (digs bs p).length + (digs bs (p + (digs bs p).length + 1)).length = 0 then (0, false, 4)
  else if (numD (digs bs p)).2 then (signI neg * (((numD (digs bs p)).1 : Int) * 100000 + (fracD (digs bs (p + (digs bs p).length + 1)) : Int)), false, 0) else (0, false, 5)
 else
  if p + (digs bs p).length < bs.length ∨ (digs bs p).length = 0 then (0, false, 4)
  else if (numD (digs bs p)).2 then (signI neg * ((numD (digs bs p)).1 : Int), true, 0) else (0, false, 5)
theorem parseS_eq (bs : List UInt8) : parseS bs = parseP bs (sgn bs).1 (sgn bs).2 := rfl
theorem fracD_le (bs : List UInt8) (p : Nat) : fracD (digs bs p) ≤ 99999 := by
 have h1 := valD_lt ((digs bs p).take 5) fun b hb => digs_all b (List.mem_of_mem_take hb)
 unfold fracD
 rw [List.length_take] at h1
 have h2 : valD ((digs bs p).take 5) * 10 ^ (5 - (digs bs p).length) < 10 ^ (min 5 (digs bs p).length) * 10 ^ (5 - (digs bs p).length) := Nat.mul_lt_mul_of_pos_right h1 (Nat.pow_pos (by omega))
 rw [← Nat.pow_add] at h2
 have h3 : 10 ^ (min 5 (digs bs p).length + (5 - (digs bs p).length)) = 10 ^ 5 := by congr 1; omega
 omega
theorem digs_le (bs : List UInt8) (p : Nat) : (digs bs p).length ≤ bs.length := by
 have : (digs bs p).length ≤ (bs.drop p).length := (List.takeWhile_sublist _).length_le
 rw [List.length_drop] at this; omega
theorem tw_all (ds post : List UInt8) (h : ∀ b ∈ ds, isD b = true) (hp : ∀ b, post[0]? = some b → isD b = false) : (ds ++ post).takeWhile isD = ds := by
 induction ds with
 | nil =>
  cases post with
  | nil => rfl
  | cons x xs => simp [List.takeWhile_cons, hp x rfl]
 | cons x xs ih =>
  rw [List.cons_append, List.takeWhile_cons, if_pos (h x (List.mem_cons_self ..)), ih fun b hb => h b (List.mem_cons_of_mem _ hb)]
theorem digs_at (pre ds post : List UInt8) (p : Nat) (hp : pre.length = p) (h : ∀ b ∈ ds, isD b = true) (hq : ∀ b, post[0]? = some b → isD b = false) : digs (pre ++ (ds ++ post)) p = ds := by
 unfold digs
 rw [List.drop_left' hp]
 exact tw_all ds post h hq
theorem dig_isD (d : Nat) (h : d < 10) : isD (UInt8.ofNat (48 + d)) = true ∧ (UInt8.ofNat (48 + d)).toNat - 48 = d := by
 have : (UInt8.ofNat (48 + d)).toNat = 48 + d := UInt8.toNat_ofNat_of_lt' (by show 48 + d < 256; omega)
 unfold isD
 rw [this]
 simp
 omega
theorem dec_isD (u : Nat) : ∀ b ∈ decDigits u, isD b = true := by
 induction u using Nat.strongRecOn with
 | _ u ih =>
  intro b hb
  rw [decDigits] at hb
  split at hb
  ·rename_i h
   rw [List.mem_singleton] at hb; subst hb
   exact (dig_isD u h).1
  ·rename_i h
   rcases List.mem_append.1 hb with hb | hb
   ·exact ih (u / 10) (by omega) b hb
   ·rw [List.mem_singleton] at hb; subst hb
    exact (dig_isD (u % 10) (by omega)).1
theorem dec_val (u : Nat) : valD (decDigits u) = u := by
 induction u using Nat.strongRecOn with
 | _ u ih =>
  rw [decDigits]
  split
  ·rename_i h
   show 0 * 10 + _ = _
   rw [(dig_isD u h).2]; omega
  ·rename_i h
   rw [valD_snoc, ih (u / 10) (by omega), (dig_isD (u % 10) (by omega)).2]; omega
theorem dec_num (u : Nat) (h : u ≤ 2147483647) : numD (decDigits u) = (u, true) := by
 induction u using Nat.strongRecOn with
 | _ u ih =>
  rw [decDigits]
  split
  ·rename_i h10
   show stepD (0, true) _ = _
   unfold stepD
   rw [(dig_isD u h10).2, if_neg (by simp only; omega)]; simp
  ·rename_i h10
   have e := ih (u / 10) (by omega) (by omega)
   unfold numD at e ⊢
   rw [List.foldl_append, e]
   show stepD (u / 10, true) _ = _
   unfold stepD
   rw [(dig_isD (u % 10) (by omega)).2, if_neg (by simp only; omega)]
   congr 1; simp only; omega
theorem dec_pos (u : Nat) : 0 < (decDigits u).length := by
 rw [decDigits]; split <;> simp
theorem tw_mem (f : UInt8 → Bool) : ∀ (l : List UInt8) (b : UInt8), b ∈ l.takeWhile f → f b = true := by
 intro l
 induction l with
 | nil => intro b h; simp at h
 | cons x xs ih =>
  intro b h
  by_cases hx : f x = true
  ·rw [List.takeWhile_cons, if_pos hx] at h
   rcases List.mem_cons.1 h with rfl | h
   ·exact hx
   ·exact ih b h
  ·simp [List.takeWhile_cons, hx] at h
theorem fold_val : ∀ (l : List UInt8) (s : Nat), l.foldl (fun s b => s * 10 + (b.toNat - 48)) s = s * 10 ^ l.length + valD l := by
 intro l
 induction l with
 | nil => intro s; simp [valD]
 | cons x xs ih =>
  intro s
  have e : valD (x :: xs) = (0 * 10 + (x.toNat - 48)) * 10 ^ xs.length + valD xs := by unfold valD; rw [List.foldl_cons, ih]; rfl
  rw [List.foldl_cons, ih, e, List.length_cons, Nat.pow_succ, Nat.add_mul, Nat.mul_assoc, Nat.mul_comm 10]
  simp
  omega
theorem trim_zeros (l : List UInt8) : ∃ z : List UInt8, l = trimRightB l 48 ++ z ∧ ∀ b ∈ z, b = 48 := by
 refine ⟨(l.reverse.takeWhile (· == 48)).reverse, ?_, fun b hb => ?_⟩
 ·unfold trimRightB
  rw [← List.reverse_append, List.takeWhile_append_dropWhile, List.reverse_reverse]
 ·rw [List.mem_reverse] at hb
  have := tw_mem (· == 48) _ b hb
  simpa using this
theorem valD_zeros (a z : List UInt8) (h : ∀ b ∈ z, b = 48) : valD (a ++ z) = valD a * 10 ^ z.length := by
 induction z generalizing a with
 | nil => simp
 | cons x xs ih =>
  have hx := h x (List.mem_cons_self ..)
  subst hx
  rw [show a ++ 48 :: xs = (a ++ [48]) ++ xs by simp, ih _ fun b hb => h b (List.mem_cons_of_mem _ hb), valD_snoc, List.length_cons, Nat.pow_succ]
  simp [Nat.mul_assoc, Nat.mul_comm, Nat.mul_left_comm]
theorem frac_parts (r : Nat) (h : r < 100000) : ∃ z : List UInt8, (decDigits (100000 + r)).drop 1 = fracL r ++ z ∧ (∀ b ∈ z, b = 48) ∧ 1 ≤ (fracL r).length ∧ (fracL r).length + z.length = 5 := by
 have h6 := six r h
 generalize hp : (decDigits (100000 + r)).drop 1 = p
 have hl : p.length = 5 := by rw [← hp, List.length_drop, h6]
 obtain ⟨z, hz, hz2⟩ := trim_zeros (p.drop 1)
 have hf : fracL r = p.take 1 ++ trimRightB (p.drop 1) 48 := by unfold fracL; rw [hp]
 have e : p = fracL r ++ z := by
  rw [hf, List.append_assoc, ← hz, List.take_append_drop]
 refine ⟨z, e, hz2, ?_, ?_⟩
 ·rw [hf, List.length_append, List.length_take]; omega
 ·rw [← List.length_append, ← e, hl]
theorem frac_isD (r : Nat) (h : r < 100000) : ∀ b ∈ fracL r, isD b = true := by
 obtain ⟨z, e, _⟩ := frac_parts r h
 intro b hb
 exact dec_isD (100000 + r) b (List.mem_of_mem_drop (i := 1) (by rw [e]; exact List.mem_append_left _ hb))
theorem frac_val (r : Nat) (h : r < 100000) : fracD (fracL r) = r := by
 obtain ⟨z, e, hz, h1, h5⟩ := frac_parts r h
 have h6 := six r h
 have hv := dec_val (100000 + r)
 have hall := dec_isD (100000 + r)
 generalize decDigits (100000 + r) = P at *
 match P, h6 with
 | x :: p, h6 =>
  have e' : p = fracL r ++ z := e
  have hpl : p.length = 5 := by simpa using h6
  have hv2 : (x.toNat - 48) * 10 ^ 5 + valD p = 100000 + r := by
   rw [← hv, ← hpl]
   show _ = (x :: p).foldl (fun s b => s * 10 + (b.toNat - 48)) 0
   rw [List.foldl_cons, fold_val, Nat.zero_mul, Nat.zero_add]
  have hlt := valD_lt p fun b hb => hall b (List.mem_cons_of_mem _ hb)
  rw [hpl] at hlt
  have hvp : valD p = r := by
   have h5' : (10 : Nat) ^ 5 = 100000 := by decide
   rw [h5'] at hv2 hlt
   omega
  unfold fracD
  have hpz : valD p = valD (fracL r) * 10 ^ z.length := by
   rw [← valD_zeros _ _ hz, ← e']
  rw [List.take_of_length_le (by omega), show 5 - (fracL r).length = z.length by omega, ← hpz, hvp]
theorem point_notD : isD 46 = false := by decide
theorem parse_text (n : Int) (whole : Bool) (hn : isIn n = true) (hw : whole = true → -2147483647 ≤ n ∧ n ≤ 2147483647) : parseS (numT n whole) = (n, whole, 0) := by
 have hm := (isIn_iff n).1 hn
 obtain ⟨S, hS⟩ : ∃ S, S = (if n < 0 then [45] else [] : List UInt8) := ⟨_, rfl⟩
 have hsl : S.length = if n < 0 then 1 else 0 := by rw [hS]; split <;> rfl
 have hsg : ∀ (d : List UInt8) (rest : List UInt8), 0 < d.length → (∀ b ∈ d, isD b = true) → sgn (S ++ (d ++ rest)) = (S.length, decide (n < 0)) := by
  intro d rest hd hda
  unfold sgn
  rw [hS]
  by_cases h : n < 0
  ·simp [h]
  ·match d, hd with
   | x :: d, _ =>
    have hx := hda x (List.mem_cons_self ..)
    have h1 : x ≠ 43 := fun e => by subst e; exact absurd hx (by decide)
    have h2 : x ≠ 45 := fun e => by subst e; exact absurd hx (by decide)
    simp [h, h1, h2]
 have hsi : ∀ m : Int, m = n.natAbs → signI (decide (n < 0)) * m = n := by
  intro m e
  by_cases h : n < 0
  ·simp [signI, h]; omega
  ·simp [signI, h]; omega
 cases whole with
 | true =>
  obtain ⟨h1, h2⟩ := hw rfl
  have ht : numT n true = S ++ (decDigits n.natAbs ++ []) := by
   show itoa n = _
   unfold itoa
   rw [hS]
   split
   ·simp
   ·rw [show n.toNat = n.natAbs by omega]; simp
  rw [ht, parseS_eq, hsg _ _ (dec_pos _) (dec_isD _)]
  unfold parseP
  have hd := digs_at S (decDigits n.natAbs) [] S.length rfl (dec_isD _) (fun b h => by simp at h)
  rw [hd]
  have hl : (S ++ (decDigits n.natAbs ++ [])).length = S.length + (decDigits n.natAbs).length := by simp
  have hnone : (S ++ (decDigits n.natAbs ++ []))[S.length + (decDigits n.natAbs).length]? = none := List.getElem?_eq_none (by omega)
  rw [hnone, if_neg (by simp), if_neg (by have := dec_pos n.natAbs; omega), dec_num _ (by omega), if_pos rfl]
  rw [hsi _ rfl]
 | false =>
  have hr : n.natAbs % 100000 < 100000 := Nat.mod_lt _ (by omega)
  have ht : numT n false = S ++ (decDigits (n.natAbs / 100000) ++ (46 :: fracL (n.natAbs % 100000))) := by
   rw [hS]; rfl
  rw [ht, parseS_eq, hsg _ _ (dec_pos _) (dec_isD _)]
  unfold parseP
  have hd := digs_at S (decDigits (n.natAbs / 100000)) (46 :: fracL (n.natAbs % 100000)) S.length rfl (dec_isD _) (fun b h => by simp at h; subst h; exact point_notD)
  rw [hd]
  have hF := frac_isD _ hr
  have hv := frac_val _ hr
  generalize fracL (n.natAbs % 100000) = F at *
  have hdot : (S ++ (decDigits (n.natAbs / 100000) ++ (46 :: F)))[S.length + (decDigits (n.natAbs / 100000)).length]? = some 46 := by
   rw [← List.append_assoc, List.getElem?_append_right (by simp)]
   simp
  have hd2 := digs_at (S ++ (decDigits (n.natAbs / 100000) ++ [46])) F [] (S.length + (decDigits (n.natAbs / 100000)).length + 1) (by simp; omega) hF (fun b h => by simp at h)
  have he : (S ++ (decDigits (n.natAbs / 100000) ++ [46])) ++ (F ++ []) = S ++ (decDigits (n.natAbs / 100000) ++ (46 :: F)) := by simp
  rw [he] at hd2
  have hl : (S ++ (decDigits (n.natAbs / 100000) ++ (46 :: F))).length = S.length + (decDigits (n.natAbs / 100000)).length + 1 + F.length := by simp; omega
  rw [hdot, if_pos rfl]
  simp only []
  rw [hd2, hl, if_neg (by have := dec_pos (n.natAbs / 100000); omega), dec_num _ (by omega), if_pos rfl, hv, hsi _ (by omega)]
end Go.Fx
namespace Go.Proofs.YthffpbkndnhlfaaGreatDoor
open Go Go.RowKit Go.Wk Go.Fx
structure Save (L : Nat) (w w' : World) : Prop where
 os : w'.os = w.os
 tape : w'.tape = w.tape
 output : w'.output = w.output
 size : w.heap.size ≤ w'.heap.size
 block : ∀ k, k < w.heap.size → k ≠ L → w'.heap[k]? = w.heap[k]?
theorem Save.refl (L : Nat) (w : World) : Save L w w := ⟨rfl, rfl, rfl, Nat.le_refl _, fun _ _ _ => rfl⟩
theorem Save.trans {L : Nat} {a b c : World} (h : Save L a b) (k : Save L b c) : Save L a c :=
 ⟨k.os.trans h.os, k.tape.trans h.tape, k.output.trans h.output, Nat.le_trans h.size k.size, fun j hj hn => (k.block j (Nat.lt_of_lt_of_le hj h.size) hn).trans (h.block j hj hn)⟩
theorem Save.drawn {L : Nat} {a b : World} (h : Save L a b) (n : Nat) : Save L a (b.drewN n) := ⟨h.os, h.tape, h.output, h.size, h.block⟩
theorem Save.store {L : Nat} {a b : World} (h : Save L a b) (o : Nat) (u : Value) : Save L a (b.setCell ⟨L, o, none⟩ u) :=
 h.trans ⟨rfl, rfl, rfl, by simp [World.setCell], fun k _ hn => Below.heap_setCell _ _ _ _ hn⟩
theorem Save.cell {L : Nat} {a b : World} (h : Save L a b) {p : Addr} (hn : p.block ≠ L) (hp : p.block < a.heap.size) : b.cell? p = a.cell? p := World.cell?_of_block (w := a) (h.block p.block hp hn)
theorem Save.of_below {L : Nat} {a b : World} (h : Below a.heap.size a b) : Save L a b := ⟨h.os, h.tape, h.output, h.size, fun k hk _ => h.block k hk⟩
theorem Save.below {L B : Nat} {a b : World} (h : Save L a b) (hL : B ≤ L) (hB : B ≤ a.heap.size) : Below B a b := ⟨h.os, h.tape, h.output, h.size, fun k hk => h.block k (by omega) (by omega)⟩
theorem Save.byt {L : Nat} {a b : World} {A : Option Addr} {bs : List UInt8} (h : Save L a b) (hn : 0 < bs.length → ∀ x, A = some x → x.block ≠ L) (hb : Byt a A bs) : Byt b A bs := by
 refine ⟨hb.1, fun h0 => ?_⟩
 obtain ⟨g, o, e, hc⟩ := hb.2 h0
 refine ⟨g, o, e, fun i hi => ?_⟩
 rw [h.cell (p := ⟨g, o + i, none⟩) (show g ≠ L from hn h0 _ e) (cell_lt (hc i hi))]
 exact hc i hi
structure Cur (w0 w : World) (L : Nat) (A : Option Addr) (c : Nat) (bs : List UInt8) (at' : Nat) : Prop where
 ne : 0 < bs.length → ∀ x, A = some x → x.block ≠ L
 bel : Save L w0 w
 cb : w.cell? ⟨L, 0, none⟩ = some (.slice A bs.length c)
 ca : w.cell? ⟨L, 1, none⟩ = some (.int .i64 (at' : Nat))
 fr : w.frozen? ⟨L, 1, none⟩ = false
 byt : Byt w0 A bs
 le : at' ≤ bs.length
 small : bs.length ≤ 1000000000
theorem Cur.drawn {w0 w : World} {L : Nat} {A : Option Addr} {c : Nat} {bs : List UInt8} {p : Nat} (h : Cur w0 w L A c bs p) (n : Nat) : Cur w0 (w.drewN n) L A c bs p :=
 ⟨h.ne, h.bel.drawn n, h.cb, h.ca, h.fr, h.byt, h.le, h.small⟩
theorem Cur.go {w0 w : World} {L : Nat} {A : Option Addr} {c : Nat} {bs : List UInt8} {p : Nat} (h : Cur w0 w L A c bs p) (q : Nat) (hq : q ≤ bs.length) : Cur w0 (w.setCell ⟨L, 1, none⟩ (.int .i64 (q : Nat))) L A c bs q := by
 refine ⟨h.ne, h.bel.store _ _, ?_, World.cell?_setCell_same _ _ _ h.ca, ?_, h.byt, hq, h.small⟩
 ·rw [World.cell?_setCell_other _ _ _ _ (by intro e; cases e)]; exact h.cb
 ·simp [h.fr]
theorem Cur.here {w0 w : World} {L : Nat} {A : Option Addr} {c : Nat} {bs : List UInt8} {p : Nat} (h : Cur w0 w L A c bs p) : Cur w w L A c bs p :=
 ⟨h.ne, Save.refl _ _, h.cb, h.ca, h.fr, h.bel.byt h.ne h.byt, h.le, h.small⟩
theorem cur_peek {w0 w : World} {L : Nat} {A : Option Addr} {c : Nat} {bs : List UInt8} {p : Nat} (h : Cur w0 w L A c bs p) :
 Calls Tryz.prog 56 #[.pointer (some ⟨L, 0, none⟩), .int .i64 0] w fun e w' => e = .returned (.int .i64 (peekS bs p)) ∧ Cur w0 w' L A c bs p := by
 have H := hi_ h
 obtain ⟨h1, h2, h3, h4, h5, h6, h7, h8⟩ := h
 have hS := hi_ (show peekS bs p = match bs[p]? with | some b => (b.toNat : Int) | none => -1 from rfl)
 generalize peekS bs p = S at *
 by_cases hlt : p < bs.length
 ·obtain ⟨b, o, rfl, hc⟩ := h6.2 (by omega)
  have hck := (h2.cell (p := ⟨b, o + p, none⟩) (show b ≠ L from h1 (by omega) ⟨b, o, none⟩ rfl) (cell_lt (hc p hlt))).trans (hc p hlt)
  have hS2 := hi_ (show S = (bs[p].toNat : Int) by rw [hS.out, List.getElem?_eq_getElem hlt])
  generalize bs[p] = x at *
  clear hc h6 h2 h1
  go_enter Tryz.func56, Tryz.ntmps56
  go_wp2
  ·go_quiet (fail)
   go_wp2
   go_ret
   have hxw : wrap64 (x.toNat : Int) = (x.toNat : Int) := by have := u8_lt x; unfold wrap64; omega
   exact ⟨by rw [hS2.out]; exact congrArg (fun z => Ending.returned (.int .i64 z)) hxw, H.out.drawn _⟩
 ·have hS2 := hi_ (show S = -1 by rw [hS.out, List.getElem?_eq_none (by omega)])
  clear h6 h2 h1
  go_enter Tryz.func56, Tryz.ntmps56
  go_wp2
  go_ret
  exact ⟨by rw [hS2.out]; rfl, H.out⟩
theorem cur_next {w0 w : World} {L : Nat} {A : Option Addr} {c : Nat} {bs : List UInt8} {p : Nat} (h : Cur w0 w L A c bs p) :
 Calls Tryz.prog 60 #[.pointer (some ⟨L, 0, none⟩)] w fun e w' => e = .returned (.int .i64 (peekS bs p)) ∧ Cur w0 w' L A c bs (if p < bs.length then p + 1 else p) := by
 have hk := cur_peek h
 by_cases hlt : p < bs.length
 ·have hs := peekS_in hlt
  rw [if_pos hlt]
  have hs0 := hs.1
  generalize peekS bs p = S at *
  have hsm := h.small
  clear h hs
  go_enter Tryz.func60, Tryz.ntmps60
  go_wp2_with (go_at_call 56; (with_reducible refine hk.mono ?_); rintro e w1 ⟨rfl, h1⟩; have hca := h1.ca; have hfr := h1.fr; replace h1 := hi_ h1)
  go_ret
  have h2 := h1.out.go (p + 1) hlt
  rw [show ((p + 1 : Nat) : Int) = (p : Int) + 1 by omega] at h2
  exact ⟨rfl, h2⟩
 ·have hs := peekS_out hlt
  rw [if_neg hlt]
  rw [hs] at hk ⊢
  clear h
  go_enter Tryz.func60, Tryz.ntmps60
  go_wp2_with (go_at_call 56; (with_reducible refine hk.mono ?_); rintro e w1 ⟨rfl, h1⟩; replace h1 := hi_ h1)
  go_ret
  exact ⟨rfl, h1.out⟩
theorem cur_left {w0 w : World} {L : Nat} {A : Option Addr} {c : Nat} {bs : List UInt8} {p : Nat} (h : Cur w0 w L A c bs p) :
 Calls Tryz.prog 58 #[.pointer (some ⟨L, 0, none⟩)] w fun e w' => e = .returned (.int .i64 ((bs.length : Int) - p)) ∧ w' = w := by
 obtain ⟨h1, h2, h3, h4, h5, h6, h7, h8⟩ := h
 clear h6 h2 h1
 go_enter Tryz.func58, Tryz.ntmps58
 go_wp2
 go_ret
 exact ⟨rfl, rfl⟩
theorem conv_at (W : World) (b o cap : Nat) (x : UInt8) (h : W.cell? ⟨b, o, none⟩ = some (.int .u8 (x.toNat : Int))) : (convert 22 9 (.slice (some ⟨b, o, none⟩) 1 cap)).run Tryz.prog W = .ok (.string ⟨#[x]⟩) W := by
 have h := run_convert_bytes_back (P := Tryz.prog) W 22 9 5 ⟨b, o, none⟩ cap [x] Tryz.underlying22 Tryz.underlying5 Tryz.underlying9 (fun j hj => by
  have : j = 0 := by simpa using hj
  subst this
  rw [Lib.add_plain]; exact h)
 exact h
theorem cur_match_yes {w0 w : World} {L : Nat} {A : Option Addr} {c : Nat} {bs : List UInt8} {p : Nat} {ch : UInt8} (h : Cur w0 w L A c bs p) (hcap : bs.length ≤ c) (hp : bs[p]? = some ch) :
 Calls Tryz.prog 54 #[.pointer (some ⟨L, 0, none⟩), .string ⟨#[ch]⟩] w fun e w' => e = .returned (.bool true) ∧ Cur w0 w' L A c bs (p + 1) := by
 have H := hi_ h
 obtain ⟨h1, h2, h3, h4, h5, h6, h7, h8⟩ := h
 obtain ⟨hlt, hpe⟩ := List.getElem?_eq_some_iff.1 hp
 obtain ⟨b, o, rfl, hc⟩ := h6.2 (by omega)
 have hck := (h2.cell (p := ⟨b, o + p, none⟩) (show b ≠ L from h1 (by omega) ⟨b, o, none⟩ rfl) (cell_lt (hc p hlt))).trans (hc p hlt)
 rw [hpe] at hck
 have hcv := fun n => conv_at (w.drewN n) b (o + p) (c - p) ch hck
 clear hc h6 h2 h1 hp hpe
 have hg : decide ((bs.length : Int) - (p : Int) < 1) = false := by simp; omega
 go_enter Tryz.func54, Tryz.ntmps54
 go_wp2
 go_quiet ((go_at_call 58; refine Calls.quiet_of_same (cur_left (H.out.drawn _))))
 go_wp2
 go_ret
 have h9 := (H.out.drawn nq).go (p + 1) hlt
 rw [show ((p + 1 : Nat) : Int) = (p : Int) + 1 by omega] at h9
 exact ⟨rfl, h9⟩
theorem cur_match_no {w0 w : World} {L : Nat} {A : Option Addr} {c : Nat} {bs : List UInt8} {p : Nat} {ch : UInt8} (h : Cur w0 w L A c bs p) (hcap : bs.length ≤ c) (hp : bs[p]? ≠ some ch) :
 Calls Tryz.prog 54 #[.pointer (some ⟨L, 0, none⟩), .string ⟨#[ch]⟩] w fun e w' => e = .returned (.bool false) ∧ Cur w0 w' L A c bs p := by
 have H := hi_ h
 obtain ⟨h1, h2, h3, h4, h5, h6, h7, h8⟩ := h
 by_cases hlt : p < bs.length
 ·obtain ⟨b, o, rfl, hc⟩ := h6.2 (by omega)
  have hck := (h2.cell (p := ⟨b, o + p, none⟩) (show b ≠ L from h1 (by omega) ⟨b, o, none⟩ rfl) (cell_lt (hc p hlt))).trans (hc p hlt)
  have hcv := fun n => conv_at (w.drewN n) b (o + p) (c - p) bs[p] hck
  have hne : (bs[p] == ch) = false := by
   rw [beq_eq_false_iff_ne]; intro e; exact hp (by rw [List.getElem?_eq_getElem hlt, e])
  generalize bs[p] = x at *
  clear hc h6 h2 h1 hp
  have hg : decide ((bs.length : Int) - (p : Int) < 1) = false := by simp; omega
  go_enter Tryz.func54, Tryz.ntmps54
  go_wp2
  go_quiet ((go_at_call 58; refine Calls.quiet_of_same (cur_left (H.out.drawn _))))
  go_wp2
  go_ret
  exact ⟨rfl, H.out.drawn _⟩
 ·clear h6 h2 h1 hp
  have hg : decide ((bs.length : Int) - (p : Int) < 1) = true := by simp; omega
  go_enter Tryz.func54, Tryz.ntmps54
  go_wp2
  go_quiet ((go_at_call 58; refine Calls.quiet_of_same (cur_left (H.out.drawn _))))
  go_wp2
  go_ret
  exact ⟨rfl, H.out.drawn _⟩
section
open Go Go.RowKit Go.Wk
def stands (bs : List UInt8) (p : Nat) (s : List UInt8) : Bool := decide (p + s.length ≤ bs.length) && ((bs.drop p).take s.length == s)
theorem conv_many (W : World) (b o n cap : Nat) (l : List UInt8) (hl : l.length = n) (h : ∀ i (hi : i < l.length), W.cell? ⟨b, o + i, none⟩ = some (.int .u8 (l[i].toNat : Int))) : (convert 22 9 (.slice (some ⟨b, o, none⟩) n cap)).run Tryz.prog W = .ok (.string ⟨l.toArray⟩) W := by
 subst hl
 exact run_convert_bytes_back W 22 9 5 ⟨b, o, none⟩ cap l Tryz.underlying22 Tryz.underlying5 Tryz.underlying9 (fun j hj => by rw [Lib.add_plain]; exact h j hj)
theorem cur_match {w0 w : World} {L : Nat} {A : Option Addr} {c : Nat} {bs : List UInt8} {p : Nat} (s : ByteArray) (h : Cur w0 w L A c bs p) (hcap : bs.length ≤ c) (hs : 1 ≤ s.size) (hs2 : s.size ≤ 1000000000) :
 Calls Tryz.prog 54 #[.pointer (some ⟨L, 0, none⟩), .string s] w fun e w' => e = .returned (.bool (stands bs p s.data.toList)) ∧ Cur w0 w' L A c bs (if stands bs p s.data.toList then p + s.size else p) := by
 have H := hi_ h
 have hsl : s.data.toList.length = s.size := Array.length_toList
 obtain ⟨h1, h2, h3, h4, h5, h6, h7, h8⟩ := h
 by_cases hle : p + s.size ≤ bs.length
 ·obtain ⟨b, o, rfl, hc⟩ := h6.2 (by omega)
  have hcv := fun n => conv_many (w.drewN n) b (o + p) s.size (c - p) ((bs.drop p).take s.size) (by simp; omega) (fun i hi => by
   have hi2 : i < s.size := by simp at hi; omega
   have := (h2.cell (p := ⟨b, o + (p + i), none⟩) (show b ≠ L from h1 (by omega) ⟨b, o, none⟩ rfl) (cell_lt (hc (p + i) (by omega)))).trans (hc (p + i) (by omega))
   rw [Nat.add_assoc, List.getElem_take, List.getElem_drop]
   exact this)
  have hpc : ¬ c = p := by omega
  have hg : decide ((bs.length : Int) - (p : Int) < (s.size : Int)) = false := by simp; omega
  by_cases heq : (bs.drop p).take s.size = s.data.toList
  ·have hst : stands bs p s.data.toList = true := by simp [stands, hsl, hle, heq]
   rw [hst]
   have hX : ({ data := (List.take s.size (List.drop p bs)).toArray } : ByteArray) = s := by apply bytes_ext; simpa using heq
   rw [hX] at hcv
   clear hc h6 h2 h1 heq hX hst hsl
   go_enter Tryz.func54, Tryz.ntmps54
   go_wp2
   go_quiet ((go_at_call 58; refine Calls.quiet_of_same (cur_left (H.out.drawn _))))
   go_wp2
   go_ret
   have h9 := (H.out.drawn nq).go (p + s.size) hle
   rw [show ((p + s.size : Nat) : Int) = (p : Int) + (s.size : Int) by omega] at h9
   exact ⟨rfl, h9⟩
  ·have hst : stands bs p s.data.toList = false := by
    unfold stands
    rw [hsl]
    simp [heq]
   rw [hst]
   generalize hX : ({ data := (List.take s.size (List.drop p bs)).toArray } : ByteArray) = X at hcv
   have hXl : X.data.toList = (bs.drop p).take s.size := by rw [← hX]
   have hne := str_ne (a := X) (b := s) (by rw [hXl]; exact heq)
   clear hXl
   clear hc h6 h2 h1 heq hX hst hsl
   go_enter Tryz.func54, Tryz.ntmps54
   go_wp2
   go_quiet ((go_at_call 58; refine Calls.quiet_of_same (cur_left (H.out.drawn _))))
   go_wp2
   go_ret
   exact ⟨rfl, H.out.drawn _⟩
 ·have hst : stands bs p s.data.toList = false := by
   unfold stands
   rw [hsl]
   simp [hle]
  rw [hst]
  have hg : decide ((bs.length : Int) - (p : Int) < (s.size : Int)) = true := by
   rw [decide_eq_true_eq]; omega
  clear h6 h2 h1 hst hsl
  go_enter Tryz.func54, Tryz.ntmps54
  go_wp2
  go_quiet ((go_at_call 58; refine Calls.quiet_of_same (cur_left (H.out.drawn _))))
  go_wp2
  go_ret
  exact ⟨rfl, H.out.drawn _⟩
end
end Go.Proofs.YthffpbkndnhlfaaGreatDoor
namespace Go.Proofs
section
open Go.Shelf
def Tryz.laysSlK4_ren : Go.Shelf.Ren := ⟨fun | 4 => 87 | n => n, fun | 22 => 22 | 4 => 4 | 5 => 5 | n => n, fun | n => n⟩
theorem Tryz.laysSlK4 : Go.Proofs.SlLaysK.n4 Tryz.prog Tryz.laysSlK4_ren := {
 mixed := by kernel_rfl
 f4 := Tryz.func87.trans (congrArg some (by kernel_rfl))
 t4 := Tryz.underlying4
 a4 := Tryz.isAgg4
 z4 := Tryz.sizeOf4
 v4 := Tryz.zeroValue4
 t22 := Tryz.underlying22
 a22 := Tryz.isAgg22
 z22 := Tryz.sizeOf22
 v22 := Tryz.zeroValue22
 t5 := Tryz.underlying5
 i5 := by kernel_rfl }
open Go.RowKit Go.Lib in
theorem Tryz.bytes_Clone_at (a : Addr) (n c : Nat) (xs : List Int) (w : World) (hx : xs.length = n) (hbig : n ≤ 140737488355328) (hc : ∀ i, i < n → w.cell? (a.add i) = some (.int .u8 (xs.getD i 0))) :
 Calls Tryz.prog 87 #[.slice (some a) n c] w fun e w' => ∃ v', e = .returned v' ∧ w'.ownsRow w.heap.size 5 1 v' n (xs.map (Value.int .u8)) ∧ v' ≠ .slice none 0 0 ∧ Below w.heap.size w w' := Any.bytes_Clone_at Tryz.laysSlK4 a n c xs w hx hbig hc
open Go.RowKit Go.Lib in
theorem Tryz.bytes_Clone_nil (n c : Nat) (w : World) :
 Calls Tryz.prog 87 #[.slice none n c] w fun e w' => e = .returned (.slice none 0 0) ∧ w' = w := Any.bytes_Clone_nil Tryz.laysSlK4 n c w
end
end Go.Proofs
namespace Go.Proofs.YthffpbkndnhlfaaGreatDoor
section
open Go Go.RowKit Go.Wk
attribute [local go_sem ↓] Go.wp_at_zero Go.wp_at_succ
theorem Cur.below {w0 w w1 : World} {L : Nat} {A : Option Addr} {c : Nat} {bs : List UInt8} {p : Nat} (h : Cur w0 w L A c bs p) (hb : Below w.heap.size w w1) : Cur w0 w1 L A c bs p := by
 have hl := cell_lt h.cb
 exact ⟨h.ne, h.bel.trans (Save.of_below hb), (hb.cell hl).trans h.cb, (hb.cell (p := ⟨L, 1, none⟩) hl).trans h.ca, (hb.frozen (p := ⟨L, 1, none⟩) hl).trans h.fr, h.byt, h.le, h.small⟩
def takeS (bs : List UInt8) (p n : Nat) : List UInt8 := if p + n ≤ bs.length then (bs.drop p).take n else []
def takeB (bs : List UInt8) (p n : Nat) : Bool := decide (p + n ≤ bs.length)
def TakeR (w0 w : World) (L : Nat) (A : Option Addr) (c : Nat) (bs : List UInt8) (p n : Nat) (e : Ending) (w' : World) : Prop :=
 ∃ A' c', e = .returned (.tuple #[.slice A' (takeS bs p n).length c', .bool (takeB bs p n)]) ∧ Byt w' A' (takeS bs p n) ∧ Cur w0 w' L A c bs (if takeB bs p n then p + n else p)
theorem own_byt2 {w : World} {B e : Nat} {v : Value} {bs : List UInt8} (h : w.ownsRow B e 1 v bs.length (valsB bs)) (h0 : v ≠ .slice none 0 0) (hm : bs.length ≤ maxLen) :
 ∃ g c, B ≤ g ∧ v = .slice (some ⟨g, 0, none⟩) bs.length c ∧ Byt w (some ⟨g, 0, none⟩) bs := by
 obtain ⟨A, c, hv, hb⟩ := own_byt h
 rcases h.2 with ⟨rfl, _⟩ | ⟨g, cap, cur, rfl, hB, _⟩
 ·exact absurd rfl h0
 ·injection hv with h1 h2 h3
  subst h1
  exact ⟨g, cap, hB, rfl, hb hm⟩
theorem Byt.store {w : World} {g o : Nat} {bs : List UInt8} (h : Byt w (some ⟨g, o, none⟩) bs) {p : Addr} (hp : g ≠ p.block) (u : Value) : Byt (w.setCell p u) (some ⟨g, o, none⟩) bs := by
 refine ⟨h.1, fun h0 => ?_⟩
 obtain ⟨b, o', e, hc⟩ := h.2 h0
 cases e
 refine ⟨g, o, rfl, fun i hi => ?_⟩
 rw [World.cell?_setCell_other _ _ _ _ (by intro e; apply hp; rw [e])]
 exact hc i hi
theorem valsB_map (l : List UInt8) : (l.map fun x => (x.toNat : Int)).map (Value.int .u8) = valsB l := by simp [valsB]
theorem cur_take {w0 w : World} {L : Nat} {A : Option Addr} {c : Nat} {bs : List UInt8} {p : Nat} (n : Nat) (h : Cur w0 w L A c bs p) (hcap : bs.length ≤ c) (hn : 1 ≤ n) (hn2 : n ≤ 1000000000) :
 Calls Tryz.prog 61 #[.pointer (some ⟨L, 0, none⟩), .int .i64 n] w (TakeR w0 w L A c bs p n) := by
 have H := hi_ h
 obtain ⟨h1, h2, h3, h4, h5, h6, h7, h8⟩ := h
 by_cases hle : p + n ≤ bs.length
 ·obtain ⟨b, o, rfl, hc⟩ := h6.2 (by omega)
  have hpc : ¬ c = p := by omega
  have cl := Tryz.bytes_Clone_at ⟨b, o + p, none⟩ n (c - p) (((bs.drop p).take n).map fun x => (x.toNat : Int)) w.drew (by simp; omega) (by omega) (fun i hi => by
   have := (h2.cell (p := ⟨b, o + (p + i), none⟩) (show b ≠ L from h1 (by omega) ⟨b, o, none⟩ rfl) (cell_lt (hc (p + i) (by omega)))).trans (hc (p + i) (by omega))
   rw [Wk.add_none, Nat.add_assoc]
   show w.cell? _ = _
   rw [this]
   simp [List.getD, hi, show p + i < bs.length by omega])
  have hts := hi_ (show takeS bs p n = (bs.drop p).take n by simp [takeS, hle])
  have htb := hi_ (show takeB bs p n = true by simp [takeB, hle])
  have hl : ((bs.drop p).take n).length = n := by simp; omega
  generalize hT : (bs.drop p).take n = T at *
  replace hT := hi_ hT
  replace cl := hi_ cl
  have kp := hi_ fun (w1 : World) (hb : Below w.heap.size w w1) => (⟨(H.out.below hb).cb, (H.out.below hb).ca⟩ : w1.cell? ⟨L, 0, none⟩ = some (.slice (some ⟨b, o, none⟩) bs.length c) ∧ w1.cell? ⟨L, 1, none⟩ = some (.int .i64 (p : Nat)))
  have hp0 : (0 : Int) ≤ (p : Int) := by omega
  have hpn : (p : Int) + (n : Int) ≤ (bs.length : Int) := by omega
  have hbc : (bs.length : Int) ≤ (c : Int) := by omega
  have hw : IntKind.i64.wrap ((p : Int) + (n : Int)) = (p : Int) + (n : Int) := IntWalk.i64_in _ (by omega)
  clear hc h6 h2 h1
  go_enter Tryz.func61, Tryz.ntmps61
  go_wp2_with (go_at_call 58; (with_reducible refine (cur_left H.out).mono ?_); rintro e w1 ⟨rfl, rfl⟩)
  go_region_held (fun w' => w'.cell? ⟨L, 0, none⟩ = some (.slice (some ⟨b, o, none⟩) bs.length c) ∧ w'.cell? ⟨L, 1, none⟩ = some (.int .i64 (p : Nat)))
   (first | go_keep | exact kp.out _ ((Below.refl _ _).drew.trans hw2))
   ((go_at_call 87; (with_reducible refine cl.out.mono ?_); rintro e w2 ⟨v, rfl, hown, hne, hw2⟩))
  have hb2 : Below w1.heap.size w1 w2 := (Below.refl w1.heap.size w1).drew.trans hw2
  have hC2 := hi_ (H.out.below hb2)
  have k5 := hC2.out.fr
  obtain ⟨k3, k4⟩ := kp.out _ hb2
  rw [valsB_map] at hown
  have hlm : T.length ≤ maxLen := by unfold maxLen; omega
  subst hl
  obtain ⟨g, c', hg, rfl, hby⟩ := own_byt2 hown hne hlm
  have hgL : g ≠ L := by
   have hlt : L < w1.heap.size := cell_lt H.out.cb
   have hg : w1.heap.size ≤ g := hg
   intro e; omega
  replace hby := hi_ (Byt.store hby (p := ⟨L, 1, none⟩) hgL (.int .i64 ((p : Int) + (T.length : Int))))
  clear hown hne hw2 hw
  have hw : IntKind.i64.wrap ((p : Int) + (T.length : Int)) = (p : Int) + (T.length : Int) := IntWalk.i64_in _ (by omega)
  go_wp2
  go_ret2
  refine ⟨some ⟨g, 0, none⟩, c', ?_, ?_, ?_⟩
  ·rw [hts.out, htb.out]; rfl
  ·rw [hts.out]; exact hby.out
  ·rw [htb.out, if_pos rfl]
   have h9 := hC2.out.go (p + T.length) hle
   rw [show ((p + T.length : Nat) : Int) = (p : Int) + (T.length : Int) by omega] at h9
   exact h9
 ·have hts := hi_ (show takeS bs p n = [] by simp [takeS, hle])
  have htb := hi_ (show takeB bs p n = false by simp [takeB, hle])
  have hg : decide ((bs.length : Int) - (p : Int) < (n : Int)) = true := by rw [decide_eq_true_eq]; omega
  clear h6 h2 h1
  go_enter Tryz.func61, Tryz.ntmps61
  go_wp2_with (go_at_call 58; (with_reducible refine (cur_left H.out).mono ?_); rintro e w1 ⟨rfl, rfl⟩)
  go_ret2
  refine ⟨none, 0, ?_, ?_, ?_⟩
  ·rw [hts.out, htb.out]; rfl
  ·rw [hts.out]; exact Byt.nil
  ·rw [htb.out]; exact H.out
end
end Go.Proofs.YthffpbkndnhlfaaGreatDoor
namespace Go.Wk
open Go Go.RowKit
def ObI (lo hi : Nat) (w : World) (o : Ob) (vs : List Value) : Prop := hi ≤ w.heap.size ∧ ∀ w' : World, (∀ b, lo ≤ b → b < hi → w'.heap[b]? = w.heap[b]?) → hi ≤ w'.heap.size → ObAt w' o vs
theorem ObI.ob {lo hi : Nat} {w : World} {o : Ob} {vs : List Value} (h : ObI lo hi w o vs) : ObAt w o vs := h.2 w (fun _ _ _ => rfl) h.1
theorem ObI.keep {lo hi : Nat} {w w' : World} {o : Ob} {vs : List Value} (h : ObI lo hi w o vs) (hk : ∀ b, lo ≤ b → b < hi → w'.heap[b]? = w.heap[b]?) (hs : hi ≤ w'.heap.size) : ObI lo hi w' o vs :=
 ⟨hs, fun w2 h2 hz => h.2 w2 (fun b h3 h4 => (h2 b h3 h4).trans (hk b h3 h4)) hz⟩
theorem ObI.wide {lo lo' hi : Nat} {w : World} {o : Ob} {vs : List Value} (h : ObI lo hi w o vs) (hl : lo' ≤ lo) : ObI lo' hi w o vs :=
 ⟨h.1, fun w2 h2 hz => h.2 w2 (fun b h3 h4 => h2 b (by omega) h4) hz⟩
def EnI (lo hi : Nat) (w : World) (e : List UInt8 × Ob) (rs : List Value) : Prop := ∃ us, rs = strV e.1 :: us ∧ e.1.length ≤ maxLen ∧ ObI lo hi w e.2 us
structure ItLaw {α : Type} (I : Nat → Nat → World → α → List Value → Prop) (sz : Nat) : Prop where
 keep : ∀ {lo hi w w' a us}, I lo hi w a us → (∀ b, lo ≤ b → b < hi → w'.heap[b]? = w.heap[b]?) → hi ≤ w'.heap.size → I lo hi w' a us
 top : ∀ {lo hi w a us}, I lo hi w a us → hi ≤ w.heap.size
 len : ∀ {lo hi w a us}, I lo hi w a us → us.length = sz
theorem ob_law : ItLaw ObI 5 := ⟨fun h hk hs => h.keep hk hs, fun h => h.1, fun h => h.ob.five⟩
theorem en_law : ItLaw EnI 6 := ⟨fun ⟨us, h1, h2, h3⟩ hk hs => ⟨us, h1, h2, h3.keep hk hs⟩, fun ⟨us, h1, h2, h3⟩ => h3.1, fun ⟨us, h1, h2, h3⟩ => by rw [h1]; simp [h3.ob.five]⟩
structure RowG {α : Type} (I : Nat → Nat → World → α → List Value → Prop) (e : TypeId) (sz B : Nat) (w : World) (v : Value) (l : List α) (rss : List (List Value)) : Prop where
 len : rss.length = l.length
 row : w.ownsRow B e sz v l.length rss.flatten
 it : ∀ i (h : i < l.length), ∃ lo hi, B ≤ lo ∧ (∀ g, v.ownBlock = some g → g < lo ∨ hi ≤ g) ∧ I lo hi w l[i] (rss.getD i [])
section
variable {α : Type} {I : Nat → Nat → World → α → List Value → Prop} {e : TypeId} {sz B : Nat} {w w' : World} {v : Value} {l : List α} {rss : List (List Value)}
theorem RowG.nil (I : Nat → Nat → World → α → List Value → Prop) (e : TypeId) (sz B : Nat) (w : World) : RowG I e sz B w (.slice none 0 0) ([] : List α) [] :=
 ⟨rfl, World.ownsRow_nil _ _ _ _, fun i h => by simp at h⟩
theorem own_far {e : TypeId} {sz B : Nat} {w w' : World} {v : Value} {n : Nat} {xs : List Value} (h : w.ownsRow B e sz v n xs) (hk : ∀ b, B ≤ b → b < w.heap.size → w'.heap[b]? = w.heap[b]?) : w'.ownsRow B e sz v n xs := by
 refine ⟨h.1, ?_⟩
 rcases h.2 with h2 | ⟨g, cap, cur, e', hB, hh, rest⟩
 ·exact .inl h2
 ·exact .inr ⟨g, cap, cur, e', hB, (hk g hB (Array.getElem?_eq_some_iff.1 hh).1).trans hh, rest⟩
theorem RowG.far (L : ItLaw I sz) (h : RowG I e sz B w v l rss) (hk : ∀ b, B ≤ b → b < w.heap.size → w'.heap[b]? = w.heap[b]?) (hs : w.heap.size ≤ w'.heap.size) : RowG I e sz B w' v l rss :=
 ⟨h.len, own_far h.row hk, fun i hi => by
  obtain ⟨lo, hi', h1, h2, h3⟩ := h.it i hi
  have ht := L.top h3
  exact ⟨lo, hi', h1, h2, L.keep h3 (fun b hb hb' => hk b (by omega) (by omega)) (by omega)⟩⟩
theorem RowG.below (L : ItLaw I sz) (h : RowG I e sz B w v l rss) (hb : Below w.heap.size w w') : RowG I e sz B w' v l rss :=
 h.far L (fun b _ hb' => hb.block b hb') hb.size
theorem RowG.more (L : ItLaw I sz) (h : RowG I e sz B w v l rss) {a : α} {us : List Value} {lo hi : Nat} (ha : I lo hi w a us) (hlo : B ≤ lo) (hne : ∀ g, v.ownBlock = some g → g < lo ∨ hi ≤ g)
 {v' : Value} (hown : w'.ownsRow B e sz v' (l.length + 1) (rss.flatten ++ us)) (hg : w.grownBy w' v.ownBlock) (hat : v'.ownBlock = v.ownBlock ∨ v'.ownBlock = some w.heap.size) : RowG I e sz B w' v' (l ++ [a]) (rss ++ [us]) := by
 have keep : ∀ {lo hi : Nat}, hi ≤ w.heap.size → (∀ g, v.ownBlock = some g → g < lo ∨ hi ≤ g) → ∀ b, lo ≤ b → b < hi → w'.heap[b]? = w.heap[b]? := fun {lo hi} ht hq b h1 h2 =>
  hg.block b (by omega) (fun e => by have h9 := hq b e.symm; omega)
 have apart : ∀ {lo hi : Nat}, hi ≤ w.heap.size → (∀ g, v.ownBlock = some g → g < lo ∨ hi ≤ g) → ∀ g, v'.ownBlock = some g → g < lo ∨ hi ≤ g := fun {lo hi} ht hq g hgo => by
  rcases hat with e | e
  ·exact hq g (by rw [← e]; exact hgo)
  ·rw [e] at hgo; injection hgo with hgo; right; omega
 refine ⟨by simp [h.len], ?_, fun i hi' => ?_⟩
 ·rw [List.length_append, List.flatten_append]; simpa using hown
 ·rw [List.length_append] at hi'
  simp only [List.length_cons, List.length_nil] at hi'
  have hs := hg.size
  by_cases hil : i < l.length
  ·obtain ⟨lo2, hi2, h1, h2, h3⟩ := h.it i hil
   have ht := L.top h3
   refine ⟨lo2, hi2, h1, apart ht h2, ?_⟩
   rw [List.getElem_append_left hil, List.getD_eq_getElem?_getD, List.getElem?_append_left (by rw [h.len]; exact hil), ← List.getD_eq_getElem?_getD]
   exact L.keep h3 (keep ht h2) (by omega)
  ·obtain rfl : i = l.length := by omega
   have ht := L.top ha
   refine ⟨lo, hi, hlo, apart ht hne, ?_⟩
   have e1 : (rss ++ [us]).getD l.length [] = us := by
    rw [List.getD_eq_getElem?_getD, List.getElem?_append_right (by rw [h.len]; omega), h.len]; simp
   rw [e1]
   have e2 : (l ++ [a])[l.length] = a := by simp
   rw [e2]
   exact L.keep ha (keep ht hne) (by omega)
theorem flat_at {rss : List (List Value)} {sz : Nat} (h : ∀ i, i < rss.length → (rss.getD i []).length = sz) : ∀ i j, i < rss.length → j < sz → rss.flatten[sz * i + j]? = (rss.getD i [])[j]? := by
 induction rss with
 | nil => intro i j hi; simp at hi
 | cons r t ih =>
  intro i j hi hj
  have h0 := h 0 (by simp)
  simp only [List.getD_cons_zero] at h0
  cases i with
  | zero =>
   rw [List.flatten_cons, List.getElem?_append_left (by omega)]; simp
  | succ i =>
   rw [List.flatten_cons, List.getElem?_append_right (by rw [h0, Nat.mul_succ]; omega)]
   have := ih (fun k hk => by have := h (k + 1) (by simpa using hk); simpa using this) i j (by simpa using hi) hj
   rw [h0, show sz * (i + 1) + j - sz = sz * i + j by rw [Nat.mul_succ]; omega, this]
   simp
theorem RowG.out (L : ItLaw I sz) (hsz : 0 < sz) (h : RowG I e sz B w v l rss) : ∃ A c g, v = .slice A l.length c ∧ l.length ≤ c ∧ (A = none → c = 0) ∧ (0 < l.length → A = some ⟨g, 0, none⟩) ∧ c ≤ maxLen ∧
 (∀ i (hi : i < l.length), (∃ lo hi', I lo hi' w l[i] (rss.getD i [])) ∧ ∀ j, j < sz → w.cell? ⟨g, 0 + (sz * i + j), none⟩ = (rss.getD i [])[j]?) := by
 have hlen : ∀ i, i < rss.length → (rss.getD i []).length = sz := fun i hi => by
  obtain ⟨lo, hi', _, _, h3⟩ := h.it i (by rw [← h.len]; exact hi)
  exact L.len h3
 rcases h.row.2 with ⟨rfl, hn⟩ | ⟨g, cap, cur, rfl, hB, hh, hnc, hcm, hcs, htk⟩
 ·exact ⟨none, 0, 0, by rw [hn], by omega, fun _ => rfl, fun h => by omega, by unfold maxLen; omega, fun i hi => by omega⟩
 ·refine ⟨_, cap, g, rfl, hnc, (fun e => by cases e), fun _ => rfl, hcm, fun i hi => ⟨?_, fun j hj => ?_⟩⟩
  ·obtain ⟨lo, hi', _, _, h3⟩ := h.it i hi
   exact ⟨lo, hi', h3⟩
  ·rw [← flat_at hlen i j (by rw [h.len]; exact hi) hj, ← htk, List.getElem?_take]
   have hb : sz * i + j < l.length * sz := by
    have : sz * i + sz ≤ sz * l.length := by rw [← Nat.mul_succ]; exact Nat.mul_le_mul_left _ hi
    rw [Nat.mul_comm l.length]; omega
   rw [if_pos hb, Nat.zero_add]
   simp [World.cell?, hh]
end
theorem built {tb tO tE : TypeId} {B : Nat} {w : World} {k n : Int} {vB vL vD : Value} {b : List UInt8} {l : List Ob} {d : List (List UInt8 × Ob)} {rl rd : List (List Value)}
 (hk1 : -9223372036854775808 ≤ k) (hk2 : k ≤ 9223372036854775807) (hn1 : -9223372036854775808 ≤ n) (hn2 : n ≤ 9223372036854775807)
 (hb : w.ownsRow B tb 1 vB b.length (valsB b)) (hbm : b.length ≤ maxLen) (hL : RowG ObI tO 5 B w vL l rl) (hD : RowG EnI tE 6 B w vD d rd) :
 ObI B w.heap.size w (.mk k n b l d) [.int .i64 k, .int .i64 n, vB, vL, vD] := by
 refine ⟨Nat.le_refl _, fun w' h hz => ?_⟩
 have hb' := own_far hb h
 have hL' := hL.far ob_law h hz
 have hD' := hD.far en_law h hz
 obtain ⟨AL, cL, gL, rfl, h1, h2, h3, h4, h5⟩ := hL'.out ob_law (by omega)
 obtain ⟨AD, cD, gD, rfl, i1, i2, i3, i4, i5⟩ := hD'.out en_law (by omega)
 obtain ⟨A, c, rfl, hby⟩ := own_byt hb'
 have hbc : b.length ≤ c ∧ (A = none → c = 0) := by
  rcases hb'.2 with ⟨e, hn⟩ | ⟨g, cap, cur, e, _, _, hnc, _⟩
  ·injection e with e1 e2 e3; exact ⟨by omega, fun _ => e3⟩
  ·injection e with e1 e2 e3; exact ⟨by omega, fun e => by rw [e] at e1; cases e1⟩
 have hen : ∀ i (hi : i < d.length), ∃ us, rd.getD i [] = strV d[i].1 :: us ∧ d[i].1.length ≤ maxLen ∧ ObAt w' d[i].2 us := fun i hi => by
  obtain ⟨⟨lo, hi', us, e1, e2, e3⟩, _⟩ := i5 i hi
  exact ⟨us, e1, e2, e3.ob⟩
 refine ObAt.mk k n b l d A AL AD c cL cD gL 0 gD 0 (fun i => rl.getD i []) (fun i => (rd.getD i []).drop 1) hk1 hk2 hn1 hn2 (hby hbm) hbc.1 hbc.2 h1 (by omega) i1 (by omega) h3 (fun i hi => ?_) (fun i hi j hj => (h5 i hi).2 j hj) i3 (fun i hi => ?_) (fun i hi => ?_) (fun i hi j hj => ?_)
 ·obtain ⟨⟨lo, hi', e⟩, _⟩ := h5 i hi
  exact e.ob
 ·obtain ⟨us, e1, e2, e3⟩ := hen i hi
  show ObAt w' d[i].2 ((rd.getD i []).drop 1)
  rw [e1]; exact e3
 ·obtain ⟨us, e1, e2, e3⟩ := hen i hi
  have := (i5 i hi).2 0 (by omega)
  rw [e1] at this
  exact ⟨e2, this⟩
 ·have := (i5 i hi).2 (1 + j) (by omega)
  show _ = ((rd.getD i []).drop 1)[j]?
  rw [List.getElem?_drop, ← this]
  congr 2
  omega
end Go.Wk
namespace Go.Rd
open Go Go.Wk Go.Fx
abbrev Bs := List UInt8
inductive Res (α : Type) where
 | ok (v : α) (r : Bs)
 | err (e : Int) (r : Bs)
def whiteB (c : UInt8) : Bool := c == 0 || c == 9 || c == 10 || c == 12 || c == 13 || c == 32
def pk (r : Bs) (i : Nat) : Int := match r[i]? with | some b => (b.toNat : Int) | none => -1
def digI (x : Int) : Int := if 48 ≤ x ∧ x ≤ 57 then x - 48 else if 97 ≤ x ∧ x ≤ 102 then x - 87 else if 65 ≤ x ∧ x ≤ 70 then x - 55 else -1
def blankM : Bool → Bs → Bs
 | _, [] => []
 | true, c :: r => if c == 10 || c == 13 then blankM false r else blankM true r
 | false, c :: r => if whiteB c then blankM false r else if c == 37 then blankM true r else c :: r
def nameS : Nat → Bs → Bs → Res Bs
 | 0, _, r => .err 99 r
 | _ + 1, out, [] => .ok out []
 | f + 1, out, c :: t =>
  if regB c = false then .ok out (c :: t)
  else if c = 35 then
   if digI (pk t 0) < 0 ∨ digI (pk t 1) < 0 ∨ digI (pk t 0) + digI (pk t 1) = 0 then .err 4 t
   else if 127 ≤ out.length then .err 3 (t.drop 2)
   else nameS f (out ++ [UInt8.ofNat (digI (pk t 0) * 16 + digI (pk t 1)).toNat]) (t.drop 2)
  else if 127 ≤ out.length then .err 3 t
  else nameS f (out ++ [c]) t
def eolS (c : UInt8) (t : Bs) : Bs := if c = 13 ∧ t[0]? = some 10 then t.drop 1 else t
def octB (c : UInt8) : Bool := decide (48 ≤ c.toNat) && decide (c.toNat ≤ 55)
def octS : Nat → Nat → Bs → Nat × Bs
 | 0, n, r => (n, r)
 | _ + 1, n, [] => (n, [])
 | k + 1, n, c :: r => if octB c then octS k (8 * n + (c.toNat - 48)) r else (n, c :: r)
def escS (d : UInt8) (t : Bs) : Option UInt8 × Bs :=
 if d = 13 ∨ d = 10 then (none, eolS d t)
 else if octB d then (some (UInt8.ofNat ((octS 2 (d.toNat - 48) t).1 % 256)), (octS 2 (d.toNat - 48) t).2)
 else (some (if d = 110 then 10 else if d = 114 then 13 else if d = 116 then 9 else if d = 98 then 8 else if d = 102 then 12 else d), t)
def textS : Nat → Nat → Bs → Bs → Res Bs
 | 0, _, _, r => .err 99 r
 | _ + 1, _, _, [] => .err 2 []
 | f + 1, op, out, c :: t =>
  if c = 92 then
   match t with
   | [] => .err 2 []
   | d :: u =>
    match escS d u with
    | (none, v) => textS f op out v
    | (some x, v) => if 32767 ≤ out.length then .err 3 v else textS f op (out ++ [x]) v
  else if c = 41 ∧ op = 1 then .ok out t
  else if 32767 ≤ out.length then .err 3 t
  else if c = 13 ∨ c = 10 then textS f op (out ++ [10]) (eolS c t)
  else textS f (if c = 40 then op + 1 else if c = 41 then op - 1 else op) (out ++ [c]) t
def hexR : Nat → Int → Bs → Bs → Res Bs
 | 0, _, _, r => .err 99 r
 | _ + 1, _, _, [] => .err 2 []
 | f + 1, h, out, c :: t =>
  if whiteB c then hexR f h out t
  else if c = 62 then
   if h < 0 then .ok out t
   else if 32767 ≤ out.length then .err 3 t
   else .ok (out ++ [UInt8.ofNat (16 * h).toNat]) t
  else if digI c.toNat < 0 then .err 4 t
  else if h < 0 then hexR f (digI c.toNat) out t
  else if 32767 ≤ out.length then .err 3 t
  else hexR f (-1) (out ++ [UInt8.ofNat (16 * h + digI c.toNat).toNat]) t
structure Tok where
 k : Int
 n : Int
 b : Bs
def tokOf (k : Int) (at' : Bs) : Res Bs → Res Tok
 | .ok b r => .ok ⟨k, 0, b⟩ r
 | .err e _ => .err e at'
def runS (r : Bs) : Bs := r.takeWhile regB
def numS (at' : Bs) : Res Tok :=
 if (parseS (runS at')).2.2 = 0 then .ok ⟨if (parseS (runS at')).2.1 then 1 else 2, (parseS (runS at')).1, []⟩ (at'.drop (runS at').length)
 else .err (parseS (runS at')).2.2 at'
def numC (c : UInt8) : Bool := c == 43 || c == 45 || c == 46 || (decide (48 ≤ c.toNat) && decide (c.toNat ≤ 57))
def tokA : Bs → Res Tok
 | [] => .ok ⟨0, 0, []⟩ []
 | c :: t =>
  if c = 91 then .ok ⟨5, 0, []⟩ t
  else if c = 93 then .ok ⟨6, 0, []⟩ t
  else if c = 60 ∧ t[0]? = some 60 then .ok ⟨7, 0, []⟩ (t.drop 1)
  else if c = 62 ∧ t[0]? = some 62 then .ok ⟨8, 0, []⟩ (t.drop 1)
  else if c = 47 then tokOf 4 (c :: t) (nameS (t.length + 1) [] t)
  else if c = 40 then tokOf 3 (c :: t) (textS (t.length + 1) 1 [] t)
  else if c = 60 then tokOf 3 (c :: t) (hexR (t.length + 1) (-1) [] t)
  else if numC c then numS (c :: t)
  else if regB c then (if 127 < (runS (c :: t)).length then .err 3 (c :: t) else .ok ⟨9, 0, runS (c :: t)⟩ ((c :: t).drop (runS (c :: t)).length))
  else .err 4 (c :: t)
def tokS (r : Bs) : Res Tok := tokA (blankM false r)
def wholeS (plain : Bool) (n : Int) (r : Bs) : Ob × Bs :=
 if 1 ≤ n ∧ n ≤ 8388607 ∧ plain = false then
  match tokS r with
  | .ok t u => if t.k = 1 ∧ t.n = 0 then
   match tokS u with
   | .ok s v => if s.k = 9 ∧ s.b = [82] then (.mk 9 n [] [] [], v) else (.mk 2 n [] [] [], r)
   | .err _ _ => (.mk 2 n [] [] [], r)
   else (.mk 2 n [] [] [], r)
  | .err _ _ => (.mk 2 n [] [] [], r)
 else (.mk 2 n [] [] [], r)
def arrS (val : Bs → Res Ob) : Nat → List Ob → Bs → Res (List Ob)
 | 0, _, r => .err 99 r
 | f + 1, acc, r =>
  match tokS r with
  | .err e u => .err e u
  | .ok t u => if t.k = 6 then .ok acc u else
   match val r with
   | .err e u => .err e u
   | .ok o u => arrS val f (acc ++ [o]) u
def withL (K : Bs) (X : Ob) : Bool → List (Bs × Ob) → List (Bs × Ob)
 | put, [] => if put then [] else [(K, X)]
 | put, e :: r => (if !put && !ltB e.1 K then [(K, X)] else []) ++ ((if e.1 = K then [] else [e]) ++ withL K X (put || !ltB e.1 K) r)
def putE (K : Bs) (X : Ob) (d : List (Bs × Ob)) : List (Bs × Ob) := withL K X (X.kind == 0) d
def dictS (val : Bs → Res Ob) : Nat → List Bs → List (Bs × Ob) → Bs → Res (List (Bs × Ob))
 | 0, _, _, r => .err 99 r
 | f + 1, keys, acc, r =>
  match tokS r with
  | .err e u => .err e u
  | .ok t u => if t.k = 8 then .ok acc u
   else if t.k = 0 then .err 2 (blankM false r)
   else if t.k ≠ 4 then .err 4 (blankM false r)
   else if keys.contains t.b then .err 4 (blankM false r)
   else match val u with
    | .err e u => .err e u
    | .ok o u => dictS val f (keys ++ [t.b]) (putE t.b o acc) u
def wordS (b : Bs) : Option Ob := if b = [116, 114, 117, 101] then some (.mk 1 1 [] [] []) else if b = [102, 97, 108, 115, 101] then some (.mk 1 0 [] [] []) else if b = [110, 117, 108, 108] then some (.mk 0 0 [] [] []) else none
def valS (plain : Bool) (d : Nat) (r : Bs) : Res Ob :=
 match tokS r with
 | .err e u => .err e u
 | .ok t u =>
  if t.k = 0 then .err 2 (blankM false r)
  else if t.k = 1 then .ok (wholeS plain t.n u).1 (wholeS plain t.n u).2
  else if t.k = 2 then .ok (.mk 3 t.n [] [] []) u
  else if t.k = 3 then .ok (.mk 4 0 t.b [] []) u
  else if t.k = 4 then .ok (.mk 5 0 t.b [] []) u
  else if t.k = 9 then (match wordS t.b with | some o => .ok o u | none => .err 4 (blankM false r))
  else if t.k = 5 then
   match d with
   | 0 => .err 6 (blankM false r)
   | d + 1 => match arrS (valS plain d) (u.length + 1) [] u with | .ok l v => .ok (.mk 6 0 [] l []) v | .err e v => .err e v
  else if t.k = 7 then
   match d with
   | 0 => .err 6 (blankM false r)
   | d + 1 => match dictS (valS plain d) (u.length + 1) [] [] u with | .ok l v => .ok (.mk 7 0 [] [] l) v | .err e v => .err e v
  else .err 4 (blankM false r)
section
open Go Go.Wk Go.Fx Go.Lib
def Sep (T : Bs) : Prop := ∀ c, T[0]? = some c → regB c = false
theorem sep_cons {c : UInt8} {r : Bs} (h : regB c = false) : Sep (c :: r) := fun x hx => by
 have : c = x := by simpa using hx
 rw [← this]; exact h
theorem run_all {l T : Bs} (h : ∀ c ∈ l, regB c = true) (hT : Sep T) : runS (l ++ T) = l := by
 unfold runS
 induction l with
 | nil =>
  cases T with
  | nil => rfl
  | cons x T => simp [List.takeWhile_cons, hT x rfl]
 | cons x l ih =>
  rw [List.cons_append, List.takeWhile_cons, if_pos (h x (by simp)), ih fun c hc => h c (List.mem_cons_of_mem _ hc)]
theorem dig_hex (n : Nat) (h : n < 16) : digI ((hexD n).toNat : Int) = (n : Int) := by
 have : ∀ n : Fin 16, digI ((hexD n.1).toNat : Int) = (n.1 : Int) := by decide
 exact this ⟨n, h⟩
theorem hex_reg (n : Nat) (h : n < 16) : regB (hexD n) = true ∧ whiteB (hexD n) = false ∧ hexD n ≠ 62 ∧ hexD n ≠ 60 ∧ hexD n ≠ 37 := by
 have : ∀ n : Fin 16, regB (hexD n.1) = true ∧ whiteB (hexD n.1) = false ∧ hexD n.1 ≠ 62 ∧ hexD n.1 ≠ 60 ∧ hexD n.1 ≠ 37 := by decide
 exact this ⟨n, h⟩
theorem byte_back (c : UInt8) : UInt8.ofNat (((c.toNat / 16 : Nat) : Int) * 16 + ((c.toNat % 16 : Nat) : Int)).toNat = c ∧ UInt8.ofNat (16 * ((c.toNat / 16 : Nat) : Int) + ((c.toNat % 16 : Nat) : Int)).toNat = c := by
 have e : (((c.toNat / 16 : Nat) : Int) * 16 + ((c.toNat % 16 : Nat) : Int)).toNat = c.toNat := by omega
 have e2 : (16 * ((c.toNat / 16 : Nat) : Int) + ((c.toNat % 16 : Nat) : Int)).toNat = c.toNat := by omega
 rw [e, e2]; simp
theorem name_back {T : Bs} (hT : Sep T) : ∀ (s : Bs) (f : Nat) (out : Bs), s.length < f → out.length + s.length ≤ 127 → (∀ c ∈ s, c ≠ 0) → nameS f out (s.flatMap nameC ++ T) = .ok (out ++ s) T := by
 intro s
 induction s with
 | nil =>
  intro f out hf _ _
  obtain ⟨f, rfl⟩ : ∃ g, f = g + 1 := ⟨f - 1, by simp at hf; omega⟩
  cases T with
  | nil => simp [nameS]
  | cons x T => simp [nameS, hT x rfl]
 | cons c s ih =>
  intro f out hf hl h0
  obtain ⟨f, rfl⟩ : ∃ g, f = g + 1 := ⟨f - 1, by simp at hf; omega⟩
  simp only [List.length_cons] at hf hl
  have hn : ¬ 127 ≤ out.length := by omega
  have ihc := ih f (out ++ [c]) (by omega) (by simp; omega) fun x hx => h0 x (List.mem_cons_of_mem _ hx)
  rw [List.append_assoc, List.singleton_append] at ihc
  have hcc : nameC c = if 33 ≤ c.toNat ∧ c.toNat ≤ 126 ∧ c ≠ 35 ∧ regB c = true then [c] else 35 :: hexS [c] := rfl
  rw [List.flatMap_cons, List.append_assoc, hcc]
  split
  ·rename_i h
   obtain ⟨h1, h2, h3, h4⟩ := h
   simp only [List.cons_append, List.nil_append, nameS, h4, Bool.true_eq_false, if_false, h3, hn]
   exact ihc
  ·have hd1 := dig_hex (c.toNat / 16) (by have := c.toNat_lt; omega)
   have hd2 := dig_hex (c.toNat % 16) (by omega)
   have e1 : pk ([hexD (c.toNat / 16), hexD (c.toNat % 16)] ++ (s.flatMap nameC ++ T)) 0 = ((hexD (c.toNat / 16)).toNat : Int) := by simp [pk]
   have e2 : pk ([hexD (c.toNat / 16), hexD (c.toNat % 16)] ++ (s.flatMap nameC ++ T)) 1 = ((hexD (c.toNat % 16)).toNat : Int) := by simp [pk]
   have hne : c.toNat ≠ 0 := fun h => h0 c (by simp) (UInt8.toNat_inj.1 (by rw [h]; rfl))
   have e3 : hexS [c] = [hexD (c.toNat / 16), hexD (c.toNat % 16)] := by simp [hexS]
   have r35 : ¬ regB 35 = false := by decide
   rw [List.cons_append, nameS, e3, if_neg r35, if_pos rfl, e1, e2, hd1, hd2, if_neg (by omega), if_neg hn, (byte_back c).1]
   exact ihc
theorem text_back {T : Bs} : ∀ (b : Bs) (f : Nat) (out : Bs), b.length < f → out.length + b.length ≤ 32767 → (∀ c ∈ b, plainB c = true) → textS f 1 out (b ++ 41 :: T) = .ok (out ++ b) T := by
 intro b
 induction b with
 | nil =>
  intro f out hf _ _
  obtain ⟨f, rfl⟩ : ∃ g, f = g + 1 := ⟨f - 1, by simp at hf; omega⟩
  simp [textS]
 | cons c b ih =>
  intro f out hf hl h0
  obtain ⟨f, rfl⟩ : ∃ g, f = g + 1 := ⟨f - 1, by simp at hf; omega⟩
  simp only [List.length_cons] at hf hl
  have hn : ¬ 32767 ≤ out.length := by omega
  have ihc := ih f (out ++ [c]) (by omega) (by simp; omega) fun x hx => h0 x (List.mem_cons_of_mem _ hx)
  rw [List.append_assoc, List.singleton_append] at ihc
  have hc := h0 c (by simp)
  simp only [plainB, Bool.and_eq_true, decide_eq_true_eq, bne_iff_ne] at hc
  obtain ⟨⟨⟨⟨g1, g2⟩, g3⟩, g4⟩, g5⟩ := hc
  have n13 : ¬ (c = 13 ∨ c = 10) := fun h => by rcases h with h | h <;> rw [h] at g1 <;> exact absurd g1 (by decide)
  rw [List.cons_append, textS.eq_def]
  simp only []
  rw [if_neg g5, if_neg (fun h => g4 h.1), if_neg hn, if_neg n13, if_neg g3, if_neg g4]
  exact ihc
theorem hex_back {T : Bs} : ∀ (b : Bs) (f : Nat) (out : Bs), 2 * b.length < f → out.length + b.length ≤ 32767 → hexR f (-1) out (hexS b ++ 62 :: T) = .ok (out ++ b) T := by
 intro b
 induction b with
 | nil =>
  intro f out hf _
  obtain ⟨f, rfl⟩ : ∃ g, f = g + 1 := ⟨f - 1, by simp at hf; omega⟩
  have w62 : ¬ whiteB 62 = true := by decide
  simp [hexS, hexR, w62]
 | cons c b ih =>
  intro f out hf hl
  obtain ⟨f, rfl⟩ : ∃ g, f = g + 2 := ⟨f - 2, by simp at hf; omega⟩
  simp only [List.length_cons] at hf hl
  have hn : ¬ 32767 ≤ out.length := by omega
  have ihc := ih f (out ++ [c]) (by omega) (by simp; omega)
  rw [List.append_assoc, List.singleton_append] at ihc
  have lt1 : c.toNat / 16 < 16 := by have := c.toNat_lt; omega
  have lt2 : c.toNat % 16 < 16 := by omega
  have hd1 := dig_hex _ lt1
  have hd2 := dig_hex _ lt2
  obtain ⟨_, a1, a2, _, _⟩ := hex_reg _ lt1
  obtain ⟨_, b1, b2, _, _⟩ := hex_reg _ lt2
  have e3 : hexS (c :: b) ++ 62 :: T = hexD (c.toNat / 16) :: hexD (c.toNat % 16) :: (hexS b ++ 62 :: T) := by simp [hexS]
  rw [e3, hexR, a1, if_neg (by decide), if_neg a2, hd1, if_neg (by omega), if_pos (by omega), hexR, b1, if_neg (by decide), if_neg b2, hd2, if_neg (by omega), if_neg (by omega), if_neg hn, (byte_back c).2]
  exact ihc
theorem blank_here {c : UInt8} {r : Bs} (h1 : whiteB c = false) (h2 : c ≠ 37) : blankM false (c :: r) = c :: r := by
 rw [blankM, h1]; simp [h2]
theorem tok_sp (r : Bs) : tokS (32 :: r) = tokS r := by
 unfold tokS
 have w : whiteB 32 = true := by decide
 rw [blankM, w]; rfl
theorem tok_here {c : UInt8} {r : Bs} (h1 : whiteB c = false) (h2 : c ≠ 37) : tokS (c :: r) = tokA (c :: r) := by unfold tokS; rw [blank_here h1 h2]
theorem fm_len (s : Bs) : s.length ≤ (s.flatMap nameC).length := by
 induction s with
 | nil => simp
 | cons c s ih =>
  have : 1 ≤ (nameC c).length := by unfold nameC; split <;> simp
  rw [List.flatMap_cons, List.length_append, List.length_cons]; omega
theorem nameOk_iff {s : Bs} (h : nameOk s = true) : s.length ≤ 127 ∧ ∀ c ∈ s, c ≠ 0 := by
 unfold nameOk at h
 simp only [Bool.and_eq_true, decide_eq_true_eq, Bool.not_eq_true', List.contains_eq_mem, decide_eq_false_iff_not] at h
 exact ⟨h.1, fun c hc e => h.2 (by rw [← e]; exact hc)⟩
theorem tok_name {s T : Bs} (h : nameOk s = true) (hT : Sep T) : tokS (nameT s ++ T) = .ok ⟨4, 0, s⟩ T := by
 obtain ⟨h1, h2⟩ := nameOk_iff h
 unfold nameT
 rw [List.cons_append, tok_here (by decide) (by decide), tokA, if_neg (by decide), if_neg (by decide), if_neg (by rintro ⟨h, _⟩; exact absurd h (by decide)), if_neg (by rintro ⟨h, _⟩; exact absurd h (by decide)), if_pos rfl]
 have := fm_len s
 rw [name_back hT s _ [] (by simp only [List.length_append]; omega) (by simpa using h1) h2]
 rfl
theorem hexS_cons (c : UInt8) (b : Bs) : hexS (c :: b) = hexD (c.toNat / 16) :: hexD (c.toNat % 16) :: hexS b := by simp [hexS]
theorem tok_text {b : Bs} (T : Bs) (h : b.length ≤ 32767) : tokS (textT b ++ T) = .ok ⟨3, 0, b⟩ T := by
 unfold textT
 split
 ·rename_i hp
  have hp2 : ∀ c ∈ b, plainB c = true := by simpa using hp
  rw [List.cons_append, tok_here (by decide) (by decide), tokA, if_neg (by decide), if_neg (by decide), if_neg (by rintro ⟨h, _⟩; exact absurd h (by decide)), if_neg (by rintro ⟨h, _⟩; exact absurd h (by decide)), if_neg (by decide), if_pos rfl, List.append_assoc, List.singleton_append,
   text_back b _ [] (by simp; omega) (by simpa using h) hp2]
  rfl
 ·rename_i hp
  obtain ⟨c, b', rfl⟩ : ∃ c b', b = c :: b' := by
   cases b with
   | nil => exact absurd rfl hp
   | cons c b => exact ⟨c, b, rfl⟩
  obtain ⟨_, _, _, a4, _⟩ := hex_reg (c.toNat / 16) (by have := c.toNat_lt; omega)
  have hne : ¬ ((60 : UInt8) = 60 ∧ (hexS (c :: b') ++ [62] ++ T)[0]? = some 60) := by
   rintro ⟨_, h2⟩
   rw [hexS_cons] at h2
   exact a4 (by simpa using h2)
  rw [List.cons_append, tok_here (by decide) (by decide), tokA, if_neg (by decide), if_neg (by decide), if_neg hne, if_neg (by rintro ⟨h, _⟩; exact absurd h (by decide)), if_neg (by decide), if_neg (by decide), if_pos rfl, List.append_assoc, List.singleton_append,
   hex_back (c :: b') _ [] (by have := hexS_len (c :: b'); simp only [List.length_append, List.length_cons] at this ⊢; omega) (by simpa using h)]
  rfl
theorem dig_ok {c : UInt8} (h : isD c = true) : regB c = true ∧ whiteB c = false ∧ c ≠ 37 ∧ numC c = true ∧ c ≠ 91 ∧ c ≠ 93 ∧ c ≠ 60 ∧ c ≠ 62 ∧ c ≠ 47 ∧ c ≠ 40 := by
 have : ∀ c : UInt8, isD c = true → regB c = true ∧ whiteB c = false ∧ c ≠ 37 ∧ numC c = true ∧ c ≠ 91 ∧ c ≠ 93 ∧ c ≠ 60 ∧ c ≠ 62 ∧ c ≠ 47 ∧ c ≠ 40 := by
  intro c h
  simp only [isD, Bool.and_eq_true, decide_eq_true_eq] at h
  have hc : ∀ d : UInt8, (d.toNat < 48 ∨ 57 < d.toNat) → c ≠ d := fun d hd e => by rw [e] at h; omega
  have n1 := fun d hd => (beq_eq_false_iff_ne.2 (hc d hd))
  refine ⟨?_, ?_, hc _ (by decide), ?_, hc _ (by decide), hc _ (by decide), hc _ (by decide), hc _ (by decide), hc _ (by decide), hc _ (by decide)⟩
  ·unfold regB
   rw [n1 0 (by decide), n1 9 (by decide), n1 10 (by decide), n1 12 (by decide), n1 13 (by decide), n1 32 (by decide), n1 40 (by decide), n1 41 (by decide), n1 60 (by decide), n1 62 (by decide), n1 91 (by decide), n1 93 (by decide), n1 123 (by decide), n1 125 (by decide), n1 47 (by decide), n1 37 (by decide)]
   rfl
  ·unfold whiteB
   rw [n1 0 (by decide), n1 9 (by decide), n1 10 (by decide), n1 12 (by decide), n1 13 (by decide), n1 32 (by decide)]
   rfl
  ·unfold numC
   simp [h.1, h.2]
 exact this c h
theorem num_bytes (n : Int) (w : Bool) : (∀ c ∈ numT n w, isD c = true ∨ c = 45 ∨ c = 46) ∧ ∃ c r, numT n w = c :: r ∧ (isD c = true ∨ c = 45) := by
 have hit : ∀ m : Int, (∀ c ∈ itoa m, isD c = true ∨ c = 45 ∨ c = 46) ∧ ∃ c r, itoa m = c :: r ∧ (isD c = true ∨ c = 45) := by
  intro m
  unfold itoa
  split
  ·exact ⟨fun c hc => by
    rcases List.mem_cons.1 hc with h | h
    ·exact .inr (.inl h)
    ·exact .inl (dec_isD _ c h), _, _, rfl, .inr rfl⟩
  ·refine ⟨fun c hc => .inl (dec_isD _ c hc), ?_⟩
   have hp := dec_pos m.toNat
   cases h : decDigits m.toNat with
   | nil => rw [h] at hp; simp at hp
   | cons c r => exact ⟨c, r, rfl, .inl (dec_isD m.toNat c (by rw [h]; simp))⟩
 unfold numT
 split
 ·exact hit n
 ·have hf := frac_isD (n.natAbs % 100000) (by omega)
  have hp := dec_pos (n.natAbs / 100000)
  have hd := dec_isD (n.natAbs / 100000)
  refine ⟨fun c hc => ?_, ?_⟩
  ·rcases List.mem_append.1 hc with h | h
   ·split at h
    ·exact .inr (.inl (by simpa using h))
    ·simp at h
   ·rcases List.mem_append.1 h with h | h
    ·exact .inl (hd c h)
    ·rcases List.mem_cons.1 h with h | h
     ·exact .inr (.inr h)
     ·exact .inl (hf c h)
  ·split
   ·exact ⟨_, _, rfl, .inr rfl⟩
   ·cases h : decDigits (n.natAbs / 100000) with
    | nil => rw [h] at hp; simp at hp
    | cons c r => exact ⟨c, _, rfl, .inl (hd c (by rw [h]; simp))⟩
theorem tok_num {n : Int} {w : Bool} {T : Bs} (hn : isIn n = true) (hw : w = true → -2147483647 ≤ n ∧ n ≤ 2147483647) (hT : Sep T) : tokS (numT n w ++ T) = .ok ⟨if w then 1 else 2, n, []⟩ T := by
 obtain ⟨h1, c, r, e, h2⟩ := num_bytes n w
 have hreg : ∀ x ∈ numT n w, regB x = true := fun x hx => by
  rcases h1 x hx with h | h | h
  ·exact (dig_ok h).1
  ·rw [h]; decide
  ·rw [h]; decide
 have hrun := run_all hreg hT
 have hp := parse_text n w hn hw
 have hc : whiteB c = false ∧ c ≠ 37 ∧ numC c = true ∧ c ≠ 91 ∧ c ≠ 93 ∧ c ≠ 60 ∧ c ≠ 62 ∧ c ≠ 47 ∧ c ≠ 40 := by
  rcases h2 with h | h
  ·exact (dig_ok h).2
  ·rw [h]; decide
 obtain ⟨c1, c2, c3, c4, c5, c6, c7, c8, c9⟩ := hc
 have hcons : numT n w ++ T = c :: (r ++ T) := by rw [e]; rfl
 rw [hcons, tok_here c1 c2, tokA, if_neg c4, if_neg c5, if_neg (fun h => c6 h.1), if_neg (fun h => c7 h.1), if_neg c8, if_neg c9, if_neg c6, if_pos c3, ← hcons]
 unfold numS
 rw [hrun, hp, if_pos rfl, List.drop_left]
theorem tok_word {l T : Bs} {c : UInt8} {r : Bs} (e : l = c :: r) (h : ∀ x ∈ l, regB x = true) (hl : l.length ≤ 127) (hw : whiteB c = false) (hc : c ≠ 37 ∧ c ≠ 91 ∧ c ≠ 93 ∧ c ≠ 60 ∧ c ≠ 62 ∧ c ≠ 47 ∧ c ≠ 40) (hn : numC c = false) (hT : Sep T) : tokS (l ++ T) = .ok ⟨9, 0, l⟩ T := by
 have hrun := run_all h hT
 obtain ⟨c2, c4, c5, c6, c7, c8, c9⟩ := hc
 have hcons : l ++ T = c :: (r ++ T) := by rw [e]; rfl
 have hr : regB c = true := h c (by rw [e]; simp)
 rw [hcons, tok_here hw c2, tokA, if_neg c4, if_neg c5, if_neg (fun h => c6 h.1), if_neg (fun h => c7 h.1), if_neg c8, if_neg c9, if_neg c6, hn, if_neg (by decide), if_pos hr, ← hcons, hrun, if_neg (by omega), List.drop_left]
theorem tok_true {T : Bs} (hT : Sep T) : tokS ([116, 114, 117, 101] ++ T) = .ok ⟨9, 0, [116, 114, 117, 101]⟩ T := tok_word rfl (by decide) (by decide) (by decide) (by decide) (by decide) hT
theorem tok_false {T : Bs} (hT : Sep T) : tokS ([102, 97, 108, 115, 101] ++ T) = .ok ⟨9, 0, [102, 97, 108, 115, 101]⟩ T := tok_word rfl (by decide) (by decide) (by decide) (by decide) (by decide) hT
theorem tok_null {T : Bs} (hT : Sep T) : tokS ([110, 117, 108, 108] ++ T) = .ok ⟨9, 0, [110, 117, 108, 108]⟩ T := tok_word rfl (by decide) (by decide) (by decide) (by decide) (by decide) hT
theorem tok_R {T : Bs} (hT : Sep T) : tokS ([82] ++ T) = .ok ⟨9, 0, [82]⟩ T := tok_word rfl (by decide) (by decide) (by decide) (by decide) (by decide) hT
theorem tok_open (T : Bs) : tokS (91 :: T) = .ok ⟨5, 0, []⟩ T := by rw [tok_here (by decide) (by decide), tokA, if_pos rfl]
theorem tok_close (T : Bs) : tokS (93 :: T) = .ok ⟨6, 0, []⟩ T := by rw [tok_here (by decide) (by decide), tokA, if_neg (by decide), if_pos rfl]
theorem tok_left (T : Bs) : tokS (60 :: 60 :: T) = .ok ⟨7, 0, []⟩ T := by rw [tok_here (by decide) (by decide), tokA, if_neg (by decide), if_neg (by decide), if_pos ⟨rfl, rfl⟩]; rfl
theorem tok_right (T : Bs) : tokS (62 :: 62 :: T) = .ok ⟨8, 0, []⟩ T := by rw [tok_here (by decide) (by decide), tokA, if_neg (by decide), if_neg (by decide), if_neg (by rintro ⟨h, _⟩; exact absurd h (by decide)), if_pos ⟨rfl, rfl⟩]; rfl
end
section
open Go Go.Wk Go.Fx Go.Lib
inductive MayK (dep : Nat) : Ob → Prop
 | null : MayK dep (.mk 0 0 [] [] [])
 | bool (n : Int) : n = 0 ∨ n = 1 → MayK dep (.mk 1 n [] [] [])
 | int (n : Int) : -2147483647 ≤ n ∧ n ≤ 2147483647 → MayK dep (.mk 2 n [] [] [])
 | real (n : Int) : -214748364799999 ≤ n ∧ n ≤ 214748364799999 → MayK dep (.mk 3 n [] [] [])
 | str (b : Bs) : b.length ≤ 32767 → MayK dep (.mk 4 0 b [] [])
 | name (b : Bs) : nameOk b = true → MayK dep (.mk 5 0 b [] [])
 | arr (l : List Ob) : 0 < dep → mayL (dep - 1) l = true → MayK dep (.mk 6 0 [] l [])
 | dict (d : List (Bs × Ob)) : 0 < dep → risesB d = true → mayD (dep - 1) d = true → MayK dep (.mk 7 0 [] [] d)
 | stm (b : Bs) (d : List (Bs × Ob)) : 0 < dep → risesB d = true → mayD (dep - 1) d = true → b.length ≤ 16777216 → MayK dep (.mk 8 0 b [] d)
 | ref (n : Int) : 1 ≤ n ∧ n ≤ 8388607 → MayK dep (.mk 9 n [] [] [])
theorem may_K {dep : Nat} {o : Ob} (h : o.may dep = true) : MayK dep o := by
 obtain ⟨k, n, b, l, d⟩ := o
 rw [Ob.may] at h
 rw [Bool.and_eq_true] at h
 obtain ⟨h1, h2⟩ := h
 simp only [spareB, Bool.and_eq_true, Bool.or_eq_true, beq_iff_eq] at h1
 obtain ⟨⟨⟨s1, s2⟩, s3⟩, s4⟩ := h1
 have eb : b.length = 0 → b = [] := List.length_eq_zero_iff.1
 have el : l.length = 0 → l = [] := List.length_eq_zero_iff.1
 have ed : d.length = 0 → d = [] := List.length_eq_zero_iff.1
 split at h2
 ·rename_i e; subst e
  obtain rfl : n = 0 := by omega
  obtain rfl := eb (by omega); obtain rfl := el (by omega); obtain rfl := ed (by omega)
  exact .null
 split at h2
 ·rename_i e; subst e
  obtain rfl := eb (by omega); obtain rfl := el (by omega); obtain rfl := ed (by omega)
  have := of_decide_eq_true h2
  exact .bool n (by omega)
 split at h2
 ·rename_i e; subst e
  obtain rfl := eb (by omega); obtain rfl := el (by omega); obtain rfl := ed (by omega)
  exact .int n (of_decide_eq_true h2)
 split at h2
 ·rename_i e; subst e
  obtain rfl := eb (by omega); obtain rfl := el (by omega); obtain rfl := ed (by omega)
  exact .real n (of_decide_eq_true h2)
 split at h2
 ·rename_i e; subst e
  obtain rfl := eb (by omega); obtain rfl := el (by omega); obtain rfl := ed (by omega)
  exact .ref n (of_decide_eq_true h2)
 split at h2
 ·rename_i e; subst e
  obtain rfl : n = 0 := by omega
  obtain rfl := el (by omega); obtain rfl := ed (by omega)
  exact .str b (of_decide_eq_true h2)
 split at h2
 ·rename_i e; subst e
  obtain rfl : n = 0 := by omega
  obtain rfl := el (by omega); obtain rfl := ed (by omega)
  exact .name b h2
 split at h2
 ·rename_i e; subst e
  obtain rfl : n = 0 := by omega
  obtain rfl := eb (by omega); obtain rfl := ed (by omega)
  rw [Bool.and_eq_true] at h2
  exact .arr l (of_decide_eq_true h2.1) h2.2
 split at h2
 ·rename_i e
  simp only [Bool.and_eq_true, decide_eq_true_eq] at h2
  obtain ⟨⟨⟨m1, m2⟩, m3⟩, m4⟩ := h2
  rcases e with e | e <;> subst e
  ·obtain rfl : n = 0 := by omega
   obtain rfl := eb (by omega); obtain rfl := el (by omega)
   exact .dict d m1 m2 m4
  ·obtain rfl : n = 0 := by omega
   obtain rfl := el (by omega)
   exact .stm b d m1 m2 m4 m3
 ·cases h2
def NR (T : Bs) : Prop := ∀ n, wholeS false n T = (.mk 2 n [] [] [], T)
def NW (T : Bs) : Prop := ∀ t u, tokS T = .ok t u → ¬ (t.k = 9 ∧ t.b = [82])
theorem nr_of {T : Bs} (h : ∀ t u, tokS T = .ok t u → t.k = 1 ∧ t.n = 0 → NW u) : NR T := by
 intro n
 unfold wholeS
 split
 ·cases ht : tokS T with
  | err e u => rfl
  | ok t u =>
   simp only []
   split
   ·rename_i hk
    cases hu : tokS u with
    | err e v => rfl
    | ok s v =>
     simp only []
     rw [if_neg (h t u ht hk s v hu)]
   ·rfl
 ·rfl
theorem nw_sp {T : Bs} (h : NW T) : NW (32 :: T) := fun t u => by rw [tok_sp]; exact h t u
theorem first_tok {dep : Nat} {o : Ob} (h : o.may dep = true) (h8 : o.kind ≠ 8) {T : Bs} (hT : Sep T) : ∃ t u, tokS (o.show ++ T) = .ok t u ∧ ¬ (t.k = 9 ∧ t.b = [82]) ∧ (t.k = 1 ∧ t.n = 0 → u = T) ∧ t.k ≠ 6 := by
 cases may_K h with
 | null => exact ⟨_, _, tok_null hT, by simp, by simp, by simp⟩
 | bool n hn =>
  rcases hn with rfl | rfl
  ·exact ⟨_, _, tok_false hT, by simp, by simp, by simp⟩
  ·exact ⟨_, _, tok_true hT, by simp, by simp, by simp⟩
 | int n hn => exact ⟨_, _, tok_num (w := true) (by unfold isIn; simp; omega) (fun _ => hn) hT, by simp, fun _ => rfl, by simp⟩
 | real n hn => exact ⟨_, _, tok_num (w := false) (by unfold isIn; simp; omega) (by simp) hT, by simp, fun _ => rfl, by simp⟩
 | str b hb => exact ⟨_, _, tok_text T hb, by simp, by simp, by simp⟩
 | name b hb => exact ⟨_, _, tok_name hb hT, by simp, by simp, by simp⟩
 | arr l _ _ => exact ⟨⟨5, 0, []⟩, showL true l ++ [93] ++ T, by rw [← tok_open]; rfl, by simp, by simp, by simp⟩
 | dict d _ _ _ => exact ⟨⟨7, 0, []⟩, showD d ++ [62, 62] ++ T, by rw [← tok_left]; rfl, by simp, by simp, by simp⟩
 | stm b d _ _ _ _ => exact absurd rfl h8
 | ref n hn =>
  have e : (Ob.mk 9 n [] [] []).show ++ T = numT n true ++ (32 :: 48 :: 32 :: 82 :: T) := by simp [Ob.show]
  refine ⟨_, _, by rw [e]; exact tok_num (w := true) (by unfold isIn; simp; omega) (fun _ => by omega) (sep_cons (by decide)), by simp, fun h => ?_, by simp⟩
  have := h.2
  simp only at this
  omega
theorem nw_show {dep : Nat} {o : Ob} (h : o.may dep = true) (h8 : o.kind ≠ 8) {T : Bs} (hT : Sep T) : NW (o.show ++ T) := fun t u ht => by
 obtain ⟨t', u', h1, h2, _⟩ := first_tok h h8 hT
 rw [h1] at ht
 cases ht
 exact h2
theorem nr_show {dep : Nat} {o : Ob} (h : o.may dep = true) (h8 : o.kind ≠ 8) {T : Bs} (hT : Sep T) (hw : NW T) : NR (32 :: (o.show ++ T)) := nr_of fun t u ht hk => by
 obtain ⟨t', u', h1, h2, h3, _⟩ := first_tok h h8 hT
 rw [tok_sp, h1] at ht
 cases ht
 rw [h3 hk]
 exact hw
theorem nr_tok {T : Bs} {t : Tok} {u : Bs} (h : tokS T = .ok t u) (hk : t.k ≠ 1) : NR T := nr_of fun t' u' ht hk' => by
 rw [h] at ht
 cases ht
 exact absurd hk'.1 hk
theorem nw_tok {T : Bs} {t : Tok} {u : Bs} (h : tokS T = .ok t u) (hk : t.k ≠ 9) : NW T := fun t' u' ht hk' => by
 rw [h] at ht
 cases ht
 exact hk hk'.1
theorem tail_L {dep : Nat} (T : Bs) : ∀ l, mayL dep l = true → Sep (showL false l ++ 93 :: T) ∧ NW (showL false l ++ 93 :: T) ∧ NR (showL false l ++ 93 :: T)
 | [], _ => ⟨sep_cons (by decide), nw_tok (tok_close T) (by decide), nr_tok (tok_close T) (by decide)⟩
 | o :: r, h => by
  simp only [mayL, Bool.and_eq_true, bne_iff_ne] at h
  obtain ⟨⟨h8, hm⟩, hr⟩ := h
  obtain ⟨i1, i2, i3⟩ := tail_L T r hr
  have e : showL false (o :: r) ++ 93 :: T = 32 :: (o.show ++ (showL false r ++ 93 :: T)) := by simp [showL]
  rw [e]
  exact ⟨sep_cons (by decide), nw_sp (nw_show hm h8 i1), nr_show hm h8 i1 i2⟩
theorem tail_D {dep : Nat} (T : Bs) : ∀ d, mayD dep d = true → Sep (showD d ++ 62 :: 62 :: T) ∧ NW (showD d ++ 62 :: 62 :: T) ∧ NR (showD d ++ 62 :: 62 :: T)
 | [], _ => ⟨sep_cons (by decide), nw_tok (tok_right T) (by decide), nr_tok (tok_right T) (by decide)⟩
 | e :: r, h => by
  simp only [mayD, Bool.and_eq_true, bne_iff_ne] at h
  obtain ⟨⟨⟨⟨hn, _⟩, h8⟩, hm⟩, hr⟩ := h
  have e1 : showD (e :: r) ++ 62 :: 62 :: T = nameT e.1 ++ (32 :: (e.2.show ++ showD r ++ 62 :: 62 :: T)) := by simp [showD]
  have ht := tok_name (T := 32 :: (e.2.show ++ showD r ++ 62 :: 62 :: T)) hn (sep_cons (by decide))
  rw [e1]
  exact ⟨sep_cons (by decide), nw_tok ht (by show (4 : Int) ≠ 9; decide), nr_tok ht (by show (4 : Int) ≠ 1; decide)⟩
theorem val_sp (pl : Bool) (d : Nat) (r : Bs) : valS pl d (32 :: r) = valS pl d r := by
 have hb : blankM false (32 :: r) = blankM false r := by
  have w : whiteB 32 = true := by decide
  rw [blankM, w]; rfl
 rw [valS.eq_def, valS.eq_def, tok_sp, hb]
theorem show_pos (o : Ob) : 0 < o.show.length := by
 obtain ⟨k, n, b, l, d⟩ := o
 obtain ⟨_, c, r, e, _⟩ := num_bytes n true
 obtain ⟨_, c', r', e', _⟩ := num_bytes n false
 have h1 : 0 < (numT n true).length := by rw [e]; simp
 have h2 : 0 < (numT n false).length := by rw [e']; simp
 unfold Ob.show
 repeat' split
 all_goals first | (simp; done) | exact h1 | exact h2 | (simp only [textT]; split <;> simp; done) | (simp [nameT]; done) | (simp only [List.length_append]; omega)
theorem showL_len : ∀ (l : List Ob) (f : Bool), l.length ≤ (showL f l).length
 | [], _ => by simp
 | o :: r, f => by
  have := showL_len r false
  have := show_pos o
  simp only [showL, List.length_append, List.length_cons]; omega
theorem showD_len : ∀ (d : List (Bs × Ob)), d.length ≤ (showD d).length
 | [] => by simp
 | e :: r => by
  have := showD_len r
  simp only [showD, List.length_append, List.length_cons]; omega
theorem lt_irr : ∀ a : Bs, ltB a a = false
 | [] => rfl
 | x :: a => by simp [ltB, UInt8.lt_irrefl, lt_irr a]
theorem lt_trans : ∀ {a b c : Bs}, ltB a b = true → ltB b c = true → ltB a c = true
 | _, [], _, h, _ => by simp [ltB] at h
 | _, _ :: _, [], _, h => by simp [ltB] at h
 | [], _ :: _, _ :: _, _, _ => rfl
 | x :: a, y :: b, z :: c, h1, h2 => by
  unfold ltB at h1 h2 ⊢
  simp only [UInt8.lt_iff_toNat_lt] at h1 h2 ⊢
  split at h1
  ·split at h2
   ·rw [if_pos (by omega)]
   ·split at h2
    ·cases h2
    ·rw [if_pos (by omega)]
  ·split at h1
   ·cases h1
   ·split at h2
    ·rw [if_pos (by omega)]
    ·split at h2
     ·cases h2
     ·rw [if_neg (by omega), if_neg (by omega)]
      exact lt_trans h1 h2
theorem rises_all : ∀ (d : List (Bs × Ob)), risesB d = true → d.Pairwise fun a b => ltB a.1 b.1 = true
 | [], _ => .nil
 | [a], _ => by simp
 | a :: b :: r, h => by
  simp only [risesB, Bool.and_eq_true] at h
  have ih := rises_all (b :: r) h.2
  refine List.Pairwise.cons (fun x hx => ?_) ih
  rcases List.mem_cons.1 hx with e | e
  ·rw [e]; exact h.1
  ·exact lt_trans h.1 ((List.pairwise_cons.1 ih).1 x e)
theorem with_last {K : Bs} {X : Ob} : ∀ {d : List (Bs × Ob)}, (∀ e ∈ d, ltB e.1 K = true) → withL K X false d = d ++ [(K, X)]
 | [], _ => rfl
 | e :: r, h => by
  have h1 := h e (by simp)
  have hne : e.1 ≠ K := fun e1 => by rw [e1, lt_irr] at h1; cases h1
  have ih := with_last (X := X) (d := r) fun x hx => h x (List.mem_cons_of_mem _ hx)
  simp only [withL, h1, hne, Bool.not_true, Bool.and_false, Bool.or_false, if_false, Bool.false_eq_true, ih]
  rfl
theorem put_last {K : Bs} {X : Ob} {d : List (Bs × Ob)} (h : ∀ e ∈ d, ltB e.1 K = true) (hX : X.kind ≠ 0) : putE K X d = d ++ [(K, X)] := by
 unfold putE
 rw [beq_eq_false_iff_ne.2 hX]
 exact with_last h
def Back (dep : Nat) : Prop := ∀ o : Ob, o.may dep = true → o.kind ≠ 8 → ∀ T, Sep T → NR T → valS false dep (o.show ++ T) = .ok o T
theorem arr_back {dep : Nat} (hb : Back dep) (T : Bs) : ∀ (l : List Ob) (fst : Bool) (f : Nat) (acc : List Ob), mayL dep l = true → l.length < f → arrS (valS false dep) f acc (showL fst l ++ 93 :: T) = .ok (acc ++ l) T
 | [], fst, f, acc, _, hf => by
  obtain ⟨f, rfl⟩ : ∃ g, f = g + 1 := ⟨f - 1, by simp at hf; omega⟩
  simp [showL, arrS, tok_close]
 | o :: r, fst, f, acc, h, hf => by
  obtain ⟨f, rfl⟩ : ∃ g, f = g + 1 := ⟨f - 1, by simp at hf; omega⟩
  simp only [mayL, Bool.and_eq_true, bne_iff_ne] at h
  obtain ⟨⟨h8, hm⟩, hr⟩ := h
  obtain ⟨i1, i2, i3⟩ := tail_L T r hr
  have ih := arr_back hb T r false f (acc ++ [o]) hr (by simp at hf; omega)
  obtain ⟨t, u, t1, t2, t3, t4⟩ := first_tok hm h8 i1
  have hv := hb o hm h8 _ i1 i3
  have e : ∀ fst, tokS (showL fst (o :: r) ++ 93 :: T) = .ok t u ∧ valS false dep (showL fst (o :: r) ++ 93 :: T) = .ok o (showL false r ++ 93 :: T) := fun fst => by
   cases fst
   ·have e : showL false (o :: r) ++ 93 :: T = 32 :: (o.show ++ (showL false r ++ 93 :: T)) := by simp [showL]
    rw [e, tok_sp, val_sp]; exact ⟨t1, hv⟩
   ·have e : showL true (o :: r) ++ 93 :: T = o.show ++ (showL false r ++ 93 :: T) := by simp [showL]
    rw [e]; exact ⟨t1, hv⟩
  obtain ⟨e1, e2⟩ := e fst
  rw [arrS, e1]
  simp only []
  rw [if_neg t4, e2]
  simp only []
  rw [ih, List.append_assoc]; rfl
theorem dict_back {dep : Nat} (hb : Back dep) (T : Bs) : ∀ (d : List (Bs × Ob)) (f : Nat) (acc : List (Bs × Ob)) (keys : List Bs), keys = acc.map (·.1) → (acc ++ d).Pairwise (fun a b => ltB a.1 b.1 = true) → mayD dep d = true → d.length < f → dictS (valS false dep) f keys acc (showD d ++ 62 :: 62 :: T) = .ok (acc ++ d) T
 | [], f, acc, keys, _, _, _, hf => by
  obtain ⟨f, rfl⟩ : ∃ g, f = g + 1 := ⟨f - 1, by simp at hf; omega⟩
  simp [showD, dictS, tok_right]
 | e :: r, f, acc, keys, hk, hp, h, hf => by
  obtain ⟨f, rfl⟩ : ∃ g, f = g + 1 := ⟨f - 1, by simp at hf; omega⟩
  simp only [mayD, Bool.and_eq_true, bne_iff_ne] at h
  obtain ⟨⟨⟨⟨hn, h0⟩, h8⟩, hm⟩, hr⟩ := h
  obtain ⟨i1, i2, i3⟩ := tail_D T r hr
  have hlt : ∀ x ∈ acc, ltB x.1 e.1 = true := fun x hx => (List.pairwise_append.1 hp).2.2 x hx e (by simp)
  have hkeys : keys.contains e.1 = false := by
   rw [hk, List.contains_eq_mem, decide_eq_false_iff_not]
   intro hc
   obtain ⟨x, hx, e1⟩ := List.mem_map.1 hc
   have := hlt x hx
   rw [e1, lt_irr] at this
   cases this
  have ih := dict_back hb T r f (acc ++ [(e.1, e.2)]) (keys ++ [e.1]) (by rw [hk]; simp) (by simpa using hp) hr (by simp at hf; omega)
  have e1 : showD (e :: r) ++ 62 :: 62 :: T = nameT e.1 ++ (32 :: (e.2.show ++ (showD r ++ 62 :: 62 :: T))) := by simp [showD]
  have ht := tok_name (T := 32 :: (e.2.show ++ (showD r ++ 62 :: 62 :: T))) hn (sep_cons (by decide))
  rw [dictS, e1, ht]
  simp only []
  rw [if_neg (by decide), if_neg (by decide), if_neg (by decide), hkeys, if_neg (by decide), val_sp, hb e.2 hm h8 _ i1 i3]
  simp only []
  rw [put_last hlt h0, ih, List.append_assoc]; rfl
theorem val_back : ∀ dep, Back dep := by
 intro dep
 induction dep using Nat.strongRecOn with
 | _ dep IH =>
  intro o h h8 T hT hR
  have hmk := may_K h
  cases hmk with
  | null =>
   have e : (Ob.mk 0 0 [] [] []).show ++ T = [110, 117, 108, 108] ++ T := rfl
   rw [e, valS.eq_def, tok_null hT]; rfl
  | bool n hn =>
   rcases hn with rfl | rfl
   ·have e : (Ob.mk 1 0 [] [] []).show ++ T = [102, 97, 108, 115, 101] ++ T := rfl
    rw [e, valS.eq_def, tok_false hT]; rfl
   ·have e : (Ob.mk 1 1 [] [] []).show ++ T = [116, 114, 117, 101] ++ T := rfl
    rw [e, valS.eq_def, tok_true hT]; rfl
  | int n hn =>
   have e : (Ob.mk 2 n [] [] []).show ++ T = numT n true ++ T := by simp [Ob.show]
   rw [e, valS.eq_def, tok_num (w := true) (by unfold isIn; simp; omega) (fun _ => hn) hT]
   simp only [if_true]
   rw [if_neg (by decide), hR n]
  | real n hn =>
   have e : (Ob.mk 3 n [] [] []).show ++ T = numT n false ++ T := by simp [Ob.show]
   rw [e, valS.eq_def, tok_num (w := false) (by unfold isIn; simp; omega) (by simp) hT]
   rfl
  | str b hb =>
   have e : (Ob.mk 4 0 b [] []).show ++ T = textT b ++ T := by simp [Ob.show]
   rw [e, valS.eq_def, tok_text T hb]; rfl
  | name b hb =>
   have e : (Ob.mk 5 0 b [] []).show ++ T = nameT b ++ T := by simp [Ob.show]
   rw [e, valS.eq_def, tok_name hb hT]; rfl
  | arr l hd hm =>
   obtain ⟨g, rfl⟩ : ∃ g, dep = g + 1 := ⟨dep - 1, by omega⟩
   rw [Nat.add_sub_cancel] at hm
   have e : (Ob.mk 6 0 [] l []).show ++ T = 91 :: (showL true l ++ 93 :: T) := by simp [Ob.show]
   have ih := arr_back (IH g (by omega)) T l true ((showL true l ++ 93 :: T).length + 1) [] hm (by have := showL_len l true; simp only [List.length_append, List.length_cons]; omega)
   rw [e, valS.eq_def, tok_open]
   simp only []
   rw [ih]; rfl
  | dict d hd hr hm =>
   obtain ⟨g, rfl⟩ : ∃ g, dep = g + 1 := ⟨dep - 1, by omega⟩
   rw [Nat.add_sub_cancel] at hm
   have e : (Ob.mk 7 0 [] [] d).show ++ T = 60 :: 60 :: (showD d ++ 62 :: 62 :: T) := by simp [Ob.show]
   have ih := dict_back (IH g (by omega)) T d ((showD d ++ 62 :: 62 :: T).length + 1) [] [] rfl (by simpa using rises_all d hr) hm (by have := showD_len d; simp only [List.length_append, List.length_cons]; omega)
   rw [e, valS.eq_def, tok_left]
   simp only []
   rw [ih]; rfl
  | stm b d _ _ _ _ => exact absurd rfl h8
  | ref n hn =>
   have e : (Ob.mk 9 n [] [] []).show ++ T = numT n true ++ (32 :: 48 :: 32 :: 82 :: T) := by simp [Ob.show]
   have h0 : tokS ([48] ++ 32 :: 82 :: T) = .ok ⟨1, 0, []⟩ (32 :: 82 :: T) := by
    have := tok_num (n := 0) (w := true) (T := 32 :: 82 :: T) (by decide) (fun _ => by decide) (sep_cons (by decide))
    have e0 : numT 0 true = [48] := by unfold numT itoa; rw [if_pos rfl, if_neg (by decide), decDigits]; rfl
    rw [e0] at this
    exact this
   rw [e, valS.eq_def, tok_num (w := true) (by unfold isIn; simp; omega) (fun _ => by omega) (sep_cons (by decide))]
   simp only [if_true]
   rw [if_neg (by decide)]
   unfold wholeS
   rw [if_pos ⟨hn.1, hn.2, rfl⟩, tok_sp, show (48 :: 32 :: 82 :: T : Bs) = [48] ++ 32 :: 82 :: T from rfl, h0]
   simp only [and_self, if_true]
   rw [tok_sp, show (82 :: T : Bs) = [82] ++ T from rfl, tok_R hT]
   rfl
end
end Go.Rd
namespace Go.Proofs.YthffpbkndnhlfaaGreatDoor
open Go Go.RowKit Go.Wk Go.Rd
theorem Save.thenB {L : Nat} {a b c : World} (h : Save L a b) (k : Below a.heap.size b c) : Save L a c := ⟨k.os.trans h.os, k.tape.trans h.tape, k.output.trans h.output, Nat.le_trans h.size k.size, fun j hj hn => (k.block j hj).trans (h.block j hj hn)⟩
theorem Save.own {L B : Nat} {a b : World} {v : Value} {bs : List UInt8} (h : Save L a b) (hB : L < B) (ho : Own B a v bs) : Own B b v bs :=
 ⟨own_far ho.row fun k hk hs => h.block k hs (by omega)⟩
theorem Save.blk {L g : Nat} {a b : World} {t : TypeId} {cs : Array Value} (h : Save L a b) (hg : g ≠ L) (k : Blk a g t cs) : Blk b g t cs := (h.block g k.lt hg).trans k
def pos (bs r : Bs) : Nat := bs.length - r.length
theorem suf_len {bs r : Bs} (h : r <:+ bs) : r.length ≤ bs.length := h.length_le
theorem suf_drop {bs r : Bs} (h : r <:+ bs) : bs.drop (pos bs r) = r := by
 obtain ⟨q, rfl⟩ := h
 unfold pos
 rw [List.length_append, Nat.add_sub_cancel, List.drop_left]
theorem suf_at {bs r : Bs} (h : r <:+ bs) (i : Nat) : bs[pos bs r + i]? = r[i]? := by
 rw [← List.getElem?_drop, suf_drop h]
theorem pos_le (bs r : Bs) : pos bs r ≤ bs.length := by unfold pos; omega
theorem pos_cons {bs t : Bs} {c : UInt8} (h : (c :: t) <:+ bs) : pos bs t = pos bs (c :: t) + 1 ∧ pos bs (c :: t) < bs.length := by
 have := suf_len h
 unfold pos
 simp only [List.length_cons] at this ⊢
 omega
theorem pos_drop {bs r : Bs} (h : r <:+ bs) (n : Nat) (hn : n ≤ r.length) : pos bs (r.drop n) = pos bs r + n := by
 have := suf_len h
 unfold pos
 rw [List.length_drop]; omega
theorem suf_tail {bs t : Bs} {c : UInt8} (h : (c :: t) <:+ bs) : t <:+ bs := (List.suffix_cons c t).trans h
theorem suf_dropn {bs r : Bs} (h : r <:+ bs) (n : Nat) : r.drop n <:+ bs := (List.drop_suffix n r).trans h
theorem pos_len {bs r : Bs} (h : r <:+ bs) : bs.length - pos bs r = r.length := by
 have := suf_len h
 unfold pos; omega
structure LX (L : Nat) (A : Option Addr) (c : Nat) (bs : Bs) (D : Value) (P : Value) (w : World) (r : Bs) : Prop where
 blk : Blk w L 55 #[.slice A bs.length c, .int .i64 (pos bs r : Nat), D, P]
 byt : Byt w A bs
 ne : 0 < bs.length → ∀ x, A = some x → x.block ≠ L
 suf : r <:+ bs
 cap : bs.length ≤ c
 small : bs.length ≤ 1000000000
section
variable {L : Nat} {A : Option Addr} {c : Nat} {bs : Bs} {D P : Value} {w w' : World} {r r' : Bs}
theorem LX.below (h : LX L A c bs D P w r) (hb : Below w.heap.size w w') : LX L A c bs D P w' r := ⟨h.blk.below hb h.blk.lt, h.byt.below hb, h.ne, h.suf, h.cap, h.small⟩
theorem LX.go (h : LX L A c bs D P w r) (hs : r' <:+ bs) : LX L A c bs D P (w.setCell ⟨L, 1, none⟩ (.int .i64 (pos bs r' : Nat))) r' :=
 ⟨h.blk.set_ 1 _, (Save.refl L w).store 1 _ |>.byt h.ne h.byt, h.ne, hs, h.cap, h.small⟩
theorem LX.to (h : LX L A c bs D P w r) (hs : Save L w w') (hb : Blk w' L 55 #[.slice A bs.length c, .int .i64 (pos bs r' : Nat), D, P]) (hr : r' <:+ bs) : LX L A c bs D P w' r' :=
 ⟨hb, hs.byt h.ne h.byt, h.ne, hr, h.cap, h.small⟩
theorem LX.a_lt (h : LX L A c bs D P w r) : 0 < bs.length → ∀ x, A = some x → x.block < w.heap.size := fun h0 x hx => by
 obtain ⟨g, o, e, hc⟩ := h.byt.2 h0
 rw [hx] at e
 injection e with e
 rw [e]
 exact cell_lt (hc 0 h0)
theorem LX.lt (h : LX L A c bs D P w r) : L < w.heap.size := h.blk.lt
end
def posOf (L : Nat) (w : World) : Nat := match w.cell? ⟨L, 1, none⟩ with | some (.int _ n) => n.toNat | _ => 0
theorem LX.posOf {L : Nat} {A : Option Addr} {c : Nat} {bs : Bs} {D P : Value} {w : World} {r : Bs} (h : LX L A c bs D P w r) : posOf L w = pos bs r := by
 unfold Proofs.YthffpbkndnhlfaaGreatDoor.posOf
 rw [h.blk.cell 1]; simp
section
open Go Go.RowKit Go.Wk Go.Rd Go.Fx
theorem pk_eq {bs r : Bs} (h : r <:+ bs) (i : Nat) : peekS bs (pos bs r + i) = pk r i := by unfold peekS pk; rw [suf_at h] <;> cases r[i]? <;> rfl
theorem pk_range (r : Bs) (i : Nat) : -1 ≤ pk r i ∧ pk r i ≤ 255 := by
 unfold pk
 split
 ·rename_i b _; have := u8_lt b; omega
 ·omega
section
variable {L : Nat} {A : Option Addr} {c : Nat} {bs : Bs} {D P : Value} {w w' : World} {r r' : Bs}
end
def whtI (x : Int) : Bool := (x == 0) || (x == 9) || (x == 10) || (x == 12) || (x == 13) || (x == 32)
theorem u8_eqI (c n : UInt8) : (c == n) = ((c.toNat : Int) == (n.toNat : Int)) := by
 rw [Bool.eq_iff_iff]; simp only [beq_iff_eq]
 exact ⟨fun h => by rw [h], fun h => UInt8.toNat_inj.1 (by omega)⟩
theorem white_u8 (c : UInt8) : whtI (c.toNat : Int) = whiteB c := by
 unfold whtI whiteB; rw [u8_eqI c 0, u8_eqI c 9, u8_eqI c 10, u8_eqI c 12, u8_eqI c 13, u8_eqI c 32]; rfl
def regP : Bs → Bool
 | [] => false
 | c :: _ => regB c
end
section
open Go Go.RowKit Go.Wk Go.Rd Go.Fx
attribute [local go_sem ↓] Go.wp_at_zero Go.wp_at_succ
structure Fr (L R : Nat) (w w' : World) : Prop where
 os : w'.os = w.os
 tape : w'.tape = w.tape
 output : w'.output = w.output
 size : w.heap.size ≤ w'.heap.size
 block : ∀ k, k < w.heap.size → k ≠ L → k ≠ R → w'.heap[k]? = w.heap[k]?
theorem Fr.refl (L R : Nat) (w : World) : Fr L R w w := ⟨rfl, rfl, rfl, Nat.le_refl _, fun _ _ _ _ => rfl⟩
theorem Fr.trans {L R : Nat} {a b c : World} (h : Fr L R a b) (k : Fr L R b c) : Fr L R a c :=
 ⟨k.os.trans h.os, k.tape.trans h.tape, k.output.trans h.output, Nat.le_trans h.size k.size, fun j hj h1 h2 => (k.block j (Nat.lt_of_lt_of_le hj h.size) h1 h2).trans (h.block j hj h1 h2)⟩
theorem Fr.of_save {L R : Nat} {a b : World} (h : Save L a b) : Fr L R a b := ⟨h.os, h.tape, h.output, h.size, fun k hk h1 _ => h.block k hk h1⟩
theorem Fr.of_below {L R : Nat} {a b : World} (h : Below a.heap.size a b) : Fr L R a b := ⟨h.os, h.tape, h.output, h.size, fun k hk _ _ => h.block k hk⟩
theorem Fr.below {L R B : Nat} {a b : World} (h : Fr L R a b) (hL : B ≤ L) (hR : B ≤ R) (hB : B ≤ a.heap.size) : Below B a b := ⟨h.os, h.tape, h.output, h.size, fun k hk => h.block k (by omega) (by omega) (by omega)⟩
theorem Fr.thenB {L R : Nat} {a b c : World} (h : Fr L R a b) (k : Below a.heap.size b c) : Fr L R a c := ⟨k.os.trans h.os, k.tape.trans h.tape, k.output.trans h.output, Nat.le_trans h.size k.size, fun j hj h1 h2 => (k.block j hj).trans (h.block j hj h1 h2)⟩
theorem Fr.storeR {L R : Nat} {a b : World} (h : Fr L R a b) (o : Nat) (u : Value) : Fr L R a (b.setCell ⟨R, o, none⟩ u) :=
 h.trans ⟨rfl, rfl, rfl, by simp [World.setCell], fun k _ _ hn => Below.heap_setCell _ _ _ _ hn⟩
theorem Fr.store {L R : Nat} {a b : World} (h : Fr L R a b) (o : Nat) (u : Value) : Fr L R a (b.setCell ⟨L, o, none⟩ u) :=
 h.trans ⟨rfl, rfl, rfl, by simp [World.setCell], fun k _ hn _ => Below.heap_setCell _ _ _ _ hn⟩
structure LS (L R : Nat) (A : Option Addr) (c : Nat) (bs : Bs) (M V : Value) (w : World) (r : Bs) : Prop where
 cur : Cur w w L A c bs (pos bs r)
 rdr : Blk w R 51 #[.pointer (some ⟨L, 0, none⟩), M, V]
 ne : L ≠ R
 neA : 0 < bs.length → ∀ x, A = some x → x.block ≠ R
 cap : bs.length ≤ c
 suf : r <:+ bs
section
variable {L R : Nat} {A : Option Addr} {c : Nat} {bs : Bs} {M V : Value} {w w' : World} {r r' : Bs}
theorem LS.L_lt (h : LS L R A c bs M V w r) : L < w.heap.size := cell_lt h.cur.cb
theorem LS.R_lt (h : LS L R A c bs M V w r) : R < w.heap.size := h.rdr.lt
theorem LS.a_lt (h : LS L R A c bs M V w r) : 0 < bs.length → ∀ x, A = some x → x.block < w.heap.size := fun h0 x hx => by
 obtain ⟨g, o, e, hc⟩ := h.cur.byt.2 h0
 rw [hx] at e
 injection e with e
 rw [e]
 exact cell_lt (hc 0 h0)
theorem LS.cur_to {p' : Nat} (h : LS L R A c bs M V w r) (k : Cur w w' L A c bs p') (hs : r' <:+ bs) (hp : p' = pos bs r') : LS L R A c bs M V w' r' ∧ Fr L R w w' := by
 subst hp
 exact ⟨⟨k.here, (k.bel.block R h.rdr.lt h.ne.symm).trans h.rdr, h.ne, h.neA, h.cap, hs⟩, Fr.of_save k.bel⟩
theorem LS.below {B : Nat} (h : LS L R A c bs M V w r) (hb : Below B w w') (hL : L < B) (hR : R < B) (hA : 0 < bs.length → ∀ x, A = some x → x.block < B) : LS L R A c bs M V w' r := by
 have hc := h.cur
 refine ⟨⟨hc.ne, Save.refl _ _, (hb.cell (p := ⟨L, 0, none⟩) hL).trans hc.cb, (hb.cell (p := ⟨L, 1, none⟩) hL).trans hc.ca, (hb.frozen (p := ⟨L, 1, none⟩) hL).trans hc.fr, ⟨hc.byt.1, fun h0 => ?_⟩, hc.le, hc.small⟩, h.rdr.below hb hR, h.ne, h.neA, h.cap, h.suf⟩
 obtain ⟨g, o, e, hcc⟩ := hc.byt.2 h0
 exact ⟨g, o, e, fun i hi => (hb.cell (p := ⟨g, o + i, none⟩) (show g < B from hA h0 _ e)).trans (hcc i hi)⟩
theorem LS.belowW (h : LS L R A c bs M V w r) (hb : Below w.heap.size w w') : LS L R A c bs M V w' r := h.below hb h.L_lt h.R_lt h.a_lt
theorem LS.set (h : LS L R A c bs M V w r) (i : Nat) (u : Value) (M' V' : Value) (hi : (#[.pointer (some ⟨L, 0, none⟩), M, V] : Array Value).setIfInBounds i u = #[.pointer (some ⟨L, 0, none⟩), M', V']) : LS L R A c bs M' V' (w.setCell ⟨R, i, none⟩ u) r := by
 have hc := h.cur
 have hn : ∀ j, (⟨L, j, none⟩ : Addr) ≠ ⟨R, i, none⟩ := fun j e => h.ne (by injection e)
 refine ⟨⟨hc.ne, Save.refl _ _, ?_, ?_, ?_, ⟨hc.byt.1, fun h0 => ?_⟩, hc.le, hc.small⟩, ?_, h.ne, h.neA, h.cap, h.suf⟩
 ·rw [World.cell?_setCell_other _ _ _ _ (hn 0).symm]; exact hc.cb
 ·rw [World.cell?_setCell_other _ _ _ _ (hn 1).symm]; exact hc.ca
 ·simp [hc.fr]
 ·obtain ⟨g, o, e, hcc⟩ := hc.byt.2 h0
  refine ⟨g, o, e, fun j hj => ?_⟩
  rw [World.cell?_setCell_other _ _ _ _ (by intro e2; exact h.neA h0 _ e (by injection e2 with e2; exact e2.symm))]
  exact hcc j hj
 ·rw [← hi]; exact h.rdr.set_ i u
theorem LS.posOf (h : LS L R A c bs M V w r) : posOf L w = pos bs r := by
 unfold Proofs.YthffpbkndnhlfaaGreatDoor.posOf
 rw [h.cur.ca]; simp
theorem LS.le (h : LS L R A c bs M V w r) : pos bs r ≤ bs.length := pos_le _ _
end
theorem cur_peekQ {w0 w : World} {L : Nat} {A : Option Addr} {c : Nat} {bs : List UInt8} {p : Nat} (h : Cur w0 w L A c bs p) (i : Nat) (hi : i ≤ 2000000000) :
 Calls Tryz.prog 56 #[.pointer (some ⟨L, 0, none⟩), .int .i64 (i : Nat)] w fun e w' => e = .returned (.int .i64 (peekS bs (p + i))) ∧ ∃ n, w' = w.drewN n := by
 obtain ⟨h1, h2, h3, h4, h5, h6, h7, h8⟩ := h
 have hS := hi_ (show peekS bs (p + i) = match bs[p + i]? with | some b => (b.toNat : Int) | none => -1 from rfl)
 generalize peekS bs (p + i) = S at *
 have hi1 : decide ((i : Int) < -(p : Int)) = false := by rw [decide_eq_false_iff_not]; omega
 have hwr : IntKind.i64.wrap ((p : Int) + (i : Int)) = (p : Int) + (i : Int) := IntWalk.i64_in _ (by omega)
 by_cases hlt : p + i < bs.length
 ·obtain ⟨b, o, rfl, hc⟩ := h6.2 (by omega)
  have hck := (h2.cell (p := ⟨b, o + (p + i), none⟩) (show b ≠ L from h1 (by omega) ⟨b, o, none⟩ rfl) (cell_lt (hc (p + i) hlt))).trans (hc (p + i) hlt)
  have hS2 := hi_ (show S = (bs[p + i].toNat : Int) by rw [hS.out, List.getElem?_eq_getElem hlt])
  generalize bs[p + i] = x at *
  clear hc h6 h2 h1
  have hx0 := u8_lt x
  obtain ⟨xn, hxn⟩ : ∃ n : Int, n = (x.toNat : Int) := ⟨_, rfl⟩
  rw [← hxn] at hck hx0 hS2
  have hx1 : 0 ≤ xn := by omega
  have hxw : wrap64 xn = xn := by unfold wrap64; omega
  replace hxw := hi_ hxw
  clear hxn
  go_enter Tryz.func56, Tryz.ntmps56
  go_wp2
  ·go_quiet (fail)
   go_wp2
   go_ret
   exact ⟨by rw [hS2.out]; first | rfl | exact congrArg (fun z => Ending.returned (.int .i64 z)) hxw.out, ⟨_, rfl⟩⟩
 ·have hS2 := hi_ (show S = -1 by rw [hS.out, List.getElem?_eq_none (by omega)])
  clear h6 h2 h1
  go_enter Tryz.func56, Tryz.ntmps56
  go_wp2
  go_ret
  exact ⟨by rw [hS2.out]; rfl, 0, rfl⟩
theorem cur_peekI {w0 w : World} {L : Nat} {A : Option Addr} {c : Nat} {bs : List UInt8} {p : Nat} (h : Cur w0 w L A c bs p) (i : Nat) (hi : i ≤ 2000000000) :
 Calls Tryz.prog 56 #[.pointer (some ⟨L, 0, none⟩), .int .i64 (i : Nat)] w fun e w' => e = .returned (.int .i64 (peekS bs (p + i))) ∧ Cur w0 w' L A c bs p :=
 (cur_peekQ h i hi).mono fun e w' ⟨h1, n, h2⟩ => ⟨h1, by rw [h2]; exact h.drawn n⟩
theorem cur_pos {w0 w : World} {L : Nat} {A : Option Addr} {c : Nat} {bs : List UInt8} {p : Nat} (h : Cur w0 w L A c bs p) :
 Calls Tryz.prog 14 #[.pointer (some ⟨L, 0, none⟩)] w fun e w' => e = .returned (.int .i64 (p : Nat)) ∧ w' = w := by
 obtain ⟨h1, h2, h3, h4, h5, h6, h7, h8⟩ := h
 clear h6 h2 h1
 go_enter Tryz.func14, Tryz.ntmps14
 go_wp2
 go_ret
 exact ⟨rfl, rfl⟩
theorem cur_seek {w0 w : World} {L : Nat} {A : Option Addr} {c : Nat} {bs : List UInt8} {p : Nat} (h : Cur w0 w L A c bs p) (q : Nat) (hq : q ≤ bs.length) :
 Calls Tryz.prog 30 #[.pointer (some ⟨L, 0, none⟩), .int .i64 (q : Nat)] w fun e w' => e = .returned (.bool true) ∧ Cur w0 w' L A c bs q := by
 have H := hi_ h
 obtain ⟨h1, h2, h3, h4, h5, h6, h7, h8⟩ := h
 clear h6 h2 h1
 have hq1 : decide ((bs.length : Int) < (q : Int)) = false := by simp; omega
 go_enter Tryz.func30, Tryz.ntmps30
 go_wp2
 go_ret
 exact ⟨rfl, H.out.go q hq⟩
end
section
open Go Go.RowKit Go.Wk Go.Rd Go.Fx
section
variable {L R : Nat} {A : Option Addr} {c : Nat} {bs : Bs} {M V : Value} {w w' : World} {r r' : Bs}
theorem LS.save_to {p' : Nat} (h : LS L R A c bs M V w r) (k : Cur w w' L A c bs p') (hs : r' <:+ bs) (hp : p' = pos bs r') : LS L R A c bs M V w' r' ∧ Save L w w' := ⟨(h.cur_to k hs hp).1, k.bel⟩
theorem ls_peek (i : Nat) (hi : i ≤ 2000000000) (W : World) (h : LS L R A c bs M V W r) : Calls Tryz.prog 56 #[.pointer (some ⟨L, 0, none⟩), .int .i64 (i : Nat)] W fun e w' => e = .returned (.int .i64 (pk r i)) ∧ LS L R A c bs M V w' r ∧ Save L W w' :=
 (cur_peekI h.cur i hi).mono fun e w' k => ⟨by rw [k.1, pk_eq h.suf], h.save_to k.2 h.suf rfl⟩
theorem LS.drawn (h : LS L R A c bs M V w r) (n : Nat) : LS L R A c bs M V (w.drewN n) r := h.belowW (below_drawn w n)
theorem ls_peekQ (h : LS L R A c bs M V w r) (i : Nat) (hi : i ≤ 2000000000) (n : Nat) : Calls Tryz.prog 56 #[.pointer (some ⟨L, 0, none⟩), .int .i64 (i : Nat)] (w.drewN n) fun e w' => e = .returned (.int .i64 (pk r i)) ∧ ∃ m, w' = w.drewN m :=
 Calls.quiet_of ((cur_peekQ (h.drawn n).cur i hi).mono fun e w' k => ⟨by rw [k.1, pk_eq h.suf], k.2⟩)
theorem ls_peek0 (W : World) (h : LS L R A c bs M V W r) : Calls Tryz.prog 56 #[.pointer (some ⟨L, 0, none⟩), .int .i64 0] W fun e w' => e = .returned (.int .i64 (pk r 0)) ∧ LS L R A c bs M V w' r ∧ Save L W w' := ls_peek 0 (by omega) W h
theorem ls_peekC {x : UInt8} {t : Bs} {X : Int} (hX : X = (x.toNat : Int)) (W : World) (h : LS L R A c bs M V W (x :: t)) : Calls Tryz.prog 56 #[.pointer (some ⟨L, 0, none⟩), .int .i64 0] W fun e w' => e = .returned (.int .i64 X) ∧ LS L R A c bs M V w' (x :: t) ∧ Save L W w' := by
 rw [hX]; exact ls_peek0 W h
theorem ls_peekN (W : World) (h : LS L R A c bs M V W []) : Calls Tryz.prog 56 #[.pointer (some ⟨L, 0, none⟩), .int .i64 0] W fun e w' => e = .returned (.int .i64 (-1)) ∧ LS L R A c bs M V w' [] ∧ Save L W w' := ls_peek0 W h
theorem ls_next {x : UInt8} {t : Bs} {X : Int} (hX : X = (x.toNat : Int)) (W : World) (h : LS L R A c bs M V W (x :: t)) : Calls Tryz.prog 60 #[.pointer (some ⟨L, 0, none⟩)] W fun e w' => e = .returned (.int .i64 X) ∧ LS L R A c bs M V w' t ∧ Save L W w' := by
 have hp := pos_cons h.suf
 have hk := cur_next h.cur
 rw [if_pos hp.2, show peekS bs (pos bs (x :: t)) = X from by rw [hX]; exact pk_eq h.suf 0] at hk
 exact hk.mono fun e w' k => ⟨k.1, h.save_to k.2 (suf_tail h.suf) hp.1.symm⟩
theorem ls_nextN (W : World) (h : LS L R A c bs M V W []) : Calls Tryz.prog 60 #[.pointer (some ⟨L, 0, none⟩)] W fun e w' => e = .returned (.int .i64 (-1)) ∧ LS L R A c bs M V w' [] ∧ Save L W w' := by
 have hk := cur_next h.cur
 rw [if_neg (by unfold pos; simp), show peekS bs (pos bs []) = -1 from pk_eq h.suf 0] at hk
 exact hk.mono fun e w' k => ⟨k.1, h.save_to k.2 h.suf rfl⟩
theorem ls_pos (W : World) (h : LS L R A c bs M V W r) : Calls Tryz.prog 14 #[.pointer (some ⟨L, 0, none⟩)] W fun e w' => e = .returned (.int .i64 (pos bs r : Nat)) ∧ W = w' :=
 (cur_pos h.cur).mono fun e w' k => ⟨k.1, k.2.symm⟩
theorem ls_seek (hr : r' <:+ bs) {q : Int} (hq : q = (pos bs r' : Nat)) (W : World) (h : LS L R A c bs M V W r) : Calls Tryz.prog 30 #[.pointer (some ⟨L, 0, none⟩), .int .i64 q] W fun e w' => e = .returned (.bool true) ∧ LS L R A c bs M V w' r' ∧ Save L W w' := by
 rw [hq]
 exact (cur_seek h.cur (pos bs r') (pos_le _ _)).mono fun e w' k => ⟨k.1, h.save_to k.2 hr rfl⟩
theorem pos_suf {r : Bs} (h : r <:+ bs) (n : Nat) (hn : n ≤ r.length) : pos bs r + n = pos bs (r.drop n) := (pos_drop h n hn).symm
theorem stands_rest {s r : Bs} (h : r <:+ bs) : stands bs (pos bs r) s = decide (s <+: r) := by
 have h1 := suf_drop h
 have h2 := suf_len h
 rw [Bool.eq_iff_iff]
 unfold stands
 rw [h1]
 simp only [Bool.and_eq_true, decide_eq_true_eq, beq_iff_eq]
 constructor
 ·rintro ⟨_, h3⟩; exact ⟨_, by rw [← h3]; exact List.take_append_drop _ _⟩
 ·rintro ⟨q, hq⟩
  refine ⟨?_, by rw [← hq]; simp⟩
  have h3 := congrArg List.length hq
  unfold pos
  simp at h3; omega
theorem ls_match (s : ByteArray) (hs : 1 ≤ s.size) (hs2 : s.size ≤ 1000000) (W : World) (h : LS L R A c bs M V W r) :
 Calls Tryz.prog 54 #[.pointer (some ⟨L, 0, none⟩), .string s] W fun e w' => e = .returned (.bool (decide (s.data.toList <+: r))) ∧ LS L R A c bs M V w' (if s.data.toList <+: r then r.drop s.size else r) ∧ Save L W w' := by
 refine (cur_match s h.cur h.cap hs (by omega)).mono ?_
 rintro e w' ⟨rfl, k⟩
 rw [stands_rest h.suf] at k ⊢
 refine ⟨rfl, ?_⟩
 by_cases hp : s.data.toList <+: r
 ·rw [if_pos hp]
  rw [decide_eq_true hp, if_pos rfl] at k
  have hl := hp.length_le
  have hsl : s.data.toList.length = s.size := Array.length_toList
  exact h.save_to k (suf_dropn h.suf _) (pos_suf h.suf _ (by omega))
 ·rw [if_neg hp]
  rw [decide_eq_false hp, if_neg (by decide)] at k
  exact h.save_to k h.suf rfl
theorem ls_yes (s : ByteArray) {t : Bs} (hs : 1 ≤ s.size) (hs2 : s.size ≤ 1000000) (hr : r = s.data.toList ++ t) (W : World) (h : LS L R A c bs M V W r) :
 Calls Tryz.prog 54 #[.pointer (some ⟨L, 0, none⟩), .string s] W fun e w' => e = .returned (.bool true) ∧ LS L R A c bs M V w' t ∧ Save L W w' := by
 have hp : s.data.toList <+: r := ⟨t, hr.symm⟩
 have hsl : s.data.toList.length = s.size := Array.length_toList
 have := ls_match s hs hs2 W h
 rw [if_pos hp, decide_eq_true hp, ← hsl] at this
 have e : r.drop s.data.toList.length = t := by rw [hr, List.drop_left]
 rw [e] at this
 exact this
theorem ls_no (s : ByteArray) (hs : 1 ≤ s.size) (hs2 : s.size ≤ 1000000) (hr : ¬ s.data.toList <+: r) (W : World) (h : LS L R A c bs M V W r) :
 Calls Tryz.prog 54 #[.pointer (some ⟨L, 0, none⟩), .string s] W fun e w' => e = .returned (.bool false) ∧ LS L R A c bs M V w' r ∧ Save L W w' := by
 have := ls_match s hs hs2 W h
 rw [if_neg hr, decide_eq_false hr] at this
 exact this
theorem LS.q0 (h : LS L R A c bs M V w r) : w.cell? ⟨R, 0, none⟩ = some (.pointer (some ⟨L, 0, none⟩)) := h.rdr.cell 0
end
theorem lex_RegularI {x : UInt8} {X : Int} (hX : X = (x.toNat : Int)) {b : Bool} (hb : b = regB x) (w : World) : Calls Tryz.prog 55 #[.int .i64 X] w fun e w' => e = .returned (.bool b) ∧ w = w' := by
 rw [hX, hb]; exact lex_Regular x w
theorem lex_RegularN (w : World) : Calls Tryz.prog 55 #[.int .i64 (-1)] w fun e w' => e = .returned (.bool false) ∧ w = w' := by
 go_enter Tryz.func55, Tryz.ntmps55
 go_wp2
 all_goals go_ret
 all_goals exact ⟨rfl, rfl⟩
theorem lex_RegularP (r : Bs) (w : World) : Calls Tryz.prog 55 #[.int .i64 (pk r 0)] w fun e w' => e = .returned (.bool (regP r)) ∧ w = w' := by
 cases r with
 | nil => exact lex_RegularN w
 | cons x t => exact lex_Regular x w
theorem asc_WhiteI {x : UInt8} {X : Int} (hX : X = (x.toNat : Int)) {b : Bool} (hb : b = whiteB x) (w : World) : Calls Tryz.prog 59 #[.int .i64 X] w fun e w' => e = .returned (.bool b) ∧ w = w' := by
 rw [hX, hb, ← white_u8]; exact asc_White (x.toNat : Int) w
theorem asc_Digit {w : World} (x : Int) (hx : -1 ≤ x ∧ x ≤ 255) : Calls Tryz.prog 183 #[.int .i64 x] w fun e w' => e = .returned (.int .i64 (digI x)) ∧ w = w' := by
 have h : digI x = if 48 ≤ x ∧ x ≤ 57 then x - 48 else if 97 ≤ x ∧ x ≤ 102 then x - 87 else if 65 ≤ x ∧ x ≤ 70 then x - 55 else -1 := rfl
 replace h := hi_ h
 generalize digI x = B at *
 go_enter Tryz.func183, Tryz.ntmps183
 go_wp2
 all_goals go_ret
 all_goals
  refine ⟨congrArg (fun b => Ending.returned (.int .i64 b)) ?_, rfl⟩
  have := h.out
  split at this
  ·omega
  split at this
  ·omega
  split at this <;> omega
end
section
open Go Go.RowKit Go.Wk Go.Rd Go.Fx
section
variable {L R : Nat} {A : Option Addr} {c : Nat} {bs : Bs} {M V : Value} {w w' : World} {r r' : Bs}
theorem lx_made (W : World) (h : LS L R A c bs M V W r) : Calls Tryz.prog 53 #[.pointer (some ⟨R, 0, none⟩)] W fun e w' => e = .returned (.bool true) ∧ W = w' := by
 have q0 := h.q0
 replace h := hi_ h
 go_enter Tryz.func53, Tryz.ntmps53
 go_wp2
 all_goals go_ret
 all_goals exact ⟨rfl, rfl⟩
theorem lx_Blank (W : World) (h : LS L R A c bs M V W r) : Calls Tryz.prog 28 #[.pointer (some ⟨R, 0, none⟩)] W fun e w' => e = .returned (.tuple #[]) ∧ LS L R A c bs M V w' (blankM false r) ∧ Save L W w' := by
 obtain ⟨K, hK⟩ : ∃ K, K = blankM false r := ⟨_, rfl⟩
 rw [← hK]
 have cm := hi_ fun W' (h : LS L R A c bs M V W' r) => lx_made W' h
 replace hK := hi_ hK
 replace h := hi_ h
 go_enter Tryz.func28, Tryz.ntmps28
 go_wp2_with (go_at_call 53; (with_reducible refine (cm.out _ h.out).mono ?_); rintro e w2 ⟨rfl, rfl⟩)
 go_loopw [2] (fun _ wr => ∃ r1, LS L R A c bs M V wr r1 ∧ blankM false r1 = K ∧ Save L W wr) (fun _ wr => bs.length + 1 - posOf L wr)
 case atStart => exact ⟨r, h.out, hK.out.symm, Save.refl _ _⟩
 case round =>
  obtain ⟨r1, hL, hE, hS⟩ := hrel
  have hms := hL.posOf
  clear h hK cm
  cases r1 with
  | nil =>
   obtain rfl : K = [] := hE.symm
   have cp := hi_ fun W h => ls_peekN (L := L) (R := R) (A := A) (c := c) (bs := bs) (M := M) (V := V) W h
   have q0 := hL.q0
   replace hL := hi_ hL
   replace hS := hi_ hS
   clear hms hE
   go_wp2_with (go_at_call 56; (with_reducible refine (cp.out _ hL.out).mono ?_); rintro e w1 ⟨rfl, hL2, hS2⟩; replace hL := hi_ hL2; replace hS := hi_ (hS.out.trans hS2); replace q0 := hL.out.q0; clear hL2 hS2)
   exact bodyPost_ret (by simp [results, Tryz.results28, go_sem]; try rfl) rfl ⟨rfl, hL.out, hS.out⟩
  | cons x t =>
   obtain ⟨X, hX⟩ := hidE (x.toNat : Int)
   have hX0 : 0 ≤ X ∧ X ≤ 255 := by rw [hX.out]; have := x.toNat_lt; omega
   have cp := hi_ fun W h => ls_peekC (L := L) (R := R) (A := A) (c := c) (bs := bs) (M := M) (V := V) (t := t) hX.out W h
   have cn := hi_ fun W h => ls_next (L := L) (R := R) (A := A) (c := c) (bs := bs) (M := M) (V := V) (t := t) hX.out W h
   have hpc := pos_cons hL.suf
   have q0 := hL.q0
   have h37 : (X == 37) = (x == 37) := by rw [hX.out, u8_eqI x 37]; rfl
   refine h5_ hpc hL hS hE hms ?_; clear hpc hL hS hE hms; intro hpc hL hS hE hms
   cases hwx : whiteB x with
   | true =>
    have cw := hi_ fun W => asc_WhiteI hX.out hwx.symm W
    clear h37
    go_wp2_with (first | ((first | (go_at_call 56; (with_reducible refine (cp.out _ hL.out).mono ?_)) | (go_at_call 60; (with_reducible refine (cn.out _ hL.out).mono ?_))); rintro e w1 ⟨rfl, hL2, hS2⟩; replace hL := hi_ hL2; replace hS := hi_ (hS.out.trans hS2); replace q0 := hL.out.q0; clear hL2 hS2) | (go_at_call 59; (with_reducible refine (cw.out _).mono ?_); rintro e w2 ⟨rfl, rfl⟩))
    have e1 := hL.out.posOf
    have e2 := hms.out
    have e3 := hpc.out
    have e4 := hE.out
    rw [blankM, hwx, if_pos rfl] at e4
    exact ⟨⟨t, hL.out, e4, hS.out⟩, by rw [e1, e2]; omega⟩
   | false =>
    have cw := hi_ fun W => asc_WhiteI hX.out hwx.symm W
    cases hx37 : (x == 37) with
    | false =>
     rw [hx37] at h37
     have e4 := hE.out
     rw [blankM, hwx, if_neg (by decide), hx37, if_neg (by decide)] at e4
     subst e4
     clear hE
     go_wp2_with (first | (go_at_call 56; (with_reducible refine (cp.out _ hL.out).mono ?_); rintro e w1 ⟨rfl, hL2, hS2⟩; replace hL := hi_ hL2; replace hS := hi_ (hS.out.trans hS2); replace q0 := hL.out.q0; clear hL2 hS2) | (go_at_call 59; (with_reducible refine (cw.out _).mono ?_); rintro e w2 ⟨rfl, rfl⟩))
     exact bodyPost_ret (by simp [results, Tryz.results28, go_sem]; try rfl) rfl ⟨rfl, hL.out, hS.out⟩
    | true =>
     rw [hx37] at h37
     have e4 := hE.out
     rw [blankM, hwx, if_neg (by decide), hx37, if_pos rfl] at e4
     have e5 : blankM true (x :: t) = K := by
      have hx : x = 37 := by simpa using hx37
      rw [hx, blankM, if_neg (by decide)]; exact e4
     replace e5 := hi_ e5
     clear hE e4 cn
     obtain rfl : X = 37 := by simpa using h37
     clear h37
     go_wp2_with (first | (go_at_call 56; (with_reducible refine (cp.out _ hL.out).mono ?_); rintro e w1 ⟨rfl, hL2, hS2⟩; replace hL := hi_ hL2; replace hS := hi_ (hS.out.trans hS2); replace q0 := hL.out.q0; clear hL2 hS2) | (go_at_call 59; (with_reducible refine (cw.out _).mono ?_); rintro e w2 ⟨rfl, rfl⟩))
     obtain ⟨wj, rfl⟩ : ∃ wo : World, wo = wr := ⟨_, rfl⟩
     go_loopw [2] (fun s2 wr => ∃ r2, s2 = .int .i64 (pk r2 0) ∧ LS L R A c bs M V wr r2 ∧ blankM true r2 = K ∧ Save L W wr ∧ (r2 = x :: t ∨ r2.length ≤ t.length)) (fun _ wr => bs.length + 1 - posOf L wr)
     case atStart => exact ⟨x :: t, congrArg (Value.int .i64) hX.out, hL.out, e5.out, hS.out, .inl rfl⟩
     case round =>
      obtain ⟨r2, rfl, hL2, hE2, hS2, hor⟩ := hrel
      have hlast : r2.length ≤ t.length → posOf L wj < posOf L wr := fun h => by
       have e1 := hL2.posOf
       have e2 := hms.out
       have e3 := suf_len hL2.suf
       have e4 := pos_len hL2.suf
       have e6 := hpc.out
       rw [e1, e2]
       unfold pos at *
       simp only [List.length_cons] at *
       omega
      have hmx : posOf L wr ≤ bs.length := by rw [hL2.posOf]; exact pos_le _ _
      have hm2 := hL2.posOf
      replace hlast := hi_ hlast
      replace hmx := hi_ hmx
      clear e5 q0 hL hS
      cases r2 with
      | nil =>
       have hlast := hlast.out (Nat.zero_le _)
       obtain rfl : K = [] := hE2.symm
       have q0 := hL2.q0
       obtain ⟨hL, hS⟩ : Hid (LS L R A c bs M V wr []) ∧ Hid (Save L W wr) := ⟨Lib.hid hL2, Lib.hid hS2⟩
       replace hm2 := hi_ hm2
       replace hlast := hi_ hlast
       clear hL2 hS2 hE2 hor
       rw [show pk [] 0 = -1 from rfl]
       go_wp2
       have e1 := hL.out.posOf
       have e2 := hm2.out
       have e3 := hlast.out
       have e4 := hmx.out
       exact ⟨⟨[], hL.out, rfl, hS.out⟩, by omega⟩
      | cons y t2 =>
       rw [show pk (y :: t2) 0 = (y.toNat : Int) from rfl]
       obtain ⟨Y, hY⟩ := hidE (y.toNat : Int)
       have hY0 : 0 ≤ Y ∧ Y ≤ 255 := by rw [hY.out]; have := y.toNat_lt; omega
       rw [← hY.out]
       have cn2 := hi_ fun W h => ls_next (L := L) (R := R) (A := A) (c := c) (bs := bs) (M := M) (V := V) (t := t2) hY.out W h
       have cp2 := hi_ fun W h => ls_peek0 (L := L) (R := R) (A := A) (c := c) (bs := bs) (M := M) (V := V) (r := t2) W h
       have hpc2 := pos_cons hL2.suf
       have q0 := hL2.q0
       have h10 : (Y != 10) = !(y == 10) := by rw [hY.out, u8_eqI y 10]; rfl
       have h13 : (Y != 13) = !(y == 13) := by rw [hY.out, u8_eqI y 13]; rfl
       obtain ⟨hL, hS⟩ : Hid (LS L R A c bs M V wr (y :: t2)) ∧ Hid (Save L W wr) := ⟨Lib.hid hL2, Lib.hid hS2⟩
       have hne : (y == 10 || y == 13) = true → (y :: t2).length ≤ t.length := fun h => by
        rcases hor with e | e
        ·injection e with e _
         rw [e] at h
         have : x = 37 := by simpa using hx37
         rw [this] at h
         exact absurd h (by decide)
        ·exact e
       have hle2 : t2.length ≤ t.length := by
        rcases hor with e | e
        ·injection e with _ e; rw [e]; exact Nat.le_refl _
        ·simp only [List.length_cons] at e; omega
       refine h5_ hle2 hm2 hpc2 hne hE2 ?_; clear hle2 hm2 hpc2 hne hE2; intro hle2 hm2 hpc2 hne hE2
       clear hL2 hS2 hor
       cases hy10 : (y == 10) with
       | true =>
        simp only [hy10, Bool.not_true, Bool.not_false] at h10
        go_wp2
        have e1 := hL.out.posOf
        have e2 := hm2.out
        have e3 := hlast.out (hne.out (by rw [hy10]; rfl))
        have e4 := hmx.out
        have e5 := hE2.out
        have hwy : whiteB y = true := by have : y = 10 := by simpa using hy10
                                         rw [this]; decide
        rw [blankM, hy10, Bool.true_or, if_pos rfl] at e5
        exact ⟨⟨y :: t2, hL.out, by rw [blankM, hwy, if_pos rfl]; exact e5, hS.out⟩, by omega⟩
       | false =>
        simp only [hy10, Bool.not_true, Bool.not_false] at h10
        cases hy13 : (y == 13) with
        | true =>
         simp only [hy13, Bool.not_true, Bool.not_false] at h13
         go_wp2
         have e1 := hL.out.posOf
         have e2 := hm2.out
         have e3 := hlast.out (hne.out (by rw [hy13]; simp))
         have e4 := hmx.out
         have e5 := hE2.out
         have hwy : whiteB y = true := by have : y = 13 := by simpa using hy13
                                          rw [this]; decide
         rw [blankM, hy13, Bool.or_true, if_pos rfl] at e5
         exact ⟨⟨y :: t2, hL.out, by rw [blankM, hwy, if_pos rfl]; exact e5, hS.out⟩, by omega⟩
        | false =>
         simp only [hy13, Bool.not_true, Bool.not_false] at h13
         go_wp2_with (first | ((first | (go_at_call 60; (with_reducible refine (cn2.out _ hL.out).mono ?_)) | (go_at_call 56; (with_reducible refine (cp2.out _ hL.out).mono ?_))); rintro e w1 ⟨rfl, hL2, hS2⟩; replace hL := hi_ hL2; replace hS := hi_ (hS.out.trans hS2); replace q0 := hL.out.q0; clear hL2 hS2))
         have e1 := hL.out.posOf
         have e2 := hm2.out
         have e3 := hpc2.out
         have e5 := hE2.out
         have e6 := hle2.out
         rw [blankM, hy10, hy13, Bool.or_false, if_neg (by decide)] at e5
         exact ⟨⟨t2, rfl, hL.out, e5, hS.out, .inr e6⟩, by rw [e1, e2]; omega⟩
end
end
section
open Go Go.RowKit Go.Wk Go.Rd Go.Fx
theorem Own.sl {B : Nat} {w : World} {v : Value} {b : List UInt8} (h : Own B w v b) : ∃ A n c, v = .slice A n c := by
 rcases h.row.2 with ⟨rfl, _⟩ | ⟨g, cap, cur, rfl, _⟩
 ·exact ⟨_, _, _, rfl⟩
 ·exact ⟨_, _, _, rfl⟩
theorem Own.notL {B : Nat} {w : World} {v : Value} {b : List UInt8} (h : Own B w v b) {g : Nat} {t : TypeId} {cs : Array Value} (hb : Blk w g t cs) (ht : t ≠ 5) : v.ownBlock ≠ some g := by
 rcases h.row.2 with ⟨rfl, _⟩ | ⟨g', cap, cur, rfl, _, hh, _⟩
 ·simp [Value.ownBlock]
 ·intro e
  have e : g' = g := by simpa [Value.ownBlock] using e
  subst e
  unfold Blk at hb
  rw [hb] at hh
  injection hh with hh
  injection hh with _ h2
  exact ht h2
theorem set_grownL (w : World) (g i : Nat) (v : Value) : w.grownBy (w.setCell ⟨g, i, none⟩ v) (some g) :=
 ⟨rfl, rfl, rfl, by simp [World.setCell], fun k _ hk => Below.heap_setCell _ _ _ _ (fun e => hk (by rw [e]))⟩
theorem own_grownL {B : Nat} {w w' : World} {v : Value} {b : List UInt8} {row : Option Nat} (h : Own B w v b) (hg : w.grownBy w' row) (hne : ∀ q, v.ownBlock = some q → some q ≠ row) : Own B w' v b :=
 ⟨h.row.kept hg (by cases e : v.ownBlock with
  | none => exact .inl rfl
  | some q => exact .inr (hne q e))⟩
theorem Own.farL {B : Nat} {w : World} {v : Value} {b : List UInt8} (h : Own B w v b) {g i : Nat} {u : Value} (hg : v.ownBlock ≠ some g) : Own B (w.setCell ⟨g, i, none⟩ u) v b :=
 own_grownL h (set_grownL w g i u) (fun q hq e => hg (by rw [hq]; injection e with e; rw [e]))
structure LO (w0 : World) (L R : Nat) (A : Option Addr) (c : Nat) (bs : Bs) (m : Nat) (out : Bs) (w : World) (r : Bs) : Prop where
 ls : ∃ v, LS L R A c bs (.int .i64 (m : Nat)) v w r ∧ Own w0.heap.size w v out
 fr : Fr L R w0 w
 lL : L < w0.heap.size
 lR : R < w0.heap.size
 off : 0 < bs.length → ∀ x, A = some x → x.block < w0.heap.size
section
variable {L R : Nat} {A : Option Addr} {c : Nat} {bs : Bs} {M V : Value} {w w' w0 : World} {r r' : Bs} {m : Nat} {out : Bs}
theorem LO.mk2 {v : Value} (h : LO w0 L R A c bs m out w r) (hL : LS L R A c bs (.int .i64 (m : Nat)) v w' r') (hO : Own w0.heap.size w v out) (hS : Save L w w') : LO w0 L R A c bs m out w' r' :=
 ⟨⟨v, hL, hS.own h.lL hO⟩, h.fr.trans (Fr.of_save hS), h.lL, h.lR, h.off⟩
theorem LO.posOf (h : LO w0 L R A c bs m out w r) : posOf L w = pos bs r := by obtain ⟨v, hL, _⟩ := h.ls; exact hL.posOf
theorem lx_put {X : Int} {x : UInt8} (hX : X = (x.toNat : Int)) (hm : m ≤ 1000000) (W : World) (h : LO w0 L R A c bs m out W r) (ho : out.length ≤ m) :
 Calls Tryz.prog 184 #[.pointer (some ⟨R, 0, none⟩), .int .i64 X] W fun e w' => (m ≤ out.length → e = .returned (.int .i64 3) ∧ LO w0 L R A c bs m out w' r) ∧ (out.length < m → e = .returned (.int .i64 0) ∧ LO w0 L R A c bs m (out ++ [x]) w' r) := by
 have H := hi_ h
 obtain ⟨⟨v, hL, hO⟩, hF, lL, lR, off⟩ := h
 have hX0 : 0 ≤ X ∧ X ≤ 255 := by rw [hX]; have := x.toNat_lt; omega
 obtain ⟨Ao, co, rfl, hby, hA⟩ := hO.out (by unfold maxLen; omega)
 obtain ⟨n, hn⟩ : ∃ n, n = out.length := ⟨_, rfl⟩
 rw [← hn] at ho hO hL ⊢
 clear hby hA
 obtain ⟨q0, q1, q2, -, -, v2⟩ := hL.rdr.b3
 have hw8 : IntKind.u8.wrap X = X := by unfold IntKind.wrap; simp [IntKind.signed, IntKind.bits]; omega
 refine h3_ hX hn hF ?_; clear hX hn hF; intro hX hn hF
 by_cases hge : m ≤ n
 ·have hd : decide ((m : Int) ≤ (n : Int)) = true := by rw [decide_eq_true_eq]; omega
  have hS := hi_ fun k : Nat => hL.below (below_drawn W k) hL.L_lt hL.R_lt hL.a_lt
  refine h5_ hL hO ho hm hge ?_; clear hL hO ho hm hge; intro hL hO ho hm hge
  clear off lL lR
  go_enter Tryz.func184, Tryz.ntmps184
  go_wp2
  go_quiet (fail)
  go_wp2
  go_ret
  have key : ∀ k, LO w0 L R A c bs m out (W.drewN k) r := fun k => H.out.mk2 (hS.out k) hO.out (Save.of_below (below_drawn W k))
  exact ⟨fun _ => ⟨rfl, key _⟩, fun h => absurd h (by have := hge.out; omega)⟩
 ·have hd : decide ((m : Int) ≤ (n : Int)) = false := by rw [decide_eq_false_iff_not]; omega
  have kp := hi_ fun k : Nat => (⟨hL.below (below_drawn W k) hL.L_lt hL.R_lt hL.a_lt, hO.below (below_drawn W k), hF.out.trans (Fr.of_below (below_drawn W k))⟩ : LS L R A c bs (.int .i64 (m : Nat)) (.slice Ao n co) (W.drewN k) r ∧ Own w0.heap.size (W.drewN k) (.slice Ao n co) out ∧ Fr L R w0 (W.drewN k))
  refine h5_ hL hO ho hm hge ?_; clear hL hO ho hm hge; intro hL hO ho hm hge
  clear off lL lR
  go_enter Tryz.func184, Tryz.ntmps184
  go_wp2
  go_quiet (fail)
  go_upto_region 3 with fail
  obtain ⟨hL1, hO1, hF1⟩ := kp.out nq
  obtain ⟨W1, hW1⟩ : ∃ W1, W1 = W.drewN nq := ⟨_, rfl⟩
  rw [← hW1] at hL1 hO1 hF1 ⊢
  have z1 : w0.heap.size ≤ W1.heap.size := hF1.size
  obtain ⟨Wa, hWa, hba⟩ := newA W1 5 #[.int .u8 X]
  have hb1 : Byt Wa (some ⟨W1.heap.size, 0, none⟩) [x] := by rw [hWa, hX.out]; exact byt_new1 W1 x 5
  have hLa := hL1.belowW hba
  have hOa := hO1.below hba
  have hFa := hF1.trans (Fr.of_below hba)
  have za := hba.size
  have q0 := hL1.rdr.cell 0
  have q2 := hL1.rdr.cell 2
  refine h9_ hW1 hWa hba hb1 hL1 hO1 hF1 hLa hOa ?_; clear hW1 hWa hba hb1 hL1 hO1 hF1 hLa hOa; intro hW1 hWa hba hb1 hL1 hO1 hF1 hLa hOa
  refine h3_ hFa z1 za ?_; clear hFa z1 za; intro hFa z1 za
  go_wp2_with (at_builtin; rw [← hWa.out]; refine app_b rfl _ _ rfl w0.heap.size _ _ rfl hOa.out (some ⟨W1.heap.size, 0, none⟩) 1 1 [x] rfl rfl hb1.out (fun e => (by cases e)) (by have := hn.out; have := hge.out; have := hm.out; have := ho.out; simp only [List.length_cons, List.length_nil]; omega) (by have := z1.out; have := za.out; omega) ?_; intro v' w2 hO4 hB4; obtain ⟨A9, n9, c9, rfl⟩ := hO4.sl; have hL4 := hLa.out.below hB4 H.out.lL H.out.lR H.out.off; have hF4 := hFa.out.thenB hB4; replace hO4 := hi_ hO4; replace hF4 := hi_ hF4; have q4 := hL4.rdr.cell 2; have v4 := hL4.rdr.frozen 2; replace hL4 := hi_ hL4; clear hB4)
  go_ret
  refine ⟨fun h => absurd h hge.out, fun _ => ⟨rfl, ⟨⟨_, hL4.out.set 2 _ _ _ rfl, ?_⟩, hF4.out.storeR 2 _, H.out.lL, H.out.lR, H.out.off⟩⟩⟩
  exact hO4.out.farL (hO4.out.notL hL4.out.rdr (by decide))
end
end
end Go.Proofs.YthffpbkndnhlfaaGreatDoor

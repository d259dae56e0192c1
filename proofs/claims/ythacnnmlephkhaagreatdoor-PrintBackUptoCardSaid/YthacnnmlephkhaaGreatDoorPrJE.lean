/- Walks and laws, joined: part E. No condition. -/
import Derived.Test.YthacnnmlephkhaaGreatDoorPrJD
import Derived.Test.YthacnnmlephkhaaGreatDoorPrJA
import Derived.Test.YthacnnmlephkhaaGreatDoorPrJC
import Derived.BigRegion
import Derived.RegionTactic
import Derived.Deep.DeepCutAuto
import Derived.Deep.Cut
set_option linter.unusedSimpArgs false
set_option linter.unusedVariables false
/- Reading, plain: what is printed is read as it was. No condition. -/
namespace Go.Rd
open Go Go.Wk Go.Fx Go.Lib
def Sep (T : Bs) : Prop := ∀ c, T[0]? = some c → regB c = false
theorem sep_cons {c : UInt8} {r : Bs} (h : regB c = false) : Sep (c :: r) := fun x hx => by
 have : c = x := by simpa using hx
 rw [← this]; exact h
theorem run_all {l T : Bs} (h : ∀ c ∈ l, regB c = true) (hT : Sep T) : runS (l ++ T) = l := by
 unfold runS
 induction l with
 | nil =>
  cases T with
  | nil => rfl
  | cons x T => simp [List.takeWhile_cons, hT x rfl]
 | cons x l ih =>
  rw [List.cons_append, List.takeWhile_cons, if_pos (h x (by simp)), ih fun c hc => h c (List.mem_cons_of_mem _ hc)]
theorem dig_hex (n : Nat) (h : n < 16) : digI ((hexD n).toNat : Int) = (n : Int) := by
 have : ∀ n : Fin 16, digI ((hexD n.1).toNat : Int) = (n.1 : Int) := by decide
 exact this ⟨n, h⟩
theorem hex_reg (n : Nat) (h : n < 16) : regB (hexD n) = true ∧ whiteB (hexD n) = false ∧ hexD n ≠ 62 ∧ hexD n ≠ 60 ∧ hexD n ≠ 37 := by
 have : ∀ n : Fin 16, regB (hexD n.1) = true ∧ whiteB (hexD n.1) = false ∧ hexD n.1 ≠ 62 ∧ hexD n.1 ≠ 60 ∧ hexD n.1 ≠ 37 := by decide
 exact this ⟨n, h⟩
theorem byte_back (c : UInt8) : UInt8.ofNat (((c.toNat / 16 : Nat) : Int) * 16 + ((c.toNat % 16 : Nat) : Int)).toNat = c ∧ UInt8.ofNat (16 * ((c.toNat / 16 : Nat) : Int) + ((c.toNat % 16 : Nat) : Int)).toNat = c := by
 have e : (((c.toNat / 16 : Nat) : Int) * 16 + ((c.toNat % 16 : Nat) : Int)).toNat = c.toNat := by omega
 have e2 : (16 * ((c.toNat / 16 : Nat) : Int) + ((c.toNat % 16 : Nat) : Int)).toNat = c.toNat := by omega
 rw [e, e2]; simp
theorem name_back {T : Bs} (hT : Sep T) : ∀ (s : Bs) (f : Nat) (out : Bs), s.length < f → out.length + s.length ≤ 127 → (∀ c ∈ s, c ≠ 0) → nameS f out (s.flatMap nameC ++ T) = .ok (out ++ s) T := by
 intro s
 induction s with
 | nil =>
  intro f out hf _ _
  obtain ⟨f, rfl⟩ : ∃ g, f = g + 1 := ⟨f - 1, by simp at hf; omega⟩
  cases T with
  | nil => simp [nameS]
  | cons x T => simp [nameS, hT x rfl]
 | cons c s ih =>
  intro f out hf hl h0
  obtain ⟨f, rfl⟩ : ∃ g, f = g + 1 := ⟨f - 1, by simp at hf; omega⟩
  simp only [List.length_cons] at hf hl
  have hn : ¬ 127 ≤ out.length := by omega
  have ihc := ih f (out ++ [c]) (by omega) (by simp; omega) fun x hx => h0 x (List.mem_cons_of_mem _ hx)
  rw [List.append_assoc, List.singleton_append] at ihc
  have hcc : nameC c = if 33 ≤ c.toNat ∧ c.toNat ≤ 126 ∧ c ≠ 35 ∧ regB c = true then [c] else 35 :: hexS [c] := rfl
  rw [List.flatMap_cons, List.append_assoc, hcc]
  split
  ·rename_i h
   obtain ⟨h1, h2, h3, h4⟩ := h
   simp only [List.cons_append, List.nil_append, nameS, h4, Bool.true_eq_false, if_false, h3, hn]
   exact ihc
  ·have hd1 := dig_hex (c.toNat / 16) (by have := c.toNat_lt; omega)
   have hd2 := dig_hex (c.toNat % 16) (by omega)
   have e1 : pk ([hexD (c.toNat / 16), hexD (c.toNat % 16)] ++ (s.flatMap nameC ++ T)) 0 = ((hexD (c.toNat / 16)).toNat : Int) := by simp [pk]
   have e2 : pk ([hexD (c.toNat / 16), hexD (c.toNat % 16)] ++ (s.flatMap nameC ++ T)) 1 = ((hexD (c.toNat % 16)).toNat : Int) := by simp [pk]
   have hne : c.toNat ≠ 0 := fun h => h0 c (by simp) (UInt8.toNat_inj.1 (by rw [h]; rfl))
   have e3 : hexS [c] = [hexD (c.toNat / 16), hexD (c.toNat % 16)] := by simp [hexS]
   have r35 : ¬ regB 35 = false := by decide
   rw [List.cons_append, nameS, e3, if_neg r35, if_pos rfl, e1, e2, hd1, hd2, if_neg (by omega), if_neg hn, (byte_back c).1]
   exact ihc
theorem text_back {T : Bs} : ∀ (b : Bs) (f : Nat) (out : Bs), b.length < f → out.length + b.length ≤ 32767 → (∀ c ∈ b, plainB c = true) → textS f 1 out (b ++ 41 :: T) = .ok (out ++ b) T := by
 intro b
 induction b with
 | nil =>
  intro f out hf _ _
  obtain ⟨f, rfl⟩ : ∃ g, f = g + 1 := ⟨f - 1, by simp at hf; omega⟩
  simp [textS]
 | cons c b ih =>
  intro f out hf hl h0
  obtain ⟨f, rfl⟩ : ∃ g, f = g + 1 := ⟨f - 1, by simp at hf; omega⟩
  simp only [List.length_cons] at hf hl
  have hn : ¬ 32767 ≤ out.length := by omega
  have ihc := ih f (out ++ [c]) (by omega) (by simp; omega) fun x hx => h0 x (List.mem_cons_of_mem _ hx)
  rw [List.append_assoc, List.singleton_append] at ihc
  have hc := h0 c (by simp)
  simp only [plainB, Bool.and_eq_true, decide_eq_true_eq, bne_iff_ne] at hc
  obtain ⟨⟨⟨⟨g1, g2⟩, g3⟩, g4⟩, g5⟩ := hc
  have n13 : ¬ (c = 13 ∨ c = 10) := fun h => by rcases h with h | h <;> rw [h] at g1 <;> exact absurd g1 (by decide)
  rw [List.cons_append, textS.eq_def]
  simp only []
  rw [if_neg g5, if_neg (fun h => g4 h.1), if_neg hn, if_neg n13, if_neg g3, if_neg g4]
  exact ihc
theorem hex_back {T : Bs} : ∀ (b : Bs) (f : Nat) (out : Bs), 2 * b.length < f → out.length + b.length ≤ 32767 → hexR f (-1) out (hexS b ++ 62 :: T) = .ok (out ++ b) T := by
 intro b
 induction b with
 | nil =>
  intro f out hf _
  obtain ⟨f, rfl⟩ : ∃ g, f = g + 1 := ⟨f - 1, by simp at hf; omega⟩
  have w62 : ¬ whiteB 62 = true := by decide
  simp [hexS, hexR, w62]
 | cons c b ih =>
  intro f out hf hl
  obtain ⟨f, rfl⟩ : ∃ g, f = g + 2 := ⟨f - 2, by simp at hf; omega⟩
  simp only [List.length_cons] at hf hl
  have hn : ¬ 32767 ≤ out.length := by omega
  have ihc := ih f (out ++ [c]) (by omega) (by simp; omega)
  rw [List.append_assoc, List.singleton_append] at ihc
  have lt1 : c.toNat / 16 < 16 := by have := c.toNat_lt; omega
  have lt2 : c.toNat % 16 < 16 := by omega
  have hd1 := dig_hex _ lt1
  have hd2 := dig_hex _ lt2
  obtain ⟨_, a1, a2, _, _⟩ := hex_reg _ lt1
  obtain ⟨_, b1, b2, _, _⟩ := hex_reg _ lt2
  have e3 : hexS (c :: b) ++ 62 :: T = hexD (c.toNat / 16) :: hexD (c.toNat % 16) :: (hexS b ++ 62 :: T) := by simp [hexS]
  rw [e3, hexR, a1, if_neg (by decide), if_neg a2, hd1, if_neg (by omega), if_pos (by omega), hexR, b1, if_neg (by decide), if_neg b2, hd2, if_neg (by omega), if_neg (by omega), if_neg hn, (byte_back c).2]
  exact ihc
theorem blank_here {c : UInt8} {r : Bs} (h1 : whiteB c = false) (h2 : c ≠ 37) : blankM false (c :: r) = c :: r := by
 rw [blankM, h1]; simp [h2]
theorem tok_sp (r : Bs) : tokS (32 :: r) = tokS r := by
 unfold tokS
 have w : whiteB 32 = true := by decide
 rw [blankM, w]; rfl
theorem tok_here {c : UInt8} {r : Bs} (h1 : whiteB c = false) (h2 : c ≠ 37) : tokS (c :: r) = tokA (c :: r) := by unfold tokS; rw [blank_here h1 h2]
theorem fm_len (s : Bs) : s.length ≤ (s.flatMap nameC).length := by
 induction s with
 | nil => simp
 | cons c s ih =>
  have : 1 ≤ (nameC c).length := by unfold nameC; split <;> simp
  rw [List.flatMap_cons, List.length_append, List.length_cons]; omega
theorem nameOk_iff {s : Bs} (h : nameOk s = true) : s.length ≤ 127 ∧ ∀ c ∈ s, c ≠ 0 := by
 unfold nameOk at h
 simp only [Bool.and_eq_true, decide_eq_true_eq, Bool.not_eq_true', List.contains_eq_mem, decide_eq_false_iff_not] at h
 exact ⟨h.1, fun c hc e => h.2 (by rw [← e]; exact hc)⟩
theorem tok_name {s T : Bs} (h : nameOk s = true) (hT : Sep T) : tokS (nameT s ++ T) = .ok ⟨4, 0, s⟩ T := by
 obtain ⟨h1, h2⟩ := nameOk_iff h
 unfold nameT
 rw [List.cons_append, tok_here (by decide) (by decide), tokA, if_neg (by decide), if_neg (by decide), if_neg (by rintro ⟨h, _⟩; exact absurd h (by decide)), if_neg (by rintro ⟨h, _⟩; exact absurd h (by decide)), if_pos rfl]
 have := fm_len s
 rw [name_back hT s _ [] (by simp only [List.length_append]; omega) (by simpa using h1) h2]
 rfl
theorem hexS_cons (c : UInt8) (b : Bs) : hexS (c :: b) = hexD (c.toNat / 16) :: hexD (c.toNat % 16) :: hexS b := by simp [hexS]
theorem tok_text {b : Bs} (T : Bs) (h : b.length ≤ 32767) : tokS (textT b ++ T) = .ok ⟨3, 0, b⟩ T := by
 unfold textT
 split
 ·rename_i hp
  have hp2 : ∀ c ∈ b, plainB c = true := by simpa using hp
  rw [List.cons_append, tok_here (by decide) (by decide), tokA, if_neg (by decide), if_neg (by decide), if_neg (by rintro ⟨h, _⟩; exact absurd h (by decide)), if_neg (by rintro ⟨h, _⟩; exact absurd h (by decide)), if_neg (by decide), if_pos rfl, List.append_assoc, List.singleton_append,
   text_back b _ [] (by simp; omega) (by simpa using h) hp2]
  rfl
 ·rename_i hp
  obtain ⟨c, b', rfl⟩ : ∃ c b', b = c :: b' := by
   cases b with
   | nil => exact absurd rfl hp
   | cons c b => exact ⟨c, b, rfl⟩
  obtain ⟨_, _, _, a4, _⟩ := hex_reg (c.toNat / 16) (by have := c.toNat_lt; omega)
  have hne : ¬ ((60 : UInt8) = 60 ∧ (hexS (c :: b') ++ [62] ++ T)[0]? = some 60) := by
   rintro ⟨_, h2⟩
   rw [hexS_cons] at h2
   exact a4 (by simpa using h2)
  rw [List.cons_append, tok_here (by decide) (by decide), tokA, if_neg (by decide), if_neg (by decide), if_neg hne, if_neg (by rintro ⟨h, _⟩; exact absurd h (by decide)), if_neg (by decide), if_neg (by decide), if_pos rfl, List.append_assoc, List.singleton_append,
   hex_back (c :: b') _ [] (by have := hexS_len (c :: b'); simp only [List.length_append, List.length_cons] at this ⊢; omega) (by simpa using h)]
  rfl
theorem dig_ok {c : UInt8} (h : isD c = true) : regB c = true ∧ whiteB c = false ∧ c ≠ 37 ∧ numC c = true ∧ c ≠ 91 ∧ c ≠ 93 ∧ c ≠ 60 ∧ c ≠ 62 ∧ c ≠ 47 ∧ c ≠ 40 := by
 have : ∀ c : UInt8, isD c = true → regB c = true ∧ whiteB c = false ∧ c ≠ 37 ∧ numC c = true ∧ c ≠ 91 ∧ c ≠ 93 ∧ c ≠ 60 ∧ c ≠ 62 ∧ c ≠ 47 ∧ c ≠ 40 := by
  intro c h
  simp only [isD, Bool.and_eq_true, decide_eq_true_eq] at h
  have hc : ∀ d : UInt8, (d.toNat < 48 ∨ 57 < d.toNat) → c ≠ d := fun d hd e => by rw [e] at h; omega
  have n1 := fun d hd => (beq_eq_false_iff_ne.2 (hc d hd))
  refine ⟨?_, ?_, hc _ (by decide), ?_, hc _ (by decide), hc _ (by decide), hc _ (by decide), hc _ (by decide), hc _ (by decide), hc _ (by decide)⟩
  ·unfold regB
   rw [n1 0 (by decide), n1 9 (by decide), n1 10 (by decide), n1 12 (by decide), n1 13 (by decide), n1 32 (by decide), n1 40 (by decide), n1 41 (by decide), n1 60 (by decide), n1 62 (by decide), n1 91 (by decide), n1 93 (by decide), n1 123 (by decide), n1 125 (by decide), n1 47 (by decide), n1 37 (by decide)]
   rfl
  ·unfold whiteB
   rw [n1 0 (by decide), n1 9 (by decide), n1 10 (by decide), n1 12 (by decide), n1 13 (by decide), n1 32 (by decide)]
   rfl
  ·unfold numC
   simp [h.1, h.2]
 exact this c h
theorem num_bytes (n : Int) (w : Bool) : (∀ c ∈ numT n w, isD c = true ∨ c = 45 ∨ c = 46) ∧ ∃ c r, numT n w = c :: r ∧ (isD c = true ∨ c = 45) := by
 have hit : ∀ m : Int, (∀ c ∈ itoa m, isD c = true ∨ c = 45 ∨ c = 46) ∧ ∃ c r, itoa m = c :: r ∧ (isD c = true ∨ c = 45) := by
  intro m
  unfold itoa
  split
  ·exact ⟨fun c hc => by
    rcases List.mem_cons.1 hc with h | h
    ·exact .inr (.inl h)
    ·exact .inl (dec_isD _ c h), _, _, rfl, .inr rfl⟩
  ·refine ⟨fun c hc => .inl (dec_isD _ c hc), ?_⟩
   have hp := dec_pos m.toNat
   cases h : decDigits m.toNat with
   | nil => rw [h] at hp; simp at hp
   | cons c r => exact ⟨c, r, rfl, .inl (dec_isD m.toNat c (by rw [h]; simp))⟩
 unfold numT
 split
 ·exact hit n
 ·have hf := frac_isD (n.natAbs % 100000) (by omega)
  have hp := dec_pos (n.natAbs / 100000)
  have hd := dec_isD (n.natAbs / 100000)
  refine ⟨fun c hc => ?_, ?_⟩
  ·rcases List.mem_append.1 hc with h | h
   ·split at h
    ·exact .inr (.inl (by simpa using h))
    ·simp at h
   ·rcases List.mem_append.1 h with h | h
    ·exact .inl (hd c h)
    ·rcases List.mem_cons.1 h with h | h
     ·exact .inr (.inr h)
     ·exact .inl (hf c h)
  ·split
   ·exact ⟨_, _, rfl, .inr rfl⟩
   ·cases h : decDigits (n.natAbs / 100000) with
    | nil => rw [h] at hp; simp at hp
    | cons c r => exact ⟨c, _, rfl, .inl (hd c (by rw [h]; simp))⟩
theorem tok_num {n : Int} {w : Bool} {T : Bs} (hn : isIn n = true) (hw : w = true → -2147483647 ≤ n ∧ n ≤ 2147483647) (hT : Sep T) : tokS (numT n w ++ T) = .ok ⟨if w then 1 else 2, n, []⟩ T := by
 obtain ⟨h1, c, r, e, h2⟩ := num_bytes n w
 have hreg : ∀ x ∈ numT n w, regB x = true := fun x hx => by
  rcases h1 x hx with h | h | h
  ·exact (dig_ok h).1
  ·rw [h]; decide
  ·rw [h]; decide
 have hrun := run_all hreg hT
 have hp := parse_text n w hn hw
 have hc : whiteB c = false ∧ c ≠ 37 ∧ numC c = true ∧ c ≠ 91 ∧ c ≠ 93 ∧ c ≠ 60 ∧ c ≠ 62 ∧ c ≠ 47 ∧ c ≠ 40 := by
  rcases h2 with h | h
  ·exact (dig_ok h).2
  ·rw [h]; decide
 obtain ⟨c1, c2, c3, c4, c5, c6, c7, c8, c9⟩ := hc
 have hcons : numT n w ++ T = c :: (r ++ T) := by rw [e]; rfl
 rw [hcons, tok_here c1 c2, tokA, if_neg c4, if_neg c5, if_neg (fun h => c6 h.1), if_neg (fun h => c7 h.1), if_neg c8, if_neg c9, if_neg c6, if_pos c3, ← hcons]
 unfold numS
 rw [hrun, hp, if_pos rfl, List.drop_left]
theorem tok_word {l T : Bs} {c : UInt8} {r : Bs} (e : l = c :: r) (h : ∀ x ∈ l, regB x = true) (hl : l.length ≤ 127) (hw : whiteB c = false) (hc : c ≠ 37 ∧ c ≠ 91 ∧ c ≠ 93 ∧ c ≠ 60 ∧ c ≠ 62 ∧ c ≠ 47 ∧ c ≠ 40) (hn : numC c = false) (hT : Sep T) : tokS (l ++ T) = .ok ⟨9, 0, l⟩ T := by
 have hrun := run_all h hT
 obtain ⟨c2, c4, c5, c6, c7, c8, c9⟩ := hc
 have hcons : l ++ T = c :: (r ++ T) := by rw [e]; rfl
 have hr : regB c = true := h c (by rw [e]; simp)
 rw [hcons, tok_here hw c2, tokA, if_neg c4, if_neg c5, if_neg (fun h => c6 h.1), if_neg (fun h => c7 h.1), if_neg c8, if_neg c9, if_neg c6, hn, if_neg (by decide), if_pos hr, ← hcons, hrun, if_neg (by omega), List.drop_left]
theorem tok_true {T : Bs} (hT : Sep T) : tokS ([116, 114, 117, 101] ++ T) = .ok ⟨9, 0, [116, 114, 117, 101]⟩ T := tok_word rfl (by decide) (by decide) (by decide) (by decide) (by decide) hT
theorem tok_false {T : Bs} (hT : Sep T) : tokS ([102, 97, 108, 115, 101] ++ T) = .ok ⟨9, 0, [102, 97, 108, 115, 101]⟩ T := tok_word rfl (by decide) (by decide) (by decide) (by decide) (by decide) hT
theorem tok_null {T : Bs} (hT : Sep T) : tokS ([110, 117, 108, 108] ++ T) = .ok ⟨9, 0, [110, 117, 108, 108]⟩ T := tok_word rfl (by decide) (by decide) (by decide) (by decide) (by decide) hT
theorem tok_R {T : Bs} (hT : Sep T) : tokS ([82] ++ T) = .ok ⟨9, 0, [82]⟩ T := tok_word rfl (by decide) (by decide) (by decide) (by decide) (by decide) hT
theorem tok_open (T : Bs) : tokS (91 :: T) = .ok ⟨5, 0, []⟩ T := by rw [tok_here (by decide) (by decide), tokA, if_pos rfl]
theorem tok_close (T : Bs) : tokS (93 :: T) = .ok ⟨6, 0, []⟩ T := by rw [tok_here (by decide) (by decide), tokA, if_neg (by decide), if_pos rfl]
theorem tok_left (T : Bs) : tokS (60 :: 60 :: T) = .ok ⟨7, 0, []⟩ T := by rw [tok_here (by decide) (by decide), tokA, if_neg (by decide), if_neg (by decide), if_pos ⟨rfl, rfl⟩]; rfl
theorem tok_right (T : Bs) : tokS (62 :: 62 :: T) = .ok ⟨8, 0, []⟩ T := by rw [tok_here (by decide) (by decide), tokA, if_neg (by decide), if_neg (by decide), if_neg (by rintro ⟨h, _⟩; exact absurd h (by decide)), if_pos ⟨rfl, rfl⟩]; rfl

/- Reading, plain: an object that may be, printed, is read as it was. No condition. -/
inductive MayK (dep : Nat) : Ob → Prop
 | null : MayK dep (.mk 0 0 [] [] [])
 | bool (n : Int) : n = 0 ∨ n = 1 → MayK dep (.mk 1 n [] [] [])
 | int (n : Int) : -2147483647 ≤ n ∧ n ≤ 2147483647 → MayK dep (.mk 2 n [] [] [])
 | real (n : Int) : -214748364799999 ≤ n ∧ n ≤ 214748364799999 → MayK dep (.mk 3 n [] [] [])
 | str (b : Bs) : b.length ≤ 32767 → MayK dep (.mk 4 0 b [] [])
 | name (b : Bs) : nameOk b = true → MayK dep (.mk 5 0 b [] [])
 | arr (l : List Ob) : 0 < dep → mayL (dep - 1) l = true → MayK dep (.mk 6 0 [] l [])
 | dict (d : List (Bs × Ob)) : 0 < dep → risesB d = true → mayD (dep - 1) d = true → MayK dep (.mk 7 0 [] [] d)
 | stm (b : Bs) (d : List (Bs × Ob)) : 0 < dep → risesB d = true → mayD (dep - 1) d = true → b.length ≤ 16777216 → MayK dep (.mk 8 0 b [] d)
 | ref (n : Int) : 1 ≤ n ∧ n ≤ 8388607 → MayK dep (.mk 9 n [] [] [])
theorem may_K {dep : Nat} {o : Ob} (h : o.may dep = true) : MayK dep o := by
 obtain ⟨k, n, b, l, d⟩ := o
 rw [Ob.may] at h
 rw [Bool.and_eq_true] at h
 obtain ⟨h1, h2⟩ := h
 simp only [spareB, Bool.and_eq_true, Bool.or_eq_true, beq_iff_eq] at h1
 obtain ⟨⟨⟨s1, s2⟩, s3⟩, s4⟩ := h1
 have eb : b.length = 0 → b = [] := List.length_eq_zero_iff.1
 have el : l.length = 0 → l = [] := List.length_eq_zero_iff.1
 have ed : d.length = 0 → d = [] := List.length_eq_zero_iff.1
 split at h2
 ·rename_i e; subst e
  obtain rfl : n = 0 := by omega
  obtain rfl := eb (by omega); obtain rfl := el (by omega); obtain rfl := ed (by omega)
  exact .null
 split at h2
 ·rename_i e; subst e
  obtain rfl := eb (by omega); obtain rfl := el (by omega); obtain rfl := ed (by omega)
  have := of_decide_eq_true h2
  exact .bool n (by omega)
 split at h2
 ·rename_i e; subst e
  obtain rfl := eb (by omega); obtain rfl := el (by omega); obtain rfl := ed (by omega)
  exact .int n (of_decide_eq_true h2)
 split at h2
 ·rename_i e; subst e
  obtain rfl := eb (by omega); obtain rfl := el (by omega); obtain rfl := ed (by omega)
  exact .real n (of_decide_eq_true h2)
 split at h2
 ·rename_i e; subst e
  obtain rfl := eb (by omega); obtain rfl := el (by omega); obtain rfl := ed (by omega)
  exact .ref n (of_decide_eq_true h2)
 split at h2
 ·rename_i e; subst e
  obtain rfl : n = 0 := by omega
  obtain rfl := el (by omega); obtain rfl := ed (by omega)
  exact .str b (of_decide_eq_true h2)
 split at h2
 ·rename_i e; subst e
  obtain rfl : n = 0 := by omega
  obtain rfl := el (by omega); obtain rfl := ed (by omega)
  exact .name b h2
 split at h2
 ·rename_i e; subst e
  obtain rfl : n = 0 := by omega
  obtain rfl := eb (by omega); obtain rfl := ed (by omega)
  rw [Bool.and_eq_true] at h2
  exact .arr l (of_decide_eq_true h2.1) h2.2
 split at h2
 ·rename_i e
  simp only [Bool.and_eq_true, decide_eq_true_eq] at h2
  obtain ⟨⟨⟨m1, m2⟩, m3⟩, m4⟩ := h2
  rcases e with e | e <;> subst e
  ·obtain rfl : n = 0 := by omega
   obtain rfl := eb (by omega); obtain rfl := el (by omega)
   exact .dict d m1 m2 m4
  ·obtain rfl : n = 0 := by omega
   obtain rfl := el (by omega)
   exact .stm b d m1 m2 m4 m3
 ·cases h2
def NR (T : Bs) : Prop := ∀ n, wholeS false n T = (.mk 2 n [] [] [], T)
def NW (T : Bs) : Prop := ∀ t u, tokS T = .ok t u → ¬ (t.k = 9 ∧ t.b = [82])
theorem nr_of {T : Bs} (h : ∀ t u, tokS T = .ok t u → t.k = 1 ∧ t.n = 0 → NW u) : NR T := by
 intro n
 unfold wholeS
 split
 ·cases ht : tokS T with
  | err e u => rfl
  | ok t u =>
   simp only []
   split
   ·rename_i hk
    cases hu : tokS u with
    | err e v => rfl
    | ok s v =>
     simp only []
     rw [if_neg (h t u ht hk s v hu)]
   ·rfl
 ·rfl
theorem nw_sp {T : Bs} (h : NW T) : NW (32 :: T) := fun t u => by rw [tok_sp]; exact h t u
theorem first_tok {dep : Nat} {o : Ob} (h : o.may dep = true) (h8 : o.kind ≠ 8) {T : Bs} (hT : Sep T) : ∃ t u, tokS (o.show ++ T) = .ok t u ∧ ¬ (t.k = 9 ∧ t.b = [82]) ∧ (t.k = 1 ∧ t.n = 0 → u = T) ∧ t.k ≠ 6 := by
 cases may_K h with
 | null => exact ⟨_, _, tok_null hT, by simp, by simp, by simp⟩
 | bool n hn =>
  rcases hn with rfl | rfl
  ·exact ⟨_, _, tok_false hT, by simp, by simp, by simp⟩
  ·exact ⟨_, _, tok_true hT, by simp, by simp, by simp⟩
 | int n hn => exact ⟨_, _, tok_num (w := true) (by unfold isIn; simp; omega) (fun _ => hn) hT, by simp, fun _ => rfl, by simp⟩
 | real n hn => exact ⟨_, _, tok_num (w := false) (by unfold isIn; simp; omega) (by simp) hT, by simp, fun _ => rfl, by simp⟩
 | str b hb => exact ⟨_, _, tok_text T hb, by simp, by simp, by simp⟩
 | name b hb => exact ⟨_, _, tok_name hb hT, by simp, by simp, by simp⟩
 | arr l _ _ => exact ⟨⟨5, 0, []⟩, showL true l ++ [93] ++ T, by rw [← tok_open]; rfl, by simp, by simp, by simp⟩
 | dict d _ _ _ => exact ⟨⟨7, 0, []⟩, showD d ++ [62, 62] ++ T, by rw [← tok_left]; rfl, by simp, by simp, by simp⟩
 | stm b d _ _ _ _ => exact absurd rfl h8
 | ref n hn =>
  have e : (Ob.mk 9 n [] [] []).show ++ T = numT n true ++ (32 :: 48 :: 32 :: 82 :: T) := by simp [Ob.show]
  refine ⟨_, _, by rw [e]; exact tok_num (w := true) (by unfold isIn; simp; omega) (fun _ => by omega) (sep_cons (by decide)), by simp, fun h => ?_, by simp⟩
  have := h.2
  simp only at this
  omega
theorem nw_show {dep : Nat} {o : Ob} (h : o.may dep = true) (h8 : o.kind ≠ 8) {T : Bs} (hT : Sep T) : NW (o.show ++ T) := fun t u ht => by
 obtain ⟨t', u', h1, h2, _⟩ := first_tok h h8 hT
 rw [h1] at ht
 cases ht
 exact h2
theorem nr_show {dep : Nat} {o : Ob} (h : o.may dep = true) (h8 : o.kind ≠ 8) {T : Bs} (hT : Sep T) (hw : NW T) : NR (32 :: (o.show ++ T)) := nr_of fun t u ht hk => by
 obtain ⟨t', u', h1, h2, h3, _⟩ := first_tok h h8 hT
 rw [tok_sp, h1] at ht
 cases ht
 rw [h3 hk]
 exact hw
theorem nr_tok {T : Bs} {t : Tok} {u : Bs} (h : tokS T = .ok t u) (hk : t.k ≠ 1) : NR T := nr_of fun t' u' ht hk' => by
 rw [h] at ht
 cases ht
 exact absurd hk'.1 hk
theorem nw_tok {T : Bs} {t : Tok} {u : Bs} (h : tokS T = .ok t u) (hk : t.k ≠ 9) : NW T := fun t' u' ht hk' => by
 rw [h] at ht
 cases ht
 exact hk hk'.1
theorem tail_L {dep : Nat} (T : Bs) : ∀ l, mayL dep l = true → Sep (showL false l ++ 93 :: T) ∧ NW (showL false l ++ 93 :: T) ∧ NR (showL false l ++ 93 :: T)
 | [], _ => ⟨sep_cons (by decide), nw_tok (tok_close T) (by decide), nr_tok (tok_close T) (by decide)⟩
 | o :: r, h => by
  simp only [mayL, Bool.and_eq_true, bne_iff_ne] at h
  obtain ⟨⟨h8, hm⟩, hr⟩ := h
  obtain ⟨i1, i2, i3⟩ := tail_L T r hr
  have e : showL false (o :: r) ++ 93 :: T = 32 :: (o.show ++ (showL false r ++ 93 :: T)) := by simp [showL]
  rw [e]
  exact ⟨sep_cons (by decide), nw_sp (nw_show hm h8 i1), nr_show hm h8 i1 i2⟩
theorem tail_D {dep : Nat} (T : Bs) : ∀ d, mayD dep d = true → Sep (showD d ++ 62 :: 62 :: T) ∧ NW (showD d ++ 62 :: 62 :: T) ∧ NR (showD d ++ 62 :: 62 :: T)
 | [], _ => ⟨sep_cons (by decide), nw_tok (tok_right T) (by decide), nr_tok (tok_right T) (by decide)⟩
 | e :: r, h => by
  simp only [mayD, Bool.and_eq_true, bne_iff_ne] at h
  obtain ⟨⟨⟨⟨hn, _⟩, h8⟩, hm⟩, hr⟩ := h
  have e1 : showD (e :: r) ++ 62 :: 62 :: T = nameT e.1 ++ (32 :: (e.2.show ++ showD r ++ 62 :: 62 :: T)) := by simp [showD]
  have ht := tok_name (T := 32 :: (e.2.show ++ showD r ++ 62 :: 62 :: T)) hn (sep_cons (by decide))
  rw [e1]
  exact ⟨sep_cons (by decide), nw_tok ht (by show (4 : Int) ≠ 9; decide), nr_tok ht (by show (4 : Int) ≠ 1; decide)⟩
theorem val_sp (pl : Bool) (d : Nat) (r : Bs) : valS pl d (32 :: r) = valS pl d r := by
 have hb : blankM false (32 :: r) = blankM false r := by
  have w : whiteB 32 = true := by decide
  rw [blankM, w]; rfl
 rw [valS.eq_def, valS.eq_def, tok_sp, hb]
theorem show_pos (o : Ob) : 0 < o.show.length := by
 obtain ⟨k, n, b, l, d⟩ := o
 obtain ⟨_, c, r, e, _⟩ := num_bytes n true
 obtain ⟨_, c', r', e', _⟩ := num_bytes n false
 have h1 : 0 < (numT n true).length := by rw [e]; simp
 have h2 : 0 < (numT n false).length := by rw [e']; simp
 unfold Ob.show
 repeat' split
 all_goals first | (simp; done) | exact h1 | exact h2 | (simp only [textT]; split <;> simp; done) | (simp [nameT]; done) | (simp only [List.length_append]; omega)
theorem showL_len : ∀ (l : List Ob) (f : Bool), l.length ≤ (showL f l).length
 | [], _ => by simp
 | o :: r, f => by
  have := showL_len r false
  have := show_pos o
  simp only [showL, List.length_append, List.length_cons]; omega
theorem showD_len : ∀ (d : List (Bs × Ob)), d.length ≤ (showD d).length
 | [] => by simp
 | e :: r => by
  have := showD_len r
  simp only [showD, List.length_append, List.length_cons]; omega
theorem lt_irr : ∀ a : Bs, ltB a a = false
 | [] => rfl
 | x :: a => by simp [ltB, UInt8.lt_irrefl, lt_irr a]
theorem lt_trans : ∀ {a b c : Bs}, ltB a b = true → ltB b c = true → ltB a c = true
 | _, [], _, h, _ => by simp [ltB] at h
 | _, _ :: _, [], _, h => by simp [ltB] at h
 | [], _ :: _, _ :: _, _, _ => rfl
 | x :: a, y :: b, z :: c, h1, h2 => by
  unfold ltB at h1 h2 ⊢
  simp only [UInt8.lt_iff_toNat_lt] at h1 h2 ⊢
  split at h1
  ·split at h2
   ·rw [if_pos (by omega)]
   ·split at h2
    ·cases h2
    ·rw [if_pos (by omega)]
  ·split at h1
   ·cases h1
   ·split at h2
    ·rw [if_pos (by omega)]
    ·split at h2
     ·cases h2
     ·rw [if_neg (by omega), if_neg (by omega)]
      exact lt_trans h1 h2
theorem rises_all : ∀ (d : List (Bs × Ob)), risesB d = true → d.Pairwise fun a b => ltB a.1 b.1 = true
 | [], _ => .nil
 | [a], _ => by simp
 | a :: b :: r, h => by
  simp only [risesB, Bool.and_eq_true] at h
  have ih := rises_all (b :: r) h.2
  refine List.Pairwise.cons (fun x hx => ?_) ih
  rcases List.mem_cons.1 hx with e | e
  ·rw [e]; exact h.1
  ·exact lt_trans h.1 ((List.pairwise_cons.1 ih).1 x e)
theorem with_last {K : Bs} {X : Ob} : ∀ {d : List (Bs × Ob)}, (∀ e ∈ d, ltB e.1 K = true) → withL K X false d = d ++ [(K, X)]
 | [], _ => rfl
 | e :: r, h => by
  have h1 := h e (by simp)
  have hne : e.1 ≠ K := fun e1 => by rw [e1, lt_irr] at h1; cases h1
  have ih := with_last (X := X) (d := r) fun x hx => h x (List.mem_cons_of_mem _ hx)
  simp only [withL, h1, hne, Bool.not_true, Bool.and_false, Bool.or_false, if_false, Bool.false_eq_true, ih]
  rfl
theorem put_last {K : Bs} {X : Ob} {d : List (Bs × Ob)} (h : ∀ e ∈ d, ltB e.1 K = true) (hX : X.kind ≠ 0) : putE K X d = d ++ [(K, X)] := by
 unfold putE
 rw [beq_eq_false_iff_ne.2 hX]
 exact with_last h
def Back (dep : Nat) : Prop := ∀ o : Ob, o.may dep = true → o.kind ≠ 8 → ∀ T, Sep T → NR T → valS false dep (o.show ++ T) = .ok o T
theorem arr_back {dep : Nat} (hb : Back dep) (T : Bs) : ∀ (l : List Ob) (fst : Bool) (f : Nat) (acc : List Ob), mayL dep l = true → l.length < f → arrS (valS false dep) f acc (showL fst l ++ 93 :: T) = .ok (acc ++ l) T
 | [], fst, f, acc, _, hf => by
  obtain ⟨f, rfl⟩ : ∃ g, f = g + 1 := ⟨f - 1, by simp at hf; omega⟩
  simp [showL, arrS, tok_close]
 | o :: r, fst, f, acc, h, hf => by
  obtain ⟨f, rfl⟩ : ∃ g, f = g + 1 := ⟨f - 1, by simp at hf; omega⟩
  simp only [mayL, Bool.and_eq_true, bne_iff_ne] at h
  obtain ⟨⟨h8, hm⟩, hr⟩ := h
  obtain ⟨i1, i2, i3⟩ := tail_L T r hr
  have ih := arr_back hb T r false f (acc ++ [o]) hr (by simp at hf; omega)
  obtain ⟨t, u, t1, t2, t3, t4⟩ := first_tok hm h8 i1
  have hv := hb o hm h8 _ i1 i3
  have e : ∀ fst, tokS (showL fst (o :: r) ++ 93 :: T) = .ok t u ∧ valS false dep (showL fst (o :: r) ++ 93 :: T) = .ok o (showL false r ++ 93 :: T) := fun fst => by
   cases fst
   ·have e : showL false (o :: r) ++ 93 :: T = 32 :: (o.show ++ (showL false r ++ 93 :: T)) := by simp [showL]
    rw [e, tok_sp, val_sp]; exact ⟨t1, hv⟩
   ·have e : showL true (o :: r) ++ 93 :: T = o.show ++ (showL false r ++ 93 :: T) := by simp [showL]
    rw [e]; exact ⟨t1, hv⟩
  obtain ⟨e1, e2⟩ := e fst
  rw [arrS, e1]
  simp only []
  rw [if_neg t4, e2]
  simp only []
  rw [ih, List.append_assoc]; rfl
theorem dict_back {dep : Nat} (hb : Back dep) (T : Bs) : ∀ (d : List (Bs × Ob)) (f : Nat) (acc : List (Bs × Ob)) (keys : List Bs), keys = acc.map (·.1) → (acc ++ d).Pairwise (fun a b => ltB a.1 b.1 = true) → mayD dep d = true → d.length < f → dictS (valS false dep) f keys acc (showD d ++ 62 :: 62 :: T) = .ok (acc ++ d) T
 | [], f, acc, keys, _, _, _, hf => by
  obtain ⟨f, rfl⟩ : ∃ g, f = g + 1 := ⟨f - 1, by simp at hf; omega⟩
  simp [showD, dictS, tok_right]
 | e :: r, f, acc, keys, hk, hp, h, hf => by
  obtain ⟨f, rfl⟩ : ∃ g, f = g + 1 := ⟨f - 1, by simp at hf; omega⟩
  simp only [mayD, Bool.and_eq_true, bne_iff_ne] at h
  obtain ⟨⟨⟨⟨hn, h0⟩, h8⟩, hm⟩, hr⟩ := h
  obtain ⟨i1, i2, i3⟩ := tail_D T r hr
  have hlt : ∀ x ∈ acc, ltB x.1 e.1 = true := fun x hx => (List.pairwise_append.1 hp).2.2 x hx e (by simp)
  have hkeys : keys.contains e.1 = false := by
   rw [hk, List.contains_eq_mem, decide_eq_false_iff_not]
   intro hc
   obtain ⟨x, hx, e1⟩ := List.mem_map.1 hc
   have := hlt x hx
   rw [e1, lt_irr] at this
   cases this
  have ih := dict_back hb T r f (acc ++ [(e.1, e.2)]) (keys ++ [e.1]) (by rw [hk]; simp) (by simpa using hp) hr (by simp at hf; omega)
  have e1 : showD (e :: r) ++ 62 :: 62 :: T = nameT e.1 ++ (32 :: (e.2.show ++ (showD r ++ 62 :: 62 :: T))) := by simp [showD]
  have ht := tok_name (T := 32 :: (e.2.show ++ (showD r ++ 62 :: 62 :: T))) hn (sep_cons (by decide))
  rw [dictS, e1, ht]
  simp only []
  rw [if_neg (by decide), if_neg (by decide), if_neg (by decide), hkeys, if_neg (by decide), val_sp, hb e.2 hm h8 _ i1 i3]
  simp only []
  rw [put_last hlt h0, ih, List.append_assoc]; rfl
theorem val_back : ∀ dep, Back dep := by
 intro dep
 induction dep using Nat.strongRecOn with
 | _ dep IH =>
  intro o h h8 T hT hR
  have hmk := may_K h
  cases hmk with
  | null =>
   have e : (Ob.mk 0 0 [] [] []).show ++ T = [110, 117, 108, 108] ++ T := rfl
   rw [e, valS.eq_def, tok_null hT]; rfl
  | bool n hn =>
   rcases hn with rfl | rfl
   ·have e : (Ob.mk 1 0 [] [] []).show ++ T = [102, 97, 108, 115, 101] ++ T := rfl
    rw [e, valS.eq_def, tok_false hT]; rfl
   ·have e : (Ob.mk 1 1 [] [] []).show ++ T = [116, 114, 117, 101] ++ T := rfl
    rw [e, valS.eq_def, tok_true hT]; rfl
  | int n hn =>
   have e : (Ob.mk 2 n [] [] []).show ++ T = numT n true ++ T := by simp [Ob.show]
   rw [e, valS.eq_def, tok_num (w := true) (by unfold isIn; simp; omega) (fun _ => hn) hT]
   simp only [if_true]
   rw [if_neg (by decide), hR n]
  | real n hn =>
   have e : (Ob.mk 3 n [] [] []).show ++ T = numT n false ++ T := by simp [Ob.show]
   rw [e, valS.eq_def, tok_num (w := false) (by unfold isIn; simp; omega) (by simp) hT]
   rfl
  | str b hb =>
   have e : (Ob.mk 4 0 b [] []).show ++ T = textT b ++ T := by simp [Ob.show]
   rw [e, valS.eq_def, tok_text T hb]; rfl
  | name b hb =>
   have e : (Ob.mk 5 0 b [] []).show ++ T = nameT b ++ T := by simp [Ob.show]
   rw [e, valS.eq_def, tok_name hb hT]; rfl
  | arr l hd hm =>
   obtain ⟨g, rfl⟩ : ∃ g, dep = g + 1 := ⟨dep - 1, by omega⟩
   rw [Nat.add_sub_cancel] at hm
   have e : (Ob.mk 6 0 [] l []).show ++ T = 91 :: (showL true l ++ 93 :: T) := by simp [Ob.show]
   have ih := arr_back (IH g (by omega)) T l true ((showL true l ++ 93 :: T).length + 1) [] hm (by have := showL_len l true; simp only [List.length_append, List.length_cons]; omega)
   rw [e, valS.eq_def, tok_open]
   simp only []
   rw [ih]; rfl
  | dict d hd hr hm =>
   obtain ⟨g, rfl⟩ : ∃ g, dep = g + 1 := ⟨dep - 1, by omega⟩
   rw [Nat.add_sub_cancel] at hm
   have e : (Ob.mk 7 0 [] [] d).show ++ T = 60 :: 60 :: (showD d ++ 62 :: 62 :: T) := by simp [Ob.show]
   have ih := dict_back (IH g (by omega)) T d ((showD d ++ 62 :: 62 :: T).length + 1) [] [] rfl (by simpa using rises_all d hr) hm (by have := showD_len d; simp only [List.length_append, List.length_cons]; omega)
   rw [e, valS.eq_def, tok_left]
   simp only []
   rw [ih]; rfl
  | stm b d _ _ _ _ => exact absurd rfl h8
  | ref n hn =>
   have e : (Ob.mk 9 n [] [] []).show ++ T = numT n true ++ (32 :: 48 :: 32 :: 82 :: T) := by simp [Ob.show]
   have h0 : tokS ([48] ++ 32 :: 82 :: T) = .ok ⟨1, 0, []⟩ (32 :: 82 :: T) := by
    have := tok_num (n := 0) (w := true) (T := 32 :: 82 :: T) (by decide) (fun _ => by decide) (sep_cons (by decide))
    have e0 : numT 0 true = [48] := by unfold numT itoa; rw [if_pos rfl, if_neg (by decide), decDigits]; rfl
    rw [e0] at this
    exact this
   rw [e, valS.eq_def, tok_num (w := true) (by unfold isIn; simp; omega) (fun _ => by omega) (sep_cons (by decide))]
   simp only [if_true]
   rw [if_neg (by decide)]
   unfold wholeS
   rw [if_pos ⟨hn.1, hn.2, rfl⟩, tok_sp, show (48 :: 32 :: 82 :: T : Bs) = [48] ++ 32 :: 82 :: T from rfl, h0]
   simp only [and_self, if_true]
   rw [tok_sp, show (82 :: T : Bs) = [82] ++ T from rfl, tok_R hT]
   rfl
end Go.Rd

/- The document's parser in memory; what is kept while it reads. No condition. -/
namespace Go.Proofs.YthacnnmlephkhaaGreatDoor
open Go Go.RowKit Go.Wk Go.Rd
structure Save (L : Nat) (w w' : World) : Prop where
 os : w'.os = w.os
 tape : w'.tape = w.tape
 output : w'.output = w.output
 size : w.heap.size ≤ w'.heap.size
 block : ∀ k, k < w.heap.size → k ≠ L → w'.heap[k]? = w.heap[k]?
theorem Save.refl (L : Nat) (w : World) : Save L w w := ⟨rfl, rfl, rfl, Nat.le_refl _, fun _ _ _ => rfl⟩
theorem Save.trans {L : Nat} {a b c : World} (h : Save L a b) (k : Save L b c) : Save L a c :=
 ⟨k.os.trans h.os, k.tape.trans h.tape, k.output.trans h.output, Nat.le_trans h.size k.size, fun j hj hn => (k.block j (Nat.lt_of_lt_of_le hj h.size) hn).trans (h.block j hj hn)⟩
theorem Save.store {L : Nat} {a b : World} (h : Save L a b) (o : Nat) (u : Value) : Save L a (b.setCell ⟨L, o, none⟩ u) :=
 h.trans ⟨rfl, rfl, rfl, by simp [World.setCell], fun k _ hn => Below.heap_setCell _ _ _ _ hn⟩
theorem Save.of_below {L : Nat} {a b : World} (h : Below a.heap.size a b) : Save L a b := ⟨h.os, h.tape, h.output, h.size, fun k hk _ => h.block k hk⟩
theorem Save.then_ {L : Nat} {a b c : World} (h : Save L a b) (k : Below b.heap.size b c) : Save L a c := h.trans (.of_below k)
theorem Save.thenB {L : Nat} {a b c : World} (h : Save L a b) (k : Below a.heap.size b c) : Save L a c := ⟨k.os.trans h.os, k.tape.trans h.tape, k.output.trans h.output, Nat.le_trans h.size k.size, fun j hj hn => (k.block j hj).trans (h.block j hj hn)⟩
theorem Save.below {L B : Nat} {a b : World} (h : Save L a b) (hL : B ≤ L) (hB : B ≤ a.heap.size) : Below B a b := ⟨h.os, h.tape, h.output, h.size, fun k hk => h.block k (by omega) (by omega)⟩
theorem Save.cell {L : Nat} {a b : World} (h : Save L a b) {p : Addr} (hn : p.block ≠ L) (hp : p.block < a.heap.size) : b.cell? p = a.cell? p := World.cell?_of_block (w := a) (h.block p.block hp hn)
theorem Save.byt {L : Nat} {a b : World} {A : Option Addr} {bs : List UInt8} (h : Save L a b) (hn : 0 < bs.length → ∀ x, A = some x → x.block ≠ L) (hb : Byt a A bs) : Byt b A bs := by
 refine ⟨hb.1, fun h0 => ?_⟩
 obtain ⟨g, o, e, hc⟩ := hb.2 h0
 refine ⟨g, o, e, fun i hi => ?_⟩
 rw [h.cell (p := ⟨g, o + i, none⟩) (show g ≠ L from hn h0 _ e) (cell_lt (hc i hi))]
 exact hc i hi
theorem Save.own {L B : Nat} {a b : World} {v : Value} {bs : List UInt8} (h : Save L a b) (hB : L < B) (ho : Own B a v bs) : Own B b v bs :=
 ⟨own_far ho.row fun k hk hs => h.block k hs (by omega)⟩
theorem Save.obI {L lo hi : Nat} {a b : World} {o : Ob} {us : List Value} (h : Save L a b) (hl : L < lo) (ho : ObI lo hi a o us) : ObI lo hi b o us :=
 ho.keep (fun k h1 h2 => h.block k (by have := ho.1; omega) (by omega)) (Nat.le_trans ho.1 h.size)
theorem Save.blk {L g : Nat} {a b : World} {t : TypeId} {cs : Array Value} (h : Save L a b) (hg : g ≠ L) (k : Blk a g t cs) : Blk b g t cs := (h.block g k.lt hg).trans k
def pos (bs r : Bs) : Nat := bs.length - r.length
theorem suf_len {bs r : Bs} (h : r <:+ bs) : r.length ≤ bs.length := h.length_le
theorem suf_drop {bs r : Bs} (h : r <:+ bs) : bs.drop (pos bs r) = r := by
 obtain ⟨q, rfl⟩ := h
 unfold pos
 rw [List.length_append, Nat.add_sub_cancel, List.drop_left]
theorem suf_at {bs r : Bs} (h : r <:+ bs) (i : Nat) : bs[pos bs r + i]? = r[i]? := by
 rw [← List.getElem?_drop, suf_drop h]
theorem pos_le (bs r : Bs) : pos bs r ≤ bs.length := by unfold pos; omega
theorem pos_cons {bs t : Bs} {c : UInt8} (h : (c :: t) <:+ bs) : pos bs t = pos bs (c :: t) + 1 ∧ pos bs (c :: t) < bs.length := by
 have := suf_len h
 unfold pos
 simp only [List.length_cons] at this ⊢
 omega
theorem pos_drop {bs r : Bs} (h : r <:+ bs) (n : Nat) (hn : n ≤ r.length) : pos bs (r.drop n) = pos bs r + n := by
 have := suf_len h
 unfold pos
 rw [List.length_drop]; omega
theorem suf_tail {bs t : Bs} {c : UInt8} (h : (c :: t) <:+ bs) : t <:+ bs := (List.suffix_cons c t).trans h
theorem suf_dropn {bs r : Bs} (h : r <:+ bs) (n : Nat) : r.drop n <:+ bs := (List.drop_suffix n r).trans h
theorem pos_len {bs r : Bs} (h : r <:+ bs) : bs.length - pos bs r = r.length := by
 have := suf_len h
 unfold pos; omega
structure LX (L : Nat) (A : Option Addr) (c : Nat) (bs : Bs) (D : Value) (P : Value) (w : World) (r : Bs) : Prop where
 blk : Blk w L 73 #[.slice A bs.length c, .int .i64 (pos bs r : Nat), D, P]
 byt : Byt w A bs
 ne : 0 < bs.length → ∀ x, A = some x → x.block ≠ L
 suf : r <:+ bs
 cap : bs.length ≤ c
 small : bs.length ≤ 1000000000
section
variable {L : Nat} {A : Option Addr} {c : Nat} {bs : Bs} {D P : Value} {w w' : World} {r r' : Bs}
theorem LX.below (h : LX L A c bs D P w r) (hb : Below w.heap.size w w') : LX L A c bs D P w' r := ⟨h.blk.below hb h.blk.lt, h.byt.below hb, h.ne, h.suf, h.cap, h.small⟩
theorem LX.go (h : LX L A c bs D P w r) (hs : r' <:+ bs) : LX L A c bs D P (w.setCell ⟨L, 1, none⟩ (.int .i64 (pos bs r' : Nat))) r' :=
 ⟨h.blk.set_ 1 _, (Save.refl L w).store 1 _ |>.byt h.ne h.byt, h.ne, hs, h.cap, h.small⟩
theorem LX.to (h : LX L A c bs D P w r) (hs : Save L w w') (hb : Blk w' L 73 #[.slice A bs.length c, .int .i64 (pos bs r' : Nat), D, P]) (hr : r' <:+ bs) : LX L A c bs D P w' r' :=
 ⟨hb, hs.byt h.ne h.byt, h.ne, hr, h.cap, h.small⟩
theorem LX.a_lt (h : LX L A c bs D P w r) : 0 < bs.length → ∀ x, A = some x → x.block < w.heap.size := fun h0 x hx => by
 obtain ⟨g, o, e, hc⟩ := h.byt.2 h0
 rw [hx] at e
 injection e with e
 rw [e]
 exact cell_lt (hc 0 h0)
theorem LX.belowB {B : Nat} (h : LX L A c bs D P w r) (hb : Below B w w') (hL : L < B) (hA : 0 < bs.length → ∀ x, A = some x → x.block < B) : LX L A c bs D P w' r := by
 refine ⟨h.blk.below hb hL, ⟨h.byt.1, fun h0 => ?_⟩, h.ne, h.suf, h.cap, h.small⟩
 obtain ⟨g, o, e, hc⟩ := h.byt.2 h0
 exact ⟨g, o, e, fun i hi => (hb.cell (p := ⟨g, o + i, none⟩) (show g < B from hA h0 _ e)).trans (hc i hi)⟩
theorem LX.lt (h : LX L A c bs D P w r) : L < w.heap.size := h.blk.lt
end
def posOf (L : Nat) (w : World) : Nat := match w.cell? ⟨L, 1, none⟩ with | some (.int _ n) => n.toNat | _ => 0
theorem LX.posOf {L : Nat} {A : Option Addr} {c : Nat} {bs : Bs} {D P : Value} {w : World} {r : Bs} (h : LX L A c bs D P w r) : posOf L w = pos bs r := by
 unfold Proofs.YthacnnmlephkhaaGreatDoor.posOf
 rw [h.blk.cell 1]; simp
end Go.Proofs.YthacnnmlephkhaaGreatDoor

/- The document's small functions of reading: Peek, peek, White, Digit, Regular. No condition. -/
namespace Go.Proofs.YthacnnmlephkhaaGreatDoor
open Go Go.RowKit Go.Wk Go.Rd Go.Fx
theorem peekS_eq {bs : Bs} {q : Nat} (h : q < bs.length) : peekS bs q = (bs[q].toNat : Int) := (peekS_in h).2.2
set_option maxHeartbeats 1000000 in
set_option maxRecDepth 100000 in
theorem rf_Peek (A : Option Addr) (c : Nat) (bs : Bs) (w : World) (hb : Byt w A bs) (q : Nat) (hs : bs.length ≤ 1000000000) (hq : q ≤ 2000000000) :
 Calls Tryz.prog 115 #[.slice A bs.length c, .int .i64 (q : Nat)] w fun e w' => e = .returned (.int .i64 (peekS bs q)) ∧ Below w.heap.size w w' := by
 obtain ⟨S, hS⟩ : ∃ S, S = peekS bs q := ⟨_, rfl⟩
 rw [← hS]
 obtain ⟨m, hm⟩ : ∃ m, m = bs.length := ⟨_, rfl⟩
 by_cases hlt : q < bs.length
 ·obtain ⟨b, o, rfl, hc⟩ := hb.2 (by omega)
  have hck := hc q hlt
  rw [peekS_eq hlt] at hS
  have hx0 := u8_lt bs[q]
  generalize bs[q] = x at *
  obtain ⟨xn, hxn⟩ : ∃ n : Int, n = (x.toNat : Int) := ⟨_, rfl⟩
  rw [← hxn] at hck hx0 hS
  have hx1 : 0 ≤ xn := by omega
  have hxw : wrap64 xn = xn := by unfold wrap64; omega
  rw [← hm] at hlt hs ⊢
  replace hS := hi_ hS
  replace hm := hi_ hm
  replace hxw := hi_ hxw
  clear hc hb hxn
  go_enter Tryz.func115, Tryz.ntmps115
  go_wp2
  go_ret
  exact ⟨by rw [hS.out]; first | rfl | exact congrArg (fun z => Ending.returned (.int .i64 z)) hxw.out, by first | exact Below.refl _ _ | exact (Below.refl _ _).drew⟩
 ·rw [peekS_out hlt] at hS
  rw [← hm] at hlt hs ⊢
  replace hS := hi_ hS
  replace hm := hi_ hm
  clear hb
  go_enter Tryz.func115, Tryz.ntmps115
  go_wp2
  go_ret
  exact ⟨by rw [hS.out]; rfl, Below.refl _ _⟩
theorem pk_eq {bs r : Bs} (h : r <:+ bs) (i : Nat) : peekS bs (pos bs r + i) = pk r i := by unfold peekS pk; rw [suf_at h] <;> cases r[i]? <;> rfl
theorem pk_range (r : Bs) (i : Nat) : -1 ≤ pk r i ∧ pk r i ≤ 255 := by
 unfold pk
 split
 ·rename_i b _; have := u8_lt b; omega
 ·omega
section
variable {L : Nat} {A : Option Addr} {c : Nat} {bs : Bs} {D P : Value} {w w' : World} {r r' : Bs}
set_option maxHeartbeats 1000000 in
set_option maxRecDepth 100000 in
theorem rx_peek (h : LX L A c bs D P w r) (i : Nat) (hi : i ≤ 1000) :
 Calls Tryz.prog 82 #[.pointer (some ⟨L, 0, none⟩), .int .i64 (i : Nat)] w fun e w' => e = .returned (.int .i64 (pk r i)) ∧ Below w.heap.size w w' := by
 have c0 := fun W (hW : Below w.heap.size w W) => rf_Peek A c bs W (h.byt.below hW) (pos bs r + i) h.small (by have := pos_le bs r; have := h.small; omega)
 rw [pk_eq h.suf] at c0
 have h0 := h.blk.cell 0
 have h1 := h.blk.cell 1
 have hle := pos_le bs r
 have hsm := h.small
 obtain ⟨m, hm⟩ : ∃ m, m = bs.length := ⟨_, rfl⟩
 rw [← hm] at h0 h1 c0 hle hsm
 obtain ⟨p, hp⟩ : ∃ p, p = pos bs r := ⟨_, rfl⟩
 rw [← hp] at h1 c0 hle
 obtain ⟨S, hS⟩ : ∃ S, S = pk r i := ⟨_, rfl⟩
 rw [← hS] at c0 ⊢
 replace h := hi_ h
 replace hm := hi_ hm
 replace hp := hi_ hp
 replace hS := hi_ hS
 have hsum : ((p + i : Nat) : Int) = (p : Int) + (i : Int) := by omega
 rw [hsum] at c0
 replace hsum := hi_ hsum
 have hwr : IntKind.i64.wrap ((p : Int) + (i : Int)) = (p : Int) + (i : Int) := IntWalk.i64_in _ (by omega)
 go_enter Tryz.func82, Tryz.ntmps82
 go_wp2
 go_region_with (go_at_call 115; (with_reducible refine (c0 _ (by first | exact (Below.refl _ _).drew | exact Below.refl _ _)).mono ?_); rintro e w1 ⟨rfl, hB⟩; replace hB := hi_ hB)
 all_goals go_wp2
 all_goals go_ret
 all_goals exact ⟨rfl, (Below.refl _ _).drew.trans hB.out⟩
end
def whtI (x : Int) : Bool := (x == 0) || (x == 9) || (x == 10) || (x == 12) || (x == 13) || (x == 32)
def rgI (x : Int) : Bool := !(decide (x < 0) || decide (255 < x) || whtI x || ((x == 40) || (x == 41) || (x == 60) || (x == 62) || (x == 91) || (x == 93) || (x == 123) || (x == 125) || (x == 47) || (x == 37)))
theorem u8_eqI (c n : UInt8) : (c == n) = ((c.toNat : Int) == (n.toNat : Int)) := by
 rw [Bool.eq_iff_iff]; simp only [beq_iff_eq]
 exact ⟨fun h => by rw [h], fun h => UInt8.toNat_inj.1 (by omega)⟩
theorem white_u8 (c : UInt8) : whtI (c.toNat : Int) = whiteB c := by
 unfold whtI whiteB; rw [u8_eqI c 0, u8_eqI c 9, u8_eqI c 10, u8_eqI c 12, u8_eqI c 13, u8_eqI c 32]; rfl
theorem reg_u8 (c : UInt8) : rgI (c.toNat : Int) = regB c := by
 have h1 : decide ((c.toNat : Int) < 0) = false := by simp
 have h2 : decide ((255 : Int) < (c.toNat : Int)) = false := by have := c.toNat_lt; simp; omega
 unfold rgI
 rw [h1, h2, white_u8]
 unfold regB whiteB
 rw [u8_eqI c 40, u8_eqI c 41, u8_eqI c 60, u8_eqI c 62, u8_eqI c 91, u8_eqI c 93, u8_eqI c 123, u8_eqI c 125, u8_eqI c 47, u8_eqI c 37]
 simp only [Bool.false_or, Bool.or_assoc]
 rfl
def regP : Bs → Bool
 | [] => false
 | c :: _ => regB c
theorem reg_pk (r : Bs) : rgI (pk r 0) = regP r := by
 cases r with
 | nil => rfl
 | cons c t => simp only [pk, List.getElem?_cons_zero, regP]; exact reg_u8 c
set_option maxHeartbeats 1000000 in
set_option maxRecDepth 100000 in
theorem rf_White {w : World} (x : Int) : Calls Tryz.prog 63 #[.int .i64 x] w fun e w' => e = .returned (.bool (whtI x)) ∧ w = w' := by
 have h : whtI x = ((x == 0) || (x == 9) || (x == 10) || (x == 12) || (x == 13) || (x == 32)) := rfl
 replace h := hi_ h
 generalize whtI x = B at *
 go_enter Tryz.func63, Tryz.ntmps63
 go_wp2
 all_goals go_ret
 all_goals (refine ⟨congrArg (fun b => Ending.returned (.bool b)) ?_, rfl⟩; first | (rw [h.out, Bool.eq_iff_iff]; done) | (rw [h.out, Bool.eq_iff_iff]; simp; done) | (rw [h.out, Bool.eq_iff_iff]; simp; omega))
set_option maxHeartbeats 1000000 in
set_option maxRecDepth 100000 in
theorem rf_Digit {w : World} (x : Int) (hx : -1 ≤ x ∧ x ≤ 255) : Calls Tryz.prog 152 #[.int .i64 x] w fun e w' => e = .returned (.int .i64 (digI x)) ∧ w = w' := by
 have h : digI x = if 48 ≤ x ∧ x ≤ 57 then x - 48 else if 97 ≤ x ∧ x ≤ 102 then x - 87 else if 65 ≤ x ∧ x ≤ 70 then x - 55 else -1 := rfl
 replace h := hi_ h
 generalize digI x = B at *
 go_enter Tryz.func152, Tryz.ntmps152
 go_wp2
 all_goals go_ret
 all_goals
  refine ⟨congrArg (fun b => Ending.returned (.int .i64 b)) ?_, rfl⟩
  have := h.out
  split at this
  ·omega
  split at this
  ·omega
  split at this <;> omega
set_option maxHeartbeats 1000000 in
set_option maxRecDepth 100000 in
theorem r10_Regular {w : World} (x : Int) (hx : -1 ≤ x ∧ x ≤ 255) : Calls Tryz.prog 36 #[.int .i64 x] w fun e w' => e = .returned (.bool (rgI x)) ∧ w = w' := by
 have h : rgI x = !(decide (x < 0) || decide (255 < x) || whtI x || ((x == 40) || (x == 41) || (x == 60) || (x == 62) || (x == 91) || (x == 93) || (x == 123) || (x == 125) || (x == 47) || (x == 37))) := rfl
 have cw := rf_White (w := w) x
 replace h := hi_ h
 generalize rgI x = B at *
 generalize whtI x = V at *
 go_enter Tryz.func36, Tryz.ntmps36
 go_wp2_with (go_at_call 63; (with_reducible refine cw.mono ?_); rintro e w1 ⟨rfl, rfl⟩)
 all_goals go_ret
 all_goals (refine ⟨congrArg (fun b => Ending.returned (.bool b)) ?_, rfl⟩; rw [h.out]; cases V <;> first | (exfalso; simp_all; done) | (exfalso; simp_all; omega) | (rw [Bool.eq_iff_iff]; simp; done) | (rw [Bool.eq_iff_iff]; simp; omega) | (rw [Bool.eq_iff_iff]; simp_all; done) | (rw [Bool.eq_iff_iff]; simp_all; omega))

/- The document's Blank: white signs and comments passed. No condition. -/
section
variable {L : Nat} {A : Option Addr} {c : Nat} {bs : Bs} {D P : Value} {w w' : World} {r r' : Bs}
theorem rx_peek0 {x : UInt8} {t : Bs} (X : Int) (hX : X = (x.toNat : Int)) (W : World) (h : LX L A c bs D P W (x :: t)) : Calls Tryz.prog 82 #[.pointer (some ⟨L, 0, none⟩), .int .i64 0] W fun e w' => e = .returned (.int .i64 X) ∧ Below W.heap.size W w' := by
 have := rx_peek h 0 (by omega)
 rw [hX]; exact this
theorem rx_peekN (W : World) (h : LX L A c bs D P W []) : Calls Tryz.prog 82 #[.pointer (some ⟨L, 0, none⟩), .int .i64 0] W fun e w' => e = .returned (.int .i64 (-1)) ∧ Below W.heap.size W w' := rx_peek h 0 (by omega)
theorem LX.next {x : UInt8} {t : Bs} (h : LX L A c bs D P w (x :: t)) {q : Int} (hq : q = (pos bs (x :: t) : Int)) : LX L A c bs D P (w.setCell ⟨L, 1, none⟩ (.int .i64 (q + 1))) t := by
 have h1 := h.go (suf_tail h.suf)
 have e := (pos_cons h.suf).1
 rw [hq]
 rw [e] at h1
 exact h1
theorem LX.pos_i {r : Bs} (h : LX L A c bs D P w r) : ∃ q : Int, q = (pos bs r : Int) ∧ 0 ≤ q ∧ q ≤ 1000000000 := ⟨_, rfl, by omega, by have := pos_le bs r; have := h.small; omega⟩
set_option maxHeartbeats 4000000 in
set_option maxRecDepth 100000 in
theorem rx_Blank (h : LX L A c bs D P w r) : Calls Tryz.prog 80 #[.pointer (some ⟨L, 0, none⟩)] w fun e w' => e = .returned (.tuple #[]) ∧ LX L A c bs D P w' (blankM false r) ∧ Save L w w' := by
 obtain ⟨R, hR⟩ : ∃ R, R = blankM false r := ⟨_, rfl⟩
 rw [← hR]
 replace hR := hi_ hR
 replace h := hi_ h
 go_enter Tryz.func80, Tryz.ntmps80
 go_wp2
 go_loopw [2] (fun _ wr => ∃ r1, LX L A c bs D P wr r1 ∧ blankM false r1 = R ∧ Save L w wr) (fun _ wr => bs.length + 1 - posOf L wr)
 case atStart => exact ⟨r, h.out, hR.out.symm, Save.refl _ _⟩
 case round =>
  obtain ⟨r1, hL, hE, hS⟩ := hrel
  have hms := hL.posOf
  clear h hR
  cases r1 with
  | nil =>
   obtain rfl : R = [] := hE.symm
   have cp := fun W h => rx_peekN (L := L) (A := A) (c := c) (bs := bs) (D := D) (P := P) W h
   replace cp := hi_ cp
   have q1 := hL.blk.cell 1
   have v1 := hL.blk.frozen 1
   replace hL := hi_ hL
   replace hS := hi_ hS
   clear hms hE
   go_wp2_with (go_at_call 82; (with_reducible refine (cp.out _ hL.out).mono ?_); rintro e w1 ⟨rfl, hB⟩; replace hL := hi_ (hL.out.below hB); replace hS := hi_ (hS.out.then_ hB); replace q1 := hL.out.blk.cell 1; replace v1 := hL.out.blk.frozen 1; clear hB)
   exact bodyPost_ret (by simp [results, Tryz.results80, go_sem]; try rfl) rfl ⟨rfl, hL.out, hS.out⟩
  | cons x t =>
   obtain ⟨X, hX⟩ := hidE (x.toNat : Int)
   have hX0 : 0 ≤ X ∧ X ≤ 255 := by rw [hX.out]; have := x.toNat_lt; omega
   have cp := fun W h => rx_peek0 (L := L) (A := A) (c := c) (bs := bs) (D := D) (P := P) (x := x) (t := t) X hX.out W h
   have hpc := pos_cons hL.suf
   obtain ⟨q, hq, hq0, hq1⟩ := hL.pos_i
   have q1 := hL.blk.cell 1
   have v1 := hL.blk.frozen 1
   rw [← hq] at q1
   have cw := fun W => rf_White (w := W) X
   have hw : whtI X = whiteB x := by rw [hX.out]; exact white_u8 x
   rw [hw] at cw
   replace hw := hi_ hw
   replace hq := hi_ hq
   replace cp := hi_ cp
   replace cw := hi_ cw
   replace hpc := hi_ hpc
   replace hL := hi_ hL
   replace hS := hi_ hS
   replace hE := hi_ hE
   replace hms := hi_ hms
   cases hwx : whiteB x with
   | true =>
    rw [hwx] at cw
    go_wp2_with (first
     | (go_at_call 82; (with_reducible refine (cp.out _ hL.out).mono ?_); rintro e w1 ⟨rfl, hB⟩; replace hL := hi_ (hL.out.below hB); replace hS := hi_ (hS.out.then_ hB); replace q1 := hL.out.blk.cell 1; rw [← hq.out] at q1; replace v1 := hL.out.blk.frozen 1; clear hB)
     | (go_at_call 63; (with_reducible refine (cw.out _).mono ?_); rintro e w2 ⟨rfl, rfl⟩))
    have hL2 := hL.out.next hq.out
    have e1 := hL2.posOf
    have e2 := hms.out
    have e3 := hpc.out
    have e4 := hE.out
    rw [blankM, hwx, if_pos rfl] at e4
    exact ⟨⟨t, hL2, e4, hS.out.store 1 _⟩, by rw [e1, e2]; omega⟩
   | false =>
    rw [hwx] at cw
    have h37 : (X == 37) = (x == 37) := by rw [hX.out, u8_eqI x 37]; rfl
    cases hx37 : (x == 37) with
    | false =>
     rw [hx37] at h37
     have e4 := hE.out
     rw [blankM, hwx, if_neg (by decide), hx37, if_neg (by decide)] at e4
     subst e4
     clear hE
     go_wp2_with (first
      | (go_at_call 82; (with_reducible refine (cp.out _ hL.out).mono ?_); rintro e w1 ⟨rfl, hB⟩; replace hL := hi_ (hL.out.below hB); replace hS := hi_ (hS.out.then_ hB); replace q1 := hL.out.blk.cell 1; rw [← hq.out] at q1; replace v1 := hL.out.blk.frozen 1; clear hB)
      | (go_at_call 63; (with_reducible refine (cw.out _).mono ?_); rintro e w2 ⟨rfl, rfl⟩))
     exact bodyPost_ret (by simp [results, Tryz.results80, go_sem]; try rfl) rfl ⟨rfl, hL.out, hS.out⟩
    | true =>
     rw [hx37] at h37
     have e4 := hE.out
     rw [blankM, hwx, if_neg (by decide), hx37, if_pos rfl] at e4
     have e5 : blankM true (x :: t) = R := by
      have hx : x = 37 := by simpa using hx37
      rw [hx, blankM, if_neg (by decide)]; exact e4
     replace e5 := hi_ e5
     clear hE e4
     obtain rfl : X = 37 := by simpa using h37
     clear h37
     go_wp2_with (first
      | (go_at_call 82; (with_reducible refine (cp.out _ hL.out).mono ?_); rintro e w1 ⟨rfl, hB⟩; replace hL := hi_ (hL.out.below hB); replace hS := hi_ (hS.out.then_ hB); replace q1 := hL.out.blk.cell 1; rw [← hq.out] at q1; replace v1 := hL.out.blk.frozen 1; clear hB)
      | (go_at_call 63; (with_reducible refine (cw.out _).mono ?_); rintro e w2 ⟨rfl, rfl⟩))
     obtain ⟨wj, rfl⟩ : ∃ wo : World, wo = wr := ⟨_, rfl⟩
     go_loopw [34] (fun _ wr => ∃ r2, LX L A c bs D P wr r2 ∧ blankM true r2 = R ∧ Save L w wr ∧ (r2 = x :: t ∨ r2.length ≤ t.length)) (fun _ wr => bs.length + 1 - posOf L wr)
     case atStart => exact ⟨x :: t, hL.out, e5.out, hS.out, .inl rfl⟩
     case round =>
      obtain ⟨r2, hL2, hE2, hS2, hor⟩ := hrel
      have hlast : r2.length ≤ t.length → posOf L wj < posOf L wr := fun h => by
       have e1 := hL2.posOf
       have e2 := hms.out
       have e3 := suf_len hL.out.suf
       have e4 := suf_len hL2.suf
       rw [e1, e2]
       unfold pos
       simp only [List.length_cons] at e3 ⊢
       omega
      have hmx : posOf L wr ≤ bs.length := by rw [hL2.posOf]; exact pos_le _ _
      have hm2 := hL2.posOf
      replace hlast := hi_ hlast
      replace hmx := hi_ hmx
      clear e5 q1 v1 hL hS
      cases r2 with
      | nil =>
       have hlast := hlast.out (Nat.zero_le _)
       obtain rfl : R = [] := hE2.symm
       have cp2 := fun W h => rx_peekN (L := L) (A := A) (c := c) (bs := bs) (D := D) (P := P) W h
       replace cp2 := hi_ cp2
       have q1 := hL2.blk.cell 1
       have v1 := hL2.blk.frozen 1
       obtain ⟨hL, hS⟩ : Hid (LX L A c bs D P wr []) ∧ Hid (Save L w wr) := ⟨Lib.hid hL2, Lib.hid hS2⟩
       replace hm2 := hi_ hm2
       replace hlast := hi_ hlast
       clear hL2 hS2 hE2 hor
       go_wp2_with (go_at_call 82; (with_reducible refine (cp2.out _ hL.out).mono ?_); rintro e w1 ⟨rfl, hB⟩; replace hL := hi_ (hL.out.below hB); replace hS := hi_ (hS.out.then_ hB); replace q1 := hL.out.blk.cell 1; replace v1 := hL.out.blk.frozen 1; clear hB)
       have e1 := hL.out.posOf
       have e2 := hm2.out
       have e3 := hlast.out
       have e4 := hmx.out
       exact ⟨⟨[], hL.out, rfl, hS.out⟩, by omega⟩
      | cons y t2 =>
       obtain ⟨Y, hY⟩ := hidE (y.toNat : Int)
       have hY0 : 0 ≤ Y ∧ Y ≤ 255 := by rw [hY.out]; have := y.toNat_lt; omega
       have cp2 := fun W h => rx_peek0 (L := L) (A := A) (c := c) (bs := bs) (D := D) (P := P) (x := y) (t := t2) Y hY.out W h
       have hpc2 := pos_cons hL2.suf
       obtain ⟨p, hp, hp0, hp1⟩ := hL2.pos_i
       have q1 := hL2.blk.cell 1
       have v1 := hL2.blk.frozen 1
       rw [← hp] at q1
       have h10 : (Y != 10) = !(y == 10) := by rw [hY.out, u8_eqI y 10]; rfl
       have h13 : (Y != 13) = !(y == 13) := by rw [hY.out, u8_eqI y 13]; rfl
       obtain ⟨hL, hS⟩ : Hid (LX L A c bs D P wr (y :: t2)) ∧ Hid (Save L w wr) := ⟨Lib.hid hL2, Lib.hid hS2⟩
       have hne : (y == 10 || y == 13) = true → (y :: t2).length ≤ t.length := fun h => by
        rcases hor with e | e
        ·injection e with e _
         rw [e] at h
         have : x = 37 := by simpa using hx37
         rw [this] at h
         exact absurd h (by decide)
        ·exact e
       have hle2 : t2.length ≤ t.length := by
        rcases hor with e | e
        ·injection e with _ e; rw [e]; exact Nat.le_refl _
        ·simp only [List.length_cons] at e; omega
       replace hle2 := hi_ hle2
       replace hm2 := hi_ hm2
       replace cp2 := hi_ cp2
       replace hpc2 := hi_ hpc2
       replace hp := hi_ hp
       replace hne := hi_ hne
       replace hE2 := hi_ hE2
       clear hL2 hS2 hor
       cases hy10 : (y == 10) with
       | true =>
        simp only [hy10, Bool.not_true, Bool.not_false] at h10
        go_wp2_with (go_at_call 82; (with_reducible refine (cp2.out _ hL.out).mono ?_); rintro e w1 ⟨rfl, hB⟩; replace hL := hi_ (hL.out.below hB); replace hS := hi_ (hS.out.then_ hB); replace q1 := hL.out.blk.cell 1; rw [← hp.out] at q1; replace v1 := hL.out.blk.frozen 1; clear hB)
        have e1 := hL.out.posOf
        have e2 := hm2.out
        have e3 := hlast.out (hne.out (by rw [hy10]; rfl))
        have e4 := hmx.out
        have e5 := hE2.out
        have hwy : whiteB y = true := by have : y = 10 := by simpa using hy10
                                         rw [this]; decide
        rw [blankM, hy10, Bool.true_or, if_pos rfl] at e5
        exact ⟨⟨y :: t2, hL.out, by rw [blankM, hwy, if_pos rfl]; exact e5, hS.out⟩, by omega⟩
       | false =>
        simp only [hy10, Bool.not_true, Bool.not_false] at h10
        cases hy13 : (y == 13) with
        | true =>
         simp only [hy13, Bool.not_true, Bool.not_false] at h13
         go_wp2_with (go_at_call 82; (with_reducible refine (cp2.out _ hL.out).mono ?_); rintro e w1 ⟨rfl, hB⟩; replace hL := hi_ (hL.out.below hB); replace hS := hi_ (hS.out.then_ hB); replace q1 := hL.out.blk.cell 1; rw [← hp.out] at q1; replace v1 := hL.out.blk.frozen 1; clear hB)
         have e1 := hL.out.posOf
         have e2 := hm2.out
         have e3 := hlast.out (hne.out (by rw [hy13]; simp))
         have e4 := hmx.out
         have e5 := hE2.out
         have hwy : whiteB y = true := by have : y = 13 := by simpa using hy13
                                          rw [this]; decide
         rw [blankM, hy13, Bool.or_true, if_pos rfl] at e5
         exact ⟨⟨y :: t2, hL.out, by rw [blankM, hwy, if_pos rfl]; exact e5, hS.out⟩, by omega⟩
        | false =>
         simp only [hy13, Bool.not_true, Bool.not_false] at h13
         go_wp2_with (go_at_call 82; (with_reducible refine (cp2.out _ hL.out).mono ?_); rintro e w1 ⟨rfl, hB⟩; replace hL := hi_ (hL.out.below hB); replace hS := hi_ (hS.out.then_ hB); replace q1 := hL.out.blk.cell 1; rw [← hp.out] at q1; replace v1 := hL.out.blk.frozen 1; clear hB)
         have hL3 := hL.out.next hp.out
         have e1 := hL3.posOf
         have e2 := hm2.out
         have e3 := hpc2.out
         have e5 := hE2.out
         have e6 := hle2.out
         rw [blankM, hy10, hy13, Bool.or_false, if_neg (by decide)] at e5
         exact ⟨⟨t2, hL3, e5, hS.out.store 1 _, .inr e6⟩, by rw [e1, e2]; omega⟩
end

/- The document's name: the signs of a name read. No condition. -/
section
variable {L : Nat} {A : Option Addr} {c : Nat} {bs : Bs} {D P : Value} {w w' : World} {r r' : Bs}
def LexR (L : Nat) (A : Option Addr) (c : Nat) (bs : Bs) (D P : Value) (w : World) (res : Res Bs) (e : Ending) (w' : World) : Prop := match res with
 | .ok b u => ∃ v, e = .returned (.tuple #[v, .int .i64 0]) ∧ Own w.heap.size w' v b ∧ LX L A c bs D P w' u ∧ Save L w w'
 | .err k _ => e = .returned (.tuple #[.slice none 0 0, .int .i64 k]) ∧ (∃ q : Int, Blk w' L 73 #[.slice A bs.length c, .int .i64 q, D, P]) ∧ Save L w w'
theorem LX.at_ {r : Bs} (h : LX L A c bs D P w r) : ∃ q : Int, Blk w L 73 #[.slice A bs.length c, .int .i64 q, D, P] := ⟨_, h.blk⟩
theorem _root_.Go.Proofs.YthacnnmlephkhaaGreatDoor.Own.save_ {B : Nat} {a b : World} {v : Value} {out : List UInt8} (ho : Own B a v out) (h : Save L a b) (hB : L < B) : Own B b v out := h.own hB ho
theorem rx_pk0 (W : World) (h : LX L A c bs D P W r) : Calls Tryz.prog 82 #[.pointer (some ⟨L, 0, none⟩), .int .i64 0] W fun e w' => e = .returned (.int .i64 (pk r 0)) ∧ Below W.heap.size W w' := rx_peek h 0 (by omega)
theorem rx_pk1 (W : World) (h : LX L A c bs D P W r) : Calls Tryz.prog 82 #[.pointer (some ⟨L, 0, none⟩), .int .i64 1] W fun e w' => e = .returned (.int .i64 (pk r 1)) ∧ Below W.heap.size W w' := rx_peek h 1 (by omega)
theorem LX.next2 {t : Bs} (h : LX L A c bs D P w t) (h2 : 2 ≤ t.length) {q : Int} (hq : q = (pos bs t : Int)) : LX L A c bs D P (w.setCell ⟨L, 1, none⟩ (.int .i64 (q + 2))) (t.drop 2) := by
 have h1 := h.go (suf_dropn h.suf 2)
 have e := pos_drop h.suf 2 h2
 rw [hq]
 rw [e] at h1
 exact h1
theorem pk_two {t : Bs} (h : 0 ≤ digI (pk t 1)) : 2 ≤ t.length := by
 rcases Nat.lt_or_ge t.length 2 with h1 | h1
 ·exfalso
  have e : pk t 1 = -1 := by unfold pk; rw [List.getElem?_eq_none (by omega)]
  rw [e] at h
  exact absurd h (by decide)
 ·exact h1
theorem dig_range (x : Int) : -1 ≤ digI x ∧ digI x ≤ 15 := by unfold digI; split; omega; split; omega; split <;> omega
set_option maxHeartbeats 8000000 in
set_option maxRecDepth 100000 in
theorem rx_name (h : LX L A c bs D P w r) : Calls Tryz.prog 140 #[.pointer (some ⟨L, 0, none⟩)] w (LexR L A c bs D P w (nameS (r.length + 1) [] r)) := by
 obtain ⟨R, hR⟩ : ∃ R, R = nameS (r.length + 1) [] r := ⟨_, rfl⟩
 rw [← hR]
 have hLw := h.lt
 have hAw := h.a_lt
 replace hAw := hi_ hAw
 replace hR := hi_ hR
 replace h := hi_ h
 go_enter Tryz.func140, Tryz.ntmps140
 go_wp2
 go_loopw [4] (fun s4 wr => ∃ f out r1, Own w.heap.size wr s4 out ∧ LX L A c bs D P wr r1 ∧ nameS f out r1 = R ∧ r1.length < f ∧ out.length ≤ 127 ∧ Save L w wr) (fun _ wr => bs.length + 1 - posOf L wr)
 case atStart => exact ⟨_, _, r, Own.nil _ _, h.out, hR.out.symm, Nat.lt_succ_self _, by simp, Save.refl _ _⟩
 case round =>
  obtain ⟨f, out, r1, hO, hL, hE, hf, h127, hS⟩ := hrel
  have hms := hL.posOf
  obtain ⟨f, rfl⟩ : ∃ g, f = g + 1 := ⟨f - 1, by omega⟩
  clear h hR
  cases r1 with
  | nil =>
   have e4 : R = .ok out [] := by rw [← hE, nameS]
   subst e4
   have cp := fun W h => rx_peekN (L := L) (A := A) (c := c) (bs := bs) (D := D) (P := P) W h
   have cr := fun W => r10_Regular (w := W) (-1) (by omega)
   rw [show rgI (-1) = false from rfl] at cr
   replace cr := hi_ cr
   replace cp := hi_ cp
   have q1 := hL.blk.cell 1
   have v1 := hL.blk.frozen 1
   replace hL := hi_ hL
   replace hS := hi_ hS
   replace hO := hi_ hO
   clear hms hE
   go_wp2_with (first
    | (go_at_call 82; (with_reducible refine (cp.out _ hL.out).mono ?_); rintro e w1 ⟨rfl, hB⟩; replace hL := hi_ (hL.out.below hB); replace hS := hi_ (hS.out.then_ hB); replace q1 := hL.out.blk.cell 1; replace v1 := hL.out.blk.frozen 1; replace hO := hi_ (hO.out.below hB); clear hB)
    | (go_at_call 36; (with_reducible refine (cr.out _).mono ?_); rintro e w2 ⟨rfl, rfl⟩))
   go_ret2
   exact ⟨_, rfl, hO.out, hL.out, hS.out⟩
  | cons x t =>
   obtain ⟨Ao, co, rfl, hby, hA⟩ := hO.out (by unfold maxLen; omega)
   obtain ⟨m, hm⟩ : ∃ m, m = out.length := ⟨_, rfl⟩
   rw [← hm] at h127 hO ⊢
   clear hby hA
   replace hm := hi_ hm
   replace h127 := hi_ h127
   obtain ⟨X, hX⟩ := hidE (x.toNat : Int)
   have hX0 : 0 ≤ X ∧ X ≤ 255 := by rw [hX.out]; have := x.toNat_lt; omega
   have cp := fun W h => rx_peek0 (L := L) (A := A) (c := c) (bs := bs) (D := D) (P := P) (x := x) (t := t) X hX.out W h
   have hpc := pos_cons hL.suf
   obtain ⟨q, hq, hq0, hq1⟩ := hL.pos_i
   have q1 := hL.blk.cell 1
   have v1 := hL.blk.frozen 1
   rw [← hq] at q1
   have cr := fun W => r10_Regular (w := W) X (by omega)
   have hw : rgI X = regB x := by rw [hX.out]; exact reg_u8 x
   rw [hw] at cr
   have h35 : (X == 35) = (x == 35) := by rw [hX.out, u8_eqI x 35]; rfl
   have hts := suf_tail hL.suf
   simp only [List.length_cons] at hf
   replace hw := hi_ hw
   replace hq := hi_ hq
   replace cp := hi_ cp
   replace cr := hi_ cr
   replace hpc := hi_ hpc
   replace hL := hi_ hL
   replace hS := hi_ hS
   replace hE := hi_ hE
   replace hms := hi_ hms
   replace hO := hi_ hO
   replace hts := hi_ hts
   replace hf := hi_ hf
   cases hrx : regB x with
   | false =>
    rw [hrx] at cr
    have e4 : R = .ok out (x :: t) := by rw [← hE.out, nameS, if_pos hrx]
    subst e4
    clear hE
    go_wp2_with (first
     | (go_at_call 82; (with_reducible refine (cp.out _ hL.out).mono ?_); rintro e w1 ⟨rfl, hB⟩; replace hL := hi_ (hL.out.below hB); replace hS := hi_ (hS.out.then_ hB); replace q1 := hL.out.blk.cell 1; rw [← hq.out] at q1; replace v1 := hL.out.blk.frozen 1; replace hO := hi_ (hO.out.below hB); clear hB)
     | (go_at_call 36; (with_reducible refine (cr.out _).mono ?_); rintro e w2 ⟨rfl, rfl⟩))
    go_ret2
    exact ⟨_, rfl, hO.out, hL.out, hS.out⟩
   | true =>
    rw [hrx] at cr
    cases hx35 : (x == 35) with
    | false =>
     rw [hx35] at h35
     have hn35 : ¬ x = 35 := by simpa using hx35
     by_cases h7 : 127 ≤ m
     ·have e7 : decide ((127 : Int) ≤ (m : Int)) = true := by simp; omega
      have e4 : R = .err 3 t := by rw [← hE.out, nameS, if_neg (by rw [hrx]; decide), if_neg hn35, if_pos (by have := hm.out; omega)]
      subst e4
      clear hE
      replace h7 := hi_ h7
      go_wp2_with (first
       | (go_at_call 82; (with_reducible refine (cp.out _ hL.out).mono ?_); rintro e w1 ⟨rfl, hB⟩; replace hL := hi_ (hL.out.below hB); replace hS := hi_ (hS.out.then_ hB); replace q1 := hL.out.blk.cell 1; rw [← hq.out] at q1; replace v1 := hL.out.blk.frozen 1; replace hO := hi_ (hO.out.below hB); clear hB)
       | (go_at_call 36; (with_reducible refine (cr.out _).mono ?_); rintro e w2 ⟨rfl, rfl⟩))
      go_ret2
      exact ⟨rfl, (hL.out.next hq.out).at_, hS.out.store 1 _⟩
     ·have e7 : decide ((127 : Int) ≤ (m : Int)) = false := by simp; omega
      have e4 : nameS f (out ++ [x]) t = R := by rw [← hE.out, nameS, if_neg (by rw [hrx]; decide), if_neg hn35, if_neg (by have := hm.out; omega)]
      replace h7 := hi_ h7
      replace e4 := hi_ e4
      go_upto_region 13 with (first
       | (go_at_call 82; (with_reducible refine (cp.out _ hL.out).mono ?_); rintro e w1 ⟨rfl, hB⟩; replace hL := hi_ (hL.out.below hB); replace hS := hi_ (hS.out.then_ hB); replace q1 := hL.out.blk.cell 1; rw [← hq.out] at q1; replace v1 := hL.out.blk.frozen 1; replace hO := hi_ (hO.out.below hB); clear hB)
       | (go_at_call 36; (with_reducible refine (cr.out _).mono ?_); rintro e w2 ⟨rfl, rfl⟩))
      obtain ⟨W2, hW2⟩ : ∃ W, W = w1.setCell ⟨L, 1, none⟩ (.int .i64 (q + 1)) := ⟨_, rfl⟩
      rw [← hW2]
      have hL2 : LX L A c bs D P W2 t := by rw [hW2]; exact hL.out.next hq.out
      have hS2 : Save L w W2 := by rw [hW2]; exact hS.out.store 1 _
      have hO2 : Own w.heap.size W2 (.slice Ao m co) out := by rw [hW2]; exact hO.out.save_ ((Save.refl L w1).store 1 _) hLw
      obtain ⟨Wa, hWa⟩ : ∃ W, W = W2.alloc (.cells #[.int .u8 X] 5) := ⟨_, rfl⟩
      have hba : Below W2.heap.size W2 Wa := by rw [hWa]; exact (Below.refl _ _).alloc (Nat.le_refl _) _
      have hb1 : Byt Wa (some ⟨W2.heap.size, 0, none⟩) [x] := by rw [hWa, hX.out]; exact byt_new1 W2 x 5
      have hO3 := hO2.below hba
      have hL3 := hL2.below hba
      have hS3 := hS2.then_ hba
      have zs := hS2.size
      have za := hba.size
      replace hWa := hi_ hWa
      replace hW2 := hi_ hW2
      replace hba := hi_ hba
      replace hb1 := hi_ hb1
      replace hL2 := hi_ hL2
      replace hS2 := hi_ hS2
      replace hO2 := hi_ hO2
      replace hL3 := hi_ hL3
      replace hS3 := hi_ hS3
      replace hO3 := hi_ hO3
      have hw8 : IntKind.u8.wrap X = X := by unfold IntKind.wrap; simp [IntKind.signed, IntKind.bits]; omega
      go_wp2_with (at_builtin; rw [← hWa.out]; refine app_b rfl _ _ rfl w.heap.size _ _ rfl hO3.out (some ⟨W2.heap.size, 0, none⟩) 1 1 [x] rfl rfl hb1.out (fun e => (by cases e)) (by have := hm.out; have := h127.out; simp only [List.length_cons, List.length_nil]; omega) (by omega) ?_; intro v' w2 hO4 hB4; replace hO4 := hi_ hO4; replace hB4 := hi_ hB4)
      have hL4 := hL3.out.belowB hB4.out hLw hAw.out
      have hS4 := hS3.out.thenB hB4.out
      have e1 := hL4.posOf
      have e2 := hms.out
      have e3 := hf.out
      have e5 := hm.out
      have e6 := h7.out
      refine ⟨⟨f, _, _, hO4.out, hL4, e4.out, by omega, by simp only [List.length_append, List.length_cons, List.length_nil]; omega, hS4⟩, ?_⟩
      rw [e1, e2]
      have e8 := hpc.out
      omega
    | true =>
     rw [hx35] at h35
     have hx : x = 35 := by simpa using hx35
     subst hx
     obtain rfl : X = 35 := by simpa using h35
     clear h35
     obtain ⟨da, hda⟩ : ∃ d, d = digI (pk t 0) := ⟨_, rfl⟩
     obtain ⟨db, hdb⟩ : ∃ d, d = digI (pk t 1) := ⟨_, rfl⟩
     obtain ⟨pa, hpa⟩ : ∃ d, d = pk t 0 := ⟨_, rfl⟩
     obtain ⟨pb, hpb⟩ : ∃ d, d = pk t 1 := ⟨_, rfl⟩
     have ra := dig_range (pk t 0)
     have rb := dig_range (pk t 1)
     have cpa := fun W (h : LX L A c bs D P W t) => rx_pk0 W h
     have cpb := fun W (h : LX L A c bs D P W t) => rx_pk1 W h
     have cda := fun W => rf_Digit (w := W) (pk t 0) (pk_range t 0)
     have cdb := fun W => rf_Digit (w := W) (pk t 1) (pk_range t 1)
     rw [← hda] at ra
     rw [← hdb] at rb
     rw [← hda, ← hpa] at cda
     rw [← hdb, ← hpb] at cdb
     rw [← hpa] at cpa
     rw [← hpb] at cpb
     replace cpa := hi_ cpa
     replace cpb := hi_ cpb
     replace cda := hi_ cda
     replace cdb := hi_ cdb
     replace hda := hi_ hda
     replace hdb := hi_ hdb
     replace hpa := hi_ hpa
     replace hpb := hi_ hpb
     go_upto_region 6 with (first
      | (go_at_call 82; (with_reducible refine (cp.out _ hL.out).mono ?_); rintro e w1 ⟨rfl, hB⟩; replace hL := hi_ (hL.out.below hB); replace hS := hi_ (hS.out.then_ hB); replace q1 := hL.out.blk.cell 1; rw [← hq.out] at q1; replace v1 := hL.out.blk.frozen 1; replace hO := hi_ (hO.out.below hB); clear hB)
      | (go_at_call 36; (with_reducible refine (cr.out _).mono ?_); rintro e w2 ⟨rfl, rfl⟩))
     obtain ⟨W2, hW2⟩ : ∃ W, W = w1.setCell ⟨L, 1, none⟩ (.int .i64 (q + 1)) := ⟨_, rfl⟩
     rw [← hW2]
     have hL2 : LX L A c bs D P W2 t := by rw [hW2]; exact hL.out.next hq.out
     have hS2 : Save L w W2 := by rw [hW2]; exact hS.out.store 1 _
     have hO2 : Own w.heap.size W2 (.slice Ao m co) out := by rw [hW2]; exact hO.out.save_ ((Save.refl L w1).store 1 _) hLw
     clear hL hS hO q1 v1
     obtain ⟨hL, hS, hO⟩ : Hid (LX L A c bs D P W2 t) ∧ Hid (Save L w W2) ∧ Hid (Own w.heap.size W2 (.slice Ao m co) out) := ⟨Lib.hid hL2, Lib.hid hS2, Lib.hid hO2⟩
     have hpt := pos_le bs t
     obtain ⟨q2, hq2, hq20, hq21⟩ := hL2.pos_i
     replace hq2 := hi_ hq2
     replace hW2 := hi_ hW2
     clear hL2 hS2 hO2
     go_upto_region 7 with (first
      | (go_at_call 82; (with_reducible refine (cpa.out _ hL.out).mono ?_); rintro e w1 ⟨rfl, hB⟩; replace hL := hi_ (hL.out.below hB); replace hS := hi_ (hS.out.then_ hB); replace q1 := hL.out.blk.cell 1; rw [← hq2.out] at q1; replace v1 := hL.out.blk.frozen 1; replace hO := hi_ (hO.out.below hB); clear hB)
      | (go_at_call 82; (with_reducible refine (cpb.out _ hL.out).mono ?_); rintro e w1 ⟨rfl, hB⟩; replace hL := hi_ (hL.out.below hB); replace hS := hi_ (hS.out.then_ hB); replace q1 := hL.out.blk.cell 1; rw [← hq2.out] at q1; replace v1 := hL.out.blk.frozen 1; replace hO := hi_ (hO.out.below hB); clear hB)
      | (go_at_call 152; (with_reducible refine (cda.out _).mono ?_); rintro e w2 ⟨rfl, rfl⟩)
      | (go_at_call 152; (with_reducible refine (cdb.out _).mono ?_); rintro e w2 ⟨rfl, rfl⟩))
     by_cases hbad : da < 0 ∨ db < 0 ∨ da + db = 0
     ·have e4 : R = .err 4 t := by rw [← hE.out, nameS, if_neg (by rw [hrx]; decide), if_pos rfl, ← hda.out, ← hdb.out, if_pos hbad]
      subst e4
      clear hE
      rcases Int.lt_or_le da 0 with h1 | h1
      ·clear hbad
       go_wp2
       go_ret2
       exact ⟨rfl, hL.out.at_, hS.out⟩
      ·rcases Int.lt_or_le db 0 with h2 | h2
       ·clear hbad
        go_wp2
        go_ret2
        exact ⟨rfl, hL.out.at_, hS.out⟩
       ·obtain rfl : da = 0 := by omega
        obtain rfl : db = 0 := by omega
        clear hbad
        go_wp2
        go_ret2
        exact ⟨rfl, hL.out.at_, hS.out⟩
     ·have h1 : 0 ≤ da := by omega
      have h2 : 0 ≤ db := by omega
      have h3 : ((da + db) == 0) = false := by rw [beq_eq_false_iff_ne]; omega
      have ht2 : 2 ≤ t.length := pk_two (by rw [← hdb.out]; exact h2)
      obtain ⟨z, hz⟩ : ∃ z : UInt8, z = UInt8.ofNat (da * 16 + db).toNat := ⟨_, rfl⟩
      have hX2 : da * 16 + db = (z.toNat : Int) := by
       rw [hz, UInt8.toNat_ofNat_of_lt' (show (da * 16 + db).toNat < 256 by omega)]; omega
      have eE := hE.out
      rw [nameS, if_neg (by rw [hrx]; decide), if_pos rfl, ← hda.out, ← hdb.out, if_neg hbad, ← hz] at eE
      have hps := pos_drop hL.out.suf 2 ht2
      have hdl : (t.drop 2).length + 2 = t.length := by rw [List.length_drop]; omega
      replace hdl := hi_ hdl
      replace ht2 := hi_ ht2
      replace hz := hi_ hz
      replace hps := hi_ hps
      clear hbad hE
      by_cases h7 : 127 ≤ m
      ·have e7 : decide ((127 : Int) ≤ (m : Int)) = true := by simp; omega
       have e4 : R = .err 3 (t.drop 2) := by rw [← eE, if_pos (by have := hm.out; omega)]
       subst e4
       clear eE
       replace h7 := hi_ h7
       replace hX2 := hi_ hX2
       go_wp2
       go_ret2
       exact ⟨rfl, (hL.out.next2 ht2.out hq2.out).at_, hS.out.store 1 _⟩
      ·have e7 : decide ((127 : Int) ≤ (m : Int)) = false := by simp; omega
       have e4 : nameS f (out ++ [z]) (t.drop 2) = R := by rw [← eE, if_neg (by have := hm.out; omega)]
       replace h7 := hi_ h7
       replace e4 := hi_ e4
       replace hX2 := hi_ hX2
       clear eE
       go_upto_region 13 with (fail)
       obtain ⟨X2, hX3⟩ : ∃ X : Int, X = da * 16 + db := ⟨_, rfl⟩
       have hX4 : X2 = (z.toNat : Int) := by rw [hX3, hX2.out]
       have hX5 : 0 ≤ X2 ∧ X2 ≤ 255 := by have := z.toNat_lt; omega
       rw [← hX3]
       replace hX3 := hi_ hX3
       replace hX4 := hi_ hX4
       obtain ⟨W3, hW3⟩ : ∃ W, W = w1.setCell ⟨L, 1, none⟩ (.int .i64 (q2 + 2)) := ⟨_, rfl⟩
       rw [← hW3]
       have hL2 : LX L A c bs D P W3 (t.drop 2) := by rw [hW3]; exact hL.out.next2 ht2.out hq2.out
       have hS2 : Save L w W3 := by rw [hW3]; exact hS.out.store 1 _
       have hO2 : Own w.heap.size W3 (.slice Ao m co) out := by rw [hW3]; exact hO.out.save_ ((Save.refl L w1).store 1 _) hLw
       obtain ⟨Wa, hWa⟩ : ∃ W, W = W3.alloc (.cells #[.int .u8 X2] 5) := ⟨_, rfl⟩
       have hba : Below W3.heap.size W3 Wa := by rw [hWa]; exact (Below.refl _ _).alloc (Nat.le_refl _) _
       have hb1 : Byt Wa (some ⟨W3.heap.size, 0, none⟩) [z] := by rw [hWa, hX4.out]; exact byt_new1 W3 z 5
       have hO3 := hO2.below hba
       have hL3 := hL2.below hba
       have hS3 := hS2.then_ hba
       have zs := hS2.size
       have za := hba.size
       replace hWa := hi_ hWa
       replace hW3 := hi_ hW3
       replace hba := hi_ hba
       replace hb1 := hi_ hb1
       replace hL2 := hi_ hL2
       replace hS2 := hi_ hS2
       replace hO2 := hi_ hO2
       replace hL3 := hi_ hL3
       replace hS3 := hi_ hS3
       replace hO3 := hi_ hO3
       have hw8 : IntKind.u8.wrap X2 = X2 := by unfold IntKind.wrap; simp [IntKind.signed, IntKind.bits]; omega
       go_wp2_with (at_builtin; rw [← hWa.out]; refine app_b rfl _ _ rfl w.heap.size _ _ rfl hO3.out (some ⟨W3.heap.size, 0, none⟩) 1 1 [z] rfl rfl hb1.out (fun e => (by cases e)) (by have := hm.out; have := h127.out; simp only [List.length_cons, List.length_nil]; omega) (by omega) ?_; intro v' w2 hO4 hB4; replace hO4 := hi_ hO4; replace hB4 := hi_ hB4)
       have hL4 := hL3.out.belowB hB4.out hLw hAw.out
       have hS4 := hS3.out.thenB hB4.out
       have e1 := hL4.posOf
       have e2 := hms.out
       have e3 := hf.out
       have e5 := hm.out
       have e6 := h7.out
       refine ⟨⟨f, _, _, hO4.out, hL4, e4.out, by (have := hdl.out; omega), by simp only [List.length_append, List.length_cons, List.length_nil]; omega, hS4⟩, ?_⟩
       rw [e1, e2]
       have e8 := hpc.out
       have e9 := hps.out
       omega
end

/- The document's eol and run. No condition. -/
section
variable {L : Nat} {A : Option Addr} {c : Nat} {bs : Bs} {D P : Value} {w w' : World} {r r' : Bs}
def eolR : Bs → Bool × Bs
 | [] => (false, [])
 | x :: t => if x = 13 ∨ x = 10 then (true, eolS x t) else (false, x :: t)
theorem eol_two {r : Bs} (h1 : pk r 0 = 13) (h2 : pk r 1 = 10) : eolR r = (true, r.drop 2) ∧ 2 ≤ r.length := by
 match r, h1, h2 with
 | [], h1, _ => simp [pk] at h1
 | [x], _, h2 => simp [pk] at h2
 | x :: y :: t, h1, h2 =>
  simp only [pk, List.getElem?_cons_zero, List.getElem?_cons_succ] at h1 h2
  have e1 : x = 13 := UInt8.toNat_inj.1 (by show x.toNat = 13; omega)
  have e2 : y = 10 := UInt8.toNat_inj.1 (by show y.toNat = 10; omega)
  subst e1 e2
  exact ⟨rfl, by simp⟩
theorem eol_one {r : Bs} (h1 : pk r 0 = 13) (h2 : ¬ pk r 1 = 10) : eolR r = (true, r.drop 1) ∧ 1 ≤ r.length := by
 match r, h1 with
 | [], h1 => simp [pk] at h1
 | x :: t, h1 =>
  simp only [pk, List.getElem?_cons_zero] at h1
  have e1 : x = 13 := UInt8.toNat_inj.1 (by show x.toNat = 13; omega)
  subst e1
  have : ¬ (13 = (13 : UInt8) ∧ t[0]? = some 10) := fun h => h2 (by simp [pk, h.2])
  refine ⟨?_, by simp⟩
  rw [eolR, if_pos (.inl rfl), eolS, if_neg this]
  rfl
theorem eol_ten {r : Bs} (h1 : pk r 0 = 10) : eolR r = (true, r.drop 1) ∧ 1 ≤ r.length := by
 match r, h1 with
 | [], h1 => simp [pk] at h1
 | x :: t, h1 =>
  simp only [pk, List.getElem?_cons_zero] at h1
  have e1 : x = 10 := UInt8.toNat_inj.1 (by show x.toNat = 10; omega)
  subst e1
  exact ⟨rfl, by simp⟩
theorem eol_no {r : Bs} (h1 : ¬ pk r 0 = 13) (h2 : ¬ pk r 0 = 10) : eolR r = (false, r) := by
 match r, h1, h2 with
 | [], _, _ => rfl
 | x :: t, h1, h2 =>
  simp only [pk, List.getElem?_cons_zero] at h1 h2
  rw [eolR, if_neg]
  rintro (e | e)
  ·exact h1 (by rw [e]; rfl)
  ·exact h2 (by rw [e]; rfl)
theorem LX.next1 {t : Bs} (h : LX L A c bs D P w t) (h2 : 1 ≤ t.length) {q : Int} (hq : q = (pos bs t : Int)) : LX L A c bs D P (w.setCell ⟨L, 1, none⟩ (.int .i64 (q + 1))) (t.drop 1) := by
 have h1 := h.go (suf_dropn h.suf 1)
 have e := pos_drop h.suf 1 h2
 rw [hq]
 rw [e] at h1
 exact h1
set_option maxHeartbeats 4000000 in
set_option maxRecDepth 100000 in
theorem rx_eol (h : LX L A c bs D P w r) : Calls Tryz.prog 84 #[.pointer (some ⟨L, 0, none⟩)] w fun e w' => e = .returned (.bool (eolR r).1) ∧ LX L A c bs D P w' (eolR r).2 ∧ Save L w w' := by
 have cpa := fun W (h : LX L A c bs D P W r) => rx_pk0 W h
 have cpb := fun W (h : LX L A c bs D P W r) => rx_pk1 W h
 obtain ⟨pa, hpa⟩ : ∃ d, d = pk r 0 := ⟨_, rfl⟩
 obtain ⟨pb, hpb⟩ : ∃ d, d = pk r 1 := ⟨_, rfl⟩
 have ra := pk_range r 0
 have rb := pk_range r 1
 have t1 := eol_two (r := r)
 have t2 := eol_one (r := r)
 have t3 := eol_ten (r := r)
 have t4 := eol_no (r := r)
 rw [← hpa] at cpa ra t1 t2 t3 t4
 rw [← hpb] at cpb rb t1 t2
 obtain ⟨E, hE⟩ : ∃ E, E = eolR r := ⟨_, rfl⟩
 rw [← hE] at t1 t2 t3 t4 ⊢
 obtain ⟨q, hq, hq0, hq1⟩ := h.pos_i
 have q1 := h.blk.cell 1
 have v1 := h.blk.frozen 1
 rw [← hq] at q1
 have hS := Save.refl L w
 obtain ⟨hL, hS⟩ : Hid (LX L A c bs D P w r) ∧ Hid (Save L w w) := ⟨Lib.hid h, Lib.hid hS⟩
 replace cpa := hi_ cpa
 replace cpb := hi_ cpb
 replace hpa := hi_ hpa
 replace hpb := hi_ hpb
 replace hE := hi_ hE
 replace hq := hi_ hq
 clear h
 by_cases h13 : pa = 13
 ·have e13 : (pa == 13) = true := by simpa using h13
  by_cases h10 : pb = 10
  ·have e10 : (pb == 10) = true := by simpa using h10
   obtain ⟨rfl, hlen⟩ := t1 h13 h10
   replace hlen := hi_ hlen
   clear t1 t2 t3 t4 h13 h10
   go_enter Tryz.func84, Tryz.ntmps84
   go_wp2_with (first
    | (go_at_call 82; (with_reducible refine (cpa.out _ hL.out).mono ?_); rintro e w1 ⟨rfl, hB⟩; replace hL := hi_ (hL.out.below hB); replace hS := hi_ (hS.out.then_ hB); replace q1 := hL.out.blk.cell 1; rw [← hq.out] at q1; replace v1 := hL.out.blk.frozen 1; skip; clear hB)
    | (go_at_call 82; (with_reducible refine (cpb.out _ hL.out).mono ?_); rintro e w1 ⟨rfl, hB⟩; replace hL := hi_ (hL.out.below hB); replace hS := hi_ (hS.out.then_ hB); replace q1 := hL.out.blk.cell 1; rw [← hq.out] at q1; replace v1 := hL.out.blk.frozen 1; skip; clear hB))
   go_ret
   exact ⟨rfl, hL.out.next2 hlen.out hq.out, hS.out.store 1 _⟩
  ·have e10 : (pb == 10) = false := by simpa using h10
   obtain ⟨rfl, hlen⟩ := t2 h13 h10
   replace hlen := hi_ hlen
   clear t1 t2 t3 t4 h13 h10
   go_enter Tryz.func84, Tryz.ntmps84
   go_wp2_with (first
    | (go_at_call 82; (with_reducible refine (cpa.out _ hL.out).mono ?_); rintro e w1 ⟨rfl, hB⟩; replace hL := hi_ (hL.out.below hB); replace hS := hi_ (hS.out.then_ hB); replace q1 := hL.out.blk.cell 1; rw [← hq.out] at q1; replace v1 := hL.out.blk.frozen 1; skip; clear hB)
    | (go_at_call 82; (with_reducible refine (cpb.out _ hL.out).mono ?_); rintro e w1 ⟨rfl, hB⟩; replace hL := hi_ (hL.out.below hB); replace hS := hi_ (hS.out.then_ hB); replace q1 := hL.out.blk.cell 1; rw [← hq.out] at q1; replace v1 := hL.out.blk.frozen 1; skip; clear hB))
   go_ret
   exact ⟨rfl, hL.out.next1 hlen.out hq.out, hS.out.store 1 _⟩
 ·have e13 : (pa == 13) = false := by simpa using h13
  by_cases h10 : pa = 10
  ·have e10 : (pa == 10) = true := by simpa using h10
   obtain ⟨rfl, hlen⟩ := t3 h10
   replace hlen := hi_ hlen
   clear t1 t2 t3 t4 h13 h10
   go_enter Tryz.func84, Tryz.ntmps84
   go_wp2_with (first
    | (go_at_call 82; (with_reducible refine (cpa.out _ hL.out).mono ?_); rintro e w1 ⟨rfl, hB⟩; replace hL := hi_ (hL.out.below hB); replace hS := hi_ (hS.out.then_ hB); replace q1 := hL.out.blk.cell 1; rw [← hq.out] at q1; replace v1 := hL.out.blk.frozen 1; skip; clear hB)
    | (go_at_call 82; (with_reducible refine (cpb.out _ hL.out).mono ?_); rintro e w1 ⟨rfl, hB⟩; replace hL := hi_ (hL.out.below hB); replace hS := hi_ (hS.out.then_ hB); replace q1 := hL.out.blk.cell 1; rw [← hq.out] at q1; replace v1 := hL.out.blk.frozen 1; skip; clear hB))
   go_ret
   exact ⟨rfl, hL.out.next1 hlen.out hq.out, hS.out.store 1 _⟩
  ·have e10 : (pa == 10) = false := by simpa using h10
   obtain rfl := t4 h13 h10
   clear t1 t2 t3 t4 h13 h10
   go_enter Tryz.func84, Tryz.ntmps84
   go_wp2_with (first
    | (go_at_call 82; (with_reducible refine (cpa.out _ hL.out).mono ?_); rintro e w1 ⟨rfl, hB⟩; replace hL := hi_ (hL.out.below hB); replace hS := hi_ (hS.out.then_ hB); replace q1 := hL.out.blk.cell 1; rw [← hq.out] at q1; replace v1 := hL.out.blk.frozen 1; skip; clear hB)
    | (go_at_call 82; (with_reducible refine (cpb.out _ hL.out).mono ?_); rintro e w1 ⟨rfl, hB⟩; replace hL := hi_ (hL.out.below hB); replace hS := hi_ (hS.out.then_ hB); replace q1 := hL.out.blk.cell 1; rw [← hq.out] at q1; replace v1 := hL.out.blk.frozen 1; skip; clear hB))
   go_ret
   exact ⟨rfl, hL.out, hS.out⟩
theorem run_at (r : Bs) (k : Nat) (h : k ≤ (runS r).length) : regP (r.drop k) = decide (k < (runS r).length) := by
 unfold runS at h ⊢
 induction r generalizing k with
 | nil => simp at h; subst h; rfl
 | cons x r ih =>
  rw [List.takeWhile_cons] at h ⊢
  cases hx : regB x with
  | false =>
   rw [hx] at h
   simp at h
   subst h
   simp [regP, hx]
  | true =>
   rw [hx] at h
   simp only [if_true, List.length_cons] at h ⊢
   cases k with
   | zero => simp [regP, hx]
   | succ k =>
    rw [List.drop_succ_cons, ih k (by omega)]
    simp
theorem run_take (r : Bs) : r.take (runS r).length = runS r := by unfold runS; exact List.prefix_iff_eq_take.1 (List.takeWhile_prefix regB) |>.symm
set_option maxHeartbeats 4000000 in
set_option maxRecDepth 100000 in
theorem rx_run (h : LX L A c bs D P w r) (h0 : 0 < r.length) : Calls Tryz.prog 144 #[.pointer (some ⟨L, 0, none⟩)] w fun e w' => ∃ v, e = .returned v ∧ Own w.heap.size w' v (runS r) ∧ LX L A c bs D P w' (r.drop (runS r).length) ∧ Save L w w' := by
 obtain ⟨n, hn⟩ : ∃ n, n = (runS r).length := ⟨_, rfl⟩
 have hat := run_at r
 have hnl : n ≤ r.length := by rw [hn]; exact (List.takeWhile_prefix (p := regB) (l := r)).length_le
 rw [← hn] at hat ⊢
 have hLw := h.lt
 have hbl := suf_len h.suf
 obtain ⟨b, o, hAe, hcell⟩ := h.byt.2 (by omega)
 subst hAe
 have hpd : ∀ k, k ≤ n → pos bs (r.drop k) = pos bs r + k := fun k hk => pos_drop h.suf k (by omega)
 obtain ⟨p, hp⟩ : ∃ p, p = pos bs r := ⟨_, rfl⟩
 have hpl : p + r.length = bs.length := by rw [hp]; unfold pos; omega
 rw [← hp] at hpd
 have q1 := h.blk.cell 1
 rw [← hp] at q1
 have hsuf := h.suf
 have hcap := h.cap
 have hsm := h.small
 replace hat := hi_ hat
 replace hn := hi_ hn
 replace hpd := hi_ hpd
 replace hp := hi_ hp
 replace h := hi_ h
 replace hcell := hi_ hcell
 replace hsuf := hi_ hsuf
 go_enter Tryz.func144, Tryz.ntmps144
 go_wp2
 go_loopw [10] (fun _ wr => ∃ k, k ≤ n ∧ LX L (some ⟨b, o, none⟩) c bs D P wr (r.drop k) ∧ Save L w wr) (fun _ wr => bs.length + 1 - posOf L wr)
 case atStart => exact ⟨0, Nat.zero_le _, h.out, Save.refl _ _⟩
 case round =>
  obtain ⟨k, hk, hL, hS⟩ := hrel
  have hms := hL.posOf
  have hreg := hat.out k hk
  have hpk := hpd.out k hk
  clear q1
  have cp := fun W (h : LX L (some ⟨b, o, none⟩) c bs D P W (r.drop k)) => rx_pk0 W h
  have cr := fun W => r10_Regular (w := W) (pk (r.drop k) 0) (pk_range _ 0)
  rw [reg_pk, hreg] at cr
  obtain ⟨X, hX⟩ : ∃ X, X = pk (r.drop k) 0 := ⟨_, rfl⟩
  rw [← hX] at cp cr
  have q1 := hL.blk.cell 1
  have v1 := hL.blk.frozen 1
  have q0 := hL.blk.cell 0
  obtain ⟨q, hq, hq0, hq1⟩ := hL.pos_i
  rw [← hq] at q1
  replace cp := hi_ cp
  replace cr := hi_ cr
  replace hX := hi_ hX
  replace hq := hi_ hq
  replace hL := hi_ hL
  replace hS := hi_ hS
  replace hms := hi_ hms
  replace hpk := hi_ hpk
  clear hreg
  by_cases hkn : k < n
  ·rw [decide_eq_true hkn] at cr
   go_wp2_with (first
    | (go_at_call 82; (with_reducible refine (cp.out _ hL.out).mono ?_); rintro e w1 ⟨rfl, hB⟩; replace hL := hi_ (hL.out.below hB); replace hS := hi_ (hS.out.then_ hB); replace q1 := hL.out.blk.cell 1; rw [← hq.out] at q1; replace v1 := hL.out.blk.frozen 1; replace q0 := hL.out.blk.cell 0; clear hB)
    | (go_at_call 36; (with_reducible refine (cr.out _).mono ?_); rintro e w2 ⟨rfl, rfl⟩))
   have hL2 := hL.out.next1 (by rw [List.length_drop]; omega) hq.out
   rw [List.drop_drop] at hL2
   have e1 := hL2.posOf
   have e2 := hms.out
   have e3 := hpk.out
   have e4 := hpd.out (k + 1) (by omega)
   exact ⟨⟨k + 1, by omega, hL2, hS.out.store 1 _⟩, by rw [e1, e2]; omega⟩
  ·obtain rfl : k = n := by omega
   rw [decide_eq_false hkn] at cr
   obtain ⟨hqn, hqe⟩ : q = (p + k : Nat) ∧ True := ⟨by rw [hq.out, hpk.out], trivial⟩
   subst hqn
   go_upto_region 4 with (first
    | (go_at_call 82; (with_reducible refine (cp.out _ hL.out).mono ?_); rintro e w1 ⟨rfl, hB⟩; replace hL := hi_ (hL.out.below hB); replace hS := hi_ (hS.out.then_ hB); replace q1 := hL.out.blk.cell 1; rw [← hq.out] at q1; replace v1 := hL.out.blk.frozen 1; replace q0 := hL.out.blk.cell 0; clear hB)
    | (go_at_call 36; (with_reducible refine (cr.out _).mono ?_); rintro e w2 ⟨rfl, rfl⟩))
   have hby : ∀ W, Below w1.heap.size w1 W → Byt W (some ⟨b, o + p, none⟩) (runS r) := fun W hW => by
    have hby1 := (hL.out.below hW).byt
    have hrt := run_take r
    rw [← hn.out] at hrt
    refine ⟨by rw [← hn.out]; unfold maxLen; omega, fun h1 => ⟨b, o + p, rfl, fun i hi => ?_⟩⟩
    obtain ⟨b', o', e, hc⟩ := hby1.2 (by omega)
    cases e
    have hi2 : i < k := by rw [hn.out]; exact hi
    have h9 := hc (p + i) (by omega)
    rw [Nat.add_assoc, h9]
    have e3 : (runS r)[i]? = bs[p + i]? := by
     rw [← hrt, List.getElem?_take_of_lt hi2, hp.out, suf_at hsuf.out]
    rw [List.getElem?_eq_getElem hi, List.getElem?_eq_getElem (by omega)] at e3
    injection e3 with e3
    rw [e3]
   have cc := fun W (hW : Below w1.heap.size w1 W) => rf_Copy (some ⟨b, o + p, none⟩) (c - p) (runS r) W (hby W hW) (by rw [← hn.out]; omega)
   rw [← hn.out] at cc
   obtain ⟨N, hN⟩ : ∃ N, N = bs.length := ⟨_, rfl⟩
   rw [← hN] at q0 q1 hpl hcap hsm
   replace hN := hi_ hN
   clear hby
   go_region_with (go_at_call 39; (with_reducible refine (cc _ (by first | exact (Below.refl _ _).drew | exact Below.refl _ _)).mono ?_); rintro e w3 ⟨v3, rfl, hO3, hB3⟩; replace hO3 := hi_ hO3; replace hB3 := hi_ hB3)
   all_goals go_wp2
   all_goals go_ret
   all_goals (
    have hBd : Below w1.heap.size w1 w3 := by first | exact hB3.out | exact (Below.refl _ _).drew.trans hB3.out
    have hz := hS.out.size
    have hO4 := hO3.out
    exact ⟨v3, rfl, hO4.base hz, hL.out.below hBd, hS.out.then_ hBd⟩)
end

/- The document's escape. No condition. -/
section
variable {L : Nat} {A : Option Addr} {c : Nat} {bs : Bs} {D P : Value} {w w' : World} {r r' : Bs}
theorem and_all255 : ∀ n : Fin 512, bits BinOp.and IntKind.i64 ((n.val : Nat) : Int) 255 = ((n.val % 256 : Nat) : Int) := by decide +kernel
theorem and_255 (n : Nat) (h : n < 512) : bits BinOp.and IntKind.i64 (n : Int) 255 = ((n % 256 : Nat) : Int) := and_all255 ⟨n, h⟩
def escV : Option UInt8 → Int
 | none => -1
 | some x => (x.toNat : Int)
def escM (D : Int) : Int := if D = 110 then 10 else if D = 114 then 13 else if D = 116 then 9 else if D = 98 then 8 else if D = 102 then 12 else D
theorem esc_map (d : UInt8) : ((if d = 110 then 10 else if d = 114 then 13 else if d = 116 then 9 else if d = 98 then 8 else if d = 102 then 12 else d : UInt8).toNat : Int) = escM (d.toNat : Int) := by
 unfold escM
 by_cases h110 : d = 110
 ·subst h110; rfl
 have n110 : ¬ (d.toNat : Int) = 110 := fun e => h110 (UInt8.toNat_inj.1 (by show d.toNat = 110; omega))
 rw [if_neg h110, if_neg n110]
 by_cases h114 : d = 114
 ·subst h114; rfl
 have n114 : ¬ (d.toNat : Int) = 114 := fun e => h114 (UInt8.toNat_inj.1 (by show d.toNat = 114; omega))
 rw [if_neg h114, if_neg n114]
 by_cases h116 : d = 116
 ·subst h116; rfl
 have n116 : ¬ (d.toNat : Int) = 116 := fun e => h116 (UInt8.toNat_inj.1 (by show d.toNat = 116; omega))
 rw [if_neg h116, if_neg n116]
 by_cases h98 : d = 98
 ·subst h98; rfl
 have n98 : ¬ (d.toNat : Int) = 98 := fun e => h98 (UInt8.toNat_inj.1 (by show d.toNat = 98; omega))
 rw [if_neg h98, if_neg n98]
 by_cases h102 : d = 102
 ·subst h102; rfl
 have n102 : ¬ (d.toNat : Int) = 102 := fun e => h102 (UInt8.toNat_inj.1 (by show d.toNat = 102; omega))
 rw [if_neg h102, if_neg n102]
theorem oct_le : ∀ (k n : Nat) (r : Bs), (octS k n r).2.length ≤ r.length
 | 0, n, r => Nat.le_refl _
 | k + 1, n, [] => Nat.le_refl _
 | k + 1, n, c :: r => by
  rw [octS]
  split
  ·have := oct_le k (8 * n + (c.toNat - 48)) r
   simp only [List.length_cons]; omega
  ·exact Nat.le_refl _
set_option maxHeartbeats 8000000 in
set_option maxRecDepth 100000 in
theorem rx_escape {x : UInt8} {t : Bs} (h : LX L A c bs D P w (x :: t)) : Calls Tryz.prog 153 #[.pointer (some ⟨L, 0, none⟩)] w fun e w' => e = .returned (.int .i64 (escV (escS x t).1)) ∧ LX L A c bs D P w' (escS x t).2 ∧ Save L w w' := by
 have ce := rx_eol h
 by_cases hnl : x = 13 ∨ x = 10
 ·have e1 : eolR (x :: t) = (true, eolS x t) := by rw [eolR, if_pos hnl]
  have e2 : escS x t = (none, eolS x t) := by rw [escS, if_pos hnl]
  rw [e1] at ce
  rw [e2]
  clear e1 e2 hnl h
  replace ce := hi_ ce
  go_enter Tryz.func153, Tryz.ntmps153
  go_wp2_with (go_at_call 84; (with_reducible refine (ce.out).mono ?_); rintro e w2 ⟨rfl, hL, hS⟩; replace hL := hi_ hL; replace hS := hi_ hS)
  go_ret
  exact ⟨rfl, hL.out, hS.out⟩
 ·have e1 : eolR (x :: t) = (false, x :: t) := by rw [eolR, if_neg hnl]
  rw [e1] at ce
  obtain ⟨X, hX⟩ := hidE (x.toNat : Int)
  have hX0 : 0 ≤ X ∧ X ≤ 255 := by rw [hX.out]; have := x.toNat_lt; omega
  have cp := fun W h => rx_peek0 (L := L) (A := A) (c := c) (bs := bs) (D := D) (P := P) (x := x) (t := t) X hX.out W h
  have hoc : octB x = (decide (48 ≤ X) && decide (X ≤ 55)) := by
   rw [hX.out]; unfold octB
   rw [Bool.eq_iff_iff]; simp; omega
  replace cp := hi_ cp
  replace ce := hi_ ce
  cases hox : octB x with
  | true =>
   rw [hox] at hoc
   have e2 : escS x t = (some (UInt8.ofNat ((octS 2 (x.toNat - 48) t).1 % 256)), (octS 2 (x.toNat - 48) t).2) := by rw [escS, if_neg hnl, if_pos hox]
   have e3 : octS 3 0 (x :: t) = octS 2 (x.toNat - 48) t := by rw [octS, if_pos hox]; simp
   rw [e2, ← e3]
   obtain ⟨N, hN⟩ : ∃ N, N = (octS 3 0 (x :: t)).1 := ⟨_, rfl⟩
   obtain ⟨U, hU⟩ : ∃ U, U = (octS 3 0 (x :: t)).2 := ⟨_, rfl⟩
   have hNU : octS 3 0 (x :: t) = (N, U) := by rw [hN, hU]
   rw [← hN, ← hU]
   obtain ⟨ho1, ho2⟩ : 48 ≤ X ∧ X ≤ 55 := by simpa using hoc.symm
   have hfv : ∀ n : Nat, (n : Int) % 256 = escV (some (UInt8.ofNat (n % 256))) := fun n => by
    simp only [escV]
    rw [UInt8.toNat_ofNat_of_lt' (show n % 256 < 256 by omega)]; omega
   replace hfv := hi_ hfv
   replace hNU := hi_ hNU
   clear hoc e1 e2 e3 hN hU hnl h
   go_enter Tryz.func153, Tryz.ntmps153
   go_wp2_with (first
    | (go_at_call 84; (with_reducible refine (ce.out).mono ?_); rintro e w2 ⟨rfl, hL, hS⟩; have q1 := hL.blk.cell 1; have v1 := hL.blk.frozen 1; replace hL := hi_ hL; replace hS := hi_ hS)
    | (go_at_call 82; (with_reducible refine (cp.out _ hL.out).mono ?_); rintro e w1 ⟨rfl, hB⟩; replace hL := hi_ (hL.out.below hB); replace hS := hi_ (hS.out.then_ hB); replace q1 := hL.out.blk.cell 1; replace v1 := hL.out.blk.frozen 1; skip; clear hB))
   go_loopw [4, 5] (fun s4 s5 wr => ∃ k n r1, k ≤ 3 ∧ s5 = .int .i64 (k : Nat) ∧ s4 = .int .i64 (n : Nat) ∧ n < 8 ^ k ∧ octS (3 - k) n r1 = (N, U) ∧ LX L A c bs D P wr r1 ∧ Save L w wr) (fun _ s5 _ => 3 - (RowKit.intOf s5).toNat)
   case atStart => exact ⟨0, 0, x :: t, by omega, rfl, rfl, by omega, hNU.out, hL.out, hS.out⟩
   case round =>
    clear hL hS cp q1 v1
    obtain ⟨k, n, r1, hk, rfl, rfl, hn8, hO, hL, hS⟩ := hrel
    have hn5 : n < 512 := Nat.lt_of_lt_of_le hn8 (Nat.le_trans (Nat.pow_le_pow_right (by omega) hk) (by decide))
    have hfin : (n, r1) = (N, U) → bits BinOp.and IntKind.i64 (n : Int) 255 = (((UInt8.ofNat (N % 256)).toNat : Nat) : Int) ∧ r1 = U := fun h => by
     injection h with h1 h2
     subst h1 h2
     refine ⟨?_, rfl⟩
     rw [and_255 n hn5, UInt8.toNat_ofNat_of_lt' (show n % 256 < 256 by omega)]
    rcases Nat.lt_or_ge k 3 with hk3 | hk3
    ·obtain ⟨j, hj⟩ : ∃ j, 3 - k = j + 1 := ⟨3 - k - 1, by omega⟩
     rw [hj] at hO
     obtain ⟨q, hq, hq0, hq1⟩ := hL.pos_i
     have q1 := hL.blk.cell 1
     have v1 := hL.blk.frozen 1
     rw [← hq] at q1
     replace hq := hi_ hq
     have hk3' : decide ((k : Int) < 3) = true := by simp; omega
     obtain ⟨nn, hnn⟩ := hidE (n : Int)
     have hn0 : 0 ≤ nn ∧ nn < 512 := by rw [hnn.out]; omega
     cases r1 with
     | nil =>
      have hf2 := hfin (by rw [← hO, octS])
      obtain ⟨hf1, rfl⟩ := hf2
      have cp := fun W h => rx_peekN (L := L) (A := A) (c := c) (bs := bs) (D := D) (P := P) W h
      replace cp := hi_ cp
      replace hL := hi_ hL
      replace hS := hi_ hS
      clear hO hfin hn8 hn5
      rw [← hnn.out] at hf1 ⊢
      go_wp2_with (go_at_call 82; (with_reducible refine (cp.out _ hL.out).mono ?_); rintro e w1 ⟨rfl, hB⟩; replace hL := hi_ (hL.out.below hB); replace hS := hi_ (hS.out.then_ hB); replace q1 := hL.out.blk.cell 1; replace v1 := hL.out.blk.frozen 1; skip; clear hB)
      go_ret
      exact ⟨congrArg (fun z => Ending.returned (Value.int .i64 z)) (hfv.out _), hL.out, hS.out⟩
     | cons y u =>
      obtain ⟨Y, hY⟩ := hidE (y.toNat : Int)
      have hY0 : 0 ≤ Y ∧ Y ≤ 255 := by rw [hY.out]; have := y.toNat_lt; omega
      have cp := fun W h => rx_peek0 (L := L) (A := A) (c := c) (bs := bs) (D := D) (P := P) (x := y) (t := u) Y hY.out W h
      have hoc : octB y = (decide (48 ≤ Y) && decide (Y ≤ 55)) := by
       rw [hY.out]; unfold octB
       rw [Bool.eq_iff_iff]; simp; omega
      replace cp := hi_ cp
      replace hL := hi_ hL
      replace hS := hi_ hS
      cases hoy : octB y with
      | true =>
       rw [hoy] at hoc
       obtain ⟨hp1, hp2⟩ : 48 ≤ Y ∧ Y ≤ 55 := by simpa using hoc.symm
       have hO2 : octS (3 - (k + 1)) (8 * n + (y.toNat - 48)) u = (N, U) := by
        rw [show 3 - (k + 1) = j by omega, ← hO, octS, if_pos hoy]
       have hn9 : 8 * n + (y.toNat - 48) < 8 ^ (k + 1) := by
        have := hY.out
        rw [Nat.pow_succ]; omega
       have hnv : ((8 * n + (y.toNat - 48) : Nat) : Int) = 8 * nn + Y - 48 := by
        rw [hnn.out, hY.out] at *; omega
       replace hO2 := hi_ hO2
       replace hn9 := hi_ hn9
       replace hnv := hi_ hnv
       clear hO hfin hn8 hn5 hoc hk3 hj
       rw [← hnn.out]
       go_wp2_with (go_at_call 82; (with_reducible refine (cp.out _ hL.out).mono ?_); rintro e w1 ⟨rfl, hB⟩; replace hL := hi_ (hL.out.below hB); replace hS := hi_ (hS.out.then_ hB); replace q1 := hL.out.blk.cell 1; rw [← hq.out] at q1; replace v1 := hL.out.blk.frozen 1; skip; clear hB)
       exact ⟨⟨k + 1, _, u, by (have : (k : Int) < 3 := of_decide_eq_true hk3'); omega, by go_num, by rw [hnv.out], hn9.out, hO2.out, hL.out.next hq.out, hS.out.store 1 _⟩, by (have : (k : Int) < 3 := of_decide_eq_true hk3'); simp [RowKit.intOf]; omega⟩
      | false =>
       rw [hoy] at hoc
       have hf2 := hfin (by rw [← hO, octS, hoy]; rfl)
       obtain ⟨hf1, rfl⟩ := hf2
       clear hO hfin hn8 hn5
       rw [← hnn.out] at hf1 ⊢
       rcases Int.lt_or_le Y 48 with hp1 | hp1
       ·clear hoc
        go_wp2_with (go_at_call 82; (with_reducible refine (cp.out _ hL.out).mono ?_); rintro e w1 ⟨rfl, hB⟩; replace hL := hi_ (hL.out.below hB); replace hS := hi_ (hS.out.then_ hB); replace q1 := hL.out.blk.cell 1; rw [← hq.out] at q1; replace v1 := hL.out.blk.frozen 1; skip; clear hB)
        go_ret
        exact ⟨congrArg (fun z => Ending.returned (Value.int .i64 z)) (hfv.out _), hL.out, hS.out⟩
       ·have hp2 : 55 < Y := by
         rcases Int.lt_or_le 55 Y with h | h
         ·exact h
         ·rw [decide_eq_true hp1, decide_eq_true h] at hoc; cases hoc
        clear hoc
        go_wp2_with (go_at_call 82; (with_reducible refine (cp.out _ hL.out).mono ?_); rintro e w1 ⟨rfl, hB⟩; replace hL := hi_ (hL.out.below hB); replace hS := hi_ (hS.out.then_ hB); replace q1 := hL.out.blk.cell 1; rw [← hq.out] at q1; replace v1 := hL.out.blk.frozen 1; skip; clear hB)
        go_ret
        exact ⟨congrArg (fun z => Ending.returned (Value.int .i64 z)) (hfv.out _), hL.out, hS.out⟩
    ·obtain rfl : k = 3 := by omega
     obtain ⟨hf1, rfl⟩ := hfin (by rw [← hO]; rfl)
     replace hL := hi_ hL
     replace hS := hi_ hS
     clear hO hfin hn8
     obtain ⟨nn, hnn⟩ := hidE (n : Int)
     have hn0 : 0 ≤ nn ∧ nn < 512 := by rw [hnn.out]; omega
     clear hn5
     rw [← hnn.out] at hf1 ⊢
     go_wp2
     go_ret
     exact ⟨congrArg (fun z => Ending.returned (Value.int .i64 z)) (hfv.out _), hL.out, hS.out⟩
  | false =>
   rw [hox] at hoc
   have e2 : escS x t = (some (if x = 110 then 10 else if x = 114 then 13 else if x = 116 then 9 else if x = 98 then 8 else if x = 102 then 12 else x), t) := by rw [escS, if_neg hnl, hox]; rfl
   rw [e2]
   simp only [escV]
   rw [esc_map, ← hX.out]
   obtain ⟨V, hV⟩ : ∃ V, V = escM X := ⟨_, rfl⟩
   rw [← hV]
   unfold escM at hV
   replace hV := hi_ hV
   have hno : X < 48 ∨ 55 < X := by
    rcases Int.lt_or_le X 48 with h | h
    ·exact .inl h
    ·rcases Int.lt_or_le 55 X with h' | h'
     ·exact .inr h'
     ·rw [decide_eq_true h, decide_eq_true h'] at hoc; cases hoc
   obtain ⟨q, hq, hq0, hq1⟩ := h.pos_i
   replace hq := hi_ hq
   clear hoc e1 e2 hnl h
   rcases hno with hno | hno
   ·go_enter Tryz.func153, Tryz.ntmps153
    go_wp2_with (first
     | (go_at_call 84; (with_reducible refine (ce.out).mono ?_); rintro e w2 ⟨rfl, hL, hS⟩; have q1 := hL.blk.cell 1; rw [← hq.out] at q1; have v1 := hL.blk.frozen 1; replace hL := hi_ hL; replace hS := hi_ hS)
     | (go_at_call 82; (with_reducible refine (cp.out _ hL.out).mono ?_); rintro e w1 ⟨rfl, hB⟩; replace hL := hi_ (hL.out.below hB); replace hS := hi_ (hS.out.then_ hB); replace q1 := hL.out.blk.cell 1; rw [← hq.out] at q1; replace v1 := hL.out.blk.frozen 1; skip; clear hB))
    all_goals go_ret
    all_goals (
     refine ⟨?_, hL.out.next hq.out, hS.out.store 1 _⟩
     have := hV.out
     rw [this]
     simp_all)
   ·go_enter Tryz.func153, Tryz.ntmps153
    go_wp2_with (first
     | (go_at_call 84; (with_reducible refine (ce.out).mono ?_); rintro e w2 ⟨rfl, hL, hS⟩; have q1 := hL.blk.cell 1; rw [← hq.out] at q1; have v1 := hL.blk.frozen 1; replace hL := hi_ hL; replace hS := hi_ hS)
     | (go_at_call 82; (with_reducible refine (cp.out _ hL.out).mono ?_); rintro e w1 ⟨rfl, hB⟩; replace hL := hi_ (hL.out.below hB); replace hS := hi_ (hS.out.then_ hB); replace q1 := hL.out.blk.cell 1; rw [← hq.out] at q1; replace v1 := hL.out.blk.frozen 1; skip; clear hB))
    all_goals go_ret
    all_goals (
     refine ⟨?_, hL.out.next hq.out, hS.out.store 1 _⟩
     have := hV.out
     rw [this]
     simp_all)
end
end Go.Proofs.YthacnnmlephkhaaGreatDoor

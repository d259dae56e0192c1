/- Fixed: the contract of Parse. No condition. -/
import Derived.Test.YtbmcmilbmkdabaaDoorFxDig
namespace Go.Proofs.YtbmcmilbmkdabaaDoor
open Go Go.RowKit Go.Wk
set_option maxHeartbeats 1000000 in
set_option maxRecDepth 100000 in
theorem cur_new {w : World} {A : Option Addr} {c : Nat} {bs : List UInt8} (h : Byt w A bs) (hcap : bs.length ≤ c) (hs : bs.length ≤ 100000) :
    Calls Tryd.prog 24 #[.slice A bs.length c] w fun e w' => e = .returned (.pointer (some ⟨w.heap.size, 0, none⟩)) ∧ Cur w w' w.heap.size A bs.length bs 0 := by
  have H := Lib.hid h
  clear h
  go_enter Tryd.func24, Tryd.ntmps24
  go_wp2
  go_ret
  refine ⟨rfl, ⟨Nat.le_refl _, (Below.refl _ _).alloc (Nat.le_refl _) _, ?_, ?_, World.frozen?_alloc_new _ _ _ _, H.out, Nat.zero_le _, hs⟩⟩
  · exact alloc_cell (i := 0)
  · have := alloc_cell (w := w) (vs := #[.slice A bs.length bs.length, .int .i64 0]) (e := 60) (i := 1)
    rw [Nat.zero_add] at this
    exact this
/-- the sign ahead: where it ends, whether it is a minus -/
def sgn (bs : List UInt8) : Nat × Bool := if bs[0]? = some 43 then (1, false) else if bs[0]? = some 45 then (1, true) else (0, false)
def signI (b : Bool) : Int := if b then -1 else 1
/-- what bytes say: a number, whether it is whole, what is wrong -/
def parseS (bs : List UInt8) : Int × Bool × Int :=
  if bs[(sgn bs).1 + (digs bs (sgn bs).1).length]? = some 46 then
    if (sgn bs).1 + (digs bs (sgn bs).1).length + 1 + (digs bs ((sgn bs).1 + (digs bs (sgn bs).1).length + 1)).length < bs.length ∨ (digs bs (sgn bs).1).length + (digs bs ((sgn bs).1 + (digs bs (sgn bs).1).length + 1)).length = 0 then (0, false, 4)
    else if (numD (digs bs (sgn bs).1)).2 then (signI (sgn bs).2 * (((numD (digs bs (sgn bs).1)).1 : Int) * 100000 + (fracD (digs bs ((sgn bs).1 + (digs bs (sgn bs).1).length + 1)) : Int)), false, 0) else (0, false, 5)
  else
    if (sgn bs).1 + (digs bs (sgn bs).1).length < bs.length ∨ (digs bs (sgn bs).1).length = 0 then (0, false, 4)
    else if (numD (digs bs (sgn bs).1)).2 then (signI (sgn bs).2 * ((numD (digs bs (sgn bs).1)).1 : Int), true, 0) else (0, false, 5)
def parseP (bs : List UInt8) (p : Nat) (neg : Bool) : Int × Bool × Int :=
  if bs[p + (digs bs p).length]? = some 46 then
    if p + (digs bs p).length + 1 + (digs bs (p + (digs bs p).length + 1)).length < bs.length ∨ (digs bs p).length + (digs bs (p + (digs bs p).length + 1)).length = 0 then (0, false, 4)
    else if (numD (digs bs p)).2 then (signI neg * (((numD (digs bs p)).1 : Int) * 100000 + (fracD (digs bs (p + (digs bs p).length + 1)) : Int)), false, 0) else (0, false, 5)
  else
    if p + (digs bs p).length < bs.length ∨ (digs bs p).length = 0 then (0, false, 4)
    else if (numD (digs bs p)).2 then (signI neg * ((numD (digs bs p)).1 : Int), true, 0) else (0, false, 5)
theorem parseS_eq (bs : List UInt8) : parseS bs = parseP bs (sgn bs).1 (sgn bs).2 := rfl
theorem fracD_le (bs : List UInt8) (p : Nat) : fracD (digs bs p) ≤ 99999 := by
  have h1 := valD_lt ((digs bs p).take 5) fun b hb => digs_all b (List.mem_of_mem_take hb)
  unfold fracD
  rw [List.length_take] at h1
  have h2 : valD ((digs bs p).take 5) * 10 ^ (5 - (digs bs p).length) < 10 ^ (min 5 (digs bs p).length) * 10 ^ (5 - (digs bs p).length) := Nat.mul_lt_mul_of_pos_right h1 (Nat.pow_pos (by omega))
  rw [← Nat.pow_add] at h2
  have h3 : 10 ^ (min 5 (digs bs p).length + (5 - (digs bs p).length)) = 10 ^ 5 := by congr 1; omega
  omega
theorem digs_le (bs : List UInt8) (p : Nat) : (digs bs p).length ≤ bs.length := by
  have : (digs bs p).length ≤ (bs.drop p).length := (List.takeWhile_sublist _).length_le
  rw [List.length_drop] at this; omega
set_option maxHeartbeats 4000000 in
set_option maxRecDepth 100000 in
theorem fx_parse {w : World} {A : Option Addr} {c : Nat} {bs : List UInt8} (h : Byt w A bs) (hcap : bs.length ≤ c) (hs : bs.length ≤ 100000) :
    Calls Tryd.prog 12 #[.slice A bs.length c] w fun e w' => e = .returned (.tuple #[.int .i64 (parseS bs).1, .bool (parseS bs).2.1, .int .i64 (parseS bs).2.2]) ∧ Below w.heap.size w w' := by
  have hnew := cur_new h hcap hs
  by_cases h43 : bs[0]? = some 43
  · have g43 := Lib.hid h43
    by_cases hdot : bs[1 + (digs bs 1).length]? = some 46
    · replace hdot := Lib.hid hdot
      have hsg : sgn bs = (1, false) := by unfold sgn; simp [h43]
      have hR : parseS bs = parseP bs 1 false := by rw [parseS_eq, hsg]
      have hR2 := Lib.hid (show parseS bs = if 1 + (digs bs 1).length + 1 + (digs bs (1 + (digs bs 1).length + 1)).length < bs.length ∨ (digs bs 1).length + (digs bs (1 + (digs bs 1).length + 1)).length = 0 then (0, false, 4) else if (numD (digs bs 1)).2 then (signI false * (((numD (digs bs 1)).1 : Int) * 100000 + (fracD (digs bs (1 + (digs bs 1).length + 1)) : Int)), false, 0) else (0, false, 5) by rw [hR]; unfold parseP; rw [if_pos hdot.out]; (try simp only [Nat.zero_add]))
      have hfl := fracD_le bs (1 + (digs bs 1).length + 1)
      have hml := digs_le bs (1 + (digs bs 1).length + 1)
      have hnl := numD_le (digs bs 1) (0, true) (by omega)
      change (numD (digs bs 1)).1 ≤ 2147483647 at hnl
      have hdl := digs_le bs 1
      clear hR hsg h hcap
      generalize parseS bs = R at *
      go_enter Tryd.func12, Tryd.ntmps12
      go_wp2_with (first
          | (go_at_call 24; (with_reducible refine hnew.mono ?_); clear hnew; rintro e w1 ⟨rfl, hC⟩; replace hC := Lib.hid hC)
          | (go_at_call 25; (with_reducible refine (cur_match_yes (ch := 43) hC.out (Nat.le_refl _) g43.out).mono ?_); clear hC; rintro e w2 ⟨rfl, hC⟩; replace hC := Lib.hid hC)
          | (go_at_call 25; (with_reducible refine (cur_match_yes (ch := 46) hC.out (Nat.le_refl _) hdot.out).mono ?_); clear hC; rintro e w2 ⟨rfl, hC⟩; replace hC := Lib.hid hC)
          | (go_at_call 26; (with_reducible refine (fx_digits hC.out).mono ?_); clear hC; rintro e w2 ⟨rfl, hC⟩; replace hC := Lib.hid hC)
          | (go_at_call 27; (with_reducible refine (fx_behind hC.out).mono ?_); clear hC; rintro e w2 ⟨rfl, hC⟩; replace hC := Lib.hid hC)
          | (go_at_call 28; (with_reducible refine (cur_left hC.out).mono ?_); rintro e w2 ⟨rfl, rfl⟩))
      · rename _ ∨ _ => hd
        go_ret3
        refine ⟨?_, hC.out.bel⟩
        have hf : 1 + (digs bs 1).length + 1 + (digs bs (1 + (digs bs 1).length + 1)).length < bs.length ∨ (digs bs 1).length + (digs bs (1 + (digs bs 1).length + 1)).length = 0 := by
          rcases hd with hd | hd
          · omega
          · have hd2 := eq_of_beq hd; omega
        rw [hR2.out, if_pos hf]; rfl
      · rename _ ∧ _ => hd
        rename (!_) = true => ho
        go_ret3
        refine ⟨?_, hC.out.bel⟩
        have hd2 := beq_eq_false_iff_ne.1 hd.2
        have hf : ¬ (1 + (digs bs 1).length + 1 + (digs bs (1 + (digs bs 1).length + 1)).length < bs.length ∨ (digs bs 1).length + (digs bs (1 + (digs bs 1).length + 1)).length = 0) := by omega
        have ho2 : ¬ (numD (digs bs 1)).2 = true := by simpa using ho
        rw [hR2.out, if_neg hf, if_neg ho2]; rfl
      · rename _ ∧ _ => hd
        rename (!_) = false => ho
        go_ret3
        refine ⟨?_, hC.out.bel⟩
        have hd2 := beq_eq_false_iff_ne.1 hd.2
        have hf : ¬ (1 + (digs bs 1).length + 1 + (digs bs (1 + (digs bs 1).length + 1)).length < bs.length ∨ (digs bs 1).length + (digs bs (1 + (digs bs 1).length + 1)).length = 0) := by omega
        have ho2 : (numD (digs bs 1)).2 = true := by simpa using ho
        rw [hR2.out, if_neg hf, if_pos ho2]; simp [signI]
      · go_ret3
        refine ⟨?_, hC.out.bel⟩
        have hf : 1 + (digs bs 1).length + 1 + (digs bs (1 + (digs bs 1).length + 1)).length < bs.length ∨ (digs bs 1).length + (digs bs (1 + (digs bs 1).length + 1)).length = 0 := by omega
        rw [hR2.out, if_pos hf]; rfl
    · replace hdot := Lib.hid hdot
      have hsg : sgn bs = (1, false) := by unfold sgn; simp [h43]
      have hR : parseS bs = parseP bs 1 false := by rw [parseS_eq, hsg]
      have hR2 := Lib.hid (show parseS bs = if 1 + (digs bs 1).length < bs.length ∨ (digs bs 1).length = 0 then (0, false, 4) else if (numD (digs bs 1)).2 then (signI false * ((numD (digs bs 1)).1 : Int), true, 0) else (0, false, 5) by rw [hR]; unfold parseP; rw [if_neg hdot.out]; (try simp only [Nat.zero_add]))
      have hnl := numD_le (digs bs 1) (0, true) (by omega)
      change (numD (digs bs 1)).1 ≤ 2147483647 at hnl
      have hdl := digs_le bs 1
      clear hR hsg h hcap
      generalize parseS bs = R at *
      go_enter Tryd.func12, Tryd.ntmps12
      go_wp2_with (first
          | (go_at_call 24; (with_reducible refine hnew.mono ?_); clear hnew; rintro e w1 ⟨rfl, hC⟩; replace hC := Lib.hid hC)
          | (go_at_call 25; (with_reducible refine (cur_match_yes (ch := 43) hC.out (Nat.le_refl _) g43.out).mono ?_); clear hC; rintro e w2 ⟨rfl, hC⟩; replace hC := Lib.hid hC)
          | (go_at_call 25; (with_reducible refine (cur_match_no (ch := 46) hC.out (Nat.le_refl _) hdot.out).mono ?_); clear hC; rintro e w2 ⟨rfl, hC⟩; replace hC := Lib.hid hC)
          | (go_at_call 26; (with_reducible refine (fx_digits hC.out).mono ?_); clear hC; rintro e w2 ⟨rfl, hC⟩; replace hC := Lib.hid hC)
          | (go_at_call 27; (with_reducible refine (fx_behind hC.out).mono ?_); clear hC; rintro e w2 ⟨rfl, hC⟩; replace hC := Lib.hid hC)
          | (go_at_call 28; (with_reducible refine (cur_left hC.out).mono ?_); rintro e w2 ⟨rfl, rfl⟩))
      · rename _ ∨ _ => hd
        go_ret3
        refine ⟨?_, hC.out.bel⟩
        have hf : 1 + (digs bs 1).length < bs.length ∨ (digs bs 1).length = 0 := by
          rcases hd with hd | hd
          · omega
          · have hd2 := eq_of_beq hd; omega
        rw [hR2.out, if_pos hf]; rfl
      · rename _ ∧ _ => hd
        rename (!_) = true => ho
        go_ret3
        refine ⟨?_, hC.out.bel⟩
        have hd2 := beq_eq_false_iff_ne.1 hd.2
        have hf : ¬ (1 + (digs bs 1).length < bs.length ∨ (digs bs 1).length = 0) := by omega
        have ho2 : ¬ (numD (digs bs 1)).2 = true := by simpa using ho
        rw [hR2.out, if_neg hf, if_neg ho2]; rfl
      · rename _ ∧ _ => hd
        rename (!_) = false => ho
        go_ret3
        refine ⟨?_, hC.out.bel⟩
        have hd2 := beq_eq_false_iff_ne.1 hd.2
        have hf : ¬ (1 + (digs bs 1).length < bs.length ∨ (digs bs 1).length = 0) := by omega
        have ho2 : (numD (digs bs 1)).2 = true := by simpa using ho
        rw [hR2.out, if_neg hf, if_pos ho2]; simp [signI]
      · go_ret3
        refine ⟨?_, hC.out.bel⟩
        have hf : 1 + (digs bs 1).length < bs.length ∨ (digs bs 1).length = 0 := by omega
        rw [hR2.out, if_pos hf]; rfl
  · have g43 := Lib.hid h43
    by_cases h45 : bs[0]? = some 45
    · have g45 := Lib.hid h45
      by_cases hdot : bs[1 + (digs bs 1).length]? = some 46
      · replace hdot := Lib.hid hdot
        have hsg : sgn bs = (1, true) := by unfold sgn; simp [h43, h45]
        have hR : parseS bs = parseP bs 1 true := by rw [parseS_eq, hsg]
        have hR2 := Lib.hid (show parseS bs = if 1 + (digs bs 1).length + 1 + (digs bs (1 + (digs bs 1).length + 1)).length < bs.length ∨ (digs bs 1).length + (digs bs (1 + (digs bs 1).length + 1)).length = 0 then (0, false, 4) else if (numD (digs bs 1)).2 then (signI true * (((numD (digs bs 1)).1 : Int) * 100000 + (fracD (digs bs (1 + (digs bs 1).length + 1)) : Int)), false, 0) else (0, false, 5) by rw [hR]; unfold parseP; rw [if_pos hdot.out]; (try simp only [Nat.zero_add]))
        have hfl := fracD_le bs (1 + (digs bs 1).length + 1)
        have hml := digs_le bs (1 + (digs bs 1).length + 1)
        have hnl := numD_le (digs bs 1) (0, true) (by omega)
        change (numD (digs bs 1)).1 ≤ 2147483647 at hnl
        have hdl := digs_le bs 1
        clear hR hsg h hcap
        generalize parseS bs = R at *
        go_enter Tryd.func12, Tryd.ntmps12
        go_wp2_with (first
            | (go_at_call 24; (with_reducible refine hnew.mono ?_); clear hnew; rintro e w1 ⟨rfl, hC⟩; replace hC := Lib.hid hC)
            | (go_at_call 25; (with_reducible refine (cur_match_no (ch := 43) hC.out (Nat.le_refl _) g43.out).mono ?_); clear hC; rintro e w2 ⟨rfl, hC⟩; replace hC := Lib.hid hC)
            | (go_at_call 25; (with_reducible refine (cur_match_yes (ch := 45) hC.out (Nat.le_refl _) g45.out).mono ?_); clear hC; rintro e w2 ⟨rfl, hC⟩; replace hC := Lib.hid hC)
            | (go_at_call 25; (with_reducible refine (cur_match_yes (ch := 46) hC.out (Nat.le_refl _) hdot.out).mono ?_); clear hC; rintro e w2 ⟨rfl, hC⟩; replace hC := Lib.hid hC)
            | (go_at_call 26; (with_reducible refine (fx_digits hC.out).mono ?_); clear hC; rintro e w2 ⟨rfl, hC⟩; replace hC := Lib.hid hC)
            | (go_at_call 27; (with_reducible refine (fx_behind hC.out).mono ?_); clear hC; rintro e w2 ⟨rfl, hC⟩; replace hC := Lib.hid hC)
            | (go_at_call 28; (with_reducible refine (cur_left hC.out).mono ?_); rintro e w2 ⟨rfl, rfl⟩))
        · rename _ ∨ _ => hd
          go_ret3
          refine ⟨?_, hC.out.bel⟩
          have hf : 1 + (digs bs 1).length + 1 + (digs bs (1 + (digs bs 1).length + 1)).length < bs.length ∨ (digs bs 1).length + (digs bs (1 + (digs bs 1).length + 1)).length = 0 := by
            rcases hd with hd | hd
            · omega
            · have hd2 := eq_of_beq hd; omega
          rw [hR2.out, if_pos hf]; rfl
        · rename _ ∧ _ => hd
          rename (!_) = true => ho
          go_ret3
          refine ⟨?_, hC.out.bel⟩
          have hd2 := beq_eq_false_iff_ne.1 hd.2
          have hf : ¬ (1 + (digs bs 1).length + 1 + (digs bs (1 + (digs bs 1).length + 1)).length < bs.length ∨ (digs bs 1).length + (digs bs (1 + (digs bs 1).length + 1)).length = 0) := by omega
          have ho2 : ¬ (numD (digs bs 1)).2 = true := by simpa using ho
          rw [hR2.out, if_neg hf, if_neg ho2]; rfl
        · rename _ ∧ _ => hd
          rename (!_) = false => ho
          go_ret3
          refine ⟨?_, hC.out.bel⟩
          have hd2 := beq_eq_false_iff_ne.1 hd.2
          have hf : ¬ (1 + (digs bs 1).length + 1 + (digs bs (1 + (digs bs 1).length + 1)).length < bs.length ∨ (digs bs 1).length + (digs bs (1 + (digs bs 1).length + 1)).length = 0) := by omega
          have ho2 : (numD (digs bs 1)).2 = true := by simpa using ho
          rw [hR2.out, if_neg hf, if_pos ho2]; simp [signI]
        · go_ret3
          refine ⟨?_, hC.out.bel⟩
          have hf : 1 + (digs bs 1).length + 1 + (digs bs (1 + (digs bs 1).length + 1)).length < bs.length ∨ (digs bs 1).length + (digs bs (1 + (digs bs 1).length + 1)).length = 0 := by omega
          rw [hR2.out, if_pos hf]; rfl
      · replace hdot := Lib.hid hdot
        have hsg : sgn bs = (1, true) := by unfold sgn; simp [h43, h45]
        have hR : parseS bs = parseP bs 1 true := by rw [parseS_eq, hsg]
        have hR2 := Lib.hid (show parseS bs = if 1 + (digs bs 1).length < bs.length ∨ (digs bs 1).length = 0 then (0, false, 4) else if (numD (digs bs 1)).2 then (signI true * ((numD (digs bs 1)).1 : Int), true, 0) else (0, false, 5) by rw [hR]; unfold parseP; rw [if_neg hdot.out]; (try simp only [Nat.zero_add]))
        have hnl := numD_le (digs bs 1) (0, true) (by omega)
        change (numD (digs bs 1)).1 ≤ 2147483647 at hnl
        have hdl := digs_le bs 1
        clear hR hsg h hcap
        generalize parseS bs = R at *
        go_enter Tryd.func12, Tryd.ntmps12
        go_wp2_with (first
            | (go_at_call 24; (with_reducible refine hnew.mono ?_); clear hnew; rintro e w1 ⟨rfl, hC⟩; replace hC := Lib.hid hC)
            | (go_at_call 25; (with_reducible refine (cur_match_no (ch := 43) hC.out (Nat.le_refl _) g43.out).mono ?_); clear hC; rintro e w2 ⟨rfl, hC⟩; replace hC := Lib.hid hC)
            | (go_at_call 25; (with_reducible refine (cur_match_yes (ch := 45) hC.out (Nat.le_refl _) g45.out).mono ?_); clear hC; rintro e w2 ⟨rfl, hC⟩; replace hC := Lib.hid hC)
            | (go_at_call 25; (with_reducible refine (cur_match_no (ch := 46) hC.out (Nat.le_refl _) hdot.out).mono ?_); clear hC; rintro e w2 ⟨rfl, hC⟩; replace hC := Lib.hid hC)
            | (go_at_call 26; (with_reducible refine (fx_digits hC.out).mono ?_); clear hC; rintro e w2 ⟨rfl, hC⟩; replace hC := Lib.hid hC)
            | (go_at_call 27; (with_reducible refine (fx_behind hC.out).mono ?_); clear hC; rintro e w2 ⟨rfl, hC⟩; replace hC := Lib.hid hC)
            | (go_at_call 28; (with_reducible refine (cur_left hC.out).mono ?_); rintro e w2 ⟨rfl, rfl⟩))
        · rename _ ∨ _ => hd
          go_ret3
          refine ⟨?_, hC.out.bel⟩
          have hf : 1 + (digs bs 1).length < bs.length ∨ (digs bs 1).length = 0 := by
            rcases hd with hd | hd
            · omega
            · have hd2 := eq_of_beq hd; omega
          rw [hR2.out, if_pos hf]; rfl
        · rename _ ∧ _ => hd
          rename (!_) = true => ho
          go_ret3
          refine ⟨?_, hC.out.bel⟩
          have hd2 := beq_eq_false_iff_ne.1 hd.2
          have hf : ¬ (1 + (digs bs 1).length < bs.length ∨ (digs bs 1).length = 0) := by omega
          have ho2 : ¬ (numD (digs bs 1)).2 = true := by simpa using ho
          rw [hR2.out, if_neg hf, if_neg ho2]; rfl
        · rename _ ∧ _ => hd
          rename (!_) = false => ho
          go_ret3
          refine ⟨?_, hC.out.bel⟩
          have hd2 := beq_eq_false_iff_ne.1 hd.2
          have hf : ¬ (1 + (digs bs 1).length < bs.length ∨ (digs bs 1).length = 0) := by omega
          have ho2 : (numD (digs bs 1)).2 = true := by simpa using ho
          rw [hR2.out, if_neg hf, if_pos ho2]; simp [signI]
        · go_ret3
          refine ⟨?_, hC.out.bel⟩
          have hf : 1 + (digs bs 1).length < bs.length ∨ (digs bs 1).length = 0 := by omega
          rw [hR2.out, if_pos hf]; rfl
    · have g45 := Lib.hid h45
      by_cases hdot : bs[0 + (digs bs 0).length]? = some 46
      · replace hdot := Lib.hid hdot
        have hsg : sgn bs = (0, false) := by unfold sgn; simp [h43, h45]
        have hR : parseS bs = parseP bs 0 false := by rw [parseS_eq, hsg]
        have hR2 := Lib.hid (show parseS bs = if (digs bs 0).length + 1 + (digs bs ((digs bs 0).length + 1)).length < bs.length ∨ (digs bs 0).length + (digs bs ((digs bs 0).length + 1)).length = 0 then (0, false, 4) else if (numD (digs bs 0)).2 then (signI false * (((numD (digs bs 0)).1 : Int) * 100000 + (fracD (digs bs ((digs bs 0).length + 1)) : Int)), false, 0) else (0, false, 5) by rw [hR]; unfold parseP; rw [if_pos hdot.out]; (try simp only [Nat.zero_add]))
        have hfl := fracD_le bs ((digs bs 0).length + 1)
        have hml := digs_le bs ((digs bs 0).length + 1)
        have hnl := numD_le (digs bs 0) (0, true) (by omega)
        change (numD (digs bs 0)).1 ≤ 2147483647 at hnl
        have hdl := digs_le bs 0
        clear hR hsg h hcap
        generalize parseS bs = R at *
        go_enter Tryd.func12, Tryd.ntmps12
        go_wp2_with (first
            | (go_at_call 24; (with_reducible refine hnew.mono ?_); clear hnew; rintro e w1 ⟨rfl, hC⟩; replace hC := Lib.hid hC)
            | (go_at_call 25; (with_reducible refine (cur_match_no (ch := 43) hC.out (Nat.le_refl _) g43.out).mono ?_); clear hC; rintro e w2 ⟨rfl, hC⟩; replace hC := Lib.hid hC)
            | (go_at_call 25; (with_reducible refine (cur_match_no (ch := 45) hC.out (Nat.le_refl _) g45.out).mono ?_); clear hC; rintro e w2 ⟨rfl, hC⟩; replace hC := Lib.hid hC)
            | (go_at_call 25; (with_reducible refine (cur_match_yes (ch := 46) hC.out (Nat.le_refl _) hdot.out).mono ?_); clear hC; rintro e w2 ⟨rfl, hC⟩; replace hC := Lib.hid hC)
            | (go_at_call 26; (with_reducible refine (fx_digits hC.out).mono ?_); clear hC; rintro e w2 ⟨rfl, hC⟩; replace hC := Lib.hid hC)
            | (go_at_call 27; (with_reducible refine (fx_behind hC.out).mono ?_); clear hC; rintro e w2 ⟨rfl, hC⟩; replace hC := Lib.hid hC)
            | (go_at_call 28; (with_reducible refine (cur_left hC.out).mono ?_); rintro e w2 ⟨rfl, rfl⟩))
        · rename _ ∨ _ => hd
          go_ret3
          refine ⟨?_, hC.out.bel⟩
          have hf : (digs bs 0).length + 1 + (digs bs ((digs bs 0).length + 1)).length < bs.length ∨ (digs bs 0).length + (digs bs ((digs bs 0).length + 1)).length = 0 := by
            rcases hd with hd | hd
            · omega
            · have hd2 := eq_of_beq hd; omega
          rw [hR2.out, if_pos hf]; rfl
        · rename _ ∧ _ => hd
          rename (!_) = true => ho
          go_ret3
          refine ⟨?_, hC.out.bel⟩
          have hd2 := beq_eq_false_iff_ne.1 hd.2
          have hf : ¬ ((digs bs 0).length + 1 + (digs bs ((digs bs 0).length + 1)).length < bs.length ∨ (digs bs 0).length + (digs bs ((digs bs 0).length + 1)).length = 0) := by omega
          have ho2 : ¬ (numD (digs bs 0)).2 = true := by simpa using ho
          rw [hR2.out, if_neg hf, if_neg ho2]; rfl
        · rename _ ∧ _ => hd
          rename (!_) = false => ho
          go_ret3
          refine ⟨?_, hC.out.bel⟩
          have hd2 := beq_eq_false_iff_ne.1 hd.2
          have hf : ¬ ((digs bs 0).length + 1 + (digs bs ((digs bs 0).length + 1)).length < bs.length ∨ (digs bs 0).length + (digs bs ((digs bs 0).length + 1)).length = 0) := by omega
          have ho2 : (numD (digs bs 0)).2 = true := by simpa using ho
          rw [hR2.out, if_neg hf, if_pos ho2]; simp [signI]
        · go_ret3
          refine ⟨?_, hC.out.bel⟩
          have hf : (digs bs 0).length + 1 + (digs bs ((digs bs 0).length + 1)).length < bs.length ∨ (digs bs 0).length + (digs bs ((digs bs 0).length + 1)).length = 0 := by omega
          rw [hR2.out, if_pos hf]; rfl
      · replace hdot := Lib.hid hdot
        have hsg : sgn bs = (0, false) := by unfold sgn; simp [h43, h45]
        have hR : parseS bs = parseP bs 0 false := by rw [parseS_eq, hsg]
        have hR2 := Lib.hid (show parseS bs = if (digs bs 0).length < bs.length ∨ (digs bs 0).length = 0 then (0, false, 4) else if (numD (digs bs 0)).2 then (signI false * ((numD (digs bs 0)).1 : Int), true, 0) else (0, false, 5) by rw [hR]; unfold parseP; rw [if_neg hdot.out]; (try simp only [Nat.zero_add]))
        have hnl := numD_le (digs bs 0) (0, true) (by omega)
        change (numD (digs bs 0)).1 ≤ 2147483647 at hnl
        have hdl := digs_le bs 0
        clear hR hsg h hcap
        generalize parseS bs = R at *
        go_enter Tryd.func12, Tryd.ntmps12
        go_wp2_with (first
            | (go_at_call 24; (with_reducible refine hnew.mono ?_); clear hnew; rintro e w1 ⟨rfl, hC⟩; replace hC := Lib.hid hC)
            | (go_at_call 25; (with_reducible refine (cur_match_no (ch := 43) hC.out (Nat.le_refl _) g43.out).mono ?_); clear hC; rintro e w2 ⟨rfl, hC⟩; replace hC := Lib.hid hC)
            | (go_at_call 25; (with_reducible refine (cur_match_no (ch := 45) hC.out (Nat.le_refl _) g45.out).mono ?_); clear hC; rintro e w2 ⟨rfl, hC⟩; replace hC := Lib.hid hC)
            | (go_at_call 25; (with_reducible refine (cur_match_no (ch := 46) hC.out (Nat.le_refl _) hdot.out).mono ?_); clear hC; rintro e w2 ⟨rfl, hC⟩; replace hC := Lib.hid hC)
            | (go_at_call 26; (with_reducible refine (fx_digits hC.out).mono ?_); clear hC; rintro e w2 ⟨rfl, hC⟩; replace hC := Lib.hid hC)
            | (go_at_call 27; (with_reducible refine (fx_behind hC.out).mono ?_); clear hC; rintro e w2 ⟨rfl, hC⟩; replace hC := Lib.hid hC)
            | (go_at_call 28; (with_reducible refine (cur_left hC.out).mono ?_); rintro e w2 ⟨rfl, rfl⟩))
        · rename _ ∨ _ => hd
          go_ret3
          refine ⟨?_, hC.out.bel⟩
          have hf : (digs bs 0).length < bs.length ∨ (digs bs 0).length = 0 := by
            rcases hd with hd | hd
            · omega
            · have hd2 := eq_of_beq hd; omega
          rw [hR2.out, if_pos hf]; rfl
        · rename _ ∧ _ => hd
          rename (!_) = true => ho
          go_ret3
          refine ⟨?_, hC.out.bel⟩
          have hd2 := beq_eq_false_iff_ne.1 hd.2
          have hf : ¬ ((digs bs 0).length < bs.length ∨ (digs bs 0).length = 0) := by omega
          have ho2 : ¬ (numD (digs bs 0)).2 = true := by simpa using ho
          rw [hR2.out, if_neg hf, if_neg ho2]; rfl
        · rename _ ∧ _ => hd
          rename (!_) = false => ho
          go_ret3
          refine ⟨?_, hC.out.bel⟩
          have hd2 := beq_eq_false_iff_ne.1 hd.2
          have hf : ¬ ((digs bs 0).length < bs.length ∨ (digs bs 0).length = 0) := by omega
          have ho2 : (numD (digs bs 0)).2 = true := by simpa using ho
          rw [hR2.out, if_neg hf, if_pos ho2]; simp [signI]
        · go_ret3
          refine ⟨?_, hC.out.bel⟩
          have hf : (digs bs 0).length < bs.length ∨ (digs bs 0).length = 0 := by omega
          rw [hR2.out, if_pos hf]; rfl
end Go.Proofs.YtbmcmilbmkdabaaDoor

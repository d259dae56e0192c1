/- Fixed: the contracts of both Text. No condition. -/
import Derived.Test.YtbmcmilbmkdabaaDoorFxFmt
import Derived.Deep.QuietTactic
import Derived.BigQuiet
namespace Go.Proofs.YtbmcmilbmkdabaaDoor
open Go Go.RowKit Go.Wk Go.Sort Go.Lib
theorem Tab.below {w w' : World} (h : Tab w) (hb : Below w.heap.size w w') : Tab w' := by
  unfold Tab TabIs World.var? at *
  cases hg : Tryd.prog.globalNamed "internal/strconv.uint64pow10" with
  | none => simp [hg] at h
  | some g =>
    simp only [hg, Option.bind_some] at h ⊢
    have hlt : g < w.heap.size := by
      rcases Nat.lt_or_ge g w.heap.size with h' | h'
      · exact h'
      · rw [Array.getElem?_eq_none h'] at h; simp at h
    rw [hb.block g hlt]
    exact h
theorem below_drawn (w : World) (n : Nat) : Below w.heap.size w (w.drewN n) := ⟨rfl, rfl, rfl, Nat.le_refl _, fun _ _ => rfl⟩
def str (l : List UInt8) : Value := .string ⟨l.toArray⟩
theorem str_FormatInt (n : Int) (h : i64 n) (w : World) (htab : Tab w) :
    Calls Tryd.prog 29 #[.int .i64 n, .int .i64 10] w fun e w' => e = .returned (.string ⟨(Lib.itoa n).toArray⟩) ∧ Below w.heap.size w w' := by
  refine (Tryd.strconv_FormatInt_10 n h.1 h.2 w htab).mono ?_
  rintro e w' ⟨rfl, k, os, rfl⟩
  exact ⟨rfl, below_grow w os k⟩
def fracL (r : Nat) : List UInt8 := ((decDigits (100000 + r)).drop 1).take 1 ++ trimRightB (((decDigits (100000 + r)).drop 1).drop 1) 48
/-- a number's text -/
def textL (n : Int) (whole : Bool) : List UInt8 := if whole then itoa n else (if n < 0 then [45] else []) ++ (decDigits (n.natAbs / 100000) ++ (46 :: fracL (n.natAbs % 100000)))
theorem bytes_ext {a b : ByteArray} (h : a.data.toList = b.data.toList) : a = b := by
  cases a; cases b; simp at h; rw [h]
theorem bytes_app (a b : ByteArray) : (a ++ b).data.toList = a.data.toList ++ b.data.toList := by simp
theorem bytes_cut (a : ByteArray) (i j : Nat) : (a.extract i j).data.toList = (a.data.toList.take j).drop i := by
  simp [ByteArray.data_extract, Array.toList_extract, List.extract]
  rw [List.drop_take]
theorem six (r : Nat) (h : r < 100000) : (decDigits (100000 + r)).length = 6 := by
  rw [decDigits_length]
  exact nDigits_unique 5 _ (by omega) (by omega)
theorem trim_le (l : List UInt8) (c : UInt8) : (trimRightB l c).length ≤ l.length := by
  unfold trimRightB
  rw [List.length_reverse]
  have := (List.dropWhile_sublist (fun x => x == c) (l := l.reverse)).length_le
  simpa using this
set_option maxHeartbeats 1000000 in
theorem fixed_Text (n : Int) (h : i64 n) (w : World) (htab : Tab w) :
    Calls Tryd.prog 14 #[.int .i64 n, .bool false] w fun e w' => e = .returned (str (textL n false)) ∧ Below w.heap.size w w' := by
  obtain ⟨m, hm⟩ : ∃ m, m = n.natAbs := ⟨_, rfl⟩
  have hm2 : m ≤ 9223372036854775808 := by unfold i64 at h; omega
  have f1 := fun w htab => str_FormatUint (100000 + m % 100000) (by omega) w htab
  have f2 := fun w htab => str_FormatUint (m / 100000) (by omega) w htab
  obtain ⟨P, hP⟩ : ∃ P : ByteArray, P = ⟨(decDigits (100000 + m % 100000)).toArray⟩ := ⟨_, rfl⟩
  have hPs : P.size = 6 := by rw [hP]; show (decDigits (100000 + m % 100000)).toArray.size = 6; rw [List.size_toArray]; exact six _ (Nat.mod_lt _ (by omega))
  have hDl : (decDigits (m / 100000)).length ≤ 20 := by
    rw [decDigits_length]
    by_cases h0 : m / 100000 = 0
    · rw [h0, nDigits_small (by omega)]; omega
    · have := Lib.numDigits_eq (m / 100000) (by omega) (by omega); split at this <;> omega
  obtain ⟨S, hS⟩ : ∃ S, S = textL n false := ⟨_, rfl⟩
  rw [← hS]
  have hS := Lib.hid (show S = (if n < 0 then [45] else []) ++ (decDigits (m / 100000) ++ (46 :: fracL (m % 100000))) by rw [hS, hm]; rfl)
  have hfr := Lib.hid (show fracL (m % 100000) = ((decDigits (100000 + m % 100000)).drop 1).take 1 ++ trimRightB (((decDigits (100000 + m % 100000)).drop 1).drop 1) 48 from rfl)
  generalize fracL (m % 100000) = F at *
  rw [← hP] at f1
  replace hP := Lib.hid hP
  obtain ⟨h1, h2⟩ := h
  obtain ⟨U, hU⟩ := hidE (m : Int)
  have g1 : ∀ w, Tab w → Calls Tryd.prog 30 #[.int .u64 (100000 + U % 100000), .int .i64 10] w fun e w' => e = .returned (.string P) ∧ Below w.heap.size w w' := by
    intro w ht; have := f1 w ht; rw [hU.out]
    rwa [show ((100000 + m % 100000 : Nat) : Int) = 100000 + (m : Int) % 100000 by omega] at this
  have g2 : ∀ w, Tab w → Calls Tryd.prog 30 #[.int .u64 (U / 100000), .int .i64 10] w fun e w' => e = .returned (str (decDigits (m / 100000))) ∧ Below w.heap.size w w' := by
    intro w ht; have := f2 w ht; rw [hU.out]
    rwa [show ((m / 100000 : Nat) : Int) = (m : Int) / 100000 by omega] at this
  have hU0 : 0 ≤ U ∧ U ≤ 9223372036854775808 := by rw [hU.out]; omega
  generalize decDigits (m / 100000) = D at *
  clear f1 f2
  have G1 := Lib.hid g1
  have G2 := Lib.hid g2
  clear g1 g2
  by_cases hn : n < 0
  · have e1 : IntKind.u64.wrap (-IntKind.u64.wrap n) = U := by rw [hU.out, IntKind.wrap_u64, IntKind.wrap_u64]; omega
    clear hm hm2
    go_enter Tryd.func14, Tryd.ntmps14
    go_wp2_with (first
      | (go_at_call 30; (with_reducible refine (G1.out _ htab).mono ?_); rintro e w1 ⟨rfl, hw1⟩; have ht1 := htab.below hw1; have g2 := G2.out _ ht1; clear htab)
      | (go_at_call 30; (with_reducible refine g2.mono ?_); rintro e w2 ⟨rfl, hw2⟩))
    have hEs : (P.extract 1 6).size = 5 := by rw [ByteArray.size_extract]; omega
    generalize hE : P.extract 1 6 = E at *
    replace hE := Lib.hid hE
    have tr := fun w => Tryd.strings_TrimRight_one (E.extract 1 5) 48 (by decide) w (by rw [ByteArray.size_extract]; omega)
    obtain ⟨T, hT⟩ : ∃ T : ByteArray, T = ⟨(trimRightB (E.extract 1 5).data.toList 48).toArray⟩ := ⟨_, rfl⟩
    rw [← hT] at tr
    replace hT := Lib.hid hT
    have hTs : T.size ≤ 4 := by
      rw [hT.out]
      show (trimRightB (E.extract 1 5).data.toList 48).toArray.size ≤ 4
      rw [List.size_toArray]
      refine Nat.le_trans (trim_le _ _) ?_
      have : (E.extract 1 5).data.toList.length = (E.extract 1 5).size := by simp; omega
      rw [this, ByteArray.size_extract]; omega
    have hTs2 : ¬ 9223372036854775807 < 1 + T.size := by omega
    go_quiet ((go_at_call 31; refine Calls.quiet_of_same (tr _)))
    have hb1 := below_drawn w1 nq
    go_wp2_with (go_at_call 30; (with_reducible refine (G2.out _ (ht1.below hb1)).mono ?_); rintro e w2 ⟨rfl, hw2⟩; unfold str)
    go_ret
    refine ⟨?_, bthen (bthen hw1 hb1) hw2⟩
    unfold str
    refine congrArg (fun b => Ending.returned (.string b)) (bytes_ext ?_)
    rw [hS.out, if_pos hn]
    have hEd : E.data.toList = (decDigits (100000 + m % 100000)).drop 1 := by
      rw [← hE.out, bytes_cut, hP.out]
      show ((decDigits (100000 + m % 100000)).take 6).drop 1 = _
      rw [List.take_of_length_le (by rw [six _ (Nat.mod_lt _ (by omega))]; omega)]
    have hEl : E.data.toList.length = 5 := by rw [hEd, List.length_drop, six _ (Nat.mod_lt _ (by omega))]
    have hTd : T.data.toList = trimRightB (E.data.toList.drop 1) 48 := by
      rw [hT.out]
      show trimRightB (E.extract 1 5).data.toList 48 = _
      rw [bytes_cut, List.take_of_length_le (by omega)]
    have hF : (E.extract 0 1 ++ T).data.toList = F := by
      rw [hfr.out, bytes_app, bytes_cut, hTd, hEd]; rfl
    rw [bytes_app, bytes_app, bytes_app, hF]
    simp
  · have e1 : IntKind.u64.wrap n = U := by rw [hU.out, IntKind.wrap_u64]; omega
    clear hm hm2
    go_enter Tryd.func14, Tryd.ntmps14
    go_wp2_with (first
      | (go_at_call 30; (with_reducible refine (G1.out _ htab).mono ?_); rintro e w1 ⟨rfl, hw1⟩; have ht1 := htab.below hw1; have g2 := G2.out _ ht1; clear htab)
      | (go_at_call 30; (with_reducible refine g2.mono ?_); rintro e w2 ⟨rfl, hw2⟩))
    have hEs : (P.extract 1 6).size = 5 := by rw [ByteArray.size_extract]; omega
    generalize hE : P.extract 1 6 = E at *
    replace hE := Lib.hid hE
    have tr := fun w => Tryd.strings_TrimRight_one (E.extract 1 5) 48 (by decide) w (by rw [ByteArray.size_extract]; omega)
    obtain ⟨T, hT⟩ : ∃ T : ByteArray, T = ⟨(trimRightB (E.extract 1 5).data.toList 48).toArray⟩ := ⟨_, rfl⟩
    rw [← hT] at tr
    replace hT := Lib.hid hT
    have hTs : T.size ≤ 4 := by
      rw [hT.out]
      show (trimRightB (E.extract 1 5).data.toList 48).toArray.size ≤ 4
      rw [List.size_toArray]
      refine Nat.le_trans (trim_le _ _) ?_
      have : (E.extract 1 5).data.toList.length = (E.extract 1 5).size := by simp; omega
      rw [this, ByteArray.size_extract]; omega
    have hTs2 : ¬ 9223372036854775807 < 1 + T.size := by omega
    go_quiet ((go_at_call 31; refine Calls.quiet_of_same (tr _)))
    have hb1 := below_drawn w1 nq
    go_wp2_with (go_at_call 30; (with_reducible refine (G2.out _ (ht1.below hb1)).mono ?_); rintro e w2 ⟨rfl, hw2⟩; unfold str)
    go_ret
    refine ⟨?_, bthen (bthen hw1 hb1) hw2⟩
    unfold str
    refine congrArg (fun b => Ending.returned (.string b)) (bytes_ext ?_)
    rw [hS.out, if_neg (by omega)]
    have hEd : E.data.toList = (decDigits (100000 + m % 100000)).drop 1 := by
      rw [← hE.out, bytes_cut, hP.out]
      show ((decDigits (100000 + m % 100000)).take 6).drop 1 = _
      rw [List.take_of_length_le (by rw [six _ (Nat.mod_lt _ (by omega))]; omega)]
    have hEl : E.data.toList.length = 5 := by rw [hEd, List.length_drop, six _ (Nat.mod_lt _ (by omega))]
    have hTd : T.data.toList = trimRightB (E.data.toList.drop 1) 48 := by
      rw [hT.out]
      show trimRightB (E.extract 1 5).data.toList 48 = _
      rw [bytes_cut, List.take_of_length_le (by omega)]
    have hF : (E.extract 0 1 ++ T).data.toList = F := by
      rw [hfr.out, bytes_app, bytes_cut, hTd, hEd]; rfl
    rw [bytes_app, bytes_app, bytes_app, hF]
    simp
set_option maxHeartbeats 400000 in
theorem fixed_Text_whole (n : Int) (h : i64 n) (w : World) (htab : Tab w) :
    Calls Tryd.prog 14 #[.int .i64 n, .bool true] w fun e w' => e = .returned (str (textL n true)) ∧ Below w.heap.size w w' := by
  have c := str_FormatInt n h w htab
  have hS : textL n true = itoa n := rfl
  rw [hS]
  generalize itoa n = S at *
  go_enter Tryd.func14, Tryd.ntmps14
  go_wp2_with (go_at_call 29; (with_reducible refine c.mono ?_); rintro e w1 ⟨rfl, hw1⟩)
  go_ret
  exact ⟨rfl, hw1⟩
end Go.Proofs.YtbmcmilbmkdabaaDoor

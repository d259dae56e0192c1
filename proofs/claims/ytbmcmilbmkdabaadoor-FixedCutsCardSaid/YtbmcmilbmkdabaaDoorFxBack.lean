/- Fixed: the law of a number read back, walked. No condition. -/
import Derived.Test.YtbmcmilbmkdabaaDoorFxPlain
import Derived.Lib.ItoaLen
import Derived.Laws.IdiomStrings
namespace Go.Proofs.YtbmcmilbmkdabaaDoor
open Go Go.RowKit Go.Wk Go.Lib
theorem text_both (n : Int) (h : i64 n) (whole : Bool) (w : World) (ht : Tab w) : Calls Tryd.prog 14 #[.int .i64 n, .bool whole] w fun e w' => e = .returned (str (textL n whole)) ∧ Below w.heap.size w w' := by
  cases whole with
  | true => exact fixed_Text_whole n h w ht
  | false => exact fixed_Text n h w ht
theorem textL_len (n : Int) (h : i64 n) (whole : Bool) : (textL n whole).length ≤ 100 := by
  have h1 := h.1
  have h2 := h.2
  cases whole with
  | true => show (itoa n).length ≤ 100; have := itoa_length_le n h1 h2; omega
  | false =>
    show ((if n < 0 then [45] else [] : List UInt8) ++ (decDigits (n.natAbs / 100000) ++ (46 :: fracL (n.natAbs % 100000)))).length ≤ 100
    have a := nDigits_le20 (n.natAbs / 100000) (by omega)
    have b := six (n.natAbs % 100000) (by omega)
    have c := trim_le (((decDigits (100000 + n.natAbs % 100000)).drop 1).drop 1) 48
    generalize trimRightB (((decDigits (100000 + n.natAbs % 100000)).drop 1).drop 1) 48 = T at c
    have e : (fracL (n.natAbs % 100000)).length ≤ 1 + (((decDigits (100000 + n.natAbs % 100000)).drop 1).drop 1).length := by
      have c := trim_le (((decDigits (100000 + n.natAbs % 100000)).drop 1).drop 1) 48
      unfold fracL
      rw [List.length_append, List.length_take]
      omega
    rw [List.length_drop, List.length_drop, b] at e
    rw [List.length_append, List.length_append, List.length_cons, decDigits_length]
    split <;> simp only [List.length_cons, List.length_nil] <;> omega
theorem s2b (w : World) (l : List UInt8) (hl : l.length ≤ 100) : ∃ c w', (convert 9 22 (.string ⟨l.toArray⟩)).run Tryd.prog w = .ok (.slice (some ⟨w.heap.size, 0, none⟩) l.length c) w' ∧ l.length ≤ c ∧ Byt w' (some ⟨w.heap.size, 0, none⟩) l ∧ (∀ B a, Below B a w → B ≤ w.heap.size → Below B a w') := by
  have h := run_bytes_of_string (P := Tryd.prog) w 9 22 5 ⟨l.toArray⟩ Tryd.underlying9 Tryd.underlying22 Tryd.underlying5
  refine ⟨_, _, h, grownCap_ge w _ _ _, ⟨by unfold maxLen; omega, fun _ => ⟨w.heap.size, 0, rfl, fun i hi => ?_⟩⟩, fun B a hb hB => (hb.drew).alloc hB _⟩
  have := World.cell?_alloc_mark w.drew (bytesRow ⟨l.toArray⟩ (grownCap w (ByteArray.size ⟨l.toArray⟩) 0 5)) 5 ((bytesRow ⟨l.toArray⟩ (grownCap w (ByteArray.size ⟨l.toArray⟩) 0 5)).size, (bytesRow ⟨l.toArray⟩ (grownCap w (ByteArray.size ⟨l.toArray⟩) 0 5)).size + 1) (0 + i)
  refine this.trans ?_
  rw [Nat.zero_add]
  exact bytesRow_at _ _ _ (by simpa using hi)
set_option maxHeartbeats 1000000 in
theorem back_law (n : Int) (h : i64 n) (whole : Bool) (w : World) (htab : Tab w)
    (haw : Calls Tryd.prog 11 #[] w fun e w' => e = .returned (.bool true) ∧ Below w.heap.size w w') :
    Calls Tryd.prog 5 #[.int .i64 n, .bool whole] w fun e w' => e = .returned (.bool true) ∧ Below w.heap.size w w' := by
  cases h1 : isIn n with
  | false =>
    go_enter Tryd.func5, Tryd.ntmps5
    go_wp2_with (first
      | (go_at_call 11; (with_reducible refine haw.mono ?_); rintro e w1 ⟨rfl, hw1⟩)
      | (go_at_call 17; (with_reducible refine (ref_In n _).mono ?_); rintro e w1 ⟨rfl, rfl⟩; rw [h1]))
    go_ret
    exact ⟨rfl, hw1⟩
  | true =>
    have c1 := Lib.hid (text_both n h whole)
    replace htab := Lib.hid htab
    have hpt := Lib.hid (parse_text n whole h1)
    have hSl := Lib.hid (textL_len n h whole)
    obtain ⟨S, hS⟩ : ∃ S, S = textL n whole := ⟨_, rfl⟩
    rw [← hS] at c1 hpt hSl
    clear hS
    unfold str at c1
    have hn2 := (isIn_iff n).1 h1
    by_cases hbig : whole = true ∧ (2147483647 < n ∨ n < -2147483647)
    · obtain ⟨rfl, hb⟩ := hbig
      rcases hb with hb | hb
      · go_enter Tryd.func5, Tryd.ntmps5
        go_wp2_with (first
          | (go_at_call 11; (with_reducible refine haw.mono ?_); rintro e w1 ⟨rfl, hw1⟩)
          | (go_at_call 17; (with_reducible refine (ref_In n _).mono ?_); rintro e w1 ⟨rfl, rfl⟩; rw [h1]))
        go_ret
        exact ⟨rfl, hw1⟩
      · go_enter Tryd.func5, Tryd.ntmps5
        go_wp2_with (first
          | (go_at_call 11; (with_reducible refine haw.mono ?_); rintro e w1 ⟨rfl, hw1⟩)
          | (go_at_call 17; (with_reducible refine (ref_In n _).mono ?_); rintro e w1 ⟨rfl, rfl⟩; rw [h1]))
        go_ret
        exact ⟨rfl, hw1⟩
    · skip
      have hbd : whole = true → -2147483647 ≤ n ∧ n ≤ 2147483647 := fun hw => by
        have : ¬ (2147483647 < n ∨ n < -2147483647) := fun hc => hbig ⟨hw, hc⟩
        omega
      replace hpt := hpt.out hbd
      have c3 : Hid (∀ (w : World) (A : Option Addr) (c : Nat), Byt w A S → S.length ≤ c → Calls Tryd.prog 12 #[.slice A S.length c] w fun e w' => e = .returned (.tuple #[.int .i64 n, .bool whole, .int .i64 0]) ∧ Below w.heap.size w w') := Lib.hid (fun w A c hb hc => by
        have := fx_parse hb hc (by have := hSl.out; omega)
        rw [hpt] at this
        exact this)
      clear hpt
      clear hbig
      cases whole with
      | false =>
        clear hbd
        go_enter Tryd.func5, Tryd.ntmps5
        go_wp2_with (first
          | (go_at_call 11; (with_reducible refine haw.mono ?_); rintro e w1 ⟨rfl, hw1⟩; have k1 := c1.out _ (htab.out.below hw1))
          | (go_at_call 17; (with_reducible refine (ref_In n _).mono ?_); rintro e w1 ⟨rfl, rfl⟩; rw [h1])
          | (go_at_call 14; (with_reducible refine k1.mono ?_); rintro e w2 ⟨rfl, hw2⟩; obtain ⟨c, w3, hcv, hc, hby, hbe⟩ := s2b w2 S hSl.out)
          | (go_at_call 12; (with_reducible refine (c3.out _ _ _ hby hc).mono ?_); rintro e w4 ⟨rfl, hw4⟩))
        go_ret
        refine ⟨rfl, ?_⟩
        have b2 := hw1.trans (hw2.mono hw1.size)
        have b3 := hbe _ _ b2 (by have := hw1.size; have := hw2.size; omega)
        exact b3.trans (hw4.mono b3.size)
      | true =>
        obtain ⟨hbd1, hbd2⟩ := hbd rfl
        go_enter Tryd.func5, Tryd.ntmps5
        go_wp2_with (first
          | (go_at_call 11; (with_reducible refine haw.mono ?_); rintro e w1 ⟨rfl, hw1⟩; have k1 := c1.out _ (htab.out.below hw1))
          | (go_at_call 17; (with_reducible refine (ref_In n _).mono ?_); rintro e w1 ⟨rfl, rfl⟩; rw [h1])
          | (go_at_call 14; (with_reducible refine k1.mono ?_); rintro e w2 ⟨rfl, hw2⟩; obtain ⟨c, w3, hcv, hc, hby, hbe⟩ := s2b w2 S hSl.out)
          | (go_at_call 12; (with_reducible refine (c3.out _ _ _ hby hc).mono ?_); rintro e w4 ⟨rfl, hw4⟩))
        go_ret
        refine ⟨rfl, ?_⟩
        have b2 := hw1.trans (hw2.mono hw1.size)
        have b3 := hbe _ _ b2 (by have := hw1.size; have := hw2.size; omega)
        exact b3.trans (hw4.mono b3.size)
end Go.Proofs.YtbmcmilbmkdabaaDoor

/- The reader passes what stands around the root; it reads names. No condition. -/
import Derived.Test.YtgomlebemefdcaaDoorXeMisc
set_option linter.unusedVariables false
namespace Go.Proofs.YtgomlebemefdcaaDoor
open Go Go.RowKit Go.Wk Go.Xt Go.Xe
theorem behind_len {s r r' : List UInt8} (h : Behind s r r') : r'.length ≤ r.length := by
  induction h with
  | here r => simp
  | next c r r' _ _ ih => simp; omega
theorem misc_len {r r' : List UInt8} (h : Misc r true r') : r'.length < r.length := by
  cases h with
  | com r0 _ hB => have := behind_len hB; simp at this ⊢; omega
  | ins r0 _ _ hB => have := behind_len hB; simp at this ⊢; omega
theorem Rest.len {bs r : List UInt8} {p : Nat} (h : Rest bs p r) : p + r.length = bs.length := by
  have := congrArg List.length h.eq; have := h.le; simp at *; omega
theorem Rest.ws_ {bs r : List UInt8} {p : Nat} (h : Rest bs p r) : Rest bs (p + ws r) (r.drop (ws r)) := by
  have h1 := h.len
  have h2 := ws_le r
  exact ⟨by rw [← h.eq, List.drop_drop], by omega⟩
set_option maxHeartbeats 2000000 in
set_option maxRecDepth 100000 in
theorem xml_around {w : World} {L R c p many : Nat} {A : Option Addr} {bs r r' : List UInt8} (h : RS w L R A c bs p many) (hr : Rest bs p r) (hA : Around r r') :
    Calls Tryd.prog 39 #[.pointer (some ⟨R, 0, none⟩)] w fun e w' => e = .returned (.int .i64 0) ∧ End w L R A c bs many r' w' := by
  replace h := Lib.hid h
  replace hr := Lib.hid hr
  replace hA := Lib.hid hA
  go_enter Tryd.func39, Tryd.ntmps39
  go_wp2
  go_loopw [3] (fun _ wr => ∃ q r1, Rest bs q r1 ∧ Around r1 r' ∧ RS wr L R A c bs q many ∧ Fr L R w wr) (fun _ wr => bs.length + 1 - posOf L wr)
  case atStart => exact ⟨p, r, hr.out, hA.out, h.out, Fr.refl _ _ _⟩
  case round =>
    obtain ⟨q, r1, hq, hA1, hS, hF⟩ := hrel
    have cb := xml_blank hS hq.eq
    have hq1 := hq.ws_
    have hpos := Lib.hid hS.pos
    replace hF := Lib.hid hF
    replace hS := Lib.hid hS
    clear h hr hA
    cases hA1 with
    | stop _ hM =>
      have cm : ∀ w1, RS w1 L R A c bs (q + ws r1) many → Calls Tryd.prog 50 #[.pointer (some ⟨R, 0, none⟩)] w1 fun e w' => e = .returned (.tuple #[.bool false, .int .i64 0]) ∧ End w1 L R A c bs many (r1.drop (ws r1)) w' := fun w1 h1 => xml_misc h1 hq1 hM
      replace cm := Lib.hid cm
      clear hq hq1 hM
      generalize hn : ws r1 = n at *
      replace hn := Lib.hid hn
      go_wp2_with (first
        | (go_at_call 49; (with_reducible refine cb.mono ?_); rintro e w1 ⟨rfl, h1, f1⟩; have k1 := cm.out w1 h1; replace f1 := Lib.hid f1; replace h1 := Lib.hid h1)
        | (go_at_call 50; (with_reducible refine k1.mono ?_); rintro e w2 ⟨rfl, h2⟩; replace h2 := Lib.hid h2))
      go_ret
      have h3 := h2.out
      rw [← hn.out] at h3
      exact ⟨rfl, h3.1, (hF.out.trans f1.out).trans h3.2⟩
    | more _ r2 _ hM hA2 =>
      have cm : ∀ w1, RS w1 L R A c bs (q + ws r1) many → Calls Tryd.prog 50 #[.pointer (some ⟨R, 0, none⟩)] w1 fun e w' => e = .returned (.tuple #[.bool true, .int .i64 0]) ∧ End w1 L R A c bs many r2 w' := fun w1 h1 => xml_misc h1 hq1 hM
      have hl1 := misc_len hM
      have hl2 := hq1.len
      have hl3 := hq.len
      have hl4 := ws_le r1
      replace cm := Lib.hid cm
      replace hA2 := Lib.hid hA2
      replace hl1 := Lib.hid hl1
      replace hl2 := Lib.hid hl2
      replace hl3 := Lib.hid hl3
      replace hl4 := Lib.hid hl4
      clear hq hq1 hM
      generalize hn : ws r1 = n at *
      replace hn := Lib.hid hn
      go_wp2_with (first
        | (go_at_call 49; (with_reducible refine cb.mono ?_); rintro e w1 ⟨rfl, h1, f1⟩; have k1 := cm.out w1 h1; replace f1 := Lib.hid f1; replace h1 := Lib.hid h1)
        | (go_at_call 50; (with_reducible refine k1.mono ?_); rintro e w2 ⟨rfl, h2⟩; replace h2 := Lib.hid h2))
      obtain ⟨⟨q2, hS2, hq2⟩, f2⟩ := h2.out
      go_roundw
      case rel => exact ⟨q2, r2, hq2, hA2.out, hS2, (hF.out.trans f1.out).trans f2⟩
      case measure =>
        rw [hS2.pos, hpos.out]
        have a1 := hl1.out
        have a2 := hl2.out
        have a3 := hl3.out
        have a4 := hl4.out
        have a5 := hq2.len
        simp at a1 a2
        omega
set_option maxHeartbeats 1000000 in
set_option maxRecDepth 100000 in
theorem cur_peekN {w0 w : World} {L : Nat} {A : Option Addr} {c : Nat} {bs : List UInt8} {p : Nat} (n : Nat) (hn : n ≤ 100000) (h : Cur w0 w L A c bs p) :
    Calls Tryd.prog 58 #[.pointer (some ⟨L, 0, none⟩), .int .i64 n] w fun e w' => e = .returned (.int .i64 (peekS bs (p + n))) ∧ Cur w0 w' L A c bs p := by
  have H := Lib.hid h
  obtain ⟨h1, h2, h3, h4, h5, h6, h7, h8⟩ := h
  have hS := Lib.hid (show peekS bs (p + n) = match bs[p + n]? with | some b => (b.toNat : Int) | none => -1 from rfl)
  generalize peekS bs (p + n) = S at *
  have hneg : ¬ (n : Int) < -(p : Int) := by omega
  by_cases hlt : p + n < bs.length
  · obtain ⟨b, o, rfl, hc⟩ := h6.2 (by omega)
    have hck := (h2.cell (p := ⟨b, o + (p + n), none⟩) (show b ≠ L from h1 (by omega) ⟨b, o, none⟩ rfl) (cell_lt (hc (p + n) hlt))).trans (hc (p + n) hlt)
    have hS2 := Lib.hid (show S = (bs[p + n].toNat : Int) by rw [hS.out, List.getElem?_eq_getElem hlt])
    generalize bs[p + n] = x at *
    have hg : ¬ (bs.length : Int) - (p : Int) ≤ (n : Int) := by omega
    clear hc h6 h2 h1
    go_enter Tryd.func58, Tryd.ntmps58
    go_wp2
    · go_quiet (fail)
      go_wp2
      go_ret
      have hxw : wrap64 (x.toNat : Int) = (x.toNat : Int) := by have := u8_lt x; unfold wrap64; omega
      exact ⟨by rw [hS2.out]; exact congrArg (fun z => Ending.returned (.int .i64 z)) hxw, H.out.drawn _⟩
  · have hS2 := Lib.hid (show S = -1 by rw [hS.out, List.getElem?_eq_none (by omega)])
    have hg : (bs.length : Int) - (p : Int) ≤ (n : Int) := by omega
    clear h6 h2 h1
    go_enter Tryd.func58, Tryd.ntmps58
    go_wp2
    go_ret
    exact ⟨by rw [hS2.out]; rfl, H.out⟩
theorem rs_peekN {w : World} {L R c p many : Nat} {A : Option Addr} {bs : List UInt8} (n : Nat) (hn : n ≤ 100000) (h : RS w L R A c bs p many) : Calls Tryd.prog 58 #[.pointer (some ⟨L, 0, none⟩), .int .i64 n] w fun e w' => e = .returned (.int .i64 (peekS bs (p + n))) ∧ RS w' L R A c bs p many ∧ Fr L R w w' :=
  (cur_peekN n hn h.cur).mono fun e w' k => ⟨k.1, h.cur_to k.2⟩
end Go.Proofs.YtgomlebemefdcaaDoor

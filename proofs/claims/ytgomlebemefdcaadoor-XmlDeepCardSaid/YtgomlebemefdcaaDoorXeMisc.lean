/- The reader passes comments, instructions, what stands around the root. No condition. -/
import Derived.Test.YtgomlebemefdcaaDoorXeScan
set_option linter.unusedVariables false
namespace Go.Proofs.YtgomlebemefdcaaDoor
open Go Go.RowKit Go.Wk Go.Xt Go.Xe
def posOf (L : Nat) (w : World) : Nat := match w.cell? ⟨L, 1, none⟩ with
  | some (.int _ n) => n.toNat
  | _ => 0
theorem RS.pos {w : World} {L R c p many : Nat} {A : Option Addr} {bs : List UInt8} (h : RS w L R A c bs p many) : posOf L w = p := by
  unfold posOf; rw [h.cur.ca]; simp
/-- what is left: where the reader stands -/
structure Rest (bs : List UInt8) (p : Nat) (r : List UInt8) : Prop where
  eq : bs.drop p = r
  le : p ≤ bs.length
set_option maxHeartbeats 2000000 in
set_option maxRecDepth 100000 in
theorem xml_behind {w : World} {L R c p many : Nat} {A : Option Addr} {bs r r' : List UInt8} (S : ByteArray) (hs : 1 ≤ S.size) (hs2 : S.size ≤ 100000) (h : RS w L R A c bs p many) (hr : Rest bs p r) (hB : Behind S.data.toList r r') :
    Calls Tryd.prog 60 #[.pointer (some ⟨R, 0, none⟩), .string S] w fun e w' => e = .returned (.int .i64 0) ∧ (∃ q, RS w' L R A c bs q many ∧ Rest bs q r') ∧ Fr L R w w' := by
  have hsl : S.data.toList.length = S.size := Array.length_toList
  replace h := Lib.hid h
  replace hr := Lib.hid hr
  replace hB := Lib.hid hB
  replace hsl := Lib.hid hsl
  go_enter Tryd.func60, Tryd.ntmps60
  go_wp2
  go_loopw [4] (fun _ wr => ∃ q r1, Rest bs q r1 ∧ Behind S.data.toList r1 r' ∧ RS wr L R A c bs q many ∧ Fr L R w wr) (fun _ wr => bs.length + 1 - posOf L wr)
  case atStart => exact ⟨p, r, hr.out, hB.out, h.out, Fr.refl _ _ _⟩
  case round =>
    obtain ⟨q, r1, hq, hB1, hS, hF⟩ := hrel
    have c0 := hS.rdr.cell 0
    have cl := rs_left hS
    have hpos := Lib.hid hS.pos
    replace hF := Lib.hid hF
    clear h hr hB
    cases hB1 with
    | here =>
      have cm := rs_yes hS S r' hs hs2 hq.eq
      have hgt : (0 : Int) < (bs.length : Int) - (q : Int) := by
        have := drop_app hq.eq hq.le
        have := hsl.out
        omega
      have hq2 : Rest bs (q + S.size) r' := by
        have := drop_app hq.eq hq.le
        rw [hsl.out] at this
        exact ⟨this.1, this.2⟩
      replace hS := Lib.hid hS
      replace hq := Lib.hid hq
      replace hq2 := Lib.hid hq2
      generalize (bs.length : Int) - (q : Int) = X at *
      go_wp2_with (first
        | (go_at_call 37; (with_reducible refine cl.mono ?_); rintro e w1 ⟨rfl, rfl⟩)
        | (go_at_call 54; (with_reducible refine cm.mono ?_); rintro e w2 ⟨rfl, h2, f2⟩; replace f2 := Lib.hid f2; replace h2 := Lib.hid h2))
      go_ret
      exact ⟨rfl, ⟨_, h2.out, hq2.out⟩, hF.out.trans f2.out⟩
    | next x r2 _ hno hB2 =>
      have cm := rs_no hS S hs hs2 (by rw [hq.eq]; exact hno)
      obtain ⟨hd, hlt⟩ := drop_one hq.eq
      have hgt : (0 : Int) < (bs.length : Int) - (q : Int) := by omega
      have hq2 : Rest bs (q + 1) r2 := ⟨hd, hlt⟩
      replace hS := Lib.hid hS
      replace hq := Lib.hid hq
      replace hq2 := Lib.hid hq2
      replace hB2 := Lib.hid hB2
      replace hno := Lib.hid hno
      replace hd := Lib.hid hd
      generalize (bs.length : Int) - (q : Int) = X at *
      go_wp2_with (first
        | (go_at_call 37; (with_reducible refine cl.mono ?_); rintro e w1 ⟨rfl, rfl⟩)
        | (go_at_call 54; (with_reducible refine cm.mono ?_); rintro e w2 ⟨rfl, h2, f2⟩; have c2 := h2.rdr.cell 0; have cn := rs_next h2; rw [if_pos hlt] at cn; replace f2 := Lib.hid f2; replace h2 := Lib.hid h2)
        | (go_at_call 59; (with_reducible refine cn.mono ?_); rintro e w3 ⟨rfl, h3, f3⟩; replace f3 := Lib.hid f3; replace h3 := Lib.hid h3))
      go_roundw
      case rel => exact ⟨q + 1, r2, hq2.out, hB2.out, h3.out, (hF.out.trans f2.out).trans f3.out⟩
      case measure =>
        rw [h3.out.pos, hpos.out]; omega
def End (w : World) (L R : Nat) (A : Option Addr) (c : Nat) (bs : List UInt8) (many : Nat) (r : List UInt8) (w' : World) : Prop := (∃ q, RS w' L R A c bs q many ∧ Rest bs q r) ∧ Fr L R w w'
theorem Rest.app {bs s r : List UInt8} {p : Nat} (h : Rest bs p (s ++ r)) : Rest bs (p + s.length) r := by
  have := drop_app h.eq h.le
  exact ⟨this.1, this.2⟩
set_option maxHeartbeats 2000000 in
set_option maxRecDepth 100000 in
theorem xml_misc {w : World} {L R c p many : Nat} {A : Option Addr} {bs r r' : List UInt8} {more : Bool} (h : RS w L R A c bs p many) (hr : Rest bs p r) (hM : Misc r more r') :
    Calls Tryd.prog 50 #[.pointer (some ⟨R, 0, none⟩)] w fun e w' => e = .returned (.tuple #[.bool more, .int .i64 0]) ∧ End w L R A c bs many r' w' := by
  have c0 := h.rdr.cell 0
  cases hM with
  | com r0 _ hB =>
    have m1 : Calls Tryd.prog 54 #[.pointer (some ⟨L, 0, none⟩), .string ⟨#[60, 33, 45, 45]⟩] w fun e w' => e = .returned (.bool true) ∧ RS w' L R A c bs (p + 4) many ∧ Fr L R w w' := rs_yes h ⟨#[60, 33, 45, 45]⟩ r0 (by decide) (by decide) hr.eq
    have hr1 : Rest bs (p + 4) r0 := hr.app
    have m2 : ∀ w1, RS w1 L R A c bs (p + 4) many → Calls Tryd.prog 60 #[.pointer (some ⟨R, 0, none⟩), .string ⟨#[45, 45]⟩] w1 fun e w' => e = .returned (.int .i64 0) ∧ (∃ q, RS w' L R A c bs q many ∧ Rest bs q (62 :: r')) ∧ Fr L R w1 w' := fun w1 h1 => xml_behind ⟨#[45, 45]⟩ (by decide) (by decide) h1 hr1 hB
    have m3 : ∀ w2 q, RS w2 L R A c bs q many → Rest bs q (62 :: r') → Calls Tryd.prog 54 #[.pointer (some ⟨L, 0, none⟩), .string ⟨#[62]⟩] w2 fun e w' => e = .returned (.bool true) ∧ RS w' L R A c bs (q + 1) many ∧ Fr L R w2 w' := fun w2 q h2 hq => rs_yes h2 ⟨#[62]⟩ r' (by decide) (by decide) hq.eq
    have cps := fun (w : World) => xml_passed (w := w) true
    simp only [if_true] at cps
    replace m2 := Lib.hid m2
    replace m3 := Lib.hid m3
    clear hr h hr1 hB
    go_enter Tryd.func50, Tryd.ntmps50
    go_wp2_with (first
      | (go_at_call 54; (with_reducible refine m1.mono ?_); rintro e w1 ⟨rfl, h1, f1⟩; have k2 := m2.out w1 h1; replace f1 := Lib.hid f1; replace h1 := Lib.hid h1; clear m1)
      | (go_at_call 60; (with_reducible refine k2.mono ?_); rintro e w2 ⟨rfl, ⟨q, h2, hq⟩, f2⟩; have k3 := m3.out w2 q h2 hq; have c2 := h2.rdr.cell 0; replace f2 := Lib.hid f2; replace h2 := Lib.hid h2; replace hq := Lib.hid hq)
      | (go_at_call 54; (with_reducible refine k3.mono ?_); rintro e w3 ⟨rfl, h3, f3⟩; replace f3 := Lib.hid f3; replace h3 := Lib.hid h3)
      | (go_at_call 41; (with_reducible refine (cps _).mono ?_); rintro e w4 ⟨rfl, rfl⟩))
    go_ret2
    exact ⟨rfl, ⟨_, h3.out, hq.out.app (s := [62])⟩, (f1.out.trans f2.out).trans f3.out⟩
  | ins r0 _ hno hB =>
    have m1 : Calls Tryd.prog 54 #[.pointer (some ⟨L, 0, none⟩), .string ⟨#[60, 33, 45, 45]⟩] w fun e w' => e = .returned (.bool false) ∧ RS w' L R A c bs p many ∧ Fr L R w w' := rs_no h ⟨#[60, 33, 45, 45]⟩ (by decide) (by decide) (by rw [hr.eq]; exact hno)
    have m2 : ∀ w1, RS w1 L R A c bs p many → Calls Tryd.prog 54 #[.pointer (some ⟨L, 0, none⟩), .string ⟨#[60, 63]⟩] w1 fun e w' => e = .returned (.bool true) ∧ RS w' L R A c bs (p + 2) many ∧ Fr L R w1 w' := fun w1 h1 => rs_yes h1 ⟨#[60, 63]⟩ r0 (by decide) (by decide) hr.eq
    have hr1 : Rest bs (p + 2) r0 := hr.app
    have m3 : ∀ w1, RS w1 L R A c bs (p + 2) many → Calls Tryd.prog 60 #[.pointer (some ⟨R, 0, none⟩), .string ⟨#[63, 62]⟩] w1 fun e w' => e = .returned (.int .i64 0) ∧ (∃ q, RS w' L R A c bs q many ∧ Rest bs q r') ∧ Fr L R w1 w' := fun w1 h1 => xml_behind ⟨#[63, 62]⟩ (by decide) (by decide) h1 hr1 hB
    replace m2 := Lib.hid m2
    replace m3 := Lib.hid m3
    clear hr h hr1 hB hno
    go_enter Tryd.func50, Tryd.ntmps50
    go_wp2_with (first
      | (go_at_call 54; (with_reducible refine m1.mono ?_); rintro e w1 ⟨rfl, h1, f1⟩; have k2 := m2.out w1 h1; have c1 := h1.rdr.cell 0; replace f1 := Lib.hid f1; replace h1 := Lib.hid h1; clear m1)
      | (go_at_call 54; (with_reducible refine k2.mono ?_); rintro e w2 ⟨rfl, h2, f2⟩; have k3 := m3.out w2 h2; replace f2 := Lib.hid f2; replace h2 := Lib.hid h2)
      | (go_at_call 60; (with_reducible refine k3.mono ?_); rintro e w3 ⟨rfl, hq, f3⟩; replace f3 := Lib.hid f3; replace hq := Lib.hid hq))
    go_ret2
    exact ⟨rfl, hq.out, (f1.out.trans f2.out).trans f3.out⟩
  | no _ h1' h2' =>
    have m1 : Calls Tryd.prog 54 #[.pointer (some ⟨L, 0, none⟩), .string ⟨#[60, 33, 45, 45]⟩] w fun e w' => e = .returned (.bool false) ∧ RS w' L R A c bs p many ∧ Fr L R w w' := rs_no h ⟨#[60, 33, 45, 45]⟩ (by decide) (by decide) (by rw [hr.eq]; exact h1')
    have m2 : ∀ w1, RS w1 L R A c bs p many → Calls Tryd.prog 54 #[.pointer (some ⟨L, 0, none⟩), .string ⟨#[60, 63]⟩] w1 fun e w' => e = .returned (.bool false) ∧ RS w' L R A c bs p many ∧ Fr L R w1 w' := fun w1 h1 => rs_no h1 ⟨#[60, 63]⟩ (by decide) (by decide) (by rw [hr.eq]; exact h2')
    replace m2 := Lib.hid m2
    replace hr := Lib.hid hr
    clear h h1' h2'
    go_enter Tryd.func50, Tryd.ntmps50
    go_wp2_with (first
      | (go_at_call 54; (with_reducible refine m1.mono ?_); rintro e w1 ⟨rfl, h1, f1⟩; have k2 := m2.out w1 h1; have c1 := h1.rdr.cell 0; replace f1 := Lib.hid f1; replace h1 := Lib.hid h1; clear m1)
      | (go_at_call 54; (with_reducible refine k2.mono ?_); rintro e w2 ⟨rfl, h2, f2⟩; replace f2 := Lib.hid f2; replace h2 := Lib.hid h2))
    go_ret2
    exact ⟨rfl, ⟨_, h2.out, hr.out⟩, f1.out.trans f2.out⟩
end Go.Proofs.YtgomlebemefdcaaDoor

/- The reader reads a name. No condition. -/
import Derived.Test.YtgomlebemefdcaaDoorXeName
set_option linter.unusedVariables false
namespace Go.Proofs.YtgomlebemefdcaaDoor
open Go Go.RowKit Go.Wk Go.Xt Go.Xe
theorem tw_at (f : UInt8 → Bool) : ∀ (r : List UInt8) (k : Nat), k < (r.takeWhile f).length → ∃ x r', r.drop k = x :: r' ∧ f x = true := by
  intro r
  induction r with
  | nil => intro k h; simp at h
  | cons x r ih =>
    intro k h
    rw [List.takeWhile_cons] at h
    cases hx : f x with
    | false => rw [hx] at h; simp at h
    | true =>
      rw [hx] at h
      cases k with
      | zero => exact ⟨x, r, rfl, hx⟩
      | succ k => exact ih k (by simp at h; omega)
theorem tw_end (f : UInt8 → Bool) : ∀ r : List UInt8, r.drop (r.takeWhile f).length = [] ∨ ∃ x r', r.drop (r.takeWhile f).length = x :: r' ∧ f x = false := by
  intro r
  induction r with
  | nil => left; simp
  | cons x r ih =>
    rw [List.takeWhile_cons]
    cases hx : f x with
    | false => right; exact ⟨x, r, by simp, hx⟩
    | true => simpa using ih
theorem name_tw {r nm : List UInt8} (h : nameS r = nm) (hne : nm ≠ []) : nm = r.takeWhile goesB ∧ ∃ x r', r = x :: r' ∧ beginsB x = true := by
  unfold nameS at h
  cases r with
  | nil => exact absurd h.symm hne
  | cons x r =>
    simp only at h
    cases hb : beginsB x with
    | false => rw [hb] at h; exact absurd h.symm (by simpa using hne)
    | true => rw [hb] at h; exact ⟨by simpa using h.symm, x, r, rfl, hb⟩
set_option maxHeartbeats 2000000 in
set_option maxRecDepth 100000 in
theorem xml_one {w : World} {L R c p many : Nat} {A : Option Addr} {bs r nm : List UInt8} (h : RS w L R A c bs p many) (hr : Rest bs p r) (hn : nameS r = nm) (hne : nm ≠ []) :
    Calls Tryd.prog 64 #[.pointer (some ⟨R, 0, none⟩)] w fun e w' => e = .returned (.tuple #[str nm, .int .i64 0]) ∧ End w L R A c bs many (r.drop nm.length) w' := by
  obtain ⟨htw, x0, rr, hx0, hb0⟩ := name_tw hn hne
  have hpos : 0 < nm.length := List.length_pos_iff.2 hne
  have hpre : nm <+: r := by rw [htw]; exact List.takeWhile_prefix _
  have hlen := hr.len
  have hle := hpre.length_le
  have hsm := h.cur.small
  have hat : Hid (∀ k, k < nm.length → ∃ x r', bs.drop (p + k) = x :: r' ∧ goesB x = true) := Lib.hid fun k hk => by
    obtain ⟨x, r', h1, h2⟩ := tw_at goesB r k (by rw [← htw]; exact hk)
    exact ⟨x, r', by rw [← List.drop_drop, hr.eq]; exact h1, h2⟩
  have hend : Hid (goesI (peekS bs (p + nm.length)) = false) := Lib.hid (by
    have := tw_end goesB r
    rw [← htw] at this
    rcases this with h0 | ⟨x, r', h1, h2⟩
    · rw [peek_nil (by rw [← List.drop_drop, hr.eq]; exact h0)]; decide
    · rw [peek_cons (by rw [← List.drop_drop, hr.eq]; exact h1), goes_u8, h2])
  have hrest : Hid (Rest bs (p + nm.length) (r.drop nm.length)) := Lib.hid ⟨by rw [← List.drop_drop, hr.eq], by omega⟩
  have htake : Hid (takeS bs p nm.length = nm ∧ takeB bs p nm.length = true) := Lib.hid (by
    have hok : p + nm.length ≤ bs.length := by omega
    unfold takeS takeB
    rw [if_pos hok, hr.eq]
    exact ⟨(List.prefix_iff_eq_take.1 hpre).symm, by simp [hok]⟩)
  have hp0 : bs.drop p = x0 :: rr := by rw [hr.eq, hx0]
  have cp0 := rs_peek h
  rw [peek_cons hp0] at cp0
  have cb := fun (w : World) => xml_begins (w := w) (x0.toNat : Int)
  rw [begins_u8, hb0] at cb
  generalize (x0.toNat : Int) = X0 at *
  have c0 := h.rdr.cell 0
  obtain ⟨n, hnn⟩ : ∃ n, n = nm.length := ⟨_, rfl⟩
  rw [← hnn] at hat hend hrest htake hpos hle
  replace hnn := Lib.hid hnn
  replace h := Lib.hid h
  have hn5 : n ≤ 100000 := by omega
  replace hlen := Lib.hid hlen
  replace hle := Lib.hid hle
  clear hp0 hx0 hpre htw hn hb0
  have cps : ∀ w : World, Calls Tryd.prog 41 #[.bool true] w fun e w' => e = .returned (.int .i64 0) ∧ w' = w := fun w => (xml_passed (w := w) true).mono fun e w' k => ⟨k.1, k.2.symm⟩
  go_enter Tryd.func64, Tryd.ntmps64
  go_wp2_with (first
    | (go_at_call 58; (with_reducible refine cp0.mono ?_); rintro e w1 ⟨rfl, h1, f1⟩; replace f1 := Lib.hid f1; replace h1 := Lib.hid h1)
    | (go_at_call 73; (with_reducible refine (cb _).mono ?_); rintro e w2 ⟨rfl, rfl⟩))
  clear cp0 cb c0
  go_loopw [4] (fun s wr => ∃ k : Nat, k ≤ n ∧ s = .int .i64 k ∧ RS wr L R A c bs p many ∧ Fr L R w wr) (fun s _ => n + 1 - (RowKit.intOf s).toNat)
  case atStart => exact ⟨0, Nat.zero_le _, rfl, h1.out, f1.out⟩
  case round =>
    obtain ⟨k, hk, rfl, hS, hF⟩ := hrel
    have c0 := hS.rdr.cell 0
    have cp := rs_peekN k (by omega) hS
    by_cases hlt : k < n
    · obtain ⟨x, r', hx, hg⟩ := hat.out k hlt
      rw [peek_cons hx] at cp
      have cg := fun (w : World) => xml_goes (w := w) (x.toNat : Int)
      rw [goes_u8, hg] at cg
      generalize (x.toNat : Int) = X at *
      replace hF := Lib.hid hF
      replace hS := Lib.hid hS
      clear hx hg
      go_wp2_with (first
        | (go_at_call 58; (with_reducible refine cp.mono ?_); rintro e w2 ⟨rfl, h2, f2⟩; replace f2 := Lib.hid f2; replace h2 := Lib.hid h2)
        | (go_at_call 74; (with_reducible refine (cg _).mono ?_); rintro e w3 ⟨rfl, rfl⟩))
      go_roundw
      case rel => exact ⟨k + 1, by omega, by go_num, h2.out, hF.out.trans f2.out⟩
      case measure => simp [RowKit.intOf]; omega
    · obtain rfl : k = n := by omega
      have cg := fun (w : World) => xml_goes (w := w) (peekS bs (p + k))
      rw [hend.out] at cg
      generalize peekS bs (p + k) = X at *
      replace hF := Lib.hid hF
      replace hS := Lib.hid hS
      go_wp2_with (first
        | (go_at_call 58; (with_reducible refine cp.mono ?_); rintro e w2 ⟨rfl, h2, f2⟩; have c2 := h2.rdr.cell 0; have ct := cur_take k h2.cur h2.cap hpos hn5; replace f2 := Lib.hid f2; replace h2 := Lib.hid h2)
        | (go_at_call 74; (with_reducible refine (cg _).mono ?_); rintro e w3 ⟨rfl, rfl⟩)
        | (go_at_call 26; (with_reducible refine ct.mono ?_); rintro e w4 ⟨A4, c4, rfl, hby, hc4⟩; rw [htake.out.1, htake.out.2] at *; have hcv := fun n => conv_byt (c := c4) (hby.below (below_drawn w4 n)); have e4 := h2.out.cur_to hc4; simp only [if_true] at e4; replace e4 := Lib.hid e4; replace hby := Lib.hid hby; clear hc4))
      go_quiet ((go_at_call 41; exact Calls.quiet_of_same (cps _)))
      go_wp2
      go_ret2
      have hz := hrest.out
      have e5 := e4.out.1.below (below_drawn w4 nq)
      rw [hnn.out] at hz e5
      exact ⟨rfl, ⟨_, e5, hz⟩, ((hF.out.trans f2.out).trans e4.out.2).trans (Fr.of_below (below_drawn w4 nq))⟩
end Go.Proofs.YtgomlebemefdcaaDoor

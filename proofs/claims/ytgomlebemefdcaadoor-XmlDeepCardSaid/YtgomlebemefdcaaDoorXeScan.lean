/- The reader passes white signs, and what stands behind a text. No condition. -/
import Derived.Test.YtgomlebemefdcaaDoorXeRd
set_option linter.unusedVariables false
namespace Go.Proofs.YtgomlebemefdcaaDoor
open Go Go.RowKit Go.Wk Go.Xt Go.Xe
section
variable {w : World} {L R c p many : Nat} {A : Option Addr} {bs : List UInt8}
theorem peek_cons {x : UInt8} {r : List UInt8} (h : bs.drop p = x :: r) : peekS bs p = (x.toNat : Int) := by
  unfold peekS
  have : bs[p]? = some x := by have := congrArg List.head? h; simpa [List.head?_drop] using this
  rw [this]
theorem peek_nil (h : bs.drop p = []) : peekS bs p = -1 := by
  unfold peekS
  have : bs[p]? = none := by have := congrArg List.head? h; simpa [List.head?_drop] using this
  rw [this]
theorem drop_one {x : UInt8} {r : List UInt8} (h : bs.drop p = x :: r) : bs.drop (p + 1) = r ∧ p < bs.length := by
  refine ⟨by rw [← List.tail_drop, h]; rfl, ?_⟩
  rcases Nat.lt_or_ge p bs.length with h1 | h1
  · exact h1
  · rw [List.drop_eq_nil_of_le h1] at h; cases h
theorem drop_app {s r : List UInt8} (h : bs.drop p = s ++ r) (hp : p ≤ bs.length) : bs.drop (p + s.length) = r ∧ p + s.length ≤ bs.length := by
  refine ⟨by rw [← List.drop_drop, h, List.drop_left], ?_⟩
  have := congrArg List.length h
  simp at this; omega
theorem stands_pre {s : List UInt8} (hs : s ≠ []) : stands bs p s = decide (s <+: bs.drop p) := by
  rw [Bool.eq_iff_iff]
  unfold stands
  simp only [Bool.and_eq_true, decide_eq_true_eq, beq_iff_eq]
  constructor
  · rintro ⟨h1, h2⟩; exact ⟨_, by rw [← h2]; exact List.take_append_drop _ _⟩
  · rintro ⟨r, hr⟩
    refine ⟨?_, by rw [← hr]; simp⟩
    have h3 := congrArg List.length hr
    have : 0 < s.length := List.length_pos_iff.2 hs
    simp at h3; omega
theorem rs_peek (h : RS w L R A c bs p many) : Calls Tryd.prog 58 #[.pointer (some ⟨L, 0, none⟩), .int .i64 0] w fun e w' => e = .returned (.int .i64 (peekS bs p)) ∧ RS w' L R A c bs p many ∧ Fr L R w w' :=
  (cur_peek h.cur).mono fun e w' k => ⟨k.1, h.cur_to k.2⟩
theorem rs_next (h : RS w L R A c bs p many) : Calls Tryd.prog 59 #[.pointer (some ⟨L, 0, none⟩)] w fun e w' => e = .returned (.int .i64 (peekS bs p)) ∧ RS w' L R A c bs (if p < bs.length then p + 1 else p) many ∧ Fr L R w w' :=
  (cur_next h.cur).mono fun e w' k => ⟨k.1, h.cur_to k.2⟩
theorem rs_left (h : RS w L R A c bs p many) : Calls Tryd.prog 37 #[.pointer (some ⟨L, 0, none⟩)] w fun e w' => e = .returned (.int .i64 ((bs.length : Int) - p)) ∧ w = w' :=
  (cur_left h.cur).mono fun e w' k => ⟨k.1, k.2.symm⟩
theorem rs_match (h : RS w L R A c bs p many) (s : ByteArray) (hs : 1 ≤ s.size) (hs2 : s.size ≤ 100000) :
    Calls Tryd.prog 54 #[.pointer (some ⟨L, 0, none⟩), .string s] w fun e w' => e = .returned (.bool (decide (s.data.toList <+: bs.drop p))) ∧ RS w' L R A c bs (if s.data.toList <+: bs.drop p then p + s.size else p) many ∧ Fr L R w w' := by
  have hne : s.data.toList ≠ [] := by
    intro e
    have : s.data.toList.length = s.size := Array.length_toList
    rw [e] at this; simp at this; omega
  refine (cur_match s h.cur h.cap hs hs2).mono ?_
  rintro e w' ⟨rfl, k⟩
  have e1 := stands_pre (bs := bs) (p := p) hne
  rw [e1] at k ⊢
  have := h.cur_to k
  simp only [decide_eq_true_eq] at this
  exact ⟨rfl, this⟩
theorem rs_yes (h : RS w L R A c bs p many) (s : ByteArray) (r : List UInt8) (hs : 1 ≤ s.size) (hs2 : s.size ≤ 100000) (hr : bs.drop p = s.data.toList ++ r) :
    Calls Tryd.prog 54 #[.pointer (some ⟨L, 0, none⟩), .string s] w fun e w' => e = .returned (.bool true) ∧ RS w' L R A c bs (p + s.size) many ∧ Fr L R w w' := by
  have hp : s.data.toList <+: bs.drop p := ⟨r, hr.symm⟩
  have := rs_match h s hs hs2
  rw [if_pos hp, decide_eq_true hp] at this
  exact this
theorem rs_no (h : RS w L R A c bs p many) (s : ByteArray) (hs : 1 ≤ s.size) (hs2 : s.size ≤ 100000) (hr : ¬ s.data.toList <+: bs.drop p) :
    Calls Tryd.prog 54 #[.pointer (some ⟨L, 0, none⟩), .string s] w fun e w' => e = .returned (.bool false) ∧ RS w' L R A c bs p many ∧ Fr L R w w' := by
  have := rs_match h s hs hs2
  rw [if_neg hr, decide_eq_false hr] at this
  exact this
end
theorem ws_cons (x : UInt8) (r : List UInt8) : ws (x :: r) = if whiteB x then ws r + 1 else 0 := by
  unfold ws
  rw [List.takeWhile_cons]
  cases whiteB x <;> simp
theorem ws_le (r : List UInt8) : ws r ≤ r.length := by unfold ws; exact (List.takeWhile_prefix _).length_le
theorem ws_at : ∀ (r : List UInt8) (k : Nat), k < ws r → ∃ x r', r.drop k = x :: r' ∧ whiteB x = true := by
  intro r
  induction r with
  | nil => intro k h; simp [ws] at h
  | cons x r ih =>
    intro k h
    rw [ws_cons] at h
    cases hx : whiteB x with
    | false => rw [hx] at h; simp at h
    | true =>
      rw [hx] at h
      cases k with
      | zero => exact ⟨x, r, rfl, hx⟩
      | succ k => exact ih k (by simp at h; omega)
theorem ws_end : ∀ r : List UInt8, r.drop (ws r) = [] ∨ ∃ x r', r.drop (ws r) = x :: r' ∧ whiteB x = false := by
  intro r
  induction r with
  | nil => left; simp
  | cons x r ih =>
    rw [ws_cons]
    cases hx : whiteB x with
    | false => right; exact ⟨x, r, by simp, hx⟩
    | true => simpa using ih
set_option maxHeartbeats 2000000 in
set_option maxRecDepth 100000 in
theorem xml_blank {w : World} {L R c p many : Nat} {A : Option Addr} {bs r : List UInt8} (h : RS w L R A c bs p many) (hr : bs.drop p = r) :
    Calls Tryd.prog 49 #[.pointer (some ⟨R, 0, none⟩)] w fun e w' => e = .returned (.int .i64 (ws r : Nat)) ∧ RS w' L R A c bs (p + ws r) many ∧ Fr L R w w' := by
  have hle := ws_le r
  have hpl := h.cur.le
  have hsm := h.cur.small
  have hrl : r.length = bs.length - p := by rw [← hr]; simp
  have hat := Lib.hid (fun k (hk : k < ws r) => ws_at r k hk)
  have hend := Lib.hid (ws_end r)
  have hdk : Hid (∀ k, bs.drop (p + k) = r.drop k) := Lib.hid fun k => by rw [← hr, List.drop_drop]
  generalize hn : ws r = n at *
  replace hn := Lib.hid hn
  have hn2 : n ≤ 100000 := by omega
  have hpn : p + n ≤ bs.length := by omega
  replace h := Lib.hid h
  replace hr := Lib.hid hr
  clear hle hrl
  go_enter Tryd.func49, Tryd.ntmps49
  go_wp2
  go_loopw [3] (fun s wr => ∃ k : Nat, k ≤ n ∧ s = .int .i64 k ∧ RS wr L R A c bs (p + k) many ∧ Fr L R w wr) (fun s _ => n + 1 - (RowKit.intOf s).toNat)
  case atStart => exact ⟨0, Nat.zero_le _, rfl, h.out, Fr.refl _ _ _⟩
  case round =>
    obtain ⟨k, hk, rfl, hS, hF⟩ := hrel
    have c0 := hS.rdr.cell 0
    have cp := rs_peek hS
    by_cases hlt : k < n
    · obtain ⟨x, r', hx, hw⟩ := hat.out k hlt
      have hx2 : bs.drop (p + k) = x :: r' := (hdk.out k).trans hx
      rw [peek_cons hx2] at cp
      have cw := fun (w : World) => Proofs.YtgomlebemefdcaaDoor.xml_white (w := w) (x.toNat : Int)
      rw [white_u8, hw] at cw
      have hlt2 := (drop_one hx2).2
      generalize (x.toNat : Int) = X at *
      replace hF := Lib.hid hF
      replace hS := Lib.hid hS
      clear hx hw hx2
      go_wp2_with (first
        | (go_at_call 58; (with_reducible refine cp.mono ?_); rintro e w1 ⟨rfl, h1, f1⟩; have c1 := h1.rdr.cell 0; have cn := rs_next h1; rw [if_pos hlt2] at cn; replace f1 := Lib.hid f1; replace h1 := Lib.hid h1)
        | (go_at_call 57; (with_reducible refine (cw _).mono ?_); rintro e w2 ⟨rfl, rfl⟩)
        | (go_at_call 59; (with_reducible refine cn.mono ?_); rintro e w3 ⟨rfl, h3, f3⟩; replace f3 := Lib.hid f3; replace h3 := Lib.hid h3))
      go_roundw
      case rel => exact ⟨k + 1, by omega, by go_num, h3.out, (hF.out.trans f1.out).trans f3.out⟩
      case measure => simp [RowKit.intOf]; omega
    · obtain rfl : k = n := by omega
      have hz : whiteI (peekS bs (p + k)) = false := by
        rcases hend.out with h0 | ⟨x, r', hx, hw⟩
        · rw [peek_nil ((hdk.out k).trans h0)]; decide
        · rw [peek_cons ((hdk.out k).trans hx), white_u8, hw]
      have cw := fun (w : World) => Proofs.YtgomlebemefdcaaDoor.xml_white (w := w) (peekS bs (p + k))
      rw [hz] at cw
      generalize peekS bs (p + k) = X at *
      replace hF := Lib.hid hF
      replace hS := Lib.hid hS
      clear hz
      go_wp2_with (first
        | (go_at_call 58; (with_reducible refine cp.mono ?_); rintro e w1 ⟨rfl, h1, f1⟩; replace f1 := Lib.hid f1; replace h1 := Lib.hid h1)
        | (go_at_call 57; (with_reducible refine (cw _).mono ?_); rintro e w2 ⟨rfl, rfl⟩))
      go_ret
      exact ⟨rfl, h1.out, hF.out.trans f1.out⟩
end Go.Proofs.YtgomlebemefdcaaDoor

/- Walks and laws, joined: part F. No condition. -/
import Derived.Test.YtkpikpaepgknnaaGreatDoorXkJE
import Derived.Test.YtkpikpaepgknnaaGreatDoorXkJC
import Derived.Shelf.Spec.SlicesInsertGrow
import Derived.Laws.CopyRow
set_option linter.unusedSimpArgs false
set_option linter.unusedVariables false
/- Where a property stands in a row. No condition. -/
namespace Go.Xw
open Go Go.Wk Go.RowKit
/-- a property with the place of its entries, and their room -/
abbrev PA := Pr × (Option Addr × Nat)
def prs (x : PA) : List Value := [.string x.1.sp, .string x.1.nm, .int .i64 x.1.kd, .slice x.2.1 x.1.it.length x.2.2]
def flatP (l : List PA) : List Value := l.flatMap prs
theorem flat_len (l : List PA) : (flatP l).length = l.length * 4 := by
  induction l with
  | nil => rfl
  | cons x l ih => unfold flatP at *; rw [List.flatMap_cons, List.length_append, ih, List.length_cons]; show 4 + _ = _; omega
theorem flat_at : ∀ (l : List PA) (i j : Nat) (hi : i < l.length), j < 4 → (flatP l)[i * 4 + j]? = (prs l[i])[j]?
  | [], i, j, h, _ => by simp at h
  | x :: l, 0, j, _, hj => by
    unfold flatP
    rw [List.flatMap_cons, List.getElem?_append_left (by show 0 * 4 + j < 4; omega)]
    simp
  | x :: l, i + 1, j, hi, hj => by
    unfold flatP
    rw [List.flatMap_cons, List.getElem?_append_right (by show 4 ≤ _; omega)]
    have := flat_at l i j (by simpa using hi) hj
    unfold flatP at this
    rw [show (i + 1) * 4 + j - (prs x).length = i * 4 + j by show (i + 1) * 4 + j - 4 = _; omega, this]
    simp
def pl (l : List PA) : List Pr := l.map (·.1)
theorem pl_len (l : List PA) : (pl l).length = l.length := List.length_map _
theorem pl_at {l : List PA} {i : Nat} (h : i < l.length) : (pl l)[i]'(by rw [pl_len]; exact h) = l[i].1 := List.getElem_map _
/-- a row's cells -/
def CellsP (w : World) (g : Nat) (l : List PA) : Prop := ∀ i (h : i < l.length), w.cell? ⟨g, i * 4, none⟩ = some (.string l[i].1.sp) ∧ w.cell? ⟨g, i * 4 + 1, none⟩ = some (.string l[i].1.nm) ∧ w.cell? ⟨g, i * 4 + 2, none⟩ = some (.int .i64 l[i].1.kd) ∧ w.cell? ⟨g, i * 4 + 3, none⟩ = some (.slice l[i].2.1 l[i].1.it.length l[i].2.2)
theorem CellsP.below {w w' : World} {g : Nat} {l : List PA} (h : CellsP w g l) (hb : Below w.heap.size w w') : CellsP w' g l := fun i hi => by
  obtain ⟨a, b, c, d⟩ := h i hi
  exact ⟨(hb.cell (cell_lt a)).trans a, (hb.cell (cell_lt b)).trans b, (hb.cell (cell_lt c)).trans c, (hb.cell (cell_lt d)).trans d⟩
theorem eight_kept {a b : World} {p0 p1 p2 p3 p4 p5 p6 p7 : Addr} {v0 v1 v2 v3 v4 v5 v6 v7 : Value} (hB : Below a.heap.size a b)
    (h : a.cell? p0 = some v0 ∧ a.cell? p1 = some v1 ∧ a.cell? p2 = some v2 ∧ a.cell? p3 = some v3 ∧ a.cell? p4 = some v4 ∧ a.cell? p5 = some v5 ∧ a.cell? p6 = some v6 ∧ a.cell? p7 = some v7) :
    b.cell? p0 = some v0 ∧ b.cell? p1 = some v1 ∧ b.cell? p2 = some v2 ∧ b.cell? p3 = some v3 ∧ b.cell? p4 = some v4 ∧ b.cell? p5 = some v5 ∧ b.cell? p6 = some v6 ∧ b.cell? p7 = some v7 := by
  obtain ⟨h0, h1, h2, h3, h4, h5, h6, h7⟩ := h
  exact ⟨(hB.cell (cell_lt h0)).trans h0, (hB.cell (cell_lt h1)).trans h1, (hB.cell (cell_lt h2)).trans h2, (hB.cell (cell_lt h3)).trans h3, (hB.cell (cell_lt h4)).trans h4, (hB.cell (cell_lt h5)).trans h5, (hB.cell (cell_lt h6)).trans h6, (hB.cell (cell_lt h7)).trans h7⟩
end Go.Xw
namespace Go.Proofs.YtkpikpaepgknnaaGreatDoor
open Go Go.RowKit Go.Wk Go.Xt Go.Xe Go.Xw
attribute [local go_sem ↓] Go.wp_at_zero Go.wp_at_succ
def GXB5 (g n cap bx k : Nat) (ax ap : Array Value) : Nat → Value → World → Prop := fun j v _ => match j with
  | 0 => v = .func (.func 58) #[] #[]
  | 1 => v = .slice (some ⟨g, 0, none⟩) n cap
  | 2 => v = .int .i64 (k : Nat)
  | 3 => v = .pointer (some ⟨g, k * 4, none⟩)
  | 4 => v = .agg ax
  | _ => v = .agg ap
theorem GXB5_mono {g n cap bx k : Nat} {ax ap : Array Value} (j : Nat) (v : Value) (w w' : World) (hG : GXB5 g n cap bx k ax ap j v w) (hk : Below w.heap.size w w') : GXB5 g n cap bx k ax ap j v w' := by
  unfold GXB5 at hG ⊢; exact hG
def GXB8 (g n cap k : Nat) (ax ap : Array Value) (r : Int) (Z : Bool) : Nat → Value → World → Prop := fun j v _ => match j with
  | 0 => v = .int .i64 (k : Nat)
  | 1 => v = .int .i64 (k : Nat)
  | 2 => v = .int .i64 (n : Nat)
  | 3 => v = .bool true
  | 4 => v = .bool true
  | 5 => v = .func (.func 58) #[] #[]
  | 6 => v = .slice (some ⟨g, 0, none⟩) n cap
  | 7 => v = .int .i64 (k : Nat)
  | 8 => v = .pointer (some ⟨g, k * 4, none⟩)
  | 9 => v = .agg ax
  | 10 => v = .agg ap
  | 11 => v = .int .i64 r
  | 14 => v = .int .i64 (k : Nat)
  | _ => v = .bool Z
theorem GXB8_mono {g n cap k : Nat} {ax ap : Array Value} {r : Int} {Z : Bool} (j : Nat) (v : Value) (w w' : World) (hG : GXB8 g n cap k ax ap r Z j v w) (hk : Below w.heap.size w w') : GXB8 g n cap k ax ap r Z j v w' := by
  unfold GXB8 at hG ⊢; exact hG
def GXB9 (n : Nat) : Nat → Value → World → Prop := fun j v _ => match j with
  | 0 => v = .int .i64 (n : Nat)
  | 1 => v = .int .i64 (n : Nat)
  | 2 => v = .int .i64 (n : Nat)
  | 3 => v = .bool false
  | 4 => v = .bool false
  | 13 => v = .bool false
  | 14 => v = .int .i64 (n : Nat)
  | _ => True
theorem GXB9_mono {n : Nat} (j : Nat) (v : Value) (w w' : World) (hG : GXB9 n j v w) (hk : Below w.heap.size w w') : GXB9 n j v w' := by
  unfold GXB9 at hG ⊢; exact hG
set_option maxHeartbeats 8000000 in
set_option maxRecDepth 100000 in
theorem xmp_search {w : World} (A : Option Addr) (g cap : Nat) (l : List PA) (hA : 0 < l.length → A = some ⟨g, 0, none⟩) (hn : l.length ≤ 20) (hcp : l.length ≤ cap) (hc : CellsP w g l) (p : Pr) (C : Option Addr) (m d : Nat) (hs : Sorted (pl l)) :
    Calls Tryz.prog 57 #[.slice A l.length cap, prV p (.slice C m d), .func (.func 58) #[] #[]] w fun e w' => e = .returned (.tuple #[.int .i64 (posP p (pl l) : Nat), .bool (hasP p (pl l))]) ∧ Below w.heap.size w w' := by
  obtain ⟨W1, hW1⟩ : ∃ W, W = w.alloc (.cells #[.string p.sp, .string p.nm, .int .i64 p.kd, .slice C m d] 38) := ⟨_, rfl⟩
  have hb1 : Below w.heap.size w W1 := by rw [hW1]; exact (Below.refl _ _).alloc (Nat.le_refl _) _
  have hR : Blk W1 w.heap.size 38 #[.string p.sp, .string p.nm, .int .i64 p.kd, .slice C m d] := by rw [hW1]; exact Blk.new w 38 _
  obtain ⟨n, hnn⟩ : ∃ n, n = l.length := ⟨_, rfl⟩
  obtain ⟨P, hP⟩ : ∃ P, P = posP p (pl l) := ⟨_, rfl⟩
  obtain ⟨Z, hZ⟩ : ∃ Z, Z = hasP p (pl l) := ⟨_, rfl⟩
  have hl : (pl l).length = n := by rw [pl_len]; exact hnn.symm
  have hPn : P ≤ n := by rw [hP, ← hl]; exact pos_le _ _
  have hZ2 := has_at (p := p) hs
  have mid1 : ∀ k (hk : k < l.length), ltP l[k].1 p = true → k < P := fun k hk h => by
    rcases Nat.lt_or_ge k P with h1 | h1
    · exact h1
    · have := pos_ge hs (i := k) (by rw [← hP]; exact h1) (by rw [pl_len]; exact hk)
      rw [pl_at hk, h] at this; cases this
  have mid2 : ∀ k (hk : k < l.length), ltP l[k].1 p = false → P ≤ k := fun k hk h => by
    rcases Nat.lt_or_ge k P with h1 | h1
    · obtain ⟨h2, h3⟩ := pos_lt (p := p) (l := pl l) k (by rw [← hP]; exact h1)
      rw [pl_at hk, h] at h3; cases h3
    · exact h1
  have hZ3 : ∀ hk : P < l.length, eqP l[P].1 p = Z := fun hk => by
    rw [hZ, Bool.eq_iff_iff, hZ2]
    constructor
    · intro h; exact ⟨by rw [← hP, pl_len]; exact hk, by simp only [← hP]; rw [pl_at hk]; exact h⟩
    · rintro ⟨h, h3⟩; simp only [← hP] at h3; rw [pl_at hk] at h3; exact h3
  have hZ4 : P = n → Z = false := fun h => by
    cases h5 : Z with
    | false => rfl
    | true => rw [hZ] at h5; obtain ⟨h6, _⟩ := hZ2.1 h5; rw [← hP, hl] at h6; omega
  rw [← hnn, ← hP, ← hZ]
  rw [← hnn] at hn hcp hA
  have hc1 := hc.below hb1
  unfold prV
  replace hb1 := Lib.hid hb1
  replace hR := Lib.hid hR
  replace hc1 := Lib.hid hc1
  replace hnn := Lib.hid hnn
  replace mid1 := Lib.hid mid1
  replace mid2 := Lib.hid mid2
  replace hZ3 := Lib.hid hZ3
  replace hZ4 := Lib.hid hZ4
  replace hA := Lib.hid hA
  replace hPn := Lib.hid hPn
  clear hs hc hP hZ hZ2 hl
  go_enter Tryz.func57, Tryz.ntmps57
  go_upto_region 1 with (fail)
  rw [← hW1]
  replace hW1 := Lib.hid hW1
  go_wp2
  go_loopw [9, 10] (fun s9 s10 wr => ∃ lo hi : Nat, s9 = .int .i64 lo ∧ s10 = .int .i64 hi ∧ lo ≤ P ∧ P ≤ hi ∧ hi ≤ n ∧ Blk wr w.heap.size 38 #[.string p.sp, .string p.nm, .int .i64 p.kd, .slice C m d] ∧ CellsP wr g l ∧ Below w.heap.size w wr) (fun s9 s10 _ => (RowKit.intOf s10).toNat - (RowKit.intOf s9).toNat)
  case atStart => exact ⟨0, n, rfl, rfl, Nat.zero_le _, hPn.out, Nat.le_refl _, hR.out, hc1.out, hb1.out⟩
  case round =>
    obtain ⟨lo, hi, rfl, rfl, h1, h2, h3, hRr, hcr, hBr⟩ := hrel
    obtain ⟨q0, q1, q2, q3⟩ := blk4 hRr
    by_cases hlt : lo < hi
    · obtain ⟨k, hk⟩ : ∃ k, k = (lo + hi) / 2 := ⟨_, rfl⟩
      have hkl : k < l.length := by rw [← hnn.out]; omega
      have hA := hA.out (by omega)
      subst hA
      obtain ⟨x0, x1, x2, x3⟩ := hcr k hkl
      have co := fun W => xmp_order (w := W) l[k].1 p l[k].2.1 C l[k].1.it.length l[k].2.2 m d
      have m1 := mid1.out k hkl
      have m2 := mid2.out k hkl
      have on := ord_neg (p := l[k].1) (q := p)
      generalize l[k] = x at x0 x1 x2 x3 co m1 m2 on
      unfold prV at co
      generalize ordI x.1 p = r at co on
      have hmid : ((lo : Int) + (hi : Int)) / 2 = (k : Int) := by omega
      have hkk : lo ≤ k ∧ k < hi := by omega
      have hkn : (k : Int) < (n : Int) := by omega
      replace hRr := Lib.hid hRr
      replace hcr := Lib.hid hcr
      replace hBr := Lib.hid hBr
      replace hk := Lib.hid hk
      have kp := fun W (hW : Below wr.heap.size wr W) => And.intro ((hW.cell (cell_lt x0)).trans x0) (And.intro ((hW.cell (cell_lt x1)).trans x1) (And.intro ((hW.cell (cell_lt x2)).trans x2) (And.intro ((hW.cell (cell_lt x3)).trans x3) (And.intro ((hW.cell (cell_lt q0)).trans q0) (And.intro ((hW.cell (cell_lt q1)).trans q1) (And.intro ((hW.cell (cell_lt q2)).trans q2) ((hW.cell (cell_lt q3)).trans q3)))))))
      replace kp := Lib.hid kp
      replace m1 := Lib.hid m1
      replace m2 := Lib.hid m2
      replace on := Lib.hid on
      replace co := Lib.hid co
      clear x0 x1 x2 x3 q0 q1 q2 q3
      go_upto_region 5 with (fail)
      refine wp_lin_tail (by kernel_rfl) [none, none, none, none, none, none, none, none, none, none, none, none, none, none, none, none, none, none, none, none, none, none, none, none, some 0, some 1, some 2, some 3, some 4, some 5, none, none, none, none, none, none, none, none, none, none, none, none, none, none, none, none, none, none, none] (fun w' => Below wr.heap.size wr w') (fun w' w'' => Below w'.heap.size w' w'') (GXB5 g n cap w.heap.size k #[.string x.1.sp, .string x.1.nm, .int .i64 x.1.kd, .slice x.2.1 x.1.it.length x.2.2] #[.string p.sp, .string p.nm, .int .i64 p.kd, .slice C m d]) (by rfl) (by kernel_rfl) 6 _ rfl (by decide) (by kernel_rfl) [6, 3, 3, 4, 6, 6] (by kernel_rfl) ?shR ?smono (.cons 5 (Wk.step_of [] rfl (by kernel_rfl) ?s5) (.cons 4 (Wk.step_of [3] rfl (by kernel_rfl) ?s4) (.cons 3 (Wk.step_of [1, 2] rfl (by kernel_rfl) ?s3) (.cons 2 (Wk.step_of [] rfl (by kernel_rfl) ?s2) (.cons 1 (Wk.step_of [] rfl (by kernel_rfl) ?s1) (.cons 0 (Wk.step_of [] rfl (by kernel_rfl) ?s0) (.nil))))))) ?sdone
      case shR => exact (Below.refl _ _).drew
      case smono => exact GXB5_mono
      case s0 =>
        intro x' w' hRw hd K' hK
        simp only [All, GXB5] at hd
        simp (config := {decide := true}) only [upd, GXB5, fillL, if_true, if_false] at hK ⊢
        go_simp
        have hK2 := hK _ _ ⟨hRw, Below.refl _ _, rfl⟩
        exact hK2
      case s1 =>
        intro x' w' hRw hd K' hK
        simp only [All, GXB5] at hd
        simp (config := {decide := true}) only [upd, GXB5, fillL, if_true, if_false] at hK ⊢
        go_simp
        have hK2 := hK _ _ ⟨hRw, Below.refl _ _, rfl⟩
        exact hK2
      case s2 =>
        intro x' w' hRw hd K' hK
        simp only [All, GXB5] at hd
        simp (config := {decide := true}) only [upd, GXB5, fillL, if_true, if_false] at hK ⊢
        go_simp
        have hK2 := hK _ _ ⟨hRw, Below.refl _ _, rfl⟩
        exact hK2
      case s3 =>
        intro x' w' hRw hd K' hK
        simp only [All, GXB5] at hd
        obtain ⟨e1, e2, _⟩ := hd
        simp (config := {decide := true}) only [upd, GXB5, fillL, if_true, if_false] at hK ⊢
        simp only [e1, e2] at hK ⊢
        go_simp
        have hK2 := hK _ _ ⟨hRw, Below.refl _ _, rfl⟩
        exact hK2
      case s4 =>
        intro x' w' hRw hd K' hK
        simp only [All, GXB5] at hd
        obtain ⟨e3, _⟩ := hd
        simp (config := {decide := true}) only [upd, GXB5, fillL, if_true, if_false] at hK ⊢
        simp only [e3] at hK ⊢
        obtain ⟨y0, y1, y2, y3, y4, y5, y6, y7⟩ := kp.out w' hRw
        go_simp
        have hK2 := hK _ _ ⟨hRw, Below.refl _ _, rfl⟩
        exact hK2
      case s5 =>
        intro x' w' hRw hd K' hK
        simp only [All, GXB5] at hd
        simp (config := {decide := true}) only [upd, GXB5, fillL, if_true, if_false] at hK ⊢
        obtain ⟨y0, y1, y2, y3, y4, y5, y6, y7⟩ := kp.out w' hRw
        go_simp
        have hK2 := hK _ _ ⟨hRw, Below.refl _ _, rfl⟩
        exact hK2
      case sdone =>
        intro x' w4 hR2 hG fr hfr
        have e0 := hG 0 (by omega)
        have e4 := hG 4 (by omega)
        have e5 := hG 5 (by omega)
        simp only [GXB5] at e0 e4 e5
        simp only [fillL] at hfr
        rw [e0, e4, e5] at hfr
        clear hG e0 e4 e5
        have hR4 := hRr.out.below hR2 hRr.out.lt
        have hc4 := hcr.out.below hR2
        have hB4 := bthen hBr.out hR2
        have co4 := co.out w4
        replace hR2 := Lib.hid hR2
        replace hR4 := Lib.hid hR4
        replace hc4 := Lib.hid hc4
        replace hB4 := Lib.hid hB4
        subst hfr
        by_cases hr : r < 0
        · have hk1 := m1.out (on.out.1 hr)
          go_wp2_with (go_at_call 58; (with_reducible refine co4.mono ?_); rintro e w5 ⟨rfl, hB5⟩; have hR5 := hR4.out.below hB5 hR4.out.lt; have hc5 := hc4.out.below hB5; have hB6 := bthen hB4.out hB5; replace hR5 := Lib.hid hR5; replace hc5 := Lib.hid hc5; replace hB6 := Lib.hid hB6; clear hB5)
          go_roundw
          case rel => exact ⟨k + 1, hi, by go_num, rfl, by omega, h2, h3, hR5.out, hc5.out, hB6.out⟩
          case measure => simp [RowKit.intOf]; omega
        · have hk1 := m2.out (by cases h9 : ltP x.1 p with | false => rfl | true => exact absurd (on.out.2 h9) hr)
          go_wp2_with (go_at_call 58; (with_reducible refine co4.mono ?_); rintro e w5 ⟨rfl, hB5⟩; have hR5 := hR4.out.below hB5 hR4.out.lt; have hc5 := hc4.out.below hB5; have hB6 := bthen hB4.out hB5; replace hR5 := Lib.hid hR5; replace hc5 := Lib.hid hc5; replace hB6 := Lib.hid hB6; clear hB5)
          go_roundw
          case rel => exact ⟨lo, k, rfl, rfl, h1, hk1, by omega, hR5.out, hc5.out, hB6.out⟩
          case measure => simp [RowKit.intOf]; omega
    · obtain rfl : lo = P := by omega
      obtain rfl : hi = lo := by omega
      by_cases hln : hi < n
      · have hkl : hi < l.length := by rw [← hnn.out]; omega
        have hA := hA.out (by omega)
        subst hA
        obtain ⟨x0, x1, x2, x3⟩ := hcr hi hkl
        have co := fun W => xmp_order (w := W) l[hi].1 p l[hi].2.1 C l[hi].1.it.length l[hi].2.2 m d
        have hz := hZ3.out hkl
        have oz := ord_zero (p := l[hi].1) (q := p)
        generalize l[hi] = x at x0 x1 x2 x3 co hz oz
        unfold prV at co
        generalize ordI x.1 p = r at co oz
        have hrz : Value.bool (r == 0) = Value.bool Z := by rw [← hz]; congr 1; rw [Bool.eq_iff_iff, beq_iff_eq]; exact oz
        have kp := fun W (hW : Below wr.heap.size wr W) => And.intro ((hW.cell (cell_lt x0)).trans x0) (And.intro ((hW.cell (cell_lt x1)).trans x1) (And.intro ((hW.cell (cell_lt x2)).trans x2) (And.intro ((hW.cell (cell_lt x3)).trans x3) (And.intro ((hW.cell (cell_lt q0)).trans q0) (And.intro ((hW.cell (cell_lt q1)).trans q1) (And.intro ((hW.cell (cell_lt q2)).trans q2) ((hW.cell (cell_lt q3)).trans q3)))))))
        clear hz oz h1 h2 x0 x1 x2 x3 q0 q1 q2 q3
        replace kp := Lib.hid kp
        replace co := Lib.hid co
        replace hrz := Lib.hid hrz
        replace hRr := Lib.hid hRr
        replace hcr := Lib.hid hcr
        replace hBr := Lib.hid hBr
        have hle : (hi : Int) < (n : Int) := by omega
        go_upto_region 8 with (fail)
        refine wp_lin_tail (by kernel_rfl) [none, none, none, none, none, none, some 14, none, none, none, none, none, none, none, none, none, none, none, none, none, none, none, none, none, none, none, none, none, none, none, none, none, none, none, none, some 0, some 1, some 2, some 3, some 4, some 5, some 6, some 7, some 8, some 9, some 10, some 11, some 12, some 13] (fun w' => Below wr.heap.size wr w') (fun w' w'' => Below w'.heap.size w' w'') (GXB8 g n cap hi #[.string x.1.sp, .string x.1.nm, .int .i64 x.1.kd, .slice x.2.1 x.1.it.length x.2.2] #[.string p.sp, .string p.nm, .int .i64 p.kd, .slice C m d] r Z) (by rfl) (by kernel_rfl) 15 _ rfl (by decide) (by kernel_rfl) [15, 15, 15, 15, 15, 15, 15, 15, 15, 15, 15, 15, 15, 15, 15] (by kernel_rfl) ?thR ?tmono (.cons 14 (Wk.step_of [0] rfl (by kernel_rfl) ?t14) (.cons 13 (Wk.step_of [4, 12] rfl (by kernel_rfl) ?t13) (.cons 12 (Wk.step_of [4, 11] rfl (by kernel_rfl) ?t12) (.cons 11 (Wk.step_of [4, 5, 9, 10] rfl (by kernel_rfl) ?t11) (.cons 10 (Wk.step_of [4] rfl (by kernel_rfl) ?t10) (.cons 9 (Wk.step_of [4, 8] rfl (by kernel_rfl) ?t9) (.cons 8 (Wk.step_of [4, 6, 7] rfl (by kernel_rfl) ?t8) (.cons 7 (Wk.step_of [4] rfl (by kernel_rfl) ?t7) (.cons 6 (Wk.step_of [4] rfl (by kernel_rfl) ?t6) (.cons 5 (Wk.step_of [4] rfl (by kernel_rfl) ?t5) (.cons 4 (Wk.step_of [3] rfl (by kernel_rfl) ?t4) (.cons 3 (Wk.step_of [1, 2] rfl (by kernel_rfl) ?t3) (.cons 2 (Wk.step_of [] rfl (by kernel_rfl) ?t2) (.cons 1 (Wk.step_of [] rfl (by kernel_rfl) ?t1) (.cons 0 (Wk.step_of [] rfl (by kernel_rfl) ?t0) (.nil)))))))))))))))) ?tdone
        case thR => exact (Below.refl _ _).drew
        case tmono => exact GXB8_mono
        case t0 =>
          intro x' w' hRw hd K' hK
          simp only [All, GXB8] at hd
          simp (config := {decide := true}) only [upd, GXB8, fillL, if_true, if_false] at hK ⊢
          go_simp
          have hK2 := hK _ _ ⟨hRw, Below.refl _ _, rfl⟩
          exact hK2
        case t1 =>
          intro x' w' hRw hd K' hK
          simp only [All, GXB8] at hd
          simp (config := {decide := true}) only [upd, GXB8, fillL, if_true, if_false] at hK ⊢
          go_simp
          have hK2 := hK _ _ ⟨hRw, Below.refl _ _, rfl⟩
          exact hK2
        case t2 =>
          intro x' w' hRw hd K' hK
          simp only [All, GXB8] at hd
          simp (config := {decide := true}) only [upd, GXB8, fillL, if_true, if_false] at hK ⊢
          go_simp
          have hK2 := hK _ _ ⟨hRw, Below.refl _ _, rfl⟩
          exact hK2
        case t3 =>
          intro x' w' hRw hd K' hK
          simp only [All, GXB8] at hd
          obtain ⟨e1, e2, _⟩ := hd
          simp (config := {decide := true}) only [upd, GXB8, fillL, if_true, if_false] at hK ⊢
          simp only [e1, e2] at hK ⊢
          go_simp
          have hK2 := hK _ _ ⟨hRw, Below.refl _ _, rfl⟩
          exact hK2
        case t4 =>
          intro x' w' hRw hd K' hK
          simp only [All, GXB8] at hd
          obtain ⟨e3, _⟩ := hd
          simp (config := {decide := true}) only [upd, GXB8, fillL, if_true, if_false] at hK ⊢
          simp only [e3] at hK ⊢
          go_simp
          have hK2 := hK _ _ ⟨hRw, Below.refl _ _, rfl⟩
          exact hK2
        case t5 =>
          intro x' w' hRw hd K' hK
          simp only [All, GXB8] at hd
          obtain ⟨e4, _⟩ := hd
          simp (config := {decide := true}) only [upd, GXB8, fillL, if_true, if_false] at hK ⊢
          simp only [e4] at hK ⊢
          go_simp
          have hK2 := hK _ _ ⟨hRw, Below.refl _ _, rfl⟩
          exact hK2
        case t6 =>
          intro x' w' hRw hd K' hK
          simp only [All, GXB8] at hd
          obtain ⟨e4, _⟩ := hd
          simp (config := {decide := true}) only [upd, GXB8, fillL, if_true, if_false] at hK ⊢
          simp only [e4] at hK ⊢
          go_simp
          have hK2 := hK _ _ ⟨hRw, Below.refl _ _, rfl⟩
          exact hK2
        case t7 =>
          intro x' w' hRw hd K' hK
          simp only [All, GXB8] at hd
          obtain ⟨e4, _⟩ := hd
          simp (config := {decide := true}) only [upd, GXB8, fillL, if_true, if_false] at hK ⊢
          simp only [e4] at hK ⊢
          go_simp
          have hK2 := hK _ _ ⟨hRw, Below.refl _ _, rfl⟩
          exact hK2
        case t8 =>
          intro x' w' hRw hd K' hK
          simp only [All, GXB8] at hd
          obtain ⟨e4, e6, e7, _⟩ := hd
          simp (config := {decide := true}) only [upd, GXB8, fillL, if_true, if_false] at hK ⊢
          simp only [e4, e6, e7] at hK ⊢
          go_simp
          have hK2 := hK _ _ ⟨hRw, Below.refl _ _, rfl⟩
          exact hK2
        case t9 =>
          intro x' w' hRw hd K' hK
          simp only [All, GXB8] at hd
          obtain ⟨e4, e8, _⟩ := hd
          simp (config := {decide := true}) only [upd, GXB8, fillL, if_true, if_false] at hK ⊢
          simp only [e4, e8] at hK ⊢
          obtain ⟨y0, y1, y2, y3, y4, y5, y6, y7⟩ := kp.out w' hRw
          go_simp
          have hK2 := hK _ _ ⟨hRw, Below.refl _ _, rfl⟩
          exact hK2
        case t10 =>
          intro x' w' hRw hd K' hK
          simp only [All, GXB8] at hd
          obtain ⟨e4, _⟩ := hd
          simp (config := {decide := true}) only [upd, GXB8, fillL, if_true, if_false] at hK ⊢
          simp only [e4] at hK ⊢
          obtain ⟨y0, y1, y2, y3, y4, y5, y6, y7⟩ := kp.out w' hRw
          go_simp
          have hK2 := hK _ _ ⟨hRw, Below.refl _ _, rfl⟩
          exact hK2
        case t11 =>
          intro x' w' hRw hd K' hK
          simp only [All, GXB8] at hd
          obtain ⟨e4, e5, e9, e10, _⟩ := hd
          simp (config := {decide := true}) only [upd, GXB8, fillL, if_true, if_false] at hK ⊢
          simp only [e4, e5, e9, e10] at hK ⊢
          go_simp
          refine (co.out _).mono ?_
          rintro e' w2 ⟨rfl, hB9⟩
          have hK2 := hK _ _ ⟨bthen hRw hB9, hB9, rfl⟩
          exact hK2
        case t12 =>
          intro x' w' hRw hd K' hK
          simp only [All, GXB8] at hd
          obtain ⟨e4, e11, _⟩ := hd
          simp (config := {decide := true}) only [upd, GXB8, fillL, if_true, if_false] at hK ⊢
          simp only [e4, e11] at hK ⊢
          go_simp
          have hK2 := hK _ _ ⟨hRw, Below.refl _ _, hrz.out⟩
          exact hK2
        case t13 =>
          intro x' w' hRw hd K' hK
          simp only [All, GXB8] at hd
          obtain ⟨e4, e12, _⟩ := hd
          simp (config := {decide := true}) only [upd, GXB8, fillL, if_true, if_false] at hK ⊢
          simp only [e4, e12] at hK ⊢
          go_simp
          have hK2 := hK _ _ ⟨hRw, Below.refl _ _, rfl⟩
          exact hK2
        case t14 =>
          intro x' w' hRw hd K' hK
          simp only [All, GXB8] at hd
          obtain ⟨e0, _⟩ := hd
          simp (config := {decide := true}) only [upd, GXB8, fillL, if_true, if_false] at hK ⊢
          simp only [e0] at hK ⊢
          go_simp
          have hK2 := hK _ _ ⟨hRw, Below.refl _ _, rfl⟩
          exact hK2
        case tdone =>
          intro x' w4 hR2 hG fr hfr
          have e0 := hG 14 (by omega)
          have e13 := hG 13 (by omega)
          simp only [GXB8] at e0 e13
          simp only [fillL] at hfr
          rw [e0, e13] at hfr
          clear hG e0 e13
          have hB4 := bthen hBr.out hR2
          replace hR2 := Lib.hid hR2
          replace hB4 := Lib.hid hB4
          subst hfr
          go_wp2
          go_ret2
          exact ⟨rfl, hB4.out⟩
      · have hz := hZ4.out (by omega)
        subst hz
        clear q0 q1 q2 q3
        replace hRr := Lib.hid hRr
        replace hcr := Lib.hid hcr
        replace hBr := Lib.hid hBr
        obtain rfl : hi = n := by omega
        go_upto_region 8 with (fail)
        refine wp_lin_tail (by kernel_rfl) [none, none, none, none, none, none, some 14, none, none, none, none, none, none, none, none, none, none, none, none, none, none, none, none, none, none, none, none, none, none, none, none, none, none, none, none, some 0, some 1, some 2, some 3, some 4, some 5, some 6, some 7, some 8, some 9, some 10, some 11, some 12, some 13] (fun w' => Below wr.heap.size wr w') (fun w' w'' => Below w'.heap.size w' w'') (GXB9 hi) (by rfl) (by kernel_rfl) 15 _ rfl (by decide) (by kernel_rfl) [15, 15, 15, 15, 15, 15, 15, 15, 15, 15, 15, 15, 15, 15, 15] (by kernel_rfl) ?uhR ?umono (.cons 14 (Wk.step_of [0] rfl (by kernel_rfl) ?u14) (.cons 13 (Wk.step_of [4] rfl (by kernel_rfl) ?u13) (.cons 12 (Wk.step_of [4] rfl (by kernel_rfl) ?u12) (.cons 11 (Wk.step_of [4] rfl (by kernel_rfl) ?u11) (.cons 10 (Wk.step_of [4] rfl (by kernel_rfl) ?u10) (.cons 9 (Wk.step_of [4] rfl (by kernel_rfl) ?u9) (.cons 8 (Wk.step_of [4] rfl (by kernel_rfl) ?u8) (.cons 7 (Wk.step_of [4] rfl (by kernel_rfl) ?u7) (.cons 6 (Wk.step_of [4] rfl (by kernel_rfl) ?u6) (.cons 5 (Wk.step_of [4] rfl (by kernel_rfl) ?u5) (.cons 4 (Wk.step_of [3] rfl (by kernel_rfl) ?u4) (.cons 3 (Wk.step_of [1, 2] rfl (by kernel_rfl) ?u3) (.cons 2 (Wk.step_of [] rfl (by kernel_rfl) ?u2) (.cons 1 (Wk.step_of [] rfl (by kernel_rfl) ?u1) (.cons 0 (Wk.step_of [] rfl (by kernel_rfl) ?u0) (.nil)))))))))))))))) ?udone
        case uhR => exact (Below.refl _ _).drew
        case umono => exact GXB9_mono
        case u0 =>
          intro x' w' hRw hd K' hK
          simp only [All, GXB9] at hd
          simp (config := {decide := true}) only [upd, GXB9, fillL, if_true, if_false] at hK ⊢
          go_simp
          have hK2 := hK _ _ ⟨hRw, Below.refl _ _, rfl⟩
          exact hK2
        case u1 =>
          intro x' w' hRw hd K' hK
          simp only [All, GXB9] at hd
          simp (config := {decide := true}) only [upd, GXB9, fillL, if_true, if_false] at hK ⊢
          go_simp
          have hK2 := hK _ _ ⟨hRw, Below.refl _ _, rfl⟩
          exact hK2
        case u2 =>
          intro x' w' hRw hd K' hK
          simp only [All, GXB9] at hd
          simp (config := {decide := true}) only [upd, GXB9, fillL, if_true, if_false] at hK ⊢
          go_simp
          have hK2 := hK _ _ ⟨hRw, Below.refl _ _, rfl⟩
          exact hK2
        case u3 =>
          intro x' w' hRw hd K' hK
          simp only [All, GXB9] at hd
          obtain ⟨e1, e2, _⟩ := hd
          simp (config := {decide := true}) only [upd, GXB9, fillL, if_true, if_false] at hK ⊢
          simp only [e1, e2] at hK ⊢
          go_simp
          have hK2 := hK _ _ ⟨hRw, Below.refl _ _, rfl⟩
          exact hK2
        case u4 =>
          intro x' w' hRw hd K' hK
          simp only [All, GXB9] at hd
          obtain ⟨e3, _⟩ := hd
          simp (config := {decide := true}) only [upd, GXB9, fillL, if_true, if_false] at hK ⊢
          simp only [e3] at hK ⊢
          go_simp
          have hK2 := hK _ _ ⟨hRw, Below.refl _ _, rfl⟩
          exact hK2
        case u5 =>
          intro x' w' hRw hd K' hK
          simp only [All, GXB9] at hd
          obtain ⟨e4, _⟩ := hd
          simp (config := {decide := true}) only [upd, GXB9, fillL, if_true, if_false] at hK ⊢
          simp only [e4] at hK ⊢
          go_simp
          have hK2 := hK undef _ ⟨hRw, Below.refl _ _, trivial⟩
          exact hK2
        case u6 =>
          intro x' w' hRw hd K' hK
          simp only [All, GXB9] at hd
          obtain ⟨e4, _⟩ := hd
          simp (config := {decide := true}) only [upd, GXB9, fillL, if_true, if_false] at hK ⊢
          simp only [e4] at hK ⊢
          go_simp
          have hK2 := hK undef _ ⟨hRw, Below.refl _ _, trivial⟩
          exact hK2
        case u7 =>
          intro x' w' hRw hd K' hK
          simp only [All, GXB9] at hd
          obtain ⟨e4, _⟩ := hd
          simp (config := {decide := true}) only [upd, GXB9, fillL, if_true, if_false] at hK ⊢
          simp only [e4] at hK ⊢
          go_simp
          have hK2 := hK undef _ ⟨hRw, Below.refl _ _, trivial⟩
          exact hK2
        case u8 =>
          intro x' w' hRw hd K' hK
          simp only [All, GXB9] at hd
          obtain ⟨e4, _⟩ := hd
          simp (config := {decide := true}) only [upd, GXB9, fillL, if_true, if_false] at hK ⊢
          simp only [e4] at hK ⊢
          go_simp
          have hK2 := hK undef _ ⟨hRw, Below.refl _ _, trivial⟩
          exact hK2
        case u9 =>
          intro x' w' hRw hd K' hK
          simp only [All, GXB9] at hd
          obtain ⟨e4, _⟩ := hd
          simp (config := {decide := true}) only [upd, GXB9, fillL, if_true, if_false] at hK ⊢
          simp only [e4] at hK ⊢
          go_simp
          have hK2 := hK undef _ ⟨hRw, Below.refl _ _, trivial⟩
          exact hK2
        case u10 =>
          intro x' w' hRw hd K' hK
          simp only [All, GXB9] at hd
          obtain ⟨e4, _⟩ := hd
          simp (config := {decide := true}) only [upd, GXB9, fillL, if_true, if_false] at hK ⊢
          simp only [e4] at hK ⊢
          go_simp
          have hK2 := hK undef _ ⟨hRw, Below.refl _ _, trivial⟩
          exact hK2
        case u11 =>
          intro x' w' hRw hd K' hK
          simp only [All, GXB9] at hd
          obtain ⟨e4, _⟩ := hd
          simp (config := {decide := true}) only [upd, GXB9, fillL, if_true, if_false] at hK ⊢
          simp only [e4] at hK ⊢
          go_simp
          have hK2 := hK undef _ ⟨hRw, Below.refl _ _, trivial⟩
          exact hK2
        case u12 =>
          intro x' w' hRw hd K' hK
          simp only [All, GXB9] at hd
          obtain ⟨e4, _⟩ := hd
          simp (config := {decide := true}) only [upd, GXB9, fillL, if_true, if_false] at hK ⊢
          simp only [e4] at hK ⊢
          go_simp
          have hK2 := hK undef _ ⟨hRw, Below.refl _ _, trivial⟩
          exact hK2
        case u13 =>
          intro x' w' hRw hd K' hK
          simp only [All, GXB9] at hd
          obtain ⟨e4, _⟩ := hd
          simp (config := {decide := true}) only [upd, GXB9, fillL, if_true, if_false] at hK ⊢
          simp only [e4] at hK ⊢
          go_simp
          have hK2 := hK _ _ ⟨hRw, Below.refl _ _, rfl⟩
          exact hK2
        case u14 =>
          intro x' w' hRw hd K' hK
          simp only [All, GXB9] at hd
          obtain ⟨e0, _⟩ := hd
          simp (config := {decide := true}) only [upd, GXB9, fillL, if_true, if_false] at hK ⊢
          simp only [e0] at hK ⊢
          go_simp
          have hK2 := hK _ _ ⟨hRw, Below.refl _ _, rfl⟩
          exact hK2
        case udone =>
          intro x' w4 hR2 hG fr hfr
          have e0 := hG 14 (by omega)
          have e13 := hG 13 (by omega)
          simp only [GXB9] at e0 e13
          simp only [fillL] at hfr
          rw [e0, e13] at hfr
          clear hG e0 e13
          have hB4 := bthen hBr.out hR2
          replace hR2 := Lib.hid hR2
          replace hB4 := Lib.hid hB4
          subst hfr
          go_wp2
          go_ret2
          exact ⟨rfl, hB4.out⟩
end Go.Proofs.YtkpikpaepgknnaaGreatDoor

/- A property put into a row. No condition. -/
namespace Go.Xw
open Go Go.Wk Go.RowKit
/-- a copy of whole elements within a row, or into it -/
theorem run_copy_rows (P : Program) (w : World) (dT sT ty elem : TypeId) (g o dLen dCap : Nat) (a : Addr) (sLen sCap : Nat) (cur : Array Value) (t : TypeId) (cs : List Value) (k : Nat)
    (hu : P.underlying dT = some (.slice elem)) (hs : (P.info? elem).map (·.size) = some k)
    (hg : w.heap[g]? = some (.cells cur t (0, 0))) (hn : cs.length = Nat.min sLen dLen * k)
    (hsrc : ∀ j v, cs[j]? = some v → w.cell? (a.add j) = some v) (hfit : o + cs.length ≤ cur.size) (h1 : ∀ v ∈ cs, v.oneCell' = true) :
    (Builtin.copy_ #[dT, sT] ty #[.slice (some ⟨g, o, none⟩) dLen dCap, .slice (some a) sLen sCap]).run P w =
      .ok (goInt (Nat.min sLen dLen : Nat)) (w.setRow g (cur.toList.take o ++ cs ++ cur.toList.drop (o + cs.length)).toArray) := by
  have hl := run_loadCells_list (P := P) w a cs hsrc
  have hst := run_storeCells_at P g o t cs 0 cur w hg (by simpa using hfit) h1
  cases hq : P.info? elem with
  | none => simp [hq] at hs
  | some i =>
    have hi : i.size = k := by simpa [hq] using hs
    simp [Builtin.copy_, run_underlying hu, Builtin.lenOf, Builtin.firstCells, sizeOf, typeInfo, hq, hi, ← hn, hl, hst]
theorem prs_len (x : PA) : (prs x).length = 4 := rfl
theorem prs_one (x : PA) : ∀ u ∈ prs x, u.oneCell' = true := by
  intro u hu
  simp only [prs, List.mem_cons, List.not_mem_nil, or_false] at hu
  rcases hu with rfl | rfl | rfl | rfl <;> rfl
theorem flat_one (l : List PA) : ∀ u ∈ flatP l, u.oneCell' = true := by
  intro u hu
  obtain ⟨x, _, hx⟩ := List.mem_flatMap.1 hu
  exact prs_one x u hx
theorem flat_app (a b : List PA) : flatP (a ++ b) = flatP a ++ flatP b := List.flatMap_append
theorem flat_take (l : List PA) (i : Nat) : flatP (l.take i) = (flatP l).take (i * 4) := by
  induction l generalizing i with
  | nil => simp [flatP]
  | cons x l ih =>
    cases i with
    | zero => simp [flatP]
    | succ i =>
      have := ih i
      unfold flatP at *
      rw [List.take_succ_cons, List.flatMap_cons, List.flatMap_cons, this, List.take_append, List.take_of_length_le (show (prs x).length ≤ (i + 1) * 4 by rw [prs_len]; omega), prs_len, show (i + 1) * 4 - 4 = i * 4 by omega]
theorem flat_drop (l : List PA) (i : Nat) : flatP (l.drop i) = (flatP l).drop (i * 4) := by
  have h1 := flat_app (l.take i) (l.drop i)
  rw [List.take_append_drop, flat_take] at h1
  have h2 := List.take_append_drop (i * 4) (flatP l)
  rw [← h2] at h1
  have h3 : (flatP l).take (i * 4) ++ (flatP l).drop (i * 4) = (flatP l).take (i * 4) ++ flatP (l.drop i) := by
    rw [List.take_append_drop] at h1 ⊢
    rw [← List.take_append_drop (i * 4) (flatP l)] at h1
    simpa using h1
  exact (List.append_cancel_left h3).symm
theorem row_grown (w : World) (g : Nat) (cs : Array Value) : w.grownBy (w.setRow g cs) (some g) := by
  refine ⟨rfl, rfl, rfl, by simp [World.setRow], fun k _ hk => ?_⟩
  have hne : ¬ g = k := fun e => hk (by rw [e])
  simp [World.setRow, Array.getElem?_modify, hne]
theorem row_blk {w : World} {g : Nat} {cur cs : Array Value} {t : TypeId} (h : Blk w g t cur) : Blk (w.setRow g cs) g t cs := setRow_heap w g cur cs t (0, 0) h
end Go.Xw
namespace Go.Proofs.YtkpikpaepgknnaaGreatDoor
open Go Go.RowKit Go.Wk Go.Xt Go.Xe Go.Xw
theorem prop_info : ∃ i, Tryz.prog.info? 38 = some i ∧ i.zero = some (.agg #[.string ⟨#[]⟩, .string ⟨#[]⟩, .int .i64 0, .slice none 0 0]) ∧ i.size = 4 ∧ i.bytes = 64 := ⟨Tryz.t38, by kernel_rfl, by kernel_rfl, by kernel_rfl, by kernel_rfl⟩
theorem app_eq (w : World) (ty : TypeId) (ba : Option Addr) (la ca : Nat) (b : Value) : (Builtin.append_ #[59, 29] ty #[.slice ba la ca, b]).run Tryz.prog w = (Builtin.append_ #[59, 59] ty #[.slice ba la ca, b]).run Tryz.prog w := by
  have hz := Tryz.sizeOf38
  simp only [Builtin.append_, Sem.run_bind, run_underlying Tryz.underlying59, run_underlying Tryz.underlying29, Result.andThen_ok, List.getElem?_toArray, List.getElem?_cons_zero, List.getElem?_cons_succ, hz]
/-- where a row went that grew: where it stood, or a new block -/
def Offs (w : World) (v v' : Value) : Prop := ∀ k, v'.ownBlock = some k → v.ownBlock = some k ∨ w.heap.size ≤ k
theorem app_row {w : World} {B : Nat} {v : Value} {n : Nat} {xs : List Value} (hO : w.ownsRow B 38 4 v n xs) (vb : Nat) (x : PA) (hx : Blk w vb 38 (prs x).toArray) (hn : n ≤ 20) (hB : B ≤ w.heap.size) (ty : TypeId) :
    ∃ v' w', (Builtin.append_ #[59, 29] ty #[v, .slice (some ⟨vb, 0, none⟩) 1 1]).run Tryz.prog w = .ok v' w' ∧ w'.ownsRow B 38 4 v' (n + 1) (xs ++ prs x) ∧ w.grownBy w' v.ownBlock ∧ Offs w v v' := by
  obtain ⟨i0, hi, hz, hs, hb⟩ := prop_info
  obtain ⟨v', w', h1, h2, h3, _, h5⟩ := run_append_own_at (P := Tryz.prog) w B 59 ty 38 i0 _ 4 64 Tryz.underlying59 hi hz hs hb rfl (by decide) v n xs hO ⟨vb, 0, none⟩ 1 1 (prs x) (prs_len x)
    (fun j u hu => by
      have := hx.cell j
      rw [add_none, Nat.zero_add, this]
      simpa using hu) (prs_one x) (by unfold maxLen; omega) (by omega) hB
  obtain ⟨ba, la, ca, rfl⟩ : ∃ ba la ca, v = .slice ba la ca := by rcases hO.2 with ⟨rfl, _⟩ | ⟨g, cap, cur, rfl, _⟩ <;> exact ⟨_, _, _, rfl⟩
  exact ⟨v', w', by rw [app_eq]; exact h1, h2, h3, fun k hk => by
    rcases h5 with e | e
    · exact .inl (by rw [← e]; exact hk)
    · rw [e] at hk; injection hk with hk; exact .inr (by omega)⟩
set_option maxHeartbeats 4000000 in
set_option maxRecDepth 100000 in
theorem ins_end {w : World} (B : Nat) (v : Value) (n : Nat) (xs : List Value) (hO : w.ownsRow B 38 4 v n xs) (hn : n ≤ 20) (vb : Nat) (x : PA) (hx : Blk w vb 38 (prs x).toArray) (hB : B ≤ w.heap.size) :
    Calls Tryz.prog 59 #[v, .int .i64 (n : Nat), .slice (some ⟨vb, 0, none⟩) 1 1] w fun e w' => ∃ v', e = .returned v' ∧ w'.ownsRow B 38 4 v' (n + 1) (xs ++ prs x) ∧ w.grownBy w' v.ownBlock ∧ Offs w v v' := by
  have ha := fun ty => app_row hO vb x hx hn hB ty
  replace ha := Lib.hid ha
  rcases hO.2 with ⟨rfl, rfl⟩ | ⟨g, cap, cur, rfl, hg1, hg2, hcp, hcm, hsz, htk⟩
  · go_enter Tryz.func59, Tryz.ntmps59
    go_wp2_with (at_builtin; obtain ⟨v', w', h1, h2, h3, h4⟩ := ha.out 59; refine Lib.wpList_append_run _ rfl _ _ _ _ rfl _ _ rfl rfl _ _ h1 ?_)
    go_ret
    exact ⟨_, rfl, h2, h3, h4⟩
  · clear hg2 hsz htk
    unfold maxLen at hcm
    go_enter Tryz.func59, Tryz.ntmps59
    go_wp2_with (at_builtin; obtain ⟨v', w', h1, h2, h3, h4⟩ := ha.out 59; refine Lib.wpList_append_run _ rfl _ _ _ _ rfl _ _ rfl rfl _ _ h1 ?_)
    all_goals go_ret
    all_goals exact ⟨_, rfl, h2, h3, h4⟩
def GI (g n cap i : Nat) : Nat → Value → World → Prop := fun j v _ => match j with
  | 0 => v = .slice (some ⟨g, 0, none⟩) (n + 1) cap
  | 1 => v = .int .i64 (i : Nat)
  | 2 => v = .int .i64 1
  | 3 => v = .int .i64 ((i : Int) + 1)
  | 4 => v = .slice (some ⟨g, (i + 1) * 4, none⟩) (n - i) (cap - (i + 1))
  | 5 => v = .slice (some ⟨g, 0, none⟩) (n + 1) cap
  | 6 => v = .int .i64 (i : Nat)
  | _ => v = .slice (some ⟨g, i * 4, none⟩) (n + 1 - i) (cap - i)
theorem GI_mono {g n cap i : Nat} (j : Nat) (v : Value) (w w' : World) (hG : GI g n cap i j v w) (hk : Below w.heap.size w w') : GI g n cap i j v w' := by
  unfold GI at hG ⊢; exact hG
/-- the plain row behind both copies -/
theorem row_two {cur : List Value} {l : List PA} {x : PA} {n i cap : Nat} (hl : l.length = n) (hi : i < n) (hroom : n + 1 ≤ cap) (hsz : cur.length = cap * 4) (htk : cur.take (n * 4) = flatP l) :
    ∀ F R1 R2 : List Value, F = (flatP l).drop (i * 4) → R1 = cur.take ((i + 1) * 4) ++ F ++ cur.drop ((i + 1) * 4 + F.length) → R2 = R1.take (i * 4) ++ prs x ++ R1.drop (i * 4 + 4) →
    R1.length = cap * 4 ∧ R2.length = cap * 4 ∧ R2.take ((n + 1) * 4) = flatP (l.take i ++ x :: l.drop i) := by
  intro F R1 R2 eF eR1 eR2
  have hf : (flatP l).length = n * 4 := by rw [Xw.flat_len, hl]
  have hF : F.length = n * 4 - i * 4 := by rw [eF, List.length_drop, hf]
  have h1 : R1.length = cap * 4 := by
    rw [eR1, List.length_append, List.length_append, List.length_take, List.length_drop, hF, hsz]; omega
  have hp : (prs x).length = 4 := rfl
  have h2 : R2.length = cap * 4 := by
    rw [eR2, List.length_append, List.length_append, List.length_take, List.length_drop, hp, h1]; omega
  refine ⟨h1, h2, ?_⟩
  have e1 : R1.take (i * 4) = (flatP l).take (i * 4) := by
    rw [eR1, List.append_assoc, List.take_append_of_le_length (by rw [List.length_take, hsz]; omega), List.take_take, Nat.min_eq_left (by omega), ← htk, List.take_take, Nat.min_eq_left (by omega)]
  have e2 : R1.drop (i * 4 + 4) = F ++ cur.drop ((i + 1) * 4 + F.length) := by
    rw [eR1, List.append_assoc, List.drop_append, List.length_take, hsz, Nat.min_eq_left (by omega), List.drop_eq_nil_of_le (by rw [List.length_take]; omega), show i * 4 + 4 - (i + 1) * 4 = 0 by omega]
    rfl
  have hlen : ((flatP l).take (i * 4) ++ prs x ++ F).length = (n + 1) * 4 := by
    rw [List.length_append, List.length_append, List.length_take, hp, hF, hf]; omega
  rw [eR2, e1, e2, ← List.append_assoc, List.take_append_of_le_length (by omega), List.take_of_length_le (by omega), flat_app, flat_take]
  have : flatP (x :: l.drop i) = prs x ++ flatP (l.drop i) := rfl
  rw [this, flat_drop, ← eF, List.append_assoc]
set_option maxHeartbeats 8000000 in
set_option maxRecDepth 100000 in
theorem ins_room {w : World} (g cap n i : Nat) (cur : Array Value) (l : List PA) (hl : l.length = n) (hi : i < n) (hn : n ≤ 20) (hroom : n + 1 ≤ cap) (hcm : cap ≤ maxLen) (hg : Blk w g 38 cur) (hsz : cur.size = cap * 4) (htk : cur.toList.take (n * 4) = flatP l) (vb : Nat) (x : PA) (hx : Blk w vb 38 (prs x).toArray) (hne : vb ≠ g) :
    Calls Tryz.prog 59 #[.slice (some ⟨g, 0, none⟩) n cap, .int .i64 (i : Nat), .slice (some ⟨vb, 0, none⟩) 1 1] w fun e w' => e = .returned (.slice (some ⟨g, 0, none⟩) (n + 1) cap) ∧ w.grownBy w' (some g) ∧ ∃ R : List Value, Blk w' g 38 R.toArray ∧ R.length = cap * 4 ∧ R.take ((n + 1) * 4) = flatP (l.take i ++ x :: l.drop i) := by
  unfold maxLen at hcm
  have hov : ∀ lb cb, (callFunc 88 #[.slice (some ⟨vb, 0, none⟩) 1 1, .slice (some ⟨g, (i + 1) * 4, none⟩) lb cb]).run Tryz.prog w = .ok (.value (.bool false)) w := fun lb cb => by
    rw [run_callFunc_extern Tryz.func88 (by kernel_rfl) (by kernel_rfl) (by kernel_rfl) (e := Extern.SlicesOverlaps.overlaps #[29, 29] #[4]) (by kernel_rfl),
      Lib.run_overlaps_apart w 29 4 38 Tryz.underlying29 4 Tryz.sizeOf38 ⟨vb, 0, none⟩ ⟨g, (i + 1) * 4, none⟩ 1 1 lb cb hne 38 38 4 (cap * 4) (by unfold Blk at hx; simp [World.shape?, hx, prs]) (by unfold Blk at hg; simp [World.shape?, hg, hsz]) (by omega) (hx.frozen 0) (hx.frozen 4)]
    rfl
  have hw1 : IntKind.i64.wrap ((i : Int) + 1) = (i : Int) + 1 := by rw [IntKind.wrap_i64]; omega
  have hb1 : (0 : Int) ≤ (i : Int) + 1 := by omega
  have htn : ((i : Int) + 1).toNat = i + 1 := by omega
  have hb2 : ¬ (cap = i + 1) := by omega
  have hb4 : ¬ (cap = i) := by omega
  have hz2 : ¬ ((i : Int) = (n : Int)) := by omega
  replace hg := Lib.hid hg
  replace hx := Lib.hid hx
  replace htk := Lib.hid htk
  replace hl := Lib.hid hl
  replace hsz := Lib.hid hsz
  go_enter Tryz.func59, Tryz.ntmps59
  go_wp2_with (simp only [hov])
  obtain ⟨bb, hbb⟩ : ∃ b, b = ((i : Int) == (n : Int)) := ⟨_, rfl⟩
  rw [← hbb]
  obtain ⟨bc, hbc⟩ : ∃ b, b = decide ((cap : Int) < (n : Int) + 1) := ⟨_, rfl⟩
  rw [← hbc]
  clear hbb hbc
  have hin : i ≤ n := by omega
  have hin1 : (i : Int) ≤ (n : Int) + 1 := by omega
  refine wp_lin_tail (by kernel_rfl) [none, none, none, none, none, none, none, none, none, none, none, none, none, none, none, none, none, none, none, none, none, none, none, none, none, none, none, none, none, none, none, none, none, none, none, none, none, none, none, none, none, none, none, none, none, none, none, none, none, none, none, none, none, none, none, none, none, none, none, none, none, none, none, none, none, none, none, none, none, some 0, some 1, some 2, some 3, some 4, some 5, some 6, some 7, none, none, none, none, none, none, none, none, none, none, none, none, none, none, none, none, none, none] (fun w' => Below w.heap.size w w') (fun w' w'' => Below w'.heap.size w' w'') (GI g n cap i) (by rfl) (by kernel_rfl) 8 _ rfl (by decide) (by kernel_rfl) [4, 3, 3, 4, 8, 7, 7, 8] (by kernel_rfl) ?shR ?smono (.cons 7 (Wk.step_of [5, 6] rfl (by kernel_rfl) ?s7) (.cons 6 (Wk.step_of [] rfl (by kernel_rfl) ?s6) (.cons 5 (Wk.step_of [] rfl (by kernel_rfl) ?s5) (.cons 4 (Wk.step_of [0, 3] rfl (by kernel_rfl) ?s4) (.cons 3 (Wk.step_of [1, 2] rfl (by kernel_rfl) ?s3) (.cons 2 (Wk.step_of [] rfl (by kernel_rfl) ?s2) (.cons 1 (Wk.step_of [] rfl (by kernel_rfl) ?s1) (.cons 0 (Wk.step_of [] rfl (by kernel_rfl) ?s0) (.nil))))))))) ?sdone
  case shR => exact (Below.refl _ _).drew
  case smono => exact GI_mono
  case s0 =>
    intro x' w' hRw hd K' hK
    simp only [All, GI] at hd
    simp (config := {decide := true}) only [upd, GI, fillL, if_true, if_false] at hK ⊢
    go_simp
    have hK2 := hK _ _ ⟨hRw, Below.refl _ _, rfl⟩
    exact hK2
  case s1 =>
    intro x' w' hRw hd K' hK
    simp only [All, GI] at hd
    simp (config := {decide := true}) only [upd, GI, fillL, if_true, if_false] at hK ⊢
    go_simp
    have hK2 := hK _ _ ⟨hRw, Below.refl _ _, rfl⟩
    exact hK2
  case s2 =>
    intro x' w' hRw hd K' hK
    simp only [All, GI] at hd
    simp (config := {decide := true}) only [upd, GI, fillL, if_true, if_false] at hK ⊢
    go_simp
    have hK2 := hK _ _ ⟨hRw, Below.refl _ _, rfl⟩
    exact hK2
  case s3 =>
    intro x' w' hRw hd K' hK
    simp only [All, GI] at hd
    obtain ⟨e1, e2, _⟩ := hd
    simp (config := {decide := true}) only [upd, GI, fillL, if_true, if_false] at hK ⊢
    simp only [e1, e2] at hK ⊢
    go_simp
    have hK2 := hK _ _ ⟨hRw, Below.refl _ _, rfl⟩
    exact hK2
  case s4 =>
    intro x' w' hRw hd K' hK
    simp only [All, GI] at hd
    obtain ⟨e0, e3, _⟩ := hd
    simp (config := {decide := true}) only [upd, GI, fillL, if_true, if_false] at hK ⊢
    simp only [e0, e3] at hK ⊢
    go_simp
    have hK2 := hK _ _ ⟨hRw, Below.refl _ _, rfl⟩
    exact hK2
  case s5 =>
    intro x' w' hRw hd K' hK
    simp only [All, GI] at hd
    simp (config := {decide := true}) only [upd, GI, fillL, if_true, if_false] at hK ⊢
    go_simp
    have hK2 := hK _ _ ⟨hRw, Below.refl _ _, rfl⟩
    exact hK2
  case s6 =>
    intro x' w' hRw hd K' hK
    simp only [All, GI] at hd
    simp (config := {decide := true}) only [upd, GI, fillL, if_true, if_false] at hK ⊢
    go_simp
    have hK2 := hK _ _ ⟨hRw, Below.refl _ _, rfl⟩
    exact hK2
  case s7 =>
    intro x' w' hRw hd K' hK
    simp only [All, GI] at hd
    obtain ⟨e5, e6, _⟩ := hd
    simp (config := {decide := true}) only [upd, GI, fillL, if_true, if_false] at hK ⊢
    simp only [e5, e6] at hK ⊢
    go_simp
    have hK2 := hK _ _ ⟨hRw, Below.refl _ _, rfl⟩
    exact hK2
  case sdone =>
    intro x' w4 hR2 hG fr hfr
    have e4 := hG 4 (by omega)
    have e7 := hG 7 (by omega)
    simp only [GI] at e4 e7
    simp only [fillL] at hfr
    rw [e4, e7] at hfr
    clear hG e4 e7
    have hg4 := hg.out.below hR2 hg.out.lt
    have hx4 := hx.out.below hR2 hx.out.lt
    obtain ⟨F, hF⟩ : ∃ F, F = (flatP l).drop (i * 4) := ⟨_, rfl⟩
    have hszl : cur.toList.length = cap * 4 := by rw [Array.length_toList]; exact hsz.out
    have hFl : F.length = (n - i) * 4 := by rw [hF, List.length_drop, Xw.flat_len, hl.out]; omega
    obtain ⟨R1, hR1⟩ : ∃ R, R = cur.toList.take ((i + 1) * 4) ++ F ++ cur.toList.drop ((i + 1) * 4 + F.length) := ⟨_, rfl⟩
    obtain ⟨R2, hR2'⟩ : ∃ R, R = R1.take (i * 4) ++ prs x ++ R1.drop (i * 4 + 4) := ⟨_, rfl⟩
    obtain ⟨z1, z2, z3⟩ := row_two (x := x) hl.out hi hroom hszl htk.out F R1 R2 hF hR1 hR2'
    have hcp1 : ∀ ty, (Builtin.copy_ #[59, 59] ty #[.slice (some ⟨g, (i + 1) * 4, none⟩) (n - i) (cap - (i + 1)), .slice (some ⟨g, i * 4, none⟩) (n + 1 - i) (cap - i)]).run Tryz.prog w4 = .ok (goInt (Nat.min (n + 1 - i) (n - i) : Nat)) (w4.setRow g R1.toArray) := fun ty => by
      rw [hR1]
      exact run_copy_rows Tryz.prog w4 59 59 ty 38 g ((i + 1) * 4) (n - i) (cap - (i + 1)) ⟨g, i * 4, none⟩ (n + 1 - i) (cap - i) cur 38 F 4 Tryz.underlying59 (by kernel_rfl) hg4 (by rw [hFl]; simp only [Nat.min_def]; split <;> omega) (fun j v hj => by
        rw [add_none, hg4.cell]
        rw [hF, List.getElem?_drop, ← htk.out, List.getElem?_take] at hj
        split at hj
        · rw [← Array.getElem?_toList]; exact hj
        · cases hj) (by rw [hFl, hsz.out]; omega) (fun v hv => flat_one l v (by rw [hF] at hv; exact List.mem_of_mem_drop hv))
    have hgb := row_blk (cs := R1.toArray) hg4
    have hxb : Blk (w4.setRow g R1.toArray) vb 38 (prs x).toArray := hx4.grown (row_grown w4 g _) (by intro e; injection e with e; exact hne e)
    have hgr := row_grown w4 g R1.toArray
    obtain ⟨w5, hw5⟩ : ∃ W, W = w4.setRow g R1.toArray := ⟨_, rfl⟩
    rw [← hw5] at hcp1 hgb hxb hgr
    have hcp2 : ∀ ty, (Builtin.copy_ #[59, 29] ty #[.slice (some ⟨g, i * 4, none⟩) (n + 1 - i) (cap - i), .slice (some ⟨vb, 0, none⟩) 1 1]).run Tryz.prog w5 = .ok (goInt (Nat.min 1 (n + 1 - i) : Nat)) (w5.setRow g R2.toArray) := fun ty => by
      rw [hR2']
      have h0 := run_copy_rows Tryz.prog w5 59 29 ty 38 g (i * 4) (n + 1 - i) (cap - i) ⟨vb, 0, none⟩ 1 1 R1.toArray 38 (prs x) 4 Tryz.underlying59 (by kernel_rfl) hgb (by rw [prs_len]; simp only [Nat.min_def]; split <;> omega) (fun j v hj => by
        rw [add_none, Nat.zero_add, hxb.cell]; simpa using hj) (by rw [prs_len, List.size_toArray, z1]; omega) (prs_one x)
      rw [prs_len] at h0
      exact h0
    have hgb2 := row_blk (cs := R2.toArray) hgb
    have hgr2 := row_grown w5 g R2.toArray
    have hww : w.grownBy w4 (some g) := ⟨hR2.os, hR2.tape, hR2.output, hR2.size, fun k hk _ => hR2.block k hk⟩
    have hfin := (hww.trans hgr).trans hgr2
    replace hfin := Lib.hid hfin
    replace hgb2 := Lib.hid hgb2
    replace z2 := Lib.hid z2
    replace z3 := Lib.hid z3
    clear hg4 hx4 hF hszl z1 hFl hR1 hR2' hgb hxb hgr hw5 hgr2 hww hR2
    subst hfr
    refine wpList_copy_runI _ rfl _ _ 59 59 rfl _ _ rfl rfl (hcp1 _) ?_
    clear hcp1
    go_wp2_with (at_builtin; refine wpList_copy_runI _ rfl _ _ 59 29 rfl _ _ rfl rfl (hcp2 _) ?_)
    go_ret
    exact ⟨rfl, hfin.out, R2, hgb2.out, z2.out, z3.out⟩
end Go.Proofs.YtkpikpaepgknnaaGreatDoor

/- A property put into a row that is full. No condition. -/
namespace Go.Proofs.YtkpikpaepgknnaaGreatDoor
open Go Go.RowKit Go.Wk Go.Xt Go.Xe Go.Xw
def GJ (g q n cap G i : Nat) : Nat → Value → World → Prop := fun j v _ => match j with
  | 0 => v = .slice (some ⟨q, 0, none⟩) (n + 1) G
  | 1 => v = .int .i64 (i : Nat)
  | 2 => v = .int .i64 1
  | 3 => v = .int .i64 ((i : Int) + 1)
  | 4 => v = .slice (some ⟨q, (i + 1) * 4, none⟩) (n - i) (G - (i + 1))
  | 5 => v = .slice (some ⟨g, 0, none⟩) n cap
  | 6 => v = .int .i64 (i : Nat)
  | _ => v = .slice (some ⟨g, i * 4, none⟩) (n - i) (cap - i)
theorem GJ_mono {g q n cap G i : Nat} (j : Nat) (v : Value) (w w' : World) (hG : GJ g q n cap G i j v w) (hk : Below w.heap.size w w') : GJ g q n cap G i j v w' := by
  unfold GJ at hG ⊢; exact hG
def zP : Value := .agg #[.string ⟨#[]⟩, .string ⟨#[]⟩, .int .i64 0, .slice none 0 0]
theorem zero_len (k : Nat) : (Builtin.zeroCells zP.cells k).size = k * 4 := by simp [Builtin.zeroCells, zP, Value.cells]
/-- the plain row behind both copies -/
theorem row_new {ROW : List Value} {l : List PA} {x : PA} {n i G : Nat} (hl : l.length = n) (hi : i < n) (hG : n + 1 ≤ G) (hsz : ROW.length = G * 4) (htk : ROW.take (i * 4) = (flatP l).take (i * 4)) :
    ∀ F R1 R2 : List Value, F = (flatP l).drop (i * 4) → R1 = ROW.take (i * 4) ++ prs x ++ ROW.drop (i * 4 + 4) → R2 = R1.take ((i + 1) * 4) ++ F ++ R1.drop ((i + 1) * 4 + F.length) →
    R1.length = G * 4 ∧ R2.length = G * 4 ∧ R2.take ((n + 1) * 4) = flatP (l.take i ++ x :: l.drop i) := by
  intro F R1 R2 eF eR1 eR2
  have hf : (flatP l).length = n * 4 := by rw [Xw.flat_len, hl]
  have hF : F.length = n * 4 - i * 4 := by rw [eF, List.length_drop, hf]
  have hp : (prs x).length = 4 := rfl
  have h1 : R1.length = G * 4 := by
    rw [eR1, List.length_append, List.length_append, List.length_take, List.length_drop, hp, hsz]; omega
  have h2 : R2.length = G * 4 := by
    rw [eR2, List.length_append, List.length_append, List.length_take, List.length_drop, hF, h1]; omega
  refine ⟨h1, h2, ?_⟩
  have e1 : R1.take ((i + 1) * 4) = (flatP l).take (i * 4) ++ prs x := by
    have e0 : ((flatP l).take (i * 4) ++ prs x).length = (i + 1) * 4 := by rw [List.length_append, List.length_take, hp, hf]; omega
    rw [eR1, htk, List.take_append_of_le_length (by omega), List.take_of_length_le (by omega)]
  have hlen : ((flatP l).take (i * 4) ++ prs x ++ F).length = (n + 1) * 4 := by
    rw [List.length_append, List.length_append, List.length_take, hp, hF, hf]; omega
  rw [eR2, e1, List.take_append_of_le_length (by omega), List.take_of_length_le (by omega), flat_app, flat_take]
  have : flatP (x :: l.drop i) = prs x ++ flatP (l.drop i) := rfl
  rw [this, flat_drop, ← eF, List.append_assoc]
set_option maxHeartbeats 8000000 in
set_option maxRecDepth 100000 in
theorem ins_grow {w : World} (g cap n i : Nat) (cur : Array Value) (l : List PA) (hl : l.length = n) (hi : i < n) (hn : n ≤ 20) (hroom : cap < n + 1) (hnc : n ≤ cap) (hg : Blk w g 38 cur) (hsz : cur.size = cap * 4) (htk : cur.toList.take (n * 4) = flatP l) (vb : Nat) (x : PA) (hx : Blk w vb 38 (prs x).toArray) :
    Calls Tryz.prog 59 #[.slice (some ⟨g, 0, none⟩) n cap, .int .i64 (i : Nat), .slice (some ⟨vb, 0, none⟩) 1 1] w fun e w' => ∃ G, e = .returned (.slice (some ⟨w.heap.size, 0, none⟩) (n + 1) G) ∧ n + 1 ≤ G ∧ G ≤ maxLen ∧ Below w.heap.size w w' ∧ ∃ R : List Value, Blk w' w.heap.size 38 R.toArray ∧ R.length = G * 4 ∧ R.take ((n + 1) * 4) = flatP (l.take i ++ x :: l.drop i) := by
  obtain ⟨i0, hi0, hz0, hzs, hzb⟩ := prop_info
  have hz3 : (cap : Int) < (n : Int) + 1 := by omega
  have hkk : (n : Int) + 1 - (i : Int) = ((n + 1 - i : Nat) : Int) := by omega
  have hik : i + (n + 1 - i) = n + 1 := by omega
  have hcell : ∀ j v, j < n * 4 → (flatP l)[j]? = some v → w.cell? ⟨g, j, none⟩ = some v := fun j v hj h => by
    rw [hg.cell, ← Array.getElem?_toList]
    rw [← htk, List.getElem?_take, if_pos hj] at h
    exact h
  have hold : (Builtin.firstCells i0.size i (.slice (some ⟨g, 0, none⟩) i cap)).run Tryz.prog w.drew = .ok ((flatP l).take (i * 4)).toArray w.drew := by
    rw [hzs]
    exact run_firstCells_some w.drew 4 i ⟨g, 0, none⟩ i cap ((flatP l).take (i * 4)) (by rw [List.length_take, Xw.flat_len, hl]; omega) (fun j v hj => by
      rw [add_none, Nat.zero_add]
      rw [List.getElem?_take] at hj
      split at hj
      · exact hcell j v (by omega) hj
      · cases hj)
  obtain ⟨G, hG⟩ : ∃ G, G = grownCap w (n + 1) cap 38 := ⟨_, rfl⟩
  obtain ⟨ROW, hROW⟩ : ∃ ROW : Array Value, ROW = ((flatP l).take (i * 4)).toArray ++ Builtin.zeroCells zP.cells (n + 1 - i) ++ Builtin.zeroCells zP.cells (G - (n + 1)) := ⟨_, rfl⟩
  obtain ⟨W1, hW1⟩ : ∃ W1, W1 = w.drew.alloc (.cells ROW 38) := ⟨_, rfl⟩
  have hrz : ∀ ty, (Builtin.append_ #[59, 3] ty #[.slice (some ⟨g, 0, none⟩) i cap, .int .i64 ((n : Int) + 1 - (i : Int))]).run Tryz.prog w = .ok (.slice (some ⟨w.heap.size, 0, none⟩) (n + 1) G) W1 := fun ty => by
    have h := Lib.run_append_grow_zeros w 59 3 ty 38 i0 zP .i64 .i64 Tryz.underlying59 Tryz.underlying3 hi0 hz0 (some ⟨g, 0, none⟩) i cap ((flatP l).take (i * 4)) hold (n + 1 - i) (by omega) (by omega) (by omega) (by omega) (by rw [hzb]; omega) (by rw [hzb, hik]; exact growslice_fits (by omega) (by omega))
    rw [hik] at h
    rw [hkk, hW1, hROW, hG]
    exact h
  have hGn : n + 1 ≤ G := by rw [hG]; exact grownCap_ge w _ _ _
  have hGm : G ≤ maxLen := by rw [hG]; exact grownCap_le_maxLen w (n + 1) cap 38 (by unfold maxLen; omega)
  have hG63 : G ≤ 9223372036854775807 := by unfold maxLen at hGm; omega
  have hRs : ROW.toList.length = G * 4 := by
    rw [Array.length_toList, hROW, Array.size_append, Array.size_append, List.size_toArray, zero_len, zero_len, List.length_take, Xw.flat_len, hl]; omega
  have hRt : ROW.toList.take (i * 4) = (flatP l).take (i * 4) := by
    have hlen : ((flatP l).take (i * 4)).length = i * 4 := by rw [List.length_take, Xw.flat_len, hl]; omega
    rw [hROW, Array.toList_append, Array.toList_append, List.append_assoc, List.take_append_of_le_length (by show i * 4 ≤ ((flatP l).take (i * 4)).length; omega)]
    exact List.take_of_length_le (by show ((flatP l).take (i * 4)).length ≤ i * 4; omega)
  have hb1 : Below w.heap.size w W1 := by rw [hW1]; exact ((Below.refl _ _).drew).alloc (Nat.le_refl _) _
  have hq1 : Blk W1 w.heap.size 38 ROW := by rw [hW1]; exact Blk.new w.drew 38 ROW
  have hx1 := hx.below hb1 hx.lt
  have hg1 := hg.below hb1 hg.lt
  obtain ⟨F, hF⟩ : ∃ F, F = (flatP l).drop (i * 4) := ⟨_, rfl⟩
  have hFl : F.length = (n - i) * 4 := by rw [hF, List.length_drop, Xw.flat_len, hl]; omega
  obtain ⟨R1, hR1⟩ : ∃ R, R = ROW.toList.take (i * 4) ++ prs x ++ ROW.toList.drop (i * 4 + 4) := ⟨_, rfl⟩
  obtain ⟨R2, hR2'⟩ : ∃ R, R = R1.take ((i + 1) * 4) ++ F ++ R1.drop ((i + 1) * 4 + F.length) := ⟨_, rfl⟩
  obtain ⟨z1, z2, z3⟩ := row_new (x := x) hl hi hGn hRs hRt F R1 R2 hF hR1 hR2'
  obtain ⟨W2, hW2⟩ : ∃ W2, W2 = W1.setRow w.heap.size R1.toArray := ⟨_, rfl⟩
  have hcpA : ∀ ty, (Builtin.copy_ #[59, 29] ty #[.slice (some ⟨w.heap.size, i * 4, none⟩) (n + 1 - i) (G - i), .slice (some ⟨vb, 0, none⟩) 1 1]).run Tryz.prog W1 = .ok (goInt (Nat.min 1 (n + 1 - i) : Nat)) W2 := fun ty => by
    rw [hW2, hR1]
    have h0 := run_copy_rows Tryz.prog W1 59 29 ty 38 w.heap.size (i * 4) (n + 1 - i) (G - i) ⟨vb, 0, none⟩ 1 1 ROW 38 (prs x) 4 Tryz.underlying59 (by kernel_rfl) hq1 (by rw [prs_len]; simp only [Nat.min_def]; split <;> omega) (fun j v hj => by
      rw [add_none, Nat.zero_add, hx1.cell]; simpa using hj) (by rw [prs_len]; rw [Array.length_toList] at hRs; omega) (prs_one x)
    rw [prs_len] at h0
    exact h0
  have hq2 : Blk W2 w.heap.size 38 R1.toArray := by rw [hW2]; exact row_blk hq1
  have hgr2 : W1.grownBy W2 (some w.heap.size) := by rw [hW2]; exact row_grown W1 _ _
  have hg2 : Blk W2 g 38 cur := hg1.grown hgr2 (by intro e; injection e with e; have := hg.lt; omega)
  have hb2 : Below w.heap.size w W2 := hb1.grown hgr2 hb1.size (fun k hk => by injection hk with hk; omega)
  have hGi : ¬ (G = i) := by omega
  have hGim : ¬ (G = i + 1) := by omega
  have hci : ¬ (cap = i) := by omega
  have hw1 : IntKind.i64.wrap ((i : Int) + 1) = (i : Int) + 1 := by rw [IntKind.wrap_i64]; omega
  have hb1' : (0 : Int) ≤ (i : Int) + 1 := by omega
  have htn : ((i : Int) + 1).toNat = i + 1 := by omega
  have hz2 : ¬ ((i : Int) = (n : Int)) := by omega
  have hin : i ≤ n := by omega
  clear hkk hik hold hROW hG hRs hRt hcell hi0 hz0 hzs hzb hR1 hx1 hg1 hq1 hb1 hgr2 hW1
  replace hb2 := Lib.hid hb2
  replace hg2 := Lib.hid hg2
  replace hq2 := Lib.hid hq2
  replace hW2 := Lib.hid hW2
  replace hF := Lib.hid hF
  replace hFl := Lib.hid hFl
  replace hR2' := Lib.hid hR2'
  replace z1 := Lib.hid z1
  replace z2 := Lib.hid z2
  replace z3 := Lib.hid z3
  replace htk := Lib.hid htk
  replace hl := Lib.hid hl
  replace hsz := Lib.hid hsz
  replace hGm := Lib.hid hGm
  clear hg hx
  go_enter Tryz.func59, Tryz.ntmps59
  go_wp2_with (first
    | (at_builtin; refine Lib.wpList_append_run _ rfl _ _ _ _ rfl _ _ rfl rfl _ _ (hrz _) ?_)
    | (at_builtin; refine wpList_copy_runI _ rfl _ _ 59 29 rfl _ _ rfl rfl (hcpA _) ?_))
  clear hrz hcpA
  generalize ((i : Int) == (n : Int)) = bb
  generalize decide ((cap : Int) < (n : Int) + 1) = bc
  obtain ⟨q, hq⟩ : ∃ q, q = w.heap.size := ⟨_, rfl⟩
  rw [← hq] at hq2 ⊢
  replace hq := Lib.hid hq
  refine wp_lin_tail (by kernel_rfl) [none, none, none, none, none, none, none, none, none, none, none, none, none, none, none, none, none, none, none, none, none, none, none, none, none, none, none, none, none, none, none, none, none, none, none, none, none, none, none, none, none, none, none, none, none, none, some 0, some 1, some 2, some 3, some 4, some 5, some 6, some 7, none, none, none, none, none, none, none, none, none, none, none, none, none, none, none, none, none, none, none, none, none, none, none, none, none, none, none, none, none, none, none, none, none, none, none, none, none, none, none, none, none] (fun w' => Below W2.heap.size W2 w') (fun w' w'' => Below w'.heap.size w' w'') (GJ g q n cap G i) (by rfl) (by kernel_rfl) 8 _ rfl (by decide) (by kernel_rfl) [4, 3, 3, 4, 8, 7, 7, 8] (by kernel_rfl) ?shR ?smono (.cons 7 (Wk.step_of [5, 6] rfl (by kernel_rfl) ?s7) (.cons 6 (Wk.step_of [] rfl (by kernel_rfl) ?s6) (.cons 5 (Wk.step_of [] rfl (by kernel_rfl) ?s5) (.cons 4 (Wk.step_of [0, 3] rfl (by kernel_rfl) ?s4) (.cons 3 (Wk.step_of [1, 2] rfl (by kernel_rfl) ?s3) (.cons 2 (Wk.step_of [] rfl (by kernel_rfl) ?s2) (.cons 1 (Wk.step_of [] rfl (by kernel_rfl) ?s1) (.cons 0 (Wk.step_of [] rfl (by kernel_rfl) ?s0) (.nil))))))))) ?sdone
  case shR => exact (Below.refl _ _).drew
  case smono => exact GJ_mono
  case s0 =>
    intro x' w' hRw hd K' hK
    simp only [All, GJ] at hd
    simp (config := {decide := true}) only [upd, GJ, fillL, if_true, if_false] at hK ⊢
    go_simp
    have hK2 := hK _ _ ⟨hRw, Below.refl _ _, rfl⟩
    exact hK2
  case s1 =>
    intro x' w' hRw hd K' hK
    simp only [All, GJ] at hd
    simp (config := {decide := true}) only [upd, GJ, fillL, if_true, if_false] at hK ⊢
    go_simp
    have hK2 := hK _ _ ⟨hRw, Below.refl _ _, rfl⟩
    exact hK2
  case s2 =>
    intro x' w' hRw hd K' hK
    simp only [All, GJ] at hd
    simp (config := {decide := true}) only [upd, GJ, fillL, if_true, if_false] at hK ⊢
    go_simp
    have hK2 := hK _ _ ⟨hRw, Below.refl _ _, rfl⟩
    exact hK2
  case s3 =>
    intro x' w' hRw hd K' hK
    simp only [All, GJ] at hd
    obtain ⟨e1, e2, _⟩ := hd
    simp (config := {decide := true}) only [upd, GJ, fillL, if_true, if_false] at hK ⊢
    simp only [e1, e2] at hK ⊢
    go_simp
    have hK2 := hK _ _ ⟨hRw, Below.refl _ _, rfl⟩
    exact hK2
  case s4 =>
    intro x' w' hRw hd K' hK
    simp only [All, GJ] at hd
    obtain ⟨e0, e3, _⟩ := hd
    simp (config := {decide := true}) only [upd, GJ, fillL, if_true, if_false] at hK ⊢
    simp only [e0, e3] at hK ⊢
    go_simp
    have hK2 := hK _ _ ⟨hRw, Below.refl _ _, rfl⟩
    exact hK2
  case s5 =>
    intro x' w' hRw hd K' hK
    simp only [All, GJ] at hd
    simp (config := {decide := true}) only [upd, GJ, fillL, if_true, if_false] at hK ⊢
    go_simp
    have hK2 := hK _ _ ⟨hRw, Below.refl _ _, rfl⟩
    exact hK2
  case s6 =>
    intro x' w' hRw hd K' hK
    simp only [All, GJ] at hd
    simp (config := {decide := true}) only [upd, GJ, fillL, if_true, if_false] at hK ⊢
    go_simp
    have hK2 := hK _ _ ⟨hRw, Below.refl _ _, rfl⟩
    exact hK2
  case s7 =>
    intro x' w' hRw hd K' hK
    simp only [All, GJ] at hd
    obtain ⟨e5, e6, _⟩ := hd
    simp (config := {decide := true}) only [upd, GJ, fillL, if_true, if_false] at hK ⊢
    simp only [e5, e6] at hK ⊢
    go_simp
    have hK2 := hK _ _ ⟨hRw, Below.refl _ _, rfl⟩
    exact hK2
  case sdone =>
    intro x' w4 hR2 hG fr hfr
    have e4 := hG 4 (by omega)
    have e7 := hG 7 (by omega)
    simp only [GJ] at e4 e7
    simp only [fillL] at hfr
    rw [e4, e7] at hfr
    clear hG e4 e7
    have hg4 := hg2.out.below hR2 hg2.out.lt
    have hq4 := hq2.out.below hR2 hq2.out.lt
    have hcpB : ∀ ty, (Builtin.copy_ #[59, 59] ty #[.slice (some ⟨q, (i + 1) * 4, none⟩) (n - i) (G - (i + 1)), .slice (some ⟨g, i * 4, none⟩) (n - i) (cap - i)]).run Tryz.prog w4 = .ok (goInt (Nat.min (n - i) (n - i) : Nat)) (w4.setRow q R2.toArray) := fun ty => by
      rw [hR2'.out]
      exact run_copy_rows Tryz.prog w4 59 59 ty 38 q ((i + 1) * 4) (n - i) (G - (i + 1)) ⟨g, i * 4, none⟩ (n - i) (cap - i) R1.toArray 38 F 4 Tryz.underlying59 (by kernel_rfl) hq4 (by rw [hFl.out]; simp only [Nat.min_def]; split <;> omega) (fun j v hj => by
        rw [add_none, hg4.cell]
        rw [hF.out, List.getElem?_drop, ← htk.out, List.getElem?_take] at hj
        split at hj
        · rw [← Array.getElem?_toList]; exact hj
        · cases hj) (by rw [hFl.out, List.size_toArray, z1.out]; omega) (fun v hv => flat_one l v (by rw [hF.out] at hv; exact List.mem_of_mem_drop hv))
    have hqf := row_blk (cs := R2.toArray) hq4
    have hbf : Below w.heap.size w (w4.setRow q R2.toArray) := (hb2.out.trans (hR2.mono hb2.out.size)).grown (row_grown w4 q _) (Nat.le_trans hb2.out.size hR2.size) (fun k hk => by injection hk with hk; have := hq.out; omega)
    replace hqf := Lib.hid hqf
    replace hbf := Lib.hid hbf
    clear hg4 hq4 hR2
    subst hfr
    refine wpList_copy_runI _ rfl _ _ 59 59 rfl _ _ rfl rfl (hcpB _) ?_
    clear hcpB
    go_wp2
    go_ret
    have hqe := hq.out
    clear hq
    subst hqe
    exact ⟨G, rfl, hGn, hGm.out, hbf.out, R2, hqf.out, z2.out, z3.out⟩
/-- wherever it is put -/
theorem xmp_insert {w : World} (B : Nat) (v : Value) (l : List PA) (i : Nat) (hi : i ≤ l.length) (hn : l.length ≤ 20) (hO : w.ownsRow B 38 4 v l.length (flatP l)) (vb : Nat) (x : PA) (hx : Blk w vb 38 (prs x).toArray) (hne : v.ownBlock ≠ some vb) (hB : B ≤ w.heap.size) :
    Calls Tryz.prog 59 #[v, .int .i64 (i : Nat), .slice (some ⟨vb, 0, none⟩) 1 1] w fun e w' => ∃ v', e = .returned v' ∧ w'.ownsRow B 38 4 v' (l.length + 1) (flatP (l.take i ++ x :: l.drop i)) ∧ w.grownBy w' v.ownBlock ∧ Offs w v v' := by
  have hlen : (flatP (l.take i ++ x :: l.drop i)).length = (l.length + 1) * 4 := by
    rw [Xw.flat_len, List.length_append, List.length_cons, List.length_take, List.length_drop]; omega
  by_cases hin : i = l.length
  · subst hin
    refine (ins_end B v l.length (flatP l) hO hn vb x hx hB).mono ?_
    rintro e w' ⟨v', rfl, h1, h2, h3⟩
    refine ⟨v', rfl, ?_, h2, h3⟩
    rw [List.take_of_length_le (Nat.le_refl _), List.drop_of_length_le (Nat.le_refl _), flat_app]
    exact h1
  · rcases hO.2 with ⟨_, h0⟩ | ⟨g, cap, cur, rfl, hg1, hg2, hcp, hcm, hsz, htk⟩
    · omega
    · by_cases hroom : l.length + 1 ≤ cap
      · refine (ins_room g cap l.length i cur l rfl (by omega) hn hroom hcm hg2 hsz htk vb x hx (fun e => hne (by rw [e]; rfl))).mono ?_
        rintro e w' ⟨rfl, h1, R, h2, h3, h4⟩
        exact ⟨_, rfl, ⟨hlen, .inr ⟨g, cap, R.toArray, rfl, hg1, h2, hroom, hcm, by rw [List.size_toArray]; exact h3, h4⟩⟩, h1, fun k hk => .inl hk⟩
      · refine (ins_grow g cap l.length i cur l rfl (by omega) hn (by omega) hcp hg2 hsz htk vb x hx).mono ?_
        rintro e w' ⟨G, rfl, h1, h2, h3, R, h4, h5, h6⟩
        exact ⟨_, rfl, ⟨hlen, .inr ⟨w.heap.size, G, R.toArray, rfl, hB, h4, h1, h2, by rw [List.size_toArray]; exact h5, h6⟩⟩, ⟨h3.os, h3.tape, h3.output, h3.size, fun k hk _ => h3.block k hk⟩, fun k hk => .inr (Nat.le_of_eq (Option.some.inj hk))⟩
end Go.Proofs.YtkpikpaepgknnaaGreatDoor

/- A drawn region of two phases: operations that only reckon may come ahead of the one that writes, or behind it. No condition. -/
namespace Go.Wk
open Go
/-- what only reckons -/
def AllU (G : Nat → Value → Prop) (x : Nat → Value) : List Nat → Prop
  | [] => True
  | j :: js => G j (x j) ∧ AllU G x js
theorem allU_of {G : Nat → Value → Prop} {x : Nat → Value} : ∀ {js : List Nat}, (∀ j ∈ js, G j (x j)) → AllU G x js
  | [], _ => trivial
  | _ :: _, h => ⟨h _ (List.mem_cons_self ..), allU_of fun j hj => h j (List.mem_cons_of_mem _ hj)⟩
def StepU (P : Program) (ops : Array Oper) (Q : Exit → Act → World → Prop) (mk : (Nat → Value) → Act) (GU : Nat → Value → Prop) (i : Nat) : Prop :=
  ∀ x w, (∀ j ∈ afters ops i, GU j (x j)) → wpOp P ops Q i (fun a' w' => ∃ v, a' = mk (upd x i v) ∧ w' = w ∧ GU i v) (mk x) w
theorem stepU_of {P : Program} {ops : Array Oper} {Q : Exit → Act → World → Prop} {mk : (Nat → Value) → Act} {GU : Nat → Value → Prop} {i : Nat} {o : Oper} (js : List Nat)
    (ho : ops[i]? = some o) (hj : (js.all fun j => (afters ops i).contains j) = true)
    (h : ∀ x w, AllU GU x js → ∀ K : Act → World → Prop, (∀ v, GU i v → K (mk (upd x i v)) w) →
      if Region.wanted o (yielded ops (mk x).tmps) = true then Oper.wp P o (mk x) w K Q else K ((mk x).put o.dst undef) w) : StepU P ops Q mk GU i := by
  intro x w hd
  unfold wpOp
  simp only [ho]
  have h1 := h x w (allU_of fun j hj' => hd j (List.contains_iff_mem.1 (List.all_eq_true.1 hj j hj'))) (fun a' w' => ∃ v, a' = mk (upd x i v) ∧ w' = w ∧ GU i v) (fun v h => ⟨v, rfl, rfl, h⟩)
  split
  · rename_i hw; rw [if_pos hw] at h1; exact .inl h1
  · rename_i hw; rw [if_neg hw] at h1; obtain ⟨v, h2, h3⟩ := h1; exact ⟨v, h2, by simp, by simpa using h3⟩
section
variable {P : Program} {ops : Array Oper} {Q : Exit → Act → World → Prop}
theorem wpAny_two (mk : (Nat → Value) → Act) {R : World → Prop} {Keeps : World → World → Prop} {Good : Nat → Value → World → Prop} {F : Value → World → Prop} {GU : Nat → Value → Prop} (U : Nat → Bool) (n last : Nat) (hnl : n < last) (hlast : last < ops.size) (l : List Oper) (hll : last + l.length = ops.size) (hl : ∀ j, l[j]? = ops[last + j]?)
    (chain : ((List.range ops.size).all fun j => Nat.ble j last || (afters ops j).contains (j - 1)) = true)
    (back : ((List.range ops.size).all fun i => (afters ops i).all fun j => decide (j < i)) = true)
    (hUn : U n = false) (hbe : ∀ i, n < i → i < last → U i = true)
    (closed : ∀ i, i < last → U i = true → ∀ j ∈ afters ops i, U j = true)
    (wit : List Nat) (cover : ∀ i, i < n → U i = false → i ∈ afters ops (wit.getD i 0) ∧ wit.getD i 0 ≤ n ∧ U (wit.getD i 0) = false)
    (wit2 : List Nat) (cover2 : ∀ i, i < last → i ∈ afters ops (wit2.getD i 0) ∧ wit2.getD i 0 ≤ last)
    (nafter : ∀ j ∈ afters ops n, U j = false ∨ True)
    (mono : ∀ i v w w', U i = false → Good i v w → Keeps w w' → Good i v w')
    (step : ∀ i, i < n → U i = false → ∀ x w, R w → (∀ j ∈ afters ops i, U j = false → Good j (x j) w) → (∀ j ∈ afters ops i, U j = true → GU j (x j)) → wpOp P ops Q i (fun a' w' => ∃ v, a' = mk (upd x i v) ∧ R w' ∧ Keeps w w' ∧ Good i v w') (mk x) w)
    (stepU : ∀ i, i < last → U i = true → StepU P ops Q mk GU i)
    (stepN : ∀ x w, R w → (∀ i, i < n → U i = false → Good i (x i) w) → (∀ j ∈ afters ops n, U j = true → GU j (x j)) → wpOp P ops Q n (fun a' w' => ∃ v, a' = mk (upd x n v) ∧ F v w') (mk x) w)
    (fin : ∀ x w, F (x n) w → (∀ i, i < last → U i = true → GU i (x i)) → wpList P ops Q l (mk x) w) :
    ∀ (fuel : Nat) (listed : Array Bool) (x : Nat → Value) (w : World), listed.toList.count false ≤ fuel → listed.size = ops.size → (∀ j, last ≤ j → j < ops.size → listed.getD j false = false) →
      (∀ i, i < ops.size → listed.getD i false = true → ∀ j ∈ afters ops i, listed.getD j false = true) → (∀ i, i < last → U i = true → listed.getD i false = true → GU i (x i)) →
      ((listed.getD n false = false ∧ R w ∧ (∀ i, i < n → U i = false → listed.getD i false = true → Good i (x i) w)) ∨ ((∀ i, i < last → U i = false → listed.getD i false = true) ∧ F (x n) w)) → wpAny P .any ops Q fuel listed (mk x) w := by
  intro fuel
  induction fuel with
  | zero =>
    intro listed x w hc hs hl0 hd hgu hph
    exact (count_none (i := last) (by omega) (hl0 last (Nat.le_refl _) hlast) hc).elim
  | succ fuel ih =>
    intro listed x w hc hs hl0 hd hgu hph
    refine ⟨fun hr => absurd (all_listed back hs hr last (by omega)) (by rw [hl0 last (Nat.le_refl _) hlast]; simp), fun i hi => ?_⟩
    have hi0 := hi
    obtain ⟨hi', h1, haft⟩ := ready_after hi
    have hd' : ∀ k, k < ops.size → (listed.setIfInBounds i true).getD k false = true → ∀ j ∈ afters ops k, (listed.setIfInBounds i true).getD j false = true := by
      intro k hk hkl j hj
      rw [getD_set _ _ _ _ (by omega)] at hkl ⊢
      by_cases hji : j = i
      · rw [if_pos hji]
      · rw [if_neg hji]
        by_cases hki : k = i
        · subst hki; exact haft j hj
        · rw [if_neg hki] at hkl; exact hd k hk hkl j hj
    have hcu := count_up (fuel := fuel) (by omega) h1 hc
    by_cases hil : i = last
    · subst hil
      -- all others are done
      have hothers : ∀ m k, k < i → i ≤ k + m → listed.getD k false = true := by
        intro m
        induction m with
        | zero => intro k hk hm; omega
        | succ m ihm =>
          intro k hk hm
          obtain ⟨hjk, hjn⟩ := cover2 k hk
          obtain ⟨j, hjj⟩ : ∃ j, j = wit2.getD k 0 := ⟨_, rfl⟩
          rw [← hjj] at hjk hjn
          have hlt := afters_lt (n := 0) back j k (by omega) hjk
          by_cases hji : j = i
          · subst hji; exact haft k hjk
          · exact hd j (by omega) (ihm j (by omega) (by omega)) k hjk
      rcases hph with ⟨hn0, _⟩ | ⟨hnu, hF⟩
      · rw [hothers i n hnl (by omega)] at hn0; cases hn0
      · have htail := fin x w hF fun k hk hu => hgu k hk hu (hothers i k hk (by omega))
        have hiff : ∀ q, q < ops.size → (listed.getD q false = true ↔ q < i) := fun q hq => by
          constructor
          · intro h
            rcases Nat.lt_or_ge q i with h' | h'
            · exact h'
            · rw [hl0 q h' hq] at h; cases h
          · exact fun h => hothers i q h (by omega)
        have hfin := wpAny_tail (P := P) (Q := Q) i back chain l i (fuel + 1) listed (mk x) w (Nat.le_refl _) hll hl hs hc hiff htail
        exact hfin.2 i hi0
    · have hill : i < last := by
        rcases Nat.lt_or_ge i last with h | h
        · exact h
        · exfalso
          have hch := List.all_eq_true.1 chain i (List.mem_range.2 hi')
          rw [Bool.or_eq_true] at hch
          rcases hch with hch | hch
          · have := Nat.le_of_ble_eq_true hch; omega
          · have := haft _ (List.contains_iff_mem.1 hch)
            rw [hl0 (i - 1) (by omega) (by omega)] at this; cases this
      have hl0' : ∀ j, last ≤ j → j < ops.size → (listed.setIfInBounds i true).getD j false = false := fun j hj hj2 => by rw [getD_set _ _ _ _ (by omega), if_neg (by omega)]; exact hl0 j hj hj2
      by_cases hui : U i = true
      · refine wpOp_mono ?_ (stepU i hill hui x w fun j hj => hgu j (by have := afters_lt (n := 0) back i j hi' hj; omega) (closed i hill hui j hj) (haft j hj))
        rintro a' w' ⟨v, rfl, rfl, hg⟩
        refine ih _ _ _ hcu (by simpa using hs) hl0' hd' ?_ ?_
        · intro j hj hju hjl
          rw [getD_set _ _ _ _ (by omega)] at hjl
          unfold upd
          by_cases hji : j = i
          · subst hji; simpa using hg
          · rw [if_neg hji] at hjl ⊢
            exact hgu j hj hju hjl
        · rcases hph with ⟨hn0, hR, hG⟩ | ⟨hnu, hF⟩
          · have hni : n ≠ i := fun e => by rw [← e, hUn] at hui; cases hui
            refine .inl ⟨by rw [getD_set _ _ _ _ (by omega), if_neg hni]; exact hn0, hR, fun j hj hju hjl => ?_⟩
            have hji : j ≠ i := fun e => by rw [e, hui] at hju; cases hju
            rw [getD_set _ _ _ _ (by omega), if_neg hji] at hjl
            unfold upd; rw [if_neg hji]; exact hG j hj hju hjl
          · have hni : n ≠ i := fun e => by rw [← e, hUn] at hui; cases hui
            refine .inr ⟨fun j hj hju => ?_, by unfold upd; rw [if_neg hni]; exact hF⟩
            have hji : j ≠ i := fun e => by rw [e, hui] at hju; cases hju
            rw [getD_set _ _ _ _ (by omega), if_neg hji]; exact hnu j hj hju
      · have hui : U i = false := by simpa using hui
        rcases hph with ⟨hn0, hR, hG⟩ | ⟨hnu, hF⟩
        · have hin : i ≤ n := by
            rcases Nat.lt_or_ge n i with h | h
            · rw [hbe i h hill] at hui; cases hui
            · exact h
          by_cases hni : i = n
          · subst hni
            have hothers : ∀ m k, k < i → i ≤ k + m → U k = false → listed.getD k false = true := by
              intro m
              induction m with
              | zero => intro k hk hm; omega
              | succ m ihm =>
                intro k hk hm hku
                obtain ⟨hjk, hjn, hju⟩ := cover k hk hku
                obtain ⟨j, hjj⟩ : ∃ j, j = wit.getD k 0 := ⟨_, rfl⟩
                rw [← hjj] at hjk hjn hju
                have hlt := afters_lt (n := 0) back j k (by omega) hjk
                by_cases hji : j = i
                · subst hji; exact haft k hjk
                · exact hd j (by omega) (ihm j (by omega) (by omega) hju) k hjk
            refine wpOp_mono ?_ (stepN x w hR (fun k hk hku => hG k hk hku (hothers i k hk (by omega) hku)) (fun j hj hju => hgu j (by have := afters_lt (n := 0) back i j hi' hj; omega) hju (haft j hj)))
            rintro a' w' ⟨v, rfl, hF⟩
            refine ih _ _ _ hcu (by simpa using hs) hl0' hd' ?_ (.inr ⟨fun j hj hju => ?_, by unfold upd; simpa using hF⟩)
            · intro j hj hju hjl
              have hji : j ≠ i := fun e => by rw [e, hui] at hju; cases hju
              rw [getD_set _ _ _ _ (by omega), if_neg hji] at hjl
              unfold upd; rw [if_neg hji]; exact hgu j hj hju hjl
            · rw [getD_set _ _ _ _ (by omega)]
              by_cases hji : j = i
              · rw [if_pos hji]
              · rw [if_neg hji]
                rcases Nat.lt_or_ge j i with h | h
                · exact hothers i j h (by omega) hju
                · rw [hbe j (by omega) hj] at hju; cases hju
          · refine wpOp_mono ?_ (step i (by omega) hui x w hR (fun j hj hju => hG j (by have := afters_lt (n := 0) back i j hi' hj; omega) hju (haft j hj)) (fun j hj hju => hgu j (by have := afters_lt (n := 0) back i j hi' hj; omega) hju (haft j hj)))
            rintro a' w' ⟨v, rfl, hR', hK, hg⟩
            refine ih _ _ _ hcu (by simpa using hs) hl0' hd' ?_ (.inl ⟨by rw [getD_set _ _ _ _ (by omega), if_neg (fun e => hni e.symm)]; exact hn0, hR', fun j hj hju hjl => ?_⟩)
            · intro j hj hju hjl
              have hji : j ≠ i := fun e => by rw [e, hui] at hju; cases hju
              rw [getD_set _ _ _ _ (by omega), if_neg hji] at hjl
              unfold upd; rw [if_neg hji]; exact hgu j hj hju hjl
            · rw [getD_set _ _ _ _ (by omega)] at hjl
              unfold upd
              by_cases hji : j = i
              · subst hji; simpa using hg
              · rw [if_neg hji] at hjl ⊢
                exact mono _ _ _ _ hju (hG j hj hju hjl) hK
        · have := hnu i hill hui
          have hil2 : i < listed.size := by omega
          simp only [Array.getD_eq_getD_getElem?, Array.getElem?_eq_getElem hil2, Option.getD_some] at h1 this
          rw [h1] at this; cases this
end
theorem wp_lin_two {P : Program} {ops : Array Oper} {Q : Exit → Act → World → Prop} {id : Nat} {tm : List Value} {df : List Deferred} {w0 : World} (hm : P.follows .mixedOrders = true) (ss : List (Option Nat))
    (R : World → Prop) (Keeps : World → World → Prop) (G : Nat → Value → World → Prop) (F : Value → World → Prop) (GU : Nat → Value → Prop) (U : Nat → Bool)
    (h0 : fillL tm ss (oldX tm ss) = tm)
    (back : ((List.range ops.size).all fun i => (afters ops i).all fun j => decide (j < i)) = true)
    (n last : Nat) (on : Oper) (l : List Oper) (hdr : ops.toList.drop last = l) (hon : ops[n]? = some on) (hnl : n < last) (hls : last < ops.size)
    (chain : ((List.range ops.size).all fun j => Nat.ble j last || (afters ops j).contains (j - 1)) = true)
    (hU : (!U n && ((List.range last).all fun i => (Nat.ble i n || U i) && (!U i || (afters ops i).all U))) = true)
    (wit : List Nat) (cover : ((List.range n).all fun i => U i || ((afters ops (wit.getD i 0)).contains i && Nat.ble (wit.getD i 0) n && !U (wit.getD i 0))) = true)
    (wit2 : List Nat) (cover2 : ((List.range last).all fun i => (afters ops (wit2.getD i 0)).contains i && Nat.ble (wit2.getD i 0) last) = true)
    (hR : R w0.drew)
    (mono : ∀ i v w w', G i v w → Keeps w w' → G i v w')
    (step : Steps (fun i => i = n ∨ (U i = true ∧ StepU P ops Q (fun x => { tmps := (fillL tm ss x).toArray, defers := df }) GU i) ∨ (U i = false ∧ Step P ops Q (fun x => { tmps := (fillL tm ss x).toArray, defers := df }) R Keeps (fun j v w => if U j = true then GU j v else G j v w) i)) last)
    (stepN : ∀ x w, R w → (∀ i, i < n → U i = false → G i (x i) w) → (∀ j ∈ afters ops n, U j = true → GU j (x j)) → ∀ K : Act → World → Prop, (∀ v w', F v w' → K { tmps := (fillL tm ss (upd x n v)).toArray, defers := df } w') →
      ∀ fr, fr = fillL tm ss x → if Region.wanted on (yielded ops fr.toArray) = true then Oper.wp P on { tmps := fr.toArray, defers := df } w K Q else K (({ tmps := fr.toArray, defers := df } : Act).put on.dst undef) w)
    (done : ∀ x w, F (x n) w → (∀ i, i < last → U i = true → GU i (x i)) → ∀ fr, fr = fillL tm ss x → wpList P ops Q l { tmps := fr.toArray, defers := df } w) :
    (Code.region id ops true).wp P Q { tmps := tm.toArray, defers := df } w0 := by
  have e0 : ({ tmps := tm.toArray, defers := df } : Act) = (fun x => ({ tmps := (fillL tm ss x).toArray, defers := df } : Act)) (oldX tm ss) := by simp only [h0]
  rw [e0]
  rw [Bool.and_eq_true] at hU
  have hU2 : ∀ i, i < last → (i ≤ n ∨ U i = true) ∧ (U i = true → ∀ j ∈ afters ops i, U j = true) := fun i hi => by
    have := List.all_eq_true.1 hU.2 i (List.mem_range.2 hi)
    rw [Bool.and_eq_true, Bool.or_eq_true, Bool.or_eq_true] at this
    refine ⟨this.1.imp Nat.le_of_ble_eq_true fun h => h, fun hu j hj => ?_⟩
    rcases this.2 with h | h
    · rw [hu] at h; cases h
    · exact List.all_eq_true.1 h j hj
  have hst := fun i hi => each_all step.each i hi
  refine wp_region_any hm (wpAny_two (R := R) (Keeps := Keeps) (Good := G) (F := F) (GU := GU) (mk := fun x => { tmps := (fillL tm ss x).toArray, defers := df }) U n last hnl hls l (by rw [← hdr]; simp; omega) (fun j => by rw [← hdr, List.getElem?_drop]; simp) chain back (by simpa using hU.1) (fun i h1 h2 => ((hU2 i h2).1).elim (fun h => by omega) fun h => h) (fun i hi hu => (hU2 i hi).2 hu)
    wit (fun i hi hu => by
      have := List.all_eq_true.1 cover i (List.mem_range.2 hi)
      rw [hu, Bool.false_or, Bool.and_eq_true, Bool.and_eq_true] at this
      exact ⟨List.contains_iff_mem.1 this.1.1, Nat.le_of_ble_eq_true this.1.2, by simpa using this.2⟩)
    wit2 (fun i hi => by
      have := List.all_eq_true.1 cover2 i (List.mem_range.2 hi)
      rw [Bool.and_eq_true] at this
      exact ⟨List.contains_iff_mem.1 this.1, Nat.le_of_ble_eq_true this.2⟩)
    (fun _ _ => .inr trivial) (fun i v w w' _ => mono i v w w')
    (fun i hi hu x w hR hg hgu => by
      rcases hst i (by omega) with rfl | ⟨h, _⟩ | ⟨_, h⟩
      · omega
      · rw [hu] at h; cases h
      · refine wpOp_mono ?_ (h x w hR fun j hj => ?_)
        · rintro a' w' ⟨v, h1, h2, h3, h4⟩
          refine ⟨v, h1, h2, h3, ?_⟩
          rw [if_neg (by rw [hu]; simp)] at h4; exact h4
        · cases hq : U j with
          | true => rw [if_pos hq]; exact hgu j hj hq
          | false => rw [if_neg (by rw [hq]; simp)]; exact hg j hj hq)
    (fun i hi hu => by
      rcases hst i hi with rfl | ⟨_, h⟩ | ⟨h, _⟩
      · simp [hu] at hU
      · exact h
      · rw [hu] at h; cases h)
    (fun x w hR hg hgu => by
      have h1 := stepN x w hR hg hgu (fun a' w' => ∃ v, a' = ({ tmps := (fillL tm ss (upd x n v)).toArray, defers := df } : Act) ∧ F v w') (fun v w' h => ⟨v, rfl, h⟩) _ rfl
      unfold wpOp
      simp only [hon]
      split
      · rename_i hw; rw [if_pos hw] at h1; exact .inl h1
      · rename_i hw; rw [if_neg hw] at h1; exact h1)
    (fun x w hF hu => done x w hF hu _ rfl) _ _ _ _ ?_ (by simp) ?_ ?_ ?_ (.inl ⟨?_, hR, ?_⟩))
  · simp
  · intro j _ hj
    simp [Array.getD_eq_getD_getElem?, hj]
  · intro i hi hl
    simp [Array.getD_eq_getD_getElem?, hi] at hl
  · intro i hi _ hl
    have : i < ops.size := by omega
    simp [Array.getD_eq_getD_getElem?, this] at hl
  · have : n < ops.size := by omega
    simp [Array.getD_eq_getD_getElem?, this]
  · intro i hi _ hl
    have : i < ops.size := by omega
    simp [Array.getD_eq_getD_getElem?, this] at hl
end Go.Wk

/- A property put into a list of them. No condition. -/
namespace Go.Proofs.YtkpikpaepgknnaaGreatDoor
open Go Go.RowKit Go.Wk Go.Xt Go.Xe Go.Xw
theorem row_out {w : World} {B : Nat} {v : Value} {l : List PA} (h : w.ownsRow B 38 4 v l.length (flatP l)) : ∃ A g cap, v = .slice A l.length cap ∧ (0 < l.length → A = some ⟨g, 0, none⟩) ∧ l.length ≤ cap ∧ CellsP w g l := by
  rcases h.2 with ⟨rfl, h0⟩ | ⟨g, cap, cur, rfl, _, hh, hnc, _, _, htk⟩
  · have : l = [] := List.eq_nil_of_length_eq_zero h0
    subst this
    exact ⟨none, 0, 0, rfl, fun h => by simp at h, Nat.le_refl _, fun i hi => by simp at hi⟩
  · refine ⟨_, g, cap, rfl, fun _ => rfl, hnc, fun i hi => ?_⟩
    have hc : ∀ j u, (prs l[i])[j]? = some u → j < 4 → w.cell? ⟨g, i * 4 + j, none⟩ = some u := fun j u hu hj => by
      rw [cell_of_row w g _ cur 38 (0, 0) hh, ← Array.getElem?_toList]
      have h1 := flat_at l i j hi hj
      rw [hu, ← htk, List.getElem?_take, if_pos (by omega)] at h1
      exact h1
    exact ⟨hc 0 _ rfl (by omega), hc 1 _ rfl (by omega), hc 2 _ rfl (by omega), hc 3 _ rfl (by omega)⟩
theorem row_kept {w w' : World} {B e s n : Nat} {v : Value} {xs : List Value} (h : w.ownsRow B e s v n xs) (hb : Below w.heap.size w w') : w'.ownsRow B e s v n xs := by
  refine ⟨h.1, ?_⟩
  rcases h.2 with h2 | ⟨g, cap, cur, e', hB, hh, rest⟩
  · exact .inl h2
  · exact .inr ⟨g, cap, cur, e', hB, (hb.block g (Array.getElem?_eq_some_iff.1 hh).1).trans hh, rest⟩
theorem row_lt {w : World} {B e s n q : Nat} {v : Value} {xs : List Value} (h : w.ownsRow B e s v n xs) (hq : v.ownBlock = some q) : B ≤ q ∧ q < w.heap.size := by
  rcases h.2 with ⟨rfl, _⟩ | ⟨g, cap, cur, rfl, hB, hh, _⟩
  · simp [Value.ownBlock] at hq
  · simp [Value.ownBlock] at hq; subst hq; exact ⟨hB, (Array.getElem?_eq_some_iff.1 hh).1⟩
/-- a list of properties in memory -/
structure ListAt (w : World) (L B : Nat) (l : List PA) : Prop where
  v : ∃ v, Blk w L 59 #[v] ∧ w.ownsRow B 38 4 v l.length (flatP l)
  lb : L < B
  size : B ≤ w.heap.size
  sorted : Sorted (pl l)
theorem ListAt.below {w w' : World} {L B : Nat} {l : List PA} (h : ListAt w L B l) (hb : Below w.heap.size w w') : ListAt w' L B l := by
  obtain ⟨⟨v, h1, h2⟩, h3, h4, h5⟩ := h
  exact ⟨⟨v, h1.below hb h1.lt, row_kept h2 hb⟩, h3, Nat.le_trans h4 hb.size, h5⟩
theorem set_gr (w : World) (g i : Nat) (v : Value) : w.grownBy (w.setCell ⟨g, i, none⟩ v) (some g) :=
  ⟨rfl, rfl, rfl, by simp [World.setCell], fun k _ hk => Below.heap_setCell _ _ _ _ (fun e => hk (by rw [e]))⟩
def GA1 (L bx : Nat) (vv : Value) (ax : Array Value) (P : Nat) (Z : Bool) : Nat → Value → World → Prop := fun j v _ => match j with
  | 0 => v = .pointer (some ⟨L, 0, none⟩)
  | 1 => v = .pointer (some ⟨L, 0, none⟩)
  | 2 => v = vv
  | 3 => v = .agg ax
  | 4 => v = .tuple #[.int .i64 (P : Nat), .bool Z]
  | 5 => v = .tuple #[.int .i64 (P : Nat), .bool Z]
  | 6 => v = .int .i64 (P : Nat)
  | 7 => v = .bool Z
  | _ => v = .int .i64 (P : Nat)
theorem GA1_mono {L bx : Nat} {vv : Value} {ax : Array Value} {P : Nat} {Z : Bool} (j : Nat) (v : Value) (w w' : World) (hG : GA1 L bx vv ax P Z j v w) (hk : Below w.heap.size w w') : GA1 L bx vv ax P Z j v w' := by
  unfold GA1 at hG ⊢; exact hG
def GA4 (L S : Nat) (vv : Value) (x : PA) (P : Nat) : Nat → Value → World → Prop := fun j v w => match j with
  | 1 => v = .pointer (some ⟨L, 0, none⟩)
  | 2 => v = .pointer (some ⟨L, 0, none⟩)
  | 3 => v = vv
  | 4 => v = .int .i64 (P : Nat)
  | 5 => v = .agg (prs x).toArray
  | _ => ∃ q, v = .slice (some ⟨q, 0, none⟩) 1 1 ∧ Blk w q 38 (prs x).toArray ∧ S ≤ q
theorem GA4_mono {L S : Nat} {vv : Value} {x : PA} {P : Nat} (j : Nat) (v : Value) (w w' : World) (hG : GA4 L S vv x P j v w) (hk : Below w.heap.size w w') : GA4 L S vv x P j v w' := by
  unfold GA4 at hG ⊢
  split at hG <;> first
    | exact hG
    | (obtain ⟨q, h1, h2, h3⟩ := hG; exact ⟨q, h1, h2.below hk h2.lt, h3⟩)
def UA (i : Nat) : Bool := i == 0
def GUA (L : Nat) : Nat → Value → Prop := fun _ v => v = .pointer (some ⟨L, 0, none⟩)
/-- behind the insertion -/
def KeptP (w w' : World) (vv : Value) : Prop := ∀ j, j < w.heap.size → vv.ownBlock ≠ some j → w'.heap[j]? = w.heap[j]?
/-- all else is as it was, and where the list's row went -/
def Kept2 (w w' : World) (L : Nat) : Prop := ∀ v, Blk w L 59 #[v] → (∀ j, j < w.heap.size → j ≠ L → v.ownBlock ≠ some j → w'.heap[j]? = w.heap[j]?) ∧ ∀ v', Blk w' L 59 #[v'] → Offs w v v'
theorem blk_one {w : World} {L : Nat} {v v' : Value} (h : Blk w L 59 #[v]) (h' : Blk w L 59 #[v']) : v = v' := by
  have h1 := h.cell 0
  have h2 := h'.cell 0
  rw [h1] at h2
  simpa using h2
theorem kept2_below {w w' : World} {L : Nat} (hb : Below w.heap.size w w') : Kept2 w w' L := fun v hv => ⟨fun j hj _ _ => hb.block j hj, fun v' hv' => by
  rw [blk_one hv' (hv.below hb hv.lt)]
  exact fun k hk => .inl hk⟩
def FA (w : World) (L B : Nat) (vv : Value) (r : List PA) (n : Nat) (v : Value) (w' : World) : Prop := (∃ a m c, v = .slice a m c) ∧ Blk w' L 59 #[vv] ∧ w'.ownsRow B 38 4 v n (flatP r) ∧ Below (L + 1) w w' ∧ B ≤ w'.heap.size ∧ KeptP w w' vv ∧ Offs w vv v
set_option maxHeartbeats 16000000 in
set_option maxRecDepth 100000 in
theorem xmp_add {w : World} (L B : Nat) (l : List PA) (h : ListAt w L B l) (hn : l.length < 20) (x : PA) :
    Calls Tryz.prog 26 #[.pointer (some ⟨L, 0, none⟩), prV x.1 (.slice x.2.1 x.1.it.length x.2.2)] w fun e w' =>
      e = .returned (.bool (addP (pl l) x.1).isSome) ∧ Below L w w' ∧ ((addP (pl l) x.1).isSome = true → ListAt w' L B (l.take (posP x.1 (pl l)) ++ x :: l.drop (posP x.1 (pl l)))) ∧ Kept2 w w' L := by
  obtain ⟨⟨vv, hL, hO⟩, hlb, hsz, hso⟩ := h
  obtain ⟨A, g, cap, rfl, hA, hcp, hcs⟩ := row_out hO
  obtain ⟨W1, hW1⟩ : ∃ W, W = w.alloc (.cells #[.string x.1.sp, .string x.1.nm, .int .i64 x.1.kd, .slice x.2.1 x.1.it.length x.2.2] 38) := ⟨_, rfl⟩
  have hb1 : Below w.heap.size w W1 := by rw [hW1]; exact (Below.refl _ _).alloc (Nat.le_refl _) _
  have hR : Blk W1 w.heap.size 38 #[.string x.1.sp, .string x.1.nm, .int .i64 x.1.kd, .slice x.2.1 x.1.it.length x.2.2] := by rw [hW1]; exact Blk.new w 38 _
  have cs := fun W (hW : Below w.heap.size w W) => xmp_search (w := W) A g cap l hA (by omega) hcp (hcs.below hW) x.1 x.2.1 x.1.it.length x.2.2 hso
  obtain ⟨P, hP⟩ : ∃ P, P = posP x.1 (pl l) := ⟨_, rfl⟩
  have hPn : P ≤ l.length := by rw [hP, ← pl_len l]; exact pos_le _ _
  have hins := fun (hz : hasP x.1 (pl l) = false) => sorted_ins hso hz
  unfold insP at hins
  have ea : addP (pl l) x.1 = if (hasP x.1 (pl l) || x.1.sp.toList == rdfL) then none else some (insP x.1 (pl l)) := rfl
  rw [← hP] at cs hins ⊢
  have hsort : hasP x.1 (pl l) = false → Sorted (pl (l.take P ++ x :: l.drop P)) := fun hz => by
    have := hins hz
    unfold pl at this ⊢
    rw [List.map_append, List.map_cons, List.map_take, List.map_drop]; exact this
  generalize hasP x.1 (pl l) = Z at cs hsort ea
  rw [ea]
  have hrl : ((if (Z || x.1.sp.toList == rdfL) = true then none else some (insP x.1 (pl l)) : Option (List Pr)).isSome) = (!Z && !(x.1.sp.toList == rdfL)) := by
    cases Z <;> cases (x.1.sp.toList == rdfL) <;> rfl
  rw [hrl]
  clear hrl hins ea
  obtain ⟨r0, r1, r2, r3⟩ := blk4 hR
  have hc0 := fun W (hW : Below W1.heap.size W1 W) => And.intro ((hW.cell (cell_lt r0)).trans r0) (And.intro ((hW.cell (cell_lt r1)).trans r1) (And.intro ((hW.cell (cell_lt r2)).trans r2) ((hW.cell (cell_lt r3)).trans r3)))
  have hL1 := hL.below hb1 hL.lt
  have l1 := hL1.cell 0
  have hl0 := fun W (hW : Below W1.heap.size W1 W) => (hW.cell (cell_lt l1)).trans l1
  have hO1 := row_kept hO hb1
  obtain ⟨n, hnn⟩ : ∃ n, n = l.length := ⟨_, rfl⟩
  rw [← hnn] at cs hL hL1 l1 hl0 hO hO1 hPn
  unfold prV at cs ⊢
  replace cs := Lib.hid cs
  replace hc0 := Lib.hid hc0
  replace hl0 := Lib.hid hl0
  replace hb1 := Lib.hid hb1
  replace hL1 := Lib.hid hL1
  replace hO1 := Lib.hid hO1
  replace hsort := Lib.hid hsort
  replace hP := Lib.hid hP
  replace hnn := Lib.hid hnn
  replace hPn := Lib.hid hPn
  replace hlb := Lib.hid hlb
  clear hA hcp hcs hso hR hL hO r0 r1 r2 r3 l1
  go_enter Tryz.func26, Tryz.ntmps26
  go_upto_region 1 with (fail)
  rw [← hW1]
  replace hW1 := Lib.hid hW1
  refine wp_lin_tail (by kernel_rfl) [none, none, none, none, none, some 8, none, some 5, some 0, some 1, some 2, some 3, some 4, some 6, some 7, none, none, none, none, none, none, none, none, none, none, none, none, none, none, none] (fun w' => Below W1.heap.size W1 w') (fun w' w'' => Below w'.heap.size w' w'') (GA1 L w.heap.size (.slice A n cap) #[.string x.1.sp, .string x.1.nm, .int .i64 x.1.kd, .slice x.2.1 x.1.it.length x.2.2] P Z) (by rfl) (by kernel_rfl) 9 _ rfl (by decide) (by kernel_rfl) [9, 9, 9, 9, 9, 9, 9, 9, 9] (by kernel_rfl) ?shR ?smono (.cons 8 (Wk.step_of [6] rfl (by kernel_rfl) ?s8) (.cons 7 (Wk.step_of [5] rfl (by kernel_rfl) ?s7) (.cons 6 (Wk.step_of [5] rfl (by kernel_rfl) ?s6) (.cons 5 (Wk.step_of [4] rfl (by kernel_rfl) ?s5) (.cons 4 (Wk.step_of [2, 3] rfl (by kernel_rfl) ?s4) (.cons 3 (Wk.step_of [] rfl (by kernel_rfl) ?s3) (.cons 2 (Wk.step_of [1] rfl (by kernel_rfl) ?s2) (.cons 1 (Wk.step_of [0] rfl (by kernel_rfl) ?s1) (.cons 0 (Wk.step_of [] rfl (by kernel_rfl) ?s0) (.nil)))))))))) ?sdone
  case shR => exact (Below.refl _ _).drew
  case smono => exact GA1_mono
  case s0 =>
    intro x' w' hRw hd K' hK
    simp only [All, GA1] at hd
    simp (config := {decide := true}) only [upd, GA1, fillL, if_true, if_false] at hK ⊢
    go_simp
    have hK2 := hK _ _ ⟨hRw, Below.refl _ _, rfl⟩
    exact hK2
  case s1 =>
    intro x' w' hRw hd K' hK
    simp only [All, GA1] at hd
    obtain ⟨e0, _⟩ := hd
    simp (config := {decide := true}) only [upd, GA1, fillL, if_true, if_false] at hK ⊢
    simp only [e0] at hK ⊢
    go_simp
    have hK2 := hK _ _ ⟨hRw, Below.refl _ _, rfl⟩
    exact hK2
  case s2 =>
    intro x' w' hRw hd K' hK
    simp only [All, GA1] at hd
    obtain ⟨e1, _⟩ := hd
    simp (config := {decide := true}) only [upd, GA1, fillL, if_true, if_false] at hK ⊢
    simp only [e1] at hK ⊢
    have z0 := hl0.out w' hRw
    go_simp
    have hK2 := hK _ _ ⟨hRw, Below.refl _ _, rfl⟩
    exact hK2
  case s3 =>
    intro x' w' hRw hd K' hK
    simp only [All, GA1] at hd
    simp (config := {decide := true}) only [upd, GA1, fillL, if_true, if_false] at hK ⊢
    obtain ⟨y0, y1, y2, y3⟩ := hc0.out w' hRw
    go_simp
    have hK2 := hK _ _ ⟨hRw, Below.refl _ _, rfl⟩
    exact hK2
  case s4 =>
    intro x' w' hRw hd K' hK
    simp only [All, GA1] at hd
    obtain ⟨e2, e3, _⟩ := hd
    simp (config := {decide := true}) only [upd, GA1, fillL, if_true, if_false] at hK ⊢
    simp only [e2, e3] at hK ⊢
    go_simp
    refine (cs.out w' (bthen hb1.out hRw)).mono ?_
    rintro e' w2 ⟨rfl, hB9⟩
    have hK2 := hK _ _ ⟨bthen hRw hB9, hB9, rfl⟩
    exact hK2
  case s5 =>
    intro x' w' hRw hd K' hK
    simp only [All, GA1] at hd
    obtain ⟨e4, _⟩ := hd
    simp (config := {decide := true}) only [upd, GA1, fillL, if_true, if_false] at hK ⊢
    simp only [e4] at hK ⊢
    go_simp
    have hK2 := hK _ _ ⟨hRw, Below.refl _ _, rfl⟩
    exact hK2
  case s6 =>
    intro x' w' hRw hd K' hK
    simp only [All, GA1] at hd
    obtain ⟨e5, _⟩ := hd
    simp (config := {decide := true}) only [upd, GA1, fillL, if_true, if_false] at hK ⊢
    simp only [e5] at hK ⊢
    go_simp
    have hK2 := hK _ _ ⟨hRw, Below.refl _ _, rfl⟩
    exact hK2
  case s7 =>
    intro x' w' hRw hd K' hK
    simp only [All, GA1] at hd
    obtain ⟨e5, _⟩ := hd
    simp (config := {decide := true}) only [upd, GA1, fillL, if_true, if_false] at hK ⊢
    simp only [e5] at hK ⊢
    go_simp
    have hK2 := hK _ _ ⟨hRw, Below.refl _ _, rfl⟩
    exact hK2
  case s8 =>
    intro x' w' hRw hd K' hK
    simp only [All, GA1] at hd
    obtain ⟨e6, _⟩ := hd
    simp (config := {decide := true}) only [upd, GA1, fillL, if_true, if_false] at hK ⊢
    simp only [e6] at hK ⊢
    go_simp
    have hK2 := hK _ _ ⟨hRw, Below.refl _ _, rfl⟩
    exact hK2
  case sdone =>
    intro x' w2 hR2 hG fr hfr
    have e7 := hG 7 (by omega)
    have e8 := hG 8 (by omega)
    simp only [GA1] at e7 e8
    simp only [fillL] at hfr
    rw [e7, e8] at hfr
    clear hG e7 e8
    have hL2 := hL1.out.below hR2 hL1.out.lt
    have hO2 := row_kept hO1.out hR2
    have hb2 := bthen hb1.out hR2
    obtain ⟨y0, y1, y2, y3⟩ := hc0.out w2 hR2
    have hc2 := fun W (hW : Below w2.heap.size w2 W) => hc0.out W (bthen hR2 hW)
    have hl2 := fun W (hW : Below w2.heap.size w2 W) => hl0.out W (bthen hR2 hW)
    replace hc2 := Lib.hid hc2
    replace hl2 := Lib.hid hl2
    replace hL2 := Lib.hid hL2
    replace hO2 := Lib.hid hO2
    replace hb2 := Lib.hid hb2
    clear hR2 hc0 hl0 cs hb1 hL1 hO1
    subst hfr
    have hLw : L ≤ w.heap.size := Nat.le_trans (Nat.le_of_lt hlb.out) hsz
    cases Z with
    | true =>
      go_wp2
      go_ret
      first | exact ⟨rfl, hb2.out.mono hLw, fun h => by simp at h, kept2_below hb2.out⟩ | exact ⟨rfl, hb2.out.mono hLw, kept2_below hb2.out⟩
    | false =>
      cases hrd : (x.1.sp.toList == rdfL) with
      | true =>
        have hrd2 := hrd
        unfold rdfL at hrd2
        go_wp2
        go_ret
        first | exact ⟨rfl, hb2.out.mono hLw, fun h => by simp at h, kept2_below hb2.out⟩ | exact ⟨rfl, hb2.out.mono hLw, kept2_below hb2.out⟩
      | false =>
        have hrd2 := hrd
        unfold rdfL at hrd2
        have hst := hsort.out rfl
        replace hst := Lib.hid hst
        clear hsort
        replace hrd := Lib.hid hrd
        go_upto_region 4 with (fail)
        refine wp_lin_two (by kernel_rfl) [none, none, none, none, none, none, none, none, none, none, none, none, none, none, none, none, none, none, none, none, none, some 0, some 1, some 2, some 3, some 4, some 5, some 6, some 7, none] (fun w' => Below w2.heap.size w2 w') (fun w' w'' => Below w'.heap.size w' w'') (GA4 L w2.heap.size (.slice A n cap) x P) (FA w L B (.slice A n cap) (l.take P ++ x :: l.drop P) (n + 1)) (GUA L) UA (by rfl) (by kernel_rfl) 7 8 _ _ rfl rfl (by decide) (by decide) (by kernel_rfl) (by kernel_rfl) [0, 2, 3, 7, 7, 6, 7] (by kernel_rfl) [8, 8, 8, 8, 8, 8, 8, 8] (by kernel_rfl) ?thR ?tmono (.cons 7 (.inl rfl) (.cons 6 (.inr (.inr ⟨rfl, Wk.step_of [5] rfl (by kernel_rfl) ?t6⟩)) (.cons 5 (.inr (.inr ⟨rfl, Wk.step_of [] rfl (by kernel_rfl) ?t5⟩)) (.cons 4 (.inr (.inr ⟨rfl, Wk.step_of [] rfl (by kernel_rfl) ?t4⟩)) (.cons 3 (.inr (.inr ⟨rfl, Wk.step_of [2] rfl (by kernel_rfl) ?t3⟩)) (.cons 2 (.inr (.inr ⟨rfl, Wk.step_of [1] rfl (by kernel_rfl) ?t2⟩)) (.cons 1 (.inr (.inr ⟨rfl, Wk.step_of [] rfl (by kernel_rfl) ?t1⟩)) (.cons 0 (.inr (.inl ⟨rfl, stepU_of [] rfl (by kernel_rfl) ?t0⟩)) (.nil))))))))) ?tsN ?tdone
        case thR => exact (Below.refl _ _).drew
        case tmono => exact GA4_mono
        case t0 =>
          intro x' w' hd K' hK
          simp only [AllU, GUA] at hd
          simp (config := {decide := true}) only [upd, GUA, fillL, if_true, if_false] at hK ⊢
          go_simp
          have hK2 := hK _ rfl
          exact hK2
        case t1 =>
          intro x' w' hRw hd K' hK
          simp (config := {decide := true}) only [All, GA4, UA, if_true, if_false] at hd
          simp (config := {decide := true}) only [upd, GA4, UA, fillL, if_true, if_false] at hK ⊢
          go_simp
          have hK2 := hK _ _ ⟨hRw, Below.refl _ _, rfl⟩
          exact hK2
        case t2 =>
          intro x' w' hRw hd K' hK
          simp (config := {decide := true}) only [All, GA4, UA, if_true, if_false] at hd
          obtain ⟨e1, _⟩ := hd
          simp (config := {decide := true}) only [upd, GA4, UA, fillL, if_true, if_false] at hK ⊢
          simp only [e1] at hK ⊢
          go_simp
          have hK2 := hK _ _ ⟨hRw, Below.refl _ _, rfl⟩
          exact hK2
        case t3 =>
          intro x' w' hRw hd K' hK
          simp (config := {decide := true}) only [All, GA4, UA, if_true, if_false] at hd
          obtain ⟨e2, _⟩ := hd
          simp (config := {decide := true}) only [upd, GA4, UA, fillL, if_true, if_false] at hK ⊢
          simp only [e2] at hK ⊢
          have z0 := hl2.out w' hRw
          go_simp
          have hK2 := hK _ _ ⟨hRw, Below.refl _ _, rfl⟩
          exact hK2
        case t4 =>
          intro x' w' hRw hd K' hK
          simp (config := {decide := true}) only [All, GA4, UA, if_true, if_false] at hd
          simp (config := {decide := true}) only [upd, GA4, UA, fillL, if_true, if_false] at hK ⊢
          go_simp
          have hK2 := hK _ _ ⟨hRw, Below.refl _ _, rfl⟩
          exact hK2
        case t5 =>
          intro x' w' hRw hd K' hK
          simp (config := {decide := true}) only [All, GA4, UA, if_true, if_false] at hd
          simp (config := {decide := true}) only [upd, GA4, UA, fillL, if_true, if_false] at hK ⊢
          obtain ⟨y0, y1, y2, y3⟩ := hc2.out w' hRw
          go_simp
          have hK2 := hK _ _ ⟨hRw, Below.refl _ _, rfl⟩
          exact hK2
        case t6 =>
          intro x' w' hRw hd K' hK
          simp (config := {decide := true}) only [All, GA4, UA, if_true, if_false] at hd
          obtain ⟨e5, _⟩ := hd
          simp (config := {decide := true}) only [upd, GA4, UA, fillL, if_true, if_false] at hK ⊢
          simp only [e5] at hK ⊢
          unfold prs at hK ⊢
          go_simp
          have hba : Below w'.heap.size w' (w'.alloc (.cells #[.string x.1.sp, .string x.1.nm, .int .i64 x.1.kd, .slice x.2.1 x.1.it.length x.2.2] 38)) := (Below.refl _ _).alloc (Nat.le_refl _) _
          have hK2 := hK _ _ ⟨bthen hRw hba, hba, _, rfl, Blk.new w' 38 _, hRw.size⟩
          exact hK2
        case tsN =>
          intro x' w6 hR6 hG _ K' hK fr hfr
          have a3 := hG 3 (by omega) rfl
          have a4 := hG 4 (by omega) rfl
          have a6 := hG 6 (by omega) rfl
          simp only [GA4] at a3 a4 a6
          clear hG
          obtain ⟨q, a6, hq, hqs⟩ := a6
          have hO6 := row_kept hO2.out hR6
          have hL6 := hL2.out.below hR6 hL2.out.lt
          have hB6 := bthen hb2.out hR6
          have z2 := hb2.out.size
          have z6 := hR6.size
          have hO2' := hO2.out
          have ci := xmp_insert (w := w6) B (.slice A n cap) l P (by have := hPn.out; have := hnn.out; omega) (by omega) (by rw [← hnn.out]; exact hO6) q x hq (fun e => by have := (row_lt hO2' e).2; omega) (by omega)
          simp only [fillL] at hfr
          rw [a3, a4, a6] at hfr
          subst hfr
          rw [if_pos (show Region.wanted _ _ = true from rfl)]
          go_simp
          refine ci.mono ?_
          rintro e' w7 ⟨v7, rfl, h71, h72, h73⟩
          have hLlt := hlb.out
          have hnL : some L ≠ (Value.slice A n cap).ownBlock := fun e => by have := (row_lt hO6 e.symm).1; omega
          have hsl : ∃ a m c, v7 = .slice a m c := by rcases h71.2 with ⟨rfl, _⟩ | ⟨_, _, _, rfl, _⟩ <;> exact ⟨_, _, _, rfl⟩
          have hK2 := hK v7 w7 ⟨hsl, hL6.grown h72 hnL, by rw [hnn.out]; exact h71, (hB6.mono (by omega)).grown h72 (by omega) (fun k hk => by have := (row_lt hO6 hk).1; omega), by have := h72.size; omega, fun j hj hne => (h72.block j (by have := hB6.size; omega) (fun e => hne e.symm)).trans (hB6.block j hj), fun k hk => (h73 k hk).imp id (fun h => Nat.le_trans hB6.size h)⟩
          simp (config := {decide := true}) only [upd, fillL, if_true, if_false] at hK2
          rw [a3, a4, a6] at hK2
          exact hK2
        case tdone =>
          intro x' w7 hF hU fr hfr
          obtain ⟨⟨a7, m7, c7, hv7⟩, hL7, hO7, hB7, hz7, hk7, ho7⟩ := hF
          have u8 := hU 0 (by omega) rfl
          simp only [GUA] at u8
          simp only [fillL] at hfr
          rw [u8, hv7] at hfr
          rw [hv7] at hO7 ho7
          clear hU u8
          have l7 := hL7.cell 0
          have f7 := hL7.frozen 0
          have hL8 := hL7.set_ 0 (.slice a7 m7 c7)
          have hgr := set_gr w7 L 0 (.slice a7 m7 c7)
          have hO8 : (w7.setCell ⟨L, 0, none⟩ (.slice a7 m7 c7)).ownsRow B 38 4 (.slice a7 m7 c7) (n + 1) (flatP (l.take P ++ x :: l.drop P)) := hO7.kept hgr (by
            cases e : (Value.slice a7 m7 c7).ownBlock with
            | none => exact .inl rfl
            | some k => refine .inr fun e2 => ?_; injection e2 with e2; have := (row_lt hO7 e).1; have := hlb.out; omega)
          have hB8 : Below L w (w7.setCell ⟨L, 0, none⟩ (.slice a7 m7 c7)) := (hB7.mono (by omega)).grown hgr (by have := hlb.out; have := hB7.size; omega) (fun k hk => by injection hk with hk; omega)
          have hk8 : Kept2 w (w7.setCell ⟨L, 0, none⟩ (.slice a7 m7 c7)) L := fun v hv => by
            have hLs : L < w2.heap.size := hL2.out.lt
            have hv0 := blk_one hL2.out (hv.below hb2.out hv.lt)
            subst hv0
            refine ⟨fun j hj hjL hne => ?_, fun v' hv' => ?_⟩
            · exact (hgr.block j (Nat.lt_of_lt_of_le hj hB7.size) (fun e => by injection e with e; exact hjL e)).trans (hk7 j hj hne)
            · rw [← blk_one hL8 hv']
              exact ho7
          have hzz : B ≤ (w7.setCell ⟨L, 0, none⟩ (.slice a7 m7 c7)).heap.size := by have := hgr.size; omega
          replace hL8 := Lib.hid hL8
          replace hO8 := Lib.hid hO8
          replace hB8 := Lib.hid hB8
          replace hzz := Lib.hid hzz
          replace hk8 := Lib.hid hk8
          clear hL7 hO7 hB7 hgr hk7 ho7
          subst hfr
          go_wp2
          go_ret
          refine ⟨congrArg (fun b => Ending.returned (.bool b)) (by rw [hrd.out]; rfl), hB8.out, fun _ => ⟨⟨_, hL8.out, ?_⟩, hlb.out, hzz.out, hst.out⟩, hk8.out⟩
          have hlen : (l.take P ++ x :: l.drop P).length = n + 1 := by have := hPn.out; have := hnn.out; rw [List.length_append, List.length_cons, List.length_take, List.length_drop]; omega
          rw [hlen]
          exact hO8.out
end Go.Proofs.YtkpikpaepgknnaaGreatDoor

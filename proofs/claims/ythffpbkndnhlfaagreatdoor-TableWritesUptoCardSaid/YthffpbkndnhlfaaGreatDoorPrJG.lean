/- Walks and laws, joined: part G. No condition. -/
import Derived.Test.YthffpbkndnhlfaaGreatDoorPrJF
import Derived.Test.YthffpbkndnhlfaaGreatDoorPrJD
import Derived.Test.YthffpbkndnhlfaaGreatDoorRows
import Derived.Lib.LaidTab
import Derived.WideShapes
set_option linter.unusedSimpArgs false
set_option linter.unusedVariables false
/- A section's bytes, plain; the program's Write: what is refused. No condition. -/
namespace Go.Proofs.YthffpbkndnhlfaaGreatDoor
open Go Go.RowKit Go.Wk
def headT (p : List R4) : List UInt8 := ((padL (p.getD 0 r0).n 1 ++ [32]) ++ padL p.length 1) ++ [10]
def rowsT (p : List R4) : List UInt8 := (p.map rowT).flatten
def bodyT (ps : List (List R4)) : List UInt8 := (ps.map fun p => headT p ++ rowsT p).flatten
def xrefL : List UInt8 := [120, 114, 101, 102, 10]
def trailL : List UInt8 := [116, 114, 97, 105, 108, 101, 114, 10]
def wOk (o : Ob) (l : List R4) : Bool := goodK l l.length && risesK l l.length && o.kind == 7 && o.may 28
def tabT (o : Ob) (l : List R4) : List UInt8 := (((xrefL ++ bodyT (partsK l l.length)) ++ trailL) ++ o.show) ++ [10]
def wS (o : Ob) (l : List R4) : List UInt8 := if wOk o l = true then tabT o l else []
def wZ (o : Ob) (l : List R4) : Int := if wOk o l = true then 0 else 1
def WT (w : World) (o : Ob) (l : List R4) (e : Ending) (w' : World) : Prop := ∃ A c, e = .returned (.tuple #[.slice A (wS o l).length c, .int .i64 (wZ o l)]) ∧ Byt w' A (wS o l) ∧ Below w.heap.size w w'
theorem WT.no {w w' : World} {o : Ob} {l : List R4} (h : wOk o l = false) (hB : Below w.heap.size w w') : WT w o l (.returned (.tuple #[.slice none 0 0, .int .i64 1])) w' :=
 ⟨none, 0, by simp [wS, wZ, h], by simp [wS, h, Byt.nil], hB⟩
theorem wOk_row {o : Ob} {l : List R4} {k : Nat} (hk : k ≤ l.length) (h : goodK l k = false) : wOk o l = false := by
 unfold wOk; rw [good_false hk h]; simp
theorem good_mem {l : List R4} : ∀ {m : Nat}, m ≤ l.length → goodK l m = true → ∀ i (h : i < l.length), i < m → mayR l[i] = true
 | 0, _, _ => fun i h hi => by omega
 | m + 1, hm, h => fun i hi him => by
  have h : (goodK l m && mayR (l.getD m r0)) = true := h
  rw [Bool.and_eq_true] at h
  by_cases e : i = m
  ·subst e
   have h2 := h.2
   rw [List.getD_eq_getElem?_getD, List.getElem?_eq_getElem hi] at h2; exact h2
  ·exact good_mem (m := m) (by omega) h.1 i hi (by omega)
theorem good_n {l : List R4} (h : goodK l l.length = true) : ∀ r ∈ l, 0 ≤ r.n ∧ r.n ≤ 8388607 := fun r hr => by
 obtain ⟨i, hi, rfl⟩ := List.getElem_of_mem hr
 have := good_mem (Nat.le_refl _) h i hi hi
 simp only [mayR, Bool.and_eq_true, decide_eq_true_eq] at this
 exact ⟨this.1.1.1.1.1.2, this.1.1.1.1.2⟩
theorem good_ok {l : List R4} (h : goodK l l.length = true) : ∀ r ∈ l, i64 r.n ∧ i64 r.a ∧ i64 r.g := fun r hr => by
 obtain ⟨i, hi, rfl⟩ := List.getElem_of_mem hr
 have := good_mem (Nat.le_refl _) h i hi hi
 simp only [mayR, Bool.and_eq_true, decide_eq_true_eq] at this
 unfold i64
 exact ⟨by omega, by omega, by omega⟩
theorem parts_mem (l : List R4) : ∀ k, k ≤ l.length → ∀ p ∈ partsK l k, ∀ r ∈ p, r ∈ l
 | 0, _ => by simp [partsK]
 | k + 1, hk => by
  have ih := parts_mem l k (by omega)
  have hm : l.getD k r0 ∈ l := by rw [List.getD_eq_getElem?_getD, List.getElem?_eq_getElem (by omega)]; exact List.getElem_mem (by omega)
  intro p hp r hr
  have hp : p ∈ (if newP l k = true then partsK l k ++ [[l.getD k r0]] else (partsK l k).dropLast ++ [(partsK l k).getLastD [] ++ [l.getD k r0]]) := hp
  split at hp
  ·rcases List.mem_append.1 hp with h | h
   ·exact ih p h r hr
   ·simp at h; subst h; simp at hr; subst hr; simpa using hm
  ·rcases List.mem_append.1 hp with h | h
   ·exact ih p ((List.dropLast_sublist _).subset h) r hr
   ·rw [List.mem_singleton] at h; subst h
    rcases List.mem_append.1 hr with h | h
    ·cases hq : partsK l k with
     | nil => rw [hq] at h; simp at h
     | cons a t =>
      have : (partsK l k).getLastD [] ∈ partsK l k := by rw [hq, List.getLastD_cons]; exact List.getLastD_mem_cons ..
      exact ih _ this r h
    ·rw [List.mem_singleton] at h; subst h; exact hm
theorem rowT_len {r : R4} (h1 : i64 r.a) (h2 : i64 r.g) : (rowT r).length ≤ 270 := by
 have ha := padL_len r.a h1 10 (by omega)
 have hg := padL_len r.g h2 5 (by omega)
 unfold rowT
 simp only [List.length_append, List.length_cons, List.length_nil]
 have : (if r.k = 1 then ([32, 110, 32, 10] : List UInt8) else [32, 102, 32, 10]).length = 4 := by split <;> rfl
 omega
theorem rowsT_len : ∀ {p : List R4}, (∀ r ∈ p, i64 r.a ∧ i64 r.g) → (rowsT p).length ≤ p.length * 270
 | [], _ => by simp [rowsT]
 | r :: p, h => by
  have h1 := rowT_len (h r (by simp)).1 (h r (by simp)).2
  have h2 := rowsT_len (p := p) fun x hx => h x (by simp [hx])
  have e : rowsT (r :: p) = rowT r ++ rowsT p := by simp [rowsT]
  rw [e, List.length_append, List.length_cons]; omega
theorem headT_len {p : List R4} (h : i64 (p.getD 0 r0).n) (hp : p.length ≤ 100) : (headT p).length ≤ 270 := by
 have h1 := padL_len _ h 1 (by omega)
 have h2 := padL_len (p.length : Int) ⟨by omega, by omega⟩ 1 (by omega)
 unfold headT
 simp only [List.length_append, List.length_cons, List.length_nil]; omega
def PsOk (ps : List (List R4)) : Prop := ∀ p ∈ ps, 0 < p.length ∧ p.length ≤ 100 ∧ ∀ r ∈ p, i64 r.n ∧ i64 r.a ∧ i64 r.g
theorem PsOk.head {p : List R4} (h : 0 < p.length ∧ p.length ≤ 100 ∧ ∀ r ∈ p, i64 r.n ∧ i64 r.a ∧ i64 r.g) : i64 (p.getD 0 r0).n := by
 rw [List.getD_eq_getElem?_getD, List.getElem?_eq_getElem h.1]
 exact (h.2.2 _ (List.getElem_mem h.1)).1
theorem bodyT_len : ∀ {ps : List (List R4)}, PsOk ps → (bodyT ps).length ≤ ps.length * 27300
 | [], _ => by simp [bodyT]
 | p :: ps, h => by
  have hp := h p (by simp)
  have h1 := headT_len (PsOk.head hp) hp.2.1
  have h2 := rowsT_len (p := p) fun r hr => (hp.2.2 r hr).2
  have h3 := bodyT_len (ps := ps) fun x hx => h x (by simp [hx])
  have e : bodyT (p :: ps) = (headT p ++ rowsT p) ++ bodyT ps := by simp [bodyT]
  rw [e, List.length_append, List.length_append, List.length_cons]; omega
theorem PsOk.take {ps : List (List R4)} (h : PsOk ps) (j : Nat) : PsOk (ps.take j) := fun p hp => h p (List.mem_of_mem_take hp)
theorem body_snoc {ps : List (List R4)} {j : Nat} (hj : j < ps.length) : bodyT (ps.take (j + 1)) = bodyT (ps.take j) ++ (headT ps[j] ++ rowsT ps[j]) := by
 unfold bodyT
 rw [List.take_succ_eq_append_getElem hj, List.map_append, List.flatten_append]
 simp only [List.map_cons, List.map_nil, List.flatten_cons, List.flatten_nil, List.append_nil]
theorem rows_snoc {p : List R4} {i : Nat} (hi : i < p.length) : rowsT (p.take (i + 1)) = rowsT (p.take i) ++ rowT p[i] := by
 unfold rowsT
 rw [List.take_succ_eq_append_getElem hi, List.map_append, List.flatten_append]
 simp only [List.map_cons, List.map_nil, List.flatten_cons, List.flatten_nil, List.append_nil]
theorem five_cells32 {w : World} {v0 v1 v2 v3 v4 : Value} {W : World} (hW : W = w.alloc (.cells #[v0, v1, v2, v3, v4] 32)) :
 W.cell? ⟨w.heap.size, 0, none⟩ = some v0 ∧ W.cell? ⟨w.heap.size, 1, none⟩ = some v1 ∧ W.cell? ⟨w.heap.size, 2, none⟩ = some v2 ∧ W.cell? ⟨w.heap.size, 3, none⟩ = some v3 ∧ W.cell? ⟨w.heap.size, 4, none⟩ = some v4 := five_cells hW
set_option maxHeartbeats 16000000 in
set_option maxRecDepth 100000 in
theorem tab_Write (o : Ob) (vs : List Value) (A : Option Addr) (c : Nat) (l : List R4) (w : World) (hob : ObAt w o vs) (hbk : o.bulk ≤ 1048576) (hT : Tab w) (h : RowsAt w A l) (hl : l.length ≤ 100) : Calls Tryz.prog 16 #[.agg vs.toArray, .slice A l.length c] w (WT w o l) := by
 obtain ⟨en, E1, E2, E3, en1, ec1, en2, ec2, en3, ec3, hys⟩ := ob_five2 hob
 obtain ⟨kd, hkd⟩ : ∃ k, k = o.kind := ⟨_, rfl⟩
 rw [← hkd] at hys
 subst hys
 obtain ⟨m, hm⟩ : ∃ m, m = l.length := ⟨_, rfl⟩
 obtain ⟨W1, hW1⟩ : ∃ W, W = w.alloc (.cells #[.int .i64 kd, .int .i64 en, .slice E1 en1 ec1, .slice E2 en2 ec2, .slice E3 en3 ec3] 32) := ⟨_, rfl⟩
 have hb1 : Below w.heap.size w W1 := by rw [hW1]; exact (Below.refl _ _).alloc (Nat.le_refl _) _
 have f := five_cells32 hW1
 have h1 := h.below hb1
 have hno : ∀ w', wOk o l = false → Below w.heap.size w w' → WT w o l (.returned (.tuple #[.slice none 0 0, .int .i64 1])) w' := fun w' h1 h2 => WT.no h1 h2
 rw [← hm] at hl ⊢
 replace hm := hi_ hm
 replace h := hi_ h
 replace h1 := hi_ h1
 replace hob := hi_ hob
 replace hT := hi_ hT
 replace hb1 := hi_ hb1
 replace f := hi_ f
 replace hno := hi_ hno
 replace hkd := hi_ hkd
 go_enter Tryz.func16, Tryz.ntmps16
 go_upto_region 1 with (fail)
 rw [← hW1]
 replace hW1 := hi_ hW1
 go_wp2
 go_loopw [21] (fun s21 wr => ∃ k : Nat, k ≤ m ∧ s21 = .int .i64 k ∧ goodK l k = true ∧ Below W1.heap.size W1 wr) (fun s21 _ => m - (RowKit.intOf s21).toNat)
 case atStart => exact ⟨0, by omega, rfl, rfl, Below.refl _ _⟩
 case round =>
  rename_i wr
  obtain ⟨k, hk, rfl, hgk, hB⟩ := hrel
  by_cases hkm : k < m
  ·have hkl : k < l.length := by rw [← hm.out]; exact hkm
   obtain ⟨b, of, rfl, hc⟩ := h1.out.2 (by omega)
   have hc4 := hc k hkl
   obtain ⟨r, hr⟩ : ∃ r, r = l[k] := ⟨_, rfl⟩
   have hgr : l.getD k r0 = r := by rw [hr, List.getD_eq_getElem?_getD, List.getElem?_eq_getElem hkl]; rfl
   rw [← hr] at hc4
   obtain ⟨P, hP0⟩ : ∃ P, P = of + k * 4 := ⟨_, rfl⟩
   have hP2 : of + k * 4 = P := hP0.symm
   rw [hP2] at hc4
   have y0 := (hB.cell (cell_lt (hc4 0 _ rfl))).trans (hc4 0 _ rfl)
   have y1 := (hB.cell (cell_lt (hc4 1 _ rfl))).trans (hc4 1 _ rfl)
   have y2 := (hB.cell (cell_lt (hc4 2 _ rfl))).trans (hc4 2 _ rfl)
   have y3 := (hB.cell (cell_lt (hc4 3 _ rfl))).trans (hc4 3 _ rfl)
   simp only [Nat.add_zero] at y0
   obtain ⟨W2, hW2⟩ : ∃ W, W = wr.alloc (.cells #[.int .i64 r.n, .int .i64 r.k, .int .i64 r.a, .int .i64 r.g] 64) := ⟨_, rfl⟩
   have hb2 : Below wr.heap.size wr W2 := by rw [hW2]; exact (Below.refl _ _).alloc (Nat.le_refl _) _
   have hD2 := bthen hB hb2
   obtain ⟨c0, c1, c2, c3⟩ := four_cells hW2
   have cm : Calls Tryz.prog 40 #[.agg #[.int .i64 r.n, .int .i64 r.k, .int .i64 r.a, .int .i64 r.g]] W2 fun e w' => e = .returned (.bool (mayR r)) ∧ Below W2.heap.size W2 w' := tab_may r W2
   obtain ⟨mb, hmb⟩ : ∃ mb, mb = mayR r := ⟨_, rfl⟩
   rw [← hmb] at cm
   have hg1 : goodK l (k + 1) = mb := by
    show (goodK l k && mayR (l.getD k r0)) = _
    rw [hgk, hgr, hmb]; rfl
   clear hc hc4
   replace hP0 := hi_ hP0
   replace hr := hi_ hr
   replace hB := hi_ hB
   replace hb2 := hi_ hb2
   replace hD2 := hi_ hD2
   replace hgr := hi_ hgr
   replace hgk := hi_ hgk
   replace hmb := hi_ hmb
   replace hg1 := hi_ hg1
   go_upto_region 4 with (fail)
   rw [← hW2]
   replace hW2 := hi_ hW2
   clear y0 y1 y2 y3 hP2
   cases mb with
   | false =>
    have hbad := wOk_row (o := o) (k := k + 1) (by omega) hg1.out
    replace hbad := hi_ hbad
    go_wp2_with (go_at_call 40; (with_reducible refine cm.mono ?_); rintro e w3 ⟨rfl, hB3⟩; replace hB3 := hi_ hB3)
    go_ret2
    exact hno.out _ hbad.out (bthen hb1.out (bthen hD2.out hB3.out))
   | true =>
    go_wp2_with (go_at_call 40; (with_reducible refine cm.mono ?_); rintro e w3 ⟨rfl, hB3⟩; replace hB3 := hi_ hB3)
    go_roundw
    case rel => exact ⟨k + 1, by omega, by go_num, hg1.out, bthen hD2.out hB3.out⟩
    case measure => simp [RowKit.intOf]; omega
  ·obtain rfl : k = m := by omega
   have hgl : goodK l l.length = true := by rw [← hm.out]; exact hgk
   have cp := tab_Parts A c l wr (h1.out.below hB) (by rw [← hm.out]; omega) (good_n hgl)
   rw [← hm.out] at cp
   have hDr := bthen hb1.out hB
   obtain ⟨z, hz⟩ : ∃ z, z = prtZ o := ⟨_, rfl⟩
   obtain ⟨S, hS⟩ : ∃ S, S = prtS o := ⟨_, rfl⟩
   have cv : ∀ W, Below W1.heap.size W1 W → Calls Tryz.prog 42 #[.agg #[.int .i64 kd, .int .i64 en, .slice E1 en1 ec1, .slice E2 en2 ec2, .slice E3 en3 ec3]] W fun e w' => ∃ A c, e = .returned (.tuple #[.slice A S.length c, .int .i64 z]) ∧ Byt w' A S ∧ Below W.heap.size W w' := fun W hW => by
    rw [hS, hz]
    exact prt_Value2 o _ W (hob.out.kept (bthen hb1.out hW)) hbk (hT.out.below (bthen hb1.out hW))
   have zS : S.length ≤ 41943040 := by rw [hS]; exact prtS_len o hob.out.fits hbk
   have hz01 : z = 0 ∨ z = 1 := by rw [hz]; unfold prtZ; split <;> simp
   obtain ⟨rs, hrs⟩ : ∃ b, b = risesK l k := ⟨_, rfl⟩
   have hwk : wOk o l = (rs && (kd == 7) && o.may 28) := by unfold wOk; rw [hgl, ← hm.out, ← hrs, ← hkd.out]; rfl
   have hmz : ∀ h7 : kd = 7, (o.may 28 = true ↔ z = 0) := fun h7 => by
    rw [hz]; unfold prtZ
    rw [← hkd.out, h7]
    cases o.may 28 <;> simp
   replace hB := hi_ hB
   replace hgk := hi_ hgk
   replace hDr := hi_ hDr
   replace cv := hi_ cv
   replace hz := hi_ hz
   replace hS := hi_ hS
   replace hgl := hi_ hgl
   replace hwk := hi_ hwk
   replace hmz := hi_ hmz
   rw [← hrs] at cp
   replace hrs := hi_ hrs
   cases rs with
   | false =>
    have hbad : wOk o l = false := by rw [hwk.out]; rfl
    replace hbad := hi_ hbad
    go_wp2_with (first
     | (go_at_call 41; (with_reducible refine cp.mono ?_); rintro e w3 ⟨hB3, ⟨hx, _⟩ | ⟨_, rfl⟩⟩; (cases hx); have hD3 := bthen hB.out hB3; have cv3 := cv.out w3 hD3; obtain ⟨f0, f1, f2, f3, f4⟩ := five_kept f.out hD3; replace hB3 := hi_ hB3; replace hD3 := hi_ hD3)
     | (go_at_call 42; (with_reducible refine cv3.mono ?_); rintro e w4 ⟨A4, c4, rfl, hb4, hB4⟩; replace hb4 := hi_ hb4; replace hB4 := hi_ hB4))
    go_ret2
    exact hno.out _ hbad.out (bthen hb1.out (bthen hD3.out hB4.out))
   | true =>
    by_cases h7 : kd = 7
    case neg =>
     have e7 : (kd != 7) = true := by simpa using h7
     have hbad : wOk o l = false := by
      rw [hwk.out]
      have : (kd == 7) = false := by simpa using h7
      rw [this]; simp
     replace hbad := hi_ hbad
     rcases hz01 with rfl | rfl
     all_goals
      go_wp2_with (first
       | (go_at_call 41; (with_reducible refine cp.mono ?_); rintro e w3 ⟨hB3, ⟨_, A3, c3, rfl, hp3⟩ | ⟨hx, _⟩⟩; rotate_left; (cases hx); have hD3 := bthen hB.out hB3; have cv3 := cv.out w3 hD3; obtain ⟨f0, f1, f2, f3, f4⟩ := five_kept f.out hD3; replace hB3 := hi_ hB3; replace hp3 := hi_ hp3; replace hD3 := hi_ hD3)
       | (go_at_call 42; (with_reducible refine cv3.mono ?_); rintro e w4 ⟨A4, c4, rfl, hb4, hB4⟩; obtain ⟨f0, f1, f2, f3, f4⟩ := five_kept f.out (bthen hD3.out hB4); replace hb4 := hi_ hb4; replace hB4 := hi_ hB4))
      go_ret2
      exact hno.out _ hbad.out (bthen hb1.out (bthen hD3.out hB4.out))
    subst h7
    rcases hz01 with rfl | rfl
    case inr =>
     have hbad : wOk o l = false := by
      rw [hwk.out]
      cases hmay : o.may 28 with
      | false => simp
      | true => have := (hmz.out rfl).1 hmay; cases this
     replace hbad := hi_ hbad
     go_wp2_with (first
      | (go_at_call 41; (with_reducible refine cp.mono ?_); rintro e w3 ⟨hB3, ⟨_, A3, c3, rfl, hp3⟩ | ⟨hx, _⟩⟩; rotate_left; (cases hx); have hD3 := bthen hB.out hB3; have cv3 := cv.out w3 hD3; obtain ⟨f0, f1, f2, f3, f4⟩ := five_kept f.out hD3; replace hB3 := hi_ hB3; replace hp3 := hi_ hp3; replace hD3 := hi_ hD3)
      | (go_at_call 42; (with_reducible refine cv3.mono ?_); rintro e w4 ⟨A4, c4, rfl, hb4, hB4⟩; replace hb4 := hi_ hb4; replace hB4 := hi_ hB4))
     go_ret2
     exact hno.out _ hbad.out (bthen hb1.out (bthen hD3.out hB4.out))
    have hmay : o.may 28 = true := (hmz.out rfl).2 rfl
    have hgood : wOk o l = true := by rw [hwk.out, hmay]; rfl
    have hSo : S = o.show := by rw [hS.out]; unfold prtS; rw [if_pos ⟨by rw [← hkd.out]; decide, hmay⟩]
    replace hmay := hi_ hmay
    replace hgood := hi_ hgood
    replace hSo := hi_ hSo
    go_upto_region 12 with (first
     | (go_at_call 41; (with_reducible refine cp.mono ?_); rintro e w3 ⟨hB3, ⟨_, A3, c3, rfl, hp3⟩ | ⟨hx, _⟩⟩; rotate_left; (cases hx); have hD3 := bthen hB.out hB3; have cv3 := cv.out w3 hD3; obtain ⟨f0, f1, f2, f3, f4⟩ := five_kept f.out hD3; replace hB3 := hi_ hB3; replace hp3 := hi_ hp3; replace hD3 := hi_ hD3)
     | (go_at_call 42; (with_reducible refine cv3.mono ?_); rintro e w4 ⟨A4, c4, rfl, hb4, hB4⟩; have hD4 := bthen hD3.out hB4; have hp4 := hp3.out.below hB4; obtain ⟨f0, f1, f2, f3, f4⟩ := five_kept f.out hD4; replace hb4 := hi_ hb4; replace hp4 := hi_ hp4; replace hD4 := hi_ hD4; replace hB4 := hi_ hB4))
    obtain ⟨ps, hps⟩ : ∃ ps, ps = partsK l k := ⟨_, rfl⟩
    rw [← hps] at hp4
    rw [← hps]
    obtain ⟨N, hN⟩ : ∃ N, N = ps.length := ⟨_, rfl⟩
    rw [← hN]
    have hok : PsOk ps := fun p hp => by
     rw [hps] at hp
     have h8 := part_len l k p hp
     have h9 := parts_mem l k (by rw [hm.out]; exact Nat.le_refl _) p hp
     exact ⟨h8.2, by omega, fun r hr => good_ok hgl.out r (h9 r hr)⟩
    have zN : N ≤ 100 := by rw [hN, hps]; have := parts_len l k; omega
    have cc := conv_const w4 #[.int .u8 120, .int .u8 114, .int .u8 101, .int .u8 102, .int .u8 10] 5 5
    obtain ⟨W5, hW5⟩ : ∃ W, W = w4.alloc (.cells #[.int .u8 120, .int .u8 114, .int .u8 101, .int .u8 102, .int .u8 10] 5 (5, 6)) := ⟨_, rfl⟩
    have cc2 : (convert 22 22 (.slice (some ⟨w4.heap.size, 0, none⟩) 5 5)).run Tryz.prog (w4.alloc (.cells #[.int .u8 120, .int .u8 114, .int .u8 101, .int .u8 102, .int .u8 10] 5)) = .ok (.slice (some ⟨w4.heap.size, 0, none⟩) 5 5) W5 := by rw [hW5]; exact cc
    have hO5 : OwnM w4.heap.size W5 (.slice (some ⟨w4.heap.size, 0, none⟩) 5 5) xrefL := .inr ⟨w4.heap.size, 5, _, 5, 6, rfl, Nat.le_refl _, by rw [hW5]; exact heap_alloc_new w4 _, Nat.le_refl _, by decide, by decide, rfl, rfl⟩
    have hb5 : Below w4.heap.size w4 W5 := by rw [hW5]; exact below_mark _ _ _
    have hok4 : ∀ r ∈ l, i64 r.k := fun r hr => by
     obtain ⟨i, hi, rfl⟩ := List.getElem_of_mem hr
     have := good_mem (Nat.le_refl _) hgl.out i hi hi
     simp only [mayR, Bool.and_eq_true, Bool.or_eq_true, beq_iff_eq] at this
     unfold i64
     rcases this.1.1.1.1.1.1 with h | h <;> omega
    have hpl0 : ∀ p ∈ ps, ∀ r ∈ p, r ∈ l := fun p hp => by rw [hps] at hp; exact parts_mem l k (by rw [hm.out]; exact Nat.le_refl _) p hp
    replace hok4 := hi_ hok4
    replace hpl0 := hi_ hpl0
    replace hps := hi_ hps
    replace hN := hi_ hN
    replace hok := hi_ hok
    replace hW5 := hi_ hW5
    replace hO5 := hi_ hO5
    replace hb5 := hi_ hb5
    clear f0 f1 f2 f3 f4 cc
    go_wp2
    go_loopw [13, 56] (fun s13 s56 wj => ∃ j : Nat, j ≤ N ∧ s56 = .int .i64 j ∧ OwnM w4.heap.size wj s13 (xrefL ++ bodyT (ps.take j)) ∧ Below w4.heap.size w4 wj) (fun _ s56 _ => N - (RowKit.intOf s56).toNat)
    case atStart => exact ⟨0, by omega, rfl, by simpa [bodyT] using hO5.out, hb5.out⟩
    case round =>
     obtain ⟨j, hj, rfl, hOj, hBj⟩ := hrel
     obtain ⟨wj, rfl⟩ : ∃ wo : World, wo = wr := ⟨_, rfl⟩
     by_cases hjN : j < N
     ·have hjl : j < ps.length := by rw [← hN.out]; exact hjN
      obtain ⟨p, hp⟩ : ∃ p, p = ps[j] := ⟨_, rfl⟩
      have hpo := hok.out p (by rw [hp]; exact List.getElem_mem hjl)
      have hpl := hpl0.out p (by rw [hp]; exact List.getElem_mem hjl)
      replace hpl := hi_ hpl
      obtain ⟨b3, o3, rfl, hc3⟩ := (hp4.out.below hBj).2 (by omega)
      obtain ⟨Ai, ci, x1, hRi⟩ := hc3 j hjl
      rw [← hp] at x1 hRi
      have x1k := x1
      have hBjk := hBj
      obtain ⟨bi, oi, rfl, hci⟩ := hRi.2 hpo.1
      obtain ⟨r1, hr1⟩ : ∃ r, r = p.getD 0 r0 := ⟨_, rfl⟩
      have hi1 : i64 r1.n := by rw [hr1]; exact PsOk.head hpo
      have x2 : wj.cell? ⟨bi, oi, none⟩ = some (.int .i64 r1.n) := by
       have h9 := hci 0 hpo.1 0 _ rfl
       rw [hr1, List.getD_eq_getElem?_getD, List.getElem?_eq_getElem hpo.1]
       simpa using h9
      obtain ⟨np, hnp⟩ : ∃ n, n = p.length := ⟨_, rfl⟩
      rw [← hnp] at x1 x1k
      have znp : np ≤ 100 := by rw [hnp]; exact hpo.2.1
      have znp0 : 0 < np := by rw [hnp]; exact hpo.1
      obtain ⟨D1, hD1⟩ : ∃ D : ByteArray, D = ⟨(padL r1.n 1).toArray⟩ := ⟨_, rfl⟩
      obtain ⟨D2, hD2⟩ : ∃ D : ByteArray, D = ⟨(padL (np : Int) 1).toArray⟩ := ⟨_, rfl⟩
      have inp : i64 (np : Int) := ⟨by omega, by omega⟩
      have z1 : D1.size ≤ 128 := by rw [hD1]; have := padL_len r1.n hi1 1 (by omega); simpa [ByteArray.size] using this
      have z2 : D2.size ≤ 128 := by rw [hD2]; have := padL_len (np : Int) inp 1 (by omega); simpa [ByteArray.size] using this
      have hTj := fun W (hW : Below w4.heap.size w4 W) => hT.out.below (bthen hb1.out (bthen hD4.out hW))
      have k1 : Calls Tryz.prog 43 #[.int .i64 r1.n, .int .i64 1] wj fun e w' => e = .returned (.string D1) ∧ Below wj.heap.size wj w' := tab_digits r1.n hi1 1 (by omega) wj (hTj wj hBj) D1 hD1
      have k2 : ∀ W, Below w4.heap.size w4 W → Calls Tryz.prog 43 #[.int .i64 np, .int .i64 1] W fun e w' => e = .returned (.string D2) ∧ Below W.heap.size W w' := fun W hW => tab_digits (np : Int) inp 1 (by omega) W (hTj W hW) D2 hD2
      obtain ⟨S1, hS1⟩ : ∃ S, S = D1 ++ ⟨#[32]⟩ := ⟨_, rfl⟩
      obtain ⟨S2, hS2⟩ : ∃ S, S = S1 ++ D2 := ⟨_, rfl⟩
      obtain ⟨S3, hS3⟩ : ∃ S, S = S2 ++ ⟨#[10]⟩ := ⟨_, rfl⟩
      have y1 : S1.size ≤ 129 := by rw [hS1, ByteArray.size_append]; show D1.size + 1 ≤ 129; omega
      have y2 : S2.size ≤ 257 := by rw [hS2, ByteArray.size_append]; omega
      have hS3e : S3.data.toList = headT p := by
       rw [hS3, bytes_app, hS2, bytes_app, hS1, bytes_app, hD1, hD2, hr1, hnp]; rfl
      have q1 := hS1.symm
      have q2 := hS2.symm
      have q3 := hS3.symm
      obtain ⟨X, hX⟩ : ∃ X, X = (xrefL ++ bodyT (ps.take j)) := ⟨_, rfl⟩
      rw [← hX] at hOj
      have zX : X.length ≤ 3000000 := by
       have h8 := bodyT_len (hok.out.take j)
       rw [hX, List.length_append]
       have h9 : (ps.take j).length ≤ j := List.length_take_le _ _
       have : xrefL.length = 5 := rfl
       have h10 : (ps.take j).length * 27300 ≤ 100 * 27300 := Nat.mul_le_mul_right _ (by omega)
       omega
      have zH : (headT p).length ≤ 270 := headT_len (PsOk.head hpo) hpo.2.1
      have zB := hBj.size
      have x1q : ∀ W, Below w4.heap.size w4 W → W.cell? ⟨b3, o3 + j, none⟩ = some (.slice (some ⟨bi, oi, none⟩) np ci) := fun W hW => by
       have hb := (hp4.out.2 (by omega))
       obtain ⟨b9, o9, e9, hc9⟩ := hb
       injection e9 with e9
       injection e9 with e9 e9'
       subst e9 e9'
       obtain ⟨A9, c9, h9, _⟩ := hc9 j hjl
       have h10 := (hBjk.cell (cell_lt h9)).trans h9
       rw [x1k] at h10
       exact ((hW.cell (cell_lt h9)).trans h9).trans h10.symm
      replace x1q := hi_ x1q
      clear x1k hBjk
      replace hOj := hi_ hOj
      replace hBj := hi_ hBj
      replace hp := hi_ hp
      replace hpo := hi_ hpo
      replace hRi := hi_ hRi
      replace hr1 := hi_ hr1
      replace hi1 := hi_ hi1
      replace hnp := hi_ hnp
      replace hD1 := hi_ hD1
      replace hD2 := hi_ hD2
      replace inp := hi_ inp
      replace k2 := hi_ k2
      replace hTj := hi_ hTj
      replace hS1 := hi_ hS1
      replace hS2 := hi_ hS2
      replace hS3 := hi_ hS3
      replace hS3e := hi_ hS3e
      replace hX := hi_ hX
      clear hc3 hci
      go_wp2_with (first
       | (go_at_call 43; (with_reducible refine k1.mono ?_); rintro e w6 ⟨rfl, hB6⟩; have hD6 := bthen hBj.out hB6; have k2' := k2.out w6 hD6; have hO6 := hOj.out.below hB6; replace hB6 := hi_ hB6; replace hD6 := hi_ hD6; replace hO6 := hi_ hO6; clear k1)
       | (go_at_call 43; (with_reducible refine k2'.mono ?_); rintro e w7 ⟨rfl, hB7⟩; have hD7 := bthen hD6.out hB7; have hO7 := hO6.out.below hB7; have tok := hD7.size; replace hB7 := hi_ hB7; replace hD7 := hi_ hD7; replace hO7 := hi_ hO7; clear k2')
       | (at_builtin; refine app_ms rfl _ _ rfl w4.heap.size _ X rfl hO7.out S3 (headT p) rfl hS3e.out (by omega) tok ?_; intro v8 w8 hO8 hB8; have hD8 : Below w4.heap.size w4 w8 := hD7.out.trans hB8; replace hB8 := hi_ hB8; replace hD8 := hi_ hD8; replace hO8 := hi_ hO8; clear tok))
      obtain ⟨Y, hY⟩ : ∃ Y, Y = X ++ headT p := ⟨_, rfl⟩
      rw [← hY] at hO8
      have zY : Y.length ≤ 3000300 := by rw [hY, List.length_append]; omega
      have hO8' := hO8.out
      replace hY := hi_ hY
      go_loopw [13, 75] (fun s13 s75 wr => ∃ i : Nat, i ≤ np ∧ s75 = .int .i64 i ∧ OwnM w4.heap.size wr s13 (Y ++ rowsT (p.take i)) ∧ Below w4.heap.size w4 wr) (fun _ s75 _ => np - (RowKit.intOf s75).toNat)
      case atStart => exact ⟨0, by omega, rfl, by simpa [rowsT] using hO8', hD8.out⟩
      case round =>
       clear hO8'
       obtain ⟨i, hi, rfl, hOi, hBi⟩ := hrel
       obtain ⟨wi, rfl⟩ : ∃ wo : World, wo = wr := ⟨_, rfl⟩
       have hRw := hp4.out.below hBi
       obtain ⟨b3', o3', e3, hc3⟩ := hRw.2 (by omega)
       injection e3 with e3
       injection e3 with e3 e3'
       subst e3 e3'
       obtain ⟨Ai', ci', x1', hRi'⟩ := hc3 j hjl
       rw [← hp.out] at x1' hRi'
       have x1w : wi.cell? ⟨b3, o3 + j, none⟩ = some (.slice (some ⟨bi, oi, none⟩) np ci) := x1q.out wi hBi
       rw [x1'] at x1w
       injection x1w with x1w
       injection x1w with x1w
       subst x1w
       by_cases hin : i < np
       ·have hil : i < p.length := by rw [← hnp.out]; exact hin
        obtain ⟨bi', oi', ei, hci⟩ := hRi'.2 hpo.out.1
        injection ei with ei
        injection ei with ei ei'
        subst ei ei'
        have hc4 := hci i hil
        obtain ⟨r, hr⟩ : ∃ r, r = p[i] := ⟨_, rfl⟩
        rw [← hr] at hc4
        have hro := hpo.out.2.2 r (by rw [hr]; exact List.getElem_mem hil)
        obtain ⟨P, hP0⟩ : ∃ P, P = oi + i * 4 := ⟨_, rfl⟩
        have hP2 : oi + i * 4 = P := hP0.symm
        rw [hP2] at hc4
        have v0 := hc4 0 _ rfl
        have v1 := hc4 1 _ rfl
        have v2 := hc4 2 _ rfl
        have v3 := hc4 3 _ rfl
        simp only [Nat.add_zero] at v0
        obtain ⟨W2, hW2⟩ : ∃ W, W = wi.alloc (.cells #[.int .i64 r.n, .int .i64 r.k, .int .i64 r.a, .int .i64 r.g] 64) := ⟨_, rfl⟩
        have hb2 : Below wi.heap.size wi W2 := by rw [hW2]; exact (Below.refl _ _).alloc (Nat.le_refl _) _
        have hE2 := bthen hBi hb2
        obtain ⟨c0, c1, c2, c3⟩ := four_cells hW2
        obtain ⟨T, hTe⟩ : ∃ T : ByteArray, T = ⟨(rowT r).toArray⟩ := ⟨_, rfl⟩
        have ctx : Calls Tryz.prog 44 #[.agg #[.int .i64 r.n, .int .i64 r.k, .int .i64 r.a, .int .i64 r.g]] W2 fun e w' => e = .returned (.string T) ∧ Below W2.heap.size W2 w' := tab_text r ⟨hro.1, hok4.out r (hpl.out r (by rw [hr]; exact List.getElem_mem hil)), hro.2.1, hro.2.2⟩ W2 (hTj.out W2 hE2) T hTe
        have hTl : T.data.toList = rowT r := by rw [hTe]
        have zT := rowT_len hro.2.1 hro.2.2
        have zP : (Y ++ rowsT (p.take i)).length ≤ 3100000 := by
         have h8 := rowsT_len (p := p.take i) fun x hx => (hpo.out.2.2 x (List.mem_of_mem_take hx)).2
         have h9 : (p.take i).length ≤ i := List.length_take_le _ _
         have h10 : (p.take i).length * 270 ≤ 100 * 270 := Nat.mul_le_mul_right _ (by omega)
         rw [List.length_append]; omega
        have hOi2 := hOi.below hb2
        have hsn : Y ++ rowsT (p.take (i + 1)) = (Y ++ rowsT (p.take i)) ++ rowT r := by rw [rows_snoc hil, hr, List.append_assoc]
        obtain ⟨Z, hZ⟩ : ∃ Z, Z = Y ++ rowsT (p.take i) := ⟨_, rfl⟩
        rw [← hZ] at hOi hOi2 zP hsn
        replace hsn := hi_ hsn
        replace hZ := hi_ hZ
        replace hOi2 := hi_ hOi2
        replace hOi := hi_ hOi
        replace hTe := hi_ hTe
        replace hTl := hi_ hTl
        replace hro := hi_ hro
        replace hr := hi_ hr
        replace hP0 := hi_ hP0
        replace hb2 := hi_ hb2
        replace hE2 := hi_ hE2
        replace hBi := hi_ hBi
        replace hRw := hi_ hRw
        replace hRi' := hi_ hRi'
        clear hc3 hci hc4 x1'
        go_upto_region 20 with (fail)
        rw [← hW2]
        replace hW2 := hi_ hW2
        clear v0 v1 v2 v3 hP2
        go_wp2_with (first
         | (go_at_call 44; (with_reducible refine ctx.mono ?_); rintro e w9 ⟨rfl, hB9⟩; have hD9 := bthen hE2.out hB9; have hO9 := hOi2.out.below hB9; have tok := hD9.size; replace hB9 := hi_ hB9; replace hD9 := hi_ hD9; replace hO9 := hi_ hO9; clear ctx)
         | (at_builtin; refine app_ms rfl _ _ rfl w4.heap.size _ Z rfl hO9.out T (rowT r) rfl hTl.out (by omega) tok ?_; intro v10 w10 hO10 hB10; have hD10 : Below w4.heap.size w4 w10 := hD9.out.trans hB10; replace hB10 := hi_ hB10; replace hD10 := hi_ hD10; replace hO10 := hi_ hO10; clear tok))
        go_roundw
        case rel => exact ⟨i + 1, by omega, by go_num, by rw [hsn.out]; exact hO10.out, hD10.out⟩
        case measure => simp [RowKit.intOf]; omega
       ·obtain rfl : i = np := by omega
        have hTk : p.take i = p := by rw [hnp.out, List.take_length]
        rw [hTk] at hOi
        have hbs : xrefL ++ bodyT (ps.take (j + 1)) = Y ++ rowsT p := by rw [body_snoc hjl, hY.out, hX.out, ← hp.out]; simp only [List.append_assoc]
        rw [← hbs] at hOi
        replace hOi := hi_ hOi
        replace hBi := hi_ hBi
        replace hRw := hi_ hRw
        replace hRi' := hi_ hRi'
        replace hTk := hi_ hTk
        replace hbs := hi_ hbs
        clear hc3 x1'
        go_wp2
        go_roundw
        case rel => exact ⟨j + 1, by omega, by go_num, hOi.out, hBi.out⟩
        case measure => simp [RowKit.intOf]; omega
     ·obtain rfl : j = N := by omega
      have hTk : ps.take j = ps := by rw [hN.out, List.take_length]
      rw [hTk] at hOj
      have zb := bodyT_len hok.out
      rw [← hN.out] at zb
      obtain ⟨X, hX⟩ : ∃ X, X = (xrefL ++ bodyT ps) := ⟨_, rfl⟩
      rw [← hX] at hOj
      have zX : X.length ≤ 3000000 := by
       have h10 : j * 27300 ≤ 100 * 27300 := Nat.mul_le_mul_right _ (by omega)
       have : xrefL.length = 5 := rfl
       rw [hX, List.length_append]; omega
      have hSp : 0 < S.length := by
       rw [hSo.out]
       cases o with
       | mk ko no bo lo dd =>
        have hk7 : ko = 7 := hkd.out.symm
        subst hk7
        simp [Ob.show]
      have hA4 : A4 = none → c4 = 0 := fun e => by
       obtain ⟨b9, o9, e9, _⟩ := hb4.out.2 hSp
       rw [e] at e9; cases e9
      have hfin : ∀ v W, OwnM w4.heap.size W v ((((X ++ trailL)) ++ S) ++ [10]) → Below w4.heap.size w4 W → WT w o l (.returned (.tuple #[v, .int .i64 0])) W := fun v W h8 h9 => by
       obtain ⟨A9, c9, rfl, h10, _⟩ := h8.out (by simp only [List.length_append, trailL, List.length_cons, List.length_nil]; unfold maxLen; omega)
       have e1 : wS o l = (((X ++ trailL)) ++ S) ++ [10] := by
        unfold wS; rw [if_pos hgood.out]; unfold tabT
        rw [hX, hSo.out, hps.out, hm.out]
       have e2 : wZ o l = 0 := by unfold wZ; rw [if_pos hgood.out]
       exact ⟨A9, c9, by rw [e1, e2], by rw [e1]; exact h10, bthen hb1.out (bthen hD4.out h9)⟩
      have zB := hBj.size
      have hn10 := fun W => byt_new1 W (10 : UInt8) 5
      replace hOj := hi_ hOj
      replace hX := hi_ hX
      replace hTk := hi_ hTk
      replace hA4 := hi_ hA4
      replace hfin := hi_ hfin
      replace hn10 := hi_ hn10
      replace hBj := hi_ hBj
      replace hb4 := hi_ hb4.out
      clear zb
      go_wp2_with (first
       | (at_builtin; refine app_ms rfl _ _ rfl w4.heap.size _ X rfl hOj.out ⟨#[116, 114, 97, 105, 108, 101, 114, 10]⟩ trailL rfl rfl (by simp only [trailL, List.length_cons, List.length_nil]; omega) zB ?_; intro v8 w8 hO8 hB8; have hD8 : Below w4.heap.size w4 w8 := hBj.out.trans hB8; have hb8 := hb4.out.below hD8; have tok := hD8.size; replace hB8 := hi_ hB8; replace hD8 := hi_ hD8; replace hO8 := hi_ hO8; replace hb8 := hi_ hb8; clear zB)
       | (at_builtin; refine app_m rfl _ _ rfl w4.heap.size _ (X ++ trailL) rfl hO8.out A4 _ c4 S rfl rfl hb8.out hA4.out (by simp only [List.length_append, trailL, List.length_cons, List.length_nil]; omega) tok ?_; intro v9 w9 hO9 hB9; have hD9 : Below w4.heap.size w4 w9 := hD8.out.trans hB9; have hal : Below w9.heap.size w9 (w9.alloc (.cells #[.int .u8 10] 5)) := (Below.refl _ _).alloc (Nat.le_refl _) _; have hO9' := hO9.below hal; have hD9' := bthen hD9 hal; have tok2 := hD9'.size; have hb9 : Byt (w9.alloc (.cells #[.int .u8 10] 5)) (some ⟨w9.heap.size, 0, none⟩) [10] := hn10.out w9; replace hB9 := hi_ hB9; replace hD9 := hi_ hD9; replace hO9 := hi_ hO9; replace hal := hi_ hal; replace hO9' := hi_ hO9'; replace hD9' := hi_ hD9'; replace hb9 := hi_ hb9; clear tok)
       | (at_builtin; refine app_m rfl _ _ rfl w4.heap.size _ ((X ++ trailL) ++ S) rfl hO9'.out (some ⟨w9.heap.size, 0, none⟩) 1 1 [10] rfl rfl hb9.out (fun e => (by cases e)) (by simp only [List.length_append, trailL, List.length_cons, List.length_nil]; omega) tok2 ?_; intro v10 w10 hO10 hB10; have hD10 : Below w4.heap.size w4 w10 := hD9'.out.trans hB10; replace hB10 := hi_ hB10; replace hD10 := hi_ hD10; replace hO10 := hi_ hO10; clear tok2))
      go_ret2
      exact hfin.out _ _ hO10.out hD10.out

/- A section's bytes by the document: Write. No condition. -/
def G8r (SB D1 D2 T1 T2 T3 T4 : ByteArray) (vL vH : Value) (j n np : Int) (b3 p3 bi oi : Nat) : Nat → Value → World → Prop := fun q v w => match q with
 | 0 => v = .string SB
 | 1 | 11 => v = vL
 | 2 | 12 => v = .int .i64 j
 | 3 | 13 => v = .pointer (some ⟨b3, p3, none⟩)
 | 4 | 14 => v = vH
 | 5 | 6 => v = .pointer (some ⟨bi, oi, none⟩)
 | 7 => v = .int .i64 n
 | 8 => v = .string D1
 | 9 => v = .string T1
 | 10 => v = .string T2
 | 15 => v = .int .i64 np
 | 16 => v = .string D2
 | 17 => v = .string T3
 | _ => v = .string T4
theorem G8r_mono {SB D1 D2 T1 T2 T3 T4 : ByteArray} {vL vH : Value} {j n np : Int} {b3 p3 bi oi : Nat} (q : Nat) (v : Value) (w w' : World) (hG : G8r SB D1 D2 T1 T2 T3 T4 vL vH j n np b3 p3 bi oi q v w) (hk : Below w.heap.size w w') : G8r SB D1 D2 T1 T2 T3 T4 vL vH j n np b3 p3 bi oi q v w' := hG
def G16r (SB DA DG T1 T2 T3 T4 K T5 T6 : ByteArray) (a g : Int) (p : Nat) : Nat → Value → World → Prop := fun q v w => match q with
 | 0 => v = .string SB
 | 1 => v = .pointer (some ⟨p, 2, none⟩)
 | 2 => v = .int .i64 a
 | 3 => v = .string DA
 | 4 => v = .string T1
 | 5 => v = .string T2
 | 6 => v = .pointer (some ⟨p, 3, none⟩)
 | 7 => v = .int .i64 g
 | 8 => v = .string DG
 | 9 => v = .string T3
 | 10 => v = .string T4
 | 11 => v = .string K
 | 12 => v = .string T5
 | _ => v = .string T6
theorem G16r_mono {SB DA DG T1 T2 T3 T4 K T5 T6 : ByteArray} {a g : Int} {p : Nat} (q : Nat) (v : Value) (w w' : World) (hG : G16r SB DA DG T1 T2 T3 T4 K T5 T6 a g p q v w) (hk : Below w.heap.size w w') : G16r SB DA DG T1 T2 T3 T4 K T5 T6 a g p q v w' := hG
theorem size_app (a b : ByteArray) {n m k : Nat} (h1 : a.size ≤ n) (h2 : b.size ≤ m) (h3 : n + m ≤ k) : (a ++ b).size ≤ k := by rw [ByteArray.size_append]; omega
theorem wOk_parts {o : Ob} {l : List R4} : wOk o l = ((o.kind == 7) && (o.may 28 && (goodK l l.length && risesK l l.length))) := by
 unfold wOk
 cases goodK l l.length <;> cases risesK l l.length <;> cases (o.kind == 7) <;> cases o.may 28 <;> rfl
set_option maxHeartbeats 16000000 in
set_option maxRecDepth 100000 in
theorem ref_Write (o : Ob) (vs : List Value) (A : Option Addr) (c : Nat) (l : List R4) (w : World) (hob : ObAt w o vs) (hbk : o.bulk ≤ 1048576) (h : RowsAt w A l) (hl : l.length ≤ 100) : Calls Tryz.prog 21 #[.agg vs.toArray, .slice A l.length c] w (WT w o l) := by
 obtain ⟨en, E1, E2, E3, en1, ec1, en2, ec2, en3, ec3, hys⟩ := ob_five2 hob
 obtain ⟨kd, hkd⟩ : ∃ k, k = o.kind := ⟨_, rfl⟩
 rw [← hkd] at hys
 subst hys
 obtain ⟨m, hm⟩ : ∃ m, m = l.length := ⟨_, rfl⟩
 obtain ⟨W1, hW1⟩ : ∃ W, W = w.alloc (.cells #[.int .i64 kd, .int .i64 en, .slice E1 en1 ec1, .slice E2 en2 ec2, .slice E3 en3 ec3] 32) := ⟨_, rfl⟩
 have hb1 : Below w.heap.size w W1 := by rw [hW1]; exact (Below.refl _ _).alloc (Nat.le_refl _) _
 have f := five_cells32 hW1
 obtain ⟨f0, f1, f2, f3, f4⟩ := id f
 have h1 := h.below hb1
 have hno : ∀ w', wOk o l = false → Below w.heap.size w w' → WT w o l (.returned (.tuple #[.slice none 0 0, .int .i64 1])) w' := fun w' h1 h2 => WT.no h1 h2
 have cm := ref_May o _ W1 (hob.kept hb1) hbk
 have cr := fun W (hW : Below W1.heap.size W1 W) => ref_rising A c l W (h1.below hW) (by omega)
 obtain ⟨mb, hmb⟩ : ∃ b, b = o.may 28 := ⟨_, rfl⟩
 obtain ⟨rb, hrb⟩ : ∃ b, b = (goodK l l.length && risesK l l.length) := ⟨_, rfl⟩
 rw [← hmb] at cm
 rw [← hrb, ← hm] at cr
 have hwk : wOk o l = ((kd == 7) && (mb && rb)) := by rw [wOk_parts, hkd, hmb, hrb]
 rw [← hm] at hl ⊢
 replace hm := hi_ hm
 replace h := hi_ h
 replace h1 := hi_ h1
 replace hob := hi_ hob
 replace hb1 := hi_ hb1
 replace f := hi_ f
 replace hno := hi_ hno
 replace hkd := hi_ hkd
 replace cr := hi_ cr
 replace hmb := hi_ hmb
 replace hrb := hi_ hrb
 replace hwk := hi_ hwk
 by_cases h7 : kd = 7
 case neg =>
  have e7 : (kd != 7) = true := by simpa using h7
  have hbad : wOk o l = false := by
   rw [hwk.out]
   have : (kd == 7) = false := by simpa using h7
   rw [this]; rfl
  replace hbad := hi_ hbad
  go_enter Tryz.func21, Tryz.ntmps21
  go_upto_region 1 with (fail)
  rw [← hW1]
  replace hW1 := hi_ hW1
  go_wp2
  go_ret2
  exact hno.out _ hbad.out hb1.out
 subst h7
 cases mb with
 | false =>
  have hbad : wOk o l = false := by rw [hwk.out]; rfl
  replace hbad := hi_ hbad
  go_enter Tryz.func21, Tryz.ntmps21
  go_upto_region 1 with (fail)
  rw [← hW1]
  replace hW1 := hi_ hW1
  go_wp2_with (go_at_call 15; (with_reducible refine cm.mono ?_); rintro e w2 ⟨rfl, hB2⟩; replace hB2 := hi_ hB2)
  go_ret2
  exact hno.out _ hbad.out (bthen hb1.out hB2.out)
 | true =>
 cases rb with
 | false =>
  have hbad : wOk o l = false := by rw [hwk.out]; rfl
  replace hbad := hi_ hbad
  go_enter Tryz.func21, Tryz.ntmps21
  go_upto_region 1 with (fail)
  rw [← hW1]
  replace hW1 := hi_ hW1
  go_wp2_with (first
   | (go_at_call 15; (with_reducible refine cm.mono ?_); rintro e w2 ⟨rfl, hB2⟩; have cr2 := cr.out w2 hB2; replace hB2 := hi_ hB2)
   | (go_at_call 46; (with_reducible refine cr2.mono ?_); rintro e w3 ⟨rfl, hB3⟩; replace hB3 := hi_ hB3))
  go_ret2
  exact hno.out _ hbad.out (bthen hb1.out (bthen hB2.out hB3.out))
 | true =>
 have hgood : wOk o l = true := by rw [hwk.out]; rfl
 have hgl : goodK l l.length = true := by
  have := hrb.out.symm
  rw [Bool.and_eq_true] at this; exact this.1
 have cp := fun W (hW : Below W1.heap.size W1 W) => ref_parts A c l W (h1.out.below hW) (by have := hm.out; omega) (good_n hgl)
 rw [← hm.out] at cp
 obtain ⟨ps, hps⟩ : ∃ ps, ps = partsK l m := ⟨_, rfl⟩
 rw [← hps] at cp
 obtain ⟨N, hN⟩ : ∃ N, N = ps.length := ⟨_, rfl⟩
 rw [← hN] at cp
 have hok : PsOk ps := fun p hp => by
  rw [hps] at hp
  have h8 := part_len l m p hp
  have h9 := parts_mem l m (by rw [hm.out]; exact Nat.le_refl _) p hp
  exact ⟨h8.2, by omega, fun r hr => good_ok hgl r (h9 r hr)⟩
 have zN : N ≤ 100 := by rw [hN, hps]; have := parts_len l m; omega
 have cv : ∀ W, Below W1.heap.size W1 W → Calls Tryz.prog 49 #[.agg #[.int .i64 7, .int .i64 en, .slice E1 en1 ec1, .slice E2 en2 ec2, .slice E3 en3 ec3]] W fun e w' => ∃ A c, e = .returned (.tuple #[.slice A o.show.length c, .int .i64 0]) ∧ Byt w' A o.show ∧ Below W.heap.size W w' := fun W hW => by
  have h8 := ref_Print o _ W (hob.out.kept (bthen hb1.out hW)) hbk
  have e1 : prtS o = o.show := by unfold prtS; rw [if_pos ⟨by rw [← hkd.out]; decide, hmb.out.symm⟩]
  have e2 : prtZ o = 0 := by unfold prtZ; rw [if_pos ⟨by rw [← hkd.out]; decide, hmb.out.symm⟩]
  unfold VR2 at h8
  rw [e1, e2] at h8; exact h8
 have zS : o.show.length ≤ 41943040 := by have := show_len o hob.out.fits; omega
 obtain ⟨S, hS⟩ : ∃ S, S = o.show := ⟨_, rfl⟩
 rw [← hS] at cv zS
 replace hgood := hi_ hgood
 replace hgl := hi_ hgl
 replace cp := hi_ cp
 replace cv := hi_ cv
 replace hps := hi_ hps
 replace hN := hi_ hN
 replace hok := hi_ hok
 replace hS := hi_ hS
 go_enter Tryz.func21, Tryz.ntmps21
 go_upto_region 1 with (fail)
 rw [← hW1]
 replace hW1 := hi_ hW1
 go_wp2_with (first
  | (go_at_call 15; (with_reducible refine cm.mono ?_); rintro e w2 ⟨rfl, hB2⟩; have cr2 := cr.out w2 hB2; replace hB2 := hi_ hB2)
  | (go_at_call 46; (with_reducible refine cr2.mono ?_); rintro e w3 ⟨rfl, hB3⟩; have hD3 := bthen hB2.out hB3; have cp3 := cp.out w3 hD3; replace hB3 := hi_ hB3; replace hD3 := hi_ hD3)
  | (go_at_call 47; (with_reducible refine cp3.mono ?_); rintro e w4 ⟨hB4, A4, c4, rfl, hp4⟩; have hD4 := bthen hD3.out hB4; replace hB4 := hi_ hB4; replace hD4 := hi_ hD4; replace hp4 := hi_ hp4))
 clear f0 f1 f2 f3 f4
 go_loopw [6, 8] (fun s6 s8 wr => ∃ (j : Nat) (SB : ByteArray), j ≤ N ∧ s8 = .int .i64 j ∧ s6 = .string SB ∧ SB.data.toList = xrefL ++ bodyT (ps.take j) ∧ Below w4.heap.size w4 wr) (fun _ s8 _ => N - (RowKit.intOf s8).toNat)
 case atStart => exact ⟨0, ⟨#[120, 114, 101, 102, 10]⟩, by omega, rfl, rfl, by simp [bodyT, xrefL], Below.refl _ _⟩
 case round =>
  obtain ⟨j, SB, hj, rfl, rfl, hSB, hBj⟩ := hrel
  obtain ⟨wj, rfl⟩ : ∃ wo : World, wo = wr := ⟨_, rfl⟩
  by_cases hjN : j < N
  ·have hjl : j < ps.length := by rw [← hN.out]; exact hjN
   obtain ⟨p, hp⟩ : ∃ p, p = ps[j] := ⟨_, rfl⟩
   have hpo := hok.out p (by rw [hp]; exact List.getElem_mem hjl)
   obtain ⟨b3, o3, rfl, hc3⟩ := hp4.out.2 (by omega)
   obtain ⟨Ai, ci, x0, hRi0⟩ := hc3 j hjl
   rw [← hp] at x0 hRi0
   obtain ⟨bi, oi, rfl, hci⟩ := hRi0.2 hpo.1
   obtain ⟨r1, hr1⟩ : ∃ r, r = p.getD 0 r0 := ⟨_, rfl⟩
   have hi1 : i64 r1.n := by rw [hr1]; exact PsOk.head hpo
   obtain ⟨np, hnp⟩ : ∃ n, n = p.length := ⟨_, rfl⟩
   rw [← hnp] at x0
   have znp : np ≤ 100 := by rw [hnp]; exact hpo.2.1
   have znp0 : 0 < np := by rw [hnp]; exact hpo.1
   obtain ⟨P3, hP3⟩ : ∃ P, P = o3 + j := ⟨_, rfl⟩
   have hP3' : o3 + j = P3 := hP3.symm
   rw [hP3'] at x0
   have x20 : w4.cell? ⟨bi, oi, none⟩ = some (.int .i64 r1.n) := by
    have h9 := hci 0 hpo.1 0 _ rfl
    rw [hr1, List.getD_eq_getElem?_getD, List.getElem?_eq_getElem hpo.1]
    simpa using h9
   have x1 := (hBj.cell (cell_lt x0)).trans x0
   have x2 := (hBj.cell (cell_lt x20)).trans x20
   obtain ⟨D1, hD1⟩ : ∃ D : ByteArray, D = ⟨(padL r1.n 1).toArray⟩ := ⟨_, rfl⟩
   obtain ⟨D2, hD2⟩ : ∃ D : ByteArray, D = ⟨(padL (np : Int) 1).toArray⟩ := ⟨_, rfl⟩
   have inp : i64 (np : Int) := ⟨by omega, by omega⟩
   have z1 : D1.size ≤ 128 := by rw [hD1]; have := padL_len r1.n hi1 1 (by omega); simpa [ByteArray.size] using this
   have z2 : D2.size ≤ 128 := by rw [hD2]; have := padL_len (np : Int) inp 1 (by omega); simpa [ByteArray.size] using this
   have k1 : ∀ W, Calls Tryz.prog 48 #[.int .i64 r1.n, .int .i64 1] W fun e w' => e = .returned (.string D1) ∧ Below W.heap.size W w' := fun W => ref_ten r1.n hi1 1 (by omega) W D1 hD1
   have k2 : ∀ W, Calls Tryz.prog 48 #[.int .i64 np, .int .i64 1] W fun e w' => e = .returned (.string D2) ∧ Below W.heap.size W w' := fun W => ref_ten (np : Int) inp 1 (by omega) W D2 hD2
   have zSB : SB.size ≤ 3000000 := by
    have h8 := bodyT_len (hok.out.take j)
    have h9 : (ps.take j).length ≤ j := List.length_take_le _ _
    have h10 : (ps.take j).length * 27300 ≤ 100 * 27300 := Nat.mul_le_mul_right _ (by omega)
    have h11 : SB.size = SB.data.toList.length := (Array.length_toList).symm
    have : xrefL.length = 5 := rfl
    rw [h11, hSB, List.length_append]; omega
   obtain ⟨T1, hT1⟩ : ∃ T, T = SB ++ D1 := ⟨_, rfl⟩
   obtain ⟨T2, hT2⟩ : ∃ T, T = T1 ++ ⟨#[32]⟩ := ⟨_, rfl⟩
   obtain ⟨T3, hT3⟩ : ∃ T, T = T2 ++ D2 := ⟨_, rfl⟩
   obtain ⟨T4, hT4⟩ : ∃ T, T = T3 ++ ⟨#[10]⟩ := ⟨_, rfl⟩
   have y1 : T1.size ≤ 3000128 := by rw [hT1]; exact size_app _ _ zSB z1 (by omega)
   have y2 : T2.size ≤ 3000129 := by rw [hT2]; exact size_app _ _ y1 (show (⟨#[32]⟩ : ByteArray).size ≤ 1 by decide) (by omega)
   have y3 : T3.size ≤ 3000257 := by rw [hT3]; exact size_app _ _ y2 z2 (by omega)
   have y4 : T4.size ≤ 3000258 := by rw [hT4]; exact size_app _ _ y3 (show (⟨#[10]⟩ : ByteArray).size ≤ 1 by decide) (by omega)
   have hT4e : T4.data.toList = (xrefL ++ bodyT (ps.take j)) ++ headT p := by
    rw [hT4, bytes_app, hT3, bytes_app, hT2, bytes_app, hT1, bytes_app, hSB, hD1, hD2, hr1, hnp]
    unfold headT
    simp only [List.append_assoc]
   replace hSB := hi_ hSB
   replace hBj := hi_ hBj
   replace hp := hi_ hp
   replace hpo := hi_ hpo
   replace hr1 := hi_ hr1
   replace hi1 := hi_ hi1
   replace hnp := hi_ hnp
   replace hD1 := hi_ hD1
   replace hD2 := hi_ hD2
   replace inp := hi_ inp
   replace k1 := hi_ k1
   replace k2 := hi_ k2
   replace hT1 := hi_ hT1
   replace hT2 := hi_ hT2
   replace hT3 := hi_ hT3
   replace hT4 := hi_ hT4
   replace hT4e := hi_ hT4e
   replace hRi0 := hi_ hRi0
   replace hP3 := hi_ hP3
   replace hci := hi_ hci
   replace x20 := hi_ x20
   clear hc3
   go_upto_region 8 with (fail)
   refine wp_lin_tail (by kernel_rfl) [none, none, none, none, none, none, none, none, none, none, none, none, none, none, none, none, none, none, none, none, none, none, none, none, none, none, none, none, none, none, none, none, none, none, none, some 0, some 1, some 2, some 3, some 4, some 5, some 6, some 7, some 8, some 9, some 10, some 11, some 12, some 13, some 14, some 15, some 16, some 17, some 18, none, none, none, none, none, none, none, none, none, none, none, none, none, none, none, none, none, none, none, none, none, none, none, none, none, none, none, none, none, none, none, none, none, none, none, none, none, none, none, none, none, none, none, none, none] (fun w' => Below wj.heap.size wj w') (fun w' w'' => Below w'.heap.size w' w'') (G8r SB D1 D2 T1 T2 T3 T4 (.slice (some ⟨b3, o3, none⟩) N c4) (.slice (some ⟨bi, oi, none⟩) np ci) j r1.n np b3 P3 bi oi) (by rfl) (by kernel_rfl) 19 _ rfl (by decide) (by kernel_rfl) [19, 19, 19, 19, 19, 19, 19, 19, 19, 19, 19, 19, 19, 19, 19, 19, 19, 19, 19, 0] (by kernel_rfl) ?hR ?mono (.cons 18 (step_of [17] rfl (by kernel_rfl) ?s18) (.cons 17 (step_of [10, 16] rfl (by kernel_rfl) ?s17) (.cons 16 (step_of [15, 8] rfl (by kernel_rfl) ?s16) (.cons 15 (step_of [14] rfl (by kernel_rfl) ?s15) (.cons 14 (step_of [13] rfl (by kernel_rfl) ?s14) (.cons 13 (step_of [11, 12] rfl (by kernel_rfl) ?s13) (.cons 12 (step_of [] rfl (by kernel_rfl) ?s12) (.cons 11 (step_of [] rfl (by kernel_rfl) ?s11) (.cons 10 (step_of [9] rfl (by kernel_rfl) ?s10) (.cons 9 (step_of [0, 8] rfl (by kernel_rfl) ?s9) (.cons 8 (step_of [7] rfl (by kernel_rfl) ?s8) (.cons 7 (step_of [6] rfl (by kernel_rfl) ?s7) (.cons 6 (step_of [5] rfl (by kernel_rfl) ?s6) (.cons 5 (step_of [4] rfl (by kernel_rfl) ?s5) (.cons 4 (step_of [3] rfl (by kernel_rfl) ?s4) (.cons 3 (step_of [1, 2] rfl (by kernel_rfl) ?s3) (.cons 2 (step_of [] rfl (by kernel_rfl) ?s2) (.cons 1 (step_of [] rfl (by kernel_rfl) ?s1) (.cons 0 (step_of [] rfl (by kernel_rfl) ?s0) (.nil)))))))))))))))))))) ?done
   case hR => exact (Below.refl _ _).drew
   case mono => exact G8r_mono
   case s0 =>
    intro x w' hRw hd K' hK
    simp only [All, G8r] at hd
    simp +decide only [upd, G8r, fillL, if_true, if_false] at hK ⊢
    go_simp
    have hK2 := hK _ _ ⟨hRw, Below.refl _ _, rfl⟩
    exact hK2
   case s1 =>
    intro x w' hRw hd K' hK
    simp only [All, G8r] at hd
    simp +decide only [upd, G8r, fillL, if_true, if_false] at hK ⊢
    go_simp
    have hK2 := hK _ _ ⟨hRw, Below.refl _ _, rfl⟩
    exact hK2
   case s2 =>
    intro x w' hRw hd K' hK
    simp only [All, G8r] at hd
    simp +decide only [upd, G8r, fillL, if_true, if_false] at hK ⊢
    go_simp
    have hK2 := hK _ _ ⟨hRw, Below.refl _ _, rfl⟩
    exact hK2
   case s3 =>
    intro x w' hRw hd K' hK
    simp only [All, G8r] at hd
    obtain ⟨e1, e2, _⟩ := hd
    simp +decide only [upd, G8r, fillL, if_true, if_false] at hK ⊢
    simp only [e1, e2] at hK ⊢
    go_simp
    have hK2 := hK _ _ ⟨hRw, Below.refl _ _, rfl⟩
    exact hK2
   case s4 =>
    intro x w' hRw hd K' hK
    simp only [All, G8r] at hd
    obtain ⟨e3, _⟩ := hd
    have tx1 := (hRw.cell (cell_lt x1)).trans x1
    simp +decide only [upd, G8r, fillL, if_true, if_false] at hK ⊢
    simp only [e3] at hK ⊢
    go_simp
    have hK2 := hK _ _ ⟨hRw, Below.refl _ _, rfl⟩
    exact hK2
   case s5 =>
    intro x w' hRw hd K' hK
    simp only [All, G8r] at hd
    obtain ⟨e4, _⟩ := hd
    simp +decide only [upd, G8r, fillL, if_true, if_false] at hK ⊢
    simp only [e4] at hK ⊢
    go_simp
    have hK2 := hK _ _ ⟨hRw, Below.refl _ _, rfl⟩
    exact hK2
   case s6 =>
    intro x w' hRw hd K' hK
    simp only [All, G8r] at hd
    obtain ⟨e5, _⟩ := hd
    simp +decide only [upd, G8r, fillL, if_true, if_false] at hK ⊢
    simp only [e5] at hK ⊢
    go_simp
    have hK2 := hK _ _ ⟨hRw, Below.refl _ _, rfl⟩
    exact hK2
   case s7 =>
    intro x w' hRw hd K' hK
    simp only [All, G8r] at hd
    obtain ⟨e6, _⟩ := hd
    have tx2 := (hRw.cell (cell_lt x2)).trans x2
    simp +decide only [upd, G8r, fillL, if_true, if_false] at hK ⊢
    simp only [e6] at hK ⊢
    go_simp
    have hK2 := hK _ _ ⟨hRw, Below.refl _ _, rfl⟩
    exact hK2
   case s8 =>
    intro x w' hRw hd K' hK
    simp only [All, G8r] at hd
    obtain ⟨e7, _⟩ := hd
    simp +decide only [upd, G8r, fillL, if_true, if_false] at hK ⊢
    simp only [e7] at hK ⊢
    go_simp
    refine (k1.out w').mono ?_
    rintro e' w2 ⟨rfl, hB9⟩
    have hK2 := hK _ _ ⟨bthen hRw hB9, hB9, rfl⟩
    exact hK2
   case s9 =>
    intro x w' hRw hd K' hK
    simp only [All, G8r] at hd
    obtain ⟨e0, e8, _⟩ := hd
    simp +decide only [upd, G8r, fillL, if_true, if_false] at hK ⊢
    simp only [e0, e8] at hK ⊢
    have q1 := hT1.out.symm
    go_simp
    rw [if_neg (by omega)]
    have hK2 := hK _ _ ⟨hRw, Below.refl _ _, rfl⟩
    exact hK2
   case s10 =>
    intro x w' hRw hd K' hK
    simp only [All, G8r] at hd
    obtain ⟨e9, _⟩ := hd
    simp +decide only [upd, G8r, fillL, if_true, if_false] at hK ⊢
    simp only [e9] at hK ⊢
    have q2 := hT2.out.symm
    go_simp
    rw [if_neg (by omega)]
    have hK2 := hK _ _ ⟨hRw, Below.refl _ _, rfl⟩
    exact hK2
   case s11 =>
    intro x w' hRw hd K' hK
    simp only [All, G8r] at hd
    simp +decide only [upd, G8r, fillL, if_true, if_false] at hK ⊢
    go_simp
    have hK2 := hK _ _ ⟨hRw, Below.refl _ _, rfl⟩
    exact hK2
   case s12 =>
    intro x w' hRw hd K' hK
    simp only [All, G8r] at hd
    simp +decide only [upd, G8r, fillL, if_true, if_false] at hK ⊢
    go_simp
    have hK2 := hK _ _ ⟨hRw, Below.refl _ _, rfl⟩
    exact hK2
   case s13 =>
    intro x w' hRw hd K' hK
    simp only [All, G8r] at hd
    obtain ⟨e11, e12, _⟩ := hd
    simp +decide only [upd, G8r, fillL, if_true, if_false] at hK ⊢
    simp only [e11, e12] at hK ⊢
    go_simp
    have hK2 := hK _ _ ⟨hRw, Below.refl _ _, rfl⟩
    exact hK2
   case s14 =>
    intro x w' hRw hd K' hK
    simp only [All, G8r] at hd
    obtain ⟨e13, _⟩ := hd
    have tx1 := (hRw.cell (cell_lt x1)).trans x1
    simp +decide only [upd, G8r, fillL, if_true, if_false] at hK ⊢
    simp only [e13] at hK ⊢
    go_simp
    have hK2 := hK _ _ ⟨hRw, Below.refl _ _, rfl⟩
    exact hK2
   case s15 =>
    intro x w' hRw hd K' hK
    simp only [All, G8r] at hd
    obtain ⟨e14, _⟩ := hd
    simp +decide only [upd, G8r, fillL, if_true, if_false] at hK ⊢
    simp only [e14] at hK ⊢
    go_simp
    have hK2 := hK _ _ ⟨hRw, Below.refl _ _, rfl⟩
    exact hK2
   case s16 =>
    intro x w' hRw hd K' hK
    simp only [All, G8r] at hd
    obtain ⟨e15, e8, _⟩ := hd
    simp +decide only [upd, G8r, fillL, if_true, if_false] at hK ⊢
    simp only [e15, e8] at hK ⊢
    go_simp
    refine (k2.out w').mono ?_
    rintro e' w2 ⟨rfl, hB9⟩
    have hK2 := hK _ _ ⟨bthen hRw hB9, hB9, rfl⟩
    exact hK2
   case s17 =>
    intro x w' hRw hd K' hK
    simp only [All, G8r] at hd
    obtain ⟨e10, e16, _⟩ := hd
    simp +decide only [upd, G8r, fillL, if_true, if_false] at hK ⊢
    simp only [e10, e16] at hK ⊢
    have q3 := hT3.out.symm
    go_simp
    rw [if_neg (by omega)]
    have hK2 := hK _ _ ⟨hRw, Below.refl _ _, rfl⟩
    exact hK2
   case s18 =>
    intro x w' hRw hd K' hK
    simp only [All, G8r] at hd
    obtain ⟨e17, _⟩ := hd
    simp +decide only [upd, G8r, fillL, if_true, if_false] at hK ⊢
    simp only [e17] at hK ⊢
    have q4 := hT4.out.symm
    go_simp
    rw [if_neg (by omega)]
    have hK2 := hK _ _ ⟨hRw, Below.refl _ _, rfl⟩
    exact hK2
   case done =>
    intro x w6 hR2 hG fr hfr
    have a18 := hG 18 (by omega)
    simp only [G8r] at a18
    clear hG
    simp only [fillL] at hfr
    rw [a18] at hfr
    subst hfr
    have hD6 := bthen hBj.out hR2
    replace hR2 := hi_ hR2
    replace hD6 := hi_ hD6
    clear x1 x2 a18
    go_wp2
    go_loopw [6, 9] (fun s6 s9 wr => ∃ (i : Nat) (SC : ByteArray), i ≤ np ∧ s9 = .int .i64 i ∧ s6 = .string SC ∧ SC.data.toList = ((xrefL ++ bodyT (ps.take j)) ++ headT p) ++ rowsT (p.take i) ∧ Below w4.heap.size w4 wr) (fun _ s9 _ => np - (RowKit.intOf s9).toNat)
    case atStart => exact ⟨0, T4, by omega, rfl, rfl, by rw [hT4e.out]; simp [rowsT], hD6.out⟩
    case round =>
     obtain ⟨i, SC, hi, rfl, rfl, hSC, hBi⟩ := hrel
     obtain ⟨wi, rfl⟩ : ∃ wo : World, wo = wr := ⟨_, rfl⟩
     have x1 := (hBi.cell (cell_lt x0)).trans x0
     by_cases hin : i < np
     ·have hil : i < p.length := by rw [← hnp.out]; exact hin
      have hc4 := hci.out i hil
      obtain ⟨r, hr⟩ : ∃ r, r = p[i] := ⟨_, rfl⟩
      rw [← hr] at hc4
      have hro := hpo.out.2.2 r (by rw [hr]; exact List.getElem_mem hil)
      obtain ⟨P, hP0⟩ : ∃ P, P = oi + i * 4 := ⟨_, rfl⟩
      have hP2 : oi + i * 4 = P := hP0.symm
      rw [hP2] at hc4
      have v0 := (hBi.cell (cell_lt (hc4 0 _ rfl))).trans (hc4 0 _ rfl)
      have v1 := (hBi.cell (cell_lt (hc4 1 _ rfl))).trans (hc4 1 _ rfl)
      have v2 := (hBi.cell (cell_lt (hc4 2 _ rfl))).trans (hc4 2 _ rfl)
      have v3 := (hBi.cell (cell_lt (hc4 3 _ rfl))).trans (hc4 3 _ rfl)
      simp only [Nat.add_zero] at v0
      obtain ⟨W2, hW2⟩ : ∃ W, W = wi.alloc (.cells #[.int .i64 r.n, .int .i64 r.k, .int .i64 r.a, .int .i64 r.g] 70) := ⟨_, rfl⟩
      have hb2 : Below wi.heap.size wi W2 := by rw [hW2]; exact (Below.refl _ _).alloc (Nat.le_refl _) _
      have hE2 := bthen hBi hb2
      obtain ⟨c0, c1, c2, c3⟩ := four_cells hW2
      obtain ⟨DA, hDA⟩ : ∃ D : ByteArray, D = ⟨(padL r.a 10).toArray⟩ := ⟨_, rfl⟩
      obtain ⟨DG, hDG⟩ : ∃ D : ByteArray, D = ⟨(padL r.g 5).toArray⟩ := ⟨_, rfl⟩
      have zA : DA.size ≤ 128 := by rw [hDA]; have := padL_len r.a hro.2.1 10 (by omega); simpa [ByteArray.size] using this
      have zG : DG.size ≤ 128 := by rw [hDG]; have := padL_len r.g hro.2.2 5 (by omega); simpa [ByteArray.size] using this
      have kA : ∀ W, Calls Tryz.prog 48 #[.int .i64 r.a, .int .i64 10] W fun e w' => e = .returned (.string DA) ∧ Below W.heap.size W w' := fun W => ref_ten r.a hro.2.1 10 (by omega) W DA hDA
      have kG : ∀ W, Calls Tryz.prog 48 #[.int .i64 r.g, .int .i64 5] W fun e w' => e = .returned (.string DG) ∧ Below W.heap.size W w' := fun W => ref_ten r.g hro.2.2 5 (by omega) W DG hDG
      have zSC : SC.size ≤ 3100000 := by
       have h8 := rowsT_len (p := p.take i) fun x hx => (hpo.out.2.2 x (List.mem_of_mem_take hx)).2
       have h9 : (p.take i).length ≤ i := List.length_take_le _ _
       have h10 : (p.take i).length * 270 ≤ 100 * 270 := Nat.mul_le_mul_right _ (by omega)
       have h11 : SC.size = SC.data.toList.length := (Array.length_toList).symm
       have h12 : T4.size = T4.data.toList.length := (Array.length_toList).symm
       rw [hT4e.out] at h12
       rw [h11, hSC, List.length_append, ← h12]; omega
      obtain ⟨R1, hR1⟩ : ∃ T, T = SC ++ DA := ⟨_, rfl⟩
      obtain ⟨R2, hR2e⟩ : ∃ T, T = R1 ++ ⟨#[32]⟩ := ⟨_, rfl⟩
      obtain ⟨R3, hR3⟩ : ∃ T, T = R2 ++ DG := ⟨_, rfl⟩
      obtain ⟨R4', hR4⟩ : ∃ T, T = R3 ++ ⟨#[32]⟩ := ⟨_, rfl⟩
      have w1 : R1.size ≤ 3100128 := by rw [hR1]; exact size_app _ _ zSC zA (by omega)
      have w2' : R2.size ≤ 3100129 := by rw [hR2e]; exact size_app _ _ w1 (show (⟨#[32]⟩ : ByteArray).size ≤ 1 by decide) (by omega)
      have w3' : R3.size ≤ 3100257 := by rw [hR3]; exact size_app _ _ w2' zG (by omega)
      have w4' : R4'.size ≤ 3100258 := by rw [hR4]; exact size_app _ _ w3' (show (⟨#[32]⟩ : ByteArray).size ≤ 1 by decide) (by omega)
      have hend : ∀ K : ByteArray, (K ++ (⟨#[32, 10]⟩ : ByteArray)).data.toList = (if r.k = 1 then [110, 32, 10] else [102, 32, 10]) → ((R4' ++ K) ++ (⟨#[32, 10]⟩ : ByteArray)).data.toList = ((xrefL ++ bodyT (ps.take j)) ++ headT p) ++ rowsT (p.take (i + 1)) := fun K hK => by
       rw [rows_snoc hil, ← hr, ← List.append_assoc, ← hSC]
       rw [bytes_app, bytes_app, hR4, bytes_app, hR3, bytes_app, hR2e, bytes_app, hR1, bytes_app, hDA, hDG]
       rw [bytes_app] at hK
       unfold rowT
       have e32 : (⟨#[32]⟩ : ByteArray).data.toList = [32] := rfl
       rw [e32]
       simp only [List.append_assoc]
       rw [hK]
       split <;> rfl
      replace hSC := hi_ hSC
      replace hBi := hi_ hBi
      replace hr := hi_ hr
      replace hro := hi_ hro
      replace hP0 := hi_ hP0
      replace hb2 := hi_ hb2
      replace hE2 := hi_ hE2
      replace hDA := hi_ hDA
      replace hDG := hi_ hDG
      replace kA := hi_ kA
      replace kG := hi_ kG
      replace hR1 := hi_ hR1
      replace hR2e := hi_ hR2e
      replace hR3 := hi_ hR3
      replace hR4 := hi_ hR4
      clear hc4
      by_cases hk1 : r.k = 1
      ·have ek : (r.k == 1) = true := by simpa using hk1
       have hend' := hend ⟨#[110]⟩ (by rw [if_pos hk1]; rfl)
       replace hk1 := hi_ hk1
       replace hend' := hi_ hend'
       clear hend
       go_upto_region 16 with (fail)
       rw [← hW2]
       replace hW2 := hi_ hW2
       clear v0 v1 v2 v3 hP2 x1
       refine wp_lin_tail (by kernel_rfl) [none, none, none, none, none, none, none, none, none, none, none, none, none, none, none, none, none, none, none, none, none, none, none, none, none, none, none, none, none, none, none, none, none, none, none, none, none, none, none, none, none, none, none, none, none, none, none, none, none, none, none, none, none, none, none, none, none, none, none, none, none, none, none, none, none, none, none, none, none, none, none, none, none, some 0, some 1, some 2, some 3, some 4, some 5, some 6, some 7, some 8, some 9, some 10, some 11, some 12, some 13, none, none, none, none, none, none, none, none, none, none, none, none] (fun w' => Below W2.heap.size W2 w') (fun w' w'' => Below w'.heap.size w' w'') (G16r SC DA DG R1 R2 R3 R4' ⟨#[110]⟩ (R4' ++ ⟨#[110]⟩) ((R4' ++ ⟨#[110]⟩) ++ ⟨#[32, 10]⟩) r.a r.g wi.heap.size) (by rfl) (by kernel_rfl) 14 _ rfl (by decide) (by kernel_rfl) [14, 14, 14, 14, 14, 14, 14, 14, 14, 14, 14, 14, 14, 14, 0] (by kernel_rfl) ?hRt ?monot (.cons 13 (step_of [12] rfl (by kernel_rfl) ?t13) (.cons 12 (step_of [10, 11] rfl (by kernel_rfl) ?t12) (.cons 11 (step_of [] rfl (by kernel_rfl) ?t11) (.cons 10 (step_of [9] rfl (by kernel_rfl) ?t10) (.cons 9 (step_of [5, 8] rfl (by kernel_rfl) ?t9) (.cons 8 (step_of [7, 3] rfl (by kernel_rfl) ?t8) (.cons 7 (step_of [6] rfl (by kernel_rfl) ?t7) (.cons 6 (step_of [] rfl (by kernel_rfl) ?t6) (.cons 5 (step_of [4] rfl (by kernel_rfl) ?t5) (.cons 4 (step_of [0, 3] rfl (by kernel_rfl) ?t4) (.cons 3 (step_of [2] rfl (by kernel_rfl) ?t3) (.cons 2 (step_of [1] rfl (by kernel_rfl) ?t2) (.cons 1 (step_of [] rfl (by kernel_rfl) ?t1) (.cons 0 (step_of [] rfl (by kernel_rfl) ?t0) (.nil))))))))))))))) ?donet
       case hRt => exact (Below.refl _ _).drew
       case monot => exact G16r_mono
       case t0 =>
        intro x w' hRw hd K' hK
        simp only [All, G16r] at hd
        simp +decide only [upd, G16r, fillL, if_true, if_false] at hK ⊢
        go_simp
        have hK2 := hK _ _ ⟨hRw, Below.refl _ _, rfl⟩
        exact hK2
       case t1 =>
        intro x w' hRw hd K' hK
        simp only [All, G16r] at hd
        simp +decide only [upd, G16r, fillL, if_true, if_false] at hK ⊢
        go_simp
        have hK2 := hK _ _ ⟨hRw, Below.refl _ _, rfl⟩
        exact hK2
       case t2 =>
        intro x w' hRw hd K' hK
        simp only [All, G16r] at hd
        obtain ⟨e1, _⟩ := hd
        have tc2 := (hRw.cell (cell_lt c2)).trans c2
        simp +decide only [upd, G16r, fillL, if_true, if_false] at hK ⊢
        simp only [e1] at hK ⊢
        go_simp
        have hK2 := hK _ _ ⟨hRw, Below.refl _ _, rfl⟩
        exact hK2
       case t3 =>
        intro x w' hRw hd K' hK
        simp only [All, G16r] at hd
        obtain ⟨e2, _⟩ := hd
        simp +decide only [upd, G16r, fillL, if_true, if_false] at hK ⊢
        simp only [e2] at hK ⊢
        go_simp
        refine (kA.out w').mono ?_
        rintro e' w2 ⟨rfl, hB9⟩
        have hK2 := hK _ _ ⟨bthen hRw hB9, hB9, rfl⟩
        exact hK2
       case t4 =>
        intro x w' hRw hd K' hK
        simp only [All, G16r] at hd
        obtain ⟨e0, e3, _⟩ := hd
        simp +decide only [upd, G16r, fillL, if_true, if_false] at hK ⊢
        simp only [e0, e3] at hK ⊢
        have q1 := hR1.out.symm
        go_simp
        rw [if_neg (by omega)]
        have hK2 := hK _ _ ⟨hRw, Below.refl _ _, rfl⟩
        exact hK2
       case t5 =>
        intro x w' hRw hd K' hK
        simp only [All, G16r] at hd
        obtain ⟨e4, _⟩ := hd
        simp +decide only [upd, G16r, fillL, if_true, if_false] at hK ⊢
        simp only [e4] at hK ⊢
        have q2 := hR2e.out.symm
        go_simp
        rw [if_neg (by omega)]
        have hK2 := hK _ _ ⟨hRw, Below.refl _ _, rfl⟩
        exact hK2
       case t6 =>
        intro x w' hRw hd K' hK
        simp only [All, G16r] at hd
        simp +decide only [upd, G16r, fillL, if_true, if_false] at hK ⊢
        go_simp
        have hK2 := hK _ _ ⟨hRw, Below.refl _ _, rfl⟩
        exact hK2
       case t7 =>
        intro x w' hRw hd K' hK
        simp only [All, G16r] at hd
        obtain ⟨e6, _⟩ := hd
        have tc3 := (hRw.cell (cell_lt c3)).trans c3
        simp +decide only [upd, G16r, fillL, if_true, if_false] at hK ⊢
        simp only [e6] at hK ⊢
        go_simp
        have hK2 := hK _ _ ⟨hRw, Below.refl _ _, rfl⟩
        exact hK2
       case t8 =>
        intro x w' hRw hd K' hK
        simp only [All, G16r] at hd
        obtain ⟨e7, e3, _⟩ := hd
        simp +decide only [upd, G16r, fillL, if_true, if_false] at hK ⊢
        simp only [e7, e3] at hK ⊢
        go_simp
        refine (kG.out w').mono ?_
        rintro e' w2 ⟨rfl, hB9⟩
        have hK2 := hK _ _ ⟨bthen hRw hB9, hB9, rfl⟩
        exact hK2
       case t9 =>
        intro x w' hRw hd K' hK
        simp only [All, G16r] at hd
        obtain ⟨e5, e8, _⟩ := hd
        simp +decide only [upd, G16r, fillL, if_true, if_false] at hK ⊢
        simp only [e5, e8] at hK ⊢
        have q3 := hR3.out.symm
        go_simp
        rw [if_neg (by omega)]
        have hK2 := hK _ _ ⟨hRw, Below.refl _ _, rfl⟩
        exact hK2
       case t10 =>
        intro x w' hRw hd K' hK
        simp only [All, G16r] at hd
        obtain ⟨e9, _⟩ := hd
        simp +decide only [upd, G16r, fillL, if_true, if_false] at hK ⊢
        simp only [e9] at hK ⊢
        have q4 := hR4.out.symm
        go_simp
        rw [if_neg (by omega)]
        have hK2 := hK _ _ ⟨hRw, Below.refl _ _, rfl⟩
        exact hK2
       case t11 =>
        intro x w' hRw hd K' hK
        simp only [All, G16r] at hd
        simp +decide only [upd, G16r, fillL, if_true, if_false] at hK ⊢
        go_simp
        have hK2 := hK _ _ ⟨hRw, Below.refl _ _, rfl⟩
        exact hK2
       case t12 =>
        intro x w' hRw hd K' hK
        simp only [All, G16r] at hd
        obtain ⟨e10, e11, _⟩ := hd
        simp +decide only [upd, G16r, fillL, if_true, if_false] at hK ⊢
        simp only [e10, e11] at hK ⊢
        have zk : (⟨#[110]⟩ : ByteArray).size = 1 := rfl
        go_simp
        rw [if_neg (by omega)]
        have hK2 := hK _ _ ⟨hRw, Below.refl _ _, rfl⟩
        exact hK2
       case t13 =>
        intro x w' hRw hd K' hK
        simp only [All, G16r] at hd
        obtain ⟨e12, _⟩ := hd
        simp +decide only [upd, G16r, fillL, if_true, if_false] at hK ⊢
        simp only [e12] at hK ⊢
        have zk : (R4' ++ ⟨#[110]⟩).size = R4'.size + 1 := by rw [ByteArray.size_append]; rfl
        go_simp
        first
         | rw [if_neg (by omega)]
         | skip
        have hK2 := hK _ _ ⟨hRw, Below.refl _ _, rfl⟩
        exact hK2
       case donet =>
        intro x w9 hR2' hG fr hfr
        have a13 := hG 13 (by omega)
        simp only [G16r] at a13
        clear hG
        simp only [fillL] at hfr
        rw [a13] at hfr
        subst hfr
        have hD9 := bthen hE2.out hR2'
        replace hR2' := hi_ hR2'
        replace hD9 := hi_ hD9
        obtain ⟨SN, hSN⟩ : ∃ S : ByteArray, S = (R4' ++ ⟨#[110]⟩) ++ ⟨#[32, 10]⟩ := ⟨_, rfl⟩
        have hSNe := hend'.out
        rw [← hSN] at hSNe
        rw [← hSN]
        replace hSN := hi_ hSN
        replace hSNe := hi_ hSNe
        clear a13 c0 c1 c2 c3
        go_wp2
        go_roundw
        case rel => exact ⟨i + 1, SN, by omega, by go_num, rfl, hSNe.out, hD9.out⟩
        case measure => simp [RowKit.intOf]; omega
      ·have ek : (r.k == 1) = false := by simpa using hk1
       have hend' := hend ⟨#[102]⟩ (by rw [if_neg hk1]; rfl)
       replace hk1 := hi_ hk1
       replace hend' := hi_ hend'
       clear hend
       go_upto_region 16 with (fail)
       rw [← hW2]
       replace hW2 := hi_ hW2
       clear v0 v1 v2 v3 hP2 x1
       refine wp_lin_tail (by kernel_rfl) [none, none, none, none, none, none, none, none, none, none, none, none, none, none, none, none, none, none, none, none, none, none, none, none, none, none, none, none, none, none, none, none, none, none, none, none, none, none, none, none, none, none, none, none, none, none, none, none, none, none, none, none, none, none, none, none, none, none, none, none, none, none, none, none, none, none, none, none, none, none, none, none, none, some 0, some 1, some 2, some 3, some 4, some 5, some 6, some 7, some 8, some 9, some 10, some 11, some 12, some 13, none, none, none, none, none, none, none, none, none, none, none, none] (fun w' => Below W2.heap.size W2 w') (fun w' w'' => Below w'.heap.size w' w'') (G16r SC DA DG R1 R2 R3 R4' ⟨#[102]⟩ (R4' ++ ⟨#[102]⟩) ((R4' ++ ⟨#[102]⟩) ++ ⟨#[32, 10]⟩) r.a r.g wi.heap.size) (by rfl) (by kernel_rfl) 14 _ rfl (by decide) (by kernel_rfl) [14, 14, 14, 14, 14, 14, 14, 14, 14, 14, 14, 14, 14, 14, 0] (by kernel_rfl) ?hRt ?monot (.cons 13 (step_of [12] rfl (by kernel_rfl) ?t13) (.cons 12 (step_of [10, 11] rfl (by kernel_rfl) ?t12) (.cons 11 (step_of [] rfl (by kernel_rfl) ?t11) (.cons 10 (step_of [9] rfl (by kernel_rfl) ?t10) (.cons 9 (step_of [5, 8] rfl (by kernel_rfl) ?t9) (.cons 8 (step_of [7, 3] rfl (by kernel_rfl) ?t8) (.cons 7 (step_of [6] rfl (by kernel_rfl) ?t7) (.cons 6 (step_of [] rfl (by kernel_rfl) ?t6) (.cons 5 (step_of [4] rfl (by kernel_rfl) ?t5) (.cons 4 (step_of [0, 3] rfl (by kernel_rfl) ?t4) (.cons 3 (step_of [2] rfl (by kernel_rfl) ?t3) (.cons 2 (step_of [1] rfl (by kernel_rfl) ?t2) (.cons 1 (step_of [] rfl (by kernel_rfl) ?t1) (.cons 0 (step_of [] rfl (by kernel_rfl) ?t0) (.nil))))))))))))))) ?donet
       case hRt => exact (Below.refl _ _).drew
       case monot => exact G16r_mono
       case t0 =>
        intro x w' hRw hd K' hK
        simp only [All, G16r] at hd
        simp +decide only [upd, G16r, fillL, if_true, if_false] at hK ⊢
        go_simp
        have hK2 := hK _ _ ⟨hRw, Below.refl _ _, rfl⟩
        exact hK2
       case t1 =>
        intro x w' hRw hd K' hK
        simp only [All, G16r] at hd
        simp +decide only [upd, G16r, fillL, if_true, if_false] at hK ⊢
        go_simp
        have hK2 := hK _ _ ⟨hRw, Below.refl _ _, rfl⟩
        exact hK2
       case t2 =>
        intro x w' hRw hd K' hK
        simp only [All, G16r] at hd
        obtain ⟨e1, _⟩ := hd
        have tc2 := (hRw.cell (cell_lt c2)).trans c2
        simp +decide only [upd, G16r, fillL, if_true, if_false] at hK ⊢
        simp only [e1] at hK ⊢
        go_simp
        have hK2 := hK _ _ ⟨hRw, Below.refl _ _, rfl⟩
        exact hK2
       case t3 =>
        intro x w' hRw hd K' hK
        simp only [All, G16r] at hd
        obtain ⟨e2, _⟩ := hd
        simp +decide only [upd, G16r, fillL, if_true, if_false] at hK ⊢
        simp only [e2] at hK ⊢
        go_simp
        refine (kA.out w').mono ?_
        rintro e' w2 ⟨rfl, hB9⟩
        have hK2 := hK _ _ ⟨bthen hRw hB9, hB9, rfl⟩
        exact hK2
       case t4 =>
        intro x w' hRw hd K' hK
        simp only [All, G16r] at hd
        obtain ⟨e0, e3, _⟩ := hd
        simp +decide only [upd, G16r, fillL, if_true, if_false] at hK ⊢
        simp only [e0, e3] at hK ⊢
        have q1 := hR1.out.symm
        go_simp
        rw [if_neg (by omega)]
        have hK2 := hK _ _ ⟨hRw, Below.refl _ _, rfl⟩
        exact hK2
       case t5 =>
        intro x w' hRw hd K' hK
        simp only [All, G16r] at hd
        obtain ⟨e4, _⟩ := hd
        simp +decide only [upd, G16r, fillL, if_true, if_false] at hK ⊢
        simp only [e4] at hK ⊢
        have q2 := hR2e.out.symm
        go_simp
        rw [if_neg (by omega)]
        have hK2 := hK _ _ ⟨hRw, Below.refl _ _, rfl⟩
        exact hK2
       case t6 =>
        intro x w' hRw hd K' hK
        simp only [All, G16r] at hd
        simp +decide only [upd, G16r, fillL, if_true, if_false] at hK ⊢
        go_simp
        have hK2 := hK _ _ ⟨hRw, Below.refl _ _, rfl⟩
        exact hK2
       case t7 =>
        intro x w' hRw hd K' hK
        simp only [All, G16r] at hd
        obtain ⟨e6, _⟩ := hd
        have tc3 := (hRw.cell (cell_lt c3)).trans c3
        simp +decide only [upd, G16r, fillL, if_true, if_false] at hK ⊢
        simp only [e6] at hK ⊢
        go_simp
        have hK2 := hK _ _ ⟨hRw, Below.refl _ _, rfl⟩
        exact hK2
       case t8 =>
        intro x w' hRw hd K' hK
        simp only [All, G16r] at hd
        obtain ⟨e7, e3, _⟩ := hd
        simp +decide only [upd, G16r, fillL, if_true, if_false] at hK ⊢
        simp only [e7, e3] at hK ⊢
        go_simp
        refine (kG.out w').mono ?_
        rintro e' w2 ⟨rfl, hB9⟩
        have hK2 := hK _ _ ⟨bthen hRw hB9, hB9, rfl⟩
        exact hK2
       case t9 =>
        intro x w' hRw hd K' hK
        simp only [All, G16r] at hd
        obtain ⟨e5, e8, _⟩ := hd
        simp +decide only [upd, G16r, fillL, if_true, if_false] at hK ⊢
        simp only [e5, e8] at hK ⊢
        have q3 := hR3.out.symm
        go_simp
        rw [if_neg (by omega)]
        have hK2 := hK _ _ ⟨hRw, Below.refl _ _, rfl⟩
        exact hK2
       case t10 =>
        intro x w' hRw hd K' hK
        simp only [All, G16r] at hd
        obtain ⟨e9, _⟩ := hd
        simp +decide only [upd, G16r, fillL, if_true, if_false] at hK ⊢
        simp only [e9] at hK ⊢
        have q4 := hR4.out.symm
        go_simp
        rw [if_neg (by omega)]
        have hK2 := hK _ _ ⟨hRw, Below.refl _ _, rfl⟩
        exact hK2
       case t11 =>
        intro x w' hRw hd K' hK
        simp only [All, G16r] at hd
        simp +decide only [upd, G16r, fillL, if_true, if_false] at hK ⊢
        go_simp
        have hK2 := hK _ _ ⟨hRw, Below.refl _ _, rfl⟩
        exact hK2
       case t12 =>
        intro x w' hRw hd K' hK
        simp only [All, G16r] at hd
        obtain ⟨e10, e11, _⟩ := hd
        simp +decide only [upd, G16r, fillL, if_true, if_false] at hK ⊢
        simp only [e10, e11] at hK ⊢
        have zk : (⟨#[102]⟩ : ByteArray).size = 1 := rfl
        go_simp
        rw [if_neg (by omega)]
        have hK2 := hK _ _ ⟨hRw, Below.refl _ _, rfl⟩
        exact hK2
       case t13 =>
        intro x w' hRw hd K' hK
        simp only [All, G16r] at hd
        obtain ⟨e12, _⟩ := hd
        simp +decide only [upd, G16r, fillL, if_true, if_false] at hK ⊢
        simp only [e12] at hK ⊢
        have zk : (R4' ++ ⟨#[102]⟩).size = R4'.size + 1 := by rw [ByteArray.size_append]; rfl
        go_simp
        first
         | rw [if_neg (by omega)]
         | skip
        have hK2 := hK _ _ ⟨hRw, Below.refl _ _, rfl⟩
        exact hK2
       case donet =>
        intro x w9 hR2' hG fr hfr
        have a13 := hG 13 (by omega)
        simp only [G16r] at a13
        clear hG
        simp only [fillL] at hfr
        rw [a13] at hfr
        subst hfr
        have hD9 := bthen hE2.out hR2'
        replace hR2' := hi_ hR2'
        replace hD9 := hi_ hD9
        obtain ⟨SN, hSN⟩ : ∃ S : ByteArray, S = (R4' ++ ⟨#[102]⟩) ++ ⟨#[32, 10]⟩ := ⟨_, rfl⟩
        have hSNe := hend'.out
        rw [← hSN] at hSNe
        rw [← hSN]
        replace hSN := hi_ hSN
        replace hSNe := hi_ hSNe
        clear a13 c0 c1 c2 c3
        go_wp2
        go_roundw
        case rel => exact ⟨i + 1, SN, by omega, by go_num, rfl, hSNe.out, hD9.out⟩
        case measure => simp [RowKit.intOf]; omega
     ·obtain rfl : i = np := by omega
      have hTk : p.take i = p := by rw [hnp.out, List.take_length]
      rw [hTk] at hSC
      have hbs : SC.data.toList = xrefL ++ bodyT (ps.take (j + 1)) := by rw [hSC, body_snoc hjl, ← hp.out]; simp only [List.append_assoc]
      replace hSC := hi_ hSC
      replace hBi := hi_ hBi
      replace hTk := hi_ hTk
      replace hbs := hi_ hbs
      go_wp2
      go_roundw
      case rel => exact ⟨j + 1, SC, by omega, by go_num, rfl, hbs.out, hBi.out⟩
      case measure => simp [RowKit.intOf]; omega
  ·obtain rfl : j = N := by omega
   have hTk : ps.take j = ps := by rw [hN.out, List.take_length]
   rw [hTk] at hSB
   have zb := bodyT_len hok.out
   rw [← hN.out] at zb
   have zSB : SB.size ≤ 3000000 := by
    have h10 : j * 27300 ≤ 100 * 27300 := Nat.mul_le_mul_right _ (by omega)
    have h11 : SB.size = SB.data.toList.length := (Array.length_toList).symm
    have : xrefL.length = 5 := rfl
    rw [h11, hSB, List.length_append]; omega
   have hDj := bthen hD4.out hBj
   obtain ⟨f0, f1, f2, f3, f4⟩ := f.out
   have x0 := (hDj.cell (cell_lt f0)).trans f0
   have x1 := (hDj.cell (cell_lt f1)).trans f1
   have x2 := (hDj.cell (cell_lt f2)).trans f2
   have x3 := (hDj.cell (cell_lt f3)).trans f3
   have x4 := (hDj.cell (cell_lt f4)).trans f4
   have cvj := cv.out wj hDj
   obtain ⟨B, hBS⟩ : ∃ B, B = bytes S := ⟨_, rfl⟩
   have zB : B.size ≤ 41943040 := by rw [hBS, bytes_size]; exact zS
   have zT : (⟨#[116, 114, 97, 105, 108, 101, 114, 10]⟩ : ByteArray).size = 8 := rfl
   have z10 : (⟨#[10]⟩ : ByteArray).size = 1 := rfl
   have y1 : (SB ++ ⟨#[116, 114, 97, 105, 108, 101, 114, 10]⟩).size = SB.size + 8 := by rw [ByteArray.size_append, zT]
   have y2 : ((SB ++ ⟨#[116, 114, 97, 105, 108, 101, 114, 10]⟩) ++ B).size = SB.size + 8 + B.size := by rw [ByteArray.size_append, y1]
   have y3 : (((SB ++ ⟨#[116, 114, 97, 105, 108, 101, 114, 10]⟩) ++ B) ++ ⟨#[10]⟩).size = SB.size + 8 + B.size + 1 := by rw [ByteArray.size_append, y2, z10]
   have cvb := fun W => conv_bytes W (((SB ++ ⟨#[116, 114, 97, 105, 108, 101, 114, 10]⟩) ++ B) ++ ⟨#[10]⟩) (by omega)
   have hfin : ∀ A c W, Byt W A ((((SB ++ (⟨#[116, 114, 97, 105, 108, 101, 114, 10]⟩ : ByteArray)) ++ B) ++ (⟨#[10]⟩ : ByteArray)).data.toList) → Below wj.heap.size wj W → WT w o l (.returned (.tuple #[.slice A ((((SB ++ (⟨#[116, 114, 97, 105, 108, 101, 114, 10]⟩ : ByteArray)) ++ B) ++ (⟨#[10]⟩ : ByteArray)).size) c, .int .i64 0])) W := fun A c W h8 h9 => by
    have e0 : (((SB ++ (⟨#[116, 114, 97, 105, 108, 101, 114, 10]⟩ : ByteArray)) ++ B) ++ (⟨#[10]⟩ : ByteArray)).data.toList = wS o l := by
     unfold wS; rw [if_pos hgood.out]; unfold tabT
     rw [bytes_app, bytes_app, bytes_app, hSB, hBS, bytes_list, hS.out, hps.out, hm.out]
     rfl
    have e3 : (wS o l).length = (((SB ++ (⟨#[116, 114, 97, 105, 108, 101, 114, 10]⟩ : ByteArray)) ++ B) ++ (⟨#[10]⟩ : ByteArray)).size := by rw [← e0]; exact Array.length_toList
    have e2 : wZ o l = 0 := by unfold wZ; rw [if_pos hgood.out]
    exact ⟨A, c, by rw [e3, e2], by rw [← e0]; exact h8, bthen hb1.out (bthen hDj h9)⟩
   clear cv
   replace hSB := hi_ hSB
   replace hBj := hi_ hBj
   replace hDj := hi_ hDj
   replace hTk := hi_ hTk
   replace hBS := hi_ hBS
   replace hfin := hi_ hfin
   clear zb f0 f1 f2 f3 f4
   go_wp2_with (go_at_call 49; (with_reducible refine cvj.mono ?_); rintro e w6 ⟨A6, c6, rfl, hb6, hB6⟩; have hx6 := conv_any w6 A6 c6 S hb6; rw [← hBS.out] at hx6; obtain ⟨c7, w7, hcv7, hb7, hB7, _, _⟩ := cvb w6; have hD7 := bthen hB6 hB7; replace hB6 := hi_ hB6; replace hB7 := hi_ hB7; replace hb6 := hi_ hb6; replace hb7 := hi_ hb7; replace hD7 := hi_ hD7)
   go_ret2
   have hg := hfin.out _ c7 _ hb7.out hD7.out
   rw [y3] at hg
   exact hg

/- The law of TableWrites. No condition. -/
theorem rows_one {W : World} {g : Nat} {q : R4} {v0 v1 v2 v3 : Value} (hq : rv q = [v0, v1, v2, v3]) (h0 : W.cell? ⟨g, 0, none⟩ = some v0) (h1 : W.cell? ⟨g, 1, none⟩ = some v1) (h2 : W.cell? ⟨g, 2, none⟩ = some v2) (h3 : W.cell? ⟨g, 3, none⟩ = some v3) : RowsAt W (some ⟨g, 0, none⟩) [q] := by
 refine ⟨by simp [maxLen], fun _ => ⟨g, 0, rfl, fun i hi j u hu => ?_⟩⟩
 have hi0 : i = 0 := by simpa using hi
 subst hi0
 have hu : (rv q)[j]? = some u := hu
 rw [hq] at hu
 match j, hu with
 | 0, hu => rw [← hu]; simpa using h0
 | 1, hu => rw [← hu]; simpa using h1
 | 2, hu => rw [← hu]; simpa using h2
 | 3, hu => rw [← hu]; simpa using h3
theorem law_Same1 (g1 g2 : Nat) (q : R4) (W : World) (h : RowsAt W (some ⟨g1, 0, none⟩) [q]) (h' : RowsAt W (some ⟨g2, 0, none⟩) [q]) : Calls Tryz.prog 12 #[.slice (some ⟨g1, 0, none⟩) 1 1, .slice (some ⟨g2, 0, none⟩) 1 1] W fun e w' => e = .returned (.bool true) ∧ Below W.heap.size W w' := law_Same _ _ 1 1 [q] W h h' (by simp)
theorem law_Same2 (a b c d : Int) (W : World) : Calls Tryz.prog 12 #[.slice (some ⟨W.heap.size, 0, none⟩) 1 1, .slice (some ⟨W.heap.size + 1, 0, none⟩) 1 1] ((W.alloc (.cells #[.int .i64 a, .int .i64 b, .int .i64 c, .int .i64 d] 64)).alloc (.cells #[.int .i64 a, .int .i64 b, .int .i64 c, .int .i64 d] 70)) fun e w' => e = .returned (.bool true) ∧ Below W.heap.size W w' := by
 obtain ⟨W1, hW1⟩ : ∃ W1, W1 = W.alloc (.cells #[.int .i64 a, .int .i64 b, .int .i64 c, .int .i64 d] 64) := ⟨_, rfl⟩
 rw [← hW1]
 obtain ⟨W2, hW2⟩ : ∃ W2, W2 = W1.alloc (.cells #[.int .i64 a, .int .i64 b, .int .i64 c, .int .i64 d] 70) := ⟨_, rfl⟩
 rw [← hW2]
 have z1 : W1.heap.size = W.heap.size + 1 := by rw [hW1]; exact World.size_alloc _ _
 have b1 : Below W.heap.size W W1 := by rw [hW1]; exact (Below.refl _ _).alloc (Nat.le_refl _) _
 have b2 : Below W1.heap.size W1 W2 := by rw [hW2]; exact (Below.refl _ _).alloc (Nat.le_refl _) _
 obtain ⟨p0, p1, p2, p3⟩ := four_kept (four_cells hW1) b2
 obtain ⟨q0, q1, q2, q3⟩ := four_cells hW2
 rw [z1] at q0 q1 q2 q3
 refine (law_Same1 _ _ ⟨a, b, c, d⟩ W2 (rows_one rfl p0 p1 p2 p3) (rows_one rfl q0 q1 q2 q3)).mono ?_
 rintro e w' ⟨rfl, hB⟩
 exact ⟨rfl, bthen (bthen b1 b2) hB⟩
theorem wS_len1 {o : Ob} {l : List R4} {w : World} {vs : List Value} (hob : ObAt w o vs) (hbk : o.bulk ≤ 1048576) (hl : l.length ≤ 60) : (wS o l).length ≤ 1000000000 := by
 unfold wS
 split
 ·rename_i hgood
  have hok : PsOk (partsK l l.length) := by
   unfold wOk at hgood
   simp only [Bool.and_eq_true] at hgood
   intro p hp
   have h8 := part_len l l.length p hp
   have h9 := parts_mem l l.length (Nat.le_refl _) p hp
   exact ⟨h8.2, by omega, fun r hr => good_ok hgood.1.1.1 r (h9 r hr)⟩
  have hk : o.kind ≠ 8 ∧ o.may 28 = true := by
   unfold wOk at hgood
   simp only [Bool.and_eq_true, beq_iff_eq] at hgood
   exact ⟨by omega, hgood.2⟩
  have h1 := bodyT_len hok
  have h2 := parts_len l l.length
  have h3 := prtS_len o hob.fits hbk
  have h4 : (prtS o) = o.show := by unfold prtS; rw [if_pos hk]
  rw [h4] at h3
  unfold tabT
  simp only [List.length_append, List.length_cons, List.length_nil, xrefL, trailL]
  omega
 ·simp
set_option maxHeartbeats 8000000 in
set_option maxRecDepth 100000 in
theorem table_law (w : World) (hT : Tab w) (haw : ∀ W, Below w.heap.size w W → Calls Tryz.prog 7 #[] W fun e w' => e = .returned (.bool true) ∧ Below W.heap.size W w') (o : Ob) (vs : List Value) (hob : ObAt w o vs) (hbk : o.bulk ≤ 1048576) (A : Option Addr) (c : Nat) (l : List R4) (h : RowsAt w A l) (num : Int) :
 Calls Tryz.prog 6 #[.agg vs.toArray, .slice A l.length c, .int .i64 num] w fun e w' => e = .returned (.bool true) ∧ Below w.heap.size w w' := by
 obtain ⟨en, E1, E2, E3, en1, ec1, en2, ec2, en3, ec3, hys⟩ := ob_five2 hob
 obtain ⟨kd, hkd⟩ : ∃ k, k = o.kind := ⟨_, rfl⟩
 rw [← hkd] at hys
 subst hys
 obtain ⟨m, hm⟩ : ∃ m, m = l.length := ⟨_, rfl⟩
 obtain ⟨W1, hW1⟩ : ∃ W, W = w.alloc (.cells #[.int .i64 kd, .int .i64 en, .slice E1 en1 ec1, .slice E2 en2 ec2, .slice E3 en3 ec3] 32) := ⟨_, rfl⟩
 have hb1 : Below w.heap.size w W1 := by rw [hW1]; exact (Below.refl _ _).alloc (Nat.le_refl _) _
 have f := five_cells32 hW1
 have c7 := haw W1 hb1
 have cm := fun W (hW : Below W1.heap.size W1 W) => ref_May o _ W (hob.kept (bthen hb1 hW)) hbk
 obtain ⟨mb, hmb⟩ : ∃ b, b = o.may 28 := ⟨_, rfl⟩
 rw [← hmb] at cm
 have hno : ∀ W, Below W1.heap.size W1 W → Below w.heap.size w W := fun W hW => bthen hb1 hW
 rw [← hm]
 replace hm := hi_ hm
 replace h := hi_ h
 replace hob := hi_ hob
 replace hb1 := hi_ hb1
 replace f := hi_ f
 replace hkd := hi_ hkd
 replace cm := hi_ cm
 replace hmb := hi_ hmb
 replace hno := hi_ hno
 replace hT := hi_ hT
 by_cases h60 : 60 < m
 ·have e1 : decide (60 < m) = true := by simpa using h60
  have e2 : decide ((60 : Int) < (m : Int)) = true := by simp; omega
  replace h60 := hi_ h60
  go_enter Tryz.func6, Tryz.ntmps6
  go_upto_region 1 with (fail)
  rw [← hW1]
  replace hW1 := hi_ hW1
  go_wp2_with (go_at_call 7; (with_reducible refine c7.mono ?_); rintro e w2 ⟨rfl, hB2⟩; replace hB2 := hi_ hB2)
  go_ret
  exact ⟨rfl, hno.out _ hB2.out⟩
 have e1 : decide (60 < m) = false := by simpa using h60
 have e2 : decide ((60 : Int) < (m : Int)) = false := by simp; omega
 cases mb with
 | false =>
  replace h60 := hi_ h60
  go_enter Tryz.func6, Tryz.ntmps6
  go_upto_region 1 with (fail)
  rw [← hW1]
  replace hW1 := hi_ hW1
  go_wp2_with (first
   | (go_at_call 7; (with_reducible refine c7.mono ?_); rintro e w2 ⟨rfl, hB2⟩; have cm2 := cm.out w2 hB2; obtain ⟨f0, f1, f2, f3, f4⟩ := five_kept f.out hB2; replace hB2 := hi_ hB2)
   | (go_at_call 15; (with_reducible refine cm2.mono ?_); rintro e w3 ⟨rfl, hB3⟩; replace hB3 := hi_ hB3))
  go_ret
  exact ⟨rfl, hno.out _ (bthen hB2.out hB3.out)⟩
 | true =>
  have zm : m ≤ 60 := by omega
  obtain ⟨S, hS⟩ : ∃ S, S = wS o l := ⟨_, rfl⟩
  obtain ⟨z, hz⟩ : ∃ z, z = wZ o l := ⟨_, rfl⟩
  obtain ⟨q, hq⟩ : ∃ q, q = lookR l num := ⟨_, rfl⟩
  obtain ⟨hr, hhr⟩ : ∃ b, b = hasR l num := ⟨_, rfl⟩
  have c17 := fun W (hW : Below w.heap.size w W) => law_Rows A c l W (h.out.below hW) (by have := hm.out; omega)
  have c16 := fun A2 c2 W (hW : Below w.heap.size w W) (hR : RowsAt W A2 l) => tab_Write o _ A2 c2 l W (hob.out.kept hW) hbk (hT.out.below hW) hR (by have := hm.out; omega)
  have c21 := fun W (hW : Below w.heap.size w W) => ref_Write o _ A c l W (hob.out.kept hW) hbk (h.out.below hW) (by have := hm.out; omega)
  have c20 := fun A2 c2 W (hR : RowsAt W A2 l) => tab_Lookup A2 c2 l num W hR (by have := hm.out; omega)
  have c22 := fun W (hW : Below w.heap.size w W) => ref_Lookup A c l num W (h.out.below hW) (by have := hm.out; omega)
  unfold WT at c16 c21
  rw [← hS, ← hz] at c16 c21
  rw [← hq, ← hhr] at c20 c22
  obtain ⟨qn, qk, qa, qg⟩ := q
  have e4 : (rv ⟨qn, qk, qa, qg⟩).toArray = #[.int .i64 qn, .int .i64 qk, .int .i64 qa, .int .i64 qg] := rfl
  rw [e4] at c20 c22
  rw [← hm.out] at c16 c17 c20 c21 c22
  replace c17 := hi_ c17
  replace c16 := hi_ c16
  replace c21 := hi_ c21
  replace c20 := hi_ c20
  replace c22 := hi_ c22
  have hSl : S.length ≤ 1000000000 := by rw [hS]; exact wS_len1 hob.out hbk (by rw [← hm.out]; omega)
  replace hSl := hi_ hSl
  replace hS := hi_ hS
  replace hz := hi_ hz
  replace hq := hi_ hq
  replace hhr := hi_ hhr
  replace h60 := hi_ h60
  go_enter Tryz.func6, Tryz.ntmps6
  go_upto_region 1 with (fail)
  rw [← hW1]
  replace hW1 := hi_ hW1
  go_upto_region 5 with (first
   | (go_at_call 7; (with_reducible refine c7.mono ?_); rintro e w2 ⟨rfl, hB2⟩; have cm2 := cm.out w2 hB2; obtain ⟨f0, f1, f2, f3, f4⟩ := five_kept f.out hB2; replace hB2 := hi_ hB2)
   | (go_at_call 15; (with_reducible refine cm2.mono ?_); rintro e w3 ⟨rfl, hB3⟩; have hD3 := bthen hB2.out hB3; obtain ⟨f0, f1, f2, f3, f4⟩ := five_kept f.out hD3; replace hB3 := hi_ hB3; replace hD3 := hi_ hD3))
  go_region_with (first
   | (go_at_call 17; (with_reducible refine (c17.out _ (hno.out _ hD3.out.drew)).mono ?_); rintro e w4 ⟨v9, rfl, hO9, hB9⟩; obtain ⟨A9, c9, rfl, hR9⟩ := hO9.out (by have := hm.out; unfold maxLen; omega); rw [← hm.out]; have hD4 := bthen hD3.out.drew hB9; obtain ⟨f0, f1, f2, f3, f4⟩ := five_kept f.out hD4; have c16' := c16.out A9 c9 w4 (hno.out _ hD4) hR9; replace hD4 := hi_ hD4; replace hB9 := hi_ hB9; replace hR9 := hi_ hR9; clear hO9)
   | (go_at_call 16; (with_reducible refine c16'.mono ?_); rintro e w5 ⟨A5, c5, rfl, hb5, hB5⟩; have hD5 := bthen hD4.out hB5; replace hD5 := hi_ hD5; replace hB5 := hi_ hB5; replace hb5 := hi_ hb5))
  all_goals
   clear f0 f1 f2 f3 f4
   obtain ⟨f0, f1, f2, f3, f4⟩ := five_kept f.out hD5.out
   have c21' := c21.out w5 (hno.out _ hD5.out)
   go_upto_region 7 with (go_at_call 21; (with_reducible refine c21'.mono ?_); rintro e w6 ⟨A6, c6, rfl, hb6, hB6⟩; have hD6 := bthen hD5.out hB6; have c17b := c17.out w6 (hno.out _ hD6); have hb56 := hb5.out.below hB6; replace hb56 := hi_ hb56; replace hB6 := hi_ hB6; replace hD6 := hi_ hD6; replace hb6 := hi_ hb6)
   go_upto_region 9 with (first
    | (go_at_call 17; (with_reducible refine c17b.mono ?_); rintro e w7 ⟨v7, rfl, hO7, hB7⟩; obtain ⟨A7, c7x, rfl, hR7⟩ := hO7.out (by have := hm.out; unfold maxLen; omega); rw [← hm.out]; have hD7 := bthen hD6.out hB7; have c20' := c20.out A7 c7x w7 hR7; replace hD7 := hi_ hD7; replace hB7 := hi_ hB7; replace hR7 := hi_ hR7; clear hO7)
    | (go_at_call 20; (with_reducible refine c20'.mono ?_); rintro e w8 ⟨rfl, hB8⟩; have hD8 := bthen hD7.out hB8; replace hD8 := hi_ hD8; replace hB8 := hi_ hB8)
    | (go_at_call 22; (with_reducible refine (c22.out _ (bthen (hno.out _ hD8.out) ((Below.refl _ _).alloc (Nat.le_refl _) _))).mono ?_); rintro e w9 ⟨rfl, hB9⟩; have hD9 := bthen (bthen (hno.out _ hD8.out) ((Below.refl _ _).alloc (Nat.le_refl _) _)) hB9; replace hD9 := hi_ hD9; replace hB9 := hi_ hB9))
   obtain ⟨W10, hW10⟩ : ∃ W, W = w9.alloc (.cells #[.int .i64 qn, .int .i64 qk, .int .i64 qa, .int .i64 qg] 70) := ⟨_, rfl⟩
   rw [← hW10]
   have b10 : Below w9.heap.size w9 W10 := by rw [hW10]; exact (Below.refl _ _).alloc (Nat.le_refl _) _
   obtain ⟨y0, y1, y2, y3⟩ := four_cells hW10
   obtain ⟨x0, x1, x2, x3⟩ := four_kept (four_kept (four_cells (w := w8) (v0 := .int .i64 qn) (v1 := .int .i64 qk) (v2 := .int .i64 qa) (v3 := .int .i64 qg) (t := 64) rfl) hB9.out) b10
   have k8 : Below w6.heap.size w6 W10 := bthen (bthen hB7.out hB8.out) (bthen (bthen ((Below.refl w8.heap.size w8).alloc (Nat.le_refl _) _) hB9.out) b10)
   have hD10 : Below w.heap.size w W10 := bthen hD9.out b10
   have c23 := fun W (hW : Below W10.heap.size W10 W) => ref_Same A5 A6 c5 c6 S S W (hb56.out.below (bthen k8 hW)) (hb6.out.below (bthen k8 hW)) (hSl.out) (hSl.out)
   rw [decide_eq_true rfl] at c23
   replace c23 := hi_ c23
   replace k8 := hi_ k8
   replace hD10 := hi_ hD10
   replace b10 := hi_ b10
   replace hW10 := hi_ hW10
   go_wp2_with (first
    | (go_at_call 23; (with_reducible refine (c23.out _ (by first | exact Below.refl _ _ | exact (Below.refl _ _).drew)).mono ?_); rintro e w11 ⟨rfl, hB11⟩; have hD11 := bthen hD10.out hB11; have x11 := four_kept ⟨x0, x1, x2, x3⟩ hB11; have y11 := four_kept ⟨y0, y1, y2, y3⟩ hB11; obtain ⟨u0, u1, u2, u3⟩ := x11; obtain ⟨v0, v1, v2, v3⟩ := four_kept y11 ((Below.refl w11.heap.size w11).alloc (Nat.le_refl _) (.cells #[.int .i64 qn, .int .i64 qk, .int .i64 qa, .int .i64 qg] 64)); replace hD11 := hi_ hD11; replace hB11 := hi_ hB11)
    | (go_at_call 12; (with_reducible refine (law_Same2 qn qk qa qg _).mono ?_); rintro e w12 ⟨rfl, hB12⟩; replace hB12 := hi_ hB12))
   go_ret
   exact ⟨rfl, bthen hD11.out hB12.out⟩
end Go.Proofs.YthffpbkndnhlfaaGreatDoor

/- The arguments of TableWrites opened. No condition. -/
namespace Go.Proofs.YthffpbkndnhlfaaGreatDoor
open Go Go.RowKit Go.Wk Go.WideShapes
theorem laid_tail {P : Program} {w : World} {x : String × DataW Unit} {l : List (String × DataW Unit)} (h : laidMet P (x :: l) w) : laidMet P l w := by
 obtain ⟨ps, ⟨g, t, cs, fuel, p, q, _, _, _, _, hq, hp⟩, hnd, hc⟩ := h
 subst hp
 exact ⟨q, hq, (List.nodup_append.1 hnd).2.1, fun b off h => hc b off (List.mem_append_right _ h)⟩
theorem tab_of {W : World} {a b : String × DataW Unit} {rest : List (String × DataW Unit)} (h : laidMet Tryz.prog (a :: b :: ("internal/strconv.uint64pow10", Rows.laid_internal_strconv_uint64pow10) :: rest) W) : Tab W := by
 have h3 := laid_tail (laid_tail h)
 have e : (Rows.laid_internal_strconv_uint64pow10 : DataW Unit) = Lib.tabData .u64 Lib.pow10Tab := by kernel_rfl
 rw [e] at h3
 exact Lib.tabIs_of_head (g := 1) (t := 236) (e := 163) (n := 20) (by kernel_rfl) (by kernel_rfl) Tryz.underlying236 Tryz.underlying163 (by kernel_rfl) (by kernel_rfl) h3
theorem obty : ObTy Tryz.prog 32 91 22 29 30 3 2 9 5 where
 o := ⟨_, Tryz.underlying32, rfl⟩
 e := ⟨_, Tryz.underlying91, rfl⟩
 b := Tryz.underlying22
 u := Tryz.underlying5
 l := Tryz.underlying29
 d := Tryz.underlying30
 i := Tryz.underlying3
 n := Tryz.underlying2
 s := Tryz.underlying9
 co := by kernel_rfl
 ce := by kernel_rfl
 cb := by kernel_rfl
 cl := by kernel_rfl
 cd := by kernel_rfl
 ci := by kernel_rfl
 cn := by kernel_rfl
 cs := by kernel_rfl
 cu := by kernel_rfl
theorem bulk_law {H : Type} : BulkLaw (H := H) Rows.uptoBulk Rows.uptoBulkAll where
 pos d := by
  cases d with
  | lit l => cases l <;> simp [Rows.uptoBulk]
  | nil => simp [Rows.uptoBulk]
  | ptr d => simp [Rows.uptoBulk]
  | slice elems spare => simp [Rows.uptoBulk]
  | agg parts => simp [Rows.uptoBulk]
  | iface t d => simp [Rows.uptoBulk]
  | map entries => simp [Rows.uptoBulk]
  | held h => simp [Rows.uptoBulk]
 str b := by simp [Rows.uptoBulk]
 slice e s := by simp [Rows.uptoBulk]
 agg p := by simp [Rows.uptoBulk]
 nil := by simp [Rows.uptoBulkAll]
 cons d r := by simp [Rows.uptoBulkAll]
set_option maxRecDepth 100000 in
theorem open_ob {H : Type} {enc : TypeId × Value → H} {W : World} {base : Nat} {v : Value} {d : DataW H} {p : List MemPlace} (hv : Value.okWide Tryz.prog W .any base 32 v) (h : DataW.Trod enc Tryz.prog W 0 (fun _ => true) true 32 v d p) :
 ∃ o vs, v = .agg (List.toArray vs) ∧ ObAt W o vs ∧ o.bulk ≤ Rows.uptoBulk d := by
 obtain ⟨cs, rfl, _⟩ := okWide_struct Tryz.underlying32 hv
 obtain ⟨fuel, hf⟩ := h
 obtain ⟨o, ho, hb⟩ := open_obj bulk_law obty fuel _ _ hf
 exact ⟨o, _, by show Value.agg cs = _; congr 1, ho, hb⟩
set_option maxRecDepth 100000 in
theorem small_three {H : Type} {d e f : DataW H} (h : Rows.uptoSmall H [d, e, f] = true) : Rows.uptoBulk d ≤ 1048576 := by
 have h : Rows.uptoBulkAll [d, e, f] ≤ 1048576 := of_decide_eq_true h
 simp only [Rows.uptoBulkAll] at h
 omega
theorem rowty : ∃ fs, Tryz.prog.underlying 70 = some (.struct fs) ∧ fs.toList.map (fun f => (f.type, f.offset)) = [(3, 0), (3, 1), (3, 2), (3, 3)] := ⟨_, Tryz.underlying70, rfl⟩
set_option maxRecDepth 100000 in
theorem open_r4 {H : Type} {enc : TypeId × Value → H} {W : World} {fuel : Nat} {cs : List Value} {x : DataW H × List MemPlace} (h : DataW.trod enc Tryz.prog W 0 (fun _ => true) true fuel 70 cs = some x) : ∃ r : R4, cs = rv r := by
 obtain ⟨fs, hfs, hfl⟩ := rowty
 obtain ⟨xs, n, rfl, ex, hcl, hxl, hF⟩ := DataW.trod_struct hfs h
 have hc : Tryz.prog.cellsOf 70 = 4 := by kernel_rfl
 have hc3 : Tryz.prog.cellsOf 3 = 1 := by kernel_rfl
 have hsz : fs.size = 4 := by have := congrArg List.length hfl; simpa using this
 rw [hc] at hcl
 have fld : ∀ i, [(3, 0), (3, 1), (3, 2), (3, 3)][i]? = some (3, i) → ∃ y, DataW.trod enc Tryz.prog W 0 (fun _ => true) true n 3 ((cs.drop i).take 1) = some y := fun i hi => by
  obtain ⟨f, hf, ht, ho⟩ := fields_at hfl hi
  have hil : i < xs.length := by have := (Array.getElem?_eq_some_iff.1 hf).1; omega
  have := hF i f hf
  rw [ht, ho, hc3] at this
  exact ⟨_, this.trans (List.getElem?_eq_getElem hil)⟩
 match cs, hcl with
 | [c0, c1, c2, c3], _ =>
  obtain ⟨y0, z0⟩ := fld 0 rfl
  obtain ⟨y1, z1⟩ := fld 1 rfl
  obtain ⟨y2, z2⟩ := fld 2 rfl
  obtain ⟨y3, z3⟩ := fld 3 rfl
  obtain ⟨a, e0, _⟩ := DataW.trod_int Tryz.underlying3 (show DataW.trod enc Tryz.prog W 0 (fun _ => true) true n 3 [c0] = some y0 from z0)
  obtain ⟨b, e1, _⟩ := DataW.trod_int Tryz.underlying3 (show DataW.trod enc Tryz.prog W 0 (fun _ => true) true n 3 [c1] = some y1 from z1)
  obtain ⟨c, e2, _⟩ := DataW.trod_int Tryz.underlying3 (show DataW.trod enc Tryz.prog W 0 (fun _ => true) true n 3 [c2] = some y2 from z2)
  obtain ⟨d, e3, _⟩ := DataW.trod_int Tryz.underlying3 (show DataW.trod enc Tryz.prog W 0 (fun _ => true) true n 3 [c3] = some y3 from z3)
  injection e0 with e0; injection e1 with e1; injection e2 with e2; injection e3 with e3
  subst e0 e1 e2 e3
  exact ⟨⟨a, b, c, d⟩, rfl⟩
set_option maxRecDepth 100000 in
theorem open_rows {H : Type} {enc : TypeId × Value → H} {W : World} {base : Nat} {v : Value} {d : DataW H} {p : List MemPlace} (hv : Value.okWide Tryz.prog W .any base 38 v) (h : DataW.Trod enc Tryz.prog W 0 (fun _ => true) true 38 v d p) :
 ∃ A c l, v = .slice A (List.length l) c ∧ RowsAt W A l := by
 obtain ⟨a0, len0, cap0, rfl⟩ := okWide_slice Tryz.underlying38 hv
 obtain ⟨fuel, hf⟩ := h
 have hce : Tryz.prog.cellsOf 70 = 4 := by kernel_rfl
 have hf : DataW.trod enc Tryz.prog W 0 (fun _ => true) true fuel 38 [.slice a0 len0 cap0] = some (d, p) := hf
 rcases DataW.trod_slice Tryz.underlying38 hf with ⟨e, _⟩ | ⟨a, len, cap, elems, rest, n, _, e, _, hb, hl, hm, hlen, hel, _⟩
 ·injection e with e
  injection e with e1 e2 e3
  subst e1 e2 e3
  exact ⟨none, 0, [], rfl, Nat.zero_le _, fun h => by simp at h⟩
 ·injection e with e
  injection e with e1 e2 e3
  subst e1 e2 e3
  have each : ∀ i, i < len0 → ∃ r : R4, ∀ j u, (rv r)[j]? = some u → W.cell? (a.add (4 * i + j)) = some u := fun i hi => by
   obtain ⟨cs, x, hc4, hx, ht, hj⟩ := rows_at hce hlen hel i hi
   obtain ⟨r, rfl⟩ := open_r4 ht
   exact ⟨r, fun j u hu => (hj j (List.getElem?_eq_some_iff.1 hu).1).trans hu⟩
  obtain ⟨l, hl0, hp⟩ := list_of each
  subst hl0
  refine ⟨some a, cap0, l, rfl, by omega, fun h0 => ?_⟩
  obtain ⟨b, o, spot⟩ := a
  have h1 := hp 0 h0 0 _ rfl
  have hspot : spot = none := by simpa [Addr.add] using World.cell?_spot h1
  subst hspot
  refine ⟨b, o, rfl, fun i hi j u hu => ?_⟩
  have := hp i hi j u hu
  rw [add_none] at this
  rw [show o + i * 4 + j = o + (4 * i + j) by omega]
  exact this
end Go.Proofs.YthffpbkndnhlfaaGreatDoor

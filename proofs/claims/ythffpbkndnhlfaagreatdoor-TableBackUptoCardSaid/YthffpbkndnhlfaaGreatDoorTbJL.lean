/- Walks and laws, joined: part L. No condition. -/
import Derived.Test.YthffpbkndnhlfaaGreatDoorTbJK
import Derived.Test.YthffpbkndnhlfaaGreatDoorTbJI
import Derived.Test.YthffpbkndnhlfaaGreatDoorTbJH
import Derived.Test.YthffpbkndnhlfaaGreatDoorTbJA
import Derived.Test.YthffpbkndnhlfaaGreatDoorTbJF
set_option linter.unusedSimpArgs false
set_option linter.unusedVariables false
set_option maxRecDepth 100000
set_option maxHeartbeats 32000000
namespace Go.Proofs.YthffpbkndnhlfaaGreatDoor
open Go Go.RowKit Go.Wk
def headT (p : List R4) : List UInt8 := ((padL (p.getD 0 r0).n 1 ++ [32]) ++ padL p.length 1) ++ [10]
def rowsT (p : List R4) : List UInt8 := (p.map rowT).flatten
def bodyT (ps : List (List R4)) : List UInt8 := (ps.map fun p => headT p ++ rowsT p).flatten
def xrefL : List UInt8 := [120, 114, 101, 102, 10]
def trailL : List UInt8 := [116, 114, 97, 105, 108, 101, 114, 10]
def wOk (o : Ob) (l : List R4) : Bool := goodK l l.length && risesK l l.length && o.kind == 7 && o.may 28
def tabT (o : Ob) (l : List R4) : List UInt8 := (((xrefL ++ bodyT (partsK l l.length)) ++ trailL) ++ o.show) ++ [10]
def wS (o : Ob) (l : List R4) : List UInt8 := if wOk o l = true then tabT o l else []
def wZ (o : Ob) (l : List R4) : Int := if wOk o l = true then 0 else 1
def WT (w : World) (o : Ob) (l : List R4) (e : Ending) (w' : World) : Prop := ∃ A c, e = .returned (.tuple #[.slice A (wS o l).length c, .int .i64 (wZ o l)]) ∧ Byt w' A (wS o l) ∧ Below w.heap.size w w'
theorem WT.no {w w' : World} {o : Ob} {l : List R4} (h : wOk o l = false) (hB : Below w.heap.size w w') : WT w o l (.returned (.tuple #[.slice none 0 0, .int .i64 1])) w' :=
 ⟨none, 0, by simp [wS, wZ, h], by simp [wS, h, Byt.nil], hB⟩
def WTC (w : World) (o : Ob) (l : List R4) (e : Ending) (w' : World) : Prop := ∃ A c, e = .returned (.tuple #[.slice A (wS o l).length c, .int .i64 (wZ o l)]) ∧ Byt w' A (wS o l) ∧ (wS o l).length ≤ c ∧ Below w.heap.size w w'
theorem WTC.no {w w' : World} {o : Ob} {l : List R4} (h : wOk o l = false) (hB : Below w.heap.size w w') : WTC w o l (.returned (.tuple #[.slice none 0 0, .int .i64 1])) w' :=
 ⟨none, 0, by simp [wS, wZ, h], by simp [wS, h, Byt.nil], by simp [wS, h], hB⟩
theorem OwnM.out3 {B : Nat} {w : World} {v : Value} {bs : List UInt8} (h : OwnM B w v bs) (hm : bs.length ≤ maxLen) : ∃ A c, v = .slice A bs.length c ∧ Byt w A bs ∧ (A = none → c = 0) ∧ bs.length ≤ c := by
 obtain ⟨A, c, e, h1, h2⟩ := h.out hm
 refine ⟨A, c, e, h1, h2, ?_⟩
 rcases h with h | ⟨g, cap, cur, lo, hi, e1, _, _, _, hl, _⟩
 ·rcases h.row.2 with ⟨e1, hn⟩ | ⟨g, cap, cur, e1, _, _, hnc, _⟩
  ·rw [e] at e1; injection e1 with e1 e2 e3; omega
  ·rw [e] at e1; injection e1 with e1 e2 e3; omega
 ·rw [e] at e1; injection e1 with e1 e2 e3; omega
theorem wOk_row {o : Ob} {l : List R4} {k : Nat} (hk : k ≤ l.length) (h : goodK l k = false) : wOk o l = false := by
 unfold wOk; rw [good_false hk h]; simp
theorem good_mem {l : List R4} : ∀ {m : Nat}, m ≤ l.length → goodK l m = true → ∀ i (h : i < l.length), i < m → mayR l[i] = true
 | 0, _, _ => fun i h hi => by omega
 | m + 1, hm, h => fun i hi him => by
  have h : (goodK l m && mayR (l.getD m r0)) = true := h
  rw [Bool.and_eq_true] at h
  by_cases e : i = m
  ·subst e
   have h2 := h.2
   rw [List.getD_eq_getElem?_getD, List.getElem?_eq_getElem hi] at h2; exact h2
  ·exact good_mem (m := m) (by omega) h.1 i hi (by omega)
theorem good_n {l : List R4} (h : goodK l l.length = true) : ∀ r ∈ l, 0 ≤ r.n ∧ r.n ≤ 8388607 := fun r hr => by
 obtain ⟨i, hi, rfl⟩ := List.getElem_of_mem hr
 have := good_mem (Nat.le_refl _) h i hi hi
 simp only [mayR, Bool.and_eq_true, decide_eq_true_eq] at this
 exact ⟨this.1.1.1.1.1.2, this.1.1.1.1.2⟩
theorem good_ok {l : List R4} (h : goodK l l.length = true) : ∀ r ∈ l, i64 r.n ∧ i64 r.a ∧ i64 r.g := fun r hr => by
 obtain ⟨i, hi, rfl⟩ := List.getElem_of_mem hr
 have := good_mem (Nat.le_refl _) h i hi hi
 simp only [mayR, Bool.and_eq_true, decide_eq_true_eq] at this
 unfold i64
 exact ⟨by omega, by omega, by omega⟩
theorem parts_mem (l : List R4) : ∀ k, k ≤ l.length → ∀ p ∈ partsK l k, ∀ r ∈ p, r ∈ l
 | 0, _ => by simp [partsK]
 | k + 1, hk => by
  have ih := parts_mem l k (by omega)
  have hm : l.getD k r0 ∈ l := by rw [List.getD_eq_getElem?_getD, List.getElem?_eq_getElem (by omega)]; exact List.getElem_mem (by omega)
  intro p hp r hr
  have hp : p ∈ (if newP l k = true then partsK l k ++ [[l.getD k r0]] else (partsK l k).dropLast ++ [(partsK l k).getLastD [] ++ [l.getD k r0]]) := hp
  split at hp
  ·rcases List.mem_append.1 hp with h | h
   ·exact ih p h r hr
   ·simp at h; subst h; simp at hr; subst hr; simpa using hm
  ·rcases List.mem_append.1 hp with h | h
   ·exact ih p ((List.dropLast_sublist _).subset h) r hr
   ·rw [List.mem_singleton] at h; subst h
    rcases List.mem_append.1 hr with h | h
    ·cases hq : partsK l k with
     | nil => rw [hq] at h; simp at h
     | cons a t =>
      have : (partsK l k).getLastD [] ∈ partsK l k := by rw [hq, List.getLastD_cons]; exact List.getLastD_mem_cons ..
      exact ih _ this r h
    ·rw [List.mem_singleton] at h; subst h; exact hm
theorem rowT_len {r : R4} (h1 : i64 r.a) (h2 : i64 r.g) : (rowT r).length ≤ 270 := by
 have ha := padL_len r.a h1 10 (by omega)
 have hg := padL_len r.g h2 5 (by omega)
 unfold rowT
 simp only [List.length_append, List.length_cons, List.length_nil]
 have : (if r.k = 1 then ([32, 110, 32, 10] : List UInt8) else [32, 102, 32, 10]).length = 4 := by split <;> rfl
 omega
theorem rowsT_len : ∀ {p : List R4}, (∀ r ∈ p, i64 r.a ∧ i64 r.g) → (rowsT p).length ≤ p.length * 270
 | [], _ => by simp [rowsT]
 | r :: p, h => by
  have h1 := rowT_len (h r (by simp)).1 (h r (by simp)).2
  have h2 := rowsT_len (p := p) fun x hx => h x (by simp [hx])
  have e : rowsT (r :: p) = rowT r ++ rowsT p := by simp [rowsT]
  rw [e, List.length_append, List.length_cons]; omega
theorem headT_len {p : List R4} (h : i64 (p.getD 0 r0).n) (hp : p.length ≤ 100) : (headT p).length ≤ 270 := by
 have h1 := padL_len _ h 1 (by omega)
 have h2 := padL_len (p.length : Int) ⟨by omega, by omega⟩ 1 (by omega)
 unfold headT
 simp only [List.length_append, List.length_cons, List.length_nil]; omega
def PsOk (ps : List (List R4)) : Prop := ∀ p ∈ ps, 0 < p.length ∧ p.length ≤ 100 ∧ ∀ r ∈ p, i64 r.n ∧ i64 r.a ∧ i64 r.g
theorem PsOk.head {p : List R4} (h : 0 < p.length ∧ p.length ≤ 100 ∧ ∀ r ∈ p, i64 r.n ∧ i64 r.a ∧ i64 r.g) : i64 (p.getD 0 r0).n := by
 rw [List.getD_eq_getElem?_getD, List.getElem?_eq_getElem h.1]
 exact (h.2.2 _ (List.getElem_mem h.1)).1
theorem bodyT_len : ∀ {ps : List (List R4)}, PsOk ps → (bodyT ps).length ≤ ps.length * 27300
 | [], _ => by simp [bodyT]
 | p :: ps, h => by
  have hp := h p (by simp)
  have h1 := headT_len (PsOk.head hp) hp.2.1
  have h2 := rowsT_len (p := p) fun r hr => (hp.2.2 r hr).2
  have h3 := bodyT_len (ps := ps) fun x hx => h x (by simp [hx])
  have e : bodyT (p :: ps) = (headT p ++ rowsT p) ++ bodyT ps := by simp [bodyT]
  rw [e, List.length_append, List.length_append, List.length_cons]; omega
theorem PsOk.take {ps : List (List R4)} (h : PsOk ps) (j : Nat) : PsOk (ps.take j) := fun p hp => h p (List.mem_of_mem_take hp)
theorem body_snoc {ps : List (List R4)} {j : Nat} (hj : j < ps.length) : bodyT (ps.take (j + 1)) = bodyT (ps.take j) ++ (headT ps[j] ++ rowsT ps[j]) := by
 unfold bodyT
 rw [List.take_succ_eq_append_getElem hj, List.map_append, List.flatten_append]
 simp only [List.map_cons, List.map_nil, List.flatten_cons, List.flatten_nil, List.append_nil]
theorem rows_snoc {p : List R4} {i : Nat} (hi : i < p.length) : rowsT (p.take (i + 1)) = rowsT (p.take i) ++ rowT p[i] := by
 unfold rowsT
 rw [List.take_succ_eq_append_getElem hi, List.map_append, List.flatten_append]
 simp only [List.map_cons, List.map_nil, List.flatten_cons, List.flatten_nil, List.append_nil]
theorem five_cells32 {w : World} {v0 v1 v2 v3 v4 : Value} {W : World} (hW : W = w.alloc (.cells #[v0, v1, v2, v3, v4] 32)) :
 W.cell? ⟨w.heap.size, 0, none⟩ = some v0 ∧ W.cell? ⟨w.heap.size, 1, none⟩ = some v1 ∧ W.cell? ⟨w.heap.size, 2, none⟩ = some v2 ∧ W.cell? ⟨w.heap.size, 3, none⟩ = some v3 ∧ W.cell? ⟨w.heap.size, 4, none⟩ = some v4 := five_cells hW
theorem tab_WriteC (o : Ob) (vs : List Value) (A : Option Addr) (c : Nat) (l : List R4) (w : World) (hob : ObAt w o vs) (hbk : o.bulk ≤ 1048576) (hT : Tab w) (h : RowsAt w A l) (hl : l.length ≤ 100) : Calls Tryz.prog 16 #[.agg vs.toArray, .slice A l.length c] w (WTC w o l) := by
 obtain ⟨en, E1, E2, E3, en1, ec1, en2, ec2, en3, ec3, hys⟩ := ob_five2 hob
 obtain ⟨kd, hkd⟩ : ∃ k, k = o.kind := ⟨_, rfl⟩
 rw [← hkd] at hys
 subst hys
 obtain ⟨m, hm⟩ : ∃ m, m = l.length := ⟨_, rfl⟩
 obtain ⟨W1, hW1, hb1⟩ := newA w 32 #[.int .i64 kd, .int .i64 en, .slice E1 en1 ec1, .slice E2 en2 ec2, .slice E3 en3 ec3]
 have f := five_cells32 hW1
 have h1 := h.below hb1
 have hno : ∀ w', wOk o l = false → Below w.heap.size w w' → WTC w o l (.returned (.tuple #[.slice none 0 0, .int .i64 1])) w' := fun w' h1 h2 => WTC.no h1 h2
 rw [← hm] at hl ⊢
 refine h9_ hm h h1 hob hT hb1 f hno hkd ?_; clear hm h h1 hob hT hb1 f hno hkd; intro hm h h1 hob hT hb1 f hno hkd
 go_enter Tryz.func16, Tryz.ntmps16
 go_upto_region 1 with (fail)
 rw [← hW1]
 replace hW1 := hi_ hW1
 go_wp2
 go_loopw [21] (fun s21 wr => ∃ k : Nat, k ≤ m ∧ s21 = .int .i64 k ∧ goodK l k = true ∧ Below W1.heap.size W1 wr) (fun s21 _ => m - (RowKit.intOf s21).toNat)
 case atStart => exact ⟨0, by omega, rfl, rfl, Below.refl _ _⟩
 case round =>
  rename_i wr
  obtain ⟨k, hk, rfl, hgk, hB⟩ := hrel
  by_cases hkm : k < m
  ·have hkl : k < l.length := by rw [← hm.out]; exact hkm
   obtain ⟨b, of, rfl, hc⟩ := h1.out.2 (by omega)
   have hc4 := hc k hkl
   obtain ⟨r, hr⟩ : ∃ r, r = l[k] := ⟨_, rfl⟩
   have hgr : l.getD k r0 = r := by rw [hr, List.getD_eq_getElem?_getD, List.getElem?_eq_getElem hkl]; rfl
   rw [← hr] at hc4
   obtain ⟨P, hP0⟩ : ∃ P, P = of + k * 4 := ⟨_, rfl⟩
   have hP2 : of + k * 4 = P := hP0.symm
   rw [hP2] at hc4
   have y0 := (hB.cell (cell_lt (hc4 0 _ rfl))).trans (hc4 0 _ rfl)
   have y1 := (hB.cell (cell_lt (hc4 1 _ rfl))).trans (hc4 1 _ rfl)
   have y2 := (hB.cell (cell_lt (hc4 2 _ rfl))).trans (hc4 2 _ rfl)
   have y3 := (hB.cell (cell_lt (hc4 3 _ rfl))).trans (hc4 3 _ rfl)
   simp only [Nat.add_zero] at y0
   obtain ⟨W2, hW2, hb2⟩ := newA wr 64 #[.int .i64 r.n, .int .i64 r.k, .int .i64 r.a, .int .i64 r.g]
   have hD2 := bthen hB hb2
   obtain ⟨c0, c1, c2, c3⟩ := four_cells hW2
   have cm : Calls Tryz.prog 40 #[.agg #[.int .i64 r.n, .int .i64 r.k, .int .i64 r.a, .int .i64 r.g]] W2 fun e w' => e = .returned (.bool (mayR r)) ∧ Below W2.heap.size W2 w' := tab_may r W2
   obtain ⟨mb, hmb⟩ : ∃ mb, mb = mayR r := ⟨_, rfl⟩
   rw [← hmb] at cm
   have hg1 : goodK l (k + 1) = mb := by
    show (goodK l k && mayR (l.getD k r0)) = _
    rw [hgk, hgr, hmb]; rfl
   clear hc hc4
   refine h9_ hP0 hr hB hb2 hD2 hgr hgk hmb hg1 ?_; clear hP0 hr hB hb2 hD2 hgr hgk hmb hg1; intro hP0 hr hB hb2 hD2 hgr hgk hmb hg1
   go_upto_region 4 with (fail)
   rw [← hW2]
   replace hW2 := hi_ hW2
   clear y0 y1 y2 y3 hP2
   cases mb with
   | false =>
    have hbad := wOk_row (o := o) (k := k + 1) (by omega) hg1.out
    replace hbad := hi_ hbad
    go_wp2_with (go_at_call 40; (with_reducible refine cm.mono ?_); rintro e w3 ⟨rfl, hB3⟩; replace hB3 := hi_ hB3)
    go_ret2
    exact hno.out _ hbad.out (bthen hb1.out (bthen hD2.out hB3.out))
   | true =>
    go_wp2_with (go_at_call 40; (with_reducible refine cm.mono ?_); rintro e w3 ⟨rfl, hB3⟩; replace hB3 := hi_ hB3)
    go_roundw
    case rel => exact ⟨k + 1, by omega, by go_num, hg1.out, bthen hD2.out hB3.out⟩
    case measure => simp [RowKit.intOf]; omega
  ·obtain rfl : k = m := by omega
   have hgl : goodK l l.length = true := by rw [← hm.out]; exact hgk
   have cp := tab_Parts A c l wr (h1.out.below hB) (by rw [← hm.out]; omega) (good_n hgl)
   rw [← hm.out] at cp
   have hDr := bthen hb1.out hB
   obtain ⟨z, hz⟩ : ∃ z, z = prtZ o := ⟨_, rfl⟩
   obtain ⟨S, hS⟩ : ∃ S, S = prtS o := ⟨_, rfl⟩
   have cv : ∀ W, Below W1.heap.size W1 W → Calls Tryz.prog 42 #[.agg #[.int .i64 kd, .int .i64 en, .slice E1 en1 ec1, .slice E2 en2 ec2, .slice E3 en3 ec3]] W fun e w' => ∃ A c, e = .returned (.tuple #[.slice A S.length c, .int .i64 z]) ∧ Byt w' A S ∧ Below W.heap.size W w' := fun W hW => by
    rw [hS, hz]
    exact prt_Value2 o _ W (hob.out.kept (bthen hb1.out hW)) hbk (hT.out.below (bthen hb1.out hW))
   have zS : S.length ≤ 41943040 := by rw [hS]; exact prtS_len o hob.out.fits hbk
   have hz01 : z = 0 ∨ z = 1 := by rw [hz]; unfold prtZ; split <;> simp
   obtain ⟨rs, hrs⟩ : ∃ b, b = risesK l k := ⟨_, rfl⟩
   have hwk : wOk o l = (rs && (kd == 7) && o.may 28) := by unfold wOk; rw [hgl, ← hm.out, ← hrs, ← hkd.out]; rfl
   have hmz : ∀ h7 : kd = 7, (o.may 28 = true ↔ z = 0) := fun h7 => by
    rw [hz]; unfold prtZ
    rw [← hkd.out, h7]
    cases o.may 28 <;> simp
   refine h9_ hB hgk hDr cv hz hS hgl hwk hmz ?_; clear hB hgk hDr cv hz hS hgl hwk hmz; intro hB hgk hDr cv hz hS hgl hwk hmz
   rw [← hrs] at cp
   replace hrs := hi_ hrs
   cases rs with
   | false =>
    have hbad : wOk o l = false := by rw [hwk.out]; rfl
    replace hbad := hi_ hbad
    go_wp2_with (first
     | (go_at_call 41; (with_reducible refine cp.mono ?_); rintro e w3 ⟨hB3, ⟨hx, _⟩ | ⟨_, rfl⟩⟩; (cases hx); have hD3 := bthen hB.out hB3; have cv3 := cv.out w3 hD3; obtain ⟨f0, f1, f2, f3, f4⟩ := five_kept f.out hD3; replace hB3 := hi_ hB3; replace hD3 := hi_ hD3)
     | (go_at_call 42; (with_reducible refine cv3.mono ?_); rintro e w4 ⟨A4, c4, rfl, hb4, hB4⟩; replace hb4 := hi_ hb4; replace hB4 := hi_ hB4))
    go_ret2
    exact hno.out _ hbad.out (bthen hb1.out (bthen hD3.out hB4.out))
   | true =>
    by_cases h7 : kd = 7
    case neg =>
     have e7 : (kd != 7) = true := by simpa using h7
     have hbad : wOk o l = false := by
      rw [hwk.out]
      have : (kd == 7) = false := by simpa using h7
      rw [this]; simp
     replace hbad := hi_ hbad
     rcases hz01 with rfl | rfl
     all_goals
      go_wp2_with (first
       | (go_at_call 41; (with_reducible refine cp.mono ?_); rintro e w3 ⟨hB3, ⟨_, A3, c3, rfl, hp3⟩ | ⟨hx, _⟩⟩; rotate_left; (cases hx); have hD3 := bthen hB.out hB3; have cv3 := cv.out w3 hD3; obtain ⟨f0, f1, f2, f3, f4⟩ := five_kept f.out hD3; replace hB3 := hi_ hB3; replace hp3 := hi_ hp3; replace hD3 := hi_ hD3)
       | (go_at_call 42; (with_reducible refine cv3.mono ?_); rintro e w4 ⟨A4, c4, rfl, hb4, hB4⟩; obtain ⟨f0, f1, f2, f3, f4⟩ := five_kept f.out (bthen hD3.out hB4); replace hb4 := hi_ hb4; replace hB4 := hi_ hB4))
      go_ret2
      exact hno.out _ hbad.out (bthen hb1.out (bthen hD3.out hB4.out))
    subst h7
    rcases hz01 with rfl | rfl
    case inr =>
     have hbad : wOk o l = false := by
      rw [hwk.out]
      cases hmay : o.may 28 with
      | false => simp
      | true => have := (hmz.out rfl).1 hmay; cases this
     replace hbad := hi_ hbad
     go_wp2_with (first
      | (go_at_call 41; (with_reducible refine cp.mono ?_); rintro e w3 ⟨hB3, ⟨_, A3, c3, rfl, hp3⟩ | ⟨hx, _⟩⟩; rotate_left; (cases hx); have hD3 := bthen hB.out hB3; have cv3 := cv.out w3 hD3; obtain ⟨f0, f1, f2, f3, f4⟩ := five_kept f.out hD3; replace hB3 := hi_ hB3; replace hp3 := hi_ hp3; replace hD3 := hi_ hD3)
      | (go_at_call 42; (with_reducible refine cv3.mono ?_); rintro e w4 ⟨A4, c4, rfl, hb4, hB4⟩; replace hb4 := hi_ hb4; replace hB4 := hi_ hB4))
     go_ret2
     exact hno.out _ hbad.out (bthen hb1.out (bthen hD3.out hB4.out))
    have hmay : o.may 28 = true := (hmz.out rfl).2 rfl
    have hgood : wOk o l = true := by rw [hwk.out, hmay]; rfl
    have hSo : S = o.show := by rw [hS.out]; unfold prtS; rw [if_pos ⟨by rw [← hkd.out]; decide, hmay⟩]
    refine h3_ hmay hgood hSo ?_; clear hmay hgood hSo; intro hmay hgood hSo
    go_upto_region 12 with (first
     | (go_at_call 41; (with_reducible refine cp.mono ?_); rintro e w3 ⟨hB3, ⟨_, A3, c3, rfl, hp3⟩ | ⟨hx, _⟩⟩; rotate_left; (cases hx); have hD3 := bthen hB.out hB3; have cv3 := cv.out w3 hD3; obtain ⟨f0, f1, f2, f3, f4⟩ := five_kept f.out hD3; replace hB3 := hi_ hB3; replace hp3 := hi_ hp3; replace hD3 := hi_ hD3)
     | (go_at_call 42; (with_reducible refine cv3.mono ?_); rintro e w4 ⟨A4, c4, rfl, hb4, hB4⟩; have hD4 := bthen hD3.out hB4; have hp4 := hp3.out.below hB4; obtain ⟨f0, f1, f2, f3, f4⟩ := five_kept f.out hD4; replace hb4 := hi_ hb4; replace hp4 := hi_ hp4; replace hD4 := hi_ hD4; replace hB4 := hi_ hB4))
    obtain ⟨ps, hps⟩ : ∃ ps, ps = partsK l k := ⟨_, rfl⟩
    rw [← hps] at hp4
    rw [← hps]
    obtain ⟨N, hN⟩ : ∃ N, N = ps.length := ⟨_, rfl⟩
    rw [← hN]
    have hok : PsOk ps := fun p hp => by
     rw [hps] at hp
     have h8 := part_len l k p hp
     have h9 := parts_mem l k (by rw [hm.out]; exact Nat.le_refl _) p hp
     exact ⟨h8.2, by omega, fun r hr => good_ok hgl.out r (h9 r hr)⟩
    have zN : N ≤ 100 := by rw [hN, hps]; have := parts_len l k; omega
    have cc := conv_const w4 #[.int .u8 120, .int .u8 114, .int .u8 101, .int .u8 102, .int .u8 10] 5 5
    obtain ⟨W5, hW5⟩ : ∃ W, W = w4.alloc (.cells #[.int .u8 120, .int .u8 114, .int .u8 101, .int .u8 102, .int .u8 10] 5 (5, 6)) := ⟨_, rfl⟩
    have cc2 : (convert 22 22 (.slice (some ⟨w4.heap.size, 0, none⟩) 5 5)).run Tryz.prog (w4.alloc (.cells #[.int .u8 120, .int .u8 114, .int .u8 101, .int .u8 102, .int .u8 10] 5)) = .ok (.slice (some ⟨w4.heap.size, 0, none⟩) 5 5) W5 := by rw [hW5]; exact cc
    have hO5 : OwnM w4.heap.size W5 (.slice (some ⟨w4.heap.size, 0, none⟩) 5 5) xrefL := .inr ⟨w4.heap.size, 5, _, 5, 6, rfl, Nat.le_refl _, by rw [hW5]; exact heap_alloc_new w4 _, Nat.le_refl _, by decide, by decide, rfl, rfl⟩
    have hb5 : Below w4.heap.size w4 W5 := by rw [hW5]; exact below_mark _ _ _
    have hok4 : ∀ r ∈ l, i64 r.k := fun r hr => by
     obtain ⟨i, hi, rfl⟩ := List.getElem_of_mem hr
     have := good_mem (Nat.le_refl _) hgl.out i hi hi
     simp only [mayR, Bool.and_eq_true, Bool.or_eq_true, beq_iff_eq] at this
     unfold i64
     rcases this.1.1.1.1.1.1 with h | h <;> omega
    have hpl0 : ∀ p ∈ ps, ∀ r ∈ p, r ∈ l := fun p hp => by rw [hps] at hp; exact parts_mem l k (by rw [hm.out]; exact Nat.le_refl _) p hp
    refine h8_ hok4 hpl0 hps hN hok hW5 hO5 hb5 ?_; clear hok4 hpl0 hps hN hok hW5 hO5 hb5; intro hok4 hpl0 hps hN hok hW5 hO5 hb5
    clear f0 f1 f2 f3 f4 cc
    go_wp2
    go_loopw [13, 56] (fun s13 s56 wj => ∃ j : Nat, j ≤ N ∧ s56 = .int .i64 j ∧ OwnM w4.heap.size wj s13 (xrefL ++ bodyT (ps.take j)) ∧ Below w4.heap.size w4 wj) (fun _ s56 _ => N - (RowKit.intOf s56).toNat)
    case atStart => exact ⟨0, by omega, rfl, by simpa [bodyT] using hO5.out, hb5.out⟩
    case round =>
     obtain ⟨j, hj, rfl, hOj, hBj⟩ := hrel
     obtain ⟨wj, rfl⟩ : ∃ wo : World, wo = wr := ⟨_, rfl⟩
     by_cases hjN : j < N
     ·have hjl : j < ps.length := by rw [← hN.out]; exact hjN
      obtain ⟨p, hp⟩ : ∃ p, p = ps[j] := ⟨_, rfl⟩
      have hpo := hok.out p (by rw [hp]; exact List.getElem_mem hjl)
      have hpl := hpl0.out p (by rw [hp]; exact List.getElem_mem hjl)
      replace hpl := hi_ hpl
      obtain ⟨b3, o3, rfl, hc3⟩ := (hp4.out.below hBj).2 (by omega)
      obtain ⟨Ai, ci, x1, hRi⟩ := hc3 j hjl
      rw [← hp] at x1 hRi
      have x1k := x1
      have hBjk := hBj
      obtain ⟨bi, oi, rfl, hci⟩ := hRi.2 hpo.1
      obtain ⟨r1, hr1⟩ : ∃ r, r = p.getD 0 r0 := ⟨_, rfl⟩
      have hi1 : i64 r1.n := by rw [hr1]; exact PsOk.head hpo
      have x2 : wj.cell? ⟨bi, oi, none⟩ = some (.int .i64 r1.n) := by
       have h9 := hci 0 hpo.1 0 _ rfl
       rw [hr1, List.getD_eq_getElem?_getD, List.getElem?_eq_getElem hpo.1]
       simpa using h9
      obtain ⟨np, hnp⟩ : ∃ n, n = p.length := ⟨_, rfl⟩
      rw [← hnp] at x1 x1k
      have znp : np ≤ 100 := by rw [hnp]; exact hpo.2.1
      have znp0 : 0 < np := by rw [hnp]; exact hpo.1
      obtain ⟨D1, hD1⟩ : ∃ D : ByteArray, D = ⟨(padL r1.n 1).toArray⟩ := ⟨_, rfl⟩
      obtain ⟨D2, hD2⟩ : ∃ D : ByteArray, D = ⟨(padL (np : Int) 1).toArray⟩ := ⟨_, rfl⟩
      have inp : i64 (np : Int) := ⟨by omega, by omega⟩
      have z1 : D1.size ≤ 128 := by rw [hD1]; have := padL_len r1.n hi1 1 (by omega); simpa [ByteArray.size] using this
      have z2 : D2.size ≤ 128 := by rw [hD2]; have := padL_len (np : Int) inp 1 (by omega); simpa [ByteArray.size] using this
      have hTj := fun W (hW : Below w4.heap.size w4 W) => hT.out.below (bthen hb1.out (bthen hD4.out hW))
      have k1 : Calls Tryz.prog 43 #[.int .i64 r1.n, .int .i64 1] wj fun e w' => e = .returned (.string D1) ∧ Below wj.heap.size wj w' := tab_digits r1.n hi1 1 (by omega) wj (hTj wj hBj) D1 hD1
      have k2 : ∀ W, Below w4.heap.size w4 W → Calls Tryz.prog 43 #[.int .i64 np, .int .i64 1] W fun e w' => e = .returned (.string D2) ∧ Below W.heap.size W w' := fun W hW => tab_digits (np : Int) inp 1 (by omega) W (hTj W hW) D2 hD2
      obtain ⟨S1, hS1⟩ : ∃ S, S = D1 ++ ⟨#[32]⟩ := ⟨_, rfl⟩
      obtain ⟨S2, hS2⟩ : ∃ S, S = S1 ++ D2 := ⟨_, rfl⟩
      obtain ⟨S3, hS3⟩ : ∃ S, S = S2 ++ ⟨#[10]⟩ := ⟨_, rfl⟩
      have y1 : S1.size ≤ 129 := by rw [hS1, ByteArray.size_append]; show D1.size + 1 ≤ 129; omega
      have y2 : S2.size ≤ 257 := by rw [hS2, ByteArray.size_append]; omega
      have hS3e : S3.data.toList = headT p := by
       rw [hS3, bytes_app, hS2, bytes_app, hS1, bytes_app, hD1, hD2, hr1, hnp]; rfl
      have q1 := hS1.symm
      have q2 := hS2.symm
      have q3 := hS3.symm
      obtain ⟨X, hX⟩ : ∃ X, X = (xrefL ++ bodyT (ps.take j)) := ⟨_, rfl⟩
      rw [← hX] at hOj
      have zX : X.length ≤ 3000000 := by
       have h8 := bodyT_len (hok.out.take j)
       rw [hX, List.length_append]
       have h9 : (ps.take j).length ≤ j := List.length_take_le _ _
       have : xrefL.length = 5 := rfl
       have h10 : (ps.take j).length * 27300 ≤ 100 * 27300 := Nat.mul_le_mul_right _ (by omega)
       omega
      have zH : (headT p).length ≤ 270 := headT_len (PsOk.head hpo) hpo.2.1
      have zB := hBj.size
      have x1q : ∀ W, Below w4.heap.size w4 W → W.cell? ⟨b3, o3 + j, none⟩ = some (.slice (some ⟨bi, oi, none⟩) np ci) := fun W hW => by
       have hb := (hp4.out.2 (by omega))
       obtain ⟨b9, o9, e9, hc9⟩ := hb
       injection e9 with e9
       injection e9 with e9 e9'
       subst e9 e9'
       obtain ⟨A9, c9, h9, _⟩ := hc9 j hjl
       have h10 := (hBjk.cell (cell_lt h9)).trans h9
       rw [x1k] at h10
       exact ((hW.cell (cell_lt h9)).trans h9).trans h10.symm
      replace x1q := hi_ x1q
      clear x1k hBjk
      refine h9_ hOj hBj hp hpo hRi hr1 hi1 hnp hD1 ?_; clear hOj hBj hp hpo hRi hr1 hi1 hnp hD1; intro hOj hBj hp hpo hRi hr1 hi1 hnp hD1
      refine h9_ hD2 inp k2 hTj hS1 hS2 hS3 hS3e hX ?_; clear hD2 inp k2 hTj hS1 hS2 hS3 hS3e hX; intro hD2 inp k2 hTj hS1 hS2 hS3 hS3e hX
      clear hc3 hci
      go_wp2_with (first
       | (go_at_call 43; (with_reducible refine k1.mono ?_); rintro e w6 ⟨rfl, hB6⟩; have hD6 := bthen hBj.out hB6; have k2' := k2.out w6 hD6; have hO6 := hOj.out.below hB6; replace hB6 := hi_ hB6; replace hD6 := hi_ hD6; replace hO6 := hi_ hO6; clear k1)
       | (go_at_call 43; (with_reducible refine k2'.mono ?_); rintro e w7 ⟨rfl, hB7⟩; have hD7 := bthen hD6.out hB7; have hO7 := hO6.out.below hB7; have tok := hD7.size; replace hB7 := hi_ hB7; replace hD7 := hi_ hD7; replace hO7 := hi_ hO7; clear k2')
       | (at_builtin; refine app_ms rfl _ _ rfl w4.heap.size _ X rfl hO7.out S3 (headT p) rfl hS3e.out (by omega) tok ?_; intro v8 w8 hO8 hB8; have hD8 : Below w4.heap.size w4 w8 := hD7.out.trans hB8; replace hB8 := hi_ hB8; replace hD8 := hi_ hD8; replace hO8 := hi_ hO8; clear tok))
      obtain ⟨Y, hY⟩ : ∃ Y, Y = X ++ headT p := ⟨_, rfl⟩
      rw [← hY] at hO8
      have zY : Y.length ≤ 3000300 := by rw [hY, List.length_append]; omega
      have hO8' := hO8.out
      replace hY := hi_ hY
      go_loopw [13, 75] (fun s13 s75 wr => ∃ i : Nat, i ≤ np ∧ s75 = .int .i64 i ∧ OwnM w4.heap.size wr s13 (Y ++ rowsT (p.take i)) ∧ Below w4.heap.size w4 wr) (fun _ s75 _ => np - (RowKit.intOf s75).toNat)
      case atStart => exact ⟨0, by omega, rfl, by simpa [rowsT] using hO8', hD8.out⟩
      case round =>
       clear hO8'
       obtain ⟨i, hi, rfl, hOi, hBi⟩ := hrel
       obtain ⟨wi, rfl⟩ : ∃ wo : World, wo = wr := ⟨_, rfl⟩
       have hRw := hp4.out.below hBi
       obtain ⟨b3', o3', e3, hc3⟩ := hRw.2 (by omega)
       injection e3 with e3
       injection e3 with e3 e3'
       subst e3 e3'
       obtain ⟨Ai', ci', x1', hRi'⟩ := hc3 j hjl
       rw [← hp.out] at x1' hRi'
       have x1w : wi.cell? ⟨b3, o3 + j, none⟩ = some (.slice (some ⟨bi, oi, none⟩) np ci) := x1q.out wi hBi
       rw [x1'] at x1w
       injection x1w with x1w
       injection x1w with x1w
       subst x1w
       by_cases hin : i < np
       ·have hil : i < p.length := by rw [← hnp.out]; exact hin
        obtain ⟨bi', oi', ei, hci⟩ := hRi'.2 hpo.out.1
        injection ei with ei
        injection ei with ei ei'
        subst ei ei'
        have hc4 := hci i hil
        obtain ⟨r, hr⟩ : ∃ r, r = p[i] := ⟨_, rfl⟩
        rw [← hr] at hc4
        have hro := hpo.out.2.2 r (by rw [hr]; exact List.getElem_mem hil)
        obtain ⟨P, hP0⟩ : ∃ P, P = oi + i * 4 := ⟨_, rfl⟩
        have hP2 : oi + i * 4 = P := hP0.symm
        rw [hP2] at hc4
        have v0 := hc4 0 _ rfl
        have v1 := hc4 1 _ rfl
        have v2 := hc4 2 _ rfl
        have v3 := hc4 3 _ rfl
        simp only [Nat.add_zero] at v0
        obtain ⟨W2, hW2, hb2⟩ := newA wi 64 #[.int .i64 r.n, .int .i64 r.k, .int .i64 r.a, .int .i64 r.g]
        have hE2 := bthen hBi hb2
        obtain ⟨c0, c1, c2, c3⟩ := four_cells hW2
        obtain ⟨T, hTe⟩ : ∃ T : ByteArray, T = ⟨(rowT r).toArray⟩ := ⟨_, rfl⟩
        have ctx : Calls Tryz.prog 44 #[.agg #[.int .i64 r.n, .int .i64 r.k, .int .i64 r.a, .int .i64 r.g]] W2 fun e w' => e = .returned (.string T) ∧ Below W2.heap.size W2 w' := tab_text r ⟨hro.1, hok4.out r (hpl.out r (by rw [hr]; exact List.getElem_mem hil)), hro.2.1, hro.2.2⟩ W2 (hTj.out W2 hE2) T hTe
        have hTl : T.data.toList = rowT r := by rw [hTe]
        have zT := rowT_len hro.2.1 hro.2.2
        have zP : (Y ++ rowsT (p.take i)).length ≤ 3100000 := by
         have h8 := rowsT_len (p := p.take i) fun x hx => (hpo.out.2.2 x (List.mem_of_mem_take hx)).2
         have h9 : (p.take i).length ≤ i := List.length_take_le _ _
         have h10 : (p.take i).length * 270 ≤ 100 * 270 := Nat.mul_le_mul_right _ (by omega)
         rw [List.length_append]; omega
        have hOi2 := hOi.below hb2
        have hsn : Y ++ rowsT (p.take (i + 1)) = (Y ++ rowsT (p.take i)) ++ rowT r := by rw [rows_snoc hil, hr, List.append_assoc]
        obtain ⟨Z, hZ⟩ : ∃ Z, Z = Y ++ rowsT (p.take i) := ⟨_, rfl⟩
        rw [← hZ] at hOi hOi2 zP hsn
        refine h9_ hsn hZ hOi2 hOi hTe hTl hro hr hP0 ?_; clear hsn hZ hOi2 hOi hTe hTl hro hr hP0; intro hsn hZ hOi2 hOi hTe hTl hro hr hP0
        refine h4_ hb2 hE2 hBi hRw ?_; clear hb2 hE2 hBi hRw; intro hb2 hE2 hBi hRw
        replace hRi' := hi_ hRi'
        clear hc3 hci hc4 x1'
        go_upto_region 20 with (fail)
        rw [← hW2]
        replace hW2 := hi_ hW2
        clear v0 v1 v2 v3 hP2
        go_wp2_with (first
         | (go_at_call 44; (with_reducible refine ctx.mono ?_); rintro e w9 ⟨rfl, hB9⟩; have hD9 := bthen hE2.out hB9; have hO9 := hOi2.out.below hB9; have tok := hD9.size; replace hB9 := hi_ hB9; replace hD9 := hi_ hD9; replace hO9 := hi_ hO9; clear ctx)
         | (at_builtin; refine app_ms rfl _ _ rfl w4.heap.size _ Z rfl hO9.out T (rowT r) rfl hTl.out (by omega) tok ?_; intro v10 w10 hO10 hB10; have hD10 : Below w4.heap.size w4 w10 := hD9.out.trans hB10; replace hB10 := hi_ hB10; replace hD10 := hi_ hD10; replace hO10 := hi_ hO10; clear tok))
        go_roundw
        case rel => exact ⟨i + 1, by omega, by go_num, by rw [hsn.out]; exact hO10.out, hD10.out⟩
        case measure => simp [RowKit.intOf]; omega
       ·obtain rfl : i = np := by omega
        have hTk : p.take i = p := by rw [hnp.out, List.take_length]
        rw [hTk] at hOi
        have hbs : xrefL ++ bodyT (ps.take (j + 1)) = Y ++ rowsT p := by rw [body_snoc hjl, hY.out, hX.out, ← hp.out]; simp only [List.append_assoc]
        rw [← hbs] at hOi
        refine h3_ hOi hBi hRw ?_; clear hOi hBi hRw; intro hOi hBi hRw
        replace hRi' := hi_ hRi'
        replace hTk := hi_ hTk
        replace hbs := hi_ hbs
        clear hc3 x1'
        go_wp2
        go_roundw
        case rel => exact ⟨j + 1, by omega, by go_num, hOi.out, hBi.out⟩
        case measure => simp [RowKit.intOf]; omega
     ·obtain rfl : j = N := by omega
      have hTk : ps.take j = ps := by rw [hN.out, List.take_length]
      rw [hTk] at hOj
      have zb := bodyT_len hok.out
      rw [← hN.out] at zb
      obtain ⟨X, hX⟩ : ∃ X, X = (xrefL ++ bodyT ps) := ⟨_, rfl⟩
      rw [← hX] at hOj
      have zX : X.length ≤ 3000000 := by
       have h10 : j * 27300 ≤ 100 * 27300 := Nat.mul_le_mul_right _ (by omega)
       have : xrefL.length = 5 := rfl
       rw [hX, List.length_append]; omega
      have hSp : 0 < S.length := by
       rw [hSo.out]
       cases o with
       | mk ko no bo lo dd =>
        have hk7 : ko = 7 := hkd.out.symm
        subst hk7
        simp [Ob.show]
      have hA4 : A4 = none → c4 = 0 := fun e => by
       obtain ⟨b9, o9, e9, _⟩ := hb4.out.2 hSp
       rw [e] at e9; cases e9
      have hfin : ∀ v W, OwnM w4.heap.size W v ((((X ++ trailL)) ++ S) ++ [10]) → Below w4.heap.size w4 W → WTC w o l (.returned (.tuple #[v, .int .i64 0])) W := fun v W h8 h9 => by
       obtain ⟨A9, c9, rfl, h10, _, h11⟩ := h8.out3 (by simp only [List.length_append, trailL, List.length_cons, List.length_nil]; unfold maxLen; omega)
       have e1 : wS o l = (((X ++ trailL)) ++ S) ++ [10] := by
        unfold wS; rw [if_pos hgood.out]; unfold tabT
        rw [hX, hSo.out, hps.out, hm.out]
       have e2 : wZ o l = 0 := by unfold wZ; rw [if_pos hgood.out]
       exact ⟨A9, c9, by rw [e1, e2], by rw [e1]; exact h10, by rw [e1]; exact h11, bthen hb1.out (bthen hD4.out h9)⟩
      have zB := hBj.size
      have hn10 := fun W => byt_new1 W (10 : UInt8) 5
      refine h7_ hOj hX hTk hA4 hfin hn10 hBj ?_; clear hOj hX hTk hA4 hfin hn10 hBj; intro hOj hX hTk hA4 hfin hn10 hBj
      replace hb4 := hi_ hb4.out
      clear zb
      go_wp2_with (first
       | (at_builtin; refine app_ms rfl _ _ rfl w4.heap.size _ X rfl hOj.out ⟨#[116, 114, 97, 105, 108, 101, 114, 10]⟩ trailL rfl rfl (by simp only [trailL, List.length_cons, List.length_nil]; omega) zB ?_; intro v8 w8 hO8 hB8; have hD8 : Below w4.heap.size w4 w8 := hBj.out.trans hB8; have hb8 := hb4.out.below hD8; have tok := hD8.size; replace hB8 := hi_ hB8; replace hD8 := hi_ hD8; replace hO8 := hi_ hO8; replace hb8 := hi_ hb8; clear zB)
       | (at_builtin; refine app_m rfl _ _ rfl w4.heap.size _ (X ++ trailL) rfl hO8.out A4 _ c4 S rfl rfl hb8.out hA4.out (by simp only [List.length_append, trailL, List.length_cons, List.length_nil]; omega) tok ?_; intro v9 w9 hO9 hB9; have hD9 : Below w4.heap.size w4 w9 := hD8.out.trans hB9; have hal : Below w9.heap.size w9 (w9.alloc (.cells #[.int .u8 10] 5)) := (Below.refl _ _).alloc (Nat.le_refl _) _; have hO9' := hO9.below hal; have hD9' := bthen hD9 hal; have tok2 := hD9'.size; have hb9 : Byt (w9.alloc (.cells #[.int .u8 10] 5)) (some ⟨w9.heap.size, 0, none⟩) [10] := hn10.out w9; replace hB9 := hi_ hB9; replace hD9 := hi_ hD9; replace hO9 := hi_ hO9; replace hal := hi_ hal; replace hO9' := hi_ hO9'; replace hD9' := hi_ hD9'; replace hb9 := hi_ hb9; clear tok)
       | (at_builtin; refine app_m rfl _ _ rfl w4.heap.size _ ((X ++ trailL) ++ S) rfl hO9'.out (some ⟨w9.heap.size, 0, none⟩) 1 1 [10] rfl rfl hb9.out (fun e => (by cases e)) (by simp only [List.length_append, trailL, List.length_cons, List.length_nil]; omega) tok2 ?_; intro v10 w10 hO10 hB10; have hD10 : Below w4.heap.size w4 w10 := hD9'.out.trans hB10; replace hB10 := hi_ hB10; replace hD10 := hi_ hD10; replace hO10 := hi_ hO10; clear tok2))
      go_ret2
      exact hfin.out _ _ hO10.out hD10.out
section
open Go Go.RowKit Go.Wk Go.Rd Go.Fx
theorem decK_app : ∀ (a : Bs) (n : Nat) (b : Bs) (m : Nat), decK n a = some m → decK n (a ++ b) = decK m b
 | [], n, b, m, h => by rw [decK] at h; cases h; rfl
 | c :: r, n, b, m, h => by
  rw [decK] at h
  rw [List.cons_append, decK]
  split at h
  ·rename_i hc
   rw [if_pos hc]
   exact decK_app r _ b m h
  ·cases h
theorem decK_one (n d : Nat) (h : d < 10) : decK n [UInt8.ofNat (48 + d)] = some (10 * n + d) := by
 have e : (UInt8.ofNat (48 + d)).toNat = 48 + d := by simp; omega
 rw [decK, e, if_pos (by omega), decK]
 congr 1
 omega
theorem decK_digits (u : Nat) : decK 0 (Lib.decDigits u) = some u := by
 induction u using Nat.strongRecOn with
 | _ u ih =>
  rw [Lib.decDigits]
  split
  ·rename_i h
   rw [decK_one 0 u h]; simp
  ·rename_i h
   rw [decK_app _ 0 _ _ (ih (u / 10) (by omega)), decK_one _ _ (by omega)]
   congr 1
   omega
theorem decK_zeros (b : Bs) : ∀ k, decK 0 (List.replicate k 48 ++ b) = decK 0 b
 | 0 => by simp
 | k + 1 => by
  rw [List.replicate_succ, List.cons_append, decK, if_pos (by decide)]
  exact decK_zeros b k
theorem itoa_nn {n : Int} (h : 0 ≤ n) : Lib.itoa n = Lib.decDigits n.toNat := by unfold Lib.itoa; rw [if_neg (by omega)]
theorem dec_pad {n : Int} (h : 0 ≤ n) (k : Nat) : decS (padL n k) = some n.toNat := by
 unfold decS padL
 rw [decK_zeros, itoa_nn h, decK_digits]
theorem nDigits_le : ∀ (k u : Nat), u < 10 ^ (k + 1) → Lib.nDigits u ≤ k + 1
 | k, u, h => by
  by_cases h1 : u < 10
  ·rw [Lib.nDigits_small h1]; omega
  ·rw [Lib.nDigits_big h1]
   cases k with
   | zero => simp at h; omega
   | succ k =>
    have := nDigits_le k (u / 10) (by rw [Nat.pow_succ] at h; omega)
    omega
theorem pad_len {n : Int} (h : 0 ≤ n) (k : Nat) (hk : n.toNat < 10 ^ (k + 1)) : (padL n (k + 1)).length = k + 1 := by
 unfold padL
 have h1 : (Lib.itoa n).length ≤ k + 1 := by rw [itoa_nn h, Lib.decDigits_length]; exact nDigits_le k _ hk
 simp only [List.length_append, List.length_replicate]
 omega
theorem pad_one {n : Int} (h : 0 ≤ n) : padL n 1 = Lib.itoa n := by
 unfold padL
 have : 1 ≤ (Lib.itoa n).length := by rw [itoa_nn h, Lib.decDigits_length]; exact Lib.nDigits_pos _
 rw [show 1 - (Lib.itoa n).length = 0 by omega]
 rfl
theorem dec_head {n m : Nat} {c : UInt8} {r : Bs} (h : decK n (c :: r) = some m) : isD c = true := by
 rw [decK] at h
 split at h
 ·rename_i hc
  unfold isD; simp only [Bool.and_eq_true, decide_eq_true_eq]; exact hc
 ·cases h
theorem entry_row {r : R4} (h : mayR r = true) : (rowT r).length = 20 ∧ entryS (rowT r) = some (r.k, r.a, r.g) := by
 unfold mayR at h
 simp only [Bool.and_eq_true, Bool.or_eq_true, decide_eq_true_eq, beq_iff_eq] at h
 obtain ⟨⟨⟨⟨⟨⟨hk, h1⟩, h2⟩, h3⟩, h4⟩, h5⟩, h6⟩ := h
 have hX : (padL r.a 10).length = 10 := pad_len h3 9 (by omega)
 have hY : (padL r.g 5).length = 5 := pad_len h5 4 (by omega)
 have dX := dec_pad h3 10
 have dY := dec_pad h5 5
 obtain ⟨X, hXe⟩ : ∃ X, X = padL r.a 10 := ⟨_, rfl⟩
 obtain ⟨Y, hYe⟩ : ∃ Y, Y = padL r.g 5 := ⟨_, rfl⟩
 unfold rowT
 rw [← hXe] at hX dX ⊢
 rw [← hYe] at hY dY ⊢
 have key : ∀ q : UInt8, ((((X ++ [32]) ++ Y) ++ [32, q, 32, 10]).length = 20) ∧ ((((X ++ [32]) ++ Y) ++ [32, q, 32, 10]).take 10 = X) ∧ (((((X ++ [32]) ++ Y) ++ [32, q, 32, 10]).drop 11).take 5 = Y) ∧ ((((X ++ [32]) ++ Y) ++ [32, q, 32, 10]).drop 18 = [32, 10]) ∧ ((((X ++ [32]) ++ Y) ++ [32, q, 32, 10])[10]? = some 32) ∧ ((((X ++ [32]) ++ Y) ++ [32, q, 32, 10])[16]? = some 32) ∧ ((((X ++ [32]) ++ Y) ++ [32, q, 32, 10])[17]? = some q) := fun q => by
  match X, hX with
  | [x0, x1, x2, x3, x4, x5, x6, x7, x8, x9], _ =>
   match Y, hY with
   | [y0, y1, y2, y3, y4], _ => exact ⟨rfl, rfl, rfl, rfl, rfl, rfl, rfl⟩
 have fin : ∀ q : UInt8, (q = 110 ∨ q = 102) → entryS (((X ++ [32]) ++ Y) ++ [32, q, 32, 10]) = some (if q = 110 then 1 else 0, (r.a.toNat : Int), (r.g.toNat : Int)) := fun q hq => by
  obtain ⟨k1, k2, k3, k4, k5, k6, k7⟩ := key q
  unfold entryS
  rw [k2, k3, k4, k5, k6, k7, dX, dY]
  rcases hq with rfl | rfl <;> rfl
 rcases hk with hk | hk
 ·rw [if_neg (by omega)]
  refine ⟨(key 102).1, ?_⟩
  rw [fin 102 (.inr rfl), if_neg (by decide), hk, Int.toNat_of_nonneg h3, Int.toNat_of_nonneg h5]
 ·rw [if_pos hk]
  refine ⟨(key 110).1, ?_⟩
  rw [fin 110 (.inl rfl), if_pos rfl, hk, Int.toNat_of_nonneg h3, Int.toNat_of_nonneg h5]
theorem rows_read (first : Int) : ∀ (p : List R4) (i : Nat) (acc : List R4) (rest : Bs), (∀ r ∈ p, mayR r = true) → (∀ j (h : j < p.length), p[j].n = first + i + j) → rowsS first p.length i acc (rowsT p ++ rest) = .ok (acc ++ p) rest
 | [], i, acc, rest, _, _ => by simp [rowsT, rowsS]
 | r :: q, i, acc, rest, hm, hn => by
  obtain ⟨hl, he⟩ := entry_row (hm r (by simp))
  have e1 : rowsT (r :: q) ++ rest = rowT r ++ (rowsT q ++ rest) := by simp [rowsT]
  rw [e1, List.length_cons, rowsS, if_neg (by rw [List.length_append, hl]; omega), List.take_left' hl, List.drop_left' hl, he]
  have hr := hn 0 (by simp)
  simp only [List.getElem_cons_zero] at hr
  have hr2 : (⟨first + i, r.k, r.a, r.g⟩ : R4) = r := by
   cases r; simp only at hr ⊢; congr 1; omega
  simp only []
  rw [hr2]
  rw [rows_read first q (i + 1) (acc ++ [r]) rest (fun x hx => hm x (by simp [hx])) (fun j hj => by
   have := hn (j + 1) (by simpa using hj)
   simp only [List.getElem_cons_succ] at this
   rw [this]; push_cast; omega)]
  simp
theorem tok_10 (r : Bs) : tokS (10 :: r) = tokS r := by
 have w : whiteB 10 = true := by decide
 unfold tokS
 rw [blankM, w]; rfl
theorem blank_10 (r : Bs) : blankM false (10 :: r) = blankM false r := by
 have w : whiteB 10 = true := by decide
 rw [blankM, w]; rfl
def GoodP (p : List R4) : Prop := 0 < p.length ∧ (∀ r ∈ p, mayR r = true) ∧ ∀ j (h : j < p.length), p[j].n = (p.getD 0 r0).n + j
theorem tok_itoa {n : Int} (h0 : 0 ≤ n) (h1 : n ≤ 8388608) {T : Bs} (hT : Sep T) : tokS (Lib.itoa n ++ T) = .ok ⟨1, n, []⟩ T :=
 tok_num (n := n) (w := true) (by rw [isIn_iff]; omega) (fun _ => by omega) hT
theorem pad_digit {n : Int} (h : 0 ≤ n) (k : Nat) : ∃ c t, padL n (k + 1) = c :: t ∧ isD c = true := by
 have hd := dec_pad h (k + 1)
 obtain ⟨b, hb⟩ : ∃ b, b = padL n (k + 1) := ⟨_, rfl⟩
 rw [← hb] at hd ⊢
 cases b with
 | nil =>
  exfalso
  have : (padL n (k + 1)).length = 0 := by rw [← hb]; rfl
  unfold padL at this
  have h1 : 1 ≤ (Lib.itoa n).length := by rw [itoa_nn h, Lib.decDigits_length]; exact Lib.nDigits_pos _
  simp only [List.length_append] at this
  omega
 | cons c t => exact ⟨c, t, rfl, dec_head hd⟩
theorem row_digit {r : R4} (h : mayR r = true) : ∃ c t, rowT r = c :: t ∧ isD c = true := by
 unfold mayR at h
 simp only [Bool.and_eq_true, Bool.or_eq_true, decide_eq_true_eq, beq_iff_eq] at h
 obtain ⟨c, t, e, hd⟩ := pad_digit h.1.1.1.2 9
 exact ⟨c, _, by unfold rowT; rw [e]; rfl, hd⟩
theorem part_read {p : List R4} (hp : GoodP p) (pre rest : Bs) (hpre : pre = [] ∨ pre = [10]) : partS (pre ++ ((headT p ++ rowsT p) ++ rest)) = .ok p rest := by
 obtain ⟨h0, hm, hn⟩ := hp
 cases p with
 | nil => simp at h0
 | cons r q =>
  have hr := hm r (by simp)
  have hr1 : 0 ≤ r.n ∧ r.n ≤ 8388607 := by
   unfold mayR at hr
   simp only [Bool.and_eq_true, Bool.or_eq_true, decide_eq_true_eq, beq_iff_eq] at hr
   exact ⟨hr.1.1.1.1.1.2, hr.1.1.1.1.2⟩
  have hg : (r :: q).getD 0 r0 = r := rfl
  rw [hg] at hn
  obtain ⟨m, hmm⟩ : ∃ m, m = (r :: q).length := ⟨_, rfl⟩
  have hmb : r.n + m ≤ 8388608 := by
   have h1 := hn (m - 1) (by omega)
   have h2 := hm ((r :: q)[m - 1]'(by omega)) (List.getElem_mem _)
   unfold mayR at h2
   simp only [Bool.and_eq_true, Bool.or_eq_true, decide_eq_true_eq, beq_iff_eq] at h2
   have := h2.1.1.1.1.2
   rw [h1] at this
   omega
  obtain ⟨X, hX⟩ : ∃ X, X = 10 :: (rowsT (r :: q) ++ rest) := ⟨_, rfl⟩
  have e0 : (headT (r :: q) ++ rowsT (r :: q)) ++ rest = Lib.itoa r.n ++ (32 :: (Lib.itoa m ++ X)) := by
   rw [hX]
   unfold headT
   rw [hg, pad_one hr1.1, ← hmm, pad_one (by omega)]
   simp
  have t1 : tokS (pre ++ (Lib.itoa r.n ++ (32 :: (Lib.itoa m ++ X)))) = .ok ⟨1, r.n, []⟩ (32 :: (Lib.itoa m ++ X)) := by
   rcases hpre with rfl | rfl
   ·exact tok_itoa hr1.1 (by omega) (sep_cons (by decide))
   ·rw [List.singleton_append, tok_10]; exact tok_itoa hr1.1 (by omega) (sep_cons (by decide))
  have t2 : tokS (32 :: (Lib.itoa m ++ X)) = .ok ⟨1, (m : Int), []⟩ X := by
   rw [tok_sp, hX]; exact tok_itoa (by omega) (by omega) (sep_cons (by decide))
  unfold partS
  rw [e0, n_yes t1 ⟨rfl, hr1.1, hr1.2⟩]
  simp only []
  rw [n_yes t2 ⟨rfl, by simp, by simp only; omega⟩]
  simp only []
  have hw : whiteR X = rowsT (r :: q) ++ rest := by
   obtain ⟨c, t, e, hd⟩ := row_digit hr
   have e2 : rowsT (r :: q) ++ rest = c :: (t ++ (rowsT q ++ rest)) := by simp [rowsT, e]
   rw [hX, e2]
   unfold whiteR
   rw [List.dropWhile_cons, if_pos (by decide), List.dropWhile_cons, if_neg (by rw [(dig_ok hd).2.1]; decide)]
  rw [hw, Int.toNat_natCast, hmm, rows_read r.n (r :: q) 0 [] rest hm (fun j hj => by rw [hn j hj]; simp)]
  simp
theorem kw_dig {c : UInt8} {t pre : Bs} (hd : isD c = true) (hpre : pre = [] ∨ pre = [10]) : kwL trailW (pre ++ (c :: t)) = false := by
 have hb : blankM false (pre ++ (c :: t)) = c :: t := by
  rcases hpre with rfl | rfl
  ·exact blank_here (dig_ok hd).2.1 (dig_ok hd).2.2.1
  ·rw [List.singleton_append, blank_10]; exact blank_here (dig_ok hd).2.1 (dig_ok hd).2.2.1
 unfold kwL
 rw [hb]
 have hne : ¬ trailW <+: c :: t := by
  intro h
  have h2 : c = 116 := by
   obtain ⟨s, hs⟩ := h
   simp only [trailW, List.cons_append] at hs
   injection hs with hs _
   exact hs.symm
  subst h2
  revert hd; decide
 rw [decide_eq_false hne]; rfl
theorem kw_yes {pre tail : Bs} (hpre : pre = [] ∨ pre = [10]) : kwL trailW (pre ++ (trailL ++ tail)) = true ∧ (blankM false (pre ++ (trailL ++ tail))).drop 7 = 10 :: tail := by
 have hb : blankM false (pre ++ (trailL ++ tail)) = trailL ++ tail := by
  have h1 : blankM false (trailL ++ tail) = trailL ++ tail := blank_here (by decide) (by decide)
  rcases hpre with rfl | rfl
  ·exact h1
  ·rw [List.singleton_append, blank_10]; exact h1
 refine ⟨?_, by rw [hb]; rfl⟩
 unfold kwL
 rw [hb, decide_eq_true (show trailW <+: trailL ++ tail from ⟨10 :: tail, rfl⟩)]
 rfl
theorem head_digit {p : List R4} (hp : GoodP p) (rest : Bs) : ∃ c t, (headT p ++ rowsT p) ++ rest = c :: t ∧ isD c = true := by
 obtain ⟨h0, hm, hn⟩ := hp
 cases p with
 | nil => simp at h0
 | cons r q =>
  have hr := hm r (by simp)
  unfold mayR at hr
  simp only [Bool.and_eq_true, Bool.or_eq_true, decide_eq_true_eq, beq_iff_eq] at hr
  obtain ⟨c, t, e, hd⟩ := pad_digit hr.1.1.1.1.1.2 0
  refine ⟨c, ((((t ++ [32]) ++ padL ((r :: q).length : Nat) 1) ++ [10]) ++ rowsT (r :: q)) ++ rest, ?_, hd⟩
  unfold headT
  rw [show (r :: q).getD 0 r0 = r from rfl, e]
  rfl
theorem sec_read (tail : Bs) : ∀ (ps : List (List R4)) (acc : List R4) (f : Nat) (pre : Bs), (∀ p ∈ ps, GoodP p) → ps.length < f → (pre = [] ∨ pre = [10]) → secS f acc (pre ++ (bodyT ps ++ (trailL ++ tail))) = .ok (acc ++ ps.flatten) (10 :: tail)
 | [], acc, f, pre, _, hf, hpre => by
  obtain ⟨f, rfl⟩ : ∃ g, f = g + 1 := ⟨f - 1, by simp at hf; omega⟩
  obtain ⟨h1, h2⟩ := kw_yes (tail := tail) hpre
  have e : bodyT [] ++ (trailL ++ tail) = trailL ++ tail := rfl
  rw [e, secS, if_pos h1, h2]
  simp
 | p :: ps, acc, f, pre, hg, hf, hpre => by
  obtain ⟨f, rfl⟩ : ∃ g, f = g + 1 := ⟨f - 1, by simp at hf; omega⟩
  have hp := hg p (by simp)
  have e : bodyT (p :: ps) ++ (trailL ++ tail) = (headT p ++ rowsT p) ++ (bodyT ps ++ (trailL ++ tail)) := by simp [bodyT]
  obtain ⟨c, t, hc, hd⟩ := head_digit hp (bodyT ps ++ (trailL ++ tail))
  have hk : kwL trailW (pre ++ ((headT p ++ rowsT p) ++ (bodyT ps ++ (trailL ++ tail)))) = false := by rw [hc]; exact kw_dig hd hpre
  rw [e, secS, hk, if_neg (by decide), part_read hp pre _ hpre]
  simp only []
  have := sec_read tail ps (acc ++ p) f [] (fun x hx => hg x (by simp [hx])) (by simpa using hf) (.inl rfl)
  rw [List.nil_append] at this
  rw [this]
  simp
theorem getD_at {l : List R4} {i : Nat} (h : i < l.length) : l.getD i r0 = l[i] := by rw [List.getD_eq_getElem?_getD, List.getElem?_eq_getElem h]; rfl
theorem parts_all (l : List R4) : ∀ k, k ≤ l.length → (partsK l k).flatten = l.take k ∧ (∀ p ∈ partsK l k, 0 < p.length ∧ ∀ j (h : j < p.length), p[j].n = (p.getD 0 r0).n + j) ∧ (0 < k → ∃ ps p, partsK l k = ps ++ [p] ∧ 0 < p.length ∧ p.getD (p.length - 1) r0 = l.getD (k - 1) r0)
 | 0, _ => ⟨by simp [partsK], fun p hp => by simp [partsK] at hp, fun h => by omega⟩
 | k + 1, hk => by
  obtain ⟨h1, h2, h3⟩ := parts_all l k (by omega)
  have ht : l.take (k + 1) = l.take k ++ [l.getD k r0] := by rw [List.take_succ_eq_append_getElem (by omega), getD_at (by omega)]
  cases hn : newP l k with
  | true =>
   rw [parts_new hn, List.nil_append]
   refine ⟨by rw [List.flatten_append, h1, ht]; simp, fun p hp => ?_, fun _ => ⟨_, _, rfl, by simp, by simp⟩⟩
   rcases List.mem_append.1 hp with hp | hp
   ·exact h2 p hp
   ·simp only [List.mem_singleton] at hp
    subst hp
    refine ⟨by simp, fun j hj => ?_⟩
    have : j = 0 := by simpa using hj
    subst this
    simp
  | false =>
   have hk0 : 0 < k := by
    rcases Nat.eq_zero_or_pos k with h | h
    ·subst h; simp [newP] at hn
    ·exact h
   obtain ⟨ps, p, e, hp0, hpl⟩ := h3 hk0
   have hnum : (l.getD k r0).n = (l.getD (k - 1) r0).n + 1 := by
    unfold newP at hn
    simp only [Bool.or_eq_false_iff, bne_eq_false_iff_eq] at hn
    exact hn.2
   rw [parts_old hn e]
   rw [e] at h1 h2
   refine ⟨?_, fun x hx => ?_, fun _ => ⟨_, _, rfl, by simp, ?_⟩⟩
   ·rw [List.flatten_append] at h1 ⊢
    rw [ht, ← h1]; simp
   ·rcases List.mem_append.1 hx with hx | hx
    ·exact h2 x (by simp [hx])
    ·simp only [List.mem_singleton] at hx
     subst hx
     obtain ⟨_, hc⟩ := h2 p (by simp)
     have hg0 : (p ++ [l.getD k r0]).getD 0 r0 = p.getD 0 r0 := by
      rw [List.getD_eq_getElem?_getD, List.getElem?_append_left hp0, ← List.getD_eq_getElem?_getD]
     refine ⟨by simp, fun j hj => ?_⟩
     rw [hg0]
     simp only [List.length_append, List.length_cons, List.length_nil] at hj
     by_cases hj2 : j < p.length
     ·rw [List.getElem_append_left hj2]; exact hc j hj2
     ·obtain rfl : j = p.length := by omega
      rw [List.getElem_append_right (Nat.le_refl _)]
      simp only [Nat.sub_self, List.getElem_cons_zero]
      rw [hnum, ← hpl, getD_at (by omega), hc (p.length - 1) (by omega)]
      omega
   ·simp only [List.length_append, List.length_cons, List.length_nil, Nat.add_sub_cancel]
    rw [List.getD_eq_getElem?_getD, List.getElem?_append_right (Nat.le_refl _)]
    simp
theorem parts_good {l : List R4} (h : goodK l l.length = true) : (∀ p ∈ partsK l l.length, GoodP p) ∧ (partsK l l.length).flatten = l := by
 obtain ⟨h1, h2, _⟩ := parts_all l l.length (Nat.le_refl _)
 rw [List.take_length] at h1
 refine ⟨fun p hp => ⟨(h2 p hp).1, fun r hr => ?_, (h2 p hp).2⟩, h1⟩
 have hm := parts_mem l l.length (Nat.le_refl _) p hp r hr
 obtain ⟨i, hi, rfl⟩ := List.getElem_of_mem hm
 exact good_mem (Nat.le_refl _) h i hi hi
theorem tab_back {o : Ob} {l : List R4} {dep : Nat} (h : wOk o l = true) (hm : o.may dep = true) : tabS false dep (tabT o l) = .ok (l, o) [10] := by
 unfold wOk at h
 simp only [Bool.and_eq_true, beq_iff_eq] at h
 obtain ⟨⟨⟨hg, hr⟩, hk⟩, hm28⟩ := h
 obtain ⟨hp, hf⟩ := parts_good hg
 obtain ⟨ps, hps⟩ : ∃ ps, ps = partsK l l.length := ⟨_, rfl⟩
 rw [← hps] at hp hf
 obtain ⟨X, hX⟩ : ∃ X, X = bodyT ps ++ (trailL ++ (o.show ++ [10])) := ⟨_, rfl⟩
 have e : tabT o l = xrefW ++ (10 :: X) := by
  rw [hX]
  unfold tabT
  rw [← hps]
  simp [xrefL, xrefW]
 have t1 : tokS (xrefW ++ (10 :: X)) = .ok ⟨9, 0, xrefW⟩ (10 :: X) := tok_word rfl (by decide) (by decide) (by decide) (by decide) (by decide) (sep_cons (by decide))
 unfold tabS
 rw [e, w_yes t1 ⟨rfl, rfl⟩]
 simp only []
 have hpl : ps.length < (10 :: X).length + 1 := by
  have h1 : ∀ q : List (List R4), (∀ p ∈ q, GoodP p) → q.length ≤ (bodyT q).length := fun q => by
   induction q with
   | nil => intro _; simp
   | cons p q ih =>
    intro hq
    have := ih fun x hx => hq x (by simp [hx])
    have e2 : bodyT (p :: q) = (headT p ++ rowsT p) ++ bodyT q := by simp [bodyT]
    rw [e2]
    simp only [List.length_append, List.length_cons, headT, List.length_nil]
    omega
  have := h1 ps hp
  rw [hX]
  simp only [List.length_cons, List.length_append]
  omega
 have hsec := sec_read (o.show ++ [10]) ps [] ((10 :: X).length + 1) [10] hp hpl (.inr rfl)
 rw [← hX, List.singleton_append, List.nil_append, hf] at hsec
 rw [hsec]
 have h8 : o.kind ≠ 8 := by omega
 have hsh : blankM false (10 :: (o.show ++ [10])) = o.show ++ [10] := by
  rw [blank_10]
  cases o with
  | mk k n b lo d =>
   have hk7 : k = 7 := hk
   subst hk7
   have : (Ob.mk 7 n b lo d).show = 60 :: 60 :: (showD d ++ [62, 62]) := by simp [Ob.show]
   rw [this]
   exact blank_here (by decide) (by decide)
 simp only [finS]
 rw [hsh, val_back dep o hm h8 [10] (sep_cons (by decide)) (nr_tok (t := ⟨0, 0, []⟩) (u := []) (by rw [tok_10, tokS, blankM, tokA]) (by decide)), endS, if_pos hk]
end
section
open Go Go.RowKit Go.Wk Go.Rd Go.Fx
theorem ref_Dict0 (W : World) : Calls Tryz.prog 18 #[.slice none 0 0] W fun e w' => e = .returned (.agg #[.int .i64 7, .int .i64 0, .slice none 0 0, .slice none 0 0, .slice none 0 0]) ∧ Below W.heap.size W w' := by
 obtain ⟨W1, hW1⟩ : ∃ W1, W1 = W.alloc (.cells #[.int .i64 0, .int .i64 0, .slice none 0 0, .slice none 0 0, .slice none 0 0] 32) := ⟨_, rfl⟩
 obtain ⟨W2, hW2⟩ : ∃ W2, W2 = W1.alloc (.cells #[.int .i64 7, .int .i64 0, .slice none 0 0, .slice none 0 0, .slice none 0 0] 32) := ⟨_, rfl⟩
 have b1 : Below W.heap.size W W1 := by rw [hW1]; exact (Below.refl _ _).alloc (Nat.le_refl _) _
 have z1 : W1.heap.size = W.heap.size + 1 := by rw [hW1, World.size_alloc]
 have b2 : Below W1.heap.size W1 W2 := by rw [hW2]; exact (Below.refl _ _).alloc (Nat.le_refl _) _
 have hT1 : Blk W1 W.heap.size 32 #[.int .i64 0, .int .i64 0, .slice none 0 0, .slice none 0 0, .slice none 0 0] := by rw [hW1]; exact Blk.new W _ _
 have hT := hT1.below b2 (by omega)
 have hU : Blk W2 (W.heap.size + 1) 32 #[.int .i64 7, .int .i64 0, .slice none 0 0, .slice none 0 0, .slice none 0 0] := by rw [hW2, ← z1]; exact Blk.new W1 _ _
 have hb := bthen b1 b2
 obtain ⟨x0, x1, x2, x3, x4, -⟩ := hU.b5
 obtain ⟨z0, z11, z2, z3, z4, v0, v1, v2, v3, v4⟩ := hT.b5
 refine h7_ hT hU hb hT1 b1 b2 z1 ?_; clear hT hU hb hT1 b1 b2 z1; intro hT hU hb hT1 b1 b2 z1
 go_enter Tryz.func18, Tryz.ntmps18
 go_upto_block 0 with fail
 rw [← hW1, ← hW2]
 replace hW1 := hi_ hW1
 replace hW2 := hi_ hW2
 go_wp2
 refine wp_loop_rounds 1 ?_
 rw [rounds_succ]
 go_wp2
 generalize hWf : World.setCell _ _ _ = Wf
 replace hWf := hWf.symm
 obtain ⟨hbf, hg, hz⟩ := set_five hT.out hWf
 obtain ⟨u0, u1, u2, u3, u4, -⟩ := hbf.b5
 have hBf := hi_ (hb.out.grown hg hb.out.size (fun q hq => by injection hq with hq; omega))
 replace hg := hi_ hg
 replace hWf := hi_ hWf
 clear hbf x0 x1 x2 x3 x4 z0 z11 z2 z3 z4 v0 v1 v2 v3 v4
 exact bodyPost_ret (by simp [results, Tryz.results18, go_sem, u0, u1, u2, u3, u4]; try rfl) rfl ⟨rfl, hBf.out⟩
def rowA : R4 := ⟨0, 0, 0, 65535⟩
theorem good_A : wOk (.mk 7 0 [] [] []) [rowA] = true := by decide
theorem may_A : (Ob.mk 7 0 [] [] []).may 9 = true := by decide
theorem wS_len2 {o : Ob} {l : List R4} {w : World} {vs : List Value} (hob : ObAt w o vs) (hbk : o.bulk ≤ 1048576) (hl : l.length ≤ 60) : (wS o l).length ≤ 100000000 := by
 unfold wS
 split
 ·rename_i hgood
  have hok : PsOk (partsK l l.length) := by
   unfold wOk at hgood
   simp only [Bool.and_eq_true] at hgood
   intro p hp
   have h8 := part_len l l.length p hp
   have h9 := parts_mem l l.length (Nat.le_refl _) p hp
   exact ⟨h8.2, by omega, fun r hr => good_ok hgood.1.1.1 r (h9 r hr)⟩
  have hk : o.kind ≠ 8 ∧ o.may 28 = true := by
   unfold wOk at hgood
   simp only [Bool.and_eq_true, beq_iff_eq] at hgood
   exact ⟨by omega, hgood.2⟩
  have h1 := bodyT_len hok
  have h2 := parts_len l l.length
  have h3 := prtS_len o hob.fits hbk
  have h4 : (prtS o) = o.show := by unfold prtS; rw [if_pos hk]
  rw [h4] at h3
  unfold tabT
  simp only [List.length_append, List.length_cons, List.length_nil, xrefL, trailL]
  omega
 ·simp
theorem rows_one' {W : World} {g : Nat} {q : R4} {v0 v1 v2 v3 : Value} (hq : rv q = [v0, v1, v2, v3]) (h : Blk W g 64 #[v0, v1, v2, v3]) : RowsAt W (some ⟨g, 0, none⟩) [q] := by
 refine ⟨by simp [maxLen], fun _ => ⟨g, 0, rfl, fun i hi j u hu => ?_⟩⟩
 have hi0 : i = 0 := by simpa using hi
 subst hi0
 simp only [List.getElem_cons_zero] at hu
 rw [hq] at hu
 rw [show 0 + 0 * 4 + j = j by omega, h.cell j]
 simpa using hu
theorem law_awake (W : World) (hT : Tab W) : Calls Tryz.prog 7 #[] W fun e w' => e = .returned (.bool true) ∧ Below W.heap.size W w' := by
 have cd := ref_Dict0 W
 obtain ⟨o, ho⟩ : ∃ o, o = Ob.mk 7 0 [] [] [] := ⟨_, rfl⟩
 have c16 := fun w2 (hB : Below W.heap.size W w2) (W3 : World) (h3 : W3 = w2.alloc (.cells #[.int .i64 0, .int .i64 0, .int .i64 0, .int .i64 65535] 64)) =>
  (show Calls Tryz.prog 16 #[.agg #[.int .i64 7, .int .i64 0, .slice none 0 0, .slice none 0 0, .slice none 0 0], .slice (some ⟨w2.heap.size, 0, none⟩) 1 1] W3 (WTC W3 o [rowA]) from by
   have b3 : Below w2.heap.size w2 W3 := by rw [h3]; exact (Below.refl _ _).alloc (Nat.le_refl _) _
   have hU : Blk W3 w2.heap.size 64 #[.int .i64 0, .int .i64 0, .int .i64 0, .int .i64 65535] := by rw [h3]; exact Blk.new w2 _ _
   have := tab_WriteC o _ (some ⟨w2.heap.size, 0, none⟩) 1 [rowA] W3 (by rw [ho]; exact empty_at W3) (by rw [ho]; simp [Ob.bulk, bulkL, bulkD]) (hT.below (bthen hB b3)) (rows_one' rfl hU) (by simp)
   exact this)
 have hok : wOk o [rowA] = true := by rw [ho]; exact good_A
 have hback : tabS false 9 (tabT o [rowA]) = .ok ([rowA], o) [10] := tab_back hok (by rw [ho]; exact may_A)
 have hS : wS o [rowA] = tabT o [rowA] := by unfold wS; rw [if_pos hok]
 have hZ : wZ o [rowA] = 0 := by unfold wZ; rw [if_pos hok]
 have hSl : (wS o [rowA]).length ≤ 100000000 := wS_len2 (w := W) (by rw [ho]; exact empty_at W) (by rw [ho]; simp [Ob.bulk, bulkL, bulkD]) (by simp)
 obtain ⟨S, hSe⟩ : ∃ S, S = wS o [rowA] := ⟨_, rfl⟩
 have c16' := fun w2 hB W3 h3 => (c16 w2 hB W3 h3).mono fun e w' (hX : WTC W3 o [rowA] e w') => (show ∃ A c, e = .returned (.tuple #[.slice A S.length c, .int .i64 0]) ∧ Byt w' A S ∧ S.length ≤ c ∧ Below W3.heap.size W3 w' from by
  obtain ⟨A, c, h1, h2, h3, h4⟩ := hX
  rw [hZ, ← hSe] at h1
  rw [← hSe] at h2 h3
  exact ⟨A, c, h1, h2, h3, h4⟩)
 rw [← hS, ← hSe] at hback
 rw [← hSe] at hSl
 have c8 := fun A c W (hby : Byt W A S) (hcap : S.length ≤ c) => px_New A c S W hby hcap (by omega) 9 9 (by decide)
 have c10 := fun P L R A c W (h : PS P L R A c S 9 false W S) => px_Read (by omega) hSl W h
 rw [hback] at c10
 replace c16' := hi_ c16'
 replace c8 := hi_ c8
 replace c10 := hi_ c10
 clear c16 hok hback hS hZ hSe hSl ho
 replace hT := hi_ hT
 go_enter Tryz.func7, Tryz.ntmps7
 go_upto_region 2 with (first | (go_at_call 18; (with_reducible refine cd.mono ?_); rintro e w2 ⟨rfl, hB2⟩; have c16b := c16'.out w2 hB2 _ rfl; replace hB2 := hi_ hB2; clear cd) | (go_at_call 16; (with_reducible refine c16b.mono ?_); rintro e w4 ⟨A4, c4, rfl, hby4, hcap4, hB4⟩; have hD4 : Below W.heap.size W w4 := bthen (bthen hB2.out ((Below.refl _ _).alloc (Nat.le_refl _) _)) hB4; replace hB4 := hi_ hB4; replace hby4 := hi_ hby4; replace hcap4 := hi_ hcap4; replace hD4 := hi_ hD4; clear c16b))
 have c8b := c8.out A4 c4 w4 hby4.out hcap4.out
 obtain ⟨n, hn⟩ : ∃ n, n = S.length := ⟨_, rfl⟩
 rw [← hn] at c8b ⊢
 replace hn := hi_ hn
 go_upto_region 3 with (first | (go_at_call 8; (with_reducible refine c8b.mono ?_); rintro e w5 ⟨rfl, hP5, hB5⟩; have c10b := c10.out _ _ _ _ _ w5 hP5; replace hP5 := hi_ hP5; replace hB5 := hi_ hB5; clear c8b) | (go_at_call 10; (with_reducible refine c10b.mono ?_); rintro e w6 ⟨v, us, rfl, hO, hI, hP6, hF6⟩; obtain ⟨xk, xn, F1, F2, F3, fn1, fc1, fn2, fc2, fn3, fc3, rfl⟩ := five_exL hI.ob; obtain ⟨A7, c7, hv, hR⟩ := hO.out (by simp [maxLen]); subst hv; replace hO := hi_ hO; replace hI := hi_ hI; replace hP6 := hi_ hP6; replace hF6 := hi_ hF6; replace hR := hi_ hR; clear c10b))
 obtain ⟨b7, o7, hA7, hc7⟩ := hR.out.2 (by simp)
 subst hA7
 obtain ⟨W7, hW7⟩ : ∃ Wx, Wx = w6.alloc (.cells #[.slice (some ⟨b7, o7, none⟩) 1 c7, .int .i64 xk, .int .i64 xn, .slice F1 fn1 fc1, .slice F2 fn2 fc2, .slice F3 fn3 fc3] 34) := ⟨_, rfl⟩
 have hg := hc7 0 (by simp) 3 (.int .i64 65535) rfl
 rw [show o7 + 0 * 4 + 3 = o7 + 3 by omega] at hg
 have bb7 : Below w6.heap.size w6 W7 := by rw [hW7]; exact (Below.refl _ _).alloc (Nat.le_refl _) _
 have hU7 : Blk W7 w6.heap.size 34 #[.slice (some ⟨b7, o7, none⟩) 1 c7, .int .i64 xk, .int .i64 xn, .slice F1 fn1 fc1, .slice F2 fn2 fc2, .slice F3 fn3 fc3] := by rw [hW7]; exact Blk.new w6 _ _
 have x0 := hU7.cell 0
 have hg7 := (bb7.cell (cell_lt hg)).trans hg
 have hfin := hi_ (show Below W.heap.size W W7 from by
  have h1 : Below w4.heap.size w4 w6 := hB5.out.trans (hF6.out.below (Nat.le_refl _) (by omega) hB5.out.size)
  exact bthen (bthen hD4.out h1) bb7)
 rw [← hW7]
 clear hg hc7
 refine h3_ hU7 hW7 bb7 ?_; clear hU7 hW7 bb7; intro hU7 hW7 bb7
 go_wp2
 go_ret
 exact ⟨rfl, hfin.out⟩
end
end Go.Proofs.YthffpbkndnhlfaaGreatDoor
namespace Go.Wk
open Go
mutual
def sameB : Ob → Ob → Bool
 | .mk k n b l d, .mk k' n' b' l' d' => k == k' && (
  if k = 1 ∨ k = 2 ∨ k = 3 ∨ k = 9 then n == n'
  else if k = 4 ∨ k = 5 then b == b'
  else if k = 6 then sameL l l'
  else if k = 7 ∨ k = 8 then (k == 7 || b == b') && sameD d d'
  else true)
def sameL : List Ob → List Ob → Bool
 | [], [] => true
 | o :: r, o' :: r' => sameB o o' && sameL r r'
 | [], _ :: _ => false
 | _ :: _, [] => false
def sameD : List (List UInt8 × Ob) → List (List UInt8 × Ob) → Bool
 | [], [] => true
 | e :: r, e' :: r' => (e.1 == e'.1 && sameB e.2 e'.2) && sameD r r'
 | [], _ :: _ => false
 | _ :: _, [] => false
end
mutual
theorem show_same : ∀ (a b : Ob), sameB a b = true → a.show = b.show
 | .mk k n b l d, .mk k' n' b' l' d', h => by
  simp only [sameB, Bool.and_eq_true, beq_iff_eq] at h
  obtain ⟨rfl, h⟩ := h
  have h6 := showL_same l l'
  have h7 := showD_same d d'
  simp only [Ob.show]
  by_cases k1 : k = 1
  ·subst k1; simp at h; simp [h]
  by_cases k2 : k = 2
  ·subst k2; simp at h; simp [h]
  by_cases k3 : k = 3
  ·subst k3; simp at h; simp [h]
  by_cases k4 : k = 4
  ·subst k4; simp at h; simp [h]
  by_cases k5 : k = 5
  ·subst k5; simp at h; simp [h]
  by_cases k9 : k = 9
  ·subst k9; simp at h; simp [h]
  by_cases k6 : k = 6
  ·subst k6; simp at h; simp [h6 h]
  by_cases k78 : k = 7 ∨ k = 8
  ·simp only [k1, k2, k3, k4, k5, k9, k6, k78, or_self, if_false, if_true] at h ⊢
   simp at h
   rw [h7 h.2]
  ·simp only [k1, k2, k3, k4, k5, k9, k6, k78, if_false]
theorem showL_same : ∀ (l l' : List Ob), sameL l l' = true → ∀ f, showL f l = showL f l'
 | [], [], _, _ => rfl
 | [], _ :: _, h, _ => by simp [sameL] at h
 | _ :: _, [], h, _ => by simp [sameL] at h
 | o :: r, o' :: r', h, f => by
  simp only [sameL, Bool.and_eq_true] at h
  simp only [showL, show_same o o' h.1, showL_same r r' h.2 false]
theorem showD_same : ∀ (l l' : List (List UInt8 × Ob)), sameD l l' = true → showD l = showD l'
 | [], [], _ => rfl
 | [], _ :: _, h => by simp [sameD] at h
 | _ :: _, [], h => by simp [sameD] at h
 | e :: r, e' :: r', h => by
  simp only [sameD, Bool.and_eq_true, beq_iff_eq] at h
  simp only [showD, h.1.1, show_same e.2 e'.2 h.1.2, showD_same r r' h.2]
end
theorem cut_while {p : UInt8 → Bool} : ∀ {a b s t : List UInt8}, a.all p = true → b.all p = true → (∀ c r, s = c :: r → p c = false) → (∀ c r, t = c :: r → p c = false) → a ++ s = b ++ t → a = b ∧ s = t := by
 intro a
 induction a with
 | nil =>
  intro b s t _ hb hs _ e
  cases b with
  | nil => exact ⟨rfl, e⟩
  | cons y b =>
   have := hs y (b ++ t) (by simpa using e)
   simp at hb
   rw [hb.1] at this; cases this
 | cons x a ih =>
  intro b s t ha hb hs ht e
  cases b with
  | nil =>
   have := ht x (a ++ s) (by simpa using e.symm)
   simp at ha
   rw [ha.1] at this; cases this
  | cons y b =>
   simp only [List.all_cons, Bool.and_eq_true] at ha hb
   simp only [List.cons_append] at e
   injection e with e1 e2
   obtain ⟨h1, h2⟩ := ih ha.2 hb.2 hs ht e2
   exact ⟨by rw [e1, h1], h2⟩
def digB (c : UInt8) : Bool := decide (48 ≤ c.toNat ∧ c.toNat ≤ 57)
def dval (l : List UInt8) : Nat := l.foldl (fun n c => 10 * n + (c.toNat - 48)) 0
theorem dig_nat (u : Nat) (h : u < 10) : (UInt8.ofNat (48 + u)).toNat = 48 + u := UInt8.toNat_ofNat_of_lt' (by show _ < 256; omega)
theorem dec_digs : ∀ u, (Lib.decDigits u).all digB = true := by
 intro u
 induction u using Nat.strongRecOn with
 | _ u ih =>
  rw [Lib.decDigits]
  split
  ·rename_i h
   simp only [List.all_cons, List.all_nil, Bool.and_true, digB, dig_nat u h, decide_eq_true_eq]; omega
  ·rename_i h
   simp only [List.all_append, ih (u / 10) (by omega), List.all_cons, List.all_nil, Bool.and_true, Bool.true_and, digB, dig_nat (u % 10) (by omega), decide_eq_true_eq]; omega
theorem dval_dec : ∀ u, dval (Lib.decDigits u) = u := by
 intro u
 induction u using Nat.strongRecOn with
 | _ u ih =>
  rw [Lib.decDigits]
  split
  ·rename_i h; unfold dval; simp only [List.foldl_cons, List.foldl_nil, dig_nat u h]; omega
  ·rename_i h
   have := ih (u / 10) (by omega)
   unfold dval at this ⊢
   rw [List.foldl_append, this]
   simp only [List.foldl_cons, List.foldl_nil, dig_nat (u % 10) (by omega)]
   omega
theorem dec_inj {u v : Nat} (h : Lib.decDigits u = Lib.decDigits v) : u = v := by rw [← dval_dec u, ← dval_dec v, h]
theorem dec_head (u : Nat) : ∃ c r, Lib.decDigits u = c :: r ∧ digB c = true := by
 have h := dec_digs u
 cases e : Lib.decDigits u with
 | nil =>
  exfalso
  rw [Lib.decDigits] at e
  split at e
  ·cases e
  ·simp at e
 | cons c r => rw [e] at h; simp at h; exact ⟨c, r, rfl, h.1⟩
theorem trim_more (l : List UInt8) (c : UInt8) : ∃ k, l = Lib.trimRightB l c ++ List.replicate k c := by
 unfold Lib.trimRightB
 have key : ∀ m : List UInt8, ∃ k, m = List.replicate k c ++ m.dropWhile (· == c) := by
  intro m
  induction m with
  | nil => exact ⟨0, rfl⟩
  | cons x m ih =>
   by_cases hx : x = c
   ·subst hx
    obtain ⟨k, hk⟩ := ih
    refine ⟨k + 1, ?_⟩
    simp only [List.dropWhile_cons, beq_self_eq_true, if_true, List.replicate_succ, List.cons_append]
    rw [← hk]
   ·refine ⟨0, ?_⟩
    simp [List.dropWhile_cons, hx]
 obtain ⟨k, hk⟩ := key l.reverse
 refine ⟨k, ?_⟩
 have := congrArg List.reverse hk
 simpa using this
theorem trim_inj {l m : List UInt8} {c : UInt8} (hl : l.length = m.length) (h : Lib.trimRightB l c = Lib.trimRightB m c) : l = m := by
 obtain ⟨k, hk⟩ := trim_more l c
 obtain ⟨j, hj⟩ := trim_more m c
 rw [h] at hk
 have : k = j := by
  have h1 := congrArg List.length hk
  have h2 := congrArg List.length hj
  simp at h1 h2
  omega
 subst this
 exact hk.trans hj.symm
theorem six_dig (r : Nat) (h : r < 100000) : (Lib.decDigits (100000 + r)).length = 6 := by
 have ten : ∀ u, 10 ≤ u → (Lib.decDigits u).length = (Lib.decDigits (u / 10)).length + 1 := fun u hu => by
  rw [Lib.decDigits, dif_neg (by omega)]; simp
 rw [ten _ (by omega), ten _ (by omega), ten _ (by omega), ten _ (by omega), ten _ (by omega), Lib.decDigits, dif_pos (by omega)]
 rfl
theorem one_dig (r : Nat) (h : r < 100000) : ∃ p, Lib.decDigits (100000 + r) = 49 :: p ∧ p.length = 5 := by
 have ten : ∀ u, 10 ≤ u → Lib.decDigits u = Lib.decDigits (u / 10) ++ [UInt8.ofNat (48 + u % 10)] := fun u hu => by
  rw [Lib.decDigits, dif_neg (by omega)]
 have h6 := six_dig r h
 rw [ten _ (by omega), ten _ (by omega), ten _ (by omega), ten _ (by omega), ten _ (by omega), Lib.decDigits, dif_pos (by omega)] at h6 ⊢
 have e : (100000 + r) / 10 / 10 / 10 / 10 / 10 = 1 := by omega
 rw [e]
 refine ⟨_, rfl, ?_⟩
 rfl
theorem frac_inj {r s : Nat} (hr : r < 100000) (hs : s < 100000) (h : fracL r = fracL s) : r = s := by
 obtain ⟨p, hp, lp⟩ := one_dig r hr
 obtain ⟨q, hq, lq⟩ := one_dig s hs
 unfold fracL at h
 simp only [hp, hq, List.drop_succ_cons, List.drop_zero] at h
 cases p with
 | nil => simp at lp
 | cons x p =>
  cases q with
  | nil => simp at lq
  | cons y q =>
   simp only [List.take_succ_cons, List.take_zero, List.drop_succ_cons, List.drop_zero, List.cons_append, List.nil_append] at h
   injection h with h1 h2
   have := trim_inj (by simp at lp lq; omega) h2
   have e : Lib.decDigits (100000 + r) = Lib.decDigits (100000 + s) := by rw [hp, hq, h1, this]
   have := dec_inj e
   omega
def numB (c : UInt8) : Bool := digB c || c == 45 || c == 46
theorem dig_num {l : List UInt8} (h : l.all digB = true) : l.all numB = true := by
 rw [List.all_eq_true] at h ⊢
 intro x hx; simp [numB, h x hx]
theorem frac_digs (r : Nat) : (fracL r).all digB = true := by
 have h := dec_digs (100000 + r)
 rw [List.all_eq_true] at h ⊢
 intro x hx
 unfold fracL at hx
 refine h x ?_
 rcases List.mem_append.1 hx with h1 | h1
 ·exact List.mem_of_mem_drop (List.mem_of_mem_take h1)
 ·obtain ⟨k, hk⟩ := trim_more (((Lib.decDigits (100000 + r)).drop 1).drop 1) 48
  have : x ∈ ((Lib.decDigits (100000 + r)).drop 1).drop 1 := by rw [hk]; exact List.mem_append_left _ h1
  exact List.mem_of_mem_drop (List.mem_of_mem_drop this)
theorem num_all (n : Int) (w : Bool) : (numT n w).all numB = true := by
 unfold numT
 split
 ·unfold Lib.itoa
  split
  ·rw [List.all_cons, dig_num (dec_digs _)]; rfl
  ·exact dig_num (dec_digs _)
 ·rw [List.all_append, List.all_append, List.all_cons, dig_num (dec_digs _), dig_num (frac_digs _)]
  split <;> rfl
theorem dig_ne {c : UInt8} (h : digB c = true) : c ≠ 45 ∧ c ≠ 46 := by
 constructor <;> (rintro rfl; revert h; decide)
theorem num_inj {n m : Int} {w v : Bool} (h : numT n w = numT m v) : n = m ∧ w = v := by
 have nodot : ∀ k, (46 : UInt8) ∉ numT k true := by
  intro k hk
  unfold numT Lib.itoa at hk
  simp only [if_true] at hk
  have d := fun u => List.all_eq_true.1 (dec_digs u) 46
  split at hk
  ·rcases List.mem_cons.1 hk with e | e
   ·cases e
   ·exact absurd (d _ e) (by decide)
  ·exact absurd (d _ hk) (by decide)
 have dot : ∀ k, (46 : UInt8) ∈ numT k false := by intro k; unfold numT; simp
 have wv : w = v := by
  cases w <;> cases v
  ·rfl
  ·exact absurd (h ▸ dot n) (nodot m)
  ·exact absurd (h ▸ dot m) (nodot n)
  ·rfl
 subst wv
 refine ⟨?_, rfl⟩
 -- signs
 have first : ∀ k w, ∃ c r, numT k w = c :: r ∧ (c = 45 ↔ k < 0) := by
  intro k w
  unfold numT Lib.itoa
  have hd := fun u => dec_head u
  cases w with
  | true =>
   simp only [if_true]
   split
   ·rename_i hk; exact ⟨45, _, rfl, by simp [hk]⟩
   ·rename_i hk
    obtain ⟨c, r, e, hc⟩ := hd k.toNat
    exact ⟨c, r, e, ⟨fun e2 => absurd e2 (dig_ne hc).1, fun h2 => absurd h2 hk⟩⟩
  | false =>
   simp only [Bool.false_eq_true, if_false]
   split
   ·rename_i hk; exact ⟨45, _, rfl, by simp [hk]⟩
   ·rename_i hk
    obtain ⟨c, r, e, hc⟩ := hd (k.natAbs / 100000)
    rw [e]
    exact ⟨c, _, rfl, ⟨fun e2 => absurd e2 (dig_ne hc).1, fun h2 => absurd h2 hk⟩⟩
 have sg : n < 0 ↔ m < 0 := by
  obtain ⟨c, r, e, hc⟩ := first n w
  obtain ⟨c', r', e', hc'⟩ := first m w
  rw [e, e'] at h
  injection h with h1 _
  rw [← hc, ← hc', h1]
 cases w with
 | true =>
  unfold numT Lib.itoa at h
  simp only [if_true] at h
  by_cases hn : n < 0
  ·rw [if_pos hn, if_pos (sg.1 hn)] at h
   injection h with _ h
   have := dec_inj h
   have := sg.1 hn
   omega
  ·have hm : ¬ m < 0 := fun h => hn (sg.2 h)
   rw [if_neg hn, if_neg hm] at h
   have := dec_inj h
   omega
 | false =>
  unfold numT at h
  simp only [Bool.false_eq_true, if_false] at h
  have h2 : Lib.decDigits (n.natAbs / 100000) ++ (46 :: fracL (n.natAbs % 100000)) = Lib.decDigits (m.natAbs / 100000) ++ (46 :: fracL (m.natAbs % 100000)) := by
   by_cases hn : n < 0
   ·rw [if_pos hn, if_pos (sg.1 hn)] at h
    simpa using h
   ·have hm : ¬ m < 0 := fun h => hn (sg.2 h)
    rw [if_neg hn, if_neg hm] at h
    simpa using h
  obtain ⟨h3, h4⟩ := cut_while (p := digB) (dec_digs _) (dec_digs _) (fun c r e => by injection e with e _; subst e; rfl) (fun c r e => by injection e with e _; subst e; rfl) h2
  injection h4 with _ h4
  have e1 := dec_inj h3
  have e2 := frac_inj (Nat.mod_lt _ (by omega)) (Nat.mod_lt _ (by omega)) h4
  have e3 : n.natAbs = m.natAbs := by omega
  omega
theorem hexD_inj {a b : Nat} (ha : a < 16) (hb : b < 16) (h : hexD a = hexD b) : a = b := by
 have key : ∀ a : Fin 16, ∀ b : Fin 16, hexD a.val = hexD b.val → a = b := by decide +kernel
 have := key ⟨a, ha⟩ ⟨b, hb⟩ h
 exact congrArg Fin.val this
theorem hexD_reg (a : Nat) (h : a < 16) : regB (hexD a) = true ∧ hexD a ≠ 62 ∧ hexD a ≠ 60 := by
 have key : ∀ a : Fin 16, regB (hexD a.val) = true ∧ hexD a.val ≠ 62 ∧ hexD a.val ≠ 60 := by decide +kernel
 exact key ⟨a, h⟩
theorem hex_two (c : UInt8) : hexS [c] = [hexD (c.toNat / 16), hexD (c.toNat % 16)] := by simp [hexS]
theorem hex_inj1 {a b : UInt8} (h1 : hexD (a.toNat / 16) = hexD (b.toNat / 16)) (h2 : hexD (a.toNat % 16) = hexD (b.toNat % 16)) : a = b := by
 have ha := a.toNat_lt
 have hb := b.toNat_lt
 have e1 := hexD_inj (by omega) (by omega) h1
 have e2 := hexD_inj (by omega) (by omega) h2
 exact UInt8.toNat_inj.1 (by omega)
theorem hexS_inj : ∀ {a b : List UInt8}, hexS a = hexS b → a = b := by
 intro a
 induction a with
 | nil =>
  intro b h
  cases b with
  | nil => rfl
  | cons y b => simp [hexS] at h
 | cons x a ih =>
  intro b h
  cases b with
  | nil => simp [hexS] at h
  | cons y b =>
   simp only [hexS, List.flatMap_cons, List.cons_append, List.nil_append] at h
   injection h with h1 h
   injection h with h2 h
   rw [hex_inj1 h1 h2, ih h]
theorem nameC_all (c : UInt8) : (nameC c).all regB = true := by
 unfold nameC
 split
 ·rename_i h; simp [h.2.2.2]
 ·have := c.toNat_lt
  rw [hex_two]
  simp [(hexD_reg (c.toNat / 16) (by omega)).1, (hexD_reg (c.toNat % 16) (by omega)).1]
  decide
theorem names_all : ∀ s : List UInt8, (s.flatMap nameC).all regB = true := by
 intro s
 induction s with
 | nil => rfl
 | cons x s ih => rw [List.flatMap_cons, List.all_append, nameC_all, ih]; rfl
theorem names_inj : ∀ {a b : List UInt8}, a.flatMap nameC = b.flatMap nameC → a = b := by
 have pos : ∀ c, ∃ x r, nameC c = x :: r := fun c => by unfold nameC; split <;> exact ⟨_, _, rfl⟩
 intro a
 induction a with
 | nil =>
  intro b h
  cases b with
  | nil => rfl
  | cons y b => obtain ⟨x, r, e⟩ := pos y; simp [e] at h
 | cons x a ih =>
  intro b h
  cases b with
  | nil => obtain ⟨y, r, e⟩ := pos x; simp [e] at h
  | cons y b =>
   simp only [List.flatMap_cons] at h
   have key : x = y ∧ a.flatMap nameC = b.flatMap nameC := by
    unfold nameC at h
    rw [hex_two, hex_two] at h
    split at h <;> split at h
    ·simp only [List.cons_append, List.nil_append] at h
     injection h with h1 h2
     exact ⟨h1, h2⟩
    ·rename_i hx hy
     simp only [List.cons_append, List.nil_append] at h
     injection h with h1 _
     exact absurd h1 hx.2.2.1
    ·rename_i hx hy
     simp only [List.cons_append, List.nil_append] at h
     injection h with h1 _
     exact absurd h1.symm hy.2.2.1
    ·simp only [List.cons_append, List.nil_append] at h
     injection h with _ h
     injection h with h1 h
     injection h with h2 h
     exact ⟨hex_inj1 h1 h2, h⟩
   rw [key.1, ih key.2]
def Stop (s : List UInt8) : Prop := ∀ c r, s = c :: r → c = 32 ∨ c = 93 ∨ c = 47 ∨ c = 62
theorem Stop.reg {s : List UInt8} (h : Stop s) : ∀ c r, s = c :: r → regB c = false := by
 intro c r e
 rcases h c r e with rfl | rfl | rfl | rfl <;> decide
theorem Stop.num {s : List UInt8} (h : Stop s) : ∀ c r, s = c :: r → numB c = false := by
 intro c r e
 rcases h c r e with rfl | rfl | rfl | rfl <;> decide
theorem nameT_cut {a b s t : List UInt8} (hs : Stop s) (ht : Stop t) (h : nameT a ++ s = nameT b ++ t) : a = b ∧ s = t := by
 unfold nameT at h
 simp only [List.cons_append] at h
 injection h with _ h
 obtain ⟨h1, h2⟩ := cut_while (names_all a) (names_all b) hs.reg ht.reg h
 exact ⟨names_inj h1, h2⟩
theorem textT_cut {a b s t : List UInt8} (h : textT a ++ s = textT b ++ t) : a = b ∧ s = t := by
 have hexa : ∀ b : List UInt8, (hexS b).all (fun c => c != 62) = true := by
  intro b
  unfold hexS
  induction b with
  | nil => rfl
  | cons x b ih =>
   have := x.toNat_lt
   rw [List.flatMap_cons, List.all_append, ih]
   simp [(hexD_reg (x.toNat / 16) (by omega)).2.1, (hexD_reg (x.toNat % 16) (by omega)).2.1]
 have pl : ∀ b : List UInt8, b.all plainB = true → b.all (fun c => c != 41) = true := by
  intro b hb
  rw [List.all_eq_true] at hb ⊢
  intro x hx
  have := hb x hx
  unfold plainB at this
  simp at this
  simp [this]
 unfold textT at h
 split at h <;> split at h
 ·rename_i ha hb
  simp only [List.cons_append, List.append_assoc, List.nil_append] at h
  injection h with _ h
  obtain ⟨h1, h2⟩ := cut_while (pl a ha) (pl b hb) (fun c r e => by injection e with e _; subst e; rfl) (fun c r e => by injection e with e _; subst e; rfl) h
  injection h2 with _ h2
  exact ⟨h1, h2⟩
 ·simp only [List.cons_append] at h
  injection h with h _
  cases h
 ·simp only [List.cons_append] at h
  injection h with h _
  cases h
 ·simp only [List.cons_append, List.append_assoc, List.nil_append] at h
  injection h with _ h
  obtain ⟨h1, h2⟩ := cut_while (hexa a) (hexa b) (fun c r e => by injection e with e _; subst e; rfl) (fun c r e => by injection e with e _; subst e; rfl) h
  injection h2 with _ h2
  exact ⟨hexS_inj h1, h2⟩
theorem may_kind {dep : Nat} {k n : Int} {b : List UInt8} {l : List Ob} {d : List (List UInt8 × Ob)} (h : (Ob.mk k n b l d).may dep = true) : k = 0 ∨ k = 1 ∨ k = 2 ∨ k = 3 ∨ k = 4 ∨ k = 5 ∨ k = 6 ∨ k = 7 ∨ k = 8 ∨ k = 9 := by
 simp only [Ob.may, Bool.and_eq_true] at h
 have h := h.2
 by_cases k0 : k = 0
 ·simp [k0]
 by_cases k1 : k = 1
 ·simp [k1]
 by_cases k2 : k = 2
 ·simp [k2]
 by_cases k3 : k = 3
 ·simp [k3]
 by_cases k4 : k = 4
 ·simp [k4]
 by_cases k5 : k = 5
 ·simp [k5]
 by_cases k6 : k = 6
 ·simp [k6]
 by_cases k7 : k = 7
 ·simp [k7]
 by_cases k8 : k = 8
 ·simp [k8]
 by_cases k9 : k = 9
 ·simp [k9]
 simp [k0, k1, k2, k3, k4, k5, k6, k7, k8, k9] at h
def cls : List UInt8 → Nat
 | [] => 20
 | c :: r => if c = 110 then 0 else if c = 116 ∨ c = 102 then 1 else if c = 40 then 4 else if c = 47 then 5 else if c = 91 then 6 else if c = 60 then (if r.head? = some 60 then 7 else 4) else if numB c = true then 2 else 20
def kc (k : Int) : Nat := if k = 0 then 0 else if k = 1 then 1 else if k = 4 then 4 else if k = 5 then 5 else if k = 6 then 6 else if k = 7 then 7 else 2
theorem num_head (n : Int) (w : Bool) : ∃ c r, numT n w = c :: r ∧ numB c = true := by
 have h := num_all n w
 cases e : numT n w with
 | nil =>
  exfalso
  obtain ⟨c, r, e1, _⟩ := dec_head n.toNat
  unfold numT Lib.itoa at e
  cases w with
  | true =>
   simp only [if_true] at e
   split at e
   ·cases e
   ·rw [e1] at e; cases e
  | false => simp at e
 | cons c r => rw [e] at h; simp only [List.all_cons, Bool.and_eq_true] at h; exact ⟨c, r, rfl, h.1⟩
theorem cls_num {c : UInt8} (r : List UInt8) (h : numB c = true) : cls (c :: r) = 2 := by
 have key : ∀ c : UInt8, numB c = true → c ≠ 110 ∧ c ≠ 116 ∧ c ≠ 102 ∧ c ≠ 40 ∧ c ≠ 47 ∧ c ≠ 91 ∧ c ≠ 60 := by
  intro c hc
  refine ⟨?_, ?_, ?_, ?_, ?_, ?_, ?_⟩ <;> (rintro rfl; revert hc; decide)
 have := key c h
 unfold cls
 simp [this, h]
theorem cls_show {dep : Nat} {k n : Int} {b : List UInt8} {l : List Ob} {d : List (List UInt8 × Ob)} (h : (Ob.mk k n b l d).may dep = true) (h8 : k ≠ 8) (s : List UInt8) : cls ((Ob.mk k n b l d).show ++ s) = kc k := by
 obtain ⟨c1, r1, e1, n1⟩ := num_head n true
 obtain ⟨c2, r2, e2, n2⟩ := num_head n false
 rcases may_kind h with rfl | rfl | rfl | rfl | rfl | rfl | rfl | rfl | rfl | rfl
 ·simp [Ob.show, cls, kc]
 ·by_cases hn : n = 1 <;> simp [Ob.show, cls, kc, hn]
 ·simp only [Ob.show]; simp [e1, cls_num _ n1, kc]
 ·simp only [Ob.show]; simp [e2, cls_num _ n2, kc]
 ·simp only [Ob.show]
  unfold textT
  by_cases hb : b.all plainB = true
  ·simp [hb, cls, kc]
  ·simp only [hb]
   have : ((hexS b ++ [62]) ++ s).head? ≠ some 60 := by
    cases b with
    | nil => simp [hexS]
    | cons x b =>
     have := x.toNat_lt
     simp [hexS, (hexD_reg (x.toNat / 16) (by omega)).2.2]
   simp at this
   simp [cls, kc, this]
 ·simp [Ob.show, nameT, cls, kc]
 ·simp [Ob.show, cls, kc]
 ·simp [Ob.show, cls, kc]
 ·exact absurd rfl h8
 ·simp only [Ob.show]; simp [e1, cls_num _ n1, kc]
def Fol (s : List UInt8) : Prop := Stop s ∧ ∀ r, s ≠ 32 :: 48 :: 32 :: 82 :: r
theorem kc_two {k : Int} (h : kc k = 2) (hk : k = 0 ∨ k = 1 ∨ k = 2 ∨ k = 3 ∨ k = 4 ∨ k = 5 ∨ k = 6 ∨ k = 7 ∨ k = 8 ∨ k = 9) (h8 : k ≠ 8) : k = 2 ∨ k = 3 ∨ k = 9 := by
 rcases hk with rfl | rfl | rfl | rfl | rfl | rfl | rfl | rfl | rfl | rfl <;> simp [kc] at h h8 ⊢
theorem kc_eq {k k' : Int} (h : kc k = kc k') (hk : k = 0 ∨ k = 1 ∨ k = 2 ∨ k = 3 ∨ k = 4 ∨ k = 5 ∨ k = 6 ∨ k = 7 ∨ k = 8 ∨ k = 9) (hk' : k' = 0 ∨ k' = 1 ∨ k' = 2 ∨ k' = 3 ∨ k' = 4 ∨ k' = 5 ∨ k' = 6 ∨ k' = 7 ∨ k' = 8 ∨ k' = 9) (h8 : k ≠ 8) (h8' : k' ≠ 8) : k = k' ∨ kc k = 2 := by
 rcases hk with rfl | rfl | rfl | rfl | rfl | rfl | rfl | rfl | rfl | rfl <;> rcases hk' with rfl | rfl | rfl | rfl | rfl | rfl | rfl | rfl | rfl | rfl <;> simp [kc] at h h8 h8' ⊢
theorem num_show {dep : Nat} {k n : Int} {b : List UInt8} {l : List Ob} {d : List (List UInt8 × Ob)} (hk : k = 2 ∨ k = 3 ∨ k = 9) (s : List UInt8) :
 (Ob.mk k n b l d).show ++ s = numT n (k != 3) ++ (if k = 9 then 32 :: 48 :: 32 :: 82 :: s else s) := by
 rcases hk with rfl | rfl | rfl <;> simp [Ob.show]
theorem stop_if {k : Int} {s : List UInt8} (h : Stop s) : Stop (if k = 9 then 32 :: 48 :: 32 :: 82 :: s else s) := by
 split
 ·intro c r e; injection e with e _; exact .inl e.symm
 ·exact h
theorem not_zero_R {dep : Nat} {o : Ob} (h : o.may dep = true) (h8 : o.kind ≠ 8) {Y : List UInt8} (hY : Stop Y) (hR : ∀ r, Y ≠ 32 :: 82 :: r) (r : List UInt8) : o.show ++ Y ≠ 48 :: 32 :: 82 :: r := by
 intro e
 obtain ⟨k, n, b, l, d⟩ := o
 have h8 : k ≠ 8 := h8
 have hc := cls_show h h8 Y
 rw [e, cls_num _ (by decide)] at hc
 have hk := kc_two hc.symm (may_kind h) h8
 rw [num_show (dep := dep) hk] at e
 have e' : numT n (k != 3) ++ (if k = 9 then 32 :: 48 :: 32 :: 82 :: Y else Y) = [48] ++ (32 :: 82 :: r) := e
 obtain ⟨_, e2⟩ := cut_while (num_all n _) (by decide) (stop_if hY).num (fun c r e => by injection e with e _; subst e; decide) e'
 split at e2
 ·injection e2 with _ e2
  injection e2 with e2 _
  cases e2
 ·exact hR r e2
theorem head_R {dep : Nat} {o : Ob} (h : o.may dep = true) (h8 : o.kind ≠ 8) (Y r : List UInt8) : o.show ++ Y ≠ 82 :: r := by
 intro e
 obtain ⟨k, n, b, l, d⟩ := o
 have h8 : k ≠ 8 := h8
 have hc := cls_show h h8 Y
 rw [e] at hc
 have : cls (82 :: r) = 20 := by unfold cls; simp; decide
 rw [this] at hc
 unfold kc at hc
 split at hc
 ·cases hc
 repeat (first | cases hc | split at hc)
theorem fol_L {dep : Nat} : ∀ (l : List Ob), mayL dep l = true → ∀ s, Fol (showL false l ++ 93 :: s) ∧ ∀ r, showL false l ++ 93 :: s ≠ 32 :: 82 :: r := by
 intro l
 induction l with
 | nil =>
  intro _ s
  refine ⟨⟨fun c r e => ?_, fun r e => ?_⟩, fun r e => ?_⟩
  ·simp [showL] at e; exact .inr (.inl e.1.symm)
  ·simp [showL] at e
  ·simp [showL] at e
 | cons o l ih =>
  intro h s
  simp only [mayL, Bool.and_eq_true, bne_iff_ne, ne_eq] at h
  obtain ⟨⟨h8, ho⟩, hl⟩ := h
  obtain ⟨f1, f2⟩ := ih hl s
  have e0 : showL false (o :: l) ++ 93 :: s = 32 :: (o.show ++ (showL false l ++ 93 :: s)) := by simp [showL]
  rw [e0]
  refine ⟨⟨fun c r e => ?_, fun r e => ?_⟩, fun r e => ?_⟩
  ·injection e with e _; exact .inl e.symm
  ·injection e with _ e; exact not_zero_R ho h8 f1.1 f2 r e
  ·injection e with _ e; exact head_R ho h8 _ r e
theorem fol_D : ∀ (d : List (List UInt8 × Ob)) (s : List UInt8), Fol (showD d ++ 62 :: 62 :: s) := by
 intro d s
 cases d with
 | nil => refine ⟨fun c r e => ?_, fun r e => ?_⟩ <;> simp [showD] at e; exact .inr (.inr (.inr e.1.symm))
 | cons e d => refine ⟨fun c r e => ?_, fun r e => ?_⟩ <;> simp [showD, nameT] at e; exact .inr (.inr (.inl e.1.symm))
mutual
theorem show_cut : ∀ (a b : Ob) (dep dep' : Nat), a.may dep = true → b.may dep' = true → a.kind ≠ 8 → b.kind ≠ 8 → ∀ s t, Fol s → Fol t → a.show ++ s = b.show ++ t → sameB a b = true ∧ s = t
 | .mk k n b l d, .mk k' n' b' l' d', dep, dep', ha, hb, h8, h8', s, t, hs, ht, e => by
  have h8 : k ≠ 8 := h8
  have h8' : k' ≠ 8 := h8'
  have hka := may_kind ha
  have hkb := may_kind hb
  have hc : kc k = kc k' := by rw [← cls_show ha h8 s, ← cls_show hb h8' t, e]
  by_cases h2 : kc k = 2
  ·have q1 := kc_two h2 hka h8
   have q2 := kc_two (hc ▸ h2) hkb h8'
   rw [num_show (dep := dep) q1, num_show (dep := dep') q2] at e
   obtain ⟨e1, e2⟩ := cut_while (num_all _ _) (num_all _ _) (stop_if hs.1).num (stop_if ht.1).num e
   obtain ⟨rfl, ew⟩ := num_inj e1
   have key : k = k' ∧ s = t := by
    rcases q1 with rfl | rfl | rfl <;> rcases q2 with rfl | rfl | rfl <;> simp at ew e2
    ·exact ⟨rfl, e2⟩
    ·exact absurd e2 (hs.2 t)
    ·exact ⟨rfl, e2⟩
    ·exact absurd e2.symm (ht.2 s)
    ·exact ⟨rfl, e2⟩
   obtain ⟨rfl, rfl⟩ := key
   refine ⟨?_, rfl⟩
   rcases q1 with rfl | rfl | rfl <;> simp [sameB]
  ·obtain rfl : k = k' := (kc_eq hc hka hkb h8 h8').resolve_right h2
   rcases hka with rfl | rfl | rfl | rfl | rfl | rfl | rfl | rfl | rfl | rfl
   ·simp [Ob.show] at e; exact ⟨by simp [sameB], e⟩
   ·have hn := ha
    have hm := hb
    simp [Ob.may] at hn hm
    have hn : n = 0 ∨ n = 1 := by omega
    have hm : n' = 0 ∨ n' = 1 := by omega
    rcases hn with rfl | rfl <;> rcases hm with rfl | rfl <;> simp [Ob.show] at e
    ·exact ⟨by simp [sameB], e⟩
    ·exact ⟨by simp [sameB], e⟩
   ·exact absurd rfl h2
   ·exact absurd rfl h2
   ·have e : textT b ++ s = textT b' ++ t := by simpa [Ob.show] using e
    obtain ⟨rfl, rfl⟩ := textT_cut e
    exact ⟨by simp [sameB], rfl⟩
   ·have e : nameT b ++ s = nameT b' ++ t := by simpa [Ob.show] using e
    obtain ⟨rfl, rfl⟩ := nameT_cut hs.1 ht.1 e
    exact ⟨by simp [sameB], rfl⟩
   ·have e : showL true l ++ 93 :: s = showL true l' ++ 93 :: t := by simpa [Ob.show] using e
    have m1 : mayL (dep - 1) l = true := by simp [Ob.may] at ha; exact ha.2.2
    have m2 : mayL (dep' - 1) l' = true := by simp [Ob.may] at hb; exact hb.2.2
    obtain ⟨h1, h3⟩ := showL_cut l l' _ _ m1 m2 true s t e
    exact ⟨by simp [sameB, h1], h3⟩
   ·have e : showD d ++ 62 :: 62 :: s = showD d' ++ 62 :: 62 :: t := by simpa [Ob.show] using e
    have m1 : mayD (dep - 1) d = true := by simp [Ob.may] at ha; exact ha.2.2
    have m2 : mayD (dep' - 1) d' = true := by simp [Ob.may] at hb; exact hb.2.2
    obtain ⟨h1, h3⟩ := showD_cut d d' _ _ m1 m2 s t e
    exact ⟨by simp [sameB, h1], h3⟩
   ·exact absurd rfl h8
   ·exact absurd rfl h2
theorem showL_cut : ∀ (l l' : List Ob) (dep dep' : Nat), mayL dep l = true → mayL dep' l' = true → ∀ f s t, showL f l ++ 93 :: s = showL f l' ++ 93 :: t → sameL l l' = true ∧ s = t
 | [], [], _, _, _, _, f, s, t, e => by simp [showL] at e; exact ⟨rfl, e⟩
 | [], o :: r, dep, dep', _, h, f, s, t, e => by
  exfalso
  simp only [mayL, Bool.and_eq_true, bne_iff_ne, ne_eq] at h
  cases f with
  | false => simp [showL] at e
  | true =>
   obtain ⟨k, n, b, l, d⟩ := o
   have h8 : k ≠ 8 := h.1.1
   have e : (93 : UInt8) :: s = (Ob.mk k n b l d).show ++ (showL false r ++ 93 :: t) := by simpa [showL] using e
   have hc := cls_show h.1.2 h8 (showL false r ++ 93 :: t)
   rw [← e] at hc
   have : cls (93 :: s) = 20 := by unfold cls; simp; decide
   rw [this] at hc
   unfold kc at hc
   repeat (first | cases hc | split at hc)
 | o :: r, [], dep, dep', h, _, f, s, t, e => by
  exfalso
  simp only [mayL, Bool.and_eq_true, bne_iff_ne, ne_eq] at h
  cases f with
  | false => simp [showL] at e
  | true =>
   obtain ⟨k, n, b, l, d⟩ := o
   have h8 : k ≠ 8 := h.1.1
   have e : (Ob.mk k n b l d).show ++ (showL false r ++ 93 :: s) = (93 : UInt8) :: t := by simpa [showL] using e
   have hc := cls_show h.1.2 h8 (showL false r ++ 93 :: s)
   rw [e] at hc
   have : cls (93 :: t) = 20 := by unfold cls; simp; decide
   rw [this] at hc
   unfold kc at hc
   repeat (first | cases hc | split at hc)
 | o :: r, o' :: r', dep, dep', h, h', f, s, t, e => by
  simp only [mayL, Bool.and_eq_true, bne_iff_ne, ne_eq] at h h'
  have e : o.show ++ (showL false r ++ 93 :: s) = o'.show ++ (showL false r' ++ 93 :: t) := by simpa [showL] using e
  obtain ⟨h1, h2⟩ := show_cut o o' dep dep' h.1.2 h'.1.2 h.1.1 h'.1.1 _ _ (fol_L r h.2 s).1 (fol_L r' h'.2 t).1 e
  obtain ⟨h3, h4⟩ := showL_cut r r' dep dep' h.2 h'.2 false s t h2
  exact ⟨by simp [sameL, h1, h3], h4⟩
theorem showD_cut : ∀ (l l' : List (List UInt8 × Ob)) (dep dep' : Nat), mayD dep l = true → mayD dep' l' = true → ∀ s t, showD l ++ 62 :: 62 :: s = showD l' ++ 62 :: 62 :: t → sameD l l' = true ∧ s = t
 | [], [], _, _, _, _, s, t, e => by simp [showD] at e; exact ⟨rfl, e⟩
 | [], o :: r, _, _, _, h, s, t, e => by simp [showD, nameT] at e
 | o :: r, [], _, _, h, _, s, t, e => by simp [showD, nameT] at e
 | e1 :: r, e2 :: r', dep, dep', h, h', s, t, e => by
  simp only [mayD, Bool.and_eq_true, bne_iff_ne, ne_eq] at h h'
  have e : nameT e1.1 ++ (32 :: (e1.2.show ++ (showD r ++ 62 :: 62 :: s))) = nameT e2.1 ++ (32 :: (e2.2.show ++ (showD r' ++ 62 :: 62 :: t))) := by simpa [showD] using e
  have st : ∀ X : List UInt8, Stop (32 :: X) := fun X c r e => by injection e with e _; exact .inl e.symm
  obtain ⟨k1, k2⟩ := nameT_cut (st _) (st _) e
  injection k2 with _ k2
  obtain ⟨h1, h2⟩ := show_cut e1.2 e2.2 dep dep' h.1.2 h'.1.2 h.1.1.2 h'.1.1.2 _ _ (fol_D r s) (fol_D r' t) k2
  obtain ⟨h3, h4⟩ := showD_cut r r' dep dep' h.2 h'.2 s t h2
  exact ⟨by simp [sameD, h1, h3, k1], h4⟩
end
end Go.Wk
namespace Go.Wk
open Go
def atS (l l' : List Ob) (i : Nat) : Bool := match l[i]?, l'[i]? with
 | some a, some b => sameB a b
 | _, _ => true
def atT (l l' : List (List UInt8 × Ob)) (i : Nat) : Bool := match l[i]?, l'[i]? with
 | some a, some b => a.1 == b.1 && sameB a.2 b.2
 | _, _ => true
theorem sameL_len : ∀ (l l' : List Ob), l.length ≠ l'.length → sameL l l' = false
 | [], [], h => absurd rfl h
 | [], _ :: _, _ => rfl
 | _ :: _, [], _ => rfl
 | o :: r, o' :: r', h => by simp only [sameL, sameL_len r r' (fun e => h (by simp [e])), Bool.and_false]
theorem sameD_len : ∀ (l l' : List (List UInt8 × Ob)), l.length ≠ l'.length → sameD l l' = false
 | [], [], h => absurd rfl h
 | [], _ :: _, _ => rfl
 | _ :: _, [], _ => rfl
 | o :: r, o' :: r', h => by simp only [sameD, sameD_len r r' (fun e => h (by simp [e])), Bool.and_false]
theorem all_succ (n : Nat) (f : Nat → Bool) : (List.range (n + 1)).all f = (f 0 && (List.range n).all fun i => f (i + 1)) := by
 rw [List.range_succ_eq_map, List.all_cons, List.all_map]; rfl
theorem sameL_all : ∀ (l l' : List Ob), l.length = l'.length → sameL l l' = (List.range l.length).all (atS l l')
 | [], [], _ => rfl
 | [], _ :: _, h => by simp at h
 | _ :: _, [], h => by simp at h
 | o :: r, o' :: r', h => by
  rw [List.length_cons, all_succ]
  simp only [sameL]
  rw [sameL_all r r' (by simpa using h)]
  rfl
theorem sameD_all : ∀ (l l' : List (List UInt8 × Ob)), l.length = l'.length → sameD l l' = (List.range l.length).all (atT l l')
 | [], [], _ => rfl
 | [], _ :: _, h => by simp at h
 | _ :: _, [], h => by simp at h
 | o :: r, o' :: r', h => by
  rw [List.length_cons, all_succ]
  simp only [sameD]
  rw [sameD_all r r' (by simpa using h)]
  rfl
end Go.Wk
namespace Go.Proofs.YthffpbkndnhlfaaGreatDoor
open Go Go.RowKit Go.Wk
theorem ten_cells {w W1 W2 : World} {v0 v1 v2 v3 v4 u0 u1 u2 u3 u4 : Value} (h1 : W1 = w.alloc (.cells #[v0, v1, v2, v3, v4] 32)) (h2 : W2 = W1.alloc (.cells #[u0, u1, u2, u3, u4] 32)) :
 (W2.cell? ⟨w.heap.size, 0, none⟩ = some v0 ∧ W2.cell? ⟨w.heap.size, 1, none⟩ = some v1 ∧ W2.cell? ⟨w.heap.size, 2, none⟩ = some v2 ∧ W2.cell? ⟨w.heap.size, 3, none⟩ = some v3 ∧ W2.cell? ⟨w.heap.size, 4, none⟩ = some v4) ∧
 (W2.cell? ⟨w.heap.size + 1, 0, none⟩ = some u0 ∧ W2.cell? ⟨w.heap.size + 1, 1, none⟩ = some u1 ∧ W2.cell? ⟨w.heap.size + 1, 2, none⟩ = some u2 ∧ W2.cell? ⟨w.heap.size + 1, 3, none⟩ = some u3 ∧ W2.cell? ⟨w.heap.size + 1, 4, none⟩ = some u4) := by
 have f := five_kept (five_cells h1) (W' := W2) (by rw [h2]; exact (Below.refl _ _).alloc (Nat.le_refl _) _)
 have g := five_cells h2
 rw [show W1.heap.size = w.heap.size + 1 by rw [h1, World.size_alloc]] at g
 exact ⟨f, g⟩
def SameC (N : Nat) : Prop := ∀ (a b : Ob) (vs us : List Value) (w : World), ObAt w a vs → ObAt w b us → a.bulk ≤ N → b.bulk ≤ 1048576 → Calls Tryz.prog 13 #[.agg vs.toArray, .agg us.toArray] w fun e w' => e = .returned (.bool (sameB a b)) ∧ Below w.heap.size w w'
theorem same_arr (N : Nat) (hN : N ≤ 1048576) (hs : SameC N) (n n' : Int) (b b' : List UInt8) (l l' : List Ob) (d d' : List (List UInt8 × Ob)) (vs us : List Value) (w : World) (h : ObAt w (.mk 6 n b l d) vs) (h' : ObAt w (.mk 6 n' b' l' d') us) (hbk : bulkL l ≤ N) (hbk' : bulkL l' ≤ 1048576) :
 Calls Tryz.prog 13 #[.agg vs.toArray, .agg us.toArray] w fun e w' => e = .returned (.bool (sameL l l')) ∧ Below w.heap.size w w' := by
 have zl := bulkL_len l
 have zl' := bulkL_len l'
 cases h with
 | mk k n b l d A AL AD c cL cD gL oL gD oD vl vd h1 h2 h3 h4 h5 h6 h7 h8 h9 h10 h11 hA hl hlv h15 h16 h17 h18 =>
 cases h' with
 | mk k' n' b' l' d' A' AL' AD' c' cL' cD' gL' oL' gD' oD' vl' vd' i1 i2 i3 i4 i5 i6 i7 i8 i9 i10 i11 hA' hl' hlv' i15 i16 i17 i18 =>
 obtain ⟨m, hm⟩ : ∃ m, m = l.length := ⟨_, rfl⟩
 obtain ⟨m', hm'⟩ : ∃ m, m = l'.length := ⟨_, rfl⟩
 rw [← hm] at zl ⊢
 rw [← hm'] at zl' ⊢
 have zm : m ≤ 1048576 := by omega
 have zm' : m' ≤ 1048576 := by omega
 obtain ⟨W1, hW1⟩ : ∃ W, W = w.alloc (.cells #[.int .i64 6, .int .i64 n, .slice A b.length c, .slice AL m cL, .slice AD d.length cD] 32) := ⟨_, rfl⟩
 obtain ⟨W2, hW2⟩ : ∃ W, W = W1.alloc (.cells #[.int .i64 6, .int .i64 n', .slice A' b'.length c', .slice AL' m' cL', .slice AD' d'.length cD'] 32) := ⟨_, rfl⟩
 have hb2 : Below w.heap.size w W2 := by rw [hW2, hW1]; exact ((Below.refl _ _).alloc (Nat.le_refl _) _).alloc (by rw [World.size_alloc]; omega) _
 have ff := ten_cells hW1 hW2
 obtain ⟨⟨f0, f1, f2, f3, f4⟩, g0, g1, g2, g3, g4⟩ := id ff
 obtain ⟨E, hE⟩ : ∃ E, E = sameL l l' := ⟨_, rfl⟩
 rw [← hE]
 have hne : m ≠ m' → E = false := fun h => by rw [hE]; exact sameL_len l l' (by omega)
 have hall : m = m' → E = (List.range m).all (atS l l') := fun h => by rw [hE, hm]; exact sameL_all l l' (by omega)
 clear h1 h2 h3 h4 h5 h6 h7 h8 h9 h10 h11 h15 h16 h17 h18 i1 i2 i3 i4 i5 i6 i7 i8 i9 i10 i11 i15 i16 i17 i18
 replace hE := hi_ hE
 replace hm := hi_ hm
 replace hm' := hi_ hm'
 refine h3_ hA hl hlv ?_; clear hA hl hlv; intro hA hl hlv
 replace hA' := hi_ hA'
 replace hl' := hi_ hl'
 replace hlv' := hi_ hlv'
 refine h5_ hs hb2 ff hne hall ?_; clear hs hb2 ff hne hall; intro hs hb2 ff hne hall
 go_enter Tryz.func13, Tryz.ntmps13
 go_upto_region 1 with (fail)
 rw [← hW1, ← hW2]
 replace hW1 := hi_ hW1
 replace hW2 := hi_ hW2
 by_cases hmm : m = m'
 ·subst hmm
  have hal2 := hall.out rfl
  replace hal2 := hi_ hal2
  clear hne hall
  go_wp2
  go_loopw [5] (fun s5 wr => ∃ k : Nat, k ≤ m ∧ s5 = .int .i64 k ∧ (∀ j, j < k → atS l l' j = true) ∧ Below W2.heap.size W2 wr) (fun s5 _ => m - (RowKit.intOf s5).toNat)
  case atStart => exact ⟨0, by omega, rfl, fun j hj => by omega, Below.refl _ _⟩
  case round =>
   obtain ⟨k, hk, rfl, hP, hB⟩ := hrel
   have lB := hB.size
   obtain ⟨p0, p1, p2, p3, p4⟩ := five_kept ff.out.1 hB
   obtain ⟨q0, q1, q2, q3, q4⟩ := five_kept ff.out.2 hB
   by_cases hkm : k < m
   ·have hkl : k < l.length := by rw [← hm.out]; exact hkm
    have hkl' : k < l'.length := by rw [← hm'.out]; exact hkm
    have hAe := hA.out (by omega)
    have hAe' := hA'.out (by omega)
    subst hAe hAe'
    have hbw : Below w.heap.size w wr := bthen hb2.out hB
    obtain ⟨o, ho⟩ : ∃ o, o = l[k] := ⟨_, rfl⟩
    obtain ⟨o', ho'⟩ : ∃ o, o = l'[k] := ⟨_, rfl⟩
    have hob := (hl.out k hkl).kept hbw
    have hob' := (hl'.out k hkl').kept hbw
    have hcv := hlv.out k hkl
    have hcv' := hlv'.out k hkl'
    rw [← ho] at hob
    rw [← ho'] at hob'
    have hzo : o.bulk ≤ N := by have := bulkL_at l k hkl; rw [← ho] at this; omega
    have hzo' : o'.bulk ≤ 1048576 := by have := bulkL_at l' k hkl'; rw [← ho'] at this; omega
    obtain ⟨us, hus⟩ : ∃ us, us = vl k := ⟨_, rfl⟩
    obtain ⟨us', hus'⟩ : ∃ us, us = vl' k := ⟨_, rfl⟩
    rw [← hus] at hob hcv
    rw [← hus'] at hob' hcv'
    obtain ⟨en, E1, E2, E3, en1, ec1, en2, ec2, en3, ec3, hys⟩ := ob_five2 hob
    obtain ⟨en', E1', E2', E3', en1', ec1', en2', ec2', en3', ec3', hys'⟩ := ob_five2 hob'
    obtain ⟨kk, hkk⟩ : ∃ k, k = o.kind := ⟨_, rfl⟩
    obtain ⟨kk', hkk'⟩ : ∃ k, k = o'.kind := ⟨_, rfl⟩
    rw [← hkk] at hys
    rw [← hkk'] at hys'
    subst hys hys'
    have five : ∀ j u, [Value.int .i64 kk, .int .i64 en, .slice E1 en1 ec1, .slice E2 en2 ec2, .slice E3 en3 ec3][j]? = some u → wr.cell? ⟨gL, oL + k * 5 + j, none⟩ = some u := fun j u hj => by
     have h0 := hcv j (by have := (List.getElem?_eq_some_iff.1 hj).1; simpa using this)
     rw [hj] at h0
     have h1 := (hbw.cell (cell_lt h0)).trans h0
     rw [show oL + (5 * k + j) = oL + k * 5 + j by omega] at h1
     exact h1
    have five' : ∀ j u, [Value.int .i64 kk', .int .i64 en', .slice E1' en1' ec1', .slice E2' en2' ec2', .slice E3' en3' ec3'][j]? = some u → wr.cell? ⟨gL', oL' + k * 5 + j, none⟩ = some u := fun j u hj => by
     have h0 := hcv' j (by have := (List.getElem?_eq_some_iff.1 hj).1; simpa using this)
     rw [hj] at h0
     have h1 := (hbw.cell (cell_lt h0)).trans h0
     rw [show oL' + (5 * k + j) = oL' + k * 5 + j by omega] at h1
     exact h1
    have x0 : wr.cell? ⟨gL, oL + k * 5, none⟩ = some (.int .i64 kk) := five 0 _ rfl
    have x1 : wr.cell? ⟨gL, oL + k * 5 + 1, none⟩ = some (.int .i64 en) := five 1 _ rfl
    have x2 : wr.cell? ⟨gL, oL + k * 5 + 2, none⟩ = some (.slice E1 en1 ec1) := five 2 _ rfl
    have x3 : wr.cell? ⟨gL, oL + k * 5 + 3, none⟩ = some (.slice E2 en2 ec2) := five 3 _ rfl
    have x4 : wr.cell? ⟨gL, oL + k * 5 + 4, none⟩ = some (.slice E3 en3 ec3) := five 4 _ rfl
    have y0 : wr.cell? ⟨gL', oL' + k * 5, none⟩ = some (.int .i64 kk') := five' 0 _ rfl
    have y1 : wr.cell? ⟨gL', oL' + k * 5 + 1, none⟩ = some (.int .i64 en') := five' 1 _ rfl
    have y2 : wr.cell? ⟨gL', oL' + k * 5 + 2, none⟩ = some (.slice E1' en1' ec1') := five' 2 _ rfl
    have y3 : wr.cell? ⟨gL', oL' + k * 5 + 3, none⟩ = some (.slice E2' en2' ec2') := five' 3 _ rfl
    have y4 : wr.cell? ⟨gL', oL' + k * 5 + 4, none⟩ = some (.slice E3' en3' ec3') := five' 4 _ rfl
    have hat : atS l l' k = sameB o o' := by unfold atS; rw [List.getElem?_eq_getElem hkl, List.getElem?_eq_getElem hkl', ho, ho']
    have c8 := hs.out o o' _ _ wr.drew (hob.kept ((Below.refl _ _).drew)) (hob'.kept ((Below.refl _ _).drew)) hzo hzo'
    clear five five' hcv hcv' hob hob' hus hus' hkk hkk'
    obtain ⟨sb, hsb⟩ : ∃ sb, sb = sameB o o' := ⟨_, rfl⟩
    rw [← hsb] at hat c8
    replace ho := hi_ ho
    replace ho' := hi_ ho'
    refine h5_ hsb hB hbw hP hat ?_; clear hsb hB hbw hP hat; intro hsb hB hbw hP hat
    cases sb with
    | true =>
     have hP2 : ∀ j, j < k + 1 → atS l l' j = true := fun j hj => by
      by_cases h : j = k
      ·rw [h]; exact hat.out
      ·exact hP.out j (by omega)
     replace hP2 := hi_ hP2
     go_upto_region 18 with (fail)
     go_region_with (go_at_call 13; (with_reducible refine c8.mono ?_); rintro e w2 ⟨rfl, hB2⟩; have hB2 : Below wr.heap.size wr w2 := ((Below.refl _ _).drew : Below wr.heap.size wr wr.drew).trans hB2; replace hB2 := hi_ hB2)
     all_goals
      go_wp2
      go_roundw
      case rel => exact ⟨k + 1, by omega, by go_num, hP2.out, hB.out.trans (hB2.out.mono lB)⟩
      case measure => simp [RowKit.intOf]; omega
    | false =>
     have hF : E = false := by
      rw [hal2.out, List.all_eq_false]; refine ⟨k, List.mem_range.2 hkm, ?_⟩; rw [hat.out]; decide
     subst hF
     go_upto_region 18 with (fail)
     go_region_with (go_at_call 13; (with_reducible refine c8.mono ?_); rintro e w2 ⟨rfl, hB2⟩; have hB2 : Below wr.heap.size wr w2 := ((Below.refl _ _).drew : Below wr.heap.size wr wr.drew).trans hB2; replace hB2 := hi_ hB2)
     all_goals
      go_wp2
      go_ret
      exact ⟨rfl, bthen hbw.out hB2.out⟩
   ·obtain rfl : k = m := by omega
    have hT : E = true := by
     rw [hal2.out, List.all_eq_true]; intro j hj; exact hP j (List.mem_range.1 hj)
    subst hT
    have hbw : Below w.heap.size w wr := bthen hb2.out hB
    refine h3_ hbw hB hP ?_; clear hbw hB hP; intro hbw hB hP
    go_wp2
    go_ret
    exact ⟨rfl, hbw.out⟩
 ·have hF := hne.out hmm
  subst hF
  have qm : ((m : Int) == (m' : Int)) = false := by rw [beq_eq_false_iff_ne]; omega
  clear hall
  replace hmm := hi_ hmm
  go_wp2
  go_ret
  exact ⟨rfl, hb2.out⟩
end Go.Proofs.YthffpbkndnhlfaaGreatDoor
namespace Go.Proofs.YthffpbkndnhlfaaGreatDoor
open Go Go.RowKit Go.Wk
def GU (p q gD oD gD' oD' m cD cD' k : Nat) (K K' : ByteArray) (ag ag' : Array Value) (kn sb : Bool) : Nat → Value → World → Prop := fun j v w => match j with
 | 0 => v = .pointer (some ⟨p, 4, none⟩)
 | 1 => v = .slice (some ⟨gD, oD, none⟩) m cD
 | 2 | 8 => v = .int .i64 (k : Int)
 | 3 | 4 => v = .pointer (some ⟨gD, oD + k * 6, none⟩)
 | 5 => v = .string K
 | 6 => v = .pointer (some ⟨q, 4, none⟩)
 | 7 => v = .slice (some ⟨gD', oD', none⟩) m cD'
 | 9 | 10 => v = .pointer (some ⟨gD', oD' + k * 6, none⟩)
 | 11 => v = .string K'
 | 12 | 13 => v = .bool kn
 | 14 => kn = false → v = .pointer (some ⟨p, 4, none⟩)
 | 15 => kn = false → v = .slice (some ⟨gD, oD, none⟩) m cD
 | 16 | 22 => kn = false → v = .int .i64 (k : Int)
 | 17 => kn = false → v = .pointer (some ⟨gD, oD + k * 6, none⟩)
 | 18 => kn = false → v = .pointer (some ⟨gD, oD + k * 6 + 1, none⟩)
 | 19 => kn = false → v = .agg ag
 | 20 => kn = false → v = .pointer (some ⟨q, 4, none⟩)
 | 21 => kn = false → v = .slice (some ⟨gD', oD', none⟩) m cD'
 | 23 => kn = false → v = .pointer (some ⟨gD', oD' + k * 6, none⟩)
 | 24 => kn = false → v = .pointer (some ⟨gD', oD' + k * 6 + 1, none⟩)
 | 25 => kn = false → v = .agg ag'
 | 26 => kn = false → v = .bool sb
 | _ => kn = false → v = .bool (!sb)
theorem GU_mono {p q gD oD gD' oD' m cD cD' k : Nat} {K K' : ByteArray} {ag ag' : Array Value} {kn sb : Bool} (j : Nat) (v : Value) (w w' : World) (hG : GU p q gD oD gD' oD' m cD cD' k K K' ag ag' kn sb j v w) (hk : Below w.heap.size w w') : GU p q gD oD gD' oD' m cD cD' k K K' ag ag' kn sb j v w' := by
 unfold GU at hG ⊢
 split at hG <;> exact hG
theorem bytes_toList (a : List UInt8) : (bytes a).toList = a := by
 rw [ByteArray.toList_eq]; rfl
theorem bytes_eq2 (a b : List UInt8) : (a == b) = !(!((bytes a).toList == (bytes b).toList)) := by
 rw [Bool.not_not, bytes_toList, bytes_toList]
theorem same_dict7 (N : Nat) (hN : N ≤ 1048576) (hs : SameC N) (n n' : Int) (b b' : List UInt8) (l l' : List Ob) (d d' : List (List UInt8 × Ob)) (vs us : List Value) (w : World) (h : ObAt w (.mk 7 n b l d) vs) (h' : ObAt w (.mk 7 n' b' l' d') us) (hbk : b.length + bulkD d ≤ N) (hbk' : b'.length + bulkD d' ≤ 1048576) :
 Calls Tryz.prog 13 #[.agg vs.toArray, .agg us.toArray] w fun e w' => e = .returned (.bool (sameD d d')) ∧ Below w.heap.size w w' := by
 have zl := bulkD_len d
 have zl' := bulkD_len d'
 have zb1 : b.length ≤ 1048576 := by omega
 have zb1' : b'.length ≤ 1048576 := by omega
 cases h with
 | mk k n b l d A AL AD c cL cD gL oL gD oD vl vd h1 h2 h3 h4 hB5 h6 h7 h8 h9 h10 h11 h12 h13 h14 hA hl hkey hlv =>
 cases h' with
 | mk k' n' b' l' d' A' AL' AD' c' cL' cD' gL' oL' gD' oD' vl' vd' i1 i2 i3 i4 iB5 i6 i7 i8 i9 i10 i11 i12 i13 i14 hA' hl' hkey' hlv' =>
 obtain ⟨m, hm⟩ : ∃ m, m = d.length := ⟨_, rfl⟩
 obtain ⟨m', hm'⟩ : ∃ m, m = d'.length := ⟨_, rfl⟩
 rw [← hm] at zl ⊢
 rw [← hm'] at zl' ⊢
 have zm : m ≤ 1048576 := by omega
 have zm' : m' ≤ 1048576 := by omega
 obtain ⟨W1, hW1⟩ : ∃ W, W = w.alloc (.cells #[.int .i64 7, .int .i64 n, .slice A b.length c, .slice AL l.length cL, .slice AD m cD] 32) := ⟨_, rfl⟩
 obtain ⟨W2, hW2⟩ : ∃ W, W = W1.alloc (.cells #[.int .i64 7, .int .i64 n', .slice A' b'.length c', .slice AL' l'.length cL', .slice AD' m' cD'] 32) := ⟨_, rfl⟩
 have hb2 : Below w.heap.size w W2 := by rw [hW2, hW1]; exact ((Below.refl _ _).alloc (Nat.le_refl _) _).alloc (by rw [World.size_alloc]; omega) _
 have ff := ten_cells hW1 hW2
 obtain ⟨⟨f0, f1, f2, f3, f4⟩, g0, g1, g2, g3, g4⟩ := id ff
 obtain ⟨E, hE⟩ : ∃ E, E = sameD d d' := ⟨_, rfl⟩
 rw [← hE]
 have hne : m ≠ m' → E = false := fun h => by rw [hE]; exact sameD_len d d' (by omega)
 have hall : m = m' → E = (List.range m).all (atT d d') := fun h => by rw [hE, hm]; exact sameD_all d d' (by omega)
 have c7 := ref_Same A A' c c' b b' W2 (hB5.below hb2) (iB5.below hb2) (by omega) (by omega)
 have hbe : (b == b') = decide (b = b') := by by_cases h : b = b' <;> simp [h]
 clear hbe c7
 clear h1 h2 h3 h4 hB5 h6 h7 h8 h9 h10 h11 h12 h13 h14 i1 i2 i3 i4 iB5 i6 i7 i8 i9 i10 i11 i12 i13 i14
 replace hE := hi_ hE
 replace hm := hi_ hm
 replace hm' := hi_ hm'
 refine h4_ hA hl hlv hkey ?_; clear hA hl hlv hkey; intro hA hl hlv hkey
 replace hA' := hi_ hA'
 replace hl' := hi_ hl'
 replace hlv' := hi_ hlv'
 replace hkey' := hi_ hkey'
 refine h5_ hs hb2 ff hne hall ?_; clear hs hb2 ff hne hall; intro hs hb2 ff hne hall
 go_enter Tryz.func13, Tryz.ntmps13
 go_upto_region 1 with (fail)
 rw [← hW1, ← hW2]
 replace hW1 := hi_ hW1
 replace hW2 := hi_ hW2
 by_cases hmm : m = m'
 ·subst hmm
  have hal2 := hall.out rfl
  replace hal2 := hi_ hal2
  clear hne hall
  go_wp2
  go_loopw [6] (fun s6 wr => ∃ k : Nat, k ≤ m ∧ s6 = .int .i64 k ∧ (∀ j, j < k → atT d d' j = true) ∧ Below W2.heap.size W2 wr) (fun s6 _ => m - (RowKit.intOf s6).toNat)
  case atStart => exact ⟨0, by omega, rfl, fun j hj => by omega, Below.refl _ _⟩
  case round =>
   obtain ⟨k, hk, rfl, hP, hB⟩ := hrel
   have lB := hB.size
   obtain ⟨p0, p1, p2, p3, p4⟩ := five_kept ff.out.1 hB
   obtain ⟨q0, q1, q2, q3, q4⟩ := five_kept ff.out.2 hB
   by_cases hkm : k < m
   ·have hkl : k < d.length := by rw [← hm.out]; exact hkm
    have hkl' : k < d'.length := by rw [← hm'.out]; exact hkm
    have hAe := hA.out (by omega)
    have hAe' := hA'.out (by omega)
    subst hAe hAe'
    have hbw : Below w.heap.size w wr := bthen hb2.out hB
    obtain ⟨o, ho⟩ : ∃ o, o = d[k] := ⟨_, rfl⟩
    obtain ⟨o', ho'⟩ : ∃ o, o = d'[k] := ⟨_, rfl⟩
    have hob := (hl.out k hkl).kept hbw
    have hob' := (hl'.out k hkl').kept hbw
    have hcv := hlv.out k hkl
    have hcv' := hlv'.out k hkl'
    have hky := (hkey.out k hkl).2
    have hky' := (hkey'.out k hkl').2
    rw [← ho] at hob hky
    rw [← ho'] at hob' hky'
    have hzo : o.2.bulk ≤ N := by have := bulkD_at d k hkl; rw [← ho] at this; omega
    have hzo' : o'.2.bulk ≤ 1048576 := by have := bulkD_at d' k hkl'; rw [← ho'] at this; omega
    obtain ⟨us, hus⟩ : ∃ us, us = vd k := ⟨_, rfl⟩
    obtain ⟨us', hus'⟩ : ∃ us, us = vd' k := ⟨_, rfl⟩
    rw [← hus] at hob hcv
    rw [← hus'] at hob' hcv'
    obtain ⟨en, E1, E2, E3, en1, ec1, en2, ec2, en3, ec3, hys⟩ := ob_five2 hob
    obtain ⟨en', E1', E2', E3', en1', ec1', en2', ec2', en3', ec3', hys'⟩ := ob_five2 hob'
    obtain ⟨kk, hkk⟩ : ∃ k, k = o.2.kind := ⟨_, rfl⟩
    obtain ⟨kk', hkk'⟩ : ∃ k, k = o'.2.kind := ⟨_, rfl⟩
    rw [← hkk] at hys
    rw [← hkk'] at hys'
    subst hys hys'
    obtain ⟨K, hK⟩ : ∃ K, K = bytes o.1 := ⟨_, rfl⟩
    obtain ⟨K', hK'⟩ : ∃ K, K = bytes o'.1 := ⟨_, rfl⟩
    have kp : ∀ W, Below wr.heap.size wr W → W.cell? ⟨gD, oD + k * 6, none⟩ = some (.string K) ∧ W.cell? ⟨gD', oD' + k * 6, none⟩ = some (.string K') := fun W hW => by
     have h1 := (bthen hbw hW).cell (cell_lt hky) |>.trans hky
     have h2 := (bthen hbw hW).cell (cell_lt hky') |>.trans hky'
     rw [Nat.mul_comm] at h1 h2
     rw [h1, h2, hK, hK']; exact ⟨rfl, rfl⟩
    have five : ∀ W, Below wr.heap.size wr W → ∀ j u, [Value.int .i64 kk, .int .i64 en, .slice E1 en1 ec1, .slice E2 en2 ec2, .slice E3 en3 ec3][j]? = some u → W.cell? ⟨gD, oD + k * 6 + 1 + j, none⟩ = some u := fun W hW j u hj => by
     have h0 := hcv j (by have := (List.getElem?_eq_some_iff.1 hj).1; simpa using this)
     rw [hj] at h0
     have h1 := ((bthen hbw hW).cell (cell_lt h0)).trans h0
     rw [show oD + (6 * k + 1 + j) = oD + k * 6 + 1 + j by omega] at h1
     exact h1
    have five' : ∀ W, Below wr.heap.size wr W → ∀ j u, [Value.int .i64 kk', .int .i64 en', .slice E1' en1' ec1', .slice E2' en2' ec2', .slice E3' en3' ec3'][j]? = some u → W.cell? ⟨gD', oD' + k * 6 + 1 + j, none⟩ = some u := fun W hW j u hj => by
     have h0 := hcv' j (by have := (List.getElem?_eq_some_iff.1 hj).1; simpa using this)
     rw [hj] at h0
     have h1 := ((bthen hbw hW).cell (cell_lt h0)).trans h0
     rw [show oD' + (6 * k + 1 + j) = oD' + k * 6 + 1 + j by omega] at h1
     exact h1
    have zz : ∀ W, Below wr.heap.size wr W → (W.cell? ⟨w.heap.size, 0, none⟩ = some (.int .i64 7) ∧ W.cell? ⟨w.heap.size, 1, none⟩ = some (.int .i64 n) ∧ W.cell? ⟨w.heap.size, 2, none⟩ = some (.slice A b.length c) ∧ W.cell? ⟨w.heap.size, 3, none⟩ = some (.slice AL l.length cL) ∧ W.cell? ⟨w.heap.size, 4, none⟩ = some (.slice (some ⟨gD, oD, none⟩) m cD)) ∧
     (W.cell? ⟨w.heap.size + 1, 0, none⟩ = some (.int .i64 7) ∧ W.cell? ⟨w.heap.size + 1, 1, none⟩ = some (.int .i64 n') ∧ W.cell? ⟨w.heap.size + 1, 2, none⟩ = some (.slice A' b'.length c') ∧ W.cell? ⟨w.heap.size + 1, 3, none⟩ = some (.slice AL' l'.length cL') ∧ W.cell? ⟨w.heap.size + 1, 4, none⟩ = some (.slice (some ⟨gD', oD', none⟩) m cD')) ∧
     (W.cell? ⟨gD, oD + k * 6, none⟩ = some (.string K) ∧ W.cell? ⟨gD, oD + k * 6 + 1, none⟩ = some (.int .i64 kk) ∧ W.cell? ⟨gD, oD + k * 6 + 2, none⟩ = some (.int .i64 en) ∧ W.cell? ⟨gD, oD + k * 6 + 3, none⟩ = some (.slice E1 en1 ec1) ∧ W.cell? ⟨gD, oD + k * 6 + 4, none⟩ = some (.slice E2 en2 ec2) ∧ W.cell? ⟨gD, oD + k * 6 + 5, none⟩ = some (.slice E3 en3 ec3)) ∧
     (W.cell? ⟨gD', oD' + k * 6, none⟩ = some (.string K') ∧ W.cell? ⟨gD', oD' + k * 6 + 1, none⟩ = some (.int .i64 kk') ∧ W.cell? ⟨gD', oD' + k * 6 + 2, none⟩ = some (.int .i64 en') ∧ W.cell? ⟨gD', oD' + k * 6 + 3, none⟩ = some (.slice E1' en1' ec1') ∧ W.cell? ⟨gD', oD' + k * 6 + 4, none⟩ = some (.slice E2' en2' ec2') ∧ W.cell? ⟨gD', oD' + k * 6 + 5, none⟩ = some (.slice E3' en3' ec3')) := fun W hW =>
     ⟨five_kept ff.out.1 (bthen hB hW), five_kept ff.out.2 (bthen hB hW), ⟨(kp W hW).1, five W hW 0 _ rfl, five W hW 1 _ rfl, five W hW 2 _ rfl, five W hW 3 _ rfl, five W hW 4 _ rfl⟩, (kp W hW).2, five' W hW 0 _ rfl, five' W hW 1 _ rfl, five' W hW 2 _ rfl, five' W hW 3 _ rfl, five' W hW 4 _ rfl⟩
    have hat : atT d d' k = (o.1 == o'.1 && sameB o.2 o'.2) := by unfold atT; rw [List.getElem?_eq_getElem hkl, List.getElem?_eq_getElem hkl', ho, ho']
    have c8 := fun W (hW : Below wr.heap.size wr W) => hs.out o.2 o'.2 _ _ W (hob.kept hW) (hob'.kept hW) hzo hzo'
    obtain ⟨kn, hkn⟩ : ∃ kn, (!(K.toList == K'.toList)) = kn := ⟨_, rfl⟩
    have hkn3 : (o.1 == o'.1) = !kn := by rw [← hkn, hK, hK']; exact bytes_eq2 _ _
    obtain ⟨sb, hsb⟩ : ∃ sb, sb = sameB o.2 o'.2 := ⟨_, rfl⟩
    rw [← hsb, hkn3] at hat
    rw [← hsb] at c8
    clear five five' hcv hcv' hob hob' hus hus' hkk hkk' kp hky hky' hkn3 hzo hzo'
    replace ho := hi_ ho
    replace ho' := hi_ ho'
    replace hK := hi_ hK
    replace hK' := hi_ hK'
    refine h7_ hsb hB hbw hP hat zz c8 ?_; clear hsb hB hbw hP hat zz c8; intro hsb hB hbw hP hat zz c8
    go_upto_region 27 with (fail)
    refine wp_lin_tail (by kernel_rfl) [none, none, none, none, none, none, none, none, none, none, none, none, none, none, none, none, none, none, none, none, none, none, none, none, none, none, none, none, none, none, none, none, none, none, none, none, none, none, none, none, none, none, none, none, none, none, none, none, none, none, none, none, none, none, none, none, none, none, none, none, none, none, none, none, none, none, none, none, none, none, none, none, none, none, none, none, none, none, none, none, none, none, none, none, none, none, none, none, none, none, some 0, some 1, some 2, some 3, some 4, some 5, some 6, some 7, some 8, some 9, some 10, some 11, some 12, some 13, some 14, some 15, some 16, some 17, some 18, some 19, some 20, some 21, some 22, some 23, some 24, some 25, some 26, some 27, none] (fun w' => Below wr.heap.size wr w') (fun w' w'' => Below w'.heap.size w' w'') (GU w.heap.size (w.heap.size + 1) gD oD gD' oD' m cD cD' k K K' #[.int .i64 kk, .int .i64 en, .slice E1 en1 ec1, .slice E2 en2 ec2, .slice E3 en3 ec3] #[.int .i64 kk', .int .i64 en', .slice E1' en1' ec1', .slice E2' en2' ec2', .slice E3' en3' ec3'] kn sb) (by rfl) (by kernel_rfl) 28 _ rfl (by decide) (by kernel_rfl) [1, 3, 3, 4, 5, 12, 7, 9, 9, 10, 11, 12, 13, 28, 15, 17, 17, 18, 19, 26, 21, 23, 23, 24, 25, 26, 27, 28, 0] (by kernel_rfl) ?hR ?mono (.cons 27 (step_of [26, 13] rfl (by kernel_rfl) ?s27) (.cons 26 (step_of [19, 25, 13] rfl (by kernel_rfl) ?s26) (.cons 25 (step_of [24, 13] rfl (by kernel_rfl) ?s25) (.cons 24 (step_of [23, 13] rfl (by kernel_rfl) ?s24) (.cons 23 (step_of [21, 22, 13] rfl (by kernel_rfl) ?s23) (.cons 22 (step_of [13] rfl (by kernel_rfl) ?s22) (.cons 21 (step_of [20, 13] rfl (by kernel_rfl) ?s21) (.cons 20 (step_of [13] rfl (by kernel_rfl) ?s20) (.cons 19 (step_of [18, 13] rfl (by kernel_rfl) ?s19) (.cons 18 (step_of [17, 13] rfl (by kernel_rfl) ?s18) (.cons 17 (step_of [15, 16, 13] rfl (by kernel_rfl) ?s17) (.cons 16 (step_of [13] rfl (by kernel_rfl) ?s16) (.cons 15 (step_of [14, 13] rfl (by kernel_rfl) ?s15) (.cons 14 (step_of [13] rfl (by kernel_rfl) ?s14) (.cons 13 (step_of [12] rfl (by kernel_rfl) ?s13) (.cons 12 (step_of [5, 11] rfl (by kernel_rfl) ?s12) (.cons 11 (step_of [10] rfl (by kernel_rfl) ?s11) (.cons 10 (step_of [9] rfl (by kernel_rfl) ?s10) (.cons 9 (step_of [7, 8] rfl (by kernel_rfl) ?s9) (.cons 8 (step_of [] rfl (by kernel_rfl) ?s8) (.cons 7 (step_of [6] rfl (by kernel_rfl) ?s7) (.cons 6 (step_of [] rfl (by kernel_rfl) ?s6) (.cons 5 (step_of [4] rfl (by kernel_rfl) ?s5) (.cons 4 (step_of [3] rfl (by kernel_rfl) ?s4) (.cons 3 (step_of [1, 2] rfl (by kernel_rfl) ?s3) (.cons 2 (step_of [] rfl (by kernel_rfl) ?s2) (.cons 1 (step_of [0] rfl (by kernel_rfl) ?s1) (.cons 0 (step_of [] rfl (by kernel_rfl) ?s0) (.nil))))))))))))))))))))))))))))) ?done
    case hR => exact (Below.refl _ _).drew
    case mono => exact GU_mono
    case done =>
     intro x w4 hR2 hG fr hfr
     have e13 := hG 13 (by omega)
     have e27 := hG 27 (by omega)
     simp only [GU] at e13 e27
     clear hG
     simp only [fillL] at hfr
     rw [e13] at hfr
     replace hR2 := hi_ hR2
     cases kn with
     | true =>
      have hF : E = false := by
       rw [hal2.out, List.all_eq_false]; refine ⟨k, List.mem_range.2 hkm, ?_⟩; rw [hat.out]; simp
      subst hfr
      clear e27
      go_wp2
      go_ret
      exact ⟨by first | rfl | (rw [hF]; rfl), bthen hbw.out hR2.out⟩
     | false =>
      rw [e27 rfl] at hfr
      subst hfr
      clear e27
      cases sb with
      | true =>
       have hP2 : ∀ j, j < k + 1 → atT d d' j = true := fun j hj => by
        by_cases h : j = k
        ·rw [h]; exact hat.out
        ·exact hP.out j (by omega)
       replace hP2 := hi_ hP2
       go_wp2
       go_roundw
       case rel => exact ⟨k + 1, by omega, by go_num, hP2.out, hB.out.trans (hR2.out.mono lB)⟩
       case measure => simp [RowKit.intOf]; omega
      | false =>
       have hF : E = false := by
        rw [hal2.out, List.all_eq_false]; refine ⟨k, List.mem_range.2 hkm, ?_⟩; rw [hat.out]; simp
       go_wp2
       go_ret
       exact ⟨by first | rfl | (rw [hF]; rfl), bthen hbw.out hR2.out⟩
    case' s0 | s1 | s2 | s3 | s4 | s5 | s6 | s7 | s8 | s9 | s10 | s11 | s12 | s13 | s14 | s15 | s16 | s17 | s18 | s19 | s20 | s21 | s22 | s23 | s24 | s25 | s26 | s27 =>
     intro x w' hRw hd K9 hK
     simp only [All, GU] at hd
     simp +decide only [upd, GU, fillL, if_true, if_false] at hK ⊢
    case s0 =>
     obtain ⟨_⟩ := hd
     go_simp
     have hK2 := hK _ _ ⟨hRw, Below.refl _ _, rfl⟩
     exact hK2
    case s1 =>
     obtain ⟨e0, _⟩ := hd
     obtain ⟨⟨z0, z1, z2, z3, z4⟩, ⟨t0, t1, t2, t3, t4⟩, ⟨x0, x1, x2, x3, x4, x5⟩, y0, y1, y2, y3, y4, y5⟩ := zz.out w' hRw
     simp only [e0] at hK ⊢
     go_simp
     have hK2 := hK _ _ ⟨hRw, Below.refl _ _, rfl⟩
     exact hK2
    case s2 =>
     obtain ⟨_⟩ := hd
     go_simp
     have hK2 := hK _ _ ⟨hRw, Below.refl _ _, rfl⟩
     exact hK2
    case s3 =>
     obtain ⟨e1, e2, _⟩ := hd
     simp only [e1, e2] at hK ⊢
     go_simp
     have hK2 := hK _ _ ⟨hRw, Below.refl _ _, rfl⟩
     exact hK2
    case s4 =>
     obtain ⟨e3, _⟩ := hd
     simp only [e3] at hK ⊢
     go_simp
     have hK2 := hK _ _ ⟨hRw, Below.refl _ _, rfl⟩
     exact hK2
    case s5 =>
     obtain ⟨e4, _⟩ := hd
     obtain ⟨⟨z0, z1, z2, z3, z4⟩, ⟨t0, t1, t2, t3, t4⟩, ⟨x0, x1, x2, x3, x4, x5⟩, y0, y1, y2, y3, y4, y5⟩ := zz.out w' hRw
     simp only [e4] at hK ⊢
     go_simp
     have hK2 := hK _ _ ⟨hRw, Below.refl _ _, rfl⟩
     exact hK2
    case s6 =>
     obtain ⟨_⟩ := hd
     go_simp
     have hK2 := hK _ _ ⟨hRw, Below.refl _ _, rfl⟩
     exact hK2
    case s7 =>
     obtain ⟨e6, _⟩ := hd
     obtain ⟨⟨z0, z1, z2, z3, z4⟩, ⟨t0, t1, t2, t3, t4⟩, ⟨x0, x1, x2, x3, x4, x5⟩, y0, y1, y2, y3, y4, y5⟩ := zz.out w' hRw
     simp only [e6] at hK ⊢
     go_simp
     have hK2 := hK _ _ ⟨hRw, Below.refl _ _, rfl⟩
     exact hK2
    case s8 =>
     obtain ⟨_⟩ := hd
     go_simp
     have hK2 := hK _ _ ⟨hRw, Below.refl _ _, rfl⟩
     exact hK2
    case s9 =>
     obtain ⟨e7, e8, _⟩ := hd
     simp only [e7, e8] at hK ⊢
     go_simp
     have hK2 := hK _ _ ⟨hRw, Below.refl _ _, rfl⟩
     exact hK2
    case s10 =>
     obtain ⟨e9, _⟩ := hd
     simp only [e9] at hK ⊢
     go_simp
     have hK2 := hK _ _ ⟨hRw, Below.refl _ _, rfl⟩
     exact hK2
    case s11 =>
     obtain ⟨e10, _⟩ := hd
     obtain ⟨⟨z0, z1, z2, z3, z4⟩, ⟨t0, t1, t2, t3, t4⟩, ⟨x0, x1, x2, x3, x4, x5⟩, y0, y1, y2, y3, y4, y5⟩ := zz.out w' hRw
     simp only [e10] at hK ⊢
     go_simp
     have hK2 := hK _ _ ⟨hRw, Below.refl _ _, rfl⟩
     exact hK2
    case s12 =>
     obtain ⟨e5, e11, _⟩ := hd
     simp only [e5, e11] at hK ⊢
     go_simp
     try simp only [hkn]
     have hK2 := hK _ _ ⟨hRw, Below.refl _ _, rfl⟩
     exact hK2
    case s13 =>
     obtain ⟨e12, _⟩ := hd
     simp only [e12] at hK ⊢
     go_simp
     have hK2 := hK _ _ ⟨hRw, Below.refl _ _, rfl⟩
     exact hK2
    case s14 =>
     obtain ⟨e13, _⟩ := hd
     simp only [e13] at hK ⊢
     cases kn with
     | true =>
      go_simp
      have hK2 := hK undef _ ⟨hRw, Below.refl _ _, fun h => by cases h⟩
      exact hK2
     | false =>
      go_simp
      have hK2 := hK _ _ ⟨hRw, Below.refl _ _, fun _ => rfl⟩
      exact hK2
    case s15 =>
     obtain ⟨e14, e13, _⟩ := hd
     obtain ⟨⟨z0, z1, z2, z3, z4⟩, ⟨t0, t1, t2, t3, t4⟩, ⟨x0, x1, x2, x3, x4, x5⟩, y0, y1, y2, y3, y4, y5⟩ := zz.out w' hRw
     simp only [e13] at hK ⊢
     cases kn with
     | true =>
      go_simp
      have hK2 := hK undef _ ⟨hRw, Below.refl _ _, fun h => by cases h⟩
      exact hK2
     | false =>
      simp only [e14 rfl] at hK ⊢
      go_simp
      have hK2 := hK _ _ ⟨hRw, Below.refl _ _, fun _ => rfl⟩
      exact hK2
    case s16 =>
     obtain ⟨e13, _⟩ := hd
     simp only [e13] at hK ⊢
     cases kn with
     | true =>
      go_simp
      have hK2 := hK undef _ ⟨hRw, Below.refl _ _, fun h => by cases h⟩
      exact hK2
     | false =>
      go_simp
      have hK2 := hK _ _ ⟨hRw, Below.refl _ _, fun _ => rfl⟩
      exact hK2
    case s17 =>
     obtain ⟨e15, e16, e13, _⟩ := hd
     simp only [e13] at hK ⊢
     cases kn with
     | true =>
      go_simp
      have hK2 := hK undef _ ⟨hRw, Below.refl _ _, fun h => by cases h⟩
      exact hK2
     | false =>
      simp only [e15 rfl, e16 rfl] at hK ⊢
      go_simp
      have hK2 := hK _ _ ⟨hRw, Below.refl _ _, fun _ => rfl⟩
      exact hK2
    case s18 =>
     obtain ⟨e17, e13, _⟩ := hd
     simp only [e13] at hK ⊢
     cases kn with
     | true =>
      go_simp
      have hK2 := hK undef _ ⟨hRw, Below.refl _ _, fun h => by cases h⟩
      exact hK2
     | false =>
      simp only [e17 rfl] at hK ⊢
      go_simp
      have hK2 := hK _ _ ⟨hRw, Below.refl _ _, fun _ => rfl⟩
      exact hK2
    case s19 =>
     obtain ⟨e18, e13, _⟩ := hd
     obtain ⟨⟨z0, z1, z2, z3, z4⟩, ⟨t0, t1, t2, t3, t4⟩, ⟨x0, x1, x2, x3, x4, x5⟩, y0, y1, y2, y3, y4, y5⟩ := zz.out w' hRw
     simp only [e13] at hK ⊢
     cases kn with
     | true =>
      go_simp
      have hK2 := hK undef _ ⟨hRw, Below.refl _ _, fun h => by cases h⟩
      exact hK2
     | false =>
      simp only [e18 rfl] at hK ⊢
      go_simp
      have hK2 := hK _ _ ⟨hRw, Below.refl _ _, fun _ => rfl⟩
      exact hK2
    case s20 =>
     obtain ⟨e13, _⟩ := hd
     simp only [e13] at hK ⊢
     cases kn with
     | true =>
      go_simp
      have hK2 := hK undef _ ⟨hRw, Below.refl _ _, fun h => by cases h⟩
      exact hK2
     | false =>
      go_simp
      have hK2 := hK _ _ ⟨hRw, Below.refl _ _, fun _ => rfl⟩
      exact hK2
    case s21 =>
     obtain ⟨e20, e13, _⟩ := hd
     obtain ⟨⟨z0, z1, z2, z3, z4⟩, ⟨t0, t1, t2, t3, t4⟩, ⟨x0, x1, x2, x3, x4, x5⟩, y0, y1, y2, y3, y4, y5⟩ := zz.out w' hRw
     simp only [e13] at hK ⊢
     cases kn with
     | true =>
      go_simp
      have hK2 := hK undef _ ⟨hRw, Below.refl _ _, fun h => by cases h⟩
      exact hK2
     | false =>
      simp only [e20 rfl] at hK ⊢
      go_simp
      have hK2 := hK _ _ ⟨hRw, Below.refl _ _, fun _ => rfl⟩
      exact hK2
    case s22 =>
     obtain ⟨e13, _⟩ := hd
     simp only [e13] at hK ⊢
     cases kn with
     | true =>
      go_simp
      have hK2 := hK undef _ ⟨hRw, Below.refl _ _, fun h => by cases h⟩
      exact hK2
     | false =>
      go_simp
      have hK2 := hK _ _ ⟨hRw, Below.refl _ _, fun _ => rfl⟩
      exact hK2
    case s23 =>
     obtain ⟨e21, e22, e13, _⟩ := hd
     simp only [e13] at hK ⊢
     cases kn with
     | true =>
      go_simp
      have hK2 := hK undef _ ⟨hRw, Below.refl _ _, fun h => by cases h⟩
      exact hK2
     | false =>
      simp only [e21 rfl, e22 rfl] at hK ⊢
      go_simp
      have hK2 := hK _ _ ⟨hRw, Below.refl _ _, fun _ => rfl⟩
      exact hK2
    case s24 =>
     obtain ⟨e23, e13, _⟩ := hd
     simp only [e13] at hK ⊢
     cases kn with
     | true =>
      go_simp
      have hK2 := hK undef _ ⟨hRw, Below.refl _ _, fun h => by cases h⟩
      exact hK2
     | false =>
      simp only [e23 rfl] at hK ⊢
      go_simp
      have hK2 := hK _ _ ⟨hRw, Below.refl _ _, fun _ => rfl⟩
      exact hK2
    case s25 =>
     obtain ⟨e24, e13, _⟩ := hd
     obtain ⟨⟨z0, z1, z2, z3, z4⟩, ⟨t0, t1, t2, t3, t4⟩, ⟨x0, x1, x2, x3, x4, x5⟩, y0, y1, y2, y3, y4, y5⟩ := zz.out w' hRw
     simp only [e13] at hK ⊢
     cases kn with
     | true =>
      go_simp
      have hK2 := hK undef _ ⟨hRw, Below.refl _ _, fun h => by cases h⟩
      exact hK2
     | false =>
      simp only [e24 rfl] at hK ⊢
      go_simp
      have hK2 := hK _ _ ⟨hRw, Below.refl _ _, fun _ => rfl⟩
      exact hK2
    case s26 =>
     obtain ⟨e19, e25, e13, _⟩ := hd
     simp only [e13] at hK ⊢
     cases kn with
     | true =>
      go_simp
      have hK2 := hK undef _ ⟨hRw, Below.refl _ _, fun h => by cases h⟩
      exact hK2
     | false =>
      simp only [e19 rfl, e25 rfl] at hK ⊢
      go_simp
      refine (c8.out w' hRw).mono ?_
      rintro e' w9 ⟨rfl, hB9⟩
      have hK2 := hK _ _ ⟨bthen hRw hB9, hB9, fun _ => rfl⟩
      exact hK2
    case s27 =>
     obtain ⟨e26, e13, _⟩ := hd
     simp only [e13] at hK ⊢
     cases kn with
     | true =>
      go_simp
      have hK2 := hK undef _ ⟨hRw, Below.refl _ _, fun h => by cases h⟩
      exact hK2
     | false =>
      simp only [e26 rfl] at hK ⊢
      go_simp
      have hK2 := hK _ _ ⟨hRw, Below.refl _ _, fun _ => rfl⟩
      exact hK2
   ·obtain rfl : k = m := by omega
    have hT : E = true := by
     rw [hal2.out, List.all_eq_true]; intro j hj; exact hP j (List.mem_range.1 hj)
    subst hT
    have hbw : Below w.heap.size w wr := bthen hb2.out hB
    refine h3_ hbw hB hP ?_; clear hbw hB hP; intro hbw hB hP
    go_wp2
    go_ret
    exact ⟨rfl, hbw.out⟩
 ·have hF := hne.out hmm
  subst hF
  have qm : ((m : Int) == (m' : Int)) = false := by rw [beq_eq_false_iff_ne]; omega
  have qm2 : ((m : Int) != (m' : Int)) = true := by rw [bne, qm]; rfl
  clear hall
  replace hmm := hi_ hmm
  go_wp2
  go_ret
  exact ⟨rfl, hb2.out⟩
end Go.Proofs.YthffpbkndnhlfaaGreatDoor

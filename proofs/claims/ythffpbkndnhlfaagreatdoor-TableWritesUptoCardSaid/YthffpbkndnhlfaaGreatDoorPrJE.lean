/- Walks and laws, joined: part E. No condition. -/
import Derived.Test.YthffpbkndnhlfaaGreatDoorPrJD
import Derived.Maps.AppendAt
import Derived.Test.YthffpbkndnhlfaaGreatDoorPrJA
import Derived.Deep.QuietTactic
import Derived.BigQuiet
import Derived.IntWalk
set_option linter.unusedSimpArgs false
set_option linter.unusedVariables false
/- Rows in memory; rows of the document's kind as the program's. No condition. -/
namespace Go.Proofs.YthffpbkndnhlfaaGreatDoor
open Go Go.RowKit Go.Wk
def RowsAt (w : World) (A : Option Addr) (l : List R4) : Prop := l.length ≤ maxLen ∧ (0 < l.length → ∃ b o, A = some ⟨b, o, none⟩ ∧ ∀ i (hi : i < l.length) j u, (rv l[i])[j]? = some u → w.cell? ⟨b, o + i * 4 + j, none⟩ = some u)
theorem RowsAt.below {w w' : World} {A : Option Addr} {l : List R4} (h : RowsAt w A l) (hb : Below w.heap.size w w') : RowsAt w' A l := by
 refine ⟨h.1, fun h0 => ?_⟩
 obtain ⟨b, o, rfl, hc⟩ := h.2 h0
 exact ⟨b, o, rfl, fun i hi j u hu => (hb.cell (cell_lt (hc i hi j u hu))).trans (hc i hi j u hu)⟩
def OwnR (e : TypeId) (B : Nat) (w : World) (v : Value) (l : List R4) : Prop := w.ownsRow B e 4 v l.length (l.map rv).flatten
theorem rv_len (r : R4) : (rv r).length = 4 := rfl
theorem flat4_at : ∀ (l : List R4) (i : Nat) (hi : i < l.length) (j : Nat) (u : Value), (rv l[i])[j]? = some u → (l.map rv).flatten[i * 4 + j]? = some u
 | [], i, hi, j, u, h => by simp at hi
 | x :: l, 0, hi, j, u, h => by
  have hj : j < 4 := (List.getElem?_eq_some_iff.1 h).1
  simp only [List.map_cons, List.flatten_cons, Nat.zero_mul, Nat.zero_add]
  rw [List.getElem?_append_left (by rw [rv_len]; exact hj)]; exact h
 | x :: l, i + 1, hi, j, u, h => by
  have := flat4_at l i (by simpa using hi) j u h
  simp only [List.map_cons, List.flatten_cons]
  rw [List.getElem?_append_right (by rw [rv_len]; omega), rv_len, show (i + 1) * 4 + j - 4 = i * 4 + j by omega]; exact this
theorem OwnR.nil (e : TypeId) (B : Nat) (w : World) : OwnR e B w (.slice none 0 0) [] := World.ownsRow_nil _ _ _ _
theorem OwnR.below {e : TypeId} {B : Nat} {w w' : World} {v : Value} {l : List R4} (h : OwnR e B w v l) (hb : Below w.heap.size w w') : OwnR e B w' v l := own_far h fun b _ hb' => hb.block b hb'
theorem OwnR.out {e : TypeId} {B : Nat} {w : World} {v : Value} {l : List R4} (h : OwnR e B w v l) (hl : l.length ≤ maxLen) : ∃ A c, v = .slice A l.length c ∧ RowsAt w A l := by
 rcases h.2 with ⟨rfl, hn⟩ | ⟨g, cap, cur, rfl, hB, hh, hnc, hcm, hcs, htk⟩
 ·exact ⟨none, 0, by rw [hn], hl, fun h0 => by omega⟩
 ·refine ⟨_, cap, rfl, hl, fun h0 => ⟨g, 0, rfl, fun i hi j u hu => ?_⟩⟩
  have h1 := flat4_at l i hi j u hu
  have hj : j < 4 := (List.getElem?_eq_some_iff.1 hu).1
  have := World.ownsRow.cells (w := w) (base := B) (e := e) (size := 4) (v := .slice (some ⟨g, 0, none⟩) l.length cap) (n := l.length) (xs := (l.map rv).flatten) h (g := g) rfl (i * 4 + j) u h1
  rw [addr_add] at this
  rw [← Nat.add_assoc] at this
  exact this
structure RT (t e : TypeId) : Prop where
 u : Tryz.prog.underlying t = some (.slice e)
 i : ∃ i, Tryz.prog.info? e = some i ∧ i.zero = some (.agg #[.int .i64 0, .int .i64 0, .int .i64 0, .int .i64 0]) ∧ i.size = 4 ∧ i.bytes = 32
theorem rt28 : RT 28 64 := ⟨Tryz.underlying28, Tryz.t64, by kernel_rfl, by kernel_rfl, by kernel_rfl, by kernel_rfl⟩
theorem rt38 : RT 38 70 := ⟨Tryz.underlying38, Tryz.t70, by kernel_rfl, by kernel_rfl, by kernel_rfl, by kernel_rfl⟩
theorem rv_one (r : R4) : ∀ u ∈ rv r, u.oneCell' = true := by
 intro u hu
 simp only [rv, List.mem_cons, List.not_mem_nil, or_false] at hu
 rcases hu with rfl | rfl | rfl | rfl <;> rfl
theorem app_r {t e : TypeId} (T : RT t e) {w : World} {ops : Array Oper} {rest : List Oper} {o : Oper} {a : Act} {Q : Exit → Act → World → Prop} (hgd : o.guard = none) (s x : Operand)
 (ho : o.op = .call { callee := .builtin .append, args := #[s, x], argTypes := #[t, t] }) (B : Nat) (v : Value) (l : List R4) (hs : a.eval s = v) (hR : OwnR e B w v l)
 (g : Nat) (r : R4) (hx : a.eval x = .slice (some ⟨g, 0, none⟩) 1 1) (hc : ∀ j u, (rv r)[j]? = some u → w.cell? ⟨g, j, none⟩ = some u) (hl : l.length ≤ 1000000000) (hB : B ≤ w.heap.size)
 (h : ∀ v' w', OwnR e B w' v' (l ++ [r]) → w.grownBy w' v.ownBlock → (v'.ownBlock = v.ownBlock ∨ v'.ownBlock = some w.heap.size) → wpList Tryz.prog ops Q rest (a.put o.dst v') w') : wpList Tryz.prog ops Q (o :: rest) a w := by
 obtain ⟨i0, hi0, hz0, hz1, hz2⟩ := T.i
 refine wpList_append_own_at w hgd s x t ho B e i0 _ 4 32 T.u hi0 hz0 hz1 hz2 rfl (by decide) v l.length (l.map rv).flatten hs hR ⟨g, 0, none⟩ 1 1 (rv r) hx rfl ?_ (rv_one r) (by unfold maxLen; omega) (by omega) hB ?_
 ·intro j u hu; rw [addr_add, Nat.zero_add]; exact hc j u hu
 ·intro v' w' h1 h2 _ h3
  refine h v' w' ?_ h2 h3
  unfold OwnR
  rw [List.length_append, List.map_append, List.flatten_append]
  simpa using h1
def G17 (A : Value) (b off : Nat) (i : Int) (v0 : Value) (rn rk ra rg : Int) : Nat → Value → World → Prop := fun j v w => match j with
 | 0 => v = v0
 | 1 | 6 | 11 | 16 => v = A
 | 2 | 7 | 12 | 17 => v = .int .i64 i
 | 3 | 8 | 13 | 18 | 4 => v = .pointer (some ⟨b, off, none⟩)
 | 9 => v = .pointer (some ⟨b, off + 1, none⟩)
 | 14 => v = .pointer (some ⟨b, off + 2, none⟩)
 | 19 => v = .pointer (some ⟨b, off + 3, none⟩)
 | 5 => v = .int .i64 rn
 | 10 => v = .int .i64 rk
 | 15 => v = .int .i64 ra
 | 20 => v = .int .i64 rg
 | 21 => v = .agg #[.int .i64 rn, .int .i64 rk, .int .i64 ra, .int .i64 rg]
 | _ => ∃ g, v = .slice (some ⟨g, 0, none⟩) 1 1 ∧ w.cell? ⟨g, 0, none⟩ = some (.int .i64 rn) ∧ w.cell? ⟨g, 1, none⟩ = some (.int .i64 rk) ∧ w.cell? ⟨g, 2, none⟩ = some (.int .i64 ra) ∧ w.cell? ⟨g, 3, none⟩ = some (.int .i64 rg)
theorem G17_mono {A : Value} {b off : Nat} {i : Int} {v0 : Value} {rn rk ra rg : Int} (j : Nat) (v : Value) (w w' : World) (hG : G17 A b off i v0 rn rk ra rg j v w) (hk : Below w.heap.size w w') : G17 A b off i v0 rn rk ra rg j v w' := by
 unfold G17 at hG ⊢
 split at hG <;> first
  | exact hG
  | (obtain ⟨g, e, hc⟩ := hG; exact ⟨g, e, four_kept hc hk⟩)
set_option maxHeartbeats 8000000 in
set_option maxRecDepth 100000 in
theorem law_Rows (A : Option Addr) (c : Nat) (l : List R4) (w : World) (h : RowsAt w A l) (hl : l.length ≤ 1000000) : Calls Tryz.prog 17 #[.slice A l.length c] w fun e w' => ∃ v, e = .returned v ∧ OwnR 64 w.heap.size w' v l ∧ Below w.heap.size w w' := by
 obtain ⟨m, hm⟩ : ∃ m, m = l.length := ⟨_, rfl⟩
 rw [← hm] at hl ⊢
 replace hm := hi_ hm
 replace h := hi_ h
 go_enter Tryz.func17, Tryz.ntmps17
 go_wp2
 go_loopw [3, 4] (fun s3 s4 wr => ∃ k : Nat, k ≤ m ∧ s4 = .int .i64 k ∧ OwnR 64 w.heap.size wr s3 (l.take k) ∧ Below w.heap.size w wr) (fun _ s4 _ => m - (RowKit.intOf s4).toNat)
 case atStart => exact ⟨0, by omega, rfl, OwnR.nil _ _ _, Below.refl _ _⟩
 case round =>
  rename_i u3 u4 wr
  obtain ⟨k, hk, rfl, hO, hB⟩ := hrel
  have lB := hB.size
  by_cases hkm : k < m
  ·have hkl : k < l.length := by rw [← hm.out]; exact hkm
   obtain ⟨b, o, rfl, hc⟩ := h.out.2 (by omega)
   have hc4 := hc k hkl
   obtain ⟨r, hr⟩ : ∃ r, r = l[k] := ⟨_, rfl⟩
   rw [← hr] at hc4
   have hT : l.take (k + 1) = l.take k ++ [r] := by rw [List.take_succ_eq_append_getElem hkl, hr]
   have hlen : (l.take k).length ≤ 1000000000 := by rw [List.length_take]; omega
   obtain ⟨rn, rk, ra, rg⟩ := r
   obtain ⟨P, hP⟩ : ∃ P, P = o + k * 4 := ⟨_, rfl⟩
   rw [← hP] at hc4
   have x0 : wr.cell? ⟨b, P, none⟩ = some (.int .i64 rn) := by have h9 := hc4 0 _ rfl; exact (hB.cell (cell_lt h9)).trans h9
   have x1 : wr.cell? ⟨b, P + 1, none⟩ = some (.int .i64 rk) := by have h9 := hc4 1 _ rfl; exact (hB.cell (cell_lt h9)).trans h9
   have x2 : wr.cell? ⟨b, P + 2, none⟩ = some (.int .i64 ra) := by have h9 := hc4 2 _ rfl; exact (hB.cell (cell_lt h9)).trans h9
   have x3 : wr.cell? ⟨b, P + 3, none⟩ = some (.int .i64 rg) := by have h9 := hc4 3 _ rfl; exact (hB.cell (cell_lt h9)).trans h9
   clear hc hc4 hr
   replace hT := hi_ hT
   replace hlen := hi_ hlen
   replace hO := hi_ hO
   replace hB := hi_ hB
   have hP2 : o + k * 4 = P := hP.symm
   replace hP := hi_ hP
   go_upto_region 5 with (fail)
   refine wp_lin_tail (by kernel_rfl) [none, none, none, none, none, none, none, none, none, none, none, some 0, some 1, some 2, some 3, some 4, some 5, some 6, some 7, some 8, some 9, some 10, some 11, some 12, some 13, some 14, some 15, some 16, some 17, some 18, some 19, some 20, some 21, some 22, none, none] (fun w' => Below wr.heap.size wr w') (fun w' w'' => Below w'.heap.size w' w'') (G17 (.slice (some ⟨b, o, none⟩) m c) b P k u3 rn rk ra rg) (by rfl) (by kernel_rfl) 23 _ rfl (by decide) (by kernel_rfl) [23, 3, 3, 4, 5, 21, 8, 8, 9, 10, 21, 13, 13, 14, 15, 21, 18, 18, 19, 20, 21, 22, 23, 0] (by kernel_rfl) ?hR ?mono (.cons 22 (step_of [21] rfl (by kernel_rfl) ?s22) (.cons 21 (step_of [5, 10, 15, 20] rfl (by kernel_rfl) ?s21) (.cons 20 (step_of [19] rfl (by kernel_rfl) ?s20) (.cons 19 (step_of [18] rfl (by kernel_rfl) ?s19) (.cons 18 (step_of [16, 17] rfl (by kernel_rfl) ?s18) (.cons 17 (step_of [] rfl (by kernel_rfl) ?s17) (.cons 16 (step_of [] rfl (by kernel_rfl) ?s16) (.cons 15 (step_of [14] rfl (by kernel_rfl) ?s15) (.cons 14 (step_of [13] rfl (by kernel_rfl) ?s14) (.cons 13 (step_of [11, 12] rfl (by kernel_rfl) ?s13) (.cons 12 (step_of [] rfl (by kernel_rfl) ?s12) (.cons 11 (step_of [] rfl (by kernel_rfl) ?s11) (.cons 10 (step_of [9] rfl (by kernel_rfl) ?s10) (.cons 9 (step_of [8] rfl (by kernel_rfl) ?s9) (.cons 8 (step_of [6, 7] rfl (by kernel_rfl) ?s8) (.cons 7 (step_of [] rfl (by kernel_rfl) ?s7) (.cons 6 (step_of [] rfl (by kernel_rfl) ?s6) (.cons 5 (step_of [4] rfl (by kernel_rfl) ?s5) (.cons 4 (step_of [3] rfl (by kernel_rfl) ?s4) (.cons 3 (step_of [1, 2] rfl (by kernel_rfl) ?s3) (.cons 2 (step_of [] rfl (by kernel_rfl) ?s2) (.cons 1 (step_of [] rfl (by kernel_rfl) ?s1) (.cons 0 (step_of [] rfl (by kernel_rfl) ?s0) (.nil)))))))))))))))))))))))) ?done
   case hR => exact (Below.refl _ _).drew
   case mono => exact G17_mono
   case s0 =>
    intro x w' hRw hd K' hK
    simp only [All, G17] at hd
    simp +decide only [upd, G17, fillL, if_true, if_false] at hK ⊢
    go_simp
    have hK2 := hK _ _ ⟨hRw, Below.refl _ _, rfl⟩
    exact hK2
   case s1 =>
    intro x w' hRw hd K' hK
    simp only [All, G17] at hd
    simp +decide only [upd, G17, fillL, if_true, if_false] at hK ⊢
    go_simp
    have hK2 := hK _ _ ⟨hRw, Below.refl _ _, rfl⟩
    exact hK2
   case s2 =>
    intro x w' hRw hd K' hK
    simp only [All, G17] at hd
    simp +decide only [upd, G17, fillL, if_true, if_false] at hK ⊢
    go_simp
    have hK2 := hK _ _ ⟨hRw, Below.refl _ _, rfl⟩
    exact hK2
   case s3 =>
    intro x w' hRw hd K' hK
    simp only [All, G17] at hd
    obtain ⟨e1, e2, _⟩ := hd
    simp +decide only [upd, G17, fillL, if_true, if_false] at hK ⊢
    simp only [e1, e2] at hK ⊢
    go_simp
    have hK2 := hK _ _ ⟨hRw, Below.refl _ _, rfl⟩
    exact hK2
   case s4 =>
    intro x w' hRw hd K' hK
    simp only [All, G17] at hd
    obtain ⟨e3, _⟩ := hd
    simp +decide only [upd, G17, fillL, if_true, if_false] at hK ⊢
    simp only [e3] at hK ⊢
    go_simp
    have hK2 := hK _ _ ⟨hRw, Below.refl _ _, rfl⟩
    exact hK2
   case s5 =>
    intro x w' hRw hd K' hK
    simp only [All, G17] at hd
    obtain ⟨e4, _⟩ := hd
    have tx0 := (hRw.cell (cell_lt x0)).trans x0
    simp +decide only [upd, G17, fillL, if_true, if_false] at hK ⊢
    simp only [e4] at hK ⊢
    go_simp
    have hK2 := hK _ _ ⟨hRw, Below.refl _ _, rfl⟩
    exact hK2
   case s6 =>
    intro x w' hRw hd K' hK
    simp only [All, G17] at hd
    simp +decide only [upd, G17, fillL, if_true, if_false] at hK ⊢
    go_simp
    have hK2 := hK _ _ ⟨hRw, Below.refl _ _, rfl⟩
    exact hK2
   case s7 =>
    intro x w' hRw hd K' hK
    simp only [All, G17] at hd
    simp +decide only [upd, G17, fillL, if_true, if_false] at hK ⊢
    go_simp
    have hK2 := hK _ _ ⟨hRw, Below.refl _ _, rfl⟩
    exact hK2
   case s8 =>
    intro x w' hRw hd K' hK
    simp only [All, G17] at hd
    obtain ⟨e6, e7, _⟩ := hd
    simp +decide only [upd, G17, fillL, if_true, if_false] at hK ⊢
    simp only [e6, e7] at hK ⊢
    go_simp
    have hK2 := hK _ _ ⟨hRw, Below.refl _ _, rfl⟩
    exact hK2
   case s9 =>
    intro x w' hRw hd K' hK
    simp only [All, G17] at hd
    obtain ⟨e8, _⟩ := hd
    simp +decide only [upd, G17, fillL, if_true, if_false] at hK ⊢
    simp only [e8] at hK ⊢
    go_simp
    have hK2 := hK _ _ ⟨hRw, Below.refl _ _, rfl⟩
    exact hK2
   case s10 =>
    intro x w' hRw hd K' hK
    simp only [All, G17] at hd
    obtain ⟨e9, _⟩ := hd
    have tx1 := (hRw.cell (cell_lt x1)).trans x1
    simp +decide only [upd, G17, fillL, if_true, if_false] at hK ⊢
    simp only [e9] at hK ⊢
    go_simp
    have hK2 := hK _ _ ⟨hRw, Below.refl _ _, rfl⟩
    exact hK2
   case s11 =>
    intro x w' hRw hd K' hK
    simp only [All, G17] at hd
    simp +decide only [upd, G17, fillL, if_true, if_false] at hK ⊢
    go_simp
    have hK2 := hK _ _ ⟨hRw, Below.refl _ _, rfl⟩
    exact hK2
   case s12 =>
    intro x w' hRw hd K' hK
    simp only [All, G17] at hd
    simp +decide only [upd, G17, fillL, if_true, if_false] at hK ⊢
    go_simp
    have hK2 := hK _ _ ⟨hRw, Below.refl _ _, rfl⟩
    exact hK2
   case s13 =>
    intro x w' hRw hd K' hK
    simp only [All, G17] at hd
    obtain ⟨e11, e12, _⟩ := hd
    simp +decide only [upd, G17, fillL, if_true, if_false] at hK ⊢
    simp only [e11, e12] at hK ⊢
    go_simp
    have hK2 := hK _ _ ⟨hRw, Below.refl _ _, rfl⟩
    exact hK2
   case s14 =>
    intro x w' hRw hd K' hK
    simp only [All, G17] at hd
    obtain ⟨e13, _⟩ := hd
    simp +decide only [upd, G17, fillL, if_true, if_false] at hK ⊢
    simp only [e13] at hK ⊢
    go_simp
    have hK2 := hK _ _ ⟨hRw, Below.refl _ _, rfl⟩
    exact hK2
   case s15 =>
    intro x w' hRw hd K' hK
    simp only [All, G17] at hd
    obtain ⟨e14, _⟩ := hd
    have tx2 := (hRw.cell (cell_lt x2)).trans x2
    simp +decide only [upd, G17, fillL, if_true, if_false] at hK ⊢
    simp only [e14] at hK ⊢
    go_simp
    have hK2 := hK _ _ ⟨hRw, Below.refl _ _, rfl⟩
    exact hK2
   case s16 =>
    intro x w' hRw hd K' hK
    simp only [All, G17] at hd
    simp +decide only [upd, G17, fillL, if_true, if_false] at hK ⊢
    go_simp
    have hK2 := hK _ _ ⟨hRw, Below.refl _ _, rfl⟩
    exact hK2
   case s17 =>
    intro x w' hRw hd K' hK
    simp only [All, G17] at hd
    simp +decide only [upd, G17, fillL, if_true, if_false] at hK ⊢
    go_simp
    have hK2 := hK _ _ ⟨hRw, Below.refl _ _, rfl⟩
    exact hK2
   case s18 =>
    intro x w' hRw hd K' hK
    simp only [All, G17] at hd
    obtain ⟨e16, e17, _⟩ := hd
    simp +decide only [upd, G17, fillL, if_true, if_false] at hK ⊢
    simp only [e16, e17] at hK ⊢
    go_simp
    have hK2 := hK _ _ ⟨hRw, Below.refl _ _, rfl⟩
    exact hK2
   case s19 =>
    intro x w' hRw hd K' hK
    simp only [All, G17] at hd
    obtain ⟨e18, _⟩ := hd
    simp +decide only [upd, G17, fillL, if_true, if_false] at hK ⊢
    simp only [e18] at hK ⊢
    go_simp
    have hK2 := hK _ _ ⟨hRw, Below.refl _ _, rfl⟩
    exact hK2
   case s20 =>
    intro x w' hRw hd K' hK
    simp only [All, G17] at hd
    obtain ⟨e19, _⟩ := hd
    have tx3 := (hRw.cell (cell_lt x3)).trans x3
    simp +decide only [upd, G17, fillL, if_true, if_false] at hK ⊢
    simp only [e19] at hK ⊢
    go_simp
    have hK2 := hK _ _ ⟨hRw, Below.refl _ _, rfl⟩
    exact hK2
   case s21 =>
    intro x w' hRw hd K' hK
    simp only [All, G17] at hd
    obtain ⟨e5, e10, e15, e20, _⟩ := hd
    simp +decide only [upd, G17, fillL, if_true, if_false] at hK ⊢
    simp only [e5, e10, e15, e20] at hK ⊢
    go_simp
    have hK2 := hK _ _ ⟨hRw, Below.refl _ _, rfl⟩
    exact hK2
   case s22 =>
    intro x w' hRw hd K' hK
    simp only [All, G17] at hd
    obtain ⟨e21, _⟩ := hd
    simp +decide only [upd, G17, fillL, if_true, if_false] at hK ⊢
    simp only [e21] at hK ⊢
    have al : Below w'.heap.size w' (w'.alloc (.cells #[.int .i64 rn, .int .i64 rk, .int .i64 ra, .int .i64 rg] 64)) := (Below.refl _ _).alloc (Nat.le_refl _) _
    go_simp
    have hK2 := hK _ _ ⟨bthen hRw al, al, w'.heap.size, rfl, four_cells rfl⟩
    exact hK2
   case done =>
    intro x w6 hR2 hG fr hfr
    have a0 := hG 0 (by omega)
    have a22 := hG 22 (by omega)
    simp only [G17] at a0 a22
    clear hG
    obtain ⟨g, a22, hg⟩ := a22
    simp only [fillL] at hfr
    rw [a0, a22] at hfr
    subst hfr
    clear x0 x1 x2 x3
    have hO6 := hO.out.below hR2
    have z6 := hR2.size
    have hD6 := bthen hB.out hR2
    refine app_r rt28 rfl _ _ rfl w.heap.size u3 (l.take k) rfl hO6 g ⟨rn, rk, ra, rg⟩ rfl (fun j u hu => ?_) hlen.out (by omega) ?_
    ·match j with
     | 0 => rw [← hu]; exact hg.1
     | 1 => rw [← hu]; exact hg.2.1
     | 2 => rw [← hu]; exact hg.2.2.1
     | 3 => rw [← hu]; exact hg.2.2.2
     | j + 4 => cases hu
    intro v7 w7 hO7 hg7 hat7
    have hD7 : Below w.heap.size w w7 := hD6.grown hg7 (by omega) (fun q hq => (World.ownsRow.lt hO6 q hq).1)
    replace hO7 := hi_ hO7
    replace hD7 := hi_ hD7
    clear hO6 hg hg7 hat7 hR2 hD6
    go_wp2
    go_roundw
    case rel => exact ⟨k + 1, by omega, by go_num, by rw [hT.out]; exact hO7.out, hD7.out⟩
    case measure => simp [RowKit.intOf]; omega
  ·obtain rfl : k = m := by omega
   have hT : l.take k = l := by rw [hm.out, List.take_length]
   rw [hT] at hO
   replace hO := hi_ hO
   replace hB := hi_ hB
   replace hT := hi_ hT
   go_wp2
   go_ret
   exact ⟨_, rfl, hO.out, hB.out⟩

/- Rows of rows in memory, that grow at their end. No condition. -/
theorem set_grown (w : World) (g i : Nat) (v : Value) : w.grownBy (w.setCell ⟨g, i, none⟩ v) (some g) :=
 ⟨rfl, rfl, rfl, by simp [World.setCell], fun k _ hk => Below.heap_setCell _ _ _ _ (fun e => hk (by rw [e]))⟩
structure PG (e er : TypeId) (B : Nat) (w : World) (v : Value) (ps : List (List R4)) (hs : List Value) : Prop where
 len : hs.length = ps.length
 row : w.ownsRow B e 1 v ps.length hs
 it : ∀ i (h : i < ps.length), OwnR er B w (hs.getD i undef) ps[i]
 apart : ∀ i j, i < j → j < ps.length → (hs.getD i undef).ownBlock = none ∨ (hs.getD i undef).ownBlock ≠ (hs.getD j undef).ownBlock
 off : ∀ i, i < ps.length → (hs.getD i undef).ownBlock = none ∨ (hs.getD i undef).ownBlock ≠ v.ownBlock
theorem PG.nil (e er : TypeId) (B : Nat) (w : World) : PG e er B w (.slice none 0 0) [] [] :=
 ⟨rfl, World.ownsRow_nil _ _ _ _, fun i h => by simp at h, fun i j _ h => by simp at h, fun i h => by simp at h⟩
theorem PG.below {e er : TypeId} {B : Nat} {w w' : World} {v : Value} {ps : List (List R4)} {hs : List Value} (h : PG e er B w v ps hs) (hb : Below w.heap.size w w') : PG e er B w' v ps hs :=
 ⟨h.len, own_far h.row fun b _ hb' => hb.block b hb', fun i hi => (h.it i hi).below hb, h.apart, h.off⟩
theorem own_lt {e : TypeId} {B : Nat} {w : World} {v : Value} {l : List R4} (h : OwnR e B w v l) {g : Nat} (hg : v.ownBlock = some g) : B ≤ g ∧ g < w.heap.size := World.ownsRow.lt h g hg
theorem getD_snoc_lt (hs : List Value) (x : Value) (i : Nat) (h : i < hs.length) : (hs ++ [x]).getD i undef = hs.getD i undef := by
 rw [List.getD_eq_getElem?_getD, List.getD_eq_getElem?_getD, List.getElem?_append_left h]
theorem getD_snoc_eq (hs : List Value) (x : Value) (i : Nat) (h : i = hs.length) : (hs ++ [x]).getD i undef = x := by
 subst h; rw [List.getD_eq_getElem?_getD]; simp
theorem PG.more {e er : TypeId} {B : Nat} {w w' : World} {v v' : Value} {ps : List (List R4)} {hs : List Value} (h : PG e er B w v ps hs) (hrow : w'.ownsRow B e 1 v' (ps.length + 1) (hs ++ [.slice none 0 0])) (hg : w.grownBy w' v.ownBlock) (hat : v'.ownBlock = v.ownBlock ∨ v'.ownBlock = some w.heap.size) :
 PG e er B w' v' (ps ++ [[]]) (hs ++ [.slice none 0 0]) := by
 have hl := h.len
 refine ⟨by simp [hl], by simpa using hrow, fun i hi => ?_, fun i j hij hj => ?_, fun i hi => ?_⟩
 ·rw [List.length_append] at hi
  simp only [List.length_cons, List.length_nil] at hi
  by_cases hil : i < ps.length
  ·rw [getD_snoc_lt _ _ _ (by omega), List.getElem_append_left hil]
   exact (h.it i hil).kept hg (h.off i hil)
  ·rw [getD_snoc_eq _ _ _ (by omega)]
   have : (ps ++ [[]])[i] = [] := by rw [List.getElem_append_right (by omega)]; simp
   rw [this]; exact OwnR.nil _ _ _
 ·rw [List.length_append] at hj
  simp only [List.length_cons, List.length_nil] at hj
  by_cases hjl : j < ps.length
  ·rw [getD_snoc_lt _ _ _ (by omega), getD_snoc_lt _ _ _ (by omega)]; exact h.apart i j hij hjl
  ·rw [getD_snoc_lt _ _ i (by omega), getD_snoc_eq _ _ j (by omega)]
   cases hq : (hs.getD i undef).ownBlock with
   | none => exact .inl rfl
   | some g => exact .inr (by simp [Value.ownBlock])
 ·rw [List.length_append] at hi
  simp only [List.length_cons, List.length_nil] at hi
  by_cases hil : i < ps.length
  ·rw [getD_snoc_lt _ _ _ (by omega)]
   cases hq : (hs.getD i undef).ownBlock with
   | none => exact .inl rfl
   | some g =>
    refine .inr fun e' => ?_
    rcases hat with h9 | h9
    ·rcases h.off i hil with h8 | h8
     ·rw [hq] at h8; cases h8
     ·exact h8 (hq.trans (e'.trans h9))
    ·have := (own_lt (h.it i hil) hq).2
     rw [h9] at e'; injection e' with e'; omega
  ·rw [getD_snoc_eq _ _ _ (by omega)]; exact .inl rfl
theorem PG.last {e er : TypeId} {B : Nat} {w : World} {v : Value} {ps : List (List R4)} {p : List R4} {hs : List Value} (h : PG e er B w v (ps ++ [p]) hs) :
 ∃ hs0 hl g cap, hs = hs0 ++ [hl] ∧ hs0.length = ps.length ∧ v = .slice (some ⟨g, 0, none⟩) (ps.length + 1) cap ∧ w.cell? ⟨g, ps.length, none⟩ = some hl ∧ w.frozen? ⟨g, ps.length, none⟩ = false ∧ OwnR er B w hl p ∧ B ≤ g ∧ g < w.heap.size := by
 have hl := h.len
 rw [List.length_append] at hl
 simp only [List.length_cons, List.length_nil] at hl
 obtain ⟨hs0, x, rfl⟩ : ∃ hs0 x, hs = hs0 ++ [x] := by
  rcases List.eq_nil_or_concat hs with rfl | ⟨a, b, rfl⟩
  ·simp at hl
  ·exact ⟨a, b, by simp⟩
 have h0 : hs0.length = ps.length := by simpa using hl
 have hit := h.it ps.length (by simp)
 rw [getD_snoc_eq _ _ _ h0.symm] at hit
 have e1 : (ps ++ [p])[ps.length]'(by simp) = p := by simp
 rw [e1] at hit
 rcases h.row.2 with ⟨_, hn⟩ | ⟨g, cap, cur, hv, hB, hh, hnc, hcm, hcs, htk⟩
 ·simp at hn
 ·rw [List.length_append] at hv hnc htk
  simp only [List.length_cons, List.length_nil, Nat.mul_one] at hv hnc htk hcs
  have hcell : w.cell? ⟨g, ps.length, none⟩ = some x := by
   rw [cell_of_row w g ps.length cur e (0, 0) hh]
   have h5 : (cur.toList.take (ps.length + 1))[ps.length]? = some x := by rw [htk, ← h0]; simp
   rw [List.getElem?_take, if_pos (by omega)] at h5
   simpa using h5
  refine ⟨hs0, x, g, cap, rfl, h0, hv, hcell, ?_, hit, hB, (Array.getElem?_eq_some_iff.1 hh).1⟩
  simp [World.frozen?, hh]
theorem PG.put {e er : TypeId} {B : Nat} {w w' w2 : World} {ps : List (List R4)} {p p' : List R4} {hs0 : List Value} {hl h' : Value} {g cap n : Nat} (h : PG e er B w (.slice (some ⟨g, 0, none⟩) n cap) (ps ++ [p]) (hs0 ++ [hl])) (h1 : h'.oneCell' = true)
 (hg : w.grownBy w' hl.ownBlock) (hO : OwnR er B w' h' p') (hat : h'.ownBlock = hl.ownBlock ∨ h'.ownBlock = some w.heap.size) (hw : w2 = w'.setCell ⟨g, ps.length, none⟩ h') :
 PG e er B w2 (.slice (some ⟨g, 0, none⟩) n cap) (ps ++ [p']) (hs0 ++ [h']) := by
 have hlen : hs0.length = ps.length := by have := h.len; simpa using this
 have hps : ps.length < (ps ++ [p]).length := by simp
 have hgl : g < w.heap.size := (World.ownsRow.lt h.row g rfl).2
 have hng : hl.ownBlock = none ∨ hl.ownBlock ≠ some g := by
  have := h.off ps.length hps
  rw [getD_snoc_eq _ _ _ hlen.symm] at this; exact this
 have hng' : h'.ownBlock ≠ some g := fun e' => by
  rcases hat with h9 | h9
  ·rw [h9] at e'; rcases hng with h8 | h8
   ·rw [h8] at e'; cases e'
   ·exact h8 e'
  ·rw [h9] at e'; injection e' with e'; omega
 have hset : w'.grownBy w2 (some g) := by rw [hw]; exact set_grown w' g ps.length h'
 have keepO : ∀ {x : Value} {l : List R4}, OwnR er B w' x l → x.ownBlock ≠ some g → OwnR er B w2 x l := fun {x l} hx hne => World.ownsRow.kept hx hset (.inr hne)
 have hO2 := keepO hO hng'
 have hothers : ∀ i, i < ps.length → OwnR er B w2 (hs0.getD i undef) (ps[i]!) ∧ True := fun i hi => by
  have h3 := h.it i (by simp; omega)
  rw [getD_snoc_lt _ _ _ (by omega), List.getElem_append_left hi] at h3
  have h4 : (hs0.getD i undef).ownBlock = none ∨ (hs0.getD i undef).ownBlock ≠ hl.ownBlock := by
   have := h.apart i ps.length hi hps
   rwa [getD_snoc_lt _ _ _ (by omega), getD_snoc_eq _ _ _ hlen.symm] at this
  have h5 : (hs0.getD i undef).ownBlock = none ∨ (hs0.getD i undef).ownBlock ≠ some g := by
   have := h.off i (by simp; omega)
   rwa [getD_snoc_lt _ _ _ (by omega)] at this
  have h6 : OwnR er B w' (hs0.getD i undef) ps[i] := World.ownsRow.kept h3 hg h4
  refine ⟨?_, trivial⟩
  rw [getElem!_pos ps i hi]
  exact World.ownsRow.kept h6 hset h5
 refine ⟨by simp [hlen], ?_, fun i hi => ?_, fun i j hij hj => ?_, fun i hi => ?_⟩
 ·have hr := h.row
  rcases hr.2 with ⟨hv, _⟩ | ⟨g2, cap2, cur, hv, hB, hh, hnc, hcm, hcs, htk⟩
  ·cases hv
  ·injection hv with hv1 hv2 hv3
   injection hv1 with hv1
   injection hv1 with hv1
   subst hv1 hv3
   have hh' : w'.heap[g]? = some (.cells cur e (0, 0)) := by
    rw [hg.block g hgl (by rcases hng with h8 | h8 <;> (rw [ne_comm] <;> first | exact h8 | (rw [h8]; simp)))]; exact hh
   refine ⟨by simp [hlen], .inr ⟨g, cap, cur.setIfInBounds ps.length h', ?_, hB, ?_, by simpa using hnc, hcm, by simpa using hcs, ?_⟩⟩
   ·rw [hv2]; simp
   ·rw [hw, setCell_eq_setRow w' g ps.length cur e (0, 0) h' hh']; exact setRow_heap w' g cur _ e _ hh'
   ·have e2 : (ps ++ [p']).length * 1 = ps.length + 1 := by simp
    have e3 : (ps ++ [p]).length * 1 = ps.length + 1 := by simp
    rw [e2]
    rw [e3] at htk
    rw [Array.toList_setIfInBounds, List.take_set, htk, ← hlen, List.set_append_right _ _ (Nat.le_refl _)]
    simp
 ·rw [List.length_append] at hi
  simp only [List.length_cons, List.length_nil] at hi
  by_cases hil : i < ps.length
  ·rw [getD_snoc_lt _ _ _ (by omega), List.getElem_append_left hil]
   have := (hothers i hil).1
   rwa [getElem!_pos ps i hil] at this
  ·rw [getD_snoc_eq _ _ _ (by omega)]
   have : (ps ++ [p'])[i] = p' := by rw [List.getElem_append_right (by omega)]; simp
   rw [this]; exact hO2
 ·rw [List.length_append] at hj
  simp only [List.length_cons, List.length_nil] at hj
  by_cases hjl : j < ps.length
  ·have := h.apart i j hij (by simp; omega)
   rw [getD_snoc_lt _ _ _ (by omega), getD_snoc_lt _ _ _ (by omega)] at this ⊢; exact this
  ·have h3 := h.it i (by simp; omega)
   rw [getD_snoc_lt _ _ _ (by omega)] at h3
   have h4 : (hs0.getD i undef).ownBlock = none ∨ (hs0.getD i undef).ownBlock ≠ hl.ownBlock := by
    have := h.apart i ps.length (by omega) hps
    rwa [getD_snoc_lt _ _ _ (by omega), getD_snoc_eq _ _ _ hlen.symm] at this
   rw [getD_snoc_lt _ _ i (by omega), getD_snoc_eq _ _ j (by omega)]
   cases hq : (hs0.getD i undef).ownBlock with
   | none => exact .inl rfl
   | some g3 =>
    refine .inr fun e' => ?_
    rcases hat with h9 | h9
    ·rcases h4 with h8 | h8
     ·rw [hq] at h8; cases h8
     ·exact h8 (hq.trans (e'.trans h9))
    ·have := (own_lt h3 hq).2
     rw [h9] at e'; injection e' with e'; omega
 ·rw [List.length_append] at hi
  simp only [List.length_cons, List.length_nil] at hi
  by_cases hil : i < ps.length
  ·have := h.off i (by simp; omega)
   rw [getD_snoc_lt _ _ _ (by omega)] at this ⊢; exact this
  ·rw [getD_snoc_eq _ _ _ (by omega)]; exact .inr hng'
def PtsAt (w : World) (A : Option Addr) (ps : List (List R4)) : Prop := ps.length ≤ maxLen ∧ (0 < ps.length → ∃ b o, A = some ⟨b, o, none⟩ ∧ ∀ i (hi : i < ps.length), ∃ Ai ci, w.cell? ⟨b, o + i, none⟩ = some (.slice Ai ps[i].length ci) ∧ RowsAt w Ai ps[i])
theorem PtsAt.below {w w' : World} {A : Option Addr} {ps : List (List R4)} (h : PtsAt w A ps) (hb : Below w.heap.size w w') : PtsAt w' A ps := by
 refine ⟨h.1, fun h0 => ?_⟩
 obtain ⟨b, o, rfl, hc⟩ := h.2 h0
 refine ⟨b, o, rfl, fun i hi => ?_⟩
 obtain ⟨Ai, ci, h1, h2⟩ := hc i hi
 exact ⟨Ai, ci, (hb.cell (cell_lt h1)).trans h1, h2.below hb⟩
theorem PG.out {e er : TypeId} {B : Nat} {w : World} {v : Value} {ps : List (List R4)} {hs : List Value} (h : PG e er B w v ps hs) (hm : ps.length ≤ maxLen) (hp : ∀ p ∈ ps, p.length ≤ maxLen) : ∃ A c, v = .slice A ps.length c ∧ PtsAt w A ps := by
 rcases h.row.2 with ⟨rfl, hn⟩ | ⟨g, cap, cur, rfl, hB, hh, hnc, hcm, hcs, htk⟩
 ·exact ⟨none, 0, by rw [hn], hm, fun h0 => by omega⟩
 ·refine ⟨_, cap, rfl, hm, fun h0 => ⟨g, 0, rfl, fun i hi => ?_⟩⟩
  obtain ⟨A, c, h1, h2⟩ := (h.it i hi).out (hp _ (List.getElem_mem hi))
  refine ⟨A, c, ?_, h2⟩
  have h3 : hs[i]? = some (.slice A ps[i].length c) := by
   rw [List.getD_eq_getElem?_getD] at h1
   have hil : i < hs.length := by rw [h.len]; exact hi
   rw [List.getElem?_eq_getElem hil] at h1 ⊢
   simpa using h1
  have := World.ownsRow.cells (w := w) h.row (g := g) rfl i _ h3
  rw [addr_add] at this
  exact this
end Go.Proofs.YthffpbkndnhlfaaGreatDoor

/- A drawn region of two phases: operations that only reckon may come ahead of the one that writes, or behind it. No condition. -/
namespace Go.Wk
open Go
def AllU (G : Nat → Value → Prop) (x : Nat → Value) : List Nat → Prop
 | [] => True
 | j :: js => G j (x j) ∧ AllU G x js
theorem allU_of {G : Nat → Value → Prop} {x : Nat → Value} : ∀ {js : List Nat}, (∀ j ∈ js, G j (x j)) → AllU G x js
 | [], _ => trivial
 | _ :: _, h => ⟨h _ (List.mem_cons_self ..), allU_of fun j hj => h j (List.mem_cons_of_mem _ hj)⟩
def StepU (P : Program) (ops : Array Oper) (Q : Exit → Act → World → Prop) (mk : (Nat → Value) → Act) (GU : Nat → Value → Prop) (i : Nat) : Prop :=
 ∀ x w, (∀ j ∈ afters ops i, GU j (x j)) → wpOp P ops Q i (fun a' w' => ∃ v, a' = mk (upd x i v) ∧ w' = w ∧ GU i v) (mk x) w
theorem stepU_of {P : Program} {ops : Array Oper} {Q : Exit → Act → World → Prop} {mk : (Nat → Value) → Act} {GU : Nat → Value → Prop} {i : Nat} {o : Oper} (js : List Nat)
 (ho : ops[i]? = some o) (hj : (js.all fun j => (afters ops i).contains j) = true)
 (h : ∀ x w, AllU GU x js → ∀ K : Act → World → Prop, (∀ v, GU i v → K (mk (upd x i v)) w) →
  if Region.wanted o (yielded ops (mk x).tmps) = true then Oper.wp P o (mk x) w K Q else K ((mk x).put o.dst undef) w) : StepU P ops Q mk GU i := by
 intro x w hd
 unfold wpOp
 simp only [ho]
 have h1 := h x w (allU_of fun j hj' => hd j (List.contains_iff_mem.1 (List.all_eq_true.1 hj j hj'))) (fun a' w' => ∃ v, a' = mk (upd x i v) ∧ w' = w ∧ GU i v) (fun v h => ⟨v, rfl, rfl, h⟩)
 split
 ·rename_i hw; rw [if_pos hw] at h1; exact .inl h1
 ·rename_i hw; rw [if_neg hw] at h1; obtain ⟨v, h2, h3⟩ := h1; exact ⟨v, h2, by simp, by simpa using h3⟩
section
variable {P : Program} {ops : Array Oper} {Q : Exit → Act → World → Prop}
theorem wpAny_two (mk : (Nat → Value) → Act) {R : World → Prop} {Keeps : World → World → Prop} {Good : Nat → Value → World → Prop} {F : Value → World → Prop} {GU : Nat → Value → Prop} (U : Nat → Bool) (n last : Nat) (hnl : n < last) (hlast : last < ops.size) (l : List Oper) (hll : last + l.length = ops.size) (hl : ∀ j, l[j]? = ops[last + j]?)
 (chain : ((List.range ops.size).all fun j => Nat.ble j last || (afters ops j).contains (j - 1)) = true)
 (back : ((List.range ops.size).all fun i => (afters ops i).all fun j => decide (j < i)) = true)
 (hUn : U n = false) (hbe : ∀ i, n < i → i < last → U i = true)
 (closed : ∀ i, i < last → U i = true → ∀ j ∈ afters ops i, U j = true)
 (wit : List Nat) (cover : ∀ i, i < n → U i = false → i ∈ afters ops (wit.getD i 0) ∧ wit.getD i 0 ≤ n ∧ U (wit.getD i 0) = false)
 (wit2 : List Nat) (cover2 : ∀ i, i < last → i ∈ afters ops (wit2.getD i 0) ∧ wit2.getD i 0 ≤ last)
 (nafter : ∀ j ∈ afters ops n, U j = false ∨ True)
 (mono : ∀ i v w w', U i = false → Good i v w → Keeps w w' → Good i v w')
 (step : ∀ i, i < n → U i = false → ∀ x w, R w → (∀ j ∈ afters ops i, U j = false → Good j (x j) w) → (∀ j ∈ afters ops i, U j = true → GU j (x j)) → wpOp P ops Q i (fun a' w' => ∃ v, a' = mk (upd x i v) ∧ R w' ∧ Keeps w w' ∧ Good i v w') (mk x) w)
 (stepU : ∀ i, i < last → U i = true → StepU P ops Q mk GU i)
 (stepN : ∀ x w, R w → (∀ i, i < n → U i = false → Good i (x i) w) → (∀ j ∈ afters ops n, U j = true → GU j (x j)) → wpOp P ops Q n (fun a' w' => ∃ v, a' = mk (upd x n v) ∧ F v w') (mk x) w)
 (fin : ∀ x w, F (x n) w → (∀ i, i < last → U i = true → GU i (x i)) → wpList P ops Q l (mk x) w) :
 ∀ (fuel : Nat) (listed : Array Bool) (x : Nat → Value) (w : World), listed.toList.count false ≤ fuel → listed.size = ops.size → (∀ j, last ≤ j → j < ops.size → listed.getD j false = false) →
  (∀ i, i < ops.size → listed.getD i false = true → ∀ j ∈ afters ops i, listed.getD j false = true) → (∀ i, i < last → U i = true → listed.getD i false = true → GU i (x i)) →
  ((listed.getD n false = false ∧ R w ∧ (∀ i, i < n → U i = false → listed.getD i false = true → Good i (x i) w)) ∨ ((∀ i, i < last → U i = false → listed.getD i false = true) ∧ F (x n) w)) → wpAny P .any ops Q fuel listed (mk x) w := by
 intro fuel
 induction fuel with
 | zero =>
  intro listed x w hc hs hl0 hd hgu hph
  exact (count_none (i := last) (by omega) (hl0 last (Nat.le_refl _) hlast) hc).elim
 | succ fuel ih =>
  intro listed x w hc hs hl0 hd hgu hph
  refine ⟨fun hr => absurd (all_listed back hs hr last (by omega)) (by rw [hl0 last (Nat.le_refl _) hlast]; simp), fun i hi => ?_⟩
  have hi0 := hi
  obtain ⟨hi', h1, haft⟩ := ready_after hi
  have hd' : ∀ k, k < ops.size → (listed.setIfInBounds i true).getD k false = true → ∀ j ∈ afters ops k, (listed.setIfInBounds i true).getD j false = true := by
   intro k hk hkl j hj
   rw [getD_set _ _ _ _ (by omega)] at hkl ⊢
   by_cases hji : j = i
   ·rw [if_pos hji]
   ·rw [if_neg hji]
    by_cases hki : k = i
    ·subst hki; exact haft j hj
    ·rw [if_neg hki] at hkl; exact hd k hk hkl j hj
  have hcu := count_up (fuel := fuel) (by omega) h1 hc
  by_cases hil : i = last
  ·subst hil
   -- all others are done
   have hothers : ∀ m k, k < i → i ≤ k + m → listed.getD k false = true := by
    intro m
    induction m with
    | zero => intro k hk hm; omega
    | succ m ihm =>
     intro k hk hm
     obtain ⟨hjk, hjn⟩ := cover2 k hk
     obtain ⟨j, hjj⟩ : ∃ j, j = wit2.getD k 0 := ⟨_, rfl⟩
     rw [← hjj] at hjk hjn
     have hlt := afters_lt (n := 0) back j k (by omega) hjk
     by_cases hji : j = i
     ·subst hji; exact haft k hjk
     ·exact hd j (by omega) (ihm j (by omega) (by omega)) k hjk
   rcases hph with ⟨hn0, _⟩ | ⟨hnu, hF⟩
   ·rw [hothers i n hnl (by omega)] at hn0; cases hn0
   ·have htail := fin x w hF fun k hk hu => hgu k hk hu (hothers i k hk (by omega))
    have hiff : ∀ q, q < ops.size → (listed.getD q false = true ↔ q < i) := fun q hq => by
     constructor
     ·intro h
      rcases Nat.lt_or_ge q i with h' | h'
      ·exact h'
      ·rw [hl0 q h' hq] at h; cases h
     ·exact fun h => hothers i q h (by omega)
    have hfin := wpAny_tail (P := P) (Q := Q) i back chain l i (fuel + 1) listed (mk x) w (Nat.le_refl _) hll hl hs hc hiff htail
    exact hfin.2 i hi0
  ·have hill : i < last := by
    rcases Nat.lt_or_ge i last with h | h
    ·exact h
    ·exfalso
     have hch := List.all_eq_true.1 chain i (List.mem_range.2 hi')
     rw [Bool.or_eq_true] at hch
     rcases hch with hch | hch
     ·have := Nat.le_of_ble_eq_true hch; omega
     ·have := haft _ (List.contains_iff_mem.1 hch)
      rw [hl0 (i - 1) (by omega) (by omega)] at this; cases this
   have hl0' : ∀ j, last ≤ j → j < ops.size → (listed.setIfInBounds i true).getD j false = false := fun j hj hj2 => by rw [getD_set _ _ _ _ (by omega), if_neg (by omega)]; exact hl0 j hj hj2
   by_cases hui : U i = true
   ·refine wpOp_mono ?_ (stepU i hill hui x w fun j hj => hgu j (by have := afters_lt (n := 0) back i j hi' hj; omega) (closed i hill hui j hj) (haft j hj))
    rintro a' w' ⟨v, rfl, rfl, hg⟩
    refine ih _ _ _ hcu (by simpa using hs) hl0' hd' ?_ ?_
    ·intro j hj hju hjl
     rw [getD_set _ _ _ _ (by omega)] at hjl
     unfold upd
     by_cases hji : j = i
     ·subst hji; simpa using hg
     ·rw [if_neg hji] at hjl ⊢
      exact hgu j hj hju hjl
    ·rcases hph with ⟨hn0, hR, hG⟩ | ⟨hnu, hF⟩
     ·have hni : n ≠ i := fun e => by rw [← e, hUn] at hui; cases hui
      refine .inl ⟨by rw [getD_set _ _ _ _ (by omega), if_neg hni]; exact hn0, hR, fun j hj hju hjl => ?_⟩
      have hji : j ≠ i := fun e => by rw [e, hui] at hju; cases hju
      rw [getD_set _ _ _ _ (by omega), if_neg hji] at hjl
      unfold upd; rw [if_neg hji]; exact hG j hj hju hjl
     ·have hni : n ≠ i := fun e => by rw [← e, hUn] at hui; cases hui
      refine .inr ⟨fun j hj hju => ?_, by unfold upd; rw [if_neg hni]; exact hF⟩
      have hji : j ≠ i := fun e => by rw [e, hui] at hju; cases hju
      rw [getD_set _ _ _ _ (by omega), if_neg hji]; exact hnu j hj hju
   ·have hui : U i = false := by simpa using hui
    rcases hph with ⟨hn0, hR, hG⟩ | ⟨hnu, hF⟩
    ·have hin : i ≤ n := by
      rcases Nat.lt_or_ge n i with h | h
      ·rw [hbe i h hill] at hui; cases hui
      ·exact h
     by_cases hni : i = n
     ·subst hni
      have hothers : ∀ m k, k < i → i ≤ k + m → U k = false → listed.getD k false = true := by
       intro m
       induction m with
       | zero => intro k hk hm; omega
       | succ m ihm =>
        intro k hk hm hku
        obtain ⟨hjk, hjn, hju⟩ := cover k hk hku
        obtain ⟨j, hjj⟩ : ∃ j, j = wit.getD k 0 := ⟨_, rfl⟩
        rw [← hjj] at hjk hjn hju
        have hlt := afters_lt (n := 0) back j k (by omega) hjk
        by_cases hji : j = i
        ·subst hji; exact haft k hjk
        ·exact hd j (by omega) (ihm j (by omega) (by omega) hju) k hjk
      refine wpOp_mono ?_ (stepN x w hR (fun k hk hku => hG k hk hku (hothers i k hk (by omega) hku)) (fun j hj hju => hgu j (by have := afters_lt (n := 0) back i j hi' hj; omega) hju (haft j hj)))
      rintro a' w' ⟨v, rfl, hF⟩
      refine ih _ _ _ hcu (by simpa using hs) hl0' hd' ?_ (.inr ⟨fun j hj hju => ?_, by unfold upd; simpa using hF⟩)
      ·intro j hj hju hjl
       have hji : j ≠ i := fun e => by rw [e, hui] at hju; cases hju
       rw [getD_set _ _ _ _ (by omega), if_neg hji] at hjl
       unfold upd; rw [if_neg hji]; exact hgu j hj hju hjl
      ·rw [getD_set _ _ _ _ (by omega)]
       by_cases hji : j = i
       ·rw [if_pos hji]
       ·rw [if_neg hji]
        rcases Nat.lt_or_ge j i with h | h
        ·exact hothers i j h (by omega) hju
        ·rw [hbe j (by omega) hj] at hju; cases hju
     ·refine wpOp_mono ?_ (step i (by omega) hui x w hR (fun j hj hju => hG j (by have := afters_lt (n := 0) back i j hi' hj; omega) hju (haft j hj)) (fun j hj hju => hgu j (by have := afters_lt (n := 0) back i j hi' hj; omega) hju (haft j hj)))
      rintro a' w' ⟨v, rfl, hR', hK, hg⟩
      refine ih _ _ _ hcu (by simpa using hs) hl0' hd' ?_ (.inl ⟨by rw [getD_set _ _ _ _ (by omega), if_neg (fun e => hni e.symm)]; exact hn0, hR', fun j hj hju hjl => ?_⟩)
      ·intro j hj hju hjl
       have hji : j ≠ i := fun e => by rw [e, hui] at hju; cases hju
       rw [getD_set _ _ _ _ (by omega), if_neg hji] at hjl
       unfold upd; rw [if_neg hji]; exact hgu j hj hju hjl
      ·rw [getD_set _ _ _ _ (by omega)] at hjl
       unfold upd
       by_cases hji : j = i
       ·subst hji; simpa using hg
       ·rw [if_neg hji] at hjl ⊢
        exact mono _ _ _ _ hju (hG j hj hju hjl) hK
    ·have := hnu i hill hui
     have hil2 : i < listed.size := by omega
     simp only [Array.getD_eq_getD_getElem?, Array.getElem?_eq_getElem hil2, Option.getD_some] at h1 this
     rw [h1] at this; cases this
end
theorem wp_lin_two {P : Program} {ops : Array Oper} {Q : Exit → Act → World → Prop} {id : Nat} {tm : List Value} {df : List Deferred} {w0 : World} (hm : P.follows .mixedOrders = true) (ss : List (Option Nat))
 (R : World → Prop) (Keeps : World → World → Prop) (G : Nat → Value → World → Prop) (F : Value → World → Prop) (GU : Nat → Value → Prop) (U : Nat → Bool)
 (h0 : fillL tm ss (oldX tm ss) = tm)
 (back : ((List.range ops.size).all fun i => (afters ops i).all fun j => decide (j < i)) = true)
 (n last : Nat) (on : Oper) (l : List Oper) (hdr : ops.toList.drop last = l) (hon : ops[n]? = some on) (hnl : n < last) (hls : last < ops.size)
 (chain : ((List.range ops.size).all fun j => Nat.ble j last || (afters ops j).contains (j - 1)) = true)
 (hU : (!U n && ((List.range last).all fun i => (Nat.ble i n || U i) && (!U i || (afters ops i).all U))) = true)
 (wit : List Nat) (cover : ((List.range n).all fun i => U i || ((afters ops (wit.getD i 0)).contains i && Nat.ble (wit.getD i 0) n && !U (wit.getD i 0))) = true)
 (wit2 : List Nat) (cover2 : ((List.range last).all fun i => (afters ops (wit2.getD i 0)).contains i && Nat.ble (wit2.getD i 0) last) = true)
 (hR : R w0.drew)
 (mono : ∀ i v w w', G i v w → Keeps w w' → G i v w')
 (step : Steps (fun i => i = n ∨ (U i = true ∧ StepU P ops Q (fun x => { tmps := (fillL tm ss x).toArray, defers := df }) GU i) ∨ (U i = false ∧ Step P ops Q (fun x => { tmps := (fillL tm ss x).toArray, defers := df }) R Keeps (fun j v w => if U j = true then GU j v else G j v w) i)) last)
 (stepN : ∀ x w, R w → (∀ i, i < n → U i = false → G i (x i) w) → (∀ j ∈ afters ops n, U j = true → GU j (x j)) → ∀ K : Act → World → Prop, (∀ v w', F v w' → K { tmps := (fillL tm ss (upd x n v)).toArray, defers := df } w') →
  ∀ fr, fr = fillL tm ss x → if Region.wanted on (yielded ops fr.toArray) = true then Oper.wp P on { tmps := fr.toArray, defers := df } w K Q else K (({ tmps := fr.toArray, defers := df } : Act).put on.dst undef) w)
 (done : ∀ x w, F (x n) w → (∀ i, i < last → U i = true → GU i (x i)) → ∀ fr, fr = fillL tm ss x → wpList P ops Q l { tmps := fr.toArray, defers := df } w) :
 (Code.region id ops true).wp P Q { tmps := tm.toArray, defers := df } w0 := by
 have e0 : ({ tmps := tm.toArray, defers := df } : Act) = (fun x => ({ tmps := (fillL tm ss x).toArray, defers := df } : Act)) (oldX tm ss) := by simp only [h0]
 rw [e0]
 rw [Bool.and_eq_true] at hU
 have hU2 : ∀ i, i < last → (i ≤ n ∨ U i = true) ∧ (U i = true → ∀ j ∈ afters ops i, U j = true) := fun i hi => by
  have := List.all_eq_true.1 hU.2 i (List.mem_range.2 hi)
  rw [Bool.and_eq_true, Bool.or_eq_true, Bool.or_eq_true] at this
  refine ⟨this.1.imp Nat.le_of_ble_eq_true fun h => h, fun hu j hj => ?_⟩
  rcases this.2 with h | h
  ·rw [hu] at h; cases h
  ·exact List.all_eq_true.1 h j hj
 have hst := fun i hi => each_all step.each i hi
 refine wp_region_any hm (wpAny_two (R := R) (Keeps := Keeps) (Good := G) (F := F) (GU := GU) (mk := fun x => { tmps := (fillL tm ss x).toArray, defers := df }) U n last hnl hls l (by rw [← hdr]; simp; omega) (fun j => by rw [← hdr, List.getElem?_drop]; simp) chain back (by simpa using hU.1) (fun i h1 h2 => ((hU2 i h2).1).elim (fun h => by omega) fun h => h) (fun i hi hu => (hU2 i hi).2 hu)
  wit (fun i hi hu => by
   have := List.all_eq_true.1 cover i (List.mem_range.2 hi)
   rw [hu, Bool.false_or, Bool.and_eq_true, Bool.and_eq_true] at this
   exact ⟨List.contains_iff_mem.1 this.1.1, Nat.le_of_ble_eq_true this.1.2, by simpa using this.2⟩)
  wit2 (fun i hi => by
   have := List.all_eq_true.1 cover2 i (List.mem_range.2 hi)
   rw [Bool.and_eq_true] at this
   exact ⟨List.contains_iff_mem.1 this.1, Nat.le_of_ble_eq_true this.2⟩)
  (fun _ _ => .inr trivial) (fun i v w w' _ => mono i v w w')
  (fun i hi hu x w hR hg hgu => by
   rcases hst i (by omega) with rfl | ⟨h, _⟩ | ⟨_, h⟩
   ·omega
   ·rw [hu] at h; cases h
   ·refine wpOp_mono ?_ (h x w hR fun j hj => ?_)
    ·rintro a' w' ⟨v, h1, h2, h3, h4⟩
     refine ⟨v, h1, h2, h3, ?_⟩
     rw [if_neg (by rw [hu]; simp)] at h4; exact h4
    ·cases hq : U j with
     | true => rw [if_pos hq]; exact hgu j hj hq
     | false => rw [if_neg (by rw [hq]; simp)]; exact hg j hj hq)
  (fun i hi hu => by
   rcases hst i hi with rfl | ⟨_, h⟩ | ⟨h, _⟩
   ·simp [hu] at hU
   ·exact h
   ·rw [hu] at h; cases h)
  (fun x w hR hg hgu => by
   have h1 := stepN x w hR hg hgu (fun a' w' => ∃ v, a' = ({ tmps := (fillL tm ss (upd x n v)).toArray, defers := df } : Act) ∧ F v w') (fun v w' h => ⟨v, rfl, h⟩) _ rfl
   unfold wpOp
   simp only [hon]
   split
   ·rename_i hw; rw [if_pos hw] at h1; exact .inl h1
   ·rename_i hw; rw [if_neg hw] at h1; exact h1)
  (fun x w hF hu => done x w hF hu _ rfl) _ _ _ _ ?_ (by simp) ?_ ?_ ?_ (.inl ⟨?_, hR, ?_⟩))
 ·simp
 ·intro j _ hj
  simp [Array.getD_eq_getD_getElem?, hj]
 ·intro i hi hl
  simp [Array.getD_eq_getD_getElem?, hi] at hl
 ·intro i hi _ hl
  have : i < ops.size := by omega
  simp [Array.getD_eq_getD_getElem?, this] at hl
 ·have : n < ops.size := by omega
  simp [Array.getD_eq_getD_getElem?, this]
 ·intro i hi _ hl
  have : i < ops.size := by omega
  simp [Array.getD_eq_getD_getElem?, this] at hl
end Go.Wk

/- Rows cut into those that follow one another, by the program: Parts. No condition. -/
namespace Go.Proofs.YthffpbkndnhlfaaGreatDoor
open Go Go.RowKit Go.Wk
def r0 : R4 := ⟨0, 0, 0, 0⟩
def newP (l : List R4) (k : Nat) : Bool := k == 0 || (l.getD k r0).n != (l.getD (k - 1) r0).n + 1
def partsK (l : List R4) : Nat → List (List R4)
 | 0 => []
 | k + 1 => if newP l k = true then partsK l k ++ [[l.getD k r0]] else (partsK l k).dropLast ++ [(partsK l k).getLastD [] ++ [l.getD k r0]]
def risesK (l : List R4) : Nat → Bool
 | 0 => true
 | k + 1 => risesK l k && (k == 0 || decide ((l.getD (k - 1) r0).n < (l.getD k r0).n))
theorem parts_new {l : List R4} {k : Nat} (h : newP l k = true) : partsK l (k + 1) = partsK l k ++ [[] ++ [l.getD k r0]] := by
 show (if newP l k = true then _ else _) = _
 rw [if_pos h]; rfl
theorem parts_old {l : List R4} {k : Nat} {ps : List (List R4)} {p : List R4} (h : newP l k = false) (e : partsK l k = ps ++ [p]) : partsK l (k + 1) = ps ++ [p ++ [l.getD k r0]] := by
 show (if newP l k = true then _ else _) = _
 rw [if_neg (by rw [h]; simp), e]; simp
theorem parts_last (l : List R4) : ∀ k, 0 < k → ∃ ps p, partsK l k = ps ++ [p]
 | 0, h => by omega
 | k + 1, _ => by
  show ∃ ps p, (if newP l k = true then _ else _) = _
  split
  ·exact ⟨_, _, rfl⟩
  ·exact ⟨_, _, rfl⟩
theorem parts_len (l : List R4) : ∀ k, (partsK l k).length ≤ k
 | 0 => Nat.le_refl _
 | k + 1 => by
  have ih := parts_len l k
  show (if newP l k = true then _ else _ : List (List R4)).length ≤ k + 1
  split
  ·simp; omega
  ·simp; omega
theorem part_len (l : List R4) : ∀ k, ∀ p ∈ partsK l k, p.length ≤ k ∧ 0 < p.length
 | 0 => by simp [partsK]
 | k + 1 => by
  have ih := part_len l k
  intro p hp
  have hp : p ∈ (if newP l k = true then partsK l k ++ [[l.getD k r0]] else (partsK l k).dropLast ++ [(partsK l k).getLastD [] ++ [l.getD k r0]]) := hp
  split at hp
  ·rcases List.mem_append.1 hp with h | h
   ·have := ih p h; omega
   ·simp at h; subst h; simp
  ·rcases List.mem_append.1 hp with h | h
   ·have := ih p ((List.dropLast_sublist _).subset h); omega
   ·simp at h; subst h
    have hq : ((partsK l k).getLast?.getD []).length ≤ k := by
     cases hl : (partsK l k).getLast? with
     | none => simp
     | some q => exact (ih q (List.mem_of_getLast? hl)).1
    simp; omega
theorem rises_false {l : List R4} : ∀ {k m : Nat}, k ≤ m → risesK l k = false → risesK l m = false
 | k, 0, h, e => by obtain rfl : k = 0 := by omega
                    exact e
 | k, m + 1, h, e => by
  by_cases hk : k = m + 1
  ·subst hk; exact e
  ·show (risesK l m && _) = false
   rw [rises_false (by omega) e]; rfl
theorem drewN_below (w : World) (n : Nat) : Below w.heap.size w (w.drewN n) := ⟨rfl, rfl, rfl, Nat.le_refl _, fun _ _ => rfl⟩
def UP (i : Nat) : Bool := !(i == 9 || i == 10 || i == 11 || i == 12)
def GUP (g N psl cap : Nat) : Nat → Value → Prop := fun j v => match j with
 | 0 | 1 | 4 | 5 => v = .slice (some ⟨g, 0, none⟩) N cap
 | 2 | 6 => v = .int .i64 N
 | 3 | 7 => v = .int .i64 psl
 | _ => v = .pointer (some ⟨g, psl, none⟩)
def GP (hl : Value) (agr : Value) (r : R4) : Nat → Value → World → Prop := fun j v w => match j with
 | 9 => v = hl
 | 10 => v = agr
 | _ => ∃ gb, v = .slice (some ⟨gb, 0, none⟩) 1 1 ∧ w.cell? ⟨gb, 0, none⟩ = some (.int .i64 r.n) ∧ w.cell? ⟨gb, 1, none⟩ = some (.int .i64 r.k) ∧ w.cell? ⟨gb, 2, none⟩ = some (.int .i64 r.a) ∧ w.cell? ⟨gb, 3, none⟩ = some (.int .i64 r.g)
theorem GP_mono {hl agr : Value} {r : R4} (j : Nat) (v : Value) (w w' : World) (hG : GP hl agr r j v w) (hk : Below w.heap.size w w') : GP hl agr r j v w' := by
 unfold GP at hG ⊢
 split at hG <;> first
  | exact hG
  | (obtain ⟨g, e, hc⟩ := hG; exact ⟨g, e, four_kept hc hk⟩)
def FP (w : World) (l : List R4) (k g N psl cap : Nat) (v7 : Value) (w7 : World) : Prop := (∃ A7 n7 c7, v7 = .slice A7 n7 c7) ∧ (∃ hl9, w7.cell? ⟨g, psl, none⟩ = some hl9) ∧ w7.frozen? ⟨g, psl, none⟩ = false ∧ (∃ hs, PG 28 64 w.heap.size (w7.setCell ⟨g, psl, none⟩ v7) (.slice (some ⟨g, 0, none⟩) N cap) (partsK l (k + 1)) hs) ∧ Below w.heap.size w (w7.setCell ⟨g, psl, none⟩ v7)
theorem wp_app_r {t e : TypeId} (T : RT t e) {w : World} {o : Oper} {a : Act} {K : Act → World → Prop} {Q : Exit → Act → World → Prop} (s x : Operand)
 (ho : o.op = .call { callee := .builtin .append, args := #[s, x], argTypes := #[t, t] }) (B : Nat) (v : Value) (l : List R4) (hs : a.eval s = v) (hR : OwnR e B w v l)
 (g : Nat) (r : R4) (hx : a.eval x = .slice (some ⟨g, 0, none⟩) 1 1) (hc : ∀ j u, (rv r)[j]? = some u → w.cell? ⟨g, j, none⟩ = some u) (hl : l.length ≤ 1000000000) (hB : B ≤ w.heap.size)
 (h : ∀ v' w', OwnR e B w' v' (l ++ [r]) → w.grownBy w' v.ownBlock → (v'.ownBlock = v.ownBlock ∨ v'.ownBlock = some w.heap.size) → K (a.put o.dst v') w') : Oper.wp Tryz.prog o a w K Q := by
 obtain ⟨i0, hi0, hz0, hz1, hz2⟩ := T.i
 obtain ⟨v', w', hr, h2, h3, h4, h5⟩ := run_append_own_at (P := Tryz.prog) w B t o.type e i0 _ 4 32 T.u hi0 hz0 hz1 hz2 rfl (by decide) v l.length (l.map rv).flatten hR ⟨g, 0, none⟩ 1 1 (rv r) rfl (fun j u hu => by rw [addr_add, Nat.zero_add]; exact hc j u hu) (rv_one r) (by unfold maxLen; omega) (by omega) hB
 unfold Oper.wp execOp
 simp only [ho, resolve, invoke, builtin, Sem.run_bind, Sem.run_pure, Result.andThen_ok, List.map_toArray, List.map_cons, List.map_nil, hs, hx, hr]
 refine h v' w' ?_ h3 h5
 unfold OwnR
 rw [List.length_append, List.map_append, List.flatten_append]
 simpa using h2
theorem four_of {w : World} {g : Nat} {r : R4} (h : w.cell? ⟨g, 0, none⟩ = some (.int .i64 r.n) ∧ w.cell? ⟨g, 1, none⟩ = some (.int .i64 r.k) ∧ w.cell? ⟨g, 2, none⟩ = some (.int .i64 r.a) ∧ w.cell? ⟨g, 3, none⟩ = some (.int .i64 r.g)) : ∀ j u, (rv r)[j]? = some u → w.cell? ⟨g, j, none⟩ = some u := by
 intro j u hu
 match j with
 | 0 => rw [← hu]; exact h.1
 | 1 => rw [← hu]; exact h.2.1
 | 2 => rw [← hu]; exact h.2.2.1
 | 3 => rw [← hu]; exact h.2.2.2
 | j + 4 => cases hu
theorem slice_is {e : TypeId} {B : Nat} {w : World} {v : Value} {l : List R4} (h : OwnR e B w v l) : ∃ A7 n7 c7, v = .slice A7 n7 c7 := by
 rcases h.2 with ⟨rfl, _⟩ | ⟨g, cap, cur, rfl, _⟩
 ·exact ⟨_, _, _, rfl⟩
 ·exact ⟨_, _, _, rfl⟩
theorem slice_one {e : TypeId} {B : Nat} {w : World} {v : Value} {l : List R4} (h : OwnR e B w v l) : v.oneCell' = true := by
 rcases h.2 with ⟨rfl, _⟩ | ⟨g, cap, cur, rfl, _⟩ <;> rfl
theorem info28 : ∃ i, Tryz.prog.info? 28 = some i ∧ i.zero = some (.slice none 0 0) ∧ i.size = 1 ∧ i.bytes = 24 := ⟨Tryz.t28, by kernel_rfl, by kernel_rfl, by kernel_rfl, by kernel_rfl⟩
theorem info38 : ∃ i, Tryz.prog.info? 38 = some i ∧ i.zero = some (.slice none 0 0) ∧ i.size = 1 ∧ i.bytes = 24 := ⟨Tryz.t38, by kernel_rfl, by kernel_rfl, by kernel_rfl, by kernel_rfl⟩
theorem app_nil {t e er : TypeId} (hu : Tryz.prog.underlying t = some (.slice e)) (hi : ∃ i, Tryz.prog.info? e = some i ∧ i.zero = some (.slice none 0 0) ∧ i.size = 1 ∧ i.bytes = 24) {w : World} {ops : Array Oper} {rest : List Oper} {o : Oper} {a : Act} {Q : Exit → Act → World → Prop} (hgd : o.guard = none) (s x : Operand)
 (ho : o.op = .call { callee := .builtin .append, args := #[s, x], argTypes := #[t, t] }) (B : Nat) (v : Value) (ps : List (List R4)) (hs : List Value) (hv : a.eval s = v) (hP : PG e er B w v ps hs)
 (g : Nat) (hx : a.eval x = .slice (some ⟨g, 0, none⟩) 1 1) (hc : w.cell? ⟨g, 0, none⟩ = some (.slice none 0 0)) (hl : ps.length ≤ 1000000000) (hB : B ≤ w.heap.size)
 (h : ∀ v' w', PG e er B w' v' (ps ++ [[]]) (hs ++ [.slice none 0 0]) → Below B w w' → w.grownBy w' v.ownBlock → wpList Tryz.prog ops Q rest (a.put o.dst v') w') : wpList Tryz.prog ops Q (o :: rest) a w := by
 obtain ⟨i0, hi0, hz0, hz1, hz2⟩ := hi
 refine wpList_append_own_at w hgd s x t ho B e i0 _ 1 24 hu hi0 hz0 hz1 hz2 rfl (by decide) v ps.length hs hv hP.row ⟨g, 0, none⟩ 1 1 [.slice none 0 0] hx rfl ?_ (by simp [Value.oneCell']) (by unfold maxLen; omega) (by omega) hB ?_
 ·intro j u hu; rw [addr_add, Nat.zero_add]
  match j with
  | 0 => rw [← hu]; exact hc
  | j + 1 => cases hu
 ·intro v' w' h1 h2 _ h3
  exact h v' w' (hP.more h1 h2 h3) ((Below.refl _ _ |>.mono hB).grown h2 hB fun k hk => (World.ownsRow.lt hP.row k hk).1) h2
set_option maxHeartbeats 16000000 in
set_option maxRecDepth 100000 in
theorem tab_Parts (A : Option Addr) (c : Nat) (l : List R4) (w : World) (h : RowsAt w A l) (hl : l.length ≤ 1000000) (hn : ∀ r ∈ l, 0 ≤ r.n ∧ r.n ≤ 8388607) : Calls Tryz.prog 41 #[.slice A l.length c] w fun e w' => Below w.heap.size w w' ∧ ((risesK l l.length = true ∧ ∃ A' c', e = .returned (.tuple #[.slice A' (partsK l l.length).length c', .bool true]) ∧ PtsAt w' A' (partsK l l.length)) ∨ (risesK l l.length = false ∧ e = .returned (.tuple #[.slice none 0 0, .bool false]))) := by
 obtain ⟨m, hm⟩ : ∃ m, m = l.length := ⟨_, rfl⟩
 rw [← hm] at hl ⊢
 obtain ⟨Po, hPo⟩ : ∃ Po : World → Ending → Prop, Po = fun w' e => Below w.heap.size w w' ∧ ((risesK l m = true ∧ ∃ A' c', e = .returned (.tuple #[.slice A' (partsK l m).length c', .bool true]) ∧ PtsAt w' A' (partsK l m)) ∨ (risesK l m = false ∧ e = .returned (.tuple #[.slice none 0 0, .bool false]))) := ⟨_, rfl⟩
 have hp1 : ∀ w' e, Below w.heap.size w w' → risesK l m = false → e = .returned (.tuple #[.slice none 0 0, .bool false]) → Po w' e := fun w' e h1 h2 h3 => by rw [hPo]; exact ⟨h1, .inr ⟨h2, h3⟩⟩
 have hp2 : ∀ w' v, Below w.heap.size w w' → risesK l m = true → (∃ hs, PG 28 64 w.heap.size w' v (partsK l m) hs) → Po w' (.returned (.tuple #[v, .bool true])) := fun w' v h1 h2 ⟨hs, h3⟩ => by
  have h4 := parts_len l m
  obtain ⟨A', c', rfl, h5⟩ := h3.out (by unfold maxLen; omega) (fun p hp => by have := part_len l m p hp; unfold maxLen; omega)
  rw [hPo]; exact ⟨h1, .inl ⟨h2, A', c', rfl, h5⟩⟩
 show Calls Tryz.prog 41 #[.slice A m c] w fun e w' => (fun w' e => Below w.heap.size w w' ∧ ((risesK l m = true ∧ ∃ A' c', e = .returned (.tuple #[.slice A' (partsK l m).length c', .bool true]) ∧ PtsAt w' A' (partsK l m)) ∨ (risesK l m = false ∧ e = .returned (.tuple #[.slice none 0 0, .bool false])))) w' e
 rw [← hPo]
 clear hPo
 replace hm := hi_ hm
 replace h := hi_ h
 replace hn := hi_ hn
 replace hp1 := hi_ hp1
 replace hp2 := hi_ hp2
 go_enter Tryz.func41, Tryz.ntmps41
 go_wp2
 go_loopw [4, 9] (fun s4 s9 wr => ∃ k : Nat, k ≤ m ∧ s9 = .int .i64 k ∧ (∃ hs, PG 28 64 w.heap.size wr s4 (partsK l k) hs) ∧ risesK l k = true ∧ Below w.heap.size w wr) (fun _ s9 _ => m - (RowKit.intOf s9).toNat)
 case atStart => exact ⟨0, by omega, rfl, ⟨[], PG.nil _ _ _ _⟩, rfl, Below.refl _ _⟩
 case round =>
  rename_i wr
  obtain ⟨k, hk, rfl, ⟨hs, hP⟩, hrk, hB⟩ := hrel
  have lB := hB.size
  by_cases hkm : k < m
  case neg =>
   obtain rfl : k = m := by omega
   replace hP := hi_ hP
   replace hrk := hi_ hrk
   replace hB := hi_ hB
   go_wp2
   exact hp2.out _ _ hB.out hrk.out ⟨hs, hP.out⟩
  have hkl : k < l.length := by rw [← hm.out]; exact hkm
  obtain ⟨b, o, rfl, hc⟩ := h.out.2 (by omega)
  have hc4 := hc k hkl
  obtain ⟨r, hr⟩ : ∃ r, r = l[k] := ⟨_, rfl⟩
  have hgr : l.getD k r0 = r := by rw [hr, List.getD_eq_getElem?_getD, List.getElem?_eq_getElem hkl]; rfl
  have hrn := hn.out r (by rw [hr]; exact List.getElem_mem hkl)
  rw [← hr] at hc4
  have y0 := (hB.cell (cell_lt (hc4 0 _ rfl))).trans (hc4 0 _ rfl)
  have y1 := (hB.cell (cell_lt (hc4 1 _ rfl))).trans (hc4 1 _ rfl)
  have y2 := (hB.cell (cell_lt (hc4 2 _ rfl))).trans (hc4 2 _ rfl)
  have y3 := (hB.cell (cell_lt (hc4 3 _ rfl))).trans (hc4 3 _ rfl)
  simp only [Nat.add_zero] at y0
  obtain ⟨P, hP0⟩ : ∃ P, P = o + k * 4 := ⟨_, rfl⟩
  have hP2 : o + k * 4 = P := hP0.symm
  rw [hP2] at y0 y1 y2 y3
  replace hP0 := hi_ hP0
  have hprev : 0 < k → ∃ (q : Nat) (p : R4), q + 1 = k ∧ l.getD (k - 1) r0 = p ∧ (0 ≤ p.n ∧ p.n ≤ 8388607) ∧ wr.cell? ⟨b, o + q * 4, none⟩ = some (.int .i64 p.n) := fun h0 => by
   have hql : k - 1 < l.length := by omega
   refine ⟨k - 1, l[k - 1], by omega, by rw [List.getD_eq_getElem?_getD, List.getElem?_eq_getElem hql]; rfl, hn.out _ (List.getElem_mem hql), ?_⟩
   have h9 := hc (k - 1) hql 0 _ rfl
   exact (hB.cell (cell_lt h9)).trans h9
  clear hc hc4
  replace hr := hi_ hr
  obtain ⟨W1, hW1⟩ : ∃ W, W = wr.alloc (.cells #[.int .i64 r.n, .int .i64 r.k, .int .i64 r.a, .int .i64 r.g] 64) := ⟨_, rfl⟩
  have hb1 : Below wr.heap.size wr W1 := by rw [hW1]; exact (Below.refl _ _).alloc (Nat.le_refl _) _
  have hD1 := bthen hB hb1
  have hP1 := hP.below hb1
  obtain ⟨c0, c1, c2, c3⟩ := four_cells hW1
  have cs := four_cells hW1
  have hprev1 : 0 < k → ∃ (q : Nat) (p : R4), q + 1 = k ∧ l.getD (k - 1) r0 = p ∧ (0 ≤ p.n ∧ p.n ≤ 8388607) ∧ W1.cell? ⟨b, o + q * 4, none⟩ = some (.int .i64 p.n) := fun h0 => by
   obtain ⟨q, p, h1, h2, h3, h4⟩ := hprev h0
   exact ⟨q, p, h1, h2, h3, (hb1.cell (cell_lt h4)).trans h4⟩
  replace hprev1 := hi_ hprev1
  clear hprev
  replace hP := hi_ hP
  replace hP1 := hi_ hP1
  replace hB := hi_ hB
  replace hb1 := hi_ hb1
  replace hD1 := hi_ hD1
  replace hgr := hi_ hgr
  replace hrk := hi_ hrk
  replace cs := hi_ cs
  go_upto_region 5 with (fail)
  rw [← hW1]
  replace hW1 := hi_ hW1
  clear y0 y1 y2 y3 hP2
  by_cases hk0 : k = 0
  ·have d0 : decide ((0 : Int) < (k : Int)) = false := decide_eq_false (by omega)
   have e0 : ((k : Int) == 0) = true := by rw [hk0]; rfl
   have hnew : newP l k = true := by rw [hk0]; rfl
   have hrk1 : risesK l (k + 1) = true := by
    show (risesK l k && _) = true
    rw [hrk.out, hk0]; rfl
   replace hnew := hi_ hnew
   replace hrk1 := hi_ hrk1
   go_quiet (fail)
   obtain ⟨W2, hW2⟩ : ∃ W, W = W1.drewN nq := ⟨_, rfl⟩
   rw [← hW2]
   have hb2 : Below W1.heap.size W1 W2 := by rw [hW2]; exact drewN_below _ _
   have hD2 := bthen hD1.out hb2
   have cs2 := four_kept cs.out hb2
   clear c0 c1 c2 c3
   obtain ⟨c0, c1, c2, c3⟩ := id cs2
   have hP2 := hP1.out.below hb2
   replace hW2 := hi_ hW2
   replace hD2 := hi_ hD2
   replace cs2 := hi_ cs2
   replace hP2 := hi_ hP2
   replace hb2 := hi_ hb2
   go_upto_region 7 with (fail)
   go_quiet (fail)
   obtain ⟨W3, hW3⟩ : ∃ W, W = W2.drewN nq := ⟨_, rfl⟩
   rw [← hW3]
   have hb3 : Below W2.heap.size W2 W3 := by rw [hW3]; exact drewN_below _ _
   have hD3 := bthen hD2.out hb3
   have cs3 := four_kept cs2.out hb3
   clear c0 c1 c2 c3
   obtain ⟨c0, c1, c2, c3⟩ := id cs3
   have hP3 := hP2.out.below hb3
   replace hW3 := hi_ hW3
   replace hD3 := hi_ hD3
   replace cs3 := hi_ cs3
   replace hP3 := hi_ hP3
   replace hb3 := hi_ hb3
   have hal : Below W3.heap.size W3 (W3.alloc (.cells #[.slice none 0 0] 28)) := (Below.refl _ _).alloc (Nat.le_refl _) _
   have hP4 := hP3.out.below hal
   have z4 : (W3.alloc (.cells #[.slice none 0 0] 28)).heap.size = W3.heap.size + 1 := World.size_alloc _ _
   have z3 := hD3.out.size
   have hcn : (W3.alloc (.cells #[.slice none 0 0] 28)).cell? ⟨W3.heap.size, 0, none⟩ = some (.slice none 0 0) := by simp
   have hcs4 := four_kept cs3.out hal
   have hD4 := bthen hD3.out hal
   have hne4 : some wr.heap.size ≠ u4.ownBlock := fun e => by have := (World.ownsRow.lt hP.out.row _ e.symm).2; omega
   replace hne4 := hi_ hne4
   obtain ⟨PS, hPS⟩ : ∃ PS, PS = partsK l k := ⟨_, rfl⟩
   have zPS : PS.length ≤ 1000000 := by have := parts_len l k; rw [hPS]; omega
   obtain ⟨p, hpe⟩ : ∃ p : List R4, p = [] := ⟨_, rfl⟩
   have zp : p.length ≤ 1000000 := by rw [hpe]; simp
   have hstep : partsK l (k + 1) = PS ++ [p ++ [r]] := by rw [parts_new hnew.out, hPS, hpe, hgr.out]
   rw [← hPS] at hP4
   replace hal := hi_ hal
   replace hP4 := hi_ hP4
   replace hcn := hi_ hcn
   replace hcs4 := hi_ hcs4
   replace hD4 := hi_ hD4
   replace z4 := hi_ z4
   replace hPS := hi_ hPS
   replace hstep := hi_ hstep
   replace hpe := hi_ hpe
   clear c0 c1 c2 c3
   go_upto_region 9 with (at_builtin; refine app_nil Tryz.underlying95 info28 rfl _ _ rfl w.heap.size u4 PS hs rfl hP4.out W3.heap.size rfl hcn.out (by omega) (by rw [z4.out]; omega) ?_; intro vX WX hPX hBX hgX; have csX := And.intro (hgX.cell hcs4.out.1 hne4.out) (And.intro (hgX.cell hcs4.out.2.1 hne4.out) (And.intro (hgX.cell hcs4.out.2.2.1 hne4.out) (hgX.cell hcs4.out.2.2.2 hne4.out))); clear hgX; have hDX : Below w.heap.size w WX := hD4.out.trans hBX; replace hPX := hi_ hPX; replace hBX := hi_ hBX; replace hDX := hi_ hDX; replace csX := hi_ csX)
   obtain ⟨c0, c1, c2, c3⟩ := csX.out
   rw [← hpe.out] at hPX
   obtain ⟨hs0, hl9, g, cap, hhs, hlen0, hv9, hcell, hfro, hO9, hBg, hgz⟩ := PG.last hPX.out
   obtain ⟨psl, hpsl⟩ : ∃ n, n = PS.length := ⟨_, rfl⟩
   obtain ⟨N, hN⟩ : ∃ N, N = psl + 1 := ⟨_, rfl⟩
   have hPZ := hPX.out
   rw [hhs, hv9] at hPZ
   rw [← hpsl] at hv9 hcell hfro hPZ zPS
   rw [← hN] at hv9 hPZ
   subst hv9
   have hw : IntKind.i64.wrap ((N : Int) - 1) = (psl : Int) := by rw [IntWalk.i64_in _ (by omega)]; omega
   have hw2 : IntKind.i64.wrap (psl : Int) = (psl : Int) := IntWalk.i64_in _ (by omega)
   have hpl : psl < N := by omega
   replace hpsl := hi_ hpsl
   replace hN := hi_ hN
   replace hPZ := hi_ hPZ
   replace hO9 := hi_ hO9
   replace hhs := hi_ hhs
   replace hlen0 := hi_ hlen0
   replace hcell := hi_ hcell
   replace hfro := hi_ hfro
   refine wp_lin_two (by kernel_rfl) [none, none, none, none, none, none, none, none, none, none, none, none, none, none, none, none, none, none, none, none, none, none, none, none, none, none, none, none, none, none, none, none, none, none, none, none, none, none, none, none, none, none, none, none, some 0, some 1, some 2, some 3, some 4, some 5, some 6, some 7, some 8, some 9, some 10, some 11, some 12, none, none, none] (fun w' => Below WX.heap.size WX w') (fun w' w'' => Below w'.heap.size w' w'') (GP hl9 (.agg #[.int .i64 r.n, .int .i64 r.k, .int .i64 r.a, .int .i64 r.g]) r) (FP w l k g N psl cap) (GUP g N psl cap) UP (by rfl) (by kernel_rfl) 12 13 _ _ rfl rfl (by decide) (by decide) (by kernel_rfl) (by kernel_rfl) [0, 0, 0, 0, 0, 0, 0, 0, 0, 12, 11, 12] (by kernel_rfl) [13, 13, 13, 13, 13, 13, 13, 13, 13, 13, 13, 13, 13] (by kernel_rfl) ?hR ?mono (.cons 12 (.inl rfl) (.cons 11 (.inr (.inr ⟨rfl, step_of [10] rfl (by kernel_rfl) ?s11⟩)) (.cons 10 (.inr (.inr ⟨rfl, step_of [] rfl (by kernel_rfl) ?s10⟩)) (.cons 9 (.inr (.inr ⟨rfl, step_of [8] rfl (by kernel_rfl) ?s9⟩)) (.cons 8 (.inr (.inl ⟨rfl, stepU_of [4, 7] rfl (by kernel_rfl) ?s8⟩)) (.cons 7 (.inr (.inl ⟨rfl, stepU_of [6] rfl (by kernel_rfl) ?s7⟩)) (.cons 6 (.inr (.inl ⟨rfl, stepU_of [5] rfl (by kernel_rfl) ?s6⟩)) (.cons 5 (.inr (.inl ⟨rfl, stepU_of [] rfl (by kernel_rfl) ?s5⟩)) (.cons 4 (.inr (.inl ⟨rfl, stepU_of [] rfl (by kernel_rfl) ?s4⟩)) (.cons 3 (.inr (.inl ⟨rfl, stepU_of [2] rfl (by kernel_rfl) ?s3⟩)) (.cons 2 (.inr (.inl ⟨rfl, stepU_of [1] rfl (by kernel_rfl) ?s2⟩)) (.cons 1 (.inr (.inl ⟨rfl, stepU_of [] rfl (by kernel_rfl) ?s1⟩)) (.cons 0 (.inr (.inl ⟨rfl, stepU_of [] rfl (by kernel_rfl) ?s0⟩)) (.nil)))))))))))))) ?sN ?done
   case hR => exact (Below.refl _ _).drew
   case mono => exact GP_mono
   case s0 =>
    intro x w' hd K' hK
    simp only [AllU, GUP] at hd
    simp +decide only [upd, GUP, fillL, if_true, if_false] at hK ⊢
    go_simp
    have hK2 := hK _ rfl
    exact hK2
   case s1 =>
    intro x w' hd K' hK
    simp only [AllU, GUP] at hd
    simp +decide only [upd, GUP, fillL, if_true, if_false] at hK ⊢
    go_simp
    have hK2 := hK _ rfl
    exact hK2
   case s2 =>
    intro x w' hd K' hK
    simp only [AllU, GUP] at hd
    obtain ⟨e1, _⟩ := hd
    simp +decide only [upd, GUP, fillL, if_true, if_false] at hK ⊢
    simp only [e1] at hK ⊢
    go_simp
    have hK2 := hK _ rfl
    exact hK2
   case s3 =>
    intro x w' hd K' hK
    simp only [AllU, GUP] at hd
    obtain ⟨e2, _⟩ := hd
    simp +decide only [upd, GUP, fillL, if_true, if_false] at hK ⊢
    simp only [e2] at hK ⊢
    go_simp
    try simp only [hw]
    try simp only [hw2]
    have hK2 := hK _ rfl
    exact hK2
   case s4 =>
    intro x w' hd K' hK
    simp only [AllU, GUP] at hd
    simp +decide only [upd, GUP, fillL, if_true, if_false] at hK ⊢
    go_simp
    have hK2 := hK _ rfl
    exact hK2
   case s5 =>
    intro x w' hd K' hK
    simp only [AllU, GUP] at hd
    simp +decide only [upd, GUP, fillL, if_true, if_false] at hK ⊢
    go_simp
    have hK2 := hK _ rfl
    exact hK2
   case s6 =>
    intro x w' hd K' hK
    simp only [AllU, GUP] at hd
    obtain ⟨e5, _⟩ := hd
    simp +decide only [upd, GUP, fillL, if_true, if_false] at hK ⊢
    simp only [e5] at hK ⊢
    go_simp
    have hK2 := hK _ rfl
    exact hK2
   case s7 =>
    intro x w' hd K' hK
    simp only [AllU, GUP] at hd
    obtain ⟨e6, _⟩ := hd
    simp +decide only [upd, GUP, fillL, if_true, if_false] at hK ⊢
    simp only [e6] at hK ⊢
    go_simp
    try simp only [hw]
    try simp only [hw2]
    have hK2 := hK _ rfl
    exact hK2
   case s8 =>
    intro x w' hd K' hK
    simp only [AllU, GUP] at hd
    obtain ⟨e4, e7, _⟩ := hd
    simp +decide only [upd, GUP, fillL, if_true, if_false] at hK ⊢
    simp only [e4, e7] at hK ⊢
    go_simp
    have hK2 := hK _ rfl
    exact hK2
   case s9 =>
    intro x w' hRw hd K' hK
    simp +decide only [All, UP, GP, GUP, if_true, if_false] at hd
    obtain ⟨e8, _⟩ := hd
    simp +decide only [upd, UP, GP, GUP, fillL, if_true, if_false] at hK ⊢
    simp only [e8] at hK ⊢
    have hc9 := (hRw.cell (cell_lt hcell.out)).trans hcell.out
    go_simp
    have hK2 := hK _ _ ⟨hRw, Below.refl _ _, rfl⟩
    exact hK2
   case s10 =>
    intro x w' hRw hd K' hK
    simp +decide only [All, UP, GP, GUP, if_true, if_false] at hd
    have tc0 := (hRw.cell (cell_lt c0)).trans c0
    have tc1 := (hRw.cell (cell_lt c1)).trans c1
    have tc2 := (hRw.cell (cell_lt c2)).trans c2
    have tc3 := (hRw.cell (cell_lt c3)).trans c3
    simp +decide only [upd, UP, GP, GUP, fillL, if_true, if_false] at hK ⊢
    go_simp
    have hK2 := hK _ _ ⟨hRw, Below.refl _ _, rfl⟩
    exact hK2
   case s11 =>
    intro x w' hRw hd K' hK
    simp +decide only [All, UP, GP, GUP, if_true, if_false] at hd
    obtain ⟨e10, _⟩ := hd
    simp +decide only [upd, UP, GP, GUP, fillL, if_true, if_false] at hK ⊢
    simp only [e10] at hK ⊢
    have al : Below w'.heap.size w' (w'.alloc (.cells #[.int .i64 r.n, .int .i64 r.k, .int .i64 r.a, .int .i64 r.g] 64)) := (Below.refl _ _).alloc (Nat.le_refl _) _
    go_simp
    have hK2 := hK _ _ ⟨bthen hRw al, al, w'.heap.size, rfl, four_cells rfl⟩
    exact hK2
   case sN =>
    intro x w6 hR2 hG _ K' hK fr hfr
    have a9 := hG 9 (by omega) rfl
    have a11 := hG 11 (by omega) rfl
    simp only [GP] at a9 a11
    clear hG
    obtain ⟨gb, a11, hgb⟩ := a11
    have hO6 := hO9.out.below hR2
    have hP6 := hPZ.out.below hR2
    have zW := hDX.out.size
    have z6 := hR2.size
    have hD6 := bthen hDX.out hR2
    have hc6 := (hR2.cell (cell_lt hcell.out)).trans hcell.out
    have hf6 := (hR2.frozen (show (⟨g, psl, none⟩ : Addr).block < _ from hgz)).trans hfro.out
    have h12 : ∀ v7 w7, OwnR 64 w.heap.size w7 v7 (p ++ [r]) → w6.grownBy w7 hl9.ownBlock → (v7.ownBlock = hl9.ownBlock ∨ v7.ownBlock = some w6.heap.size) → FP w l k g N psl cap v7 w7 := fun v7 w7 h1 h2 h3 => by
     have hne : some g ≠ hl9.ownBlock := by
      have := hP6.off psl (by rw [hpsl.out]; simp)
      rw [getD_snoc_eq _ _ _ (by rw [hlen0.out, hpsl.out])] at this
      rcases this with h | h
      ·rw [h]; simp
      ·exact fun e => h e.symm
     have hgw : g < w6.heap.size := by omega
     refine ⟨slice_is h1, ⟨_, (World.cell?_of_block (h2.block g hgw hne)).trans hc6⟩, (World.frozen?_of_block (h2.block g hgw hne)).trans hf6, ⟨hs0 ++ [v7], ?_⟩, ?_⟩
     ·rw [hstep.out]
      exact hP6.put (slice_one h1) h2 h1 h3 (by rw [hpsl.out])
     ·exact (hD6.grown h2 (by omega) (fun q hq => (own_lt hO6 hq).1)).grown (set_grown _ _ _ _) (by have := h2.size; omega) (fun q hq => by injection hq with hq; omega)
    simp only [fillL] at hfr
    rw [a9, a11] at hfr
    subst hfr
    rw [if_pos (show Region.wanted _ _ = true from rfl)]
    refine wp_app_r rt28 _ _ rfl w.heap.size hl9 p rfl hO6 gb r rfl (four_of hgb) (by omega) (by omega) ?_
    intro v7 w7 hO7 hg7 hat7
    have hK2 := hK v7 w7 (h12 v7 w7 hO7 hg7 hat7)
    simp +decide only [upd, fillL, if_true, if_false, a9, a11] at hK2
    exact hK2
   case done =>
    intro x w7 hF hGu fr hfr
    have a12 : ∃ v7, v7 = x 12 := ⟨_, rfl⟩
    obtain ⟨v7, a12⟩ := a12
    have a0 := hGu 0 (by omega) rfl
    have a3 := hGu 3 (by omega) rfl
    simp only [GUP] at a0 a3
    clear hGu
    simp only [fillL] at hfr
    rw [← a12] at hF hfr
    replace a12 := hi_ a12
    rw [a0, a3] at hfr
    obtain ⟨⟨A7, n7, c7, k1⟩, ⟨hl8, k2⟩, k3, hPn, hDn⟩ := hF
    subst k1
    subst hfr
    replace hPn := hi_ hPn
    replace hDn := hi_ hDn
    clear a0 a3 hw hw2 c0 c1 c2 c3
    go_wp2
    go_roundw
    case rel => exact ⟨k + 1, by omega, by go_num, hPn.out, hrk1.out, hDn.out⟩
    case measure => simp [RowKit.intOf]; omega
  ·obtain ⟨q, pr, hq1, hpr, hpn, hx1⟩ := hprev1.out (by omega)
   obtain ⟨pn, hpne⟩ : ∃ pn, pn = pr.n := ⟨_, rfl⟩
   rw [← hpne] at hpn hx1
   have d0 : decide ((0 : Int) < (k : Int)) = true := decide_eq_true (by omega)
   have d0n : decide (0 < k) = true := decide_eq_true (by omega)
   have e0 : ((k : Int) == 0) = false := by simpa using hk0
   have hwk : IntKind.i64.wrap ((k : Int) - 1) = (q : Int) := by rw [IntWalk.i64_in _ (by omega)]; omega
   have hwk2 : (k : Int) - 1 = (q : Int) := by omega
   have hwp : IntKind.i64.wrap (pn + 1) = pn + 1 := IntWalk.i64_in _ (by omega)
   have hqm : q < m := by omega
   have hk1 : (l.getD (k - 1) r0).n = pn := by rw [hpr, hpne]
   have hkr : (l.getD k r0).n = r.n := by rw [hgr.out]
   have hkb : (k == 0) = false := by simpa using hk0
   have hr1 : risesK l (k + 1) = decide (pn < r.n) := by
    show (risesK l k && (k == 0 || decide ((l.getD (k - 1) r0).n < (l.getD k r0).n))) = _
    rw [hrk.out, hkb, hk1, hkr]; simp
   have hn1 : newP l k = (r.n != pn + 1) := by
    show (k == 0 || (l.getD k r0).n != (l.getD (k - 1) r0).n + 1) = _
    rw [hkb, hk1, hkr]; simp
   replace hr1 := hi_ hr1
   replace hn1 := hi_ hn1
   replace hq1 := hi_ hq1
   replace hpr := hi_ hpr
   replace hpne := hi_ hpne
   clear hk1 hkr hkb
   by_cases hlt : pn < r.n
   case neg =>
    have d1 : decide (r.n ≤ pn) = true := decide_eq_true (by omega)
    have hbad : risesK l m = false := rises_false (k := k + 1) (by omega) (by rw [hr1.out]; exact decide_eq_false hlt)
    replace hbad := hi_ hbad
    go_quiet (fail)
    obtain ⟨W2, hW2⟩ : ∃ W, W = W1.drewN nq := ⟨_, rfl⟩
    rw [← hW2]
    have hb2 : Below W1.heap.size W1 W2 := by rw [hW2]; exact drewN_below _ _
    have hD2 := bthen hD1.out hb2
    replace hW2 := hi_ hW2
    replace hD2 := hi_ hD2
    go_wp2
    exact hp1.out _ _ hD2.out hbad.out rfl
   have d1 : decide (r.n ≤ pn) = false := decide_eq_false (by omega)
   have hrk1 : risesK l (k + 1) = true := by rw [hr1.out]; exact decide_eq_true hlt
   replace hrk1 := hi_ hrk1
   go_quiet (fail)
   obtain ⟨W2, hW2⟩ : ∃ W, W = W1.drewN nq := ⟨_, rfl⟩
   rw [← hW2]
   have hb2 : Below W1.heap.size W1 W2 := by rw [hW2]; exact drewN_below _ _
   have hD2 := bthen hD1.out hb2
   have cs2 := four_kept cs.out hb2
   clear c0 c1 c2 c3
   obtain ⟨c0, c1, c2, c3⟩ := id cs2
   have hP2 := hP1.out.below hb2
   have hx2 := (hb2.cell (cell_lt hx1)).trans hx1
   clear hx1
   replace hW2 := hi_ hW2
   replace hD2 := hi_ hD2
   replace cs2 := hi_ cs2
   replace hP2 := hi_ hP2
   replace hb2 := hi_ hb2
   go_upto_region 7 with (fail)
   by_cases hnp : r.n = pn + 1
   case neg =>
    have e1 : (r.n != pn + 1) = true := by simpa using hnp
    have hnew : newP l k = true := by rw [hn1.out]; exact e1
    replace hnew := hi_ hnew
    go_quiet (fail)
    obtain ⟨W3, hW3⟩ : ∃ W, W = W2.drewN nq := ⟨_, rfl⟩
    rw [← hW3]
    have hb3 : Below W2.heap.size W2 W3 := by rw [hW3]; exact drewN_below _ _
    have hD3 := bthen hD2.out hb3
    have cs3 := four_kept cs2.out hb3
    clear c0 c1 c2 c3
    obtain ⟨c0, c1, c2, c3⟩ := id cs3
    have hP3 := hP2.out.below hb3
    have hx3 := (hb3.cell (cell_lt hx2)).trans hx2
    clear hx2
    replace hW3 := hi_ hW3
    replace hD3 := hi_ hD3
    replace cs3 := hi_ cs3
    replace hP3 := hi_ hP3
    replace hb3 := hi_ hb3
    clear hx3
    have hal : Below W3.heap.size W3 (W3.alloc (.cells #[.slice none 0 0] 28)) := (Below.refl _ _).alloc (Nat.le_refl _) _
    have hP4 := hP3.out.below hal
    have z4 : (W3.alloc (.cells #[.slice none 0 0] 28)).heap.size = W3.heap.size + 1 := World.size_alloc _ _
    have z3 := hD3.out.size
    have hcn : (W3.alloc (.cells #[.slice none 0 0] 28)).cell? ⟨W3.heap.size, 0, none⟩ = some (.slice none 0 0) := by simp
    have hcs4 := four_kept cs3.out hal
    have hD4 := bthen hD3.out hal
    have hne4 : some wr.heap.size ≠ u4.ownBlock := fun e => by have := (World.ownsRow.lt hP.out.row _ e.symm).2; omega
    replace hne4 := hi_ hne4
    obtain ⟨PS, hPS⟩ : ∃ PS, PS = partsK l k := ⟨_, rfl⟩
    have zPS : PS.length ≤ 1000000 := by have := parts_len l k; rw [hPS]; omega
    obtain ⟨p, hpe⟩ : ∃ p : List R4, p = [] := ⟨_, rfl⟩
    have zp : p.length ≤ 1000000 := by rw [hpe]; simp
    have hstep : partsK l (k + 1) = PS ++ [p ++ [r]] := by rw [parts_new hnew.out, hPS, hpe, hgr.out]
    rw [← hPS] at hP4
    replace hal := hi_ hal
    replace hP4 := hi_ hP4
    replace hcn := hi_ hcn
    replace hcs4 := hi_ hcs4
    replace hD4 := hi_ hD4
    replace z4 := hi_ z4
    replace hPS := hi_ hPS
    replace hstep := hi_ hstep
    replace hpe := hi_ hpe
    clear c0 c1 c2 c3
    go_upto_region 9 with (at_builtin; refine app_nil Tryz.underlying95 info28 rfl _ _ rfl w.heap.size u4 PS hs rfl hP4.out W3.heap.size rfl hcn.out (by omega) (by rw [z4.out]; omega) ?_; intro vX WX hPX hBX hgX; have csX := And.intro (hgX.cell hcs4.out.1 hne4.out) (And.intro (hgX.cell hcs4.out.2.1 hne4.out) (And.intro (hgX.cell hcs4.out.2.2.1 hne4.out) (hgX.cell hcs4.out.2.2.2 hne4.out))); clear hgX; have hDX : Below w.heap.size w WX := hD4.out.trans hBX; replace hPX := hi_ hPX; replace hBX := hi_ hBX; replace hDX := hi_ hDX; replace csX := hi_ csX)
    obtain ⟨c0, c1, c2, c3⟩ := csX.out
    rw [← hpe.out] at hPX
    obtain ⟨hs0, hl9, g, cap, hhs, hlen0, hv9, hcell, hfro, hO9, hBg, hgz⟩ := PG.last hPX.out
    obtain ⟨psl, hpsl⟩ : ∃ n, n = PS.length := ⟨_, rfl⟩
    obtain ⟨N, hN⟩ : ∃ N, N = psl + 1 := ⟨_, rfl⟩
    have hPZ := hPX.out
    rw [hhs, hv9] at hPZ
    rw [← hpsl] at hv9 hcell hfro hPZ zPS
    rw [← hN] at hv9 hPZ
    subst hv9
    have hw : IntKind.i64.wrap ((N : Int) - 1) = (psl : Int) := by rw [IntWalk.i64_in _ (by omega)]; omega
    have hw2 : IntKind.i64.wrap (psl : Int) = (psl : Int) := IntWalk.i64_in _ (by omega)
    have hpl : psl < N := by omega
    replace hpsl := hi_ hpsl
    replace hN := hi_ hN
    replace hPZ := hi_ hPZ
    replace hO9 := hi_ hO9
    replace hhs := hi_ hhs
    replace hlen0 := hi_ hlen0
    replace hcell := hi_ hcell
    replace hfro := hi_ hfro
    refine wp_lin_two (by kernel_rfl) [none, none, none, none, none, none, none, none, none, none, none, none, none, none, none, none, none, none, none, none, none, none, none, none, none, none, none, none, none, none, none, none, none, none, none, none, none, none, none, none, none, none, none, none, some 0, some 1, some 2, some 3, some 4, some 5, some 6, some 7, some 8, some 9, some 10, some 11, some 12, none, none, none] (fun w' => Below WX.heap.size WX w') (fun w' w'' => Below w'.heap.size w' w'') (GP hl9 (.agg #[.int .i64 r.n, .int .i64 r.k, .int .i64 r.a, .int .i64 r.g]) r) (FP w l k g N psl cap) (GUP g N psl cap) UP (by rfl) (by kernel_rfl) 12 13 _ _ rfl rfl (by decide) (by decide) (by kernel_rfl) (by kernel_rfl) [0, 0, 0, 0, 0, 0, 0, 0, 0, 12, 11, 12] (by kernel_rfl) [13, 13, 13, 13, 13, 13, 13, 13, 13, 13, 13, 13, 13] (by kernel_rfl) ?hR ?mono (.cons 12 (.inl rfl) (.cons 11 (.inr (.inr ⟨rfl, step_of [10] rfl (by kernel_rfl) ?s11⟩)) (.cons 10 (.inr (.inr ⟨rfl, step_of [] rfl (by kernel_rfl) ?s10⟩)) (.cons 9 (.inr (.inr ⟨rfl, step_of [8] rfl (by kernel_rfl) ?s9⟩)) (.cons 8 (.inr (.inl ⟨rfl, stepU_of [4, 7] rfl (by kernel_rfl) ?s8⟩)) (.cons 7 (.inr (.inl ⟨rfl, stepU_of [6] rfl (by kernel_rfl) ?s7⟩)) (.cons 6 (.inr (.inl ⟨rfl, stepU_of [5] rfl (by kernel_rfl) ?s6⟩)) (.cons 5 (.inr (.inl ⟨rfl, stepU_of [] rfl (by kernel_rfl) ?s5⟩)) (.cons 4 (.inr (.inl ⟨rfl, stepU_of [] rfl (by kernel_rfl) ?s4⟩)) (.cons 3 (.inr (.inl ⟨rfl, stepU_of [2] rfl (by kernel_rfl) ?s3⟩)) (.cons 2 (.inr (.inl ⟨rfl, stepU_of [1] rfl (by kernel_rfl) ?s2⟩)) (.cons 1 (.inr (.inl ⟨rfl, stepU_of [] rfl (by kernel_rfl) ?s1⟩)) (.cons 0 (.inr (.inl ⟨rfl, stepU_of [] rfl (by kernel_rfl) ?s0⟩)) (.nil)))))))))))))) ?sN ?done
    case hR => exact (Below.refl _ _).drew
    case mono => exact GP_mono
    case s0 =>
     intro x w' hd K' hK
     simp only [AllU, GUP] at hd
     simp +decide only [upd, GUP, fillL, if_true, if_false] at hK ⊢
     go_simp
     have hK2 := hK _ rfl
     exact hK2
    case s1 =>
     intro x w' hd K' hK
     simp only [AllU, GUP] at hd
     simp +decide only [upd, GUP, fillL, if_true, if_false] at hK ⊢
     go_simp
     have hK2 := hK _ rfl
     exact hK2
    case s2 =>
     intro x w' hd K' hK
     simp only [AllU, GUP] at hd
     obtain ⟨e1, _⟩ := hd
     simp +decide only [upd, GUP, fillL, if_true, if_false] at hK ⊢
     simp only [e1] at hK ⊢
     go_simp
     have hK2 := hK _ rfl
     exact hK2
    case s3 =>
     intro x w' hd K' hK
     simp only [AllU, GUP] at hd
     obtain ⟨e2, _⟩ := hd
     simp +decide only [upd, GUP, fillL, if_true, if_false] at hK ⊢
     simp only [e2] at hK ⊢
     go_simp
     try simp only [hw]
     try simp only [hw2]
     have hK2 := hK _ rfl
     exact hK2
    case s4 =>
     intro x w' hd K' hK
     simp only [AllU, GUP] at hd
     simp +decide only [upd, GUP, fillL, if_true, if_false] at hK ⊢
     go_simp
     have hK2 := hK _ rfl
     exact hK2
    case s5 =>
     intro x w' hd K' hK
     simp only [AllU, GUP] at hd
     simp +decide only [upd, GUP, fillL, if_true, if_false] at hK ⊢
     go_simp
     have hK2 := hK _ rfl
     exact hK2
    case s6 =>
     intro x w' hd K' hK
     simp only [AllU, GUP] at hd
     obtain ⟨e5, _⟩ := hd
     simp +decide only [upd, GUP, fillL, if_true, if_false] at hK ⊢
     simp only [e5] at hK ⊢
     go_simp
     have hK2 := hK _ rfl
     exact hK2
    case s7 =>
     intro x w' hd K' hK
     simp only [AllU, GUP] at hd
     obtain ⟨e6, _⟩ := hd
     simp +decide only [upd, GUP, fillL, if_true, if_false] at hK ⊢
     simp only [e6] at hK ⊢
     go_simp
     try simp only [hw]
     try simp only [hw2]
     have hK2 := hK _ rfl
     exact hK2
    case s8 =>
     intro x w' hd K' hK
     simp only [AllU, GUP] at hd
     obtain ⟨e4, e7, _⟩ := hd
     simp +decide only [upd, GUP, fillL, if_true, if_false] at hK ⊢
     simp only [e4, e7] at hK ⊢
     go_simp
     have hK2 := hK _ rfl
     exact hK2
    case s9 =>
     intro x w' hRw hd K' hK
     simp +decide only [All, UP, GP, GUP, if_true, if_false] at hd
     obtain ⟨e8, _⟩ := hd
     simp +decide only [upd, UP, GP, GUP, fillL, if_true, if_false] at hK ⊢
     simp only [e8] at hK ⊢
     have hc9 := (hRw.cell (cell_lt hcell.out)).trans hcell.out
     go_simp
     have hK2 := hK _ _ ⟨hRw, Below.refl _ _, rfl⟩
     exact hK2
    case s10 =>
     intro x w' hRw hd K' hK
     simp +decide only [All, UP, GP, GUP, if_true, if_false] at hd
     have tc0 := (hRw.cell (cell_lt c0)).trans c0
     have tc1 := (hRw.cell (cell_lt c1)).trans c1
     have tc2 := (hRw.cell (cell_lt c2)).trans c2
     have tc3 := (hRw.cell (cell_lt c3)).trans c3
     simp +decide only [upd, UP, GP, GUP, fillL, if_true, if_false] at hK ⊢
     go_simp
     have hK2 := hK _ _ ⟨hRw, Below.refl _ _, rfl⟩
     exact hK2
    case s11 =>
     intro x w' hRw hd K' hK
     simp +decide only [All, UP, GP, GUP, if_true, if_false] at hd
     obtain ⟨e10, _⟩ := hd
     simp +decide only [upd, UP, GP, GUP, fillL, if_true, if_false] at hK ⊢
     simp only [e10] at hK ⊢
     have al : Below w'.heap.size w' (w'.alloc (.cells #[.int .i64 r.n, .int .i64 r.k, .int .i64 r.a, .int .i64 r.g] 64)) := (Below.refl _ _).alloc (Nat.le_refl _) _
     go_simp
     have hK2 := hK _ _ ⟨bthen hRw al, al, w'.heap.size, rfl, four_cells rfl⟩
     exact hK2
    case sN =>
     intro x w6 hR2 hG _ K' hK fr hfr
     have a9 := hG 9 (by omega) rfl
     have a11 := hG 11 (by omega) rfl
     simp only [GP] at a9 a11
     clear hG
     obtain ⟨gb, a11, hgb⟩ := a11
     have hO6 := hO9.out.below hR2
     have hP6 := hPZ.out.below hR2
     have zW := hDX.out.size
     have z6 := hR2.size
     have hD6 := bthen hDX.out hR2
     have hc6 := (hR2.cell (cell_lt hcell.out)).trans hcell.out
     have hf6 := (hR2.frozen (show (⟨g, psl, none⟩ : Addr).block < _ from hgz)).trans hfro.out
     have h12 : ∀ v7 w7, OwnR 64 w.heap.size w7 v7 (p ++ [r]) → w6.grownBy w7 hl9.ownBlock → (v7.ownBlock = hl9.ownBlock ∨ v7.ownBlock = some w6.heap.size) → FP w l k g N psl cap v7 w7 := fun v7 w7 h1 h2 h3 => by
      have hne : some g ≠ hl9.ownBlock := by
       have := hP6.off psl (by rw [hpsl.out]; simp)
       rw [getD_snoc_eq _ _ _ (by rw [hlen0.out, hpsl.out])] at this
       rcases this with h | h
       ·rw [h]; simp
       ·exact fun e => h e.symm
      have hgw : g < w6.heap.size := by omega
      refine ⟨slice_is h1, ⟨_, (World.cell?_of_block (h2.block g hgw hne)).trans hc6⟩, (World.frozen?_of_block (h2.block g hgw hne)).trans hf6, ⟨hs0 ++ [v7], ?_⟩, ?_⟩
      ·rw [hstep.out]
       exact hP6.put (slice_one h1) h2 h1 h3 (by rw [hpsl.out])
      ·exact (hD6.grown h2 (by omega) (fun q hq => (own_lt hO6 hq).1)).grown (set_grown _ _ _ _) (by have := h2.size; omega) (fun q hq => by injection hq with hq; omega)
     simp only [fillL] at hfr
     rw [a9, a11] at hfr
     subst hfr
     rw [if_pos (show Region.wanted _ _ = true from rfl)]
     refine wp_app_r rt28 _ _ rfl w.heap.size hl9 p rfl hO6 gb r rfl (four_of hgb) (by omega) (by omega) ?_
     intro v7 w7 hO7 hg7 hat7
     have hK2 := hK v7 w7 (h12 v7 w7 hO7 hg7 hat7)
     simp +decide only [upd, fillL, if_true, if_false, a9, a11] at hK2
     exact hK2
    case done =>
     intro x w7 hF hGu fr hfr
     have a12 : ∃ v7, v7 = x 12 := ⟨_, rfl⟩
     obtain ⟨v7, a12⟩ := a12
     have a0 := hGu 0 (by omega) rfl
     have a3 := hGu 3 (by omega) rfl
     simp only [GUP] at a0 a3
     clear hGu
     simp only [fillL] at hfr
     rw [← a12] at hF hfr
     replace a12 := hi_ a12
     rw [a0, a3] at hfr
     obtain ⟨⟨A7, n7, c7, k1⟩, ⟨hl8, k2⟩, k3, hPn, hDn⟩ := hF
     subst k1
     subst hfr
     replace hPn := hi_ hPn
     replace hDn := hi_ hDn
     clear a0 a3 hw hw2 c0 c1 c2 c3
     go_wp2
     go_roundw
     case rel => exact ⟨k + 1, by omega, by go_num, hPn.out, hrk1.out, hDn.out⟩
     case measure => simp [RowKit.intOf]; omega
   have e1 : (r.n != pn + 1) = false := by simpa using hnp
   have hnew : newP l k = false := by rw [hn1.out]; exact e1
   replace hnew := hi_ hnew
   replace hnp := hi_ hnp
   go_quiet (fail)
   obtain ⟨W3, hW3⟩ : ∃ W, W = W2.drewN nq := ⟨_, rfl⟩
   rw [← hW3]
   have hb3 : Below W2.heap.size W2 W3 := by rw [hW3]; exact drewN_below _ _
   have hD3 := bthen hD2.out hb3
   have cs3 := four_kept cs2.out hb3
   clear c0 c1 c2 c3
   obtain ⟨c0, c1, c2, c3⟩ := id cs3
   have hP3 := hP2.out.below hb3
   have hx3 := (hb3.cell (cell_lt hx2)).trans hx2
   clear hx2
   replace hW3 := hi_ hW3
   replace hD3 := hi_ hD3
   replace cs3 := hi_ cs3
   replace hP3 := hi_ hP3
   replace hb3 := hi_ hb3
   clear hx3
   obtain ⟨PS, p, hPS⟩ := parts_last l k (by omega)
   have hstep : partsK l (k + 1) = PS ++ [p ++ [r]] := by rw [parts_old hnew.out hPS, hgr.out]
   have zPS : PS.length ≤ 1000000 := by have h8 := parts_len l k; rw [hPS] at h8; simp at h8; omega
   have zp : p.length ≤ 1000000 := by have h8 := (part_len l k p (by rw [hPS]; simp)).1; omega
   have hPX := hP3.out
   rw [hPS] at hPX
   replace hPX := hi_ hPX
   replace hPS := hi_ hPS
   replace hstep := hi_ hstep
   obtain ⟨WX, hWX⟩ : ∃ W, W = W3 := ⟨_, rfl⟩
   rw [← hWX] at hPX c0 c1 c2 c3 hD3
   rw [← hWX]
   have hDX := hD3
   replace hWX := hi_ hWX
   go_upto_region 9 with (fail)
   obtain ⟨hs0, hl9, g, cap, hhs, hlen0, hv9, hcell, hfro, hO9, hBg, hgz⟩ := PG.last hPX.out
   obtain ⟨psl, hpsl⟩ : ∃ n, n = PS.length := ⟨_, rfl⟩
   obtain ⟨N, hN⟩ : ∃ N, N = psl + 1 := ⟨_, rfl⟩
   have hPZ := hPX.out
   rw [hhs, hv9] at hPZ
   rw [← hpsl] at hv9 hcell hfro hPZ zPS
   rw [← hN] at hv9 hPZ
   subst hv9
   have hw : IntKind.i64.wrap ((N : Int) - 1) = (psl : Int) := by rw [IntWalk.i64_in _ (by omega)]; omega
   have hw2 : IntKind.i64.wrap (psl : Int) = (psl : Int) := IntWalk.i64_in _ (by omega)
   have hpl : psl < N := by omega
   replace hpsl := hi_ hpsl
   replace hN := hi_ hN
   replace hPZ := hi_ hPZ
   replace hO9 := hi_ hO9
   replace hhs := hi_ hhs
   replace hlen0 := hi_ hlen0
   replace hcell := hi_ hcell
   replace hfro := hi_ hfro
   refine wp_lin_two (by kernel_rfl) [none, none, none, none, none, none, none, none, none, none, none, none, none, none, none, none, none, none, none, none, none, none, none, none, none, none, none, none, none, none, none, none, none, none, none, none, none, none, none, none, none, none, none, none, some 0, some 1, some 2, some 3, some 4, some 5, some 6, some 7, some 8, some 9, some 10, some 11, some 12, none, none, none] (fun w' => Below WX.heap.size WX w') (fun w' w'' => Below w'.heap.size w' w'') (GP hl9 (.agg #[.int .i64 r.n, .int .i64 r.k, .int .i64 r.a, .int .i64 r.g]) r) (FP w l k g N psl cap) (GUP g N psl cap) UP (by rfl) (by kernel_rfl) 12 13 _ _ rfl rfl (by decide) (by decide) (by kernel_rfl) (by kernel_rfl) [0, 0, 0, 0, 0, 0, 0, 0, 0, 12, 11, 12] (by kernel_rfl) [13, 13, 13, 13, 13, 13, 13, 13, 13, 13, 13, 13, 13] (by kernel_rfl) ?hR ?mono (.cons 12 (.inl rfl) (.cons 11 (.inr (.inr ⟨rfl, step_of [10] rfl (by kernel_rfl) ?s11⟩)) (.cons 10 (.inr (.inr ⟨rfl, step_of [] rfl (by kernel_rfl) ?s10⟩)) (.cons 9 (.inr (.inr ⟨rfl, step_of [8] rfl (by kernel_rfl) ?s9⟩)) (.cons 8 (.inr (.inl ⟨rfl, stepU_of [4, 7] rfl (by kernel_rfl) ?s8⟩)) (.cons 7 (.inr (.inl ⟨rfl, stepU_of [6] rfl (by kernel_rfl) ?s7⟩)) (.cons 6 (.inr (.inl ⟨rfl, stepU_of [5] rfl (by kernel_rfl) ?s6⟩)) (.cons 5 (.inr (.inl ⟨rfl, stepU_of [] rfl (by kernel_rfl) ?s5⟩)) (.cons 4 (.inr (.inl ⟨rfl, stepU_of [] rfl (by kernel_rfl) ?s4⟩)) (.cons 3 (.inr (.inl ⟨rfl, stepU_of [2] rfl (by kernel_rfl) ?s3⟩)) (.cons 2 (.inr (.inl ⟨rfl, stepU_of [1] rfl (by kernel_rfl) ?s2⟩)) (.cons 1 (.inr (.inl ⟨rfl, stepU_of [] rfl (by kernel_rfl) ?s1⟩)) (.cons 0 (.inr (.inl ⟨rfl, stepU_of [] rfl (by kernel_rfl) ?s0⟩)) (.nil)))))))))))))) ?sN ?done
   case hR => exact (Below.refl _ _).drew
   case mono => exact GP_mono
   case s0 =>
    intro x w' hd K' hK
    simp only [AllU, GUP] at hd
    simp +decide only [upd, GUP, fillL, if_true, if_false] at hK ⊢
    go_simp
    have hK2 := hK _ rfl
    exact hK2
   case s1 =>
    intro x w' hd K' hK
    simp only [AllU, GUP] at hd
    simp +decide only [upd, GUP, fillL, if_true, if_false] at hK ⊢
    go_simp
    have hK2 := hK _ rfl
    exact hK2
   case s2 =>
    intro x w' hd K' hK
    simp only [AllU, GUP] at hd
    obtain ⟨e1, _⟩ := hd
    simp +decide only [upd, GUP, fillL, if_true, if_false] at hK ⊢
    simp only [e1] at hK ⊢
    go_simp
    have hK2 := hK _ rfl
    exact hK2
   case s3 =>
    intro x w' hd K' hK
    simp only [AllU, GUP] at hd
    obtain ⟨e2, _⟩ := hd
    simp +decide only [upd, GUP, fillL, if_true, if_false] at hK ⊢
    simp only [e2] at hK ⊢
    go_simp
    try simp only [hw]
    try simp only [hw2]
    have hK2 := hK _ rfl
    exact hK2
   case s4 =>
    intro x w' hd K' hK
    simp only [AllU, GUP] at hd
    simp +decide only [upd, GUP, fillL, if_true, if_false] at hK ⊢
    go_simp
    have hK2 := hK _ rfl
    exact hK2
   case s5 =>
    intro x w' hd K' hK
    simp only [AllU, GUP] at hd
    simp +decide only [upd, GUP, fillL, if_true, if_false] at hK ⊢
    go_simp
    have hK2 := hK _ rfl
    exact hK2
   case s6 =>
    intro x w' hd K' hK
    simp only [AllU, GUP] at hd
    obtain ⟨e5, _⟩ := hd
    simp +decide only [upd, GUP, fillL, if_true, if_false] at hK ⊢
    simp only [e5] at hK ⊢
    go_simp
    have hK2 := hK _ rfl
    exact hK2
   case s7 =>
    intro x w' hd K' hK
    simp only [AllU, GUP] at hd
    obtain ⟨e6, _⟩ := hd
    simp +decide only [upd, GUP, fillL, if_true, if_false] at hK ⊢
    simp only [e6] at hK ⊢
    go_simp
    try simp only [hw]
    try simp only [hw2]
    have hK2 := hK _ rfl
    exact hK2
   case s8 =>
    intro x w' hd K' hK
    simp only [AllU, GUP] at hd
    obtain ⟨e4, e7, _⟩ := hd
    simp +decide only [upd, GUP, fillL, if_true, if_false] at hK ⊢
    simp only [e4, e7] at hK ⊢
    go_simp
    have hK2 := hK _ rfl
    exact hK2
   case s9 =>
    intro x w' hRw hd K' hK
    simp +decide only [All, UP, GP, GUP, if_true, if_false] at hd
    obtain ⟨e8, _⟩ := hd
    simp +decide only [upd, UP, GP, GUP, fillL, if_true, if_false] at hK ⊢
    simp only [e8] at hK ⊢
    have hc9 := (hRw.cell (cell_lt hcell.out)).trans hcell.out
    go_simp
    have hK2 := hK _ _ ⟨hRw, Below.refl _ _, rfl⟩
    exact hK2
   case s10 =>
    intro x w' hRw hd K' hK
    simp +decide only [All, UP, GP, GUP, if_true, if_false] at hd
    have tc0 := (hRw.cell (cell_lt c0)).trans c0
    have tc1 := (hRw.cell (cell_lt c1)).trans c1
    have tc2 := (hRw.cell (cell_lt c2)).trans c2
    have tc3 := (hRw.cell (cell_lt c3)).trans c3
    simp +decide only [upd, UP, GP, GUP, fillL, if_true, if_false] at hK ⊢
    go_simp
    have hK2 := hK _ _ ⟨hRw, Below.refl _ _, rfl⟩
    exact hK2
   case s11 =>
    intro x w' hRw hd K' hK
    simp +decide only [All, UP, GP, GUP, if_true, if_false] at hd
    obtain ⟨e10, _⟩ := hd
    simp +decide only [upd, UP, GP, GUP, fillL, if_true, if_false] at hK ⊢
    simp only [e10] at hK ⊢
    have al : Below w'.heap.size w' (w'.alloc (.cells #[.int .i64 r.n, .int .i64 r.k, .int .i64 r.a, .int .i64 r.g] 64)) := (Below.refl _ _).alloc (Nat.le_refl _) _
    go_simp
    have hK2 := hK _ _ ⟨bthen hRw al, al, w'.heap.size, rfl, four_cells rfl⟩
    exact hK2
   case sN =>
    intro x w6 hR2 hG _ K' hK fr hfr
    have a9 := hG 9 (by omega) rfl
    have a11 := hG 11 (by omega) rfl
    simp only [GP] at a9 a11
    clear hG
    obtain ⟨gb, a11, hgb⟩ := a11
    have hO6 := hO9.out.below hR2
    have hP6 := hPZ.out.below hR2
    have zW := hDX.out.size
    have z6 := hR2.size
    have hD6 := bthen hDX.out hR2
    have hc6 := (hR2.cell (cell_lt hcell.out)).trans hcell.out
    have hf6 := (hR2.frozen (show (⟨g, psl, none⟩ : Addr).block < _ from hgz)).trans hfro.out
    have h12 : ∀ v7 w7, OwnR 64 w.heap.size w7 v7 (p ++ [r]) → w6.grownBy w7 hl9.ownBlock → (v7.ownBlock = hl9.ownBlock ∨ v7.ownBlock = some w6.heap.size) → FP w l k g N psl cap v7 w7 := fun v7 w7 h1 h2 h3 => by
     have hne : some g ≠ hl9.ownBlock := by
      have := hP6.off psl (by rw [hpsl.out]; simp)
      rw [getD_snoc_eq _ _ _ (by rw [hlen0.out, hpsl.out])] at this
      rcases this with h | h
      ·rw [h]; simp
      ·exact fun e => h e.symm
     have hgw : g < w6.heap.size := by omega
     refine ⟨slice_is h1, ⟨_, (World.cell?_of_block (h2.block g hgw hne)).trans hc6⟩, (World.frozen?_of_block (h2.block g hgw hne)).trans hf6, ⟨hs0 ++ [v7], ?_⟩, ?_⟩
     ·rw [hstep.out]
      exact hP6.put (slice_one h1) h2 h1 h3 (by rw [hpsl.out])
     ·exact (hD6.grown h2 (by omega) (fun q hq => (own_lt hO6 hq).1)).grown (set_grown _ _ _ _) (by have := h2.size; omega) (fun q hq => by injection hq with hq; omega)
    simp only [fillL] at hfr
    rw [a9, a11] at hfr
    subst hfr
    rw [if_pos (show Region.wanted _ _ = true from rfl)]
    refine wp_app_r rt28 _ _ rfl w.heap.size hl9 p rfl hO6 gb r rfl (four_of hgb) (by omega) (by omega) ?_
    intro v7 w7 hO7 hg7 hat7
    have hK2 := hK v7 w7 (h12 v7 w7 hO7 hg7 hat7)
    simp +decide only [upd, fillL, if_true, if_false, a9, a11] at hK2
    exact hK2
   case done =>
    intro x w7 hF hGu fr hfr
    have a12 : ∃ v7, v7 = x 12 := ⟨_, rfl⟩
    obtain ⟨v7, a12⟩ := a12
    have a0 := hGu 0 (by omega) rfl
    have a3 := hGu 3 (by omega) rfl
    simp only [GUP] at a0 a3
    clear hGu
    simp only [fillL] at hfr
    rw [← a12] at hF hfr
    replace a12 := hi_ a12
    rw [a0, a3] at hfr
    obtain ⟨⟨A7, n7, c7, k1⟩, ⟨hl8, k2⟩, k3, hPn, hDn⟩ := hF
    subst k1
    subst hfr
    replace hPn := hi_ hPn
    replace hDn := hi_ hDn
    clear a0 a3 hw hw2 c0 c1 c2 c3
    go_wp2
    go_roundw
    case rel => exact ⟨k + 1, by omega, by go_num, hPn.out, hrk1.out, hDn.out⟩
    case measure => simp [RowKit.intOf]; omega
end Go.Proofs.YthffpbkndnhlfaaGreatDoor

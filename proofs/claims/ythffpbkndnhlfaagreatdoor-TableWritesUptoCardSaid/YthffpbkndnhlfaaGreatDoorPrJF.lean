/- Walks and laws, joined: part F. No condition. -/
import Derived.Test.YthffpbkndnhlfaaGreatDoorPrJE
import Derived.Test.YthffpbkndnhlfaaGreatDoorPrJD
import Derived.Deep.QuietTactic
import Derived.BigQuiet
import Derived.Test.YthffpbkndnhlfaaGreatDoorPrJC
set_option linter.unusedSimpArgs false
set_option linter.unusedVariables false
/- Rows cut into those that follow one another, by the document: parts. No condition. -/
namespace Go.Proofs.YthffpbkndnhlfaaGreatDoor
open Go Go.RowKit Go.Wk
def UQ (i : Nat) : Bool := !(i == 9 || i == 13 || i == 14 || i == 15)
def GUQ (g N psl cap : Nat) (A : Value) (k : Int) (b P : Nat) : Nat → Value → Prop := fun j v => match j with
 | 0 | 1 | 4 | 5 => v = .slice (some ⟨g, 0, none⟩) N cap
 | 2 | 6 => v = .int .i64 N
 | 3 | 7 => v = .int .i64 psl
 | 10 => v = A
 | 11 => v = .int .i64 k
 | 12 => v = .pointer (some ⟨b, P, none⟩)
 | _ => v = .pointer (some ⟨g, psl, none⟩)
def GQ (hl : Value) (agr : Value) (r : R4) : Nat → Value → World → Prop := fun j v w => match j with
 | 9 => v = hl
 | 13 => v = agr
 | _ => ∃ gb, v = .slice (some ⟨gb, 0, none⟩) 1 1 ∧ w.cell? ⟨gb, 0, none⟩ = some (.int .i64 r.n) ∧ w.cell? ⟨gb, 1, none⟩ = some (.int .i64 r.k) ∧ w.cell? ⟨gb, 2, none⟩ = some (.int .i64 r.a) ∧ w.cell? ⟨gb, 3, none⟩ = some (.int .i64 r.g)
theorem GQ_mono {hl agr : Value} {r : R4} (j : Nat) (v : Value) (w w' : World) (hG : GQ hl agr r j v w) (hk : Below w.heap.size w w') : GQ hl agr r j v w' := by
 unfold GQ at hG ⊢
 split at hG <;> first
  | exact hG
  | (obtain ⟨g, e, hc⟩ := hG; exact ⟨g, e, four_kept hc hk⟩)
def FQ (w : World) (l : List R4) (k g N psl cap : Nat) (v7 : Value) (w7 : World) : Prop := (∃ A7 n7 c7, v7 = .slice A7 n7 c7) ∧ (∃ hl9, w7.cell? ⟨g, psl, none⟩ = some hl9) ∧ w7.frozen? ⟨g, psl, none⟩ = false ∧ (∃ hs, PG 38 70 w.heap.size (w7.setCell ⟨g, psl, none⟩ v7) (.slice (some ⟨g, 0, none⟩) N cap) (partsK l (k + 1)) hs) ∧ Below w.heap.size w (w7.setCell ⟨g, psl, none⟩ v7)
set_option maxHeartbeats 16000000 in
set_option maxRecDepth 100000 in
theorem ref_parts (A : Option Addr) (c : Nat) (l : List R4) (w : World) (h : RowsAt w A l) (hl : l.length ≤ 1000000) (hn : ∀ r ∈ l, 0 ≤ r.n ∧ r.n ≤ 8388607) : Calls Tryz.prog 47 #[.slice A l.length c] w fun e w' => Below w.heap.size w w' ∧ ∃ A' c', e = .returned (.slice A' (partsK l l.length).length c') ∧ PtsAt w' A' (partsK l l.length) := by
 obtain ⟨m, hm⟩ : ∃ m, m = l.length := ⟨_, rfl⟩
 rw [← hm] at hl ⊢
 obtain ⟨Po, hPo⟩ : ∃ Po : World → Ending → Prop, Po = fun w' e => Below w.heap.size w w' ∧ ∃ A' c', e = .returned (.slice A' (partsK l m).length c') ∧ PtsAt w' A' (partsK l m) := ⟨_, rfl⟩
 have hp2 : ∀ w' v, Below w.heap.size w w' → (∃ hs, PG 38 70 w.heap.size w' v (partsK l m) hs) → Po w' (.returned v) := fun w' v h1 ⟨hs, h3⟩ => by
  have h4 := parts_len l m
  obtain ⟨A', c', rfl, h5⟩ := h3.out (by unfold maxLen; omega) (fun p hp => by have := part_len l m p hp; unfold maxLen; omega)
  rw [hPo]; exact ⟨h1, A', c', rfl, h5⟩
 show Calls Tryz.prog 47 #[.slice A m c] w fun e w' => (fun w' e => Below w.heap.size w w' ∧ ∃ A' c', e = .returned (.slice A' (partsK l m).length c') ∧ PtsAt w' A' (partsK l m)) w' e
 rw [← hPo]
 clear hPo
 replace hm := hi_ hm
 replace h := hi_ h
 replace hn := hi_ hn
 replace hp2 := hi_ hp2
 go_enter Tryz.func47, Tryz.ntmps47
 go_wp2
 go_loopw [3, 4] (fun s3 s4 wr => ∃ k : Nat, k ≤ m ∧ s4 = .int .i64 k ∧ (∃ hs, PG 38 70 w.heap.size wr s3 (partsK l k) hs) ∧ Below w.heap.size w wr) (fun _ s4 _ => m - (RowKit.intOf s4).toNat)
 case atStart => exact ⟨0, by omega, rfl, ⟨[], PG.nil _ _ _ _⟩, Below.refl _ _⟩
 case round =>
  rename_i wr
  obtain ⟨k, hk, rfl, ⟨hs, hP1⟩, hD1⟩ := hrel
  have lB := hD1.size
  by_cases hkm : k < m
  case neg =>
   obtain rfl : k = m := by omega
   replace hP1 := hi_ hP1
   replace hD1 := hi_ hD1
   go_wp2
   exact hp2.out _ _ hD1.out ⟨hs, hP1.out⟩
  have hkl : k < l.length := by rw [← hm.out]; exact hkm
  obtain ⟨b, o, rfl, hc⟩ := h.out.2 (by omega)
  have hc4 := hc k hkl
  obtain ⟨r, hr⟩ : ∃ r, r = l[k] := ⟨_, rfl⟩
  have hgr : l.getD k r0 = r := by rw [hr, List.getD_eq_getElem?_getD, List.getElem?_eq_getElem hkl]; rfl
  have hrn := hn.out r (by rw [hr]; exact List.getElem_mem hkl)
  rw [← hr] at hc4
  obtain ⟨P, hP0⟩ : ∃ P, P = o + k * 4 := ⟨_, rfl⟩
  have hP2 : o + k * 4 = P := hP0.symm
  rw [hP2] at hc4
  have cw : ∀ W, Below w.heap.size w W → W.cell? ⟨b, P, none⟩ = some (.int .i64 r.n) ∧ W.cell? ⟨b, P + 1, none⟩ = some (.int .i64 r.k) ∧ W.cell? ⟨b, P + 2, none⟩ = some (.int .i64 r.a) ∧ W.cell? ⟨b, P + 3, none⟩ = some (.int .i64 r.g) := fun W hW =>
   ⟨(hW.cell (cell_lt (hc4 0 _ rfl))).trans (hc4 0 _ rfl), (hW.cell (cell_lt (hc4 1 _ rfl))).trans (hc4 1 _ rfl), (hW.cell (cell_lt (hc4 2 _ rfl))).trans (hc4 2 _ rfl), (hW.cell (cell_lt (hc4 3 _ rfl))).trans (hc4 3 _ rfl)⟩
  obtain ⟨c0, c1, c2, c3⟩ := cw wr hD1
  replace hP0 := hi_ hP0
  have hprev1 : 0 < k → ∃ (q : Nat) (p : R4), q + 1 = k ∧ l.getD (k - 1) r0 = p ∧ (0 ≤ p.n ∧ p.n ≤ 8388607) ∧ wr.cell? ⟨b, o + q * 4, none⟩ = some (.int .i64 p.n) := fun h0 => by
   have hql : k - 1 < l.length := by omega
   refine ⟨k - 1, l[k - 1], by omega, by rw [List.getD_eq_getElem?_getD, List.getElem?_eq_getElem hql]; rfl, hn.out _ (List.getElem_mem hql), ?_⟩
   have h9 := hc (k - 1) hql 0 _ rfl
   exact (hD1.cell (cell_lt h9)).trans h9
  clear hc hc4
  replace hr := hi_ hr
  replace hprev1 := hi_ hprev1
  replace hP1 := hi_ hP1
  replace hD1 := hi_ hD1
  replace hgr := hi_ hgr
  replace cw := hi_ cw
  go_upto_region 5 with (fail)
  by_cases hk0 : k = 0
  ·have d0 : decide ((0 : Int) < (k : Int)) = false := decide_eq_false (by omega)
   have e0 : ((k : Int) == 0) = true := by rw [hk0]; rfl
   have e0n : (k == 0) = true := by rw [hk0]; rfl
   have hnew : newP l k = true := by rw [hk0]; rfl
   replace hnew := hi_ hnew
   replace hk0 := hi_ hk0
   go_quiet (fail)
   obtain ⟨W3, hW3⟩ : ∃ W, W = wr.drewN nq := ⟨_, rfl⟩
   rw [← hW3]
   have hb3 : Below wr.heap.size wr W3 := by rw [hW3]; exact drewN_below _ _
   have hD3 := bthen hD1.out hb3
   clear c0 c1 c2 c3
   have hP3 := hP1.out.below hb3
   replace hW3 := hi_ hW3
   replace hD3 := hi_ hD3
   replace hP3 := hi_ hP3
   replace hb3 := hi_ hb3
   go_upto_region 6 with (fail)
   have hal : Below W3.heap.size W3 (W3.alloc (.cells #[.slice none 0 0] 38)) := (Below.refl _ _).alloc (Nat.le_refl _) _
   have hP4 := hP3.out.below hal
   have z4 : (W3.alloc (.cells #[.slice none 0 0] 38)).heap.size = W3.heap.size + 1 := World.size_alloc _ _
   have z3 := hD3.out.size
   have hcn : (W3.alloc (.cells #[.slice none 0 0] 38)).cell? ⟨W3.heap.size, 0, none⟩ = some (.slice none 0 0) := by simp
   have hD4 := bthen hD3.out hal
   obtain ⟨PS, hPS⟩ : ∃ PS, PS = partsK l k := ⟨_, rfl⟩
   have zPS : PS.length ≤ 1000000 := by have := parts_len l k; rw [hPS]; omega
   obtain ⟨p, hpe⟩ : ∃ p : List R4, p = [] := ⟨_, rfl⟩
   have zp : p.length ≤ 1000000 := by rw [hpe]; simp
   have hstep : partsK l (k + 1) = PS ++ [p ++ [r]] := by rw [parts_new hnew.out, hPS, hpe, hgr.out]
   rw [← hPS] at hP4
   replace hal := hi_ hal
   replace hP4 := hi_ hP4
   replace hcn := hi_ hcn
   replace hD4 := hi_ hD4
   replace z4 := hi_ z4
   replace hPS := hi_ hPS
   replace hstep := hi_ hstep
   replace hpe := hi_ hpe
   go_upto_region 7 with (at_builtin; refine app_nil Tryz.underlying103 info38 rfl _ _ rfl w.heap.size u3 PS hs rfl hP4.out W3.heap.size rfl hcn.out (by omega) (by rw [z4.out]; omega) ?_; intro vX WX hPX hBX _; have hDX : Below w.heap.size w WX := hD4.out.trans hBX; replace hPX := hi_ hPX; replace hBX := hi_ hBX; replace hDX := hi_ hDX)
   rw [← hpe.out] at hPX
   obtain ⟨hs0, hl9, g, cap, hhs, hlen0, hv9, hcell, hfro, hO9, hBg, hgz⟩ := PG.last hPX.out
   obtain ⟨psl, hpsl⟩ : ∃ n, n = PS.length := ⟨_, rfl⟩
   obtain ⟨N, hN⟩ : ∃ N, N = psl + 1 := ⟨_, rfl⟩
   have hPZ := hPX.out
   rw [hhs, hv9] at hPZ
   rw [← hpsl] at hv9 hcell hfro hPZ zPS
   rw [← hN] at hv9 hPZ
   subst hv9
   have hw : IntKind.i64.wrap ((N : Int) - 1) = (psl : Int) := by rw [IntWalk.i64_in _ (by omega)]; omega
   have hw2 : IntKind.i64.wrap (psl : Int) = (psl : Int) := IntWalk.i64_in _ (by omega)
   have hpl : psl < N := by omega
   replace hpsl := hi_ hpsl
   replace hN := hi_ hN
   replace hPZ := hi_ hPZ
   replace hO9 := hi_ hO9
   replace hhs := hi_ hhs
   replace hlen0 := hi_ hlen0
   replace hcell := hi_ hcell
   replace hfro := hi_ hfro
   obtain ⟨c0, c1, c2, c3⟩ := cw.out WX hDX.out
   refine wp_lin_two (by kernel_rfl) [none, none, none, none, none, none, none, none, none, none, none, none, none, none, none, none, none, none, none, none, none, none, none, none, none, none, none, none, none, none, none, some 0, some 1, some 2, some 3, some 4, some 5, some 6, some 7, some 8, some 9, some 10, some 11, some 12, some 13, some 14, some 15, none, none] (fun w' => Below WX.heap.size WX w') (fun w' w'' => Below w'.heap.size w' w'') (GQ hl9 (.agg #[.int .i64 r.n, .int .i64 r.k, .int .i64 r.a, .int .i64 r.g]) r) (FQ w l k g N psl cap) (GUQ g N psl cap (.slice (some ⟨b, o, none⟩) m c) k b P) UQ (by rfl) (by kernel_rfl) 15 16 _ _ rfl rfl (by decide) (by decide) (by kernel_rfl) (by kernel_rfl) [0, 0, 0, 0, 0, 0, 0, 0, 0, 15, 0, 0, 0, 14, 15] (by kernel_rfl) [16, 16, 16, 16, 16, 16, 16, 16, 16, 16, 16, 16, 16, 16, 16, 16] (by kernel_rfl) ?hR ?mono (.cons 15 (.inl rfl) (.cons 14 (.inr (.inr ⟨rfl, step_of [13] rfl (by kernel_rfl) ?s14⟩)) (.cons 13 (.inr (.inr ⟨rfl, step_of [12] rfl (by kernel_rfl) ?s13⟩)) (.cons 12 (.inr (.inl ⟨rfl, stepU_of [10, 11] rfl (by kernel_rfl) ?s12⟩)) (.cons 11 (.inr (.inl ⟨rfl, stepU_of [] rfl (by kernel_rfl) ?s11⟩)) (.cons 10 (.inr (.inl ⟨rfl, stepU_of [] rfl (by kernel_rfl) ?s10⟩)) (.cons 9 (.inr (.inr ⟨rfl, step_of [8] rfl (by kernel_rfl) ?s9⟩)) (.cons 8 (.inr (.inl ⟨rfl, stepU_of [4, 7] rfl (by kernel_rfl) ?s8⟩)) (.cons 7 (.inr (.inl ⟨rfl, stepU_of [6] rfl (by kernel_rfl) ?s7⟩)) (.cons 6 (.inr (.inl ⟨rfl, stepU_of [5] rfl (by kernel_rfl) ?s6⟩)) (.cons 5 (.inr (.inl ⟨rfl, stepU_of [] rfl (by kernel_rfl) ?s5⟩)) (.cons 4 (.inr (.inl ⟨rfl, stepU_of [] rfl (by kernel_rfl) ?s4⟩)) (.cons 3 (.inr (.inl ⟨rfl, stepU_of [2] rfl (by kernel_rfl) ?s3⟩)) (.cons 2 (.inr (.inl ⟨rfl, stepU_of [1] rfl (by kernel_rfl) ?s2⟩)) (.cons 1 (.inr (.inl ⟨rfl, stepU_of [] rfl (by kernel_rfl) ?s1⟩)) (.cons 0 (.inr (.inl ⟨rfl, stepU_of [] rfl (by kernel_rfl) ?s0⟩)) (.nil))))))))))))))))) ?sN ?done
   case hR => exact (Below.refl _ _).drew
   case mono => exact GQ_mono
   case s0 =>
    intro x w' hd K' hK
    simp only [AllU, GUQ] at hd
    simp +decide only [upd, GUQ, fillL, if_true, if_false] at hK ⊢
    go_simp
    have hK2 := hK _ rfl
    exact hK2
   case s1 =>
    intro x w' hd K' hK
    simp only [AllU, GUQ] at hd
    simp +decide only [upd, GUQ, fillL, if_true, if_false] at hK ⊢
    go_simp
    have hK2 := hK _ rfl
    exact hK2
   case s2 =>
    intro x w' hd K' hK
    simp only [AllU, GUQ] at hd
    obtain ⟨e1, _⟩ := hd
    simp +decide only [upd, GUQ, fillL, if_true, if_false] at hK ⊢
    simp only [e1] at hK ⊢
    go_simp
    have hK2 := hK _ rfl
    exact hK2
   case s3 =>
    intro x w' hd K' hK
    simp only [AllU, GUQ] at hd
    obtain ⟨e2, _⟩ := hd
    simp +decide only [upd, GUQ, fillL, if_true, if_false] at hK ⊢
    simp only [e2] at hK ⊢
    go_simp
    try simp only [hw]
    try simp only [hw2]
    have hK2 := hK _ rfl
    exact hK2
   case s4 =>
    intro x w' hd K' hK
    simp only [AllU, GUQ] at hd
    simp +decide only [upd, GUQ, fillL, if_true, if_false] at hK ⊢
    go_simp
    have hK2 := hK _ rfl
    exact hK2
   case s5 =>
    intro x w' hd K' hK
    simp only [AllU, GUQ] at hd
    simp +decide only [upd, GUQ, fillL, if_true, if_false] at hK ⊢
    go_simp
    have hK2 := hK _ rfl
    exact hK2
   case s6 =>
    intro x w' hd K' hK
    simp only [AllU, GUQ] at hd
    obtain ⟨e5, _⟩ := hd
    simp +decide only [upd, GUQ, fillL, if_true, if_false] at hK ⊢
    simp only [e5] at hK ⊢
    go_simp
    have hK2 := hK _ rfl
    exact hK2
   case s7 =>
    intro x w' hd K' hK
    simp only [AllU, GUQ] at hd
    obtain ⟨e6, _⟩ := hd
    simp +decide only [upd, GUQ, fillL, if_true, if_false] at hK ⊢
    simp only [e6] at hK ⊢
    go_simp
    try simp only [hw]
    try simp only [hw2]
    have hK2 := hK _ rfl
    exact hK2
   case s8 =>
    intro x w' hd K' hK
    simp only [AllU, GUQ] at hd
    obtain ⟨e4, e7, _⟩ := hd
    simp +decide only [upd, GUQ, fillL, if_true, if_false] at hK ⊢
    simp only [e4, e7] at hK ⊢
    go_simp
    have hK2 := hK _ rfl
    exact hK2
   case s10 =>
    intro x w' hd K' hK
    simp only [AllU, GUQ] at hd
    simp +decide only [upd, GUQ, fillL, if_true, if_false] at hK ⊢
    go_simp
    have hK2 := hK _ rfl
    exact hK2
   case s11 =>
    intro x w' hd K' hK
    simp only [AllU, GUQ] at hd
    simp +decide only [upd, GUQ, fillL, if_true, if_false] at hK ⊢
    go_simp
    have hK2 := hK _ rfl
    exact hK2
   case s12 =>
    intro x w' hd K' hK
    simp only [AllU, GUQ] at hd
    obtain ⟨e10, e11, _⟩ := hd
    simp +decide only [upd, GUQ, fillL, if_true, if_false] at hK ⊢
    simp only [e10, e11] at hK ⊢
    go_simp
    have hK2 := hK _ rfl
    exact hK2
   case s9 =>
    intro x w' hRw hd K' hK
    simp +decide only [All, UQ, GQ, GUQ, if_true, if_false] at hd
    obtain ⟨e8, _⟩ := hd
    simp +decide only [upd, UQ, GQ, GUQ, fillL, if_true, if_false] at hK ⊢
    simp only [e8] at hK ⊢
    have hc9 := (hRw.cell (cell_lt hcell.out)).trans hcell.out
    go_simp
    have hK2 := hK _ _ ⟨hRw, Below.refl _ _, rfl⟩
    exact hK2
   case s13 =>
    intro x w' hRw hd K' hK
    simp +decide only [All, UQ, GQ, GUQ, if_true, if_false] at hd
    obtain ⟨e12, _⟩ := hd
    have tc0 := (hRw.cell (cell_lt c0)).trans c0
    have tc1 := (hRw.cell (cell_lt c1)).trans c1
    have tc2 := (hRw.cell (cell_lt c2)).trans c2
    have tc3 := (hRw.cell (cell_lt c3)).trans c3
    simp +decide only [upd, UQ, GQ, GUQ, fillL, if_true, if_false] at hK ⊢
    simp only [e12] at hK ⊢
    go_simp
    have hK2 := hK _ _ ⟨hRw, Below.refl _ _, rfl⟩
    exact hK2
   case s14 =>
    intro x w' hRw hd K' hK
    simp +decide only [All, UQ, GQ, GUQ, if_true, if_false] at hd
    obtain ⟨e13, _⟩ := hd
    simp +decide only [upd, UQ, GQ, GUQ, fillL, if_true, if_false] at hK ⊢
    simp only [e13] at hK ⊢
    have al : Below w'.heap.size w' (w'.alloc (.cells #[.int .i64 r.n, .int .i64 r.k, .int .i64 r.a, .int .i64 r.g] 70)) := (Below.refl _ _).alloc (Nat.le_refl _) _
    go_simp
    have hK2 := hK _ _ ⟨bthen hRw al, al, w'.heap.size, rfl, four_cells rfl⟩
    exact hK2
   case sN =>
    intro x w6 hR2 hG _ K' hK fr hfr
    have a9 := hG 9 (by omega) rfl
    have a14 := hG 14 (by omega) rfl
    simp only [GQ] at a9 a14
    clear hG
    obtain ⟨gb, a14, hgb⟩ := a14
    have hO6 := hO9.out.below hR2
    have hP6 := hPZ.out.below hR2
    have zW := hDX.out.size
    have z6 := hR2.size
    have hD6 := bthen hDX.out hR2
    have hc6 := (hR2.cell (cell_lt hcell.out)).trans hcell.out
    have hf6 := (hR2.frozen (show (⟨g, psl, none⟩ : Addr).block < _ from hgz)).trans hfro.out
    have h12 : ∀ v7 w7, OwnR 70 w.heap.size w7 v7 (p ++ [r]) → w6.grownBy w7 hl9.ownBlock → (v7.ownBlock = hl9.ownBlock ∨ v7.ownBlock = some w6.heap.size) → FQ w l k g N psl cap v7 w7 := fun v7 w7 h1 h2 h3 => by
     have hne : some g ≠ hl9.ownBlock := by
      have := hP6.off psl (by rw [hpsl.out]; simp)
      rw [getD_snoc_eq _ _ _ (by rw [hlen0.out, hpsl.out])] at this
      rcases this with h | h
      ·rw [h]; simp
      ·exact fun e => h e.symm
     have hgw : g < w6.heap.size := by omega
     refine ⟨slice_is h1, ⟨_, (World.cell?_of_block (h2.block g hgw hne)).trans hc6⟩, (World.frozen?_of_block (h2.block g hgw hne)).trans hf6, ⟨hs0 ++ [v7], ?_⟩, ?_⟩
     ·rw [hstep.out]
      exact hP6.put (slice_one h1) h2 h1 h3 (by rw [hpsl.out])
     ·exact (hD6.grown h2 (by omega) (fun q hq => (own_lt hO6 hq).1)).grown (set_grown _ _ _ _) (by have := h2.size; omega) (fun q hq => by injection hq with hq; omega)
    simp only [fillL] at hfr
    rw [a9, a14] at hfr
    subst hfr
    rw [if_pos (show Region.wanted _ _ = true from rfl)]
    refine wp_app_r rt38 _ _ rfl w.heap.size hl9 p rfl hO6 gb r rfl (four_of hgb) (by omega) (by omega) ?_
    intro v7 w7 hO7 hg7 hat7
    have hK2 := hK v7 w7 (h12 v7 w7 hO7 hg7 hat7)
    simp +decide only [upd, fillL, if_true, if_false, a9, a14] at hK2
    exact hK2
   case done =>
    intro x w7 hF hGu fr hfr
    have a12 : ∃ v7, v7 = x 15 := ⟨_, rfl⟩
    obtain ⟨v7, a12⟩ := a12
    have a0 := hGu 0 (by omega) rfl
    have a3 := hGu 3 (by omega) rfl
    simp only [GUQ] at a0 a3
    clear hGu
    simp only [fillL] at hfr
    rw [← a12] at hF hfr
    replace a12 := hi_ a12
    rw [a0, a3] at hfr
    obtain ⟨⟨A7, n7, c7, k1⟩, ⟨hl8, k2⟩, k3, hPn, hDn⟩ := hF
    subst k1
    subst hfr
    replace hPn := hi_ hPn
    replace hDn := hi_ hDn
    clear a0 a3 hw hw2 c0 c1 c2 c3
    go_wp2
    go_roundw
    case rel => exact ⟨k + 1, by omega, by go_num, hPn.out, hDn.out⟩
    case measure => simp [RowKit.intOf]; omega
  ·obtain ⟨q, pr, hq1, hpr, hpn, hx1⟩ := hprev1.out (by omega)
   obtain ⟨pn, hpne⟩ : ∃ pn, pn = pr.n := ⟨_, rfl⟩
   rw [← hpne] at hpn hx1
   have e0 : ((k : Int) == 0) = false := by simpa using hk0
   have e0n : (k == 0) = false := by simpa using hk0
   have hwk : IntKind.i64.wrap ((k : Int) - 1) = (q : Int) := by rw [IntWalk.i64_in _ (by omega)]; omega
   have hwk2 : (k : Int) - 1 = (q : Int) := by omega
   have hwp : IntKind.i64.wrap (pn + 1) = pn + 1 := IntWalk.i64_in _ (by omega)
   have hqm : q < m := by omega
   have hk1 : (l.getD (k - 1) r0).n = pn := by rw [hpr, hpne]
   have hkr : (l.getD k r0).n = r.n := by rw [hgr.out]
   have hn1 : newP l k = (r.n != pn + 1) := by
    show (k == 0 || (l.getD k r0).n != (l.getD (k - 1) r0).n + 1) = _
    rw [e0n, hk1, hkr]; simp
   replace hn1 := hi_ hn1
   replace hq1 := hi_ hq1
   replace hpr := hi_ hpr
   replace hpne := hi_ hpne
   clear hk1 hkr
   by_cases hnp : r.n = pn + 1
   case neg =>
    have e1 : (r.n != pn + 1) = true := by simpa using hnp
    have hnew : newP l k = true := by rw [hn1.out]; exact e1
    replace hnew := hi_ hnew
    go_quiet (fail)
    obtain ⟨W3, hW3⟩ : ∃ W, W = wr.drewN nq := ⟨_, rfl⟩
    rw [← hW3]
    have hb3 : Below wr.heap.size wr W3 := by rw [hW3]; exact drewN_below _ _
    have hD3 := bthen hD1.out hb3
    clear c0 c1 c2 c3
    have hP3 := hP1.out.below hb3
    clear hx1
    replace hW3 := hi_ hW3
    replace hD3 := hi_ hD3
    replace hP3 := hi_ hP3
    replace hb3 := hi_ hb3
    go_upto_region 6 with (fail)
    have hal : Below W3.heap.size W3 (W3.alloc (.cells #[.slice none 0 0] 38)) := (Below.refl _ _).alloc (Nat.le_refl _) _
    have hP4 := hP3.out.below hal
    have z4 : (W3.alloc (.cells #[.slice none 0 0] 38)).heap.size = W3.heap.size + 1 := World.size_alloc _ _
    have z3 := hD3.out.size
    have hcn : (W3.alloc (.cells #[.slice none 0 0] 38)).cell? ⟨W3.heap.size, 0, none⟩ = some (.slice none 0 0) := by simp
    have hD4 := bthen hD3.out hal
    obtain ⟨PS, hPS⟩ : ∃ PS, PS = partsK l k := ⟨_, rfl⟩
    have zPS : PS.length ≤ 1000000 := by have := parts_len l k; rw [hPS]; omega
    obtain ⟨p, hpe⟩ : ∃ p : List R4, p = [] := ⟨_, rfl⟩
    have zp : p.length ≤ 1000000 := by rw [hpe]; simp
    have hstep : partsK l (k + 1) = PS ++ [p ++ [r]] := by rw [parts_new hnew.out, hPS, hpe, hgr.out]
    rw [← hPS] at hP4
    replace hal := hi_ hal
    replace hP4 := hi_ hP4
    replace hcn := hi_ hcn
    replace hD4 := hi_ hD4
    replace z4 := hi_ z4
    replace hPS := hi_ hPS
    replace hstep := hi_ hstep
    replace hpe := hi_ hpe
    go_upto_region 7 with (at_builtin; refine app_nil Tryz.underlying103 info38 rfl _ _ rfl w.heap.size u3 PS hs rfl hP4.out W3.heap.size rfl hcn.out (by omega) (by rw [z4.out]; omega) ?_; intro vX WX hPX hBX _; have hDX : Below w.heap.size w WX := hD4.out.trans hBX; replace hPX := hi_ hPX; replace hBX := hi_ hBX; replace hDX := hi_ hDX)
    rw [← hpe.out] at hPX
    obtain ⟨hs0, hl9, g, cap, hhs, hlen0, hv9, hcell, hfro, hO9, hBg, hgz⟩ := PG.last hPX.out
    obtain ⟨psl, hpsl⟩ : ∃ n, n = PS.length := ⟨_, rfl⟩
    obtain ⟨N, hN⟩ : ∃ N, N = psl + 1 := ⟨_, rfl⟩
    have hPZ := hPX.out
    rw [hhs, hv9] at hPZ
    rw [← hpsl] at hv9 hcell hfro hPZ zPS
    rw [← hN] at hv9 hPZ
    subst hv9
    have hw : IntKind.i64.wrap ((N : Int) - 1) = (psl : Int) := by rw [IntWalk.i64_in _ (by omega)]; omega
    have hw2 : IntKind.i64.wrap (psl : Int) = (psl : Int) := IntWalk.i64_in _ (by omega)
    have hpl : psl < N := by omega
    replace hpsl := hi_ hpsl
    replace hN := hi_ hN
    replace hPZ := hi_ hPZ
    replace hO9 := hi_ hO9
    replace hhs := hi_ hhs
    replace hlen0 := hi_ hlen0
    replace hcell := hi_ hcell
    replace hfro := hi_ hfro
    obtain ⟨c0, c1, c2, c3⟩ := cw.out WX hDX.out
    refine wp_lin_two (by kernel_rfl) [none, none, none, none, none, none, none, none, none, none, none, none, none, none, none, none, none, none, none, none, none, none, none, none, none, none, none, none, none, none, none, some 0, some 1, some 2, some 3, some 4, some 5, some 6, some 7, some 8, some 9, some 10, some 11, some 12, some 13, some 14, some 15, none, none] (fun w' => Below WX.heap.size WX w') (fun w' w'' => Below w'.heap.size w' w'') (GQ hl9 (.agg #[.int .i64 r.n, .int .i64 r.k, .int .i64 r.a, .int .i64 r.g]) r) (FQ w l k g N psl cap) (GUQ g N psl cap (.slice (some ⟨b, o, none⟩) m c) k b P) UQ (by rfl) (by kernel_rfl) 15 16 _ _ rfl rfl (by decide) (by decide) (by kernel_rfl) (by kernel_rfl) [0, 0, 0, 0, 0, 0, 0, 0, 0, 15, 0, 0, 0, 14, 15] (by kernel_rfl) [16, 16, 16, 16, 16, 16, 16, 16, 16, 16, 16, 16, 16, 16, 16, 16] (by kernel_rfl) ?hR ?mono (.cons 15 (.inl rfl) (.cons 14 (.inr (.inr ⟨rfl, step_of [13] rfl (by kernel_rfl) ?s14⟩)) (.cons 13 (.inr (.inr ⟨rfl, step_of [12] rfl (by kernel_rfl) ?s13⟩)) (.cons 12 (.inr (.inl ⟨rfl, stepU_of [10, 11] rfl (by kernel_rfl) ?s12⟩)) (.cons 11 (.inr (.inl ⟨rfl, stepU_of [] rfl (by kernel_rfl) ?s11⟩)) (.cons 10 (.inr (.inl ⟨rfl, stepU_of [] rfl (by kernel_rfl) ?s10⟩)) (.cons 9 (.inr (.inr ⟨rfl, step_of [8] rfl (by kernel_rfl) ?s9⟩)) (.cons 8 (.inr (.inl ⟨rfl, stepU_of [4, 7] rfl (by kernel_rfl) ?s8⟩)) (.cons 7 (.inr (.inl ⟨rfl, stepU_of [6] rfl (by kernel_rfl) ?s7⟩)) (.cons 6 (.inr (.inl ⟨rfl, stepU_of [5] rfl (by kernel_rfl) ?s6⟩)) (.cons 5 (.inr (.inl ⟨rfl, stepU_of [] rfl (by kernel_rfl) ?s5⟩)) (.cons 4 (.inr (.inl ⟨rfl, stepU_of [] rfl (by kernel_rfl) ?s4⟩)) (.cons 3 (.inr (.inl ⟨rfl, stepU_of [2] rfl (by kernel_rfl) ?s3⟩)) (.cons 2 (.inr (.inl ⟨rfl, stepU_of [1] rfl (by kernel_rfl) ?s2⟩)) (.cons 1 (.inr (.inl ⟨rfl, stepU_of [] rfl (by kernel_rfl) ?s1⟩)) (.cons 0 (.inr (.inl ⟨rfl, stepU_of [] rfl (by kernel_rfl) ?s0⟩)) (.nil))))))))))))))))) ?sN ?done
    case hR => exact (Below.refl _ _).drew
    case mono => exact GQ_mono
    case s0 =>
     intro x w' hd K' hK
     simp only [AllU, GUQ] at hd
     simp +decide only [upd, GUQ, fillL, if_true, if_false] at hK ⊢
     go_simp
     have hK2 := hK _ rfl
     exact hK2
    case s1 =>
     intro x w' hd K' hK
     simp only [AllU, GUQ] at hd
     simp +decide only [upd, GUQ, fillL, if_true, if_false] at hK ⊢
     go_simp
     have hK2 := hK _ rfl
     exact hK2
    case s2 =>
     intro x w' hd K' hK
     simp only [AllU, GUQ] at hd
     obtain ⟨e1, _⟩ := hd
     simp +decide only [upd, GUQ, fillL, if_true, if_false] at hK ⊢
     simp only [e1] at hK ⊢
     go_simp
     have hK2 := hK _ rfl
     exact hK2
    case s3 =>
     intro x w' hd K' hK
     simp only [AllU, GUQ] at hd
     obtain ⟨e2, _⟩ := hd
     simp +decide only [upd, GUQ, fillL, if_true, if_false] at hK ⊢
     simp only [e2] at hK ⊢
     go_simp
     try simp only [hw]
     try simp only [hw2]
     have hK2 := hK _ rfl
     exact hK2
    case s4 =>
     intro x w' hd K' hK
     simp only [AllU, GUQ] at hd
     simp +decide only [upd, GUQ, fillL, if_true, if_false] at hK ⊢
     go_simp
     have hK2 := hK _ rfl
     exact hK2
    case s5 =>
     intro x w' hd K' hK
     simp only [AllU, GUQ] at hd
     simp +decide only [upd, GUQ, fillL, if_true, if_false] at hK ⊢
     go_simp
     have hK2 := hK _ rfl
     exact hK2
    case s6 =>
     intro x w' hd K' hK
     simp only [AllU, GUQ] at hd
     obtain ⟨e5, _⟩ := hd
     simp +decide only [upd, GUQ, fillL, if_true, if_false] at hK ⊢
     simp only [e5] at hK ⊢
     go_simp
     have hK2 := hK _ rfl
     exact hK2
    case s7 =>
     intro x w' hd K' hK
     simp only [AllU, GUQ] at hd
     obtain ⟨e6, _⟩ := hd
     simp +decide only [upd, GUQ, fillL, if_true, if_false] at hK ⊢
     simp only [e6] at hK ⊢
     go_simp
     try simp only [hw]
     try simp only [hw2]
     have hK2 := hK _ rfl
     exact hK2
    case s8 =>
     intro x w' hd K' hK
     simp only [AllU, GUQ] at hd
     obtain ⟨e4, e7, _⟩ := hd
     simp +decide only [upd, GUQ, fillL, if_true, if_false] at hK ⊢
     simp only [e4, e7] at hK ⊢
     go_simp
     have hK2 := hK _ rfl
     exact hK2
    case s10 =>
     intro x w' hd K' hK
     simp only [AllU, GUQ] at hd
     simp +decide only [upd, GUQ, fillL, if_true, if_false] at hK ⊢
     go_simp
     have hK2 := hK _ rfl
     exact hK2
    case s11 =>
     intro x w' hd K' hK
     simp only [AllU, GUQ] at hd
     simp +decide only [upd, GUQ, fillL, if_true, if_false] at hK ⊢
     go_simp
     have hK2 := hK _ rfl
     exact hK2
    case s12 =>
     intro x w' hd K' hK
     simp only [AllU, GUQ] at hd
     obtain ⟨e10, e11, _⟩ := hd
     simp +decide only [upd, GUQ, fillL, if_true, if_false] at hK ⊢
     simp only [e10, e11] at hK ⊢
     go_simp
     have hK2 := hK _ rfl
     exact hK2
    case s9 =>
     intro x w' hRw hd K' hK
     simp +decide only [All, UQ, GQ, GUQ, if_true, if_false] at hd
     obtain ⟨e8, _⟩ := hd
     simp +decide only [upd, UQ, GQ, GUQ, fillL, if_true, if_false] at hK ⊢
     simp only [e8] at hK ⊢
     have hc9 := (hRw.cell (cell_lt hcell.out)).trans hcell.out
     go_simp
     have hK2 := hK _ _ ⟨hRw, Below.refl _ _, rfl⟩
     exact hK2
    case s13 =>
     intro x w' hRw hd K' hK
     simp +decide only [All, UQ, GQ, GUQ, if_true, if_false] at hd
     obtain ⟨e12, _⟩ := hd
     have tc0 := (hRw.cell (cell_lt c0)).trans c0
     have tc1 := (hRw.cell (cell_lt c1)).trans c1
     have tc2 := (hRw.cell (cell_lt c2)).trans c2
     have tc3 := (hRw.cell (cell_lt c3)).trans c3
     simp +decide only [upd, UQ, GQ, GUQ, fillL, if_true, if_false] at hK ⊢
     simp only [e12] at hK ⊢
     go_simp
     have hK2 := hK _ _ ⟨hRw, Below.refl _ _, rfl⟩
     exact hK2
    case s14 =>
     intro x w' hRw hd K' hK
     simp +decide only [All, UQ, GQ, GUQ, if_true, if_false] at hd
     obtain ⟨e13, _⟩ := hd
     simp +decide only [upd, UQ, GQ, GUQ, fillL, if_true, if_false] at hK ⊢
     simp only [e13] at hK ⊢
     have al : Below w'.heap.size w' (w'.alloc (.cells #[.int .i64 r.n, .int .i64 r.k, .int .i64 r.a, .int .i64 r.g] 70)) := (Below.refl _ _).alloc (Nat.le_refl _) _
     go_simp
     have hK2 := hK _ _ ⟨bthen hRw al, al, w'.heap.size, rfl, four_cells rfl⟩
     exact hK2
    case sN =>
     intro x w6 hR2 hG _ K' hK fr hfr
     have a9 := hG 9 (by omega) rfl
     have a14 := hG 14 (by omega) rfl
     simp only [GQ] at a9 a14
     clear hG
     obtain ⟨gb, a14, hgb⟩ := a14
     have hO6 := hO9.out.below hR2
     have hP6 := hPZ.out.below hR2
     have zW := hDX.out.size
     have z6 := hR2.size
     have hD6 := bthen hDX.out hR2
     have hc6 := (hR2.cell (cell_lt hcell.out)).trans hcell.out
     have hf6 := (hR2.frozen (show (⟨g, psl, none⟩ : Addr).block < _ from hgz)).trans hfro.out
     have h12 : ∀ v7 w7, OwnR 70 w.heap.size w7 v7 (p ++ [r]) → w6.grownBy w7 hl9.ownBlock → (v7.ownBlock = hl9.ownBlock ∨ v7.ownBlock = some w6.heap.size) → FQ w l k g N psl cap v7 w7 := fun v7 w7 h1 h2 h3 => by
      have hne : some g ≠ hl9.ownBlock := by
       have := hP6.off psl (by rw [hpsl.out]; simp)
       rw [getD_snoc_eq _ _ _ (by rw [hlen0.out, hpsl.out])] at this
       rcases this with h | h
       ·rw [h]; simp
       ·exact fun e => h e.symm
      have hgw : g < w6.heap.size := by omega
      refine ⟨slice_is h1, ⟨_, (World.cell?_of_block (h2.block g hgw hne)).trans hc6⟩, (World.frozen?_of_block (h2.block g hgw hne)).trans hf6, ⟨hs0 ++ [v7], ?_⟩, ?_⟩
      ·rw [hstep.out]
       exact hP6.put (slice_one h1) h2 h1 h3 (by rw [hpsl.out])
      ·exact (hD6.grown h2 (by omega) (fun q hq => (own_lt hO6 hq).1)).grown (set_grown _ _ _ _) (by have := h2.size; omega) (fun q hq => by injection hq with hq; omega)
     simp only [fillL] at hfr
     rw [a9, a14] at hfr
     subst hfr
     rw [if_pos (show Region.wanted _ _ = true from rfl)]
     refine wp_app_r rt38 _ _ rfl w.heap.size hl9 p rfl hO6 gb r rfl (four_of hgb) (by omega) (by omega) ?_
     intro v7 w7 hO7 hg7 hat7
     have hK2 := hK v7 w7 (h12 v7 w7 hO7 hg7 hat7)
     simp +decide only [upd, fillL, if_true, if_false, a9, a14] at hK2
     exact hK2
    case done =>
     intro x w7 hF hGu fr hfr
     have a12 : ∃ v7, v7 = x 15 := ⟨_, rfl⟩
     obtain ⟨v7, a12⟩ := a12
     have a0 := hGu 0 (by omega) rfl
     have a3 := hGu 3 (by omega) rfl
     simp only [GUQ] at a0 a3
     clear hGu
     simp only [fillL] at hfr
     rw [← a12] at hF hfr
     replace a12 := hi_ a12
     rw [a0, a3] at hfr
     obtain ⟨⟨A7, n7, c7, k1⟩, ⟨hl8, k2⟩, k3, hPn, hDn⟩ := hF
     subst k1
     subst hfr
     replace hPn := hi_ hPn
     replace hDn := hi_ hDn
     clear a0 a3 hw hw2 c0 c1 c2 c3
     go_wp2
     go_roundw
     case rel => exact ⟨k + 1, by omega, by go_num, hPn.out, hDn.out⟩
     case measure => simp [RowKit.intOf]; omega
   have e1 : (r.n != pn + 1) = false := by simpa using hnp
   have hnew : newP l k = false := by rw [hn1.out]; exact e1
   replace hnew := hi_ hnew
   replace hnp := hi_ hnp
   go_quiet (fail)
   obtain ⟨W3, hW3⟩ : ∃ W, W = wr.drewN nq := ⟨_, rfl⟩
   rw [← hW3]
   have hb3 : Below wr.heap.size wr W3 := by rw [hW3]; exact drewN_below _ _
   have hD3 := bthen hD1.out hb3
   clear c0 c1 c2 c3
   have hP3 := hP1.out.below hb3
   clear hx1
   replace hW3 := hi_ hW3
   replace hD3 := hi_ hD3
   replace hP3 := hi_ hP3
   replace hb3 := hi_ hb3
   obtain ⟨PS, p, hPS⟩ := parts_last l k (by omega)
   have hstep : partsK l (k + 1) = PS ++ [p ++ [r]] := by rw [parts_old hnew.out hPS, hgr.out]
   have zPS : PS.length ≤ 1000000 := by have h8 := parts_len l k; rw [hPS] at h8; simp at h8; omega
   have zp : p.length ≤ 1000000 := by have h8 := (part_len l k p (by rw [hPS]; simp)).1; omega
   have hPX := hP3.out
   rw [hPS] at hPX
   replace hPX := hi_ hPX
   replace hPS := hi_ hPS
   replace hstep := hi_ hstep
   obtain ⟨WX, hWX⟩ : ∃ W, W = W3 := ⟨_, rfl⟩
   rw [← hWX] at hPX hD3
   rw [← hWX]
   have hDX := hD3
   replace hWX := hi_ hWX
   go_upto_region 7 with (fail)
   obtain ⟨hs0, hl9, g, cap, hhs, hlen0, hv9, hcell, hfro, hO9, hBg, hgz⟩ := PG.last hPX.out
   obtain ⟨psl, hpsl⟩ : ∃ n, n = PS.length := ⟨_, rfl⟩
   obtain ⟨N, hN⟩ : ∃ N, N = psl + 1 := ⟨_, rfl⟩
   have hPZ := hPX.out
   rw [hhs, hv9] at hPZ
   rw [← hpsl] at hv9 hcell hfro hPZ zPS
   rw [← hN] at hv9 hPZ
   subst hv9
   have hw : IntKind.i64.wrap ((N : Int) - 1) = (psl : Int) := by rw [IntWalk.i64_in _ (by omega)]; omega
   have hw2 : IntKind.i64.wrap (psl : Int) = (psl : Int) := IntWalk.i64_in _ (by omega)
   have hpl : psl < N := by omega
   replace hpsl := hi_ hpsl
   replace hN := hi_ hN
   replace hPZ := hi_ hPZ
   replace hO9 := hi_ hO9
   replace hhs := hi_ hhs
   replace hlen0 := hi_ hlen0
   replace hcell := hi_ hcell
   replace hfro := hi_ hfro
   obtain ⟨c0, c1, c2, c3⟩ := cw.out WX hDX.out
   refine wp_lin_two (by kernel_rfl) [none, none, none, none, none, none, none, none, none, none, none, none, none, none, none, none, none, none, none, none, none, none, none, none, none, none, none, none, none, none, none, some 0, some 1, some 2, some 3, some 4, some 5, some 6, some 7, some 8, some 9, some 10, some 11, some 12, some 13, some 14, some 15, none, none] (fun w' => Below WX.heap.size WX w') (fun w' w'' => Below w'.heap.size w' w'') (GQ hl9 (.agg #[.int .i64 r.n, .int .i64 r.k, .int .i64 r.a, .int .i64 r.g]) r) (FQ w l k g N psl cap) (GUQ g N psl cap (.slice (some ⟨b, o, none⟩) m c) k b P) UQ (by rfl) (by kernel_rfl) 15 16 _ _ rfl rfl (by decide) (by decide) (by kernel_rfl) (by kernel_rfl) [0, 0, 0, 0, 0, 0, 0, 0, 0, 15, 0, 0, 0, 14, 15] (by kernel_rfl) [16, 16, 16, 16, 16, 16, 16, 16, 16, 16, 16, 16, 16, 16, 16, 16] (by kernel_rfl) ?hR ?mono (.cons 15 (.inl rfl) (.cons 14 (.inr (.inr ⟨rfl, step_of [13] rfl (by kernel_rfl) ?s14⟩)) (.cons 13 (.inr (.inr ⟨rfl, step_of [12] rfl (by kernel_rfl) ?s13⟩)) (.cons 12 (.inr (.inl ⟨rfl, stepU_of [10, 11] rfl (by kernel_rfl) ?s12⟩)) (.cons 11 (.inr (.inl ⟨rfl, stepU_of [] rfl (by kernel_rfl) ?s11⟩)) (.cons 10 (.inr (.inl ⟨rfl, stepU_of [] rfl (by kernel_rfl) ?s10⟩)) (.cons 9 (.inr (.inr ⟨rfl, step_of [8] rfl (by kernel_rfl) ?s9⟩)) (.cons 8 (.inr (.inl ⟨rfl, stepU_of [4, 7] rfl (by kernel_rfl) ?s8⟩)) (.cons 7 (.inr (.inl ⟨rfl, stepU_of [6] rfl (by kernel_rfl) ?s7⟩)) (.cons 6 (.inr (.inl ⟨rfl, stepU_of [5] rfl (by kernel_rfl) ?s6⟩)) (.cons 5 (.inr (.inl ⟨rfl, stepU_of [] rfl (by kernel_rfl) ?s5⟩)) (.cons 4 (.inr (.inl ⟨rfl, stepU_of [] rfl (by kernel_rfl) ?s4⟩)) (.cons 3 (.inr (.inl ⟨rfl, stepU_of [2] rfl (by kernel_rfl) ?s3⟩)) (.cons 2 (.inr (.inl ⟨rfl, stepU_of [1] rfl (by kernel_rfl) ?s2⟩)) (.cons 1 (.inr (.inl ⟨rfl, stepU_of [] rfl (by kernel_rfl) ?s1⟩)) (.cons 0 (.inr (.inl ⟨rfl, stepU_of [] rfl (by kernel_rfl) ?s0⟩)) (.nil))))))))))))))))) ?sN ?done
   case hR => exact (Below.refl _ _).drew
   case mono => exact GQ_mono
   case s0 =>
    intro x w' hd K' hK
    simp only [AllU, GUQ] at hd
    simp +decide only [upd, GUQ, fillL, if_true, if_false] at hK ⊢
    go_simp
    have hK2 := hK _ rfl
    exact hK2
   case s1 =>
    intro x w' hd K' hK
    simp only [AllU, GUQ] at hd
    simp +decide only [upd, GUQ, fillL, if_true, if_false] at hK ⊢
    go_simp
    have hK2 := hK _ rfl
    exact hK2
   case s2 =>
    intro x w' hd K' hK
    simp only [AllU, GUQ] at hd
    obtain ⟨e1, _⟩ := hd
    simp +decide only [upd, GUQ, fillL, if_true, if_false] at hK ⊢
    simp only [e1] at hK ⊢
    go_simp
    have hK2 := hK _ rfl
    exact hK2
   case s3 =>
    intro x w' hd K' hK
    simp only [AllU, GUQ] at hd
    obtain ⟨e2, _⟩ := hd
    simp +decide only [upd, GUQ, fillL, if_true, if_false] at hK ⊢
    simp only [e2] at hK ⊢
    go_simp
    try simp only [hw]
    try simp only [hw2]
    have hK2 := hK _ rfl
    exact hK2
   case s4 =>
    intro x w' hd K' hK
    simp only [AllU, GUQ] at hd
    simp +decide only [upd, GUQ, fillL, if_true, if_false] at hK ⊢
    go_simp
    have hK2 := hK _ rfl
    exact hK2
   case s5 =>
    intro x w' hd K' hK
    simp only [AllU, GUQ] at hd
    simp +decide only [upd, GUQ, fillL, if_true, if_false] at hK ⊢
    go_simp
    have hK2 := hK _ rfl
    exact hK2
   case s6 =>
    intro x w' hd K' hK
    simp only [AllU, GUQ] at hd
    obtain ⟨e5, _⟩ := hd
    simp +decide only [upd, GUQ, fillL, if_true, if_false] at hK ⊢
    simp only [e5] at hK ⊢
    go_simp
    have hK2 := hK _ rfl
    exact hK2
   case s7 =>
    intro x w' hd K' hK
    simp only [AllU, GUQ] at hd
    obtain ⟨e6, _⟩ := hd
    simp +decide only [upd, GUQ, fillL, if_true, if_false] at hK ⊢
    simp only [e6] at hK ⊢
    go_simp
    try simp only [hw]
    try simp only [hw2]
    have hK2 := hK _ rfl
    exact hK2
   case s8 =>
    intro x w' hd K' hK
    simp only [AllU, GUQ] at hd
    obtain ⟨e4, e7, _⟩ := hd
    simp +decide only [upd, GUQ, fillL, if_true, if_false] at hK ⊢
    simp only [e4, e7] at hK ⊢
    go_simp
    have hK2 := hK _ rfl
    exact hK2
   case s10 =>
    intro x w' hd K' hK
    simp only [AllU, GUQ] at hd
    simp +decide only [upd, GUQ, fillL, if_true, if_false] at hK ⊢
    go_simp
    have hK2 := hK _ rfl
    exact hK2
   case s11 =>
    intro x w' hd K' hK
    simp only [AllU, GUQ] at hd
    simp +decide only [upd, GUQ, fillL, if_true, if_false] at hK ⊢
    go_simp
    have hK2 := hK _ rfl
    exact hK2
   case s12 =>
    intro x w' hd K' hK
    simp only [AllU, GUQ] at hd
    obtain ⟨e10, e11, _⟩ := hd
    simp +decide only [upd, GUQ, fillL, if_true, if_false] at hK ⊢
    simp only [e10, e11] at hK ⊢
    go_simp
    have hK2 := hK _ rfl
    exact hK2
   case s9 =>
    intro x w' hRw hd K' hK
    simp +decide only [All, UQ, GQ, GUQ, if_true, if_false] at hd
    obtain ⟨e8, _⟩ := hd
    simp +decide only [upd, UQ, GQ, GUQ, fillL, if_true, if_false] at hK ⊢
    simp only [e8] at hK ⊢
    have hc9 := (hRw.cell (cell_lt hcell.out)).trans hcell.out
    go_simp
    have hK2 := hK _ _ ⟨hRw, Below.refl _ _, rfl⟩
    exact hK2
   case s13 =>
    intro x w' hRw hd K' hK
    simp +decide only [All, UQ, GQ, GUQ, if_true, if_false] at hd
    obtain ⟨e12, _⟩ := hd
    have tc0 := (hRw.cell (cell_lt c0)).trans c0
    have tc1 := (hRw.cell (cell_lt c1)).trans c1
    have tc2 := (hRw.cell (cell_lt c2)).trans c2
    have tc3 := (hRw.cell (cell_lt c3)).trans c3
    simp +decide only [upd, UQ, GQ, GUQ, fillL, if_true, if_false] at hK ⊢
    simp only [e12] at hK ⊢
    go_simp
    have hK2 := hK _ _ ⟨hRw, Below.refl _ _, rfl⟩
    exact hK2
   case s14 =>
    intro x w' hRw hd K' hK
    simp +decide only [All, UQ, GQ, GUQ, if_true, if_false] at hd
    obtain ⟨e13, _⟩ := hd
    simp +decide only [upd, UQ, GQ, GUQ, fillL, if_true, if_false] at hK ⊢
    simp only [e13] at hK ⊢
    have al : Below w'.heap.size w' (w'.alloc (.cells #[.int .i64 r.n, .int .i64 r.k, .int .i64 r.a, .int .i64 r.g] 70)) := (Below.refl _ _).alloc (Nat.le_refl _) _
    go_simp
    have hK2 := hK _ _ ⟨bthen hRw al, al, w'.heap.size, rfl, four_cells rfl⟩
    exact hK2
   case sN =>
    intro x w6 hR2 hG _ K' hK fr hfr
    have a9 := hG 9 (by omega) rfl
    have a14 := hG 14 (by omega) rfl
    simp only [GQ] at a9 a14
    clear hG
    obtain ⟨gb, a14, hgb⟩ := a14
    have hO6 := hO9.out.below hR2
    have hP6 := hPZ.out.below hR2
    have zW := hDX.out.size
    have z6 := hR2.size
    have hD6 := bthen hDX.out hR2
    have hc6 := (hR2.cell (cell_lt hcell.out)).trans hcell.out
    have hf6 := (hR2.frozen (show (⟨g, psl, none⟩ : Addr).block < _ from hgz)).trans hfro.out
    have h12 : ∀ v7 w7, OwnR 70 w.heap.size w7 v7 (p ++ [r]) → w6.grownBy w7 hl9.ownBlock → (v7.ownBlock = hl9.ownBlock ∨ v7.ownBlock = some w6.heap.size) → FQ w l k g N psl cap v7 w7 := fun v7 w7 h1 h2 h3 => by
     have hne : some g ≠ hl9.ownBlock := by
      have := hP6.off psl (by rw [hpsl.out]; simp)
      rw [getD_snoc_eq _ _ _ (by rw [hlen0.out, hpsl.out])] at this
      rcases this with h | h
      ·rw [h]; simp
      ·exact fun e => h e.symm
     have hgw : g < w6.heap.size := by omega
     refine ⟨slice_is h1, ⟨_, (World.cell?_of_block (h2.block g hgw hne)).trans hc6⟩, (World.frozen?_of_block (h2.block g hgw hne)).trans hf6, ⟨hs0 ++ [v7], ?_⟩, ?_⟩
     ·rw [hstep.out]
      exact hP6.put (slice_one h1) h2 h1 h3 (by rw [hpsl.out])
     ·exact (hD6.grown h2 (by omega) (fun q hq => (own_lt hO6 hq).1)).grown (set_grown _ _ _ _) (by have := h2.size; omega) (fun q hq => by injection hq with hq; omega)
    simp only [fillL] at hfr
    rw [a9, a14] at hfr
    subst hfr
    rw [if_pos (show Region.wanted _ _ = true from rfl)]
    refine wp_app_r rt38 _ _ rfl w.heap.size hl9 p rfl hO6 gb r rfl (four_of hgb) (by omega) (by omega) ?_
    intro v7 w7 hO7 hg7 hat7
    have hK2 := hK v7 w7 (h12 v7 w7 hO7 hg7 hat7)
    simp +decide only [upd, fillL, if_true, if_false, a9, a14] at hK2
    exact hK2
   case done =>
    intro x w7 hF hGu fr hfr
    have a12 : ∃ v7, v7 = x 15 := ⟨_, rfl⟩
    obtain ⟨v7, a12⟩ := a12
    have a0 := hGu 0 (by omega) rfl
    have a3 := hGu 3 (by omega) rfl
    simp only [GUQ] at a0 a3
    clear hGu
    simp only [fillL] at hfr
    rw [← a12] at hF hfr
    replace a12 := hi_ a12
    rw [a0, a3] at hfr
    obtain ⟨⟨A7, n7, c7, k1⟩, ⟨hl8, k2⟩, k3, hPn, hDn⟩ := hF
    subst k1
    subst hfr
    replace hPn := hi_ hPn
    replace hDn := hi_ hDn
    clear a0 a3 hw hw2 c0 c1 c2 c3
    go_wp2
    go_roundw
    case rel => exact ⟨k + 1, by omega, by go_num, hPn.out, hDn.out⟩
    case measure => simp [RowKit.intOf]; omega

/- The first row of a number, by the program and by the document. No condition. -/
def zeroR : R4 := ⟨0, 0, 0, 0⟩
def lookR (l : List R4) (num : Int) : R4 := (l.find? fun r => r.n == num).getD zeroR
def hasR (l : List R4) (num : Int) : Bool := (l.find? fun r => r.n == num).isSome
theorem look_at {l : List R4} {num : Int} {i : Nat} (hi : i < l.length) (hp : ∀ j (h : j < i), (l[j].n == num) = false) (hq : (l[i].n == num) = true) : lookR l num = l[i] ∧ hasR l num = true := by
 have : (l.find? fun r => r.n == num) = some l[i] := by
  rw [List.find?_eq_some_iff_getElem]
  exact ⟨hq, i, hi, rfl, fun j hj => by simpa using hp j hj⟩
 unfold lookR hasR
 rw [this]; exact ⟨rfl, rfl⟩
theorem look_no {l : List R4} {num : Int} (hp : ∀ j (h : j < l.length), (l[j].n == num) = false) : lookR l num = zeroR ∧ hasR l num = false := by
 have : (l.find? fun r => r.n == num) = none := by
  rw [List.find?_eq_none]
  intro x hx
  obtain ⟨j, hj, rfl⟩ := List.getElem_of_mem hx
  simpa using hp j hj
 unfold lookR hasR
 rw [this]; exact ⟨rfl, rfl⟩
theorem set_gr (w : World) (g i : Nat) (v : Value) : w.grownBy (w.setCell ⟨g, i, none⟩ v) (some g) :=
 ⟨rfl, rfl, rfl, by simp [World.setCell], fun k _ hk => Below.heap_setCell _ _ _ _ (fun e => hk (by rw [e]))⟩
theorem set_four {w : World} {R : Nat} {t : TypeId} {z0 z1 z2 z3 u0 u1 u2 u3 : Value} (hR : Blk w R t #[z0, z1, z2, z3]) {Wf : World}
 (hWf : Wf = (((w.setCell ⟨R, 0, none⟩ u0).setCell ⟨R, 1, none⟩ u1).setCell ⟨R, 2, none⟩ u2).setCell ⟨R, 3, none⟩ u3) :
 Blk Wf R t #[u0, u1, u2, u3] ∧ w.grownBy Wf (some R) ∧ Wf.heap.size = w.heap.size := by
 have hg : w.grownBy Wf (some R) := by
  rw [hWf]
  exact (((set_gr _ _ _ _).trans (set_gr _ _ _ _)).trans (set_gr _ _ _ _)).trans (set_gr _ _ _ _)
 refine ⟨?_, hg, by rw [hWf]; simp [World.setCell]⟩
 rw [hWf]; exact (((hR.set_ 0 u0).set_ 1 u1).set_ 2 u2).set_ 3 u3
set_option maxHeartbeats 8000000 in
set_option maxRecDepth 100000 in
theorem tab_Lookup (A : Option Addr) (c : Nat) (l : List R4) (num : Int) (w : World) (h : RowsAt w A l) (hl : l.length ≤ 1000000) : Calls Tryz.prog 20 #[.slice A l.length c, .int .i64 num] w fun e w' => e = .returned (.tuple #[.agg (rv (lookR l num)).toArray, .bool (hasR l num)]) ∧ Below w.heap.size w w' := by
 obtain ⟨m, hm⟩ : ∃ m, m = l.length := ⟨_, rfl⟩
 rw [← hm] at hl ⊢
 obtain ⟨fr, hfr⟩ : ∃ r, r = lookR l num := ⟨_, rfl⟩
 obtain ⟨fb, hfb⟩ : ∃ r, r = hasR l num := ⟨_, rfl⟩
 rw [← hfr, ← hfb]
 have hnf : (∀ j (h : j < l.length), (l[j].n == num) = false) → fr = zeroR ∧ fb = false := fun hp => by rw [hfr, hfb]; exact look_no hp
 have hyf : ∀ i (hi : i < l.length), (∀ j (h : j < i), (l[j].n == num) = false) → (l[i].n == num) = true → fr = l[i] ∧ fb = true := fun i hi hp hq => by rw [hfr, hfb]; exact look_at hi hp hq
 have hR0 : Blk (w.alloc (.cells #[.int .i64 0, .int .i64 0, .int .i64 0, .int .i64 0] 64)) w.heap.size 64 #[.int .i64 0, .int .i64 0, .int .i64 0, .int .i64 0] := Blk.new w 64 _
 have hb0 : Below w.heap.size w (w.alloc (.cells #[.int .i64 0, .int .i64 0, .int .i64 0, .int .i64 0] 64)) := (Below.refl _ _).alloc (Nat.le_refl _) _
 have z0 : (w.alloc (.cells #[.int .i64 0, .int .i64 0, .int .i64 0, .int .i64 0] 64)).heap.size = w.heap.size + 1 := World.size_alloc _ _
 obtain ⟨W1, hW1⟩ : ∃ W, W = w.alloc (.cells #[.int .i64 0, .int .i64 0, .int .i64 0, .int .i64 0] 64) := ⟨_, rfl⟩
 rw [← hW1] at hR0 hb0 z0
 replace hm := hi_ hm
 replace h := hi_ h
 replace hnf := hi_ hnf
 replace hyf := hi_ hyf
 replace hR0 := hi_ hR0
 replace hb0 := hi_ hb0
 replace z0 := hi_ z0
 clear hfr hfb
 go_enter Tryz.func20, Tryz.ntmps20
 go_upto_region 1 with (fail)
 rw [← hW1]
 replace hW1 := hi_ hW1
 go_wp2
 go_loopw [10] (fun s10 wr => ∃ k : Nat, k ≤ m ∧ s10 = .int .i64 k ∧ (∀ j (hj : j < l.length), j < k → (l[j].n == num) = false) ∧ Blk wr w.heap.size 64 #[.int .i64 0, .int .i64 0, .int .i64 0, .int .i64 0] ∧ Below w.heap.size w wr ∧ W1.heap.size ≤ wr.heap.size) (fun s10 _ => m - (RowKit.intOf s10).toNat)
 case atStart => exact ⟨0, by omega, rfl, fun j _ hj => by omega, hR0.out, hb0.out, Nat.le_refl _⟩
 case round =>
  rename_i wr
  obtain ⟨k, hk, rfl, hpre, hBk, hB, hz⟩ := hrel
  by_cases hkm : k < m
  ·have hkl : k < l.length := by rw [← hm.out]; exact hkm
   obtain ⟨b, o, rfl, hc⟩ := h.out.2 (by omega)
   have hc4 := hc k hkl
   obtain ⟨r, hr⟩ : ∃ r, r = l[k] := ⟨_, rfl⟩
   rw [← hr] at hc4
   obtain ⟨P, hP0⟩ : ∃ P, P = o + k * 4 := ⟨_, rfl⟩
   have hP2 : o + k * 4 = P := hP0.symm
   rw [hP2] at hc4
   have y0 := (hB.cell (cell_lt (hc4 0 _ rfl))).trans (hc4 0 _ rfl)
   have y1 := (hB.cell (cell_lt (hc4 1 _ rfl))).trans (hc4 1 _ rfl)
   have y2 := (hB.cell (cell_lt (hc4 2 _ rfl))).trans (hc4 2 _ rfl)
   have y3 := (hB.cell (cell_lt (hc4 3 _ rfl))).trans (hc4 3 _ rfl)
   simp only [Nat.add_zero] at y0
   clear hc hc4
   replace hP0 := hi_ hP0
   replace hr := hi_ hr
   obtain ⟨W2, hW2⟩ : ∃ W, W = wr.alloc (.cells #[.int .i64 r.n, .int .i64 r.k, .int .i64 r.a, .int .i64 r.g] 64) := ⟨_, rfl⟩
   have hb2 : Below wr.heap.size wr W2 := by rw [hW2]; exact (Below.refl _ _).alloc (Nat.le_refl _) _
   obtain ⟨c0, c1, c2, c3⟩ := four_cells hW2
   have hBk2 := hBk.below hb2 hBk.lt
   have hD2 := bthen hB hb2
   have zz := hb2.size
   have q0 := hBk2.cell 0
   have q1 := hBk2.cell 1
   have q2 := hBk2.cell 2
   have q3 := hBk2.cell 3
   have v0 := hBk2.frozen 0
   have v1 := hBk2.frozen 1
   have v2 := hBk2.frozen 2
   have v3 := hBk2.frozen 3
   have z0' := z0.out
   have hz2 : W1.heap.size ≤ W2.heap.size := by omega
   replace hBk := hi_ hBk
   replace hBk2 := hi_ hBk2
   replace hb2 := hi_ hb2
   replace hD2 := hi_ hD2
   replace hB := hi_ hB
   replace hpre := hi_ hpre
   clear z0'
   go_upto_region 4 with (fail)
   rw [← hW2]
   replace hW2 := hi_ hW2
   clear y0 y1 y2 y3
   cases hq : (r.n == num) with
   | true =>
    obtain ⟨e1, e2⟩ := hyf.out k hkl (fun j hj => hpre.out j (by omega) hj) (by rw [← hr.out]; exact hq)
    rw [← hr.out] at e1
    subst e1
    subst e2
    go_wp2
    obtain ⟨Wf, hWf⟩ : ∃ W, W = (((W2.setCell ⟨w.heap.size, 0, none⟩ (.int .i64 fr.n)).setCell ⟨w.heap.size, 1, none⟩ (.int .i64 fr.k)).setCell ⟨w.heap.size, 2, none⟩ (.int .i64 fr.a)).setCell ⟨w.heap.size, 3, none⟩ (.int .i64 fr.g) := ⟨_, rfl⟩
    rw [← hWf]
    obtain ⟨hbf, hgf, hzf⟩ := set_four hBk2.out hWf
    have u0 := hbf.cell 0
    have u1 := hbf.cell 1
    have u2 := hbf.cell 2
    have u3 := hbf.cell 3
    have hBf : Below w.heap.size w Wf := hD2.out.grown hgf hD2.out.size (fun q hq => by injection hq with hq; omega)
    replace hBf := hi_ hBf
    clear hbf hgf
    replace hWf := hi_ hWf
    exact bodyPost_ret (by simp [results, Tryz.results20, go_sem, u0, u1, u2, u3]; try rfl) rfl ⟨rfl, hBf.out⟩
   | false =>
    go_wp2
    go_roundw
    case rel => exact ⟨k + 1, by omega, by go_num, fun j hj hjk => by
     by_cases hjk2 : j = k
     ·subst hjk2; have e9 := hr.out; rw [← e9]; exact hq
     ·exact hpre.out j hj (by omega), hBk2.out, hD2.out, hz2⟩
    case measure => simp [RowKit.intOf]; omega
  ·obtain rfl : k = m := by omega
   obtain ⟨e1, e2⟩ := hnf.out (fun j hj => hpre j hj (by rw [hm.out]; exact hj))
   subst e1
   subst e2
   have q0 := hBk.cell 0
   have q1 := hBk.cell 1
   have q2 := hBk.cell 2
   have q3 := hBk.cell 3
   have v0 := hBk.frozen 0
   have v1 := hBk.frozen 1
   have v2 := hBk.frozen 2
   have v3 := hBk.frozen 3
   replace hBk := hi_ hBk
   replace hB := hi_ hB
   replace hpre := hi_ hpre
   go_wp2
   obtain ⟨Wf, hWf⟩ : ∃ W, W = (((wr.setCell ⟨w.heap.size, 0, none⟩ (.int .i64 0)).setCell ⟨w.heap.size, 1, none⟩ (.int .i64 0)).setCell ⟨w.heap.size, 2, none⟩ (.int .i64 0)).setCell ⟨w.heap.size, 3, none⟩ (.int .i64 0) := ⟨_, rfl⟩
   rw [← hWf]
   obtain ⟨hbf, hgf, hzf⟩ := set_four hBk.out hWf
   have u0 := hbf.cell 0
   have u1 := hbf.cell 1
   have u2 := hbf.cell 2
   have u3 := hbf.cell 3
   have hBf : Below w.heap.size w Wf := hB.out.grown hgf hB.out.size (fun q hq => by injection hq with hq; omega)
   replace hBf := hi_ hBf
   clear hbf hgf
   replace hWf := hi_ hWf
   exact bodyPost_ret (by simp [results, Tryz.results20, go_sem, u0, u1, u2, u3]; try rfl) rfl ⟨rfl, hBf.out⟩

/- The first row of a number, by the document. No condition. -/
set_option maxHeartbeats 8000000 in
set_option maxRecDepth 100000 in
theorem ref_Lookup (A : Option Addr) (c : Nat) (l : List R4) (num : Int) (w : World) (h : RowsAt w A l) (hl : l.length ≤ 1000000) : Calls Tryz.prog 22 #[.slice A l.length c, .int .i64 num] w fun e w' => e = .returned (.tuple #[.agg (rv (lookR l num)).toArray, .bool (hasR l num)]) ∧ Below w.heap.size w w' := by
 obtain ⟨m, hm⟩ : ∃ m, m = l.length := ⟨_, rfl⟩
 rw [← hm] at hl ⊢
 obtain ⟨fr, hfr⟩ : ∃ r, r = lookR l num := ⟨_, rfl⟩
 obtain ⟨fb, hfb⟩ : ∃ r, r = hasR l num := ⟨_, rfl⟩
 rw [← hfr, ← hfb]
 have hnf : (∀ j (h : j < l.length), (l[j].n == num) = false) → fr = zeroR ∧ fb = false := fun hp => by rw [hfr, hfb]; exact look_no hp
 have hyf : ∀ i (hi : i < l.length), (∀ j (h : j < i), (l[j].n == num) = false) → (l[i].n == num) = true → fr = l[i] ∧ fb = true := fun i hi hp hq => by rw [hfr, hfb]; exact look_at hi hp hq
 have hR0 : Blk (w.alloc (.cells #[.int .i64 0, .int .i64 0, .int .i64 0, .int .i64 0] 70)) w.heap.size 70 #[.int .i64 0, .int .i64 0, .int .i64 0, .int .i64 0] := Blk.new w 70 _
 have hb0 : Below w.heap.size w (w.alloc (.cells #[.int .i64 0, .int .i64 0, .int .i64 0, .int .i64 0] 70)) := (Below.refl _ _).alloc (Nat.le_refl _) _
 have z0 : (w.alloc (.cells #[.int .i64 0, .int .i64 0, .int .i64 0, .int .i64 0] 70)).heap.size = w.heap.size + 1 := World.size_alloc _ _
 obtain ⟨W1, hW1⟩ : ∃ W, W = w.alloc (.cells #[.int .i64 0, .int .i64 0, .int .i64 0, .int .i64 0] 70) := ⟨_, rfl⟩
 rw [← hW1] at hR0 hb0 z0
 replace hm := hi_ hm
 replace h := hi_ h
 replace hnf := hi_ hnf
 replace hyf := hi_ hyf
 replace hR0 := hi_ hR0
 replace hb0 := hi_ hb0
 replace z0 := hi_ z0
 clear hfr hfb
 go_enter Tryz.func22, Tryz.ntmps22
 go_upto_region 1 with (fail)
 rw [← hW1]
 replace hW1 := hi_ hW1
 go_wp2
 go_loopw [6] (fun s10 wr => ∃ k : Nat, k ≤ m ∧ s10 = .int .i64 k ∧ (∀ j (hj : j < l.length), j < k → (l[j].n == num) = false) ∧ Blk wr w.heap.size 70 #[.int .i64 0, .int .i64 0, .int .i64 0, .int .i64 0] ∧ Below w.heap.size w wr ∧ W1.heap.size ≤ wr.heap.size) (fun s10 _ => m - (RowKit.intOf s10).toNat)
 case atStart => exact ⟨0, by omega, rfl, fun j _ hj => by omega, hR0.out, hb0.out, Nat.le_refl _⟩
 case round =>
  rename_i wr
  obtain ⟨k, hk, rfl, hpre, hBk, hB, hz⟩ := hrel
  by_cases hkm : k < m
  ·have hkl : k < l.length := by rw [← hm.out]; exact hkm
   obtain ⟨b, o, rfl, hc⟩ := h.out.2 (by omega)
   have hc4 := hc k hkl
   obtain ⟨r, hr⟩ : ∃ r, r = l[k] := ⟨_, rfl⟩
   rw [← hr] at hc4
   obtain ⟨P, hP0⟩ : ∃ P, P = o + k * 4 := ⟨_, rfl⟩
   have hP2 : o + k * 4 = P := hP0.symm
   rw [hP2] at hc4
   have y0 := (hB.cell (cell_lt (hc4 0 _ rfl))).trans (hc4 0 _ rfl)
   have y1 := (hB.cell (cell_lt (hc4 1 _ rfl))).trans (hc4 1 _ rfl)
   have y2 := (hB.cell (cell_lt (hc4 2 _ rfl))).trans (hc4 2 _ rfl)
   have y3 := (hB.cell (cell_lt (hc4 3 _ rfl))).trans (hc4 3 _ rfl)
   simp only [Nat.add_zero] at y0
   clear hc hc4
   replace hP0 := hi_ hP0
   replace hr := hi_ hr
   obtain ⟨W2, hW2⟩ : ∃ W, W = wr := ⟨_, rfl⟩
   rw [← hW2] at hBk hB hz y0 y1 y2 y3
   rw [← hW2]
   have hBk2 := hBk
   have hD2 := hB
   have q0 := hBk2.cell 0
   have q1 := hBk2.cell 1
   have q2 := hBk2.cell 2
   have q3 := hBk2.cell 3
   have v0 := hBk2.frozen 0
   have v1 := hBk2.frozen 1
   have v2 := hBk2.frozen 2
   have v3 := hBk2.frozen 3
   have z0' := z0.out
   have hz2 : W1.heap.size ≤ W2.heap.size := hz
   replace hBk := hi_ hBk
   replace hBk2 := hi_ hBk2
   replace hD2 := hi_ hD2
   replace hB := hi_ hB
   replace hpre := hi_ hpre
   clear z0'
   replace hW2 := hi_ hW2
   cases hq : (r.n == num) with
   | true =>
    obtain ⟨e1, e2⟩ := hyf.out k hkl (fun j hj => hpre.out j (by omega) hj) (by rw [← hr.out]; exact hq)
    rw [← hr.out] at e1
    subst e1
    subst e2
    go_wp2
    obtain ⟨Wf, hWf⟩ : ∃ W, W = (((W2.setCell ⟨w.heap.size, 0, none⟩ (.int .i64 fr.n)).setCell ⟨w.heap.size, 1, none⟩ (.int .i64 fr.k)).setCell ⟨w.heap.size, 2, none⟩ (.int .i64 fr.a)).setCell ⟨w.heap.size, 3, none⟩ (.int .i64 fr.g) := ⟨_, rfl⟩
    rw [← hWf]
    obtain ⟨hbf, hgf, hzf⟩ := set_four hBk2.out hWf
    have u0 := hbf.cell 0
    have u1 := hbf.cell 1
    have u2 := hbf.cell 2
    have u3 := hbf.cell 3
    have hBf : Below w.heap.size w Wf := hD2.out.grown hgf hD2.out.size (fun q hq => by injection hq with hq; omega)
    replace hBf := hi_ hBf
    clear hbf hgf
    replace hWf := hi_ hWf
    exact bodyPost_ret (by simp [results, Tryz.results22, go_sem, u0, u1, u2, u3]; try rfl) rfl ⟨rfl, hBf.out⟩
   | false =>
    go_wp2
    go_roundw
    case rel => exact ⟨k + 1, by omega, by go_num, fun j hj hjk => by
     by_cases hjk2 : j = k
     ·subst hjk2; have e9 := hr.out; rw [← e9]; exact hq
     ·exact hpre.out j hj (by omega), hBk2.out, hD2.out, hz2⟩
    case measure => simp [RowKit.intOf]; omega
  ·obtain rfl : k = m := by omega
   obtain ⟨e1, e2⟩ := hnf.out (fun j hj => hpre j hj (by rw [hm.out]; exact hj))
   subst e1
   subst e2
   have q0 := hBk.cell 0
   have q1 := hBk.cell 1
   have q2 := hBk.cell 2
   have q3 := hBk.cell 3
   have v0 := hBk.frozen 0
   have v1 := hBk.frozen 1
   have v2 := hBk.frozen 2
   have v3 := hBk.frozen 3
   replace hBk := hi_ hBk
   replace hB := hi_ hB
   replace hpre := hi_ hpre
   go_wp2
   obtain ⟨Wf, hWf⟩ : ∃ W, W = (((wr.setCell ⟨w.heap.size, 0, none⟩ (.int .i64 0)).setCell ⟨w.heap.size, 1, none⟩ (.int .i64 0)).setCell ⟨w.heap.size, 2, none⟩ (.int .i64 0)).setCell ⟨w.heap.size, 3, none⟩ (.int .i64 0) := ⟨_, rfl⟩
   rw [← hWf]
   obtain ⟨hbf, hgf, hzf⟩ := set_four hBk.out hWf
   have u0 := hbf.cell 0
   have u1 := hbf.cell 1
   have u2 := hbf.cell 2
   have u3 := hbf.cell 3
   have hBf : Below w.heap.size w Wf := hB.out.grown hgf hB.out.size (fun q hq => by injection hq with hq; omega)
   replace hBf := hi_ hBf
   clear hbf hgf
   replace hWf := hi_ hWf
   exact bodyPost_ret (by simp [results, Tryz.results22, go_sem, u0, u1, u2, u3]; try rfl) rfl ⟨rfl, hBf.out⟩

/- Two lists of rows that are the same. No condition. -/
theorem drewN_bl (w : World) (n : Nat) : Below w.heap.size w (w.drewN n) := ⟨rfl, rfl, rfl, Nat.le_refl _, fun _ _ => rfl⟩
set_option maxHeartbeats 8000000 in
set_option maxRecDepth 100000 in
theorem law_Same (A A' : Option Addr) (c c' : Nat) (l : List R4) (w : World) (h : RowsAt w A l) (h' : RowsAt w A' l) (hl : l.length ≤ 1000000) : Calls Tryz.prog 12 #[.slice A l.length c, .slice A' l.length c'] w fun e w' => e = .returned (.bool true) ∧ Below w.heap.size w w' := by
 obtain ⟨m, hm⟩ : ∃ m, m = l.length := ⟨_, rfl⟩
 rw [← hm] at hl ⊢
 replace hm := hi_ hm
 replace h := hi_ h
 replace h' := hi_ h'
 go_enter Tryz.func12, Tryz.ntmps12
 go_wp2
 go_loopw [5] (fun s5 wr => ∃ k : Nat, k ≤ m ∧ s5 = .int .i64 k ∧ Below w.heap.size w wr) (fun s5 _ => m - (RowKit.intOf s5).toNat)
 case atStart => exact ⟨0, by omega, rfl, Below.refl _ _⟩
 case round =>
  rename_i wr
  obtain ⟨k, hk, rfl, hB⟩ := hrel
  by_cases hkm : k < m
  ·have hkl : k < l.length := by rw [← hm.out]; exact hkm
   obtain ⟨b, o, rfl, hc⟩ := h.out.2 (by omega)
   obtain ⟨b', o', rfl, hc'⟩ := h'.out.2 (by omega)
   have hc4 := hc k hkl
   have hc4' := hc' k hkl
   obtain ⟨r, hr⟩ : ∃ r, r = l[k] := ⟨_, rfl⟩
   rw [← hr] at hc4 hc4'
   obtain ⟨P, hP0⟩ : ∃ P, P = o + k * 4 := ⟨_, rfl⟩
   have hP2 : o + k * 4 = P := hP0.symm
   obtain ⟨P', hP0'⟩ : ∃ P, P = o' + k * 4 := ⟨_, rfl⟩
   have hP2' : o' + k * 4 = P' := hP0'.symm
   rw [hP2] at hc4
   rw [hP2'] at hc4'
   have y0 := (hB.cell (cell_lt (hc4 0 _ rfl))).trans (hc4 0 _ rfl)
   have y1 := (hB.cell (cell_lt (hc4 1 _ rfl))).trans (hc4 1 _ rfl)
   have y2 := (hB.cell (cell_lt (hc4 2 _ rfl))).trans (hc4 2 _ rfl)
   have y3 := (hB.cell (cell_lt (hc4 3 _ rfl))).trans (hc4 3 _ rfl)
   have x0 := (hB.cell (cell_lt (hc4' 0 _ rfl))).trans (hc4' 0 _ rfl)
   have x1 := (hB.cell (cell_lt (hc4' 1 _ rfl))).trans (hc4' 1 _ rfl)
   have x2 := (hB.cell (cell_lt (hc4' 2 _ rfl))).trans (hc4' 2 _ rfl)
   have x3 := (hB.cell (cell_lt (hc4' 3 _ rfl))).trans (hc4' 3 _ rfl)
   simp only [Nat.add_zero] at y0 x0
   have e0 : (r.n != r.n) = false := by simp
   have e1 : (r.k != r.k) = false := by simp
   have e2 : (r.a != r.a) = false := by simp
   have e3 : (r.g != r.g) = false := by simp
   clear hc hc4 hc' hc4'
   replace hP0 := hi_ hP0
   replace hP0' := hi_ hP0'
   replace hr := hi_ hr
   replace hB := hi_ hB
   go_upto_region 6 with (fail)
   go_quiet (fail)
   obtain ⟨W2, hW2⟩ : ∃ W, W = wr.drewN nq := ⟨_, rfl⟩
   rw [← hW2]
   have hB2 : Below w.heap.size w W2 := by rw [hW2]; exact bthen hB.out (drewN_bl _ _)
   replace hW2 := hi_ hW2
   replace hB2 := hi_ hB2
   clear y0 y1 y2 y3 x0 x1 x2 x3
   go_wp2
   go_roundw
   case rel => exact ⟨k + 1, by omega, by go_num, hB2.out⟩
   case measure => simp [RowKit.intOf]; omega
  ·obtain rfl : k = m := by omega
   replace hB := hi_ hB
   go_wp2
   go_ret
   exact ⟨rfl, hB.out⟩

/- Rows that may be written, and rise: the document's own test. No condition. -/
def goodK (l : List R4) : Nat → Bool
 | 0 => true
 | k + 1 => goodK l k && mayR (l.getD k r0)
theorem good_false {l : List R4} : ∀ {m k : Nat}, k ≤ m → goodK l k = false → goodK l m = false
 | 0, k, h, e => by obtain rfl : k = 0 := by omega
                    exact e
 | m + 1, k, h, e => by
  by_cases hk : k = m + 1
  ·subst hk; exact e
  ·show (goodK l m && _) = false
   rw [good_false (m := m) (by omega) e]; rfl
set_option maxHeartbeats 16000000 in
set_option maxRecDepth 100000 in
theorem ref_rising (A : Option Addr) (c : Nat) (l : List R4) (w : World) (h : RowsAt w A l) (hl : l.length ≤ 1000000) : Calls Tryz.prog 46 #[.slice A l.length c, .int .i64 1] w fun e w' => e = .returned (.bool (goodK l l.length && risesK l l.length)) ∧ Below w.heap.size w w' := by
 obtain ⟨m, hm⟩ : ∃ m, m = l.length := ⟨_, rfl⟩
 rw [← hm] at hl ⊢
 obtain ⟨bb, hbb⟩ : ∃ bb, bb = (goodK l m && risesK l m) := ⟨_, rfl⟩
 rw [← hbb]
 have hno : ∀ k, k ≤ m → (goodK l k = false ∨ risesK l k = false) → bb = false := fun k hk h => by
  rw [hbb]
  rcases h with h | h
  ·rw [good_false hk h]; rfl
  ·rw [rises_false hk h]; simp
 replace hm := hi_ hm
 replace h := hi_ h
 replace hno := hi_ hno
 replace hbb := hi_ hbb
 go_enter Tryz.func46, Tryz.ntmps46
 go_wp2
 go_loopw [5] (fun s5 wr => ∃ k : Nat, k ≤ m ∧ s5 = .int .i64 k ∧ goodK l k = true ∧ risesK l k = true ∧ Below w.heap.size w wr) (fun s5 _ => m - (RowKit.intOf s5).toNat)
 case atStart => exact ⟨0, by omega, rfl, rfl, rfl, Below.refl _ _⟩
 case round =>
  rename_i wr
  obtain ⟨k, hk, rfl, hgk, hrk, hB⟩ := hrel
  by_cases hkm : k < m
  case neg =>
   obtain rfl : k = m := by omega
   have e : bb = true := by rw [hbb.out, hgk, hrk]; rfl
   subst e
   replace hB := hi_ hB
   replace hgk := hi_ hgk
   replace hrk := hi_ hrk
   go_wp2
   go_ret
   exact ⟨rfl, hB.out⟩
  have hkl : k < l.length := by rw [← hm.out]; exact hkm
  obtain ⟨b, o, rfl, hc⟩ := h.out.2 (by omega)
  have hc4 := hc k hkl
  obtain ⟨r, hr⟩ : ∃ r, r = l[k] := ⟨_, rfl⟩
  have hgr : l.getD k r0 = r := by rw [hr, List.getD_eq_getElem?_getD, List.getElem?_eq_getElem hkl]; rfl
  rw [← hr] at hc4
  obtain ⟨P, hP0⟩ : ∃ P, P = o + k * 4 := ⟨_, rfl⟩
  have hP2 : o + k * 4 = P := hP0.symm
  rw [hP2] at hc4
  have y0 := (hB.cell (cell_lt (hc4 0 _ rfl))).trans (hc4 0 _ rfl)
  have y1 := (hB.cell (cell_lt (hc4 1 _ rfl))).trans (hc4 1 _ rfl)
  have y2 := (hB.cell (cell_lt (hc4 2 _ rfl))).trans (hc4 2 _ rfl)
  have y3 := (hB.cell (cell_lt (hc4 3 _ rfl))).trans (hc4 3 _ rfl)
  simp only [Nat.add_zero] at y0
  obtain ⟨W1, hW1⟩ : ∃ W, W = wr.alloc (.cells #[.int .i64 r.n, .int .i64 r.k, .int .i64 r.a, .int .i64 r.g] 70) := ⟨_, rfl⟩
  have hb1 : Below wr.heap.size wr W1 := by rw [hW1]; exact (Below.refl _ _).alloc (Nat.le_refl _) _
  have hD1 := bthen hB hb1
  obtain ⟨c0, c1, c2, c3⟩ := four_cells hW1
  have hprev1 : 0 < k → ∃ (q : Nat) (p : R4), q + 1 = k ∧ l.getD (k - 1) r0 = p ∧ W1.cell? ⟨b, o + q * 4, none⟩ = some (.int .i64 p.n) := fun h0 => by
   have hql : k - 1 < l.length := by omega
   refine ⟨k - 1, l[k - 1], by omega, by rw [List.getD_eq_getElem?_getD, List.getElem?_eq_getElem hql]; rfl, ?_⟩
   have h9 := hc (k - 1) hql 0 _ rfl
   exact (hD1.cell (cell_lt h9)).trans h9
  have hg1 : goodK l (k + 1) = mayR r := by
   show (goodK l k && mayR (l.getD k r0)) = _
   rw [hgk, hgr]; rfl
  have hbad : mayR r = false → bb = false := fun e => hno.out (k + 1) (by omega) (.inl (by rw [hg1]; exact e))
  clear hc hc4
  replace hP0 := hi_ hP0
  replace hr := hi_ hr
  replace hprev1 := hi_ hprev1
  replace hB := hi_ hB
  replace hb1 := hi_ hb1
  replace hD1 := hi_ hD1
  replace hgr := hi_ hgr
  replace hrk := hi_ hrk
  replace hgk := hi_ hgk
  replace hg1 := hi_ hg1
  replace hbad := hi_ hbad
  go_upto_region 5 with (fail)
  rw [← hW1]
  replace hW1 := hi_ hW1
  clear y0 y1 y2 y3 hP2
  obtain ⟨n, kk, a, g⟩ := r
  simp only at c0 c1 c2 c3
  by_cases hk0 : k = 0
  ·have d0 : decide ((0 : Int) < (k : Int)) = false := decide_eq_false (by omega)
   have d0n : decide (0 < k) = false := decide_eq_false (by omega)
   have hr1 : risesK l (k + 1) = true := by
    show (risesK l k && _) = true
    rw [hrk.out, hk0]; rfl
   replace hk0 := hi_ hk0
   replace hr1 := hi_ hr1
   by_cases t1 : kk < 0
   case pos =>
    have e1 : decide (kk < 0) = true := decide_eq_true t1
    have hb0 : bb = false := hbad.out (by
     simp only [mayR]
     have h1 : (kk == 0) = false := by simp; omega
     have h2 : (kk == 1) = false := by simp; omega
     rw [h1, h2]; simp)
    subst hb0
    go_quiet (fail)
    obtain ⟨W2, hW2⟩ : ∃ W, W = W1.drewN nq := ⟨_, rfl⟩
    rw [← hW2]
    have hD2 : Below w.heap.size w W2 := by rw [hW2]; exact bthen hD1.out (drewN_bl _ _)
    replace hW2 := hi_ hW2
    replace hD2 := hi_ hD2
    go_wp2
    go_ret
    exact ⟨rfl, hD2.out⟩
   have e1 : decide (kk < 0) = false := decide_eq_false t1
   by_cases t2 : 1 < kk
   case pos =>
    have e2 : decide (1 < kk) = true := decide_eq_true t2
    have hb0 : bb = false := hbad.out (by
     simp only [mayR]
     have h1 : (kk == 0) = false := by simp; omega
     have h2 : (kk == 1) = false := by simp; omega
     rw [h1, h2]; simp)
    subst hb0
    go_quiet (fail)
    obtain ⟨W2, hW2⟩ : ∃ W, W = W1.drewN nq := ⟨_, rfl⟩
    rw [← hW2]
    have hD2 : Below w.heap.size w W2 := by rw [hW2]; exact bthen hD1.out (drewN_bl _ _)
    replace hW2 := hi_ hW2
    replace hD2 := hi_ hD2
    go_wp2
    go_ret
    exact ⟨rfl, hD2.out⟩
   have e2 : decide (1 < kk) = false := decide_eq_false t2
   by_cases t3 : n < 0
   case pos =>
    have e3 : decide (n < 0) = true := decide_eq_true t3
    have hb0 : bb = false := hbad.out (by simp only [mayR]; rw [decide_eq_false (show ¬ 0 ≤ n by omega)]; simp)
    subst hb0
    go_quiet (fail)
    obtain ⟨W2, hW2⟩ : ∃ W, W = W1.drewN nq := ⟨_, rfl⟩
    rw [← hW2]
    have hD2 : Below w.heap.size w W2 := by rw [hW2]; exact bthen hD1.out (drewN_bl _ _)
    replace hW2 := hi_ hW2
    replace hD2 := hi_ hD2
    go_wp2
    go_ret
    exact ⟨rfl, hD2.out⟩
   have e3 : decide (n < 0) = false := decide_eq_false t3
   by_cases t4 : 8388607 < n
   case pos =>
    have e4 : decide (8388607 < n) = true := decide_eq_true t4
    have hb0 : bb = false := hbad.out (by simp only [mayR]; rw [decide_eq_false (show ¬ n ≤ 8388607 by omega)]; simp)
    subst hb0
    go_quiet (fail)
    obtain ⟨W2, hW2⟩ : ∃ W, W = W1.drewN nq := ⟨_, rfl⟩
    rw [← hW2]
    have hD2 : Below w.heap.size w W2 := by rw [hW2]; exact bthen hD1.out (drewN_bl _ _)
    replace hW2 := hi_ hW2
    replace hD2 := hi_ hD2
    go_wp2
    go_ret
    exact ⟨rfl, hD2.out⟩
   have e4 : decide (8388607 < n) = false := decide_eq_false t4
   by_cases t6 : a < 0
   case pos =>
    have e6 : decide (a < 0) = true := decide_eq_true t6
    have hb0 : bb = false := hbad.out (by simp only [mayR]; rw [decide_eq_false (show ¬ 0 ≤ a by omega)]; simp)
    subst hb0
    go_quiet (fail)
    obtain ⟨W2, hW2⟩ : ∃ W, W = W1.drewN nq := ⟨_, rfl⟩
    rw [← hW2]
    have hD2 : Below w.heap.size w W2 := by rw [hW2]; exact bthen hD1.out (drewN_bl _ _)
    replace hW2 := hi_ hW2
    replace hD2 := hi_ hD2
    go_wp2
    go_ret
    exact ⟨rfl, hD2.out⟩
   have e6 : decide (a < 0) = false := decide_eq_false t6
   by_cases t7 : 9999999999 < a
   case pos =>
    have e7 : decide (9999999999 < a) = true := decide_eq_true t7
    have hb0 : bb = false := hbad.out (by simp only [mayR]; rw [decide_eq_false (show ¬ a ≤ 9999999999 by omega)]; simp)
    subst hb0
    go_quiet (fail)
    obtain ⟨W2, hW2⟩ : ∃ W, W = W1.drewN nq := ⟨_, rfl⟩
    rw [← hW2]
    have hD2 : Below w.heap.size w W2 := by rw [hW2]; exact bthen hD1.out (drewN_bl _ _)
    replace hW2 := hi_ hW2
    replace hD2 := hi_ hD2
    go_wp2
    go_ret
    exact ⟨rfl, hD2.out⟩
   have e7 : decide (9999999999 < a) = false := decide_eq_false t7
   by_cases t8 : g < 0
   case pos =>
    have e8 : decide (g < 0) = true := decide_eq_true t8
    have hb0 : bb = false := hbad.out (by simp only [mayR]; rw [decide_eq_false (show ¬ 0 ≤ g by omega)]; simp)
    subst hb0
    go_quiet (fail)
    obtain ⟨W2, hW2⟩ : ∃ W, W = W1.drewN nq := ⟨_, rfl⟩
    rw [← hW2]
    have hD2 : Below w.heap.size w W2 := by rw [hW2]; exact bthen hD1.out (drewN_bl _ _)
    replace hW2 := hi_ hW2
    replace hD2 := hi_ hD2
    go_wp2
    go_ret
    exact ⟨rfl, hD2.out⟩
   have e8 : decide (g < 0) = false := decide_eq_false t8
   by_cases t9 : 65535 < g
   case pos =>
    have e9 : decide (65535 < g) = true := decide_eq_true t9
    have e10 : (kk != 2) = true := by simp; omega
    have hb0 : bb = false := hbad.out (by simp only [mayR]; rw [decide_eq_false (show ¬ g ≤ 65535 by omega)]; simp)
    subst hb0
    go_quiet (fail)
    obtain ⟨W2, hW2⟩ : ∃ W, W = W1.drewN nq := ⟨_, rfl⟩
    rw [← hW2]
    have hD2 : Below w.heap.size w W2 := by rw [hW2]; exact bthen hD1.out (drewN_bl _ _)
    replace hW2 := hi_ hW2
    replace hD2 := hi_ hD2
    go_wp2
    go_ret
    exact ⟨rfl, hD2.out⟩
   have e9 : decide (65535 < g) = false := decide_eq_false t9
   have hgood : goodK l (k + 1) = true := by
    rw [hg1.out]
    simp only [mayR]
    have h1 : (kk == 0 || kk == 1) = true := by
     rcases (show kk = 0 ∨ kk = 1 by omega) with rfl | rfl <;> rfl
    rw [h1, decide_eq_true (show 0 ≤ n by omega), decide_eq_true (show n ≤ 8388607 by omega), decide_eq_true (show 0 ≤ a by omega), decide_eq_true (show a ≤ 9999999999 by omega), decide_eq_true (show 0 ≤ g by omega), decide_eq_true (show g ≤ 65535 by omega)]; rfl
   have hrise := hr1.out
   replace hgood := hi_ hgood
   replace hrise := hi_ hrise
   go_quiet (fail)
   obtain ⟨W2, hW2⟩ : ∃ W, W = W1.drewN nq := ⟨_, rfl⟩
   rw [← hW2]
   have hD2 : Below w.heap.size w W2 := by rw [hW2]; exact bthen hD1.out (drewN_bl _ _)
   replace hW2 := hi_ hW2
   replace hD2 := hi_ hD2
   go_wp2
   go_roundw
   case rel => exact ⟨k + 1, by omega, by go_num, hgood.out, hrise.out, hD2.out⟩
   case measure => simp [RowKit.intOf]; omega
  ·obtain ⟨q, pr, hq1, hpr, hx1⟩ := hprev1.out (by omega)
   obtain ⟨pn, hpne⟩ : ∃ pn, pn = pr.n := ⟨_, rfl⟩
   rw [← hpne] at hx1
   have d0 : decide ((0 : Int) < (k : Int)) = true := decide_eq_true (by omega)
   have d0n : decide (0 < k) = true := decide_eq_true (by omega)
   have hwk : IntKind.i64.wrap ((k : Int) - 1) = (q : Int) := by rw [IntWalk.i64_in _ (by omega)]; omega
   have hwk2 : (k : Int) - 1 = (q : Int) := by omega
   have hqm : q < m := by omega
   have hkb : (k == 0) = false := by simpa using hk0
   have hr1 : risesK l (k + 1) = decide (pn < n) := by
    show (risesK l k && (k == 0 || decide ((l.getD (k - 1) r0).n < (l.getD k r0).n))) = _
    rw [hrk.out, hkb, hpr, hgr.out, ← hpne]; simp
   have hbad2 : ¬ pn < n → bb = false := fun e => hno.out (k + 1) (by omega) (.inr (by rw [hr1]; exact decide_eq_false e))
   replace hr1 := hi_ hr1
   replace hbad2 := hi_ hbad2
   replace hq1 := hi_ hq1
   replace hpr := hi_ hpr
   replace hpne := hi_ hpne
   clear hkb
   by_cases t1 : kk < 0
   case pos =>
    have e1 : decide (kk < 0) = true := decide_eq_true t1
    have hb0 : bb = false := hbad.out (by
     simp only [mayR]
     have h1 : (kk == 0) = false := by simp; omega
     have h2 : (kk == 1) = false := by simp; omega
     rw [h1, h2]; simp)
    subst hb0
    go_quiet (fail)
    obtain ⟨W2, hW2⟩ : ∃ W, W = W1.drewN nq := ⟨_, rfl⟩
    rw [← hW2]
    have hD2 : Below w.heap.size w W2 := by rw [hW2]; exact bthen hD1.out (drewN_bl _ _)
    replace hW2 := hi_ hW2
    replace hD2 := hi_ hD2
    go_wp2
    go_ret
    exact ⟨rfl, hD2.out⟩
   have e1 : decide (kk < 0) = false := decide_eq_false t1
   by_cases t2 : 1 < kk
   case pos =>
    have e2 : decide (1 < kk) = true := decide_eq_true t2
    have hb0 : bb = false := hbad.out (by
     simp only [mayR]
     have h1 : (kk == 0) = false := by simp; omega
     have h2 : (kk == 1) = false := by simp; omega
     rw [h1, h2]; simp)
    subst hb0
    go_quiet (fail)
    obtain ⟨W2, hW2⟩ : ∃ W, W = W1.drewN nq := ⟨_, rfl⟩
    rw [← hW2]
    have hD2 : Below w.heap.size w W2 := by rw [hW2]; exact bthen hD1.out (drewN_bl _ _)
    replace hW2 := hi_ hW2
    replace hD2 := hi_ hD2
    go_wp2
    go_ret
    exact ⟨rfl, hD2.out⟩
   have e2 : decide (1 < kk) = false := decide_eq_false t2
   by_cases t3 : n < 0
   case pos =>
    have e3 : decide (n < 0) = true := decide_eq_true t3
    have hb0 : bb = false := hbad.out (by simp only [mayR]; rw [decide_eq_false (show ¬ 0 ≤ n by omega)]; simp)
    subst hb0
    go_quiet (fail)
    obtain ⟨W2, hW2⟩ : ∃ W, W = W1.drewN nq := ⟨_, rfl⟩
    rw [← hW2]
    have hD2 : Below w.heap.size w W2 := by rw [hW2]; exact bthen hD1.out (drewN_bl _ _)
    replace hW2 := hi_ hW2
    replace hD2 := hi_ hD2
    go_wp2
    go_ret
    exact ⟨rfl, hD2.out⟩
   have e3 : decide (n < 0) = false := decide_eq_false t3
   by_cases t4 : 8388607 < n
   case pos =>
    have e4 : decide (8388607 < n) = true := decide_eq_true t4
    have hb0 : bb = false := hbad.out (by simp only [mayR]; rw [decide_eq_false (show ¬ n ≤ 8388607 by omega)]; simp)
    subst hb0
    go_quiet (fail)
    obtain ⟨W2, hW2⟩ : ∃ W, W = W1.drewN nq := ⟨_, rfl⟩
    rw [← hW2]
    have hD2 : Below w.heap.size w W2 := by rw [hW2]; exact bthen hD1.out (drewN_bl _ _)
    replace hW2 := hi_ hW2
    replace hD2 := hi_ hD2
    go_wp2
    go_ret
    exact ⟨rfl, hD2.out⟩
   have e4 : decide (8388607 < n) = false := decide_eq_false t4
   by_cases t5 : n ≤ pn
   case pos =>
    have e5 : decide (n ≤ pn) = true := decide_eq_true t5
    have hb0 := hbad2.out (by omega)
    subst hb0
    go_quiet (fail)
    obtain ⟨W2, hW2⟩ : ∃ W, W = W1.drewN nq := ⟨_, rfl⟩
    rw [← hW2]
    have hD2 : Below w.heap.size w W2 := by rw [hW2]; exact bthen hD1.out (drewN_bl _ _)
    replace hW2 := hi_ hW2
    replace hD2 := hi_ hD2
    go_wp2
    go_ret
    exact ⟨rfl, hD2.out⟩
   have e5 : decide (n ≤ pn) = false := decide_eq_false t5
   by_cases t6 : a < 0
   case pos =>
    have e6 : decide (a < 0) = true := decide_eq_true t6
    have hb0 : bb = false := hbad.out (by simp only [mayR]; rw [decide_eq_false (show ¬ 0 ≤ a by omega)]; simp)
    subst hb0
    go_quiet (fail)
    obtain ⟨W2, hW2⟩ : ∃ W, W = W1.drewN nq := ⟨_, rfl⟩
    rw [← hW2]
    have hD2 : Below w.heap.size w W2 := by rw [hW2]; exact bthen hD1.out (drewN_bl _ _)
    replace hW2 := hi_ hW2
    replace hD2 := hi_ hD2
    go_wp2
    go_ret
    exact ⟨rfl, hD2.out⟩
   have e6 : decide (a < 0) = false := decide_eq_false t6
   by_cases t7 : 9999999999 < a
   case pos =>
    have e7 : decide (9999999999 < a) = true := decide_eq_true t7
    have hb0 : bb = false := hbad.out (by simp only [mayR]; rw [decide_eq_false (show ¬ a ≤ 9999999999 by omega)]; simp)
    subst hb0
    go_quiet (fail)
    obtain ⟨W2, hW2⟩ : ∃ W, W = W1.drewN nq := ⟨_, rfl⟩
    rw [← hW2]
    have hD2 : Below w.heap.size w W2 := by rw [hW2]; exact bthen hD1.out (drewN_bl _ _)
    replace hW2 := hi_ hW2
    replace hD2 := hi_ hD2
    go_wp2
    go_ret
    exact ⟨rfl, hD2.out⟩
   have e7 : decide (9999999999 < a) = false := decide_eq_false t7
   by_cases t8 : g < 0
   case pos =>
    have e8 : decide (g < 0) = true := decide_eq_true t8
    have hb0 : bb = false := hbad.out (by simp only [mayR]; rw [decide_eq_false (show ¬ 0 ≤ g by omega)]; simp)
    subst hb0
    go_quiet (fail)
    obtain ⟨W2, hW2⟩ : ∃ W, W = W1.drewN nq := ⟨_, rfl⟩
    rw [← hW2]
    have hD2 : Below w.heap.size w W2 := by rw [hW2]; exact bthen hD1.out (drewN_bl _ _)
    replace hW2 := hi_ hW2
    replace hD2 := hi_ hD2
    go_wp2
    go_ret
    exact ⟨rfl, hD2.out⟩
   have e8 : decide (g < 0) = false := decide_eq_false t8
   by_cases t9 : 65535 < g
   case pos =>
    have e9 : decide (65535 < g) = true := decide_eq_true t9
    have e10 : (kk != 2) = true := by simp; omega
    have hb0 : bb = false := hbad.out (by simp only [mayR]; rw [decide_eq_false (show ¬ g ≤ 65535 by omega)]; simp)
    subst hb0
    go_quiet (fail)
    obtain ⟨W2, hW2⟩ : ∃ W, W = W1.drewN nq := ⟨_, rfl⟩
    rw [← hW2]
    have hD2 : Below w.heap.size w W2 := by rw [hW2]; exact bthen hD1.out (drewN_bl _ _)
    replace hW2 := hi_ hW2
    replace hD2 := hi_ hD2
    go_wp2
    go_ret
    exact ⟨rfl, hD2.out⟩
   have e9 : decide (65535 < g) = false := decide_eq_false t9
   have hgood : goodK l (k + 1) = true := by
    rw [hg1.out]
    simp only [mayR]
    have h1 : (kk == 0 || kk == 1) = true := by
     rcases (show kk = 0 ∨ kk = 1 by omega) with rfl | rfl <;> rfl
    rw [h1, decide_eq_true (show 0 ≤ n by omega), decide_eq_true (show n ≤ 8388607 by omega), decide_eq_true (show 0 ≤ a by omega), decide_eq_true (show a ≤ 9999999999 by omega), decide_eq_true (show 0 ≤ g by omega), decide_eq_true (show g ≤ 65535 by omega)]; rfl
   have hrise : risesK l (k + 1) = true := by rw [hr1.out]; exact decide_eq_true (by omega)
   replace hgood := hi_ hgood
   replace hrise := hi_ hrise
   go_quiet (fail)
   obtain ⟨W2, hW2⟩ : ∃ W, W = W1.drewN nq := ⟨_, rfl⟩
   rw [← hW2]
   have hD2 : Below w.heap.size w W2 := by rw [hW2]; exact bthen hD1.out (drewN_bl _ _)
   replace hW2 := hi_ hW2
   replace hD2 := hi_ hD2
   go_wp2
   go_roundw
   case rel => exact ⟨k + 1, by omega, by go_num, hgood.out, hrise.out, hD2.out⟩
   case measure => simp [RowKit.intOf]; omega

/- Bytes appended to bytes that were made of a text: the row is marked, and may have room. No condition. -/
theorem store_m {P : Program} (g o : Nat) (t : TypeId) (lo hi : Nat) : ∀ (vs : List Value) (i : Nat) (cur : Array Value) (w : World), w.heap[g]? = some (.cells cur t (lo, hi)) → cur.size ≤ lo → o + i + vs.length ≤ cur.size → (∀ v ∈ vs, v.oneCell' = true) →
 (storeCells ⟨g, o, none⟩ vs i).run P w = .ok () (w.setRow g (cur.toList.take (o + i) ++ vs ++ cur.toList.drop (o + i + vs.length)).toArray)
 | [], i, cur, w, hg, _, _, _ => by
  simp only [storeCells, List.append_nil, List.length_nil, Nat.add_zero, List.take_append_drop, Array.toArray_toList]
  rw [setRow_self w g cur t (lo, hi) hg]
  rfl
 | v :: rest, i, cur, w, hg, hlo, hl, h1 => by
  have hi' : o + i < cur.size := by simp at hl; omega
  have hadd : (⟨g, o, none⟩ : Addr).add i = ⟨g, o + i, none⟩ := by unfold Addr.add; split <;> simp_all
  have hcell : w.cell? ⟨g, o + i, none⟩ = some cur[o + i] := by simp [World.cell?, hg, hi']
  have hfro : w.frozen? ⟨g, o + i, none⟩ = false := by simp [World.frozen?, hg]; omega
  have hst : (store ((⟨g, o, none⟩ : Addr).add i) v).run P w = .ok () (w.setRow g (cur.setIfInBounds (o + i) v)) := by
   rw [hadd, run_store P w _ v _ (h1 v (by simp)), hcell]
   simp [hfro, setCell_eq_setRow w g (o + i) cur t (lo, hi) v hg]
  have ih := store_m (P := P) g o t lo hi rest (i + 1) (cur.setIfInBounds (o + i) v) (w.setRow g (cur.setIfInBounds (o + i) v)) (setRow_heap w g cur _ t _ hg) (by simpa using hlo) (by simp at hl ⊢; omega) (fun x hx => h1 x (by simp [hx]))
  simp only [storeCells, Sem.run_bind, hst, Result.andThen_ok, ih, setRow_setRow]
  congr 3
  have e := list_seg_step cur.toList (o + i) v rest (by simp at hl ⊢; omega)
  simpa [Array.toList_setIfInBounds, Nat.add_assoc] using e
def OwnM (B : Nat) (w : World) (v : Value) (bs : List UInt8) : Prop := Own B w v bs ∨ ∃ g cap cur lo hi, v = .slice (some ⟨g, 0, none⟩) bs.length cap ∧ B ≤ g ∧ w.heap[g]? = some (.cells cur 5 (lo, hi)) ∧ cap ≤ lo ∧ bs.length ≤ cap ∧ cap ≤ maxLen ∧ cur.size = cap ∧ cur.toList.take bs.length = valsB bs
theorem OwnM.below {B : Nat} {w w' : World} {v : Value} {bs : List UInt8} (h : OwnM B w v bs) (hb : Below w.heap.size w w') : OwnM B w' v bs := by
 rcases h with h | ⟨g, cap, cur, lo, hi, h1, h2, h3, rest⟩
 ·exact .inl (h.below hb)
 ·exact .inr ⟨g, cap, cur, lo, hi, h1, h2, (hb.block g (Array.getElem?_eq_some_iff.1 h3).1).trans h3, rest⟩
theorem row_byt {w : World} {g : Nat} {cur : Array Value} {m : Nat × Nat} {bs : List UInt8} (h : w.heap[g]? = some (.cells cur 5 m)) (ht : cur.toList.take bs.length = valsB bs) (hm : bs.length ≤ maxLen) : Byt w (some ⟨g, 0, none⟩) bs := by
 refine ⟨hm, fun _ => ⟨g, 0, rfl, fun i hi => ?_⟩⟩
 have h1 : w.cell? ⟨g, 0 + i, none⟩ = cur[i]? := by rw [Nat.zero_add, cell_of_row w g i cur 5 m h]
 have h2 : (valsB bs)[i]? = some (.int .u8 (bs[i].toNat : Int)) := by simp [valsB, hi]
 rw [← ht, List.getElem?_take, if_pos hi] at h2
 rw [h1]; simpa using h2
theorem OwnM.out {B : Nat} {w : World} {v : Value} {bs : List UInt8} (h : OwnM B w v bs) (hm : bs.length ≤ maxLen) : ∃ A c, v = .slice A bs.length c ∧ Byt w A bs ∧ (A = none → c = 0) := by
 rcases h with h | ⟨g, cap, cur, lo, hi, rfl, h2, h3, h4, h5, h6, h7, h8⟩
 ·exact h.out hm
 ·exact ⟨_, _, rfl, row_byt h3 h8 hm, fun e => by cases e⟩
theorem room_m (w : World) (t ty : TypeId) (i : TypeInfo) (e : TypeId) (ht : Tryz.prog.underlying t = some (.slice e)) (hi : Tryz.prog.info? e = some i) (h1s : i.size = 1)
 (g sLen sCap lo hh : Nat) (cur : Array Value) (hg : w.heap[g]? = some (.cells cur e (lo, hh))) (hlo : cur.size ≤ lo)
 (a : Addr) (m c : Nat) (news : List Value) (hl : news.length = m) (hnews : ∀ j u, news[j]? = some u → w.cell? (a.add j) = some u) (h1 : ∀ u ∈ news, u.oneCell' = true)
 (hroom : sLen + m ≤ sCap) (hfit : sLen + news.length ≤ cur.size) :
 (Builtin.append_ #[t, t] ty #[.slice (some ⟨g, 0, none⟩) sLen sCap, .slice (some a) m c]).run Tryz.prog w =
  .ok (.slice (some ⟨g, 0, none⟩) (sLen + m) sCap) (w.setRow g (cur.toList.take sLen ++ news ++ cur.toList.drop (sLen + news.length)).toArray) := by
 have hf := run_firstCells_some (P := Tryz.prog) w i.size m a m c news (by rw [h1s]; omega) hnews
 have hst := store_m (P := Tryz.prog) g sLen e lo hh news 0 cur w hg hlo (by simpa using hfit) h1
 simp only [Nat.add_zero] at hst
 rw [h1s] at hf
 simp [Builtin.append_, run_underlying ht, sizeOf, typeInfo, hi, h1s, Builtin.lenOf, hroom, hf, Addr.add_lit, hst]
theorem room_s (w : World) (t u ty : TypeId) (i : TypeInfo) (e : TypeId) (ht : Tryz.prog.underlying t = some (.slice e)) (hu : Tryz.prog.underlying u = some .string) (hi : Tryz.prog.info? e = some i) (h1s : i.size = 1)
 (g sLen sCap lo hh : Nat) (cur : Array Value) (hg : w.heap[g]? = some (.cells cur e (lo, hh))) (hlo : cur.size ≤ lo) (S : ByteArray)
 (hroom : sLen + S.size ≤ sCap) (hfit : sLen + S.size ≤ cur.size) :
 (Builtin.append_ #[t, u] ty #[.slice (some ⟨g, 0, none⟩) sLen sCap, .string S]).run Tryz.prog w =
  .ok (.slice (some ⟨g, 0, none⟩) (sLen + S.size) sCap) (w.setRow g (cur.toList.take sLen ++ Lib.strCells S ++ cur.toList.drop (sLen + S.size)).toArray) := by
 have hf := Lib.run_firstCells_string (P := Tryz.prog) w 1 S
 have hst := store_m (P := Tryz.prog) g sLen e lo hh (Lib.strCells S) 0 cur w hg hlo (by simpa [Lib.strCells_length] using hfit) (Lib.strCells_oneCell S)
 simp only [Nat.add_zero, Lib.strCells_length] at hst
 simp [Builtin.append_, run_underlying ht, run_underlying hu, sizeOf, typeInfo, hi, h1s, Builtin.lenOf, hroom, hf, Addr.add_lit, hst]
theorem m_more {w w' : World} {B g cap lo hh : Nat} {cur : Array Value} {out bs : List UInt8} (hB : B ≤ g) (hh3 : w.heap[g]? = some (.cells cur 5 (lo, hh))) (h4 : cap ≤ lo) (h6 : cap ≤ maxLen) (h7 : cur.size = cap) (h8 : cur.toList.take out.length = valsB out) (hroom : out.length + bs.length ≤ cap)
 (hw : w' = w.setRow g (cur.toList.take out.length ++ valsB bs ++ cur.toList.drop (out.length + bs.length)).toArray) :
 OwnM B w' (.slice (some ⟨g, 0, none⟩) (out.length + bs.length) cap) (out ++ bs) ∧ w.grownBy w' (some g) := by
 subst hw
 refine ⟨.inr ⟨g, cap, _, lo, hh, by rw [List.length_append], hB, setRow_heap w g cur _ 5 _ hh3, h4, by rw [List.length_append]; exact hroom, h6, ?_, ?_⟩, ⟨rfl, rfl, rfl, by simp, fun k hk hne => setRow_other w g k _ (fun e => hne (by rw [e]))⟩⟩
 ·have hl : cur.toList.length = cap := by simpa using h7
  simp only [List.size_toArray, List.length_append, List.length_take, List.length_drop, valsB_len, hl]
  omega
 ·rw [h8, valsB_app, List.length_append]
  have hv : (valsB out ++ valsB bs).length = out.length + bs.length := by simp [valsB_len]
  show List.take _ (valsB out ++ valsB bs ++ _) = _
  rw [← hv, List.take_left]
theorem app_m {w : World} {ops : Array Oper} {rest : List Oper} {o : Oper} {a : Act} {Q : Exit → Act → World → Prop} (hgd : o.guard = none) (s x : Operand)
 (ho : o.op = .call { callee := .builtin .append, args := #[s, x], argTypes := #[22, 22] }) (B : Nat) (v : Value) (out : List UInt8) (hs : a.eval s = v) (hown : OwnM B w v out)
 (A : Option Addr) (n c : Nat) (bs : List UInt8) (hx : a.eval x = .slice A n c) (hn : n = bs.length) (hb : Byt w A bs) (hA : A = none → c = 0) (hl : out.length + bs.length ≤ 70368744177664) (hB : B ≤ w.heap.size)
 (h : ∀ v' w', OwnM B w' v' (out ++ bs) → Below B w w' → wpList Tryz.prog ops Q rest (a.put o.dst v') w') : wpList Tryz.prog ops Q (o :: rest) a w := by
 rcases hown with hown | ⟨g, cap, cur, lo, hh, rfl, hBg, h3, h4, h5, h6, h7, h8⟩
 ·exact app_b hgd s x ho B v out hs hown A n c bs hx hn hb hA hl hB fun v' w' h1 h2 => h v' w' (.inl h1) h2
 obtain ⟨i0, hi, hz0, hz1, hz2⟩ := byte_info
 have hself : (cur.toList.take out.length ++ valsB [] ++ cur.toList.drop (out.length + ([] : List UInt8).length)).toArray = cur := by simp [valsB]
 cases A with
 | none =>
  have hbs : bs = [] := by
   cases bs with
   | nil => rfl
   | cons y l => obtain ⟨b, o, e, _⟩ := hb.2 (by simp); cases e
  subst hbs
  have hc := hA rfl
  subst hc
  obtain rfl : n = 0 := hn
  refine wpList_plain hgd fun K hK => ?_
  have hr : (Builtin.append_ #[22, 22] o.type #[.slice (some ⟨g, 0, none⟩) out.length cap, .slice none 0 0]).run Tryz.prog w = .ok (.slice (some ⟨g, 0, none⟩) out.length cap) w := by
   simp [Builtin.append_, run_underlying Tryz.underlying22, sizeOf, typeInfo, hi, hz1, Builtin.lenOf, h5, Builtin.firstCells, storeCells]
  unfold Oper.wp execOp
  simp only [ho, resolve, invoke, builtin, Sem.run_bind, Sem.run_pure, Result.andThen_ok, List.map_toArray, List.map_cons, List.map_nil, hs, hx, hr]
  exact hK _ _ (h _ _ (by rw [List.append_nil]; exact .inr ⟨g, cap, cur, lo, hh, rfl, hBg, h3, h4, h5, h6, h7, h8⟩) (Below.refl _ _ |>.mono hB))
 | some ad =>
  subst hn
  by_cases hroom : out.length + bs.length ≤ cap
  ·refine wpList_plain hgd fun K hK => ?_
   have hr := room_m w 22 o.type i0 5 Tryz.underlying22 hi hz1 g out.length cap lo hh cur h3 (by omega) ad bs.length c (valsB bs) (valsB_len bs) hb.news (valsB_one bs) hroom (by rw [valsB_len]; omega)
   rw [valsB_len] at hr
   unfold Oper.wp execOp
   simp only [ho, resolve, invoke, builtin, Sem.run_bind, Sem.run_pure, Result.andThen_ok, List.map_toArray, List.map_cons, List.map_nil, hs, hx, hr]
   obtain ⟨h9, h10⟩ := m_more (bs := bs) hBg h3 h4 h6 h7 h8 hroom rfl
   exact hK _ _ (h _ _ h9 ((Below.refl _ _ |>.mono hB).grown h10 hB fun k hk => by injection hk with hk; omega))
  ·refine wpList_plain hgd fun K hK => ?_
   have hr := run_append_grow (P := Tryz.prog) w 22 o.type 5 i0 (.int .u8 0) Tryz.underlying22 hi hz0 ⟨g, 0, none⟩ out.length cap (valsB out) (by rw [hz1, valsB_len, Nat.mul_one]) (row_byt h3 h8 (by omega)).news ad bs.length c (valsB bs) (by rw [valsB_len, hz1, Nat.mul_one]) hb.news (by omega) (by omega) (growslice_fits (by omega) (by rw [hz2]; omega))
   unfold Oper.wp execOp
   simp only [ho, resolve, invoke, builtin, Sem.run_bind, Sem.run_pure, Result.andThen_ok, List.map_toArray, List.map_cons, List.map_nil, hs, hx, hr]
   have hge := grownCap_ge w (out.length + bs.length) cap 5
   refine hK _ _ (h _ _ (.inl ⟨?_, .inr ⟨w.heap.size, grownCap w (out.length + bs.length) cap 5, ((valsB out).toArray ++ (valsB bs).toArray ++ Builtin.zeroCells (Value.int IntKind.u8 0).cells (grownCap w (out.length + bs.length) cap 5 - (out.length + bs.length))), ?_, hB, heap_alloc_new w.drew _, ?_, grownCap_le_maxLen w _ _ _ (by unfold maxLen; omega), ?_, ?_⟩⟩) ((Below.refl _ _ |>.mono hB).drew.alloc hB _))
   ·rw [valsB_len, Nat.mul_one]
   ·rw [List.length_append]
   ·rw [List.length_append]; exact hge
   ·have hz : (Value.int IntKind.u8 0).cells.size = 1 := rfl
    simp only [Array.size_append, List.size_toArray, size_zeroCells, hz, valsB_len]
    omega
   ·simp only [Array.toList_append, List.append_assoc]
    rw [← List.append_assoc, valsB_app, List.take_left' (by simp [valsB_len])]
theorem app_ms {w : World} {ops : Array Oper} {rest : List Oper} {o : Oper} {a : Act} {Q : Exit → Act → World → Prop} (hgd : o.guard = none) (s x : Operand)
 (ho : o.op = .call { callee := .builtin .append, args := #[s, x], argTypes := #[22, 9] }) (B : Nat) (v : Value) (out : List UInt8) (hs : a.eval s = v) (hown : OwnM B w v out)
 (S : ByteArray) (bs : List UInt8) (hx : a.eval x = .string S) (hS : S.data.toList = bs) (hl : out.length + bs.length ≤ 70368744177664) (hB : B ≤ w.heap.size)
 (h : ∀ v' w', OwnM B w' v' (out ++ bs) → Below B w w' → wpList Tryz.prog ops Q rest (a.put o.dst v') w') : wpList Tryz.prog ops Q (o :: rest) a w := by
 rcases hown with hown | ⟨g, cap, cur, lo, hh, rfl, hBg, h3, h4, h5, h6, h7, h8⟩
 ·exact app_s hgd s x ho B v out hs hown S bs hx hS hl hB fun v' w' h1 h2 => h v' w' (.inl h1) h2
 obtain ⟨i0, hi, hz0, hz1, hz2⟩ := byte_info
 subst hS
 have hlen : S.data.toList.length = S.size := Array.length_toList
 have e : Lib.strCells S = valsB S.data.toList := rfl
 by_cases hroom : out.length + S.size ≤ cap
 ·refine wpList_plain hgd fun K hK => ?_
  have hr := room_s w 22 9 o.type i0 5 Tryz.underlying22 Tryz.underlying9 hi hz1 g out.length cap lo hh cur h3 (by omega) S hroom (by omega)
  unfold Oper.wp execOp
  simp only [ho, resolve, invoke, builtin, Sem.run_bind, Sem.run_pure, Result.andThen_ok, List.map_toArray, List.map_cons, List.map_nil, hs, hx, hr]
  obtain ⟨h9, h10⟩ := m_more (bs := S.data.toList) hBg h3 h4 h6 h7 h8 (by rw [hlen]; exact hroom) rfl
  rw [hlen, ← e] at h9 h10
  exact hK _ _ (h _ _ h9 ((Below.refl _ _ |>.mono hB).grown h10 hB fun k hk => by injection hk with hk; omega))
 ·refine wpList_plain hgd fun K hK => ?_
  have hr := Lib.run_append_grow_string (P := Tryz.prog) w 22 9 o.type 5 i0 (.int .u8 0) Tryz.underlying22 Tryz.underlying9 hi hz0 ⟨g, 0, none⟩ out.length cap (valsB out) (by rw [hz1, valsB_len, Nat.mul_one]) (row_byt h3 h8 (by omega)).news S (by omega) (by omega) (growslice_fits (by omega) (by rw [hz2]; omega))
  unfold Oper.wp execOp
  simp only [ho, resolve, invoke, builtin, Sem.run_bind, Sem.run_pure, Result.andThen_ok, List.map_toArray, List.map_cons, List.map_nil, hs, hx, hr]
  have hge := grownCap_ge w (out.length + S.size) cap 5
  rw [e]
  refine hK _ _ (h _ _ (.inl ⟨?_, .inr ⟨w.heap.size, grownCap w (out.length + S.size) cap 5, ((valsB out).toArray ++ (valsB S.data.toList).toArray ++ Builtin.zeroCells (Value.int IntKind.u8 0).cells (grownCap w (out.length + S.size) cap 5 - (out.length + S.size))), ?_, hB, heap_alloc_new w.drew _, ?_, grownCap_le_maxLen w _ _ _ (by unfold maxLen; omega), ?_, ?_⟩⟩) ((Below.refl _ _ |>.mono hB).drew.alloc hB _))
  ·rw [valsB_len, Nat.mul_one]
  ·rw [List.length_append, hlen]
  ·rw [List.length_append, hlen]; exact hge
  ·have hz : (Value.int IntKind.u8 0).cells.size = 1 := rfl
   simp only [Array.size_append, List.size_toArray, size_zeroCells, hz, valsB_len]
   omega
  ·simp only [Array.toList_append, List.append_assoc]
   rw [← List.append_assoc, valsB_app, List.take_left' (by simp [valsB_len])]
end Go.Proofs.YthffpbkndnhlfaaGreatDoor

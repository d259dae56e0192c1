/- Walks and laws, joined: part C. No condition. -/
import Derived.Test.YthacnnmlephkhaaGreatDoorPrJB
import Derived.Test.YthacnnmlephkhaaGreatDoorPrJA
import Derived.Below
import Derived.Laws.OwnMore
import Derived.Deep.Draws
import Derived.Laws.Rows
import Derived.Maps.AppendAt
import Derived.Laws.AppendOwnNone
import Derived.Lib.SliceRun
set_option linter.unusedSimpArgs false
set_option linter.unusedVariables false
/- Bytes of entries, by the program. No condition. -/
namespace Go.Proofs.YthacnnmlephkhaaGreatDoor
open Go Go.RowKit Go.Wk
theorem rowAny (g : Nat) (W : World) (h : W.cell? ⟨g, 0, none⟩ = some (.string ⟨#[32]⟩)) : Calls Tryz.prog 34 #[.slice (some ⟨g, 0, none⟩) 1 1] W (RB W [32]) := by
 have h := prt_row g 0 1 [⟨#[32]⟩] W (fun i hi => by
  match i, hi with
  | 0, _ => exact h) (by decide) (by decide)
 exact h.mono fun e w' hr => hr.rb (by decide)
theorem bulkD_take : ∀ (l : List (List UInt8 × Ob)) (k : Nat), bulkD (l.take k) ≤ bulkD l
 | [], k => by simp [bulkD]
 | o :: r, 0 => by simp [bulkD]
 | o :: r, k + 1 => by have := bulkD_take r k; simp only [List.take_succ_cons, bulkD]; omega
theorem one_cell (w : World) (v : Value) (t : TypeId) : (w.alloc (.cells #[v] t)).cell? ⟨w.heap.size, 0, none⟩ = some v := by
 simp
def GD (p : Nat) (A : Option Addr) (n c : Nat) (K : ByteArray) (ag : Array Value) (nt sh : List UInt8) : Nat → Value → World → Prop := fun j v w => match j with
 | 0 => v = .slice A n c
 | 1 => v = .pointer (some ⟨p, 0, none⟩)
 | 2 => v = .string K
 | 3 => ∃ A c, v = .slice A nt.length c ∧ Byt w A nt
 | 4 => ∃ g, v = .slice (some ⟨g, 0, none⟩) 1 1 ∧ w.cell? ⟨g, 0, none⟩ = some (.string ⟨#[32]⟩)
 | 5 => ∃ A c, v = .slice A 1 c ∧ Byt w A [32]
 | 6 => v = .pointer (some ⟨p, 1, none⟩)
 | 7 => v = .agg ag
 | _ => ∃ A c, v = .slice A sh.length c ∧ Byt w A sh
theorem GD_mono {p : Nat} {A : Option Addr} {n c : Nat} {K : ByteArray} {ag : Array Value} {nt sh : List UInt8} (j : Nat) (v : Value) (w w' : World) (hG : GD p A n c K ag nt sh j v w) (hk : Below w.heap.size w w') : GD p A n c K ag nt sh j v w' := by
 unfold GD at hG ⊢
 split at hG <;> first
  | exact hG
  | (obtain ⟨A, c, e, hb⟩ := hG; exact ⟨A, c, e, hb.below hk⟩)
  | (obtain ⟨g, e, hb⟩ := hG; exact ⟨g, e, (hk.cell (cell_lt hb)).trans hb⟩)
set_option maxHeartbeats 8000000 in
set_option maxRecDepth 100000 in
theorem prt_dict (N : Nat) (hN : N ≤ 1048576) (hs : ShowC N) : DictC N := by
 intro w AD gD oD cD d vd htab hA hl hk hlv hbk
 have zl := bulkD_len d
 have hfit : ∀ e ∈ d, Fits e.2 := fun e he => by obtain ⟨i, hi, rfl⟩ := List.getElem_of_mem he; exact (hl i hi).fits
 have hsl := showD_len d hfit
 obtain ⟨m, hm⟩ : ∃ m, m = d.length := ⟨_, rfl⟩
 rw [← hm] at zl ⊢
 have zm : m ≤ 1048576 := by omega
 have hsl2 : (showD d).length ≤ 41943040 := by omega
 have e41 : 41943050 ≤ maxLen := by unfold maxLen; omega
 have cr : Calls Tryz.prog 34 #[.slice (some ⟨w.heap.size, 0, none⟩) 1 1] (w.alloc (.cells #[.string ⟨#[60, 60]⟩] 9)) (RB w [60, 60]) := row1b w _ (by decide)
 replace hm := hi_ hm
 replace hA := hi_ hA
 replace hl := hi_ hl
 replace hk := hi_ hk
 replace hlv := hi_ hlv
 replace hs := hi_ hs
 replace hfit := hi_ hfit
 replace hsl2 := hi_ hsl2
 replace htab := hi_ htab
 clear hsl
 go_enter Tryz.func46, Tryz.ntmps46
 go_wp2_with (go_at_call 34; (with_reducible refine cr.mono ?_); rintro e w1 ⟨A1, c1, rfl, hb1, hA1, hB1⟩; replace hb1 := hi_ hb1; replace hB1 := hi_ hB1; replace hA1 := hi_ hA1)
 go_loopw [3, 5, 10] (fun s3 _ s10 wr => ∃ (k : Nat) (A : Option Addr) (c : Nat), k ≤ m ∧ s10 = .int .i64 k ∧ s3 = .slice A (60 :: 60 :: showD (d.take k)).length c ∧ Byt wr A (60 :: 60 :: showD (d.take k)) ∧ (A = none → c = 0) ∧ Below w.heap.size w wr) (fun _ _ s10 _ => m - (RowKit.intOf s10).toNat)
 case atStart => exact ⟨0, A1, c1, by omega, rfl, rfl, hb1.out, hA1.out, hB1.out⟩
 case round =>
  obtain ⟨k, A, c, hk0, rfl, rfl, hb, hAc, hB⟩ := hrel
  have lB := hB.size
  by_cases hkm : k < m
  ·have hkl : k < d.length := by rw [← hm.out]; exact hkm
   have hAe := hA.out (by omega)
   subst hAe
   obtain ⟨e, he⟩ : ∃ e, e = d[k] := ⟨_, rfl⟩
   have hob0 := hl.out k hkl
   have hkk0 := (hk.out k hkl).2
   have hcv := hlv.out k hkl
   rw [← he] at hob0 hkk0
   have hz0 := bulkD_at d k hkl
   rw [← he] at hz0
   have hob := hob0.kept hB
   have hsh := show_len e.2 hob.fits
   obtain ⟨us, hus⟩ : ∃ us, us = vd k := ⟨_, rfl⟩
   rw [← hus] at hob hob0 hcv
   obtain ⟨en, E1, E2, E3, en1, ec1, en2, ec2, en3, ec3, hys⟩ := ob_five2 hob
   subst hys
   obtain ⟨kk, hkk⟩ : ∃ k, k = e.2.kind := ⟨_, rfl⟩
   rw [← hkk] at hob hob0 hcv
   obtain ⟨K, hK⟩ : ∃ K, K = bytes e.1 := ⟨_, rfl⟩
   have zK : K.size ≤ 1048576 := by rw [hK, bytes_size]; omega
   have x0 : wr.cell? ⟨gD, oD + k * 6, none⟩ = some (.string K) := by
    have h1 := (hB.cell (cell_lt hkk0)).trans hkk0
    rw [Nat.mul_comm] at h1
    rw [h1, hK]; rfl
   have five : ∀ j u, [Value.int .i64 kk, .int .i64 en, .slice E1 en1 ec1, .slice E2 en2 ec2, .slice E3 en3 ec3][j]? = some u → wr.cell? ⟨gD, oD + k * 6 + 1 + j, none⟩ = some u := fun j u hj => by
    have h0 := hcv j (by have := (List.getElem?_eq_some_iff.1 hj).1; simpa using this)
    rw [hj] at h0
    have h1 := (hB.cell (cell_lt h0)).trans h0
    rw [show oD + (6 * k + 1 + j) = oD + k * 6 + 1 + j by omega] at h1
    exact h1
   have x1 : wr.cell? ⟨gD, oD + k * 6 + 1, none⟩ = some (.int .i64 kk) := five 0 _ rfl
   have x2 : wr.cell? ⟨gD, oD + k * 6 + 2, none⟩ = some (.int .i64 en) := five 1 _ rfl
   have x3 : wr.cell? ⟨gD, oD + k * 6 + 3, none⟩ = some (.slice E1 en1 ec1) := five 2 _ rfl
   have x4 : wr.cell? ⟨gD, oD + k * 6 + 4, none⟩ = some (.slice E2 en2 ec2) := five 3 _ rfl
   have x5 : wr.cell? ⟨gD, oD + k * 6 + 5, none⟩ = some (.slice E3 en3 ec3) := five 4 _ rfl
   clear five hcv hob hus
   replace he := hi_ he
   replace hkk := hi_ hkk
   replace hK := hi_ hK
   replace hob0 := hi_ hob0
   replace hb := hi_ hb
   replace hB := hi_ hB
   replace hAc := hi_ hAc
   replace hsh := hi_ hsh
   clear hkk0
   obtain ⟨S, hS⟩ : ∃ S, S = 60 :: 60 :: showD (d.take k) := ⟨_, rfl⟩
   obtain ⟨R, hR⟩ : ∃ R, R = S ++ (nameT e.1 ++ ([32] ++ e.2.show)) := ⟨_, rfl⟩
   have hR2' : 60 :: 60 :: showD (d.take (k + 1)) = R := by
    rw [hR, hS, List.take_succ_eq_append_getElem hkl, showD_snoc, ← he.out]; rfl
   have hzS : S.length + (nameT e.1).length + 1 + e.2.show.length ≤ 1000000000 := by
    have q1 := showD_len (d.take k) (fun x hx => hfit.out x (List.mem_of_mem_take hx))
    have q2 := bulkD_take d k
    have q3 := nameT_len e.1
    have q4 := hsh.out
    rw [hS]; simp only [List.length_cons]; omega
   replace hR := hi_ hR
   replace hR2' := hi_ hR2'
   replace hzS := hi_ hzS
   rw [← hS] at hb ⊢
   replace hS := hi_ hS
   go_upto_region 5 with (fail)
   obtain ⟨W3, hW3⟩ : ∃ W, W = wr.alloc (.cells #[.string K, .int .i64 kk, .int .i64 en, .slice E1 en1 ec1, .slice E2 en2 ec2, .slice E3 en3 ec3] 53) := ⟨_, rfl⟩
   have hb3 : Below wr.heap.size wr W3 := by rw [hW3]; exact (Below.refl _ _).alloc (Nat.le_refl _) _
   have z3 : W3.heap.size = wr.heap.size + 1 := by rw [hW3, World.size_alloc]
   have ecell : ∀ i v, #[Value.string K, .int .i64 kk, .int .i64 en, .slice E1 en1 ec1, .slice E2 en2 ec2, .slice E3 en3 ec3][i]? = some v → W3.cell? ⟨wr.heap.size, i, none⟩ = some v := by
    intro i v hv
    have h0 := alloc_cell (w := wr) (vs := #[Value.string K, .int .i64 kk, .int .i64 en, .slice E1 en1 ec1, .slice E2 en2 ec2, .slice E3 en3 ec3]) (e := 53) (i := i)
    rw [Nat.zero_add, hv] at h0
    rw [hW3]; exact h0
   rw [← hW3]
   clear x0 x1 x2 x3 x4 x5
   have f0 : W3.cell? ⟨wr.heap.size, 0, none⟩ = some (.string K) := ecell 0 _ rfl
   have f1 : W3.cell? ⟨wr.heap.size, 1, none⟩ = some (.int .i64 kk) := ecell 1 _ rfl
   have f2 : W3.cell? ⟨wr.heap.size, 2, none⟩ = some (.int .i64 en) := ecell 2 _ rfl
   have f3 : W3.cell? ⟨wr.heap.size, 3, none⟩ = some (.slice E1 en1 ec1) := ecell 3 _ rfl
   have f4 : W3.cell? ⟨wr.heap.size, 4, none⟩ = some (.slice E2 en2 ec2) := ecell 4 _ rfl
   have f5 : W3.cell? ⟨wr.heap.size, 5, none⟩ = some (.slice E3 en3 ec3) := ecell 5 _ rfl
   have c12 : ∀ W, Calls Tryz.prog 12 #[.string K] W (RB W (nameT e.1)) := fun W => by
    have h0 := prt_Name K W (by omega)
    rw [hK.out, bytes_list] at h0
    rw [hK.out]
    exact h0.mono fun e' w' hr => hr.rb (by have := nameT_len e.1; unfold maxLen; omega)
   have c31 : ∀ W, Below wr.heap.size wr W → Calls Tryz.prog 31 #[.agg #[.int .i64 kk, .int .i64 en, .slice E1 en1 ec1, .slice E2 en2 ec2, .slice E3 en3 ec3]] W (RB W e.2.show) := fun W hW => hs.out e.2 _ W ((hob0.out.kept hB.out).kept hW) (by omega) (htab.out.below (hB.out.trans (hW.mono lB)))
   clear ecell
   replace c31 := hi_ c31
   have hb3' := hi_ hb3
   clear hb3
   replace hW3 := hi_ hW3
   have c34 : ∀ W : World, Calls Tryz.prog 34 #[.slice (some ⟨W.heap.size, 0, none⟩) 1 1] (W.alloc (.cells #[.string ⟨#[32]⟩] 9)) (RB W [32]) := fun W => row1b W _ (by decide)
   refine wp_lin_tail (by kernel_rfl) [none, none, none, none, none, none, none, none, none, none, none, none, none, none, some 0, some 1, some 2, some 3, some 4, some 5, some 6, some 7, some 8, none, none, none, none, none, none, none, none] (fun w' => Below W3.heap.size W3 w') (fun w' w'' => Below w'.heap.size w' w'') (GD wr.heap.size A S.length c K #[.int .i64 kk, .int .i64 en, .slice E1 en1 ec1, .slice E2 en2 ec2, .slice E3 en3 ec3] (nameT e.1) e.2.show) (by rfl) (by kernel_rfl) 9 _ rfl (by decide) (by kernel_rfl) [9, 2, 3, 9, 5, 9, 7, 8, 9, 0] (by kernel_rfl) ?hR ?mono (.cons 8 (step_of [7, 5] rfl (by kernel_rfl) ?s8) (.cons 7 (step_of [6] rfl (by kernel_rfl) ?s7) (.cons 6 (step_of [] rfl (by kernel_rfl) ?s6) (.cons 5 (step_of [4, 3] rfl (by kernel_rfl) ?s5) (.cons 4 (step_of [] rfl (by kernel_rfl) ?s4) (.cons 3 (step_of [2] rfl (by kernel_rfl) ?s3) (.cons 2 (step_of [1] rfl (by kernel_rfl) ?s2) (.cons 1 (step_of [] rfl (by kernel_rfl) ?s1) (.cons 0 (step_of [] rfl (by kernel_rfl) ?s0) (.nil)))))))))) ?done
   case hR => exact (Below.refl _ _).drew
   case mono => exact GD_mono
   case s0 =>
    intro x w' hRw hd K' hK
    simp only [All, GD] at hd
    simp +decide only [upd, GD, fillL, if_true, if_false] at hK ⊢
    try simp only [hd.1] at hK ⊢
    go_simp
    have hK2 := hK _ _ ⟨hRw, Below.refl _ _, rfl⟩
    exact hK2
   case s1 =>
    intro x w' hRw hd K' hK
    simp only [All, GD] at hd
    simp +decide only [upd, GD, fillL, if_true, if_false] at hK ⊢
    try simp only [hd.1] at hK ⊢
    go_simp
    have hK2 := hK _ _ ⟨hRw, Below.refl _ _, rfl⟩
    exact hK2
   case s2 =>
    intro x w' hRw hd K' hK
    simp only [All, GD] at hd
    have z0 := (hRw.cell (cell_lt f0)).trans f0
    simp +decide only [upd, GD, fillL, if_true, if_false] at hK ⊢
    try simp only [hd.1] at hK ⊢
    go_simp
    have hK2 := hK _ _ ⟨hRw, Below.refl _ _, rfl⟩
    exact hK2
   case s3 =>
    intro x w' hRw hd K' hK
    simp only [All, GD] at hd
    simp +decide only [upd, GD, fillL, if_true, if_false] at hK ⊢
    try simp only [hd.1] at hK ⊢
    go_simp
    refine (c12 w').mono ?_
    rintro e' w2 ⟨A2, c2, rfl, hb2, hA2, hB2⟩
    have hK2 := hK _ _ ⟨bthen hRw hB2, hB2, A2, c2, rfl, hb2⟩
    exact hK2
   case s4 =>
    intro x w' hRw hd K' hK
    simp only [All, GD] at hd
    simp +decide only [upd, GD, fillL, if_true, if_false] at hK ⊢
    try simp only [hd.1] at hK ⊢
    go_simp
    have hK2 := hK _ _ ⟨hRw.alloc hRw.size (.cells #[.string ⟨#[32]⟩] 9), (Below.refl _ _).alloc (Nat.le_refl _) _, _, rfl, one_cell w' _ 9⟩
    exact hK2
   case s5 =>
    intro x w' hRw hd K' hK
    simp only [All, GD] at hd
    obtain ⟨⟨g, e4, hg⟩, _⟩ := hd
    simp +decide only [upd, GD, fillL, if_true, if_false] at hK ⊢
    try simp only [e4] at hK ⊢
    go_simp
    refine (rowAny g w' hg).mono ?_
    rintro e' w2 ⟨A2, c2, rfl, hb2, hA2, hB2⟩
    have hK2 := hK _ _ ⟨bthen hRw hB2, hB2, A2, c2, rfl, hb2⟩
    exact hK2
   case s6 =>
    intro x w' hRw hd K' hK
    simp only [All, GD] at hd
    simp +decide only [upd, GD, fillL, if_true, if_false] at hK ⊢
    try simp only [hd.1] at hK ⊢
    go_simp
    have hK2 := hK _ _ ⟨hRw, Below.refl _ _, rfl⟩
    exact hK2
   case s7 =>
    intro x w' hRw hd K' hK
    simp only [All, GD] at hd
    have z1 := (hRw.cell (cell_lt f1)).trans f1
    have z2 := (hRw.cell (cell_lt f2)).trans f2
    have z3 := (hRw.cell (cell_lt f3)).trans f3
    have z4 := (hRw.cell (cell_lt f4)).trans f4
    have z5 := (hRw.cell (cell_lt f5)).trans f5
    simp +decide only [upd, GD, fillL, if_true, if_false] at hK ⊢
    try simp only [hd.1] at hK ⊢
    go_simp
    have hK2 := hK _ _ ⟨hRw, Below.refl _ _, rfl⟩
    exact hK2
   case s8 =>
    intro x w' hRw hd K' hK
    simp only [All, GD] at hd
    simp +decide only [upd, GD, fillL, if_true, if_false] at hK ⊢
    try simp only [hd.1] at hK ⊢
    go_simp
    refine (c31.out w' (bthen hb3'.out hRw)).mono ?_
    rintro e' w2 ⟨A2, c2, rfl, hb2, hA2, hB2⟩
    have hK2 := hK _ _ ⟨bthen hRw hB2, hB2, A2, c2, rfl, hb2⟩
    exact hK2
   case done =>
    intro x w4 hR2 hG fr hfr
    have g0 := hG 0 (by omega)
    have g3 := hG 3 (by omega)
    have g5 := hG 5 (by omega)
    have g8 := hG 8 (by omega)
    simp only [GD] at g0 g3 g5 g8
    clear hG
    obtain ⟨A2, c2, e3, hb2⟩ := g3
    obtain ⟨A3, c3, e5, hb3⟩ := g5
    obtain ⟨A4, c4, e8, hb4⟩ := g8
    simp only [fillL] at hfr
    rw [g0, e3, e5, e8] at hfr
    subst hfr
    have hD4 : Below wr.heap.size wr w4 := bthen hb3'.out hR2
    have c42 : Calls Tryz.prog 42 #[.slice (some ⟨w4.heap.size, 0, none⟩) 4 4] (w4.alloc (.cells #[.slice A S.length c, .slice A2 (nameT e.1).length c2, .slice A3 1 c3, .slice A4 e.2.show.length c4] 22)) (RB (w4.alloc (.cells #[.slice A S.length c, .slice A2 (nameT e.1).length c2, .slice A3 1 c3, .slice A4 e.2.show.length c4] 22)) R) := (by rw [hR.out]; exact cur_Of4 w4 A A2 A3 A4 c c2 c3 c4 S (nameT e.1) [32] e.2.show (hb.out.below hD4) hb2 hb3 hb4 (by have := hzS.out; simp only [List.length_cons, List.length_nil]; omega))
    replace hD4 := hi_ hD4
    replace hR2 := hi_ hR2
    clear hb2 hb3 hb4
    go_wp2_with (go_at_call 42; (with_reducible refine c42.mono ?_); rintro e' w5 ⟨A5, c5, rfl, hb5, hA5, hB5⟩; have hD5 : Below wr.heap.size wr w5 := bthen hD4.out (bthen ((Below.refl _ _).alloc (Nat.le_refl _) _) hB5); replace hb5 := hi_ hb5; replace hB5 := hi_ hB5; replace hA5 := hi_ hA5; replace hD5 := hi_ hD5)
    go_roundw
    case rel => exact ⟨k + 1, A5, c5, by omega, by go_num, by rw [hR2'.out], by rw [hR2'.out]; exact hb5.out, hA5.out, hB.out.trans (hD5.out.mono lB)⟩
    case measure => simp [RowKit.intOf]; omega
  ·obtain rfl : k = m := by omega
   have hT : d.take k = d := by rw [hm.out, List.take_length]
   rw [hT] at hb ⊢
   obtain ⟨S, hS⟩ : ∃ S, S = 60 :: 60 :: showD d := ⟨_, rfl⟩
   obtain ⟨R, hR⟩ : ∃ R, R = S ++ [62, 62] := ⟨_, rfl⟩
   have hR2 : 60 :: 60 :: (showD d ++ [62, 62]) = R := by rw [hR, hS]; rfl
   have hzS : S.length ≤ 41943042 := by rw [hS]; have := hsl2.out; simp only [List.length_cons]; omega
   rw [← hS] at hb ⊢
   rw [hR2]
   have c34 : Calls Tryz.prog 34 #[.slice (some ⟨wr.heap.size, 0, none⟩) 1 1] (wr.alloc (.cells #[.string ⟨#[62, 62]⟩] 9)) (RB wr [62, 62]) := row1b wr _ (by decide)
   replace hS := hi_ hS
   replace hR := hi_ hR
   replace hR2 := hi_ hR2
   replace hT := hi_ hT
   replace hb := hi_ hb
   replace hB := hi_ hB
   replace hAc := hi_ hAc
   go_wp2_with (first
    | (go_at_call 34; (with_reducible refine c34.mono ?_); rintro e w2 ⟨A2, c2, rfl, hb2, hA2, hB2⟩; have c42 : Calls Tryz.prog 42 #[.slice (some ⟨w2.heap.size, 0, none⟩) 2 2] (w2.alloc (.cells #[.slice A S.length c, .slice A2 2 c2] 22)) (RB (w2.alloc (.cells #[.slice A S.length c, .slice A2 2 c2] 22)) R) := (by rw [hR.out]; exact cur_Of2 w2 A A2 c c2 S [62, 62] (hb.out.below hB2) hb2 (by simp only [List.length_cons, List.length_nil]; omega)); replace hb2 := hi_ hb2; replace hB2 := hi_ hB2; replace hA2 := hi_ hA2)
    | (go_at_call 42; (with_reducible refine c42.mono ?_); rintro e w3 ⟨A3, c3, rfl, hb3, hA3, hB3⟩; replace hb3 := hi_ hb3; replace hB3 := hi_ hB3; replace hA3 := hi_ hA3))
   go_ret
   rw [hR2.out]
   exact ⟨A3, c3, rfl, hb3.out, hA3.out, bthen hB.out (bthen hB2.out (bthen ((Below.refl _ _).alloc (Nat.le_refl _) _) hB3.out))⟩

/- Bytes of an object, by the program; whether it may be. No condition. -/
theorem show_zero : ShowC 0 := fun o vs w _ h _ => by have := bulk_pos o; omega
theorem showC_up : ∀ N, N ≤ 1048576 → ShowC N
 | 0, _ => show_zero
 | N + 1, h => prt_show N h (showC_up N (by omega)) (prt_dict N (by omega) (showC_up N (by omega)))
theorem prt_show_all (o : Ob) (vs : List Value) (w : World) (h : ObAt w o vs) (hb : o.bulk ≤ 1048576) (ht : Tab w) : Calls Tryz.prog 31 #[.agg vs.toArray] w (RB w o.show) :=
 showC_up 1048576 (Nat.le_refl _) o vs w h hb ht
theorem five_cells {w : World} {v0 v1 v2 v3 v4 : Value} {W : World} (hW : W = w.alloc (.cells #[v0, v1, v2, v3, v4] 26)) :
 W.cell? ⟨w.heap.size, 0, none⟩ = some v0 ∧ W.cell? ⟨w.heap.size, 1, none⟩ = some v1 ∧ W.cell? ⟨w.heap.size, 2, none⟩ = some v2 ∧ W.cell? ⟨w.heap.size, 3, none⟩ = some v3 ∧ W.cell? ⟨w.heap.size, 4, none⟩ = some v4 := by
 subst hW
 refine ⟨?_, ?_, ?_, ?_, ?_⟩ <;> simp
theorem five_kept {p : Nat} {v0 v1 v2 v3 v4 : Value} {W W' : World} (h : W.cell? ⟨p, 0, none⟩ = some v0 ∧ W.cell? ⟨p, 1, none⟩ = some v1 ∧ W.cell? ⟨p, 2, none⟩ = some v2 ∧ W.cell? ⟨p, 3, none⟩ = some v3 ∧ W.cell? ⟨p, 4, none⟩ = some v4) (hb : Below W.heap.size W W') :
 W'.cell? ⟨p, 0, none⟩ = some v0 ∧ W'.cell? ⟨p, 1, none⟩ = some v1 ∧ W'.cell? ⟨p, 2, none⟩ = some v2 ∧ W'.cell? ⟨p, 3, none⟩ = some v3 ∧ W'.cell? ⟨p, 4, none⟩ = some v4 :=
 ⟨(hb.cell (cell_lt h.1)).trans h.1, (hb.cell (cell_lt h.2.1)).trans h.2.1, (hb.cell (cell_lt h.2.2.1)).trans h.2.2.1, (hb.cell (cell_lt h.2.2.2.1)).trans h.2.2.2.1, (hb.cell (cell_lt h.2.2.2.2)).trans h.2.2.2.2⟩
set_option maxHeartbeats 4000000 in
set_option maxRecDepth 100000 in
theorem cos_May (o : Ob) (vs : List Value) (w : World) (h : ObAt w o vs) (hbk : o.bulk ≤ 1048576) : Calls Tryz.prog 30 #[.agg vs.toArray] w fun e w' => e = .returned (.bool (o.may 28)) ∧ Below w.heap.size w w' := by
 obtain ⟨en, E1, E2, E3, en1, ec1, en2, ec2, en3, ec3, hys⟩ := ob_five2 h
 subst hys
 obtain ⟨k, hk⟩ : ∃ k, k = o.kind := ⟨_, rfl⟩
 rw [← hk] at h ⊢
 obtain ⟨W1, hW1⟩ : ∃ W, W = w.alloc (.cells #[.int .i64 k, .int .i64 en, .slice E1 en1 ec1, .slice E2 en2 ec2, .slice E3 en3 ec3] 26) := ⟨_, rfl⟩
 have hb1 : Below w.heap.size w W1 := by rw [hW1]; exact (Below.refl _ _).alloc (Nat.le_refl _) _
 have c : Calls Tryz.prog 58 #[.agg #[.int .i64 k, .int .i64 en, .slice E1 en1 ec1, .slice E2 en2 ec2, .slice E3 en3 ec3], .int .i64 28] W1 fun e w' => e = .returned (.bool (o.may 28)) ∧ Below W1.heap.size W1 w' := cos_mayC 28 (by omega) o _ W1 (h.kept hb1) hbk
 obtain ⟨f0, f1, f2, f3, f4⟩ := five_cells hW1
 replace hb1 := hi_ hb1
 clear h hk
 go_enter Tryz.func30, Tryz.ntmps30
 go_upto_region 1 with (fail)
 rw [← hW1]
 replace hW1 := hi_ hW1
 go_wp2_with (go_at_call 58; (with_reducible refine c.mono ?_); rintro e w2 ⟨rfl, hB⟩; replace hB := hi_ hB)
 go_ret
 exact ⟨rfl, bthen hb1.out hB.out⟩
def VR (w : World) (o : Ob) (e : Ending) (w' : World) : Prop := Below w.heap.size w w' ∧ ∃ A c n z, e = .returned (.tuple #[.slice A n c, .int .i64 z]) ∧ (A = none → c = 0) ∧
 ((o.kind ≠ 8 ∧ o.may 28 = true ∧ n = o.show.length ∧ Byt w' A o.show ∧ z = 0) ∨ (¬ (o.kind ≠ 8 ∧ o.may 28 = true) ∧ A = none ∧ n = 0 ∧ z = 1))
end Go.Proofs.YthacnnmlephkhaaGreatDoor

/- Words for memory: a block that is known whole. No condition. -/
namespace Go.Wk
open Go Go.RowKit
def Blk (w : World) (g : Nat) (t : TypeId) (cs : Array Value) : Prop := w.heap[g]? = some (.cells cs t (0, 0))
section
variable {w w' : World} {g : Nat} {t : TypeId} {cs : Array Value}
theorem Blk.lt (h : Blk w g t cs) : g < w.heap.size := by
 rcases Nat.lt_or_ge g w.heap.size with hlt | hge
 ·exact hlt
 ·unfold Blk at h; rw [Array.getElem?_eq_none hge] at h; cases h
theorem Blk.cell (h : Blk w g t cs) (i : Nat) : w.cell? ⟨g, i, none⟩ = cs[i]? := cell_of_row w g i cs t (0, 0) h
theorem Blk.frozen (h : Blk w g t cs) (i : Nat) : w.frozen? ⟨g, i, none⟩ = false := by
 unfold Blk at h
 simp [World.frozen?, h]
theorem Blk.new (w : World) (t : TypeId) (cs : Array Value) : Blk (w.alloc (.cells cs t)) w.heap.size t cs := heap_alloc_new w _
theorem Blk.drew (h : Blk w g t cs) : Blk w.drew g t cs := h
theorem Blk.drewN (h : Blk w g t cs) (n : Nat) : Blk (w.drewN n) g t cs := h
theorem Blk.alloc (h : Blk w g t cs) (o : Obj) : Blk (w.alloc o) g t cs := (Below.heap_alloc w o g h.lt).trans h
theorem Blk.set_ (h : Blk w g t cs) (i : Nat) (u : Value) : Blk (w.setCell ⟨g, i, none⟩ u) g t (cs.setIfInBounds i u) := by
 unfold Blk at h ⊢
 simp [World.setCell, Array.getElem?_modify, h]
theorem Blk.far (h : Blk w g t cs) {p : Addr} (hp : g ≠ p.block) (u : Value) : Blk (w.setCell p u) g t cs := (Below.heap_setCell w p u g hp).trans h
theorem Blk.below {B : Nat} (h : Blk w g t cs) (hb : Below B w w') (hg : g < B) : Blk w' g t cs := (hb.block g hg).trans h
theorem Blk.grown {row : Option Nat} (h : Blk w g t cs) (hb : w.grownBy w' row) (hg : some g ≠ row) : Blk w' g t cs := (hb.block g h.lt hg).trans h
end

/- Objects in memory of their own, and rows of them that grow. No condition. -/
def ObI (lo hi : Nat) (w : World) (o : Ob) (vs : List Value) : Prop := hi ≤ w.heap.size ∧ ∀ w' : World, (∀ b, lo ≤ b → b < hi → w'.heap[b]? = w.heap[b]?) → hi ≤ w'.heap.size → ObAt w' o vs
theorem ObI.ob {lo hi : Nat} {w : World} {o : Ob} {vs : List Value} (h : ObI lo hi w o vs) : ObAt w o vs := h.2 w (fun _ _ _ => rfl) h.1
theorem ObI.keep {lo hi : Nat} {w w' : World} {o : Ob} {vs : List Value} (h : ObI lo hi w o vs) (hk : ∀ b, lo ≤ b → b < hi → w'.heap[b]? = w.heap[b]?) (hs : hi ≤ w'.heap.size) : ObI lo hi w' o vs :=
 ⟨hs, fun w2 h2 hz => h.2 w2 (fun b h3 h4 => (h2 b h3 h4).trans (hk b h3 h4)) hz⟩
theorem ObI.wide {lo lo' hi : Nat} {w : World} {o : Ob} {vs : List Value} (h : ObI lo hi w o vs) (hl : lo' ≤ lo) : ObI lo' hi w o vs :=
 ⟨h.1, fun w2 h2 hz => h.2 w2 (fun b h3 h4 => h2 b (by omega) h4) hz⟩
def EnI (lo hi : Nat) (w : World) (e : List UInt8 × Ob) (rs : List Value) : Prop := ∃ us, rs = strV e.1 :: us ∧ e.1.length ≤ maxLen ∧ ObI lo hi w e.2 us
structure ItLaw {α : Type} (I : Nat → Nat → World → α → List Value → Prop) (sz : Nat) : Prop where
 keep : ∀ {lo hi w w' a us}, I lo hi w a us → (∀ b, lo ≤ b → b < hi → w'.heap[b]? = w.heap[b]?) → hi ≤ w'.heap.size → I lo hi w' a us
 top : ∀ {lo hi w a us}, I lo hi w a us → hi ≤ w.heap.size
 len : ∀ {lo hi w a us}, I lo hi w a us → us.length = sz
theorem ob_law : ItLaw ObI 5 := ⟨fun h hk hs => h.keep hk hs, fun h => h.1, fun h => h.ob.five⟩
theorem en_law : ItLaw EnI 6 := ⟨fun ⟨us, h1, h2, h3⟩ hk hs => ⟨us, h1, h2, h3.keep hk hs⟩, fun ⟨us, h1, h2, h3⟩ => h3.1, fun ⟨us, h1, h2, h3⟩ => by rw [h1]; simp [h3.ob.five]⟩
structure RowG {α : Type} (I : Nat → Nat → World → α → List Value → Prop) (e : TypeId) (sz B : Nat) (w : World) (v : Value) (l : List α) (rss : List (List Value)) : Prop where
 len : rss.length = l.length
 row : w.ownsRow B e sz v l.length rss.flatten
 it : ∀ i (h : i < l.length), ∃ lo hi, B ≤ lo ∧ (∀ g, v.ownBlock = some g → g < lo ∨ hi ≤ g) ∧ I lo hi w l[i] (rss.getD i [])
section
variable {α : Type} {I : Nat → Nat → World → α → List Value → Prop} {e : TypeId} {sz B : Nat} {w w' : World} {v : Value} {l : List α} {rss : List (List Value)}
theorem RowG.nil (I : Nat → Nat → World → α → List Value → Prop) (e : TypeId) (sz B : Nat) (w : World) : RowG I e sz B w (.slice none 0 0) ([] : List α) [] :=
 ⟨rfl, World.ownsRow_nil _ _ _ _, fun i h => by simp at h⟩
theorem own_far {e : TypeId} {sz B : Nat} {w w' : World} {v : Value} {n : Nat} {xs : List Value} (h : w.ownsRow B e sz v n xs) (hk : ∀ b, B ≤ b → b < w.heap.size → w'.heap[b]? = w.heap[b]?) : w'.ownsRow B e sz v n xs := by
 refine ⟨h.1, ?_⟩
 rcases h.2 with h2 | ⟨g, cap, cur, e', hB, hh, rest⟩
 ·exact .inl h2
 ·exact .inr ⟨g, cap, cur, e', hB, (hk g hB (Array.getElem?_eq_some_iff.1 hh).1).trans hh, rest⟩
theorem RowG.far (L : ItLaw I sz) (h : RowG I e sz B w v l rss) (hk : ∀ b, B ≤ b → b < w.heap.size → w'.heap[b]? = w.heap[b]?) (hs : w.heap.size ≤ w'.heap.size) : RowG I e sz B w' v l rss :=
 ⟨h.len, own_far h.row hk, fun i hi => by
  obtain ⟨lo, hi', h1, h2, h3⟩ := h.it i hi
  have ht := L.top h3
  exact ⟨lo, hi', h1, h2, L.keep h3 (fun b hb hb' => hk b (by omega) (by omega)) (by omega)⟩⟩
theorem RowG.below (L : ItLaw I sz) (h : RowG I e sz B w v l rss) (hb : Below w.heap.size w w') : RowG I e sz B w' v l rss :=
 h.far L (fun b _ hb' => hb.block b hb') hb.size
theorem RowG.more (L : ItLaw I sz) (h : RowG I e sz B w v l rss) {a : α} {us : List Value} {lo hi : Nat} (ha : I lo hi w a us) (hlo : B ≤ lo) (hne : ∀ g, v.ownBlock = some g → g < lo ∨ hi ≤ g)
 {v' : Value} (hown : w'.ownsRow B e sz v' (l.length + 1) (rss.flatten ++ us)) (hg : w.grownBy w' v.ownBlock) (hat : v'.ownBlock = v.ownBlock ∨ v'.ownBlock = some w.heap.size) : RowG I e sz B w' v' (l ++ [a]) (rss ++ [us]) := by
 have keep : ∀ {lo hi : Nat}, hi ≤ w.heap.size → (∀ g, v.ownBlock = some g → g < lo ∨ hi ≤ g) → ∀ b, lo ≤ b → b < hi → w'.heap[b]? = w.heap[b]? := fun {lo hi} ht hq b h1 h2 =>
  hg.block b (by omega) (fun e => by have h9 := hq b e.symm; omega)
 have apart : ∀ {lo hi : Nat}, hi ≤ w.heap.size → (∀ g, v.ownBlock = some g → g < lo ∨ hi ≤ g) → ∀ g, v'.ownBlock = some g → g < lo ∨ hi ≤ g := fun {lo hi} ht hq g hgo => by
  rcases hat with e | e
  ·exact hq g (by rw [← e]; exact hgo)
  ·rw [e] at hgo; injection hgo with hgo; right; omega
 refine ⟨by simp [h.len], ?_, fun i hi' => ?_⟩
 ·rw [List.length_append, List.flatten_append]; simpa using hown
 ·rw [List.length_append] at hi'
  simp only [List.length_cons, List.length_nil] at hi'
  have hs := hg.size
  by_cases hil : i < l.length
  ·obtain ⟨lo2, hi2, h1, h2, h3⟩ := h.it i hil
   have ht := L.top h3
   refine ⟨lo2, hi2, h1, apart ht h2, ?_⟩
   rw [List.getElem_append_left hil, List.getD_eq_getElem?_getD, List.getElem?_append_left (by rw [h.len]; exact hil), ← List.getD_eq_getElem?_getD]
   exact L.keep h3 (keep ht h2) (by omega)
  ·obtain rfl : i = l.length := by omega
   have ht := L.top ha
   refine ⟨lo, hi, hlo, apart ht hne, ?_⟩
   have e1 : (rss ++ [us]).getD l.length [] = us := by
    rw [List.getD_eq_getElem?_getD, List.getElem?_append_right (by rw [h.len]; omega), h.len]; simp
   rw [e1]
   have e2 : (l ++ [a])[l.length] = a := by simp
   rw [e2]
   exact L.keep ha (keep ht hne) (by omega)
theorem flat_at {rss : List (List Value)} {sz : Nat} (h : ∀ i, i < rss.length → (rss.getD i []).length = sz) : ∀ i j, i < rss.length → j < sz → rss.flatten[sz * i + j]? = (rss.getD i [])[j]? := by
 induction rss with
 | nil => intro i j hi; simp at hi
 | cons r t ih =>
  intro i j hi hj
  have h0 := h 0 (by simp)
  simp only [List.getD_cons_zero] at h0
  cases i with
  | zero =>
   rw [List.flatten_cons, List.getElem?_append_left (by omega)]; simp
  | succ i =>
   rw [List.flatten_cons, List.getElem?_append_right (by rw [h0, Nat.mul_succ]; omega)]
   have := ih (fun k hk => by have := h (k + 1) (by simpa using hk); simpa using this) i j (by simpa using hi) hj
   rw [h0, show sz * (i + 1) + j - sz = sz * i + j by rw [Nat.mul_succ]; omega, this]
   simp
theorem RowG.out (L : ItLaw I sz) (hsz : 0 < sz) (h : RowG I e sz B w v l rss) : ∃ A c g, v = .slice A l.length c ∧ l.length ≤ c ∧ (A = none → c = 0) ∧ (0 < l.length → A = some ⟨g, 0, none⟩) ∧ c ≤ maxLen ∧
 (∀ i (hi : i < l.length), (∃ lo hi', I lo hi' w l[i] (rss.getD i [])) ∧ ∀ j, j < sz → w.cell? ⟨g, 0 + (sz * i + j), none⟩ = (rss.getD i [])[j]?) := by
 have hlen : ∀ i, i < rss.length → (rss.getD i []).length = sz := fun i hi => by
  obtain ⟨lo, hi', _, _, h3⟩ := h.it i (by rw [← h.len]; exact hi)
  exact L.len h3
 rcases h.row.2 with ⟨rfl, hn⟩ | ⟨g, cap, cur, rfl, hB, hh, hnc, hcm, hcs, htk⟩
 ·exact ⟨none, 0, 0, by rw [hn], by omega, fun _ => rfl, fun h => by omega, by unfold maxLen; omega, fun i hi => by omega⟩
 ·refine ⟨_, cap, g, rfl, hnc, (fun e => by cases e), fun _ => rfl, hcm, fun i hi => ⟨?_, fun j hj => ?_⟩⟩
  ·obtain ⟨lo, hi', _, _, h3⟩ := h.it i hi
   exact ⟨lo, hi', h3⟩
  ·rw [← flat_at hlen i j (by rw [h.len]; exact hi) hj, ← htk, List.getElem?_take]
   have hb : sz * i + j < l.length * sz := by
    have : sz * i + sz ≤ sz * l.length := by rw [← Nat.mul_succ]; exact Nat.mul_le_mul_left _ hi
    rw [Nat.mul_comm l.length]; omega
   rw [if_pos hb, Nat.zero_add]
   simp [World.cell?, hh]
end
theorem built {tb tO tE : TypeId} {B : Nat} {w : World} {k n : Int} {vB vL vD : Value} {b : List UInt8} {l : List Ob} {d : List (List UInt8 × Ob)} {rl rd : List (List Value)}
 (hk1 : -9223372036854775808 ≤ k) (hk2 : k ≤ 9223372036854775807) (hn1 : -9223372036854775808 ≤ n) (hn2 : n ≤ 9223372036854775807)
 (hb : w.ownsRow B tb 1 vB b.length (valsB b)) (hbm : b.length ≤ maxLen) (hL : RowG ObI tO 5 B w vL l rl) (hD : RowG EnI tE 6 B w vD d rd) :
 ObI B w.heap.size w (.mk k n b l d) [.int .i64 k, .int .i64 n, vB, vL, vD] := by
 refine ⟨Nat.le_refl _, fun w' h hz => ?_⟩
 have hb' := own_far hb h
 have hL' := hL.far ob_law h hz
 have hD' := hD.far en_law h hz
 obtain ⟨AL, cL, gL, rfl, h1, h2, h3, h4, h5⟩ := hL'.out ob_law (by omega)
 obtain ⟨AD, cD, gD, rfl, i1, i2, i3, i4, i5⟩ := hD'.out en_law (by omega)
 obtain ⟨A, c, rfl, hby⟩ := own_byt hb'
 have hbc : b.length ≤ c ∧ (A = none → c = 0) := by
  rcases hb'.2 with ⟨e, hn⟩ | ⟨g, cap, cur, e, _, _, hnc, _⟩
  ·injection e with e1 e2 e3; exact ⟨by omega, fun _ => e3⟩
  ·injection e with e1 e2 e3; exact ⟨by omega, fun e => by rw [e] at e1; cases e1⟩
 have hen : ∀ i (hi : i < d.length), ∃ us, rd.getD i [] = strV d[i].1 :: us ∧ d[i].1.length ≤ maxLen ∧ ObAt w' d[i].2 us := fun i hi => by
  obtain ⟨⟨lo, hi', us, e1, e2, e3⟩, _⟩ := i5 i hi
  exact ⟨us, e1, e2, e3.ob⟩
 refine ObAt.mk k n b l d A AL AD c cL cD gL 0 gD 0 (fun i => rl.getD i []) (fun i => (rd.getD i []).drop 1) hk1 hk2 hn1 hn2 (hby hbm) hbc.1 hbc.2 h1 (by omega) i1 (by omega) h3 (fun i hi => ?_) (fun i hi j hj => (h5 i hi).2 j hj) i3 (fun i hi => ?_) (fun i hi => ?_) (fun i hi j hj => ?_)
 ·obtain ⟨⟨lo, hi', e⟩, _⟩ := h5 i hi
  exact e.ob
 ·obtain ⟨us, e1, e2, e3⟩ := hen i hi
  show ObAt w' d[i].2 ((rd.getD i []).drop 1)
  rw [e1]; exact e3
 ·obtain ⟨us, e1, e2, e3⟩ := hen i hi
  have := (i5 i hi).2 0 (by omega)
  rw [e1] at this
  exact ⟨e2, this⟩
 ·have := (i5 i hi).2 (1 + j) (by omega)
  show _ = ((rd.getD i []).drop 1)[j]?
  rw [List.getElem?_drop, ← this]
  congr 2
  omega
end Go.Wk

/- Rows of objects and entries grown by append; bytes cloned. No condition. -/
namespace Go.Proofs.YthacnnmlephkhaaGreatDoor
open Go Go.RowKit Go.Wk
theorem ob_info : ∃ i, Tryz.prog.info? 26 = some i ∧ i.zero = some (.agg #[.int .i64 0, .int .i64 0, .slice none 0 0, .slice none 0 0, .slice none 0 0]) ∧ i.size = 5 ∧ i.bytes = 88 := ⟨Tryz.t26, by kernel_rfl, by kernel_rfl, by kernel_rfl, by kernel_rfl⟩
theorem en_info : ∃ i, Tryz.prog.info? 53 = some i ∧ i.zero = some (.agg #[.string ⟨#[]⟩, .int .i64 0, .int .i64 0, .slice none 0 0, .slice none 0 0, .slice none 0 0]) ∧ i.size = 6 ∧ i.bytes = 104 := ⟨Tryz.t53, by kernel_rfl, by kernel_rfl, by kernel_rfl, by kernel_rfl⟩
theorem one_five {us : List Value} {w : World} {o : Ob} (h : ObAt w o us) : ∀ u ∈ us, u.oneCell' = true := by
 cases h
 intro u hu
 simp at hu
 rcases hu with rfl | rfl | rfl | rfl | rfl <;> rfl
theorem app_ob {w : World} {ops : Array Oper} {rest : List Oper} {o : Oper} {a : Act} {Q : Exit → Act → World → Prop} (hgd : o.guard = none) (s x : Operand)
 (ho : o.op = .call { callee := .builtin .append, args := #[s, x], argTypes := #[23, 23] }) (B : Nat) (v : Value) (l : List Ob) (rss : List (List Value)) (hs : a.eval s = v) (hR : RowG ObI 26 5 B w v l rss)
 (g lo hi : Nat) (ob : Ob) (us : List Value) (hx : a.eval x = .slice (some ⟨g, 0, none⟩) 1 1) (hob : ObI lo hi w ob us) (hlo : B ≤ lo) (hne : ∀ g, v.ownBlock = some g → g < lo ∨ hi ≤ g)
 (hc : ∀ j u, us[j]? = some u → w.cell? ⟨g, j, none⟩ = some u) (hl : l.length ≤ 1000000000) (hB : B ≤ w.heap.size)
 (h : ∀ v' w', RowG ObI 26 5 B w' v' (l ++ [ob]) (rss ++ [us]) → w.grownBy w' v.ownBlock → (v'.ownBlock = v.ownBlock ∨ v'.ownBlock = some w.heap.size) → wpList Tryz.prog ops Q rest (a.put o.dst v') w') : wpList Tryz.prog ops Q (o :: rest) a w := by
 obtain ⟨i0, hi0, hz0, hz1, hz2⟩ := ob_info
 refine wpList_append_own_at w hgd s x 23 ho B 26 i0 _ 5 88 Tryz.underlying23 hi0 hz0 hz1 hz2 rfl (by decide) v l.length rss.flatten hs hR.row ⟨g, 0, none⟩ 1 1 us hx (by rw [hob.ob.five]) ?_ (one_five hob.ob) (by unfold maxLen; omega) (by omega) hB ?_
 ·intro j u hu; rw [addr_add, Nat.zero_add]; exact hc j u hu
 ·intro v' w' h1 h2 _ h3
  exact h v' w' (hR.more ob_law hob hlo hne h1 h2 h3) h2 h3
theorem one_six {rs : List Value} {w : World} {lo hi : Nat} {e : List UInt8 × Ob} (h : EnI lo hi w e rs) : ∀ u ∈ rs, u.oneCell' = true := by
 obtain ⟨us, rfl, _, h3⟩ := h
 intro u hu
 rcases List.mem_cons.1 hu with rfl | hu
 ·rfl
 ·exact one_five h3.ob u hu
theorem app_en {w : World} {ops : Array Oper} {rest : List Oper} {o : Oper} {a : Act} {Q : Exit → Act → World → Prop} (hgd : o.guard = none) (s x : Operand)
 (ho : o.op = .call { callee := .builtin .append, args := #[s, x], argTypes := #[24, 24] }) (B : Nat) (v : Value) (l : List (List UInt8 × Ob)) (rss : List (List Value)) (hs : a.eval s = v) (hR : RowG EnI 53 6 B w v l rss)
 (g lo hi : Nat) (e : List UInt8 × Ob) (us : List Value) (hx : a.eval x = .slice (some ⟨g, 0, none⟩) 1 1) (hob : EnI lo hi w e us) (hlo : B ≤ lo) (hne : ∀ g, v.ownBlock = some g → g < lo ∨ hi ≤ g)
 (hc : ∀ j u, us[j]? = some u → w.cell? ⟨g, j, none⟩ = some u) (hl : l.length ≤ 1000000000) (hB : B ≤ w.heap.size)
 (h : ∀ v' w', RowG EnI 53 6 B w' v' (l ++ [e]) (rss ++ [us]) → w.grownBy w' v.ownBlock → (v'.ownBlock = v.ownBlock ∨ v'.ownBlock = some w.heap.size) → wpList Tryz.prog ops Q rest (a.put o.dst v') w') : wpList Tryz.prog ops Q (o :: rest) a w := by
 obtain ⟨i0, hi0, hz0, hz1, hz2⟩ := en_info
 refine wpList_append_own_at w hgd s x 24 ho B 53 i0 _ 6 104 Tryz.underlying24 hi0 hz0 hz1 hz2 rfl (by decide) v l.length rss.flatten hs hR.row ⟨g, 0, none⟩ 1 1 us hx (by rw [en_law.len hob]) ?_ (one_six hob) (by unfold maxLen; omega) (by omega) hB ?_
 ·intro j u hu; rw [addr_add, Nat.zero_add]; exact hc j u hu
 ·intro v' w' h1 h2 _ h3
  exact h v' w' (hR.more en_law hob hlo hne h1 h2 h3) h2 h3
theorem own_empty (w : World) : Own w.heap.size (w.alloc (.cells #[] 5)) (.slice (some ⟨w.heap.size, 0, none⟩) 0 0) [] :=
 ⟨World.ownsRow_made w #[] 0 (Nat.le_refl _) (by decide) rfl⟩
set_option maxHeartbeats 4000000 in
set_option maxRecDepth 100000 in
theorem byt_Clone (A : Option Addr) (c : Nat) (bs : List UInt8) (w : World) (hb : Byt w A bs) (hA : A = none → c = 0) (hl : bs.length ≤ 1000000000) : Calls Tryz.prog 96 #[.slice A bs.length c] w (RO w bs) := by
 cases A with
 | none =>
  have hbs : bs = [] := by
   cases bs with
   | nil => rfl
   | cons y l => obtain ⟨b, o, e, _⟩ := hb.2 (by simp); cases e
  subst hbs
  obtain rfl := hA rfl
  have hq : (binOp .eql 22 (.slice none 0 0) (.slice none 0 0)).run Tryz.prog w = .ok (.bool true) w := Lib.run_eql_slice_nil w 22 5 none 0 0 0 0 Tryz.underlying22
  go_enter Tryz.func96, Tryz.ntmps96
  go_wp2
  go_ret
  exact ⟨_, rfl, Own.nil _ _, Below.refl _ _⟩
 | some ad =>
  have hb2 := hi_ (hb.below ((Below.refl _ _).alloc (Nat.le_refl _) (.cells #[] 5)))
  have hO := hi_ (own_empty w)
  have hB0 : Below w.heap.size w (w.alloc (.cells #[] 5)) := (Below.refl _ _).alloc (Nat.le_refl _) _
  replace hB0 := hi_ hB0
  obtain ⟨m, hm⟩ : ∃ m, m = bs.length := ⟨_, rfl⟩
  rw [← hm]
  replace hm := hi_ hm
  have hq : (binOp .eql 22 (.slice (some ad) m c) (.slice none 0 0)).run Tryz.prog w = .ok (.bool false) w := Lib.run_eql_slice_nil w 22 5 (some ad) m c 0 0 Tryz.underlying22
  clear hb hA
  go_enter Tryz.func96, Tryz.ntmps96
  go_wp2_with (at_builtin; refine app_b rfl _ _ rfl w.heap.size _ _ rfl hO.out (some ad) _ c bs rfl hm.out hb2.out (fun e => (by cases e)) (by simp only [List.length_nil]; omega) (by rw [World.size_alloc]; omega) ?_; intro v' w2 hO2 hB2; replace hO2 := hi_ hO2; replace hB2 := hi_ hB2)
  go_ret
  exact ⟨_, rfl, by simpa using hO2.out, hB0.out.trans hB2.out⟩

/- What holds while an object is copied. No condition. -/
theorem set_grown (w : World) (g i : Nat) (v : Value) : w.grownBy (w.setCell ⟨g, i, none⟩ v) (some g) :=
 ⟨rfl, rfl, rfl, by simp [World.setCell], fun k _ hk => Below.heap_setCell _ _ _ _ (fun e => hk (by rw [e]))⟩
theorem own_grown {B : Nat} {w w' : World} {v : Value} {b : List UInt8} {row : Option Nat} (h : Own B w v b) (hg : w.grownBy w' row) (hne : ∀ q, v.ownBlock = some q → some q ≠ row) : Own B w' v b :=
 ⟨h.row.kept hg (by cases e : v.ownBlock with
  | none => exact .inl rfl
  | some q => exact .inr (hne q e))⟩
structure CpL (W2 : World) (BB HS g : Nat) (k n : Int) (vB : Value) (b : List UInt8) (w : World) (vL : Value) (l : List Ob) (rl : List (List Value)) : Prop where
 blk : Blk w g 26 #[.int .i64 k, .int .i64 n, vB, vL, .slice none 0 0]
 own : Own BB w vB b
 lt : ∀ q, vB.ownBlock = some q → q ≠ g ∧ q < HS
 row : RowG ObI 26 5 HS w vL l rl
 below : Below BB W2 w
 g1 : BB ≤ g
 g2 : g < HS
 hs : HS ≤ w.heap.size
theorem CpL.step {W2 : World} {BB HS g : Nat} {k n : Int} {vB : Value} {b : List UInt8} {w w' : World} {vL : Value} {l : List Ob} {rl : List (List Value)} (h : CpL W2 BB HS g k n vB b w vL l rl) (hb : Below w.heap.size w w') : CpL W2 BB HS g k n vB b w' vL l rl :=
 ⟨h.blk.below hb h.blk.lt, h.own.below hb, h.lt, h.row.below ob_law hb, h.below.trans (hb.mono (by have := h.g1; have := h.g2; have := h.hs; omega)), h.g1, h.g2, Nat.le_trans h.hs hb.size⟩
theorem CpL.apart {W2 : World} {BB HS g : Nat} {k n : Int} {vB : Value} {b : List UInt8} {w : World} {vL : Value} {l : List Ob} {rl : List (List Value)} (h : CpL W2 BB HS g k n vB b w vL l rl) : some g ≠ vL.ownBlock := fun e => by
 have := (h.row.row.lt g e.symm).1
 have := h.g2
 omega
theorem CpL.put {W2 : World} {BB HS g : Nat} {k n : Int} {vB : Value} {b : List UInt8} {w w3 : World} {vL v' : Value} {l l' : List Ob} {rl rl' : List (List Value)} (h : CpL W2 BB HS g k n vB b w vL l rl)
 (hR : RowG ObI 26 5 HS w3 v' l' rl') (hg : w.grownBy w3 vL.ownBlock) : Blk w3 g 26 #[.int .i64 k, .int .i64 n, vB, vL, .slice none 0 0] ∧ CpL W2 BB HS g k n vB b (w3.setCell ⟨g, 3, none⟩ v') v' l' rl' := by
 have hblk := h.blk.grown hg h.apart
 have hs := set_grown w3 g 3 v'
 have z3 := hg.size
 have h1 := h.g1
 have h2 := h.g2
 have h3 := h.hs
 have hz : (w3.setCell ⟨g, 3, none⟩ v').heap.size = w3.heap.size := by simp [World.setCell]
 refine ⟨hblk, ⟨hblk.set_ 3 v', ?_, h.lt, ?_, ?_, h1, h2, by omega⟩⟩
 ·refine own_grown (own_grown h.own hg fun q hq e => ?_) hs fun q hq e => ?_
  ·have := (h.row.row.lt q e.symm).1
   have := (h.lt q hq).2
   omega
  ·injection e with e
   exact (h.lt q hq).1 e
 ·exact hR.far ob_law (fun b hb _ => Below.heap_setCell _ _ _ _ (by show b ≠ g; omega)) (by omega)
 ·refine ((h.below).grown hg (by omega) fun q hq => ?_).grown hs (by omega) fun q hq => ?_
  ·have := (h.row.row.lt q hq).1; omega
  ·injection hq with hq; omega
structure CpD (W2 : World) (BB HS HD g : Nat) (k n : Int) (vB : Value) (b : List UInt8) (vL : Value) (l : List Ob) (rl : List (List Value)) (w : World) (vD : Value) (d : List (List UInt8 × Ob)) (rd : List (List Value)) : Prop where
 blk : Blk w g 26 #[.int .i64 k, .int .i64 n, vB, vL, vD]
 own : Own BB w vB b
 lt : ∀ q, vB.ownBlock = some q → q ≠ g ∧ q < HS
 rowL : ∀ w' : World, (∀ c, HS ≤ c → c < HD → w'.heap[c]? = w.heap[c]?) → HD ≤ w'.heap.size → RowG ObI 26 5 HS w' vL l rl
 row : RowG EnI 53 6 HD w vD d rd
 below : Below BB W2 w
 g1 : BB ≤ g
 g2 : g < HS
 h1 : HS ≤ HD
 hs : HD ≤ w.heap.size
theorem CpL.toD {W2 : World} {BB HS g : Nat} {k n : Int} {vB : Value} {b : List UInt8} {w : World} {vL : Value} {l : List Ob} {rl : List (List Value)} (h : CpL W2 BB HS g k n vB b w vL l rl) : CpD W2 BB HS w.heap.size g k n vB b vL l rl w (.slice none 0 0) [] [] :=
 ⟨h.blk, h.own, h.lt, fun w' hw hz => h.row.far ob_law hw hz, RowG.nil _ _ _ _ _, h.below, h.g1, h.g2, h.hs, Nat.le_refl _⟩
theorem CpD.step {W2 : World} {BB HS HD g : Nat} {k n : Int} {vB : Value} {b : List UInt8} {w w' : World} {vL vD : Value} {l : List Ob} {rl : List (List Value)} {d : List (List UInt8 × Ob)} {rd : List (List Value)} (h : CpD W2 BB HS HD g k n vB b vL l rl w vD d rd) (hb : Below w.heap.size w w') : CpD W2 BB HS HD g k n vB b vL l rl w' vD d rd :=
 ⟨h.blk.below hb h.blk.lt, h.own.below hb, h.lt, fun w2 hw hz => h.rowL w2 (fun c h1 h2 => (hw c h1 h2).trans (hb.block c (by have := h.hs; omega))) hz, h.row.below en_law hb, h.below.trans (hb.mono (by have := h.g1; have := h.g2; have := h.h1; have := h.hs; omega)), h.g1, h.g2, h.h1, Nat.le_trans h.hs hb.size⟩
theorem CpD.apart {W2 : World} {BB HS HD g : Nat} {k n : Int} {vB : Value} {b : List UInt8} {w : World} {vL vD : Value} {l : List Ob} {rl : List (List Value)} {d : List (List UInt8 × Ob)} {rd : List (List Value)} (h : CpD W2 BB HS HD g k n vB b vL l rl w vD d rd) : some g ≠ vD.ownBlock := fun e => by
 have := (h.row.row.lt g e.symm).1
 have := h.g2
 have := h.h1
 omega
theorem CpD.put {W2 : World} {BB HS HD g : Nat} {k n : Int} {vB : Value} {b : List UInt8} {w w3 : World} {vL vD v' : Value} {l : List Ob} {rl : List (List Value)} {d d' : List (List UInt8 × Ob)} {rd rd' : List (List Value)} (h : CpD W2 BB HS HD g k n vB b vL l rl w vD d rd)
 (hR : RowG EnI 53 6 HD w3 v' d' rd') (hg : w.grownBy w3 vD.ownBlock) : Blk w3 g 26 #[.int .i64 k, .int .i64 n, vB, vL, vD] ∧ CpD W2 BB HS HD g k n vB b vL l rl (w3.setCell ⟨g, 4, none⟩ v') v' d' rd' := by
 have hblk := h.blk.grown hg h.apart
 have hs := set_grown w3 g 4 v'
 have z3 := hg.size
 have h1 := h.g1
 have h2 := h.g2
 have h3 := h.hs
 have h4 := h.h1
 have hz : (w3.setCell ⟨g, 4, none⟩ v').heap.size = w3.heap.size := by simp [World.setCell]
 refine ⟨hblk, ⟨hblk.set_ 4 v', ?_, h.lt, fun w2 hw hz2 => ?_, ?_, ?_, h1, h2, h4, by omega⟩⟩
 ·refine own_grown (own_grown h.own hg fun q hq e => ?_) hs fun q hq e => ?_
  ·have := (h.row.row.lt q e.symm).1
   have := (h.lt q hq).2
   omega
  ·injection e with e
   exact (h.lt q hq).1 e
 ·refine h.rowL w2 (fun c c1 c2 => ((hw c c1 c2).trans (Below.heap_setCell _ _ _ _ (by show c ≠ g; omega))).trans (hg.block c (by omega) fun e => ?_)) hz2
  have := (h.row.row.lt c e.symm).1
  omega
 ·exact hR.far en_law (fun b hb _ => Below.heap_setCell _ _ _ _ (by show b ≠ g; omega)) (by omega)
 ·refine ((h.below).grown hg (by omega) fun q hq => ?_).grown hs (by omega) fun q hq => ?_
  ·have := (h.row.row.lt q hq).1; omega
  ·injection hq with hq; omega
theorem _root_.Go.Wk.RowG.base {α : Type} {I : Nat → Nat → World → α → List Value → Prop} {e : TypeId} {sz B B' : Nat} {w : World} {v : Value} {l : List α} {rss : List (List Value)} (h : RowG I e sz B w v l rss) (hB : B' ≤ B) : RowG I e sz B' w v l rss := by
 refine ⟨h.len, ⟨h.row.1, ?_⟩, fun i hi => ?_⟩
 ·rcases h.row.2 with h2 | ⟨g, cap, cur, e', hb, rest⟩
  ·exact .inl h2
  ·exact .inr ⟨g, cap, cur, e', Nat.le_trans hB hb, rest⟩
 ·obtain ⟨lo, hi', h1, h2, h3⟩ := h.it i hi
  exact ⟨lo, hi', by omega, h2, h3⟩
theorem CpD.done {W2 : World} {B BB HS HD g : Nat} {k n : Int} {vB : Value} {b : List UInt8} {w : World} {vL vD : Value} {l : List Ob} {rl : List (List Value)} {d : List (List UInt8 × Ob)} {rd : List (List Value)} (h : CpD W2 BB HS HD g k n vB b vL l rl w vD d rd)
 (hk1 : -9223372036854775808 ≤ k) (hk2 : k ≤ 9223372036854775807) (hn1 : -9223372036854775808 ≤ n) (hn2 : n ≤ 9223372036854775807) (hbm : b.length ≤ maxLen) (hB : B ≤ BB) :
 ObI B w.heap.size w (.mk k n b l d) [.int .i64 k, .int .i64 n, vB, vL, vD] := by
 have h1 := h.g1
 have h2 := h.g2
 have h3 := h.h1
 exact built hk1 hk2 hn1 hn2 ((h.own.base hB).row) hbm ((h.rowL w (fun _ _ _ => rfl) h.hs).base (by omega)) (h.row.base (by omega))

/- An object copied. No condition. -/
def CopyC (N : Nat) : Prop := ∀ (o : Ob) (vs : List Value) (w : World), ObAt w o vs → o.bulk ≤ N → Calls Tryz.prog 66 #[.agg vs.toArray] w fun e w' => ∃ us, e = .returned (.agg (List.toArray us)) ∧ ObI w.heap.size w'.heap.size w' o us ∧ Below w.heap.size w w'
def GC (p BB : Nat) (k n : Int) (A : Option Addr) (c : Nat) (b : List UInt8) : Nat → Value → World → Prop := fun j v w => match j with
 | 0 => v = .pointer (some ⟨p, 0, none⟩)
 | 1 => v = .int .i64 k
 | 2 => v = .pointer (some ⟨p, 1, none⟩)
 | 3 => v = .int .i64 n
 | 4 => v = .pointer (some ⟨p, 2, none⟩)
 | 5 => v = .slice A b.length c
 | 6 => Own BB w v b
 | 7 => ∃ A' c', v = .agg #[.int .i64 k, .int .i64 n, .slice A' b.length c', .slice none 0 0, .slice none 0 0] ∧ Own BB w (.slice A' b.length c') b
 | _ => ∃ g, v = .pointer (some ⟨g, 0, none⟩) ∧ Blk w g 26 #[.int .i64 0, .int .i64 0, .slice none 0 0, .slice none 0 0, .slice none 0 0] ∧ BB ≤ g
theorem GC_mono {p BB : Nat} {k n : Int} {A : Option Addr} {c : Nat} {b : List UInt8} (j : Nat) (v : Value) (w w' : World) (hG : GC p BB k n A c b j v w) (hk : Below w.heap.size w w') : GC p BB k n A c b j v w' := by
 unfold GC at hG ⊢
 split at hG <;> first
  | exact hG
  | exact hG.below hk
  | (obtain ⟨A', c', e, h⟩ := hG; exact ⟨A', c', e, h.below hk⟩)
  | (obtain ⟨g, e, h, hb⟩ := hG; exact ⟨g, e, h.below hk h.lt, hb⟩)
theorem own_not {B : Nat} {w : World} {v : Value} {b : List UInt8} (h : Own B w v b) {g : Nat} {cs : Array Value} (hb : Blk w g 26 cs) : v.ownBlock ≠ some g := by
 rcases h.row.2 with ⟨rfl, _⟩ | ⟨g', cap, cur, rfl, _, hh, _⟩
 ·simp [Value.ownBlock]
 ·intro e
  simp only [Value.ownBlock, Option.some.injEq] at e
  subst e
  unfold Blk at hb
  rw [hb] at hh
  simp at hh
theorem six_cells {w : World} {v0 v1 v2 v3 v4 v5 : Value} {W : World} (hW : W = w.alloc (.cells #[v0, v1, v2, v3, v4, v5] 53)) :
 W.cell? ⟨w.heap.size, 0, none⟩ = some v0 ∧ W.cell? ⟨w.heap.size, 1, none⟩ = some v1 ∧ W.cell? ⟨w.heap.size, 2, none⟩ = some v2 ∧ W.cell? ⟨w.heap.size, 3, none⟩ = some v3 ∧ W.cell? ⟨w.heap.size, 4, none⟩ = some v4 ∧ W.cell? ⟨w.heap.size, 5, none⟩ = some v5 := by
 subst hW
 refine ⟨?_, ?_, ?_, ?_, ?_, ?_⟩ <;> simp
theorem six_kept {p : Nat} {v0 v1 v2 v3 v4 v5 : Value} {W W' : World} (h : W.cell? ⟨p, 0, none⟩ = some v0 ∧ W.cell? ⟨p, 1, none⟩ = some v1 ∧ W.cell? ⟨p, 2, none⟩ = some v2 ∧ W.cell? ⟨p, 3, none⟩ = some v3 ∧ W.cell? ⟨p, 4, none⟩ = some v4 ∧ W.cell? ⟨p, 5, none⟩ = some v5) (hb : Below W.heap.size W W') :
 W'.cell? ⟨p, 0, none⟩ = some v0 ∧ W'.cell? ⟨p, 1, none⟩ = some v1 ∧ W'.cell? ⟨p, 2, none⟩ = some v2 ∧ W'.cell? ⟨p, 3, none⟩ = some v3 ∧ W'.cell? ⟨p, 4, none⟩ = some v4 ∧ W'.cell? ⟨p, 5, none⟩ = some v5 :=
 ⟨(hb.cell (cell_lt h.1)).trans h.1, (hb.cell (cell_lt h.2.1)).trans h.2.1, (hb.cell (cell_lt h.2.2.1)).trans h.2.2.1, (hb.cell (cell_lt h.2.2.2.1)).trans h.2.2.2.1, (hb.cell (cell_lt h.2.2.2.2.1)).trans h.2.2.2.2.1, (hb.cell (cell_lt h.2.2.2.2.2)).trans h.2.2.2.2.2⟩
def GL (W5s g : Nat) (vL : Value) (ag : Array Value) (o : Ob) : Nat → Value → World → Prop := fun j v w => match j with
 | 0 | 6 => v = .pointer (some ⟨g, 3, none⟩)
 | 1 => v = vL
 | 2 => v = .agg ag
 | 3 => ∃ us hi, v = .agg (List.toArray us) ∧ ObI W5s hi w o us
 | _ => ∃ q us hi, v = .slice (some ⟨q, 0, none⟩) 1 1 ∧ ObI W5s hi w o us ∧ ∀ j u, us[j]? = some u → w.cell? ⟨q, j, none⟩ = some u
theorem obI_below {lo hi : Nat} {w w' : World} {o : Ob} {us : List Value} (h : ObI lo hi w o us) (hk : Below w.heap.size w w') : ObI lo hi w' o us := h.keep (fun b _ hb => hk.block b (by have := h.1; omega)) (Nat.le_trans h.1 hk.size)
theorem GL_mono {W5s g : Nat} {vL : Value} {ag : Array Value} {o : Ob} (j : Nat) (v : Value) (w w' : World) (hG : GL W5s g vL ag o j v w) (hk : Below w.heap.size w w') : GL W5s g vL ag o j v w' := by
 unfold GL at hG ⊢
 split at hG <;> first
  | exact hG
  | (obtain ⟨us, hi, e, h⟩ := hG; exact ⟨us, hi, e, obI_below h hk⟩)
  | (obtain ⟨q, us, hi, e, h, hc⟩ := hG; exact ⟨q, us, hi, e, obI_below h hk, fun j u hu => (hk.cell (cell_lt (hc j u hu))).trans (hc j u hu)⟩)
def GE (W5s g p : Nat) (vD : Value) (K : ByteArray) (ag : Array Value) (e : List UInt8 × Ob) : Nat → Value → World → Prop := fun j v w => match j with
 | 0 | 10 => v = .pointer (some ⟨g, 4, none⟩)
 | 1 => v = vD
 | 2 => v = .pointer (some ⟨p, 0, none⟩)
 | 3 => v = .string K
 | 4 => v = .pointer (some ⟨p, 1, none⟩)
 | 5 => v = .agg ag
 | 6 => ∃ us hi, v = .agg (List.toArray us) ∧ ObI W5s hi w e.2 us
 | 7 => ∃ us hi, v = .agg (List.toArray (.string K :: us)) ∧ ObI W5s hi w e.2 us
 | _ => ∃ q us hi, v = .slice (some ⟨q, 0, none⟩) 1 1 ∧ ObI W5s hi w e.2 us ∧ ∀ j u, (Value.string K :: us)[j]? = some u → w.cell? ⟨q, j, none⟩ = some u
theorem GE_mono {W5s g p : Nat} {vD : Value} {K : ByteArray} {ag : Array Value} {e : List UInt8 × Ob} (j : Nat) (v : Value) (w w' : World) (hG : GE W5s g p vD K ag e j v w) (hk : Below w.heap.size w w') : GE W5s g p vD K ag e j v w' := by
 unfold GE at hG ⊢
 split at hG <;> first
  | exact hG
  | (obtain ⟨us, hi, e, h⟩ := hG; exact ⟨us, hi, e, obI_below h hk⟩)
  | (obtain ⟨q, us, hi, e, h, hc⟩ := hG; exact ⟨q, us, hi, e, obI_below h hk, fun j u hu => (hk.cell (cell_lt (hc j u hu))).trans (hc j u hu)⟩)
theorem new_cells (w : World) (us : List Value) (t : TypeId) : ∀ j u, us[j]? = some u → (w.alloc (.cells us.toArray t)).cell? ⟨w.heap.size, j, none⟩ = some u := fun j u hu => by
 have h0 := alloc_cell (w := w) (vs := us.toArray) (e := t) (i := j)
 rw [Nat.zero_add] at h0
 rw [h0]
 simpa using hu
set_option maxHeartbeats 8000000 in
set_option maxRecDepth 100000 in
theorem copy_step (N : Nat) (hN : N + 1 ≤ 1048576) (ih : CopyC N) : CopyC (N + 1) := by
 intro o vs w h hbk
 cases h with
 | mk k n b l d A AL AD c cL cD gL oL gD oD vl vd h1 h2 h3 h4 hB5 h6 h7 h8 h9 h10 h11 hAL hl hlv hAD hdo hdk hdv =>
 have zk : b.length + bulkL l + bulkD d + 1 ≤ N + 1 := hbk
 have zl := bulkL_len l
 have zd := bulkD_len d
 have zlk := fun i hi => bulkL_at l i hi
 have zdk := fun i hi => bulkD_at d i hi
 obtain ⟨m2, hm2⟩ : ∃ m, m = l.length := ⟨_, rfl⟩
 obtain ⟨m3, hm3⟩ : ∃ m, m = d.length := ⟨_, rfl⟩
 have zb1 : b.length ≤ 1048576 := by omega
 rw [← hm2] at zl ⊢
 rw [← hm3] at zd ⊢
 have zl1 : m2 ≤ 1048576 := by omega
 have zd1 : m3 ≤ 1048576 := by omega
 obtain ⟨W1, hW1⟩ : ∃ W, W = w.alloc (.cells #[.int .i64 k, .int .i64 n, .slice A b.length c, .slice AL m2 cL, .slice AD m3 cD] 26) := ⟨_, rfl⟩
 obtain ⟨W2, hW2⟩ : ∃ W, W = W1.alloc (.cells #[.int .i64 0, .int .i64 0, .slice none 0 0, .slice none 0 0, .slice none 0 0] 26) := ⟨_, rfl⟩
 have hb1 : Below w.heap.size w W1 := by rw [hW1]; exact (Below.refl _ _).alloc (Nat.le_refl _) _
 have z1 : W1.heap.size = w.heap.size + 1 := by rw [hW1, World.size_alloc]
 have hb2 : Below w.heap.size w W2 := by rw [hW2]; exact hb1.alloc (by omega) _
 have z2 : W2.heap.size = w.heap.size + 2 := by rw [hW2, World.size_alloc, z1]
 have f := five_kept (five_cells hW1) (W' := W2) (by rw [hW2]; exact (Below.refl _ _).alloc (Nat.le_refl _) _)
 have hR2 : Blk W2 (w.heap.size + 1) 26 #[.int .i64 0, .int .i64 0, .slice none 0 0, .slice none 0 0, .slice none 0 0] := by rw [hW2, ← z1]; exact Blk.new W1 26 _
 obtain ⟨f0, f1, f2, f3, f4⟩ := id f
 have e41 : 1048576 ≤ maxLen := by unfold maxLen; omega
 have hbb := hB5.below hb2
 replace hm2 := hi_ hm2
 replace hm3 := hi_ hm3
 replace hAL := hi_ hAL
 replace hl := hi_ hl
 replace hlv := hi_ hlv
 replace hAD := hi_ hAD
 replace hdo := hi_ hdo
 replace hdk := hi_ hdk
 replace hdv := hi_ hdv
 replace zlk := hi_ zlk
 replace zdk := hi_ zdk
 replace ih := hi_ ih
 replace hb1 := hi_ hb1
 replace hb2 := hi_ hb2
 replace f := hi_ f
 replace hR2 := hi_ hR2
 replace hbb := hi_ hbb
 have hrng := hi_ (And.intro h1 (And.intro h2 (And.intro h3 h4)))
 replace h7 := hi_ h7
 clear h1 h2 h3 h4 hB5 h6 h8 h9 h10 h11 hbk
 go_enter Tryz.func66, Tryz.ntmps66
 go_upto_region 1 with (fail)
 rw [← hW1, ← hW2]
 refine wp_lin_tail (by kernel_rfl) [none, none, none, some 8, none, none, none, none, some 0, some 1, some 2, some 3, some 4, some 5, some 6, some 7, none, none, none, none, none, none, none, none, none, none, none, none, none, none, none, none, none, none, none, none, none, none, none, none, none, none, none, none, none, none, none, none, none, none, none] (fun w' => Below W2.heap.size W2 w') (fun w' w'' => Below w'.heap.size w' w'') (GC w.heap.size W2.heap.size k n A c b) (by rfl) (by kernel_rfl) 9 _ rfl (by decide) (by kernel_rfl) [1, 7, 3, 7, 5, 6, 7, 9, 9, 0] (by kernel_rfl) ?hR ?mono (.cons 8 (step_of [] rfl (by kernel_rfl) ?s8) (.cons 7 (step_of [1, 3, 6] rfl (by kernel_rfl) ?s7) (.cons 6 (step_of [5] rfl (by kernel_rfl) ?s6) (.cons 5 (step_of [4] rfl (by kernel_rfl) ?s5) (.cons 4 (step_of [] rfl (by kernel_rfl) ?s4) (.cons 3 (step_of [2] rfl (by kernel_rfl) ?s3) (.cons 2 (step_of [] rfl (by kernel_rfl) ?s2) (.cons 1 (step_of [0] rfl (by kernel_rfl) ?s1) (.cons 0 (step_of [] rfl (by kernel_rfl) ?s0) (.nil)))))))))) ?done
 case hR => exact (Below.refl _ _).drew
 case mono => exact GC_mono
 case s0 =>
  intro x w' hRw hd K9 hK
  simp only [All, GC] at hd
  obtain ⟨_⟩ := hd
  simp +decide only [upd, GC, fillL, if_true, if_false] at hK ⊢
  go_simp
  have hK2 := hK _ _ ⟨hRw, Below.refl _ _, rfl⟩
  exact hK2
 case s1 =>
  intro x w' hRw hd K9 hK
  simp only [All, GC] at hd
  obtain ⟨e0, _⟩ := hd
  simp +decide only [upd, GC, fillL, if_true, if_false] at hK ⊢
  obtain ⟨y0, y1, y2, y3, y4⟩ := five_kept f.out hRw
  simp only [e0] at hK ⊢
  go_simp
  have hK2 := hK _ _ ⟨hRw, Below.refl _ _, rfl⟩
  exact hK2
 case s2 =>
  intro x w' hRw hd K9 hK
  simp only [All, GC] at hd
  obtain ⟨_⟩ := hd
  simp +decide only [upd, GC, fillL, if_true, if_false] at hK ⊢
  go_simp
  have hK2 := hK _ _ ⟨hRw, Below.refl _ _, rfl⟩
  exact hK2
 case s3 =>
  intro x w' hRw hd K9 hK
  simp only [All, GC] at hd
  obtain ⟨e2, _⟩ := hd
  simp +decide only [upd, GC, fillL, if_true, if_false] at hK ⊢
  obtain ⟨y0, y1, y2, y3, y4⟩ := five_kept f.out hRw
  simp only [e2] at hK ⊢
  go_simp
  have hK2 := hK _ _ ⟨hRw, Below.refl _ _, rfl⟩
  exact hK2
 case s4 =>
  intro x w' hRw hd K9 hK
  simp only [All, GC] at hd
  obtain ⟨_⟩ := hd
  simp +decide only [upd, GC, fillL, if_true, if_false] at hK ⊢
  go_simp
  have hK2 := hK _ _ ⟨hRw, Below.refl _ _, rfl⟩
  exact hK2
 case s5 =>
  intro x w' hRw hd K9 hK
  simp only [All, GC] at hd
  obtain ⟨e4, _⟩ := hd
  simp +decide only [upd, GC, fillL, if_true, if_false] at hK ⊢
  obtain ⟨y0, y1, y2, y3, y4⟩ := five_kept f.out hRw
  simp only [e4] at hK ⊢
  go_simp
  have hK2 := hK _ _ ⟨hRw, Below.refl _ _, rfl⟩
  exact hK2
 case s6 =>
  intro x w' hRw hd K9 hK
  simp only [All, GC] at hd
  obtain ⟨e5, _⟩ := hd
  simp +decide only [upd, GC, fillL, if_true, if_false] at hK ⊢
  simp only [e5] at hK ⊢
  go_simp
  refine (byt_Clone A c b w' (hbb.out.below hRw) h7.out (by omega)).mono ?_
  rintro e' w9 ⟨v9, rfl, hO9, hB9⟩
  have hK2 := hK _ _ ⟨bthen hRw hB9, hB9, hO9.base hRw.size⟩
  exact hK2
 case s7 =>
  intro x w' hRw hd K9 hK
  simp only [All, GC] at hd
  obtain ⟨e1, e3, hO, _⟩ := hd
  simp +decide only [upd, GC, fillL, if_true, if_false] at hK ⊢
  obtain ⟨A6, c6, e6, _⟩ := own_byt hO.row
  rw [e6] at hO
  simp only [e6] at hK ⊢
  simp only [e1, e3] at hK ⊢
  go_simp
  have hK2 := hK _ _ ⟨hRw, Below.refl _ _, _, _, rfl, hO⟩
  exact hK2
 case s8 =>
  intro x w' hRw hd K9 hK
  simp only [All, GC] at hd
  obtain ⟨_⟩ := hd
  simp +decide only [upd, GC, fillL, if_true, if_false] at hK ⊢
  go_simp
  have hK2 := hK _ _ ⟨hRw.alloc hRw.size _, (Below.refl _ _).alloc (Nat.le_refl _) _, _, rfl, Blk.new w' 26 _, hRw.size⟩
  exact hK2
 case done =>
  intro x w3 hRw hG fr hfr
  have g7 := hG 7 (by omega)
  have g8 := hG 8 (by omega)
  simp only [GC] at g7 g8
  clear hG
  obtain ⟨AB, cB, e7, hO⟩ := g7
  obtain ⟨g, e8, hblk, hg⟩ := g8
  simp only [fillL] at hfr
  rw [e7, e8] at hfr
  subst hfr
  have hne := own_not hO hblk
  have hglt := hblk.lt
  have c0 := hblk.cell 0
  have c1 := hblk.cell 1
  have c2 := hblk.cell 2
  have c3 := hblk.cell 3
  have c4 := hblk.cell 4
  have q0 := hblk.frozen 0
  have q1 := hblk.frozen 1
  have q2 := hblk.frozen 2
  have q3 := hblk.frozen 3
  have q4 := hblk.frozen 4
  obtain ⟨W4, hW4⟩ : ∃ W, W = ((((w3.setCell ⟨g, 0, none⟩ (.int .i64 k)).setCell ⟨g, 1, none⟩ (.int .i64 n)).setCell ⟨g, 2, none⟩ (.slice AB b.length cB)).setCell ⟨g, 3, none⟩ (.slice none 0 0)).setCell ⟨g, 4, none⟩ (.slice none 0 0) := ⟨_, rfl⟩
  have hgr : w3.grownBy W4 (some g) := by
   rw [hW4]
   exact ((((set_grown _ _ _ _).trans (set_grown _ _ _ _)).trans (set_grown _ _ _ _)).trans (set_grown _ _ _ _)).trans (set_grown _ _ _ _)
  have hblk4 : Blk W4 g 26 #[.int .i64 k, .int .i64 n, .slice AB b.length cB, .slice none 0 0, .slice none 0 0] := by
   rw [hW4]; exact ((((hblk.set_ 0 _).set_ 1 _).set_ 2 _).set_ 3 _).set_ 4 _
  have z4 : W4.heap.size = w3.heap.size := by rw [hW4]; simp [World.setCell]
  have hO4 : Own W2.heap.size W4 (.slice AB b.length cB) b := own_grown hO hgr fun q hq e => by injection e with e; exact hne (by rw [hq, e])
  have hB4 : Below W2.heap.size W2 W4 := hRw.grown hgr (by omega) fun q hq => by injection hq with hq; omega
  have hL0 : CpL W2 W2.heap.size W4.heap.size g k n (.slice AB b.length cB) b W4 (.slice none 0 0) [] [] :=
   ⟨hblk4, hO4, fun q hq => ⟨fun e => hne (by rw [hq, e]), (hO4.row.lt q hq).2⟩, RowG.nil _ _ _ _ _, hB4, hg, by omega, Nat.le_refl _⟩
  obtain ⟨p0, p1, p2, p3, p4⟩ := five_kept f.out hB4
  clear hgr hblk4 hO4 hO hne hblk
  replace hRw := hi_ hRw
  replace hB4 := hi_ hB4
  replace hL0 := hi_ hL0
  go_upto_region 2 with (fail)
  rw [← hW4]
  clear c0 c1 c2 c3 c4 q0 q1 q2 q3 q4
  replace hW4 := hi_ hW4
  obtain ⟨HS, hHS⟩ : ∃ z, z = W4.heap.size := ⟨_, rfl⟩
  rw [← hHS] at hL0
  replace hHS := hi_ hHS
  go_wp2
  go_loopw [19] (fun s19 wr => ∃ (i : Nat) (vL : Value) (rl : List (List Value)), i ≤ m2 ∧ s19 = .int .i64 i ∧ CpL W2 W2.heap.size HS g k n (.slice AB b.length cB) b wr vL (l.take i) rl) (fun s19 _ => m2 - (RowKit.intOf s19).toNat)
  case atStart => exact ⟨0, _, _, by omega, rfl, hL0.out⟩
  case round =>
   obtain ⟨i, vL, rl, hi, rfl, hL⟩ := hrel
   by_cases him : i < m2
   ·have hil : i < l.length := by rw [← hm2.out]; exact him
    have hAe := hAL.out (by omega)
    subst hAe
    have hbw : Below w.heap.size w wr := bthen hb2.out hL.below
    obtain ⟨o, ho⟩ : ∃ o, o = l[i] := ⟨_, rfl⟩
    have hob := (hl.out i hil).kept hbw
    have hcv := hlv.out i hil
    rw [← ho] at hob
    have hzo : o.bulk ≤ N := by have := bulkL_at l i hil; rw [← ho] at this; omega
    obtain ⟨us0, hus0⟩ : ∃ us, us = vl i := ⟨_, rfl⟩
    rw [← hus0] at hob hcv
    obtain ⟨en, E1, E2, E3, en1, ec1, en2, ec2, en3, ec3, hys⟩ := ob_five2 hob
    obtain ⟨kk, hkk⟩ : ∃ k, k = o.kind := ⟨_, rfl⟩
    rw [← hkk] at hys
    subst hys
    have five : ∀ j u, [Value.int .i64 kk, .int .i64 en, .slice E1 en1 ec1, .slice E2 en2 ec2, .slice E3 en3 ec3][j]? = some u → wr.cell? ⟨gL, oL + i * 5 + j, none⟩ = some u := fun j u hj => by
     have h0 := hcv j (by have := (List.getElem?_eq_some_iff.1 hj).1; simpa using this)
     rw [hj] at h0
     have h1 := (hbw.cell (cell_lt h0)).trans h0
     rw [show oL + (5 * i + j) = oL + i * 5 + j by omega] at h1
     exact h1
    have x0 : wr.cell? ⟨gL, oL + i * 5, none⟩ = some (.int .i64 kk) := five 0 _ rfl
    have x1 : wr.cell? ⟨gL, oL + i * 5 + 1, none⟩ = some (.int .i64 en) := five 1 _ rfl
    have x2 : wr.cell? ⟨gL, oL + i * 5 + 2, none⟩ = some (.slice E1 en1 ec1) := five 2 _ rfl
    have x3 : wr.cell? ⟨gL, oL + i * 5 + 3, none⟩ = some (.slice E2 en2 ec2) := five 3 _ rfl
    have x4 : wr.cell? ⟨gL, oL + i * 5 + 4, none⟩ = some (.slice E3 en3 ec3) := five 4 _ rfl
    obtain ⟨W5, hW5⟩ : ∃ W, W = wr.alloc (.cells #[.int .i64 kk, .int .i64 en, .slice E1 en1 ec1, .slice E2 en2 ec2, .slice E3 en3 ec3] 26) := ⟨_, rfl⟩
    have hb5 : Below wr.heap.size wr W5 := by rw [hW5]; exact (Below.refl _ _).alloc (Nat.le_refl _) _
    have hL5 := hL.step hb5
    have c66 := fun W (hW : Below W5.heap.size W5 W) => ih.out o _ W (hob.kept (bthen hb5 hW)) hzo
    have hy5 := hi_ (five_cells hW5)
    replace c66 := hi_ c66
    have hT : l.take (i + 1) = l.take i ++ [o] := by rw [List.take_succ_eq_append_getElem hil, ho]
    have hzl : (l.take i).length ≤ 1000000000 := by rw [List.length_take]; omega
    have z5 : HS ≤ W5.heap.size := hL5.hs
    clear five hcv hob hus0
    replace hL := hi_ hL
    replace hL5 := hi_ hL5
    replace ho := hi_ ho
    replace hkk := hi_ hkk
    replace hT := hi_ hT
    replace hb5 := hi_ hb5
    replace hbw := hi_ hbw
    replace hzl := hi_ hzl
    go_upto_region 5 with (fail)
    rw [← hW5]
    replace hW5 := hi_ hW5
    clear x0 x1 x2 x3 x4
    refine wp_lin_tail (by kernel_rfl) [none, none, none, none, none, none, none, none, none, none, none, none, none, none, none, none, none, none, none, none, none, none, none, some 0, some 1, some 2, some 3, some 4, none, none, none, none, none, none, none, none, none, none, none, none, none, none, none, none, none, none, none, none, none, none, none] (fun w' => Below W5.heap.size W5 w') (fun w' w'' => Below w'.heap.size w' w'') (GL W5.heap.size g vL #[.int .i64 kk, .int .i64 en, .slice E1 en1 ec1, .slice E2 en2 ec2, .slice E3 en3 ec3] o) (by rfl) (by kernel_rfl) 5 _ rfl (by decide) (by kernel_rfl) [1, 5, 3, 4, 5, 0] (by kernel_rfl) ?ahR ?amono (.cons 4 (step_of [3] rfl (by kernel_rfl) ?a4) (.cons 3 (step_of [2] rfl (by kernel_rfl) ?a3) (.cons 2 (step_of [] rfl (by kernel_rfl) ?a2) (.cons 1 (step_of [0] rfl (by kernel_rfl) ?a1) (.cons 0 (step_of [] rfl (by kernel_rfl) ?a0) (.nil)))))) ?adone
    case ahR => exact (Below.refl _ _).drew
    case amono => exact GL_mono
    case a0 =>
     intro x w' hRw hd K9 hK
     simp only [All, GL] at hd
     obtain ⟨_⟩ := hd
     simp +decide only [upd, GL, fillL, if_true, if_false] at hK ⊢
     go_simp
     have hK2 := hK _ _ ⟨hRw, Below.refl _ _, rfl⟩
     exact hK2
    case a1 =>
     intro x w' hRw hd K9 hK
     simp only [All, GL] at hd
     obtain ⟨e0, _⟩ := hd
     simp +decide only [upd, GL, fillL, if_true, if_false] at hK ⊢
     have hcc := (hL5.out.step hRw).blk.cell 3
     simp only [e0] at hK ⊢
     go_simp
     have hK2 := hK _ _ ⟨hRw, Below.refl _ _, rfl⟩
     exact hK2
    case a2 =>
     intro x w' hRw hd K9 hK
     simp only [All, GL] at hd
     obtain ⟨_⟩ := hd
     simp +decide only [upd, GL, fillL, if_true, if_false] at hK ⊢
     obtain ⟨y0, y1, y2, y3, y4⟩ := five_kept hy5.out hRw
     go_simp
     have hK2 := hK _ _ ⟨hRw, Below.refl _ _, rfl⟩
     exact hK2
    case a3 =>
     intro x w' hRw hd K9 hK
     simp only [All, GL] at hd
     obtain ⟨e2, _⟩ := hd
     simp +decide only [upd, GL, fillL, if_true, if_false] at hK ⊢
     simp only [e2] at hK ⊢
     go_simp
     refine (c66.out w' hRw).mono ?_
     rintro e' w2 ⟨us, rfl, hI, hB9⟩
     have hI2 : ObI W5.heap.size w2.heap.size w2 o us := hI.wide hRw.size
     have hK2 := hK _ _ ⟨bthen hRw hB9, hB9, us, _, rfl, hI2⟩
     exact hK2
    case a4 =>
     intro x w' hRw hd K9 hK
     simp only [All, GL] at hd
     obtain ⟨⟨us, hi9, e3, hI⟩, _⟩ := hd
     simp +decide only [upd, GL, fillL, if_true, if_false] at hK ⊢
     obtain ⟨en', E1', E2', E3', en1', ec1', en2', ec2', en3', ec3', hys'⟩ := ob_five2 hI.ob
     rw [← hkk.out] at hys'
     subst hys'
     simp only [e3] at hK ⊢
     go_simp
     have hba : Below w'.heap.size w' (w'.alloc (.cells #[.int .i64 kk, .int .i64 en', .slice E1' en1' ec1', .slice E2' en2' ec2', .slice E3' en3' ec3'] 26)) := (Below.refl _ _).alloc (Nat.le_refl _) _
     have hK2 := hK _ _ ⟨bthen hRw hba, hba, _, _, _, rfl, obI_below hI hba, new_cells w' _ 26⟩
     exact hK2
    case adone =>
     intro x w4 hR2 hG fr hfr
     have e1 := hG 1 (by omega)
     have e4 := hG 4 (by omega)
     simp only [GL] at e1 e4
     clear hG
     obtain ⟨q, us, hi9, e4, hI, hcs⟩ := e4
     simp only [fillL] at hfr
     rw [e1, e4] at hfr
     have hL6 := hL5.out.step hR2
     have hz6 := hL6.hs
     subst hfr
     refine app_ob rfl _ _ rfl HS _ _ _ rfl hL6.row q W5.heap.size hi9 o us rfl hI z5 (fun q hq => .inl (hL5.out.row.row.lt q hq).2) hcs hzl.out hz6 ?_
     intro v' w5 hR3 hg3 hat3
     obtain ⟨A', n', cc', rfl⟩ : ∃ A' n' c', v' = .slice A' n' c' := by obtain ⟨A', cc', g', hv', _⟩ := hR3.out ob_law (by omega); exact ⟨_, _, _, hv'⟩
     obtain ⟨hbk3, hL8⟩ := hL6.put hR3 hg3
     have c3' := hbk3.cell 3
     have q3' := hbk3.frozen 3
     replace hL8 := hi_ hL8
     clear hR3 hg3 hat3 hbk3 hL6 hI hcs e1 e4 hz6 hR2
     go_wp2
     go_roundw
     case rel => exact ⟨i + 1, _, _, by omega, by go_num, by rw [hT.out]; exact hL8.out⟩
     case measure => simp [RowKit.intOf]; omega
   ·obtain rfl : i = m2 := by omega
    have hT : l.take i = l := by rw [hm2.out, List.take_length]
    rw [hT] at hL
    have hD0 := hL.toD
    obtain ⟨p0, p1, p2, p3, p4⟩ := five_kept f.out hL.below
    obtain ⟨HD, hHD⟩ : ∃ z, z = wr.heap.size := ⟨_, rfl⟩
    rw [← hHD] at hD0
    replace hHD := hi_ hHD
    replace hD0 := hi_ hD0
    replace hL := hi_ hL
    replace hT := hi_ hT
    go_wp2
    go_loopw [34] (fun s34 wr => ∃ (j : Nat) (vD : Value) (rd : List (List Value)), j ≤ m3 ∧ s34 = .int .i64 j ∧ CpD W2 W2.heap.size HS HD g k n (.slice AB b.length cB) b vL l rl wr vD (d.take j) rd) (fun s34 _ => m3 - (RowKit.intOf s34).toNat)
    case atStart => exact ⟨0, _, _, by omega, rfl, hD0.out⟩
    case round =>
    obtain ⟨j, vD, rd, hj, rfl, hD⟩ := hrel
    by_cases hjm : j < m3
    ·have hjl : j < d.length := by rw [← hm3.out]; exact hjm
     have hAe := hAD.out (by omega)
     subst hAe
     have hbw : Below w.heap.size w wr := bthen hb2.out hD.below
     obtain ⟨e, he⟩ : ∃ e, e = d[j] := ⟨_, rfl⟩
     have hob := (hdo.out j hjl).kept hbw
     have hky := hdk.out j hjl
     have hcv := hdv.out j hjl
     rw [← he] at hob hky
     have hzo : e.2.bulk ≤ N := by have := bulkD_at d j hjl; rw [← he] at this; omega
     obtain ⟨us0, hus0⟩ : ∃ us, us = vd j := ⟨_, rfl⟩
     rw [← hus0] at hob hcv
     obtain ⟨en, E1, E2, E3, en1, ec1, en2, ec2, en3, ec3, hys⟩ := ob_five2 hob
     obtain ⟨kk, hkk⟩ : ∃ k, k = e.2.kind := ⟨_, rfl⟩
     rw [← hkk] at hys
     subst hys
     obtain ⟨K, hK⟩ : ∃ K, K = bytes e.1 := ⟨_, rfl⟩
     have x0 : wr.cell? ⟨gD, oD + j * 6, none⟩ = some (.string K) := by
      have h1 := (hbw.cell (cell_lt hky.2)).trans hky.2
      rw [Nat.mul_comm] at h1
      rw [h1, hK]; rfl
     have five : ∀ q u, [Value.int .i64 kk, .int .i64 en, .slice E1 en1 ec1, .slice E2 en2 ec2, .slice E3 en3 ec3][q]? = some u → wr.cell? ⟨gD, oD + j * 6 + 1 + q, none⟩ = some u := fun q u hq => by
      have h0 := hcv q (by have := (List.getElem?_eq_some_iff.1 hq).1; simpa using this)
      rw [hq] at h0
      have h1 := (hbw.cell (cell_lt h0)).trans h0
      rw [show oD + (6 * j + 1 + q) = oD + j * 6 + 1 + q by omega] at h1
      exact h1
     have x1 : wr.cell? ⟨gD, oD + j * 6 + 1, none⟩ = some (.int .i64 kk) := five 0 _ rfl
     have x2 : wr.cell? ⟨gD, oD + j * 6 + 2, none⟩ = some (.int .i64 en) := five 1 _ rfl
     have x3 : wr.cell? ⟨gD, oD + j * 6 + 3, none⟩ = some (.slice E1 en1 ec1) := five 2 _ rfl
     have x4 : wr.cell? ⟨gD, oD + j * 6 + 4, none⟩ = some (.slice E2 en2 ec2) := five 3 _ rfl
     have x5 : wr.cell? ⟨gD, oD + j * 6 + 5, none⟩ = some (.slice E3 en3 ec3) := five 4 _ rfl
     obtain ⟨W5, hW5⟩ : ∃ W, W = wr.alloc (.cells #[.string K, .int .i64 kk, .int .i64 en, .slice E1 en1 ec1, .slice E2 en2 ec2, .slice E3 en3 ec3] 53) := ⟨_, rfl⟩
     have hb5 : Below wr.heap.size wr W5 := by rw [hW5]; exact (Below.refl _ _).alloc (Nat.le_refl _) _
     have hD5 := hD.step hb5
     have hy5 := hi_ (six_cells hW5)
     have c66 := fun W (hW : Below W5.heap.size W5 W) => ih.out e.2 _ W (hob.kept (bthen hb5 hW)) hzo
     have hT2 : d.take (j + 1) = d.take j ++ [e] := by rw [List.take_succ_eq_append_getElem hjl, he]
     have hzl : (d.take j).length ≤ 1000000000 := by rw [List.length_take]; omega
     have z5 : HD ≤ W5.heap.size := hD5.hs
     have hkm := hky.1
     clear five hcv hob hus0 hky
     replace c66 := hi_ c66
     replace hD := hi_ hD
     replace hD5 := hi_ hD5
     replace he := hi_ he
     replace hkk := hi_ hkk
     replace hK := hi_ hK
     replace hT2 := hi_ hT2
     replace hb5 := hi_ hb5
     replace hbw := hi_ hbw
     replace hzl := hi_ hzl
     replace hkm := hi_ hkm
     go_upto_region 10 with (fail)
     rw [← hW5]
     replace hW5 := hi_ hW5
     clear x0 x1 x2 x3 x4 x5
     refine wp_lin_tail (by kernel_rfl) [none, none, none, none, none, none, none, none, none, none, none, none, none, none, none, none, none, none, none, none, none, none, none, none, none, none, none, none, none, none, none, none, none, none, none, none, none, none, some 0, some 1, some 2, some 3, some 4, some 5, some 6, some 7, some 8, none, none, none, none] (fun w' => Below W5.heap.size W5 w') (fun w' w'' => Below w'.heap.size w' w'') (GE W5.heap.size g wr.heap.size vD K #[.int .i64 kk, .int .i64 en, .slice E1 en1 ec1, .slice E2 en2 ec2, .slice E3 en3 ec3] e) (by rfl) (by kernel_rfl) 9 _ rfl (by decide) (by kernel_rfl) [1, 9, 3, 7, 5, 6, 7, 8, 9, 0] (by kernel_rfl) ?dhR ?dmono (.cons 8 (step_of [7] rfl (by kernel_rfl) ?d8) (.cons 7 (step_of [3, 6] rfl (by kernel_rfl) ?d7) (.cons 6 (step_of [5] rfl (by kernel_rfl) ?d6) (.cons 5 (step_of [4] rfl (by kernel_rfl) ?d5) (.cons 4 (step_of [] rfl (by kernel_rfl) ?d4) (.cons 3 (step_of [2] rfl (by kernel_rfl) ?d3) (.cons 2 (step_of [] rfl (by kernel_rfl) ?d2) (.cons 1 (step_of [0] rfl (by kernel_rfl) ?d1) (.cons 0 (step_of [] rfl (by kernel_rfl) ?d0) (.nil)))))))))) ?ddone
     case dhR => exact (Below.refl _ _).drew
     case dmono => exact GE_mono
     case d0 =>
      intro x w' hRw hd K9 hK
      simp only [All, GE] at hd
      obtain ⟨_⟩ := hd
      simp +decide only [upd, GE, fillL, if_true, if_false] at hK ⊢
      go_simp
      have hK2 := hK _ _ ⟨hRw, Below.refl _ _, rfl⟩
      exact hK2
     case d1 =>
      intro x w' hRw hd K9 hK
      simp only [All, GE] at hd
      obtain ⟨e0, _⟩ := hd
      simp +decide only [upd, GE, fillL, if_true, if_false] at hK ⊢
      have hcc := (hD5.out.step hRw).blk.cell 4
      simp only [e0] at hK ⊢
      go_simp
      have hK2 := hK _ _ ⟨hRw, Below.refl _ _, rfl⟩
      exact hK2
     case d2 =>
      intro x w' hRw hd K9 hK
      simp only [All, GE] at hd
      obtain ⟨_⟩ := hd
      simp +decide only [upd, GE, fillL, if_true, if_false] at hK ⊢
      go_simp
      have hK2 := hK _ _ ⟨hRw, Below.refl _ _, rfl⟩
      exact hK2
     case d3 =>
      intro x w' hRw hd K9 hK
      simp only [All, GE] at hd
      obtain ⟨e2, _⟩ := hd
      simp +decide only [upd, GE, fillL, if_true, if_false] at hK ⊢
      obtain ⟨y0, y1, y2, y3, y4, y5⟩ := six_kept hy5.out hRw
      simp only [e2] at hK ⊢
      go_simp
      have hK2 := hK _ _ ⟨hRw, Below.refl _ _, rfl⟩
      exact hK2
     case d4 =>
      intro x w' hRw hd K9 hK
      simp only [All, GE] at hd
      obtain ⟨_⟩ := hd
      simp +decide only [upd, GE, fillL, if_true, if_false] at hK ⊢
      go_simp
      have hK2 := hK _ _ ⟨hRw, Below.refl _ _, rfl⟩
      exact hK2
     case d5 =>
      intro x w' hRw hd K9 hK
      simp only [All, GE] at hd
      obtain ⟨e4, _⟩ := hd
      simp +decide only [upd, GE, fillL, if_true, if_false] at hK ⊢
      obtain ⟨y0, y1, y2, y3, y4, y5⟩ := six_kept hy5.out hRw
      simp only [e4] at hK ⊢
      go_simp
      have hK2 := hK _ _ ⟨hRw, Below.refl _ _, rfl⟩
      exact hK2
     case d6 =>
      intro x w' hRw hd K9 hK
      simp only [All, GE] at hd
      obtain ⟨e5, _⟩ := hd
      simp +decide only [upd, GE, fillL, if_true, if_false] at hK ⊢
      simp only [e5] at hK ⊢
      go_simp
      refine (c66.out w' hRw).mono ?_
      rintro e' w2 ⟨us, rfl, hI, hB9⟩
      have hI2 : ObI W5.heap.size w2.heap.size w2 e.2 us := hI.wide hRw.size
      have hK2 := hK _ _ ⟨bthen hRw hB9, hB9, us, _, rfl, hI2⟩
      exact hK2
     case d7 =>
      intro x w' hRw hd K9 hK
      simp only [All, GE] at hd
      obtain ⟨e3, ⟨us, hi9, e6, hI⟩, _⟩ := hd
      simp +decide only [upd, GE, fillL, if_true, if_false] at hK ⊢
      obtain ⟨en', E1', E2', E3', en1', ec1', en2', ec2', en3', ec3', hys'⟩ := ob_five2 hI.ob
      rw [← hkk.out] at hys'
      subst hys'
      simp only [e3, e6] at hK ⊢
      go_simp
      have hK2 := hK _ _ ⟨hRw, Below.refl _ _, _, _, rfl, hI⟩
      exact hK2
     case d8 =>
      intro x w' hRw hd K9 hK
      simp only [All, GE] at hd
      obtain ⟨⟨us, hi9, e7, hI⟩, _⟩ := hd
      simp +decide only [upd, GE, fillL, if_true, if_false] at hK ⊢
      obtain ⟨en', E1', E2', E3', en1', ec1', en2', ec2', en3', ec3', hys'⟩ := ob_five2 hI.ob
      rw [← hkk.out] at hys'
      subst hys'
      simp only [e7] at hK ⊢
      go_simp
      have hba : Below w'.heap.size w' (w'.alloc (.cells #[.string K, .int .i64 kk, .int .i64 en', .slice E1' en1' ec1', .slice E2' en2' ec2', .slice E3' en3' ec3'] 53)) := (Below.refl _ _).alloc (Nat.le_refl _) _
      have hK2 := hK _ _ ⟨bthen hRw hba, hba, _, _, _, rfl, obI_below hI hba, new_cells w' _ 53⟩
      exact hK2
     case ddone =>
      intro x w4 hR2 hG fr hfr
      have e1 := hG 1 (by omega)
      have e8 := hG 8 (by omega)
      simp only [GE] at e1 e8
      clear hG
      obtain ⟨q, us, hi9, e8, hI, hcs⟩ := e8
      simp only [fillL] at hfr
      rw [e1, e8] at hfr
      have hL6 := hD5.out.step hR2
      have hz6 := hL6.hs
      have hE : EnI W5.heap.size hi9 w4 e (.string K :: us) := ⟨us, by rw [hK.out]; rfl, hkm.out, hI⟩
      subst hfr
      refine app_en rfl _ _ rfl HD _ _ _ rfl hL6.row q W5.heap.size hi9 e (.string K :: us) rfl hE z5 (fun q hq => .inl (hD5.out.row.row.lt q hq).2) hcs hzl.out hz6 ?_
      intro v' w5 hR3 hg3 hat3
      obtain ⟨A', n', cc', rfl⟩ : ∃ A' n' c', v' = .slice A' n' c' := by obtain ⟨A', cc', g', hv', _⟩ := hR3.out en_law (by omega); exact ⟨_, _, _, hv'⟩
      obtain ⟨hbk3, hL8⟩ := hL6.put hR3 hg3
      have c4' := hbk3.cell 4
      have q4' := hbk3.frozen 4
      replace hL8 := hi_ hL8
      clear hR3 hg3 hat3 hbk3 hL6 hI hcs e1 e8 hz6 hR2 hE
      go_wp2
      go_roundw
      case rel => exact ⟨j + 1, _, _, by omega, by go_num, by rw [hT2.out]; exact hL8.out⟩
      case measure => simp [RowKit.intOf]; omega
    ·obtain rfl : j = m3 := by omega
     have hT2 : d.take j = d := by rw [hm3.out, List.take_length]
     rw [hT2] at hD
     obtain ⟨A3, n3, c3, rfl⟩ : ∃ A' n' c', vL = .slice A' n' c' := by obtain ⟨A', cc', g', hv', _⟩ := (hD.rowL wr (fun _ _ _ => rfl) hD.hs).out ob_law (by omega); exact ⟨_, _, _, hv'⟩
     obtain ⟨A4, n4, c4, rfl⟩ : ∃ A' n' c', vD = .slice A' n' c' := by obtain ⟨A', cc', g', hv', _⟩ := hD.row.out en_law (by omega); exact ⟨_, _, _, hv'⟩
     have t0 := hD.blk.cell 0
     have t1 := hD.blk.cell 1
     have t2 := hD.blk.cell 2
     have t3 := hD.blk.cell 3
     have t4 := hD.blk.cell 4
     have hRb := hR2.out.below hD.below (by omega)
     have r0 := hRb.cell 0
     have r1 := hRb.cell 1
     have r2 := hRb.cell 2
     have r3 := hRb.cell 3
     have r4 := hRb.cell 4
     have v0 := hRb.frozen 0
     have v1 := hRb.frozen 1
     have v2 := hRb.frozen 2
     have v3 := hRb.frozen 3
     have v4 := hRb.frozen 4
     replace hD := hi_ hD
     replace hRb := hi_ hRb
     replace hT2 := hi_ hT2
     go_wp2
     obtain ⟨Wf, hWf⟩ : ∃ W, W = ((((wr.setCell ⟨w.heap.size + 1, 0, none⟩ (.int .i64 k)).setCell ⟨w.heap.size + 1, 1, none⟩ (.int .i64 n)).setCell ⟨w.heap.size + 1, 2, none⟩ (.slice AB b.length cB)).setCell ⟨w.heap.size + 1, 3, none⟩ (.slice A3 n3 c3)).setCell ⟨w.heap.size + 1, 4, none⟩ (.slice A4 n4 c4) := ⟨_, rfl⟩
     have hgf : wr.grownBy Wf (some (w.heap.size + 1)) := by
      rw [hWf]
      exact ((((set_grown _ _ _ _).trans (set_grown _ _ _ _)).trans (set_grown _ _ _ _)).trans (set_grown _ _ _ _)).trans (set_grown _ _ _ _)
     have hbf : Blk Wf (w.heap.size + 1) 26 #[.int .i64 k, .int .i64 n, .slice AB b.length cB, .slice A3 n3 c3, .slice A4 n4 c4] := by
      rw [hWf]; exact ((((hRb.out.set_ 0 _).set_ 1 _).set_ 2 _).set_ 3 _).set_ 4 _
     have z9 : Wf.heap.size = wr.heap.size := by rw [hWf]; simp [World.setCell]
     rw [← hWf]
     have hD := hD.out
     have g1 := hD.g1
     obtain ⟨e1, e2, e3, e4⟩ := hrng.out
     have hI := hD.done (B := W2.heap.size) e1 e2 e3 e4 (by omega) (Nat.le_refl _)
     have hI2 : ObI w.heap.size Wf.heap.size Wf (.mk k n b l d) [.int .i64 k, .int .i64 n, .slice AB b.length cB, .slice A3 n3 c3, .slice A4 n4 c4] := by
      rw [z9]
      exact (hI.keep (fun q h1 h2 => hgf.block q h2 (fun e => by injection e with e; omega)) (by omega)).wide (by omega)
     have hBf : Below w.heap.size w Wf := (bthen hb2.out hD.below).grown hgf (by have := hD.hs; have := hD.h1; have := hD.g2; omega) (fun q hq => by injection hq with hq; omega)
     have u0 := hbf.cell 0
     have u1 := hbf.cell 1
     have u2 := hbf.cell 2
     have u3 := hbf.cell 3
     have u4 := hbf.cell 4
     replace hI2 := hi_ hI2
     replace hBf := hi_ hBf
     clear hI hD hgf hbf
     replace hWf := hi_ hWf
     exact bodyPost_ret (by simp [results, Tryz.results66, go_sem, u0, u1, u2, u3, u4]; try rfl) rfl ⟨[.int .i64 k, .int .i64 n, .slice AB b.length cB, .slice A3 n3 c3, .slice A4 n4 c4], rfl, hI2.out, hBf.out⟩
theorem copy_all : ∀ N, N ≤ 1048576 → CopyC N
 | 0, _ => fun o vs w _ h => by have := bulk_pos o; omega
 | N + 1, h => copy_step N h (copy_all N (by omega))

/- Bytes copied one by one. No condition. -/
set_option maxHeartbeats 4000000 in
set_option maxRecDepth 100000 in
theorem rf_Copy (A : Option Addr) (c : Nat) (bs : List UInt8) (w : World) (hb : Byt w A bs) (hl : bs.length ≤ 1000000000) : Calls Tryz.prog 39 #[.slice A bs.length c] w (RO w bs) := by
 obtain ⟨m, hm⟩ : ∃ m, m = bs.length := ⟨_, rfl⟩
 rw [← hm] at hl ⊢
 replace hm := hi_ hm
 replace hb := hi_ hb
 go_enter Tryz.func39, Tryz.ntmps39
 go_wp2
 go_loopw [3, 4] (fun s3 s4 wr => ∃ k : Nat, k ≤ m ∧ s4 = .int .i64 k ∧ Own w.heap.size wr s3 (bs.take k) ∧ Below w.heap.size w wr) (fun _ s4 _ => m - (RowKit.intOf s4).toNat)
 case atStart => exact ⟨0, by omega, rfl, Own.nil _ _, Below.refl _ _⟩
 case round =>
  obtain ⟨k, hk, rfl, hO, hB⟩ := hrel
  have lB := hB.size
  by_cases hkm : k < m
  ·have hkl : k < bs.length := by rw [← hm.out]; exact hkm
   obtain ⟨b, o, rfl, hcell⟩ := hb.out.2 (by omega)
   obtain ⟨x, hx⟩ : ∃ x, x = bs[k] := ⟨_, rfl⟩
   have hcx : wr.cell? ⟨b, o + k, none⟩ = some (.int .u8 (x.toNat : Int)) := by
    rw [hx]; exact (hB.cell (cell_lt (hcell k hkl))).trans (hcell k hkl)
   have hT : bs.take (k + 1) = bs.take k ++ [x] := by rw [List.take_succ_eq_append_getElem hkl, hx]
   have hlen : (bs.take k).length ≤ 1000000000 := by rw [List.length_take]; omega
   have hO2 := hO.below ((Below.refl _ _).alloc (Nat.le_refl _) (.cells #[.int .u8 (x.toNat : Int)] 5))
   have hb1 := byt_new1 wr x 5
   have hB2 : Below w.heap.size w (wr.alloc (.cells #[.int .u8 (x.toNat : Int)] 5)) := hB.alloc lB _
   obtain ⟨xi, hxi⟩ : ∃ n : Int, n = (x.toNat : Int) := ⟨_, rfl⟩
   rw [← hxi] at hcx hO2 hb1 hB2
   replace hT := hi_ hT
   replace hlen := hi_ hlen
   replace hO2 := hi_ hO2
   replace hb1 := hi_ hb1
   replace hB2 := hi_ hB2
   replace hxi := hi_ hxi
   clear hcell hx hO hB
   go_wp2_with (at_builtin; refine app_b rfl _ _ rfl w.heap.size _ _ rfl hO2.out (some ⟨wr.heap.size, 0, none⟩) 1 1 [x] rfl rfl hb1.out (fun e => (by cases e)) (by have := hlen.out; simp only [List.length_cons, List.length_nil]; omega) (by rw [World.size_alloc]; omega) ?_; intro v' w2 hO3 hB3; replace hO3 := hi_ hO3; replace hB3 := hi_ hB3)
   go_roundw
   case rel => exact ⟨k + 1, by omega, by go_num, by rw [hT.out]; exact hO3.out, hB2.out.trans hB3.out⟩
   case measure => simp [RowKit.intOf]; omega
  ·obtain rfl : k = m := by omega
   have hT : bs.take k = bs := by rw [hm.out, List.take_length]
   rw [hT] at hO
   replace hO := hi_ hO
   replace hB := hi_ hB
   replace hT := hi_ hT
   go_wp2
   go_ret
   exact ⟨_, rfl, hO.out, hB.out⟩

/- An object copied, by the document. No condition. -/
def RCopyC (N : Nat) : Prop := ∀ (o : Ob) (vs : List Value) (w : World), ObAt w o vs → o.bulk ≤ N → Calls Tryz.prog 51 #[.agg vs.toArray] w fun e w' => ∃ us, e = .returned (.agg (List.toArray us)) ∧ ObI w.heap.size w'.heap.size w' o us ∧ Below w.heap.size w w'
def GLr (W5s g p : Nat) (vL : Value) (gL oL m cL i : Nat) (ag : Array Value) (o : Ob) : Nat → Value → World → Prop := fun j v w => match j with
 | 0 => v = .pointer (some ⟨g, 3, none⟩)
 | 1 => v = vL
 | 2 => v = .pointer (some ⟨p, 3, none⟩)
 | 3 => v = .slice (some ⟨gL, oL, none⟩) m cL
 | 4 => v = .int .i64 (i : Int)
 | 5 => v = .pointer (some ⟨gL, oL + i * 5, none⟩)
 | 6 => v = .agg ag
 | 7 => ∃ us hi, v = .agg (List.toArray us) ∧ ObI W5s hi w o us
 | _ => ∃ q us hi, v = .slice (some ⟨q, 0, none⟩) 1 1 ∧ ObI W5s hi w o us ∧ ∀ j u, us[j]? = some u → w.cell? ⟨q, j, none⟩ = some u
theorem GLr_mono {W5s g p : Nat} {vL : Value} {gL oL m cL i : Nat} {ag : Array Value} {o : Ob} (j : Nat) (v : Value) (w w' : World) (hG : GLr W5s g p vL gL oL m cL i ag o j v w) (hk : Below w.heap.size w w') : GLr W5s g p vL gL oL m cL i ag o j v w' := by
 unfold GLr at hG ⊢
 split at hG <;> first
  | exact hG
  | (obtain ⟨us, hi, e, h⟩ := hG; exact ⟨us, hi, e, obI_below h hk⟩)
  | (obtain ⟨q, us, hi, e, h, hc⟩ := hG; exact ⟨q, us, hi, e, obI_below h hk, fun j u hu => (hk.cell (cell_lt (hc j u hu))).trans (hc j u hu)⟩)
def GEr (W5s g p : Nat) (vD : Value) (gD oD m cD i : Nat) (K : ByteArray) (ag : Array Value) (e : List UInt8 × Ob) : Nat → Value → World → Prop := fun j v w => match j with
 | 0 => v = .pointer (some ⟨g, 4, none⟩)
 | 1 => v = vD
 | 2 | 8 => v = .pointer (some ⟨p, 4, none⟩)
 | 3 | 9 => v = .slice (some ⟨gD, oD, none⟩) m cD
 | 4 | 10 => v = .int .i64 (i : Int)
 | 5 | 6 | 11 => v = .pointer (some ⟨gD, oD + i * 6, none⟩)
 | 7 => v = .string K
 | 12 => v = .pointer (some ⟨gD, oD + i * 6 + 1, none⟩)
 | 13 => v = .agg ag
 | 14 => ∃ us hi, v = .agg (List.toArray us) ∧ ObI W5s hi w e.2 us
 | 15 => ∃ us hi, v = .agg (List.toArray (.string K :: us)) ∧ ObI W5s hi w e.2 us
 | _ => ∃ q us hi, v = .slice (some ⟨q, 0, none⟩) 1 1 ∧ ObI W5s hi w e.2 us ∧ ∀ j u, (Value.string K :: us)[j]? = some u → w.cell? ⟨q, j, none⟩ = some u
theorem GEr_mono {W5s g p : Nat} {vD : Value} {gD oD m cD i : Nat} {K : ByteArray} {ag : Array Value} {e : List UInt8 × Ob} (j : Nat) (v : Value) (w w' : World) (hG : GEr W5s g p vD gD oD m cD i K ag e j v w) (hk : Below w.heap.size w w') : GEr W5s g p vD gD oD m cD i K ag e j v w' := by
 unfold GEr at hG ⊢
 split at hG <;> first
  | exact hG
  | (obtain ⟨us, hi, e, h⟩ := hG; exact ⟨us, hi, e, obI_below h hk⟩)
  | (obtain ⟨q, us, hi, e, h, hc⟩ := hG; exact ⟨q, us, hi, e, obI_below h hk, fun j u hu => (hk.cell (cell_lt (hc j u hu))).trans (hc j u hu)⟩)
set_option maxHeartbeats 8000000 in
set_option maxRecDepth 100000 in
theorem rcopy_step (N : Nat) (hN : N + 1 ≤ 1048576) (ih : RCopyC N) : RCopyC (N + 1) := by
 intro o vs w h hbk
 cases h with
 | mk k n b l d A AL AD c cL cD gL oL gD oD vl vd h1 h2 h3 h4 hB5 h6 h7 h8 h9 h10 h11 hAL hl hlv hAD hdo hdk hdv =>
 have zk : b.length + bulkL l + bulkD d + 1 ≤ N + 1 := hbk
 have zl := bulkL_len l
 have zd := bulkD_len d
 have zlk := fun i hi => bulkL_at l i hi
 have zdk := fun i hi => bulkD_at d i hi
 obtain ⟨m2, hm2⟩ : ∃ m, m = l.length := ⟨_, rfl⟩
 obtain ⟨m3, hm3⟩ : ∃ m, m = d.length := ⟨_, rfl⟩
 have zb1 : b.length ≤ 1048576 := by omega
 rw [← hm2] at zl ⊢
 rw [← hm3] at zd ⊢
 have zl1 : m2 ≤ 1048576 := by omega
 have zd1 : m3 ≤ 1048576 := by omega
 obtain ⟨W1, hW1⟩ : ∃ W, W = w.alloc (.cells #[.int .i64 k, .int .i64 n, .slice A b.length c, .slice AL m2 cL, .slice AD m3 cD] 26) := ⟨_, rfl⟩
 obtain ⟨W2, hW2⟩ : ∃ W, W = W1.alloc (.cells #[.int .i64 0, .int .i64 0, .slice none 0 0, .slice none 0 0, .slice none 0 0] 26) := ⟨_, rfl⟩
 have hb1 : Below w.heap.size w W1 := by rw [hW1]; exact (Below.refl _ _).alloc (Nat.le_refl _) _
 have z1 : W1.heap.size = w.heap.size + 1 := by rw [hW1, World.size_alloc]
 have hb2 : Below w.heap.size w W2 := by rw [hW2]; exact hb1.alloc (by omega) _
 have z2 : W2.heap.size = w.heap.size + 2 := by rw [hW2, World.size_alloc, z1]
 have f := five_kept (five_cells hW1) (W' := W2) (by rw [hW2]; exact (Below.refl _ _).alloc (Nat.le_refl _) _)
 have hR2 : Blk W2 (w.heap.size + 1) 26 #[.int .i64 0, .int .i64 0, .slice none 0 0, .slice none 0 0, .slice none 0 0] := by rw [hW2, ← z1]; exact Blk.new W1 26 _
 obtain ⟨f0, f1, f2, f3, f4⟩ := id f
 have e41 : 1048576 ≤ maxLen := by unfold maxLen; omega
 have hbb := hB5.below hb2
 replace hm2 := hi_ hm2
 replace hm3 := hi_ hm3
 replace hAL := hi_ hAL
 replace hl := hi_ hl
 replace hlv := hi_ hlv
 replace hAD := hi_ hAD
 replace hdo := hi_ hdo
 replace hdk := hi_ hdk
 replace hdv := hi_ hdv
 replace zlk := hi_ zlk
 replace zdk := hi_ zdk
 replace ih := hi_ ih
 replace hb1 := hi_ hb1
 replace hb2 := hi_ hb2
 replace f := hi_ f
 replace hR2 := hi_ hR2
 replace hbb := hi_ hbb
 have hrng := hi_ (And.intro h1 (And.intro h2 (And.intro h3 h4)))
 replace h7 := hi_ h7
 clear h1 h2 h3 h4 hB5 h6 h8 h9 h10 h11 hbk
 go_enter Tryz.func51, Tryz.ntmps51
 go_upto_region 1 with (fail)
 rw [← hW1, ← hW2]
 refine wp_lin_tail (by kernel_rfl) [none, none, none, some 8, none, none, some 0, some 1, some 2, some 3, some 4, some 5, some 6, some 7, none, none, none, none, none, none, none, none, none, none, none, none, none, none, none, none, none, none, none, none, none, none, none, none, none, none, none, none, none, none, none, none, none, none, none, none, none, none, none, none, none, none, none, none, none] (fun w' => Below W2.heap.size W2 w') (fun w' w'' => Below w'.heap.size w' w'') (GC w.heap.size W2.heap.size k n A c b) (by rfl) (by kernel_rfl) 9 _ rfl (by decide) (by kernel_rfl) [1, 7, 3, 7, 5, 6, 7, 9, 9, 0] (by kernel_rfl) ?hR ?mono (.cons 8 (step_of [] rfl (by kernel_rfl) ?s8) (.cons 7 (step_of [1, 3, 6] rfl (by kernel_rfl) ?s7) (.cons 6 (step_of [5] rfl (by kernel_rfl) ?s6) (.cons 5 (step_of [4] rfl (by kernel_rfl) ?s5) (.cons 4 (step_of [] rfl (by kernel_rfl) ?s4) (.cons 3 (step_of [2] rfl (by kernel_rfl) ?s3) (.cons 2 (step_of [] rfl (by kernel_rfl) ?s2) (.cons 1 (step_of [0] rfl (by kernel_rfl) ?s1) (.cons 0 (step_of [] rfl (by kernel_rfl) ?s0) (.nil)))))))))) ?done
 case hR => exact (Below.refl _ _).drew
 case mono => exact GC_mono
 case s0 =>
  intro x w' hRw hd K9 hK
  simp only [All, GC] at hd
  obtain ⟨_⟩ := hd
  simp +decide only [upd, GC, fillL, if_true, if_false] at hK ⊢
  go_simp
  have hK2 := hK _ _ ⟨hRw, Below.refl _ _, rfl⟩
  exact hK2
 case s1 =>
  intro x w' hRw hd K9 hK
  simp only [All, GC] at hd
  obtain ⟨e0, _⟩ := hd
  simp +decide only [upd, GC, fillL, if_true, if_false] at hK ⊢
  obtain ⟨y0, y1, y2, y3, y4⟩ := five_kept f.out hRw
  simp only [e0] at hK ⊢
  go_simp
  have hK2 := hK _ _ ⟨hRw, Below.refl _ _, rfl⟩
  exact hK2
 case s2 =>
  intro x w' hRw hd K9 hK
  simp only [All, GC] at hd
  obtain ⟨_⟩ := hd
  simp +decide only [upd, GC, fillL, if_true, if_false] at hK ⊢
  go_simp
  have hK2 := hK _ _ ⟨hRw, Below.refl _ _, rfl⟩
  exact hK2
 case s3 =>
  intro x w' hRw hd K9 hK
  simp only [All, GC] at hd
  obtain ⟨e2, _⟩ := hd
  simp +decide only [upd, GC, fillL, if_true, if_false] at hK ⊢
  obtain ⟨y0, y1, y2, y3, y4⟩ := five_kept f.out hRw
  simp only [e2] at hK ⊢
  go_simp
  have hK2 := hK _ _ ⟨hRw, Below.refl _ _, rfl⟩
  exact hK2
 case s4 =>
  intro x w' hRw hd K9 hK
  simp only [All, GC] at hd
  obtain ⟨_⟩ := hd
  simp +decide only [upd, GC, fillL, if_true, if_false] at hK ⊢
  go_simp
  have hK2 := hK _ _ ⟨hRw, Below.refl _ _, rfl⟩
  exact hK2
 case s5 =>
  intro x w' hRw hd K9 hK
  simp only [All, GC] at hd
  obtain ⟨e4, _⟩ := hd
  simp +decide only [upd, GC, fillL, if_true, if_false] at hK ⊢
  obtain ⟨y0, y1, y2, y3, y4⟩ := five_kept f.out hRw
  simp only [e4] at hK ⊢
  go_simp
  have hK2 := hK _ _ ⟨hRw, Below.refl _ _, rfl⟩
  exact hK2
 case s6 =>
  intro x w' hRw hd K9 hK
  simp only [All, GC] at hd
  obtain ⟨e5, _⟩ := hd
  simp +decide only [upd, GC, fillL, if_true, if_false] at hK ⊢
  simp only [e5] at hK ⊢
  go_simp
  refine (rf_Copy A c b w' (hbb.out.below hRw) (by omega)).mono ?_
  rintro e' w9 ⟨v9, rfl, hO9, hB9⟩
  have hK2 := hK _ _ ⟨bthen hRw hB9, hB9, hO9.base hRw.size⟩
  exact hK2
 case s7 =>
  intro x w' hRw hd K9 hK
  simp only [All, GC] at hd
  obtain ⟨e1, e3, hO, _⟩ := hd
  simp +decide only [upd, GC, fillL, if_true, if_false] at hK ⊢
  obtain ⟨A6, c6, e6, _⟩ := own_byt hO.row
  rw [e6] at hO
  simp only [e6] at hK ⊢
  simp only [e1, e3] at hK ⊢
  go_simp
  have hK2 := hK _ _ ⟨hRw, Below.refl _ _, _, _, rfl, hO⟩
  exact hK2
 case s8 =>
  intro x w' hRw hd K9 hK
  simp only [All, GC] at hd
  obtain ⟨_⟩ := hd
  simp +decide only [upd, GC, fillL, if_true, if_false] at hK ⊢
  go_simp
  have hK2 := hK _ _ ⟨hRw.alloc hRw.size _, (Below.refl _ _).alloc (Nat.le_refl _) _, _, rfl, Blk.new w' 26 _, hRw.size⟩
  exact hK2
 case done =>
  intro x w3 hRw hG fr hfr
  have g7 := hG 7 (by omega)
  have g8 := hG 8 (by omega)
  simp only [GC] at g7 g8
  clear hG
  obtain ⟨AB, cB, e7, hO⟩ := g7
  obtain ⟨g, e8, hblk, hg⟩ := g8
  simp only [fillL] at hfr
  rw [e7, e8] at hfr
  subst hfr
  have hne := own_not hO hblk
  have hglt := hblk.lt
  have c0 := hblk.cell 0
  have c1 := hblk.cell 1
  have c2 := hblk.cell 2
  have c3 := hblk.cell 3
  have c4 := hblk.cell 4
  have q0 := hblk.frozen 0
  have q1 := hblk.frozen 1
  have q2 := hblk.frozen 2
  have q3 := hblk.frozen 3
  have q4 := hblk.frozen 4
  obtain ⟨W4, hW4⟩ : ∃ W, W = ((((w3.setCell ⟨g, 0, none⟩ (.int .i64 k)).setCell ⟨g, 1, none⟩ (.int .i64 n)).setCell ⟨g, 2, none⟩ (.slice AB b.length cB)).setCell ⟨g, 3, none⟩ (.slice none 0 0)).setCell ⟨g, 4, none⟩ (.slice none 0 0) := ⟨_, rfl⟩
  have hgr : w3.grownBy W4 (some g) := by
   rw [hW4]
   exact ((((set_grown _ _ _ _).trans (set_grown _ _ _ _)).trans (set_grown _ _ _ _)).trans (set_grown _ _ _ _)).trans (set_grown _ _ _ _)
  have hblk4 : Blk W4 g 26 #[.int .i64 k, .int .i64 n, .slice AB b.length cB, .slice none 0 0, .slice none 0 0] := by
   rw [hW4]; exact ((((hblk.set_ 0 _).set_ 1 _).set_ 2 _).set_ 3 _).set_ 4 _
  have z4 : W4.heap.size = w3.heap.size := by rw [hW4]; simp [World.setCell]
  have hO4 : Own W2.heap.size W4 (.slice AB b.length cB) b := own_grown hO hgr fun q hq e => by injection e with e; exact hne (by rw [hq, e])
  have hB4 : Below W2.heap.size W2 W4 := hRw.grown hgr (by omega) fun q hq => by injection hq with hq; omega
  have hL0 : CpL W2 W2.heap.size W4.heap.size g k n (.slice AB b.length cB) b W4 (.slice none 0 0) [] [] :=
   ⟨hblk4, hO4, fun q hq => ⟨fun e => hne (by rw [hq, e]), (hO4.row.lt q hq).2⟩, RowG.nil _ _ _ _ _, hB4, hg, by omega, Nat.le_refl _⟩
  obtain ⟨p0, p1, p2, p3, p4⟩ := five_kept f.out hB4
  clear hgr hblk4 hO4 hO hne hblk
  replace hRw := hi_ hRw
  replace hB4 := hi_ hB4
  replace hL0 := hi_ hL0
  go_upto_region 2 with (fail)
  rw [← hW4]
  clear c0 c1 c2 c3 c4 q0 q1 q2 q3 q4
  replace hW4 := hi_ hW4
  obtain ⟨HS, hHS⟩ : ∃ z, z = W4.heap.size := ⟨_, rfl⟩
  rw [← hHS] at hL0
  replace hHS := hi_ hHS
  go_wp2
  go_loopw [4] (fun s4 wr => ∃ (i : Nat) (vL : Value) (rl : List (List Value)), i ≤ m2 ∧ s4 = .int .i64 i ∧ CpL W2 W2.heap.size HS g k n (.slice AB b.length cB) b wr vL (l.take i) rl) (fun s4 _ => m2 - (RowKit.intOf s4).toNat)
  case atStart => exact ⟨0, _, _, by omega, rfl, hL0.out⟩
  case round =>
   obtain ⟨i, vL, rl, hi, rfl, hL⟩ := hrel
   obtain ⟨k0, k1, k2, k3, k4⟩ := five_kept f.out hL.below
   by_cases him : i < m2
   ·have hil : i < l.length := by rw [← hm2.out]; exact him
    have hAe := hAL.out (by omega)
    subst hAe
    have hbw : Below w.heap.size w wr := bthen hb2.out hL.below
    obtain ⟨o, ho⟩ : ∃ o, o = l[i] := ⟨_, rfl⟩
    have hob := (hl.out i hil).kept hbw
    have hcv := hlv.out i hil
    rw [← ho] at hob
    have hzo : o.bulk ≤ N := by have := bulkL_at l i hil; rw [← ho] at this; omega
    obtain ⟨us0, hus0⟩ : ∃ us, us = vl i := ⟨_, rfl⟩
    rw [← hus0] at hob hcv
    obtain ⟨en, E1, E2, E3, en1, ec1, en2, ec2, en3, ec3, hys⟩ := ob_five2 hob
    obtain ⟨kk, hkk⟩ : ∃ k, k = o.kind := ⟨_, rfl⟩
    rw [← hkk] at hys
    subst hys
    have five : ∀ j u, [Value.int .i64 kk, .int .i64 en, .slice E1 en1 ec1, .slice E2 en2 ec2, .slice E3 en3 ec3][j]? = some u → wr.cell? ⟨gL, oL + i * 5 + j, none⟩ = some u := fun j u hj => by
     have h0 := hcv j (by have := (List.getElem?_eq_some_iff.1 hj).1; simpa using this)
     rw [hj] at h0
     have h1 := (hbw.cell (cell_lt h0)).trans h0
     rw [show oL + (5 * i + j) = oL + i * 5 + j by omega] at h1
     exact h1
    have x0 : wr.cell? ⟨gL, oL + i * 5, none⟩ = some (.int .i64 kk) := five 0 _ rfl
    have x1 : wr.cell? ⟨gL, oL + i * 5 + 1, none⟩ = some (.int .i64 en) := five 1 _ rfl
    have x2 : wr.cell? ⟨gL, oL + i * 5 + 2, none⟩ = some (.slice E1 en1 ec1) := five 2 _ rfl
    have x3 : wr.cell? ⟨gL, oL + i * 5 + 3, none⟩ = some (.slice E2 en2 ec2) := five 3 _ rfl
    have x4 : wr.cell? ⟨gL, oL + i * 5 + 4, none⟩ = some (.slice E3 en3 ec3) := five 4 _ rfl
    have c51 := fun W (hW : Below wr.heap.size wr W) => ih.out o _ W (hob.kept hW) hzo
    have hT : l.take (i + 1) = l.take i ++ [o] := by rw [List.take_succ_eq_append_getElem hil, ho]
    have hzl : (l.take i).length ≤ 1000000000 := by rw [List.length_take]; omega
    have z5 : HS ≤ wr.heap.size := hL.hs
    have xx := fun W (hW : Below wr.heap.size wr W) => And.intro ((hW.cell (cell_lt x0)).trans x0) (And.intro ((hW.cell (cell_lt x1)).trans x1) (And.intro ((hW.cell (cell_lt x2)).trans x2) (And.intro ((hW.cell (cell_lt x3)).trans x3) ((hW.cell (cell_lt x4)).trans x4))))
    clear five hcv hob hus0 x0 x1 x2 x3 x4
    replace c51 := hi_ c51
    replace xx := hi_ xx
    replace hL := hi_ hL
    replace ho := hi_ ho
    replace hkk := hi_ hkk
    replace hT := hi_ hT
    replace hbw := hi_ hbw
    replace hzl := hi_ hzl
    go_upto_region 5 with (fail)
    refine wp_lin_tail (by kernel_rfl) [none, none, none, none, none, none, none, none, none, none, none, none, none, none, none, none, none, none, none, none, none, some 0, some 1, some 2, some 3, some 4, some 5, some 6, some 7, some 8, none, none, none, none, none, none, none, none, none, none, none, none, none, none, none, none, none, none, none, none, none, none, none, none, none, none, none, none, none] (fun w' => Below wr.heap.size wr w') (fun w' w'' => Below w'.heap.size w' w'') (GLr wr.heap.size g w.heap.size vL gL oL m2 cL i #[.int .i64 kk, .int .i64 en, .slice E1 en1 ec1, .slice E2 en2 ec2, .slice E3 en3 ec3] o) (by rfl) (by kernel_rfl) 9 _ rfl (by decide) (by kernel_rfl) [1, 9, 3, 5, 5, 6, 7, 8, 9, 0] (by kernel_rfl) ?ahR ?amono (.cons 8 (step_of [7] rfl (by kernel_rfl) ?a8) (.cons 7 (step_of [6] rfl (by kernel_rfl) ?a7) (.cons 6 (step_of [5] rfl (by kernel_rfl) ?a6) (.cons 5 (step_of [3, 4] rfl (by kernel_rfl) ?a5) (.cons 4 (step_of [] rfl (by kernel_rfl) ?a4) (.cons 3 (step_of [2] rfl (by kernel_rfl) ?a3) (.cons 2 (step_of [] rfl (by kernel_rfl) ?a2) (.cons 1 (step_of [0] rfl (by kernel_rfl) ?a1) (.cons 0 (step_of [] rfl (by kernel_rfl) ?a0) (.nil)))))))))) ?adone
    case ahR => exact (Below.refl _ _).drew
    case amono => exact GLr_mono
    case a0 =>
     intro x w' hRw hd K9 hK
     simp only [All, GLr] at hd
     obtain ⟨_⟩ := hd
     simp +decide only [upd, GLr, fillL, if_true, if_false] at hK ⊢
     go_simp
     have hK2 := hK _ _ ⟨hRw, Below.refl _ _, rfl⟩
     exact hK2
    case a1 =>
     intro x w' hRw hd K9 hK
     simp only [All, GLr] at hd
     obtain ⟨e0, _⟩ := hd
     simp +decide only [upd, GLr, fillL, if_true, if_false] at hK ⊢
     have hcc := (hL.out.step hRw).blk.cell 3
     simp only [e0] at hK ⊢
     go_simp
     have hK2 := hK _ _ ⟨hRw, Below.refl _ _, rfl⟩
     exact hK2
    case a2 =>
     intro x w' hRw hd K9 hK
     simp only [All, GLr] at hd
     obtain ⟨_⟩ := hd
     simp +decide only [upd, GLr, fillL, if_true, if_false] at hK ⊢
     go_simp
     have hK2 := hK _ _ ⟨hRw, Below.refl _ _, rfl⟩
     exact hK2
    case a3 =>
     intro x w' hRw hd K9 hK
     simp only [All, GLr] at hd
     obtain ⟨e2, _⟩ := hd
     simp +decide only [upd, GLr, fillL, if_true, if_false] at hK ⊢
     obtain ⟨y0, y1, y2, y3, y4⟩ := five_kept f.out (hL.out.step hRw).below
     simp only [e2] at hK ⊢
     go_simp
     have hK2 := hK _ _ ⟨hRw, Below.refl _ _, rfl⟩
     exact hK2
    case a4 =>
     intro x w' hRw hd K9 hK
     simp only [All, GLr] at hd
     obtain ⟨_⟩ := hd
     simp +decide only [upd, GLr, fillL, if_true, if_false] at hK ⊢
     go_simp
     have hK2 := hK _ _ ⟨hRw, Below.refl _ _, rfl⟩
     exact hK2
    case a5 =>
     intro x w' hRw hd K9 hK
     simp only [All, GLr] at hd
     obtain ⟨e3, e4, _⟩ := hd
     simp +decide only [upd, GLr, fillL, if_true, if_false] at hK ⊢
     simp only [e3, e4] at hK ⊢
     go_simp
     have hK2 := hK _ _ ⟨hRw, Below.refl _ _, rfl⟩
     exact hK2
    case a6 =>
     intro x w' hRw hd K9 hK
     simp only [All, GLr] at hd
     obtain ⟨e5, _⟩ := hd
     simp +decide only [upd, GLr, fillL, if_true, if_false] at hK ⊢
     obtain ⟨y0, y1, y2, y3, y4⟩ := xx.out w' hRw
     simp only [e5] at hK ⊢
     go_simp
     have hK2 := hK _ _ ⟨hRw, Below.refl _ _, rfl⟩
     exact hK2
    case a7 =>
     intro x w' hRw hd K9 hK
     simp only [All, GLr] at hd
     obtain ⟨e6, _⟩ := hd
     simp +decide only [upd, GLr, fillL, if_true, if_false] at hK ⊢
     simp only [e6] at hK ⊢
     go_simp
     refine (c51.out w' hRw).mono ?_
     rintro e' w2 ⟨us, rfl, hI, hB9⟩
     have hI2 : ObI wr.heap.size w2.heap.size w2 o us := hI.wide hRw.size
     have hK2 := hK _ _ ⟨bthen hRw hB9, hB9, us, _, rfl, hI2⟩
     exact hK2
    case a8 =>
     intro x w' hRw hd K9 hK
     simp only [All, GLr] at hd
     obtain ⟨⟨us, hi9, e7, hI⟩, _⟩ := hd
     simp +decide only [upd, GLr, fillL, if_true, if_false] at hK ⊢
     obtain ⟨en', E1', E2', E3', en1', ec1', en2', ec2', en3', ec3', hys'⟩ := ob_five2 hI.ob
     rw [← hkk.out] at hys'
     subst hys'
     simp only [e7] at hK ⊢
     go_simp
     have hba : Below w'.heap.size w' (w'.alloc (.cells #[.int .i64 kk, .int .i64 en', .slice E1' en1' ec1', .slice E2' en2' ec2', .slice E3' en3' ec3'] 26)) := (Below.refl _ _).alloc (Nat.le_refl _) _
     have hK2 := hK _ _ ⟨bthen hRw hba, hba, _, _, _, rfl, obI_below hI hba, new_cells w' _ 26⟩
     exact hK2
    case adone =>
     intro x w4 hR2 hG fr hfr
     have e1 := hG 1 (by omega)
     have e4 := hG 8 (by omega)
     simp only [GLr] at e1 e4
     clear hG
     obtain ⟨q, us, hi9, e4, hI, hcs⟩ := e4
     simp only [fillL] at hfr
     rw [e1, e4] at hfr
     have hL6 := hL.out.step hR2
     have hz6 := hL6.hs
     subst hfr
     refine app_ob rfl _ _ rfl HS _ _ _ rfl hL6.row q wr.heap.size hi9 o us rfl hI z5 (fun q hq => .inl (hL.out.row.row.lt q hq).2) hcs hzl.out hz6 ?_
     intro v' w5 hR3 hg3 hat3
     obtain ⟨A', n', cc', rfl⟩ : ∃ A' n' c', v' = .slice A' n' c' := by obtain ⟨A', cc', g', hv', _⟩ := hR3.out ob_law (by omega); exact ⟨_, _, _, hv'⟩
     obtain ⟨hbk3, hL8⟩ := hL6.put hR3 hg3
     have c3' := hbk3.cell 3
     have q3' := hbk3.frozen 3
     replace hL8 := hi_ hL8
     clear hR3 hg3 hat3 hbk3 hL6 hI hcs e1 e4 hz6 hR2
     go_wp2
     go_roundw
     case rel => exact ⟨i + 1, _, _, by omega, by go_num, by rw [hT.out]; exact hL8.out⟩
     case measure => simp [RowKit.intOf]; omega
   ·obtain rfl : i = m2 := by omega
    have hT : l.take i = l := by rw [hm2.out, List.take_length]
    rw [hT] at hL
    have hD0 := hL.toD
    obtain ⟨p0, p1, p2, p3, p4⟩ := five_kept f.out hL.below
    obtain ⟨HD, hHD⟩ : ∃ z, z = wr.heap.size := ⟨_, rfl⟩
    rw [← hHD] at hD0
    replace hHD := hi_ hHD
    replace hD0 := hi_ hD0
    replace hL := hi_ hL
    replace hT := hi_ hT
    go_wp2
    go_loopw [5] (fun s5 wr => ∃ (j : Nat) (vD : Value) (rd : List (List Value)), j ≤ m3 ∧ s5 = .int .i64 j ∧ CpD W2 W2.heap.size HS HD g k n (.slice AB b.length cB) b vL l rl wr vD (d.take j) rd) (fun s5 _ => m3 - (RowKit.intOf s5).toNat)
    case atStart => exact ⟨0, _, _, by omega, rfl, hD0.out⟩
    case round =>
    obtain ⟨j, vD, rd, hj, rfl, hD⟩ := hrel
    obtain ⟨k0', k1', k2', k3', k4'⟩ := five_kept f.out hD.below
    by_cases hjm : j < m3
    ·have hjl : j < d.length := by rw [← hm3.out]; exact hjm
     have hAe := hAD.out (by omega)
     subst hAe
     have hbw : Below w.heap.size w wr := bthen hb2.out hD.below
     obtain ⟨e, he⟩ : ∃ e, e = d[j] := ⟨_, rfl⟩
     have hob := (hdo.out j hjl).kept hbw
     have hky := hdk.out j hjl
     have hcv := hdv.out j hjl
     rw [← he] at hob hky
     have hzo : e.2.bulk ≤ N := by have := bulkD_at d j hjl; rw [← he] at this; omega
     obtain ⟨us0, hus0⟩ : ∃ us, us = vd j := ⟨_, rfl⟩
     rw [← hus0] at hob hcv
     obtain ⟨en, E1, E2, E3, en1, ec1, en2, ec2, en3, ec3, hys⟩ := ob_five2 hob
     obtain ⟨kk, hkk⟩ : ∃ k, k = e.2.kind := ⟨_, rfl⟩
     rw [← hkk] at hys
     subst hys
     obtain ⟨K, hK⟩ : ∃ K, K = bytes e.1 := ⟨_, rfl⟩
     have x0 : wr.cell? ⟨gD, oD + j * 6, none⟩ = some (.string K) := by
      have h1 := (hbw.cell (cell_lt hky.2)).trans hky.2
      rw [Nat.mul_comm] at h1
      rw [h1, hK]; rfl
     have five : ∀ q u, [Value.int .i64 kk, .int .i64 en, .slice E1 en1 ec1, .slice E2 en2 ec2, .slice E3 en3 ec3][q]? = some u → wr.cell? ⟨gD, oD + j * 6 + 1 + q, none⟩ = some u := fun q u hq => by
      have h0 := hcv q (by have := (List.getElem?_eq_some_iff.1 hq).1; simpa using this)
      rw [hq] at h0
      have h1 := (hbw.cell (cell_lt h0)).trans h0
      rw [show oD + (6 * j + 1 + q) = oD + j * 6 + 1 + q by omega] at h1
      exact h1
     have x1 : wr.cell? ⟨gD, oD + j * 6 + 1, none⟩ = some (.int .i64 kk) := five 0 _ rfl
     have x2 : wr.cell? ⟨gD, oD + j * 6 + 2, none⟩ = some (.int .i64 en) := five 1 _ rfl
     have x3 : wr.cell? ⟨gD, oD + j * 6 + 3, none⟩ = some (.slice E1 en1 ec1) := five 2 _ rfl
     have x4 : wr.cell? ⟨gD, oD + j * 6 + 4, none⟩ = some (.slice E2 en2 ec2) := five 3 _ rfl
     have x5 : wr.cell? ⟨gD, oD + j * 6 + 5, none⟩ = some (.slice E3 en3 ec3) := five 4 _ rfl
     have c51 := fun W (hW : Below wr.heap.size wr W) => ih.out e.2 _ W (hob.kept hW) hzo
     have hT2 : d.take (j + 1) = d.take j ++ [e] := by rw [List.take_succ_eq_append_getElem hjl, he]
     have hzl : (d.take j).length ≤ 1000000000 := by rw [List.length_take]; omega
     have z5 : HD ≤ wr.heap.size := hD.hs
     have hkm := hky.1
     have xx := fun W (hW : Below wr.heap.size wr W) => And.intro ((hW.cell (cell_lt x0)).trans x0) (And.intro ((hW.cell (cell_lt x1)).trans x1) (And.intro ((hW.cell (cell_lt x2)).trans x2) (And.intro ((hW.cell (cell_lt x3)).trans x3) (And.intro ((hW.cell (cell_lt x4)).trans x4) ((hW.cell (cell_lt x5)).trans x5)))))
     clear five hcv hob hus0 hky x0 x1 x2 x3 x4 x5
     replace c51 := hi_ c51
     replace xx := hi_ xx
     replace hD := hi_ hD
     replace he := hi_ he
     replace hkk := hi_ hkk
     replace hK := hi_ hK
     replace hT2 := hi_ hT2
     replace hbw := hi_ hbw
     replace hzl := hi_ hzl
     replace hkm := hi_ hkm
     go_upto_region 9 with (fail)
     refine wp_lin_tail (by kernel_rfl) [none, none, none, none, none, none, none, none, none, none, none, none, none, none, none, none, none, none, none, none, none, none, none, none, none, none, none, none, none, none, none, none, none, none, none, none, none, none, none, some 0, some 1, some 2, some 3, some 4, some 5, some 6, some 7, some 8, some 9, some 10, some 11, some 12, some 13, some 14, some 15, some 16, none, none, none] (fun w' => Below wr.heap.size wr w') (fun w' w'' => Below w'.heap.size w' w'') (GEr wr.heap.size g w.heap.size vD gD oD m3 cD j K #[.int .i64 kk, .int .i64 en, .slice E1 en1 ec1, .slice E2 en2 ec2, .slice E3 en3 ec3] e) (by rfl) (by kernel_rfl) 17 _ rfl (by decide) (by kernel_rfl) [1, 17, 3, 5, 5, 6, 7, 15, 9, 11, 11, 12, 13, 14, 15, 16, 17, 0] (by kernel_rfl) ?dhR ?dmono (.cons 16 (step_of [15] rfl (by kernel_rfl) ?d16) (.cons 15 (step_of [7, 14] rfl (by kernel_rfl) ?d15) (.cons 14 (step_of [13] rfl (by kernel_rfl) ?d14) (.cons 13 (step_of [12] rfl (by kernel_rfl) ?d13) (.cons 12 (step_of [11] rfl (by kernel_rfl) ?d12) (.cons 11 (step_of [9, 10] rfl (by kernel_rfl) ?d11) (.cons 10 (step_of [] rfl (by kernel_rfl) ?d10) (.cons 9 (step_of [8] rfl (by kernel_rfl) ?d9) (.cons 8 (step_of [] rfl (by kernel_rfl) ?d8) (.cons 7 (step_of [6] rfl (by kernel_rfl) ?d7) (.cons 6 (step_of [5] rfl (by kernel_rfl) ?d6) (.cons 5 (step_of [3, 4] rfl (by kernel_rfl) ?d5) (.cons 4 (step_of [] rfl (by kernel_rfl) ?d4) (.cons 3 (step_of [2] rfl (by kernel_rfl) ?d3) (.cons 2 (step_of [] rfl (by kernel_rfl) ?d2) (.cons 1 (step_of [0] rfl (by kernel_rfl) ?d1) (.cons 0 (step_of [] rfl (by kernel_rfl) ?d0) (.nil)))))))))))))))))) ?ddone
     case dhR => exact (Below.refl _ _).drew
     case dmono => exact GEr_mono
     case d0 =>
      intro x w' hRw hd K9 hK
      simp only [All, GEr] at hd
      obtain ⟨_⟩ := hd
      simp +decide only [upd, GEr, fillL, if_true, if_false] at hK ⊢
      go_simp
      have hK2 := hK _ _ ⟨hRw, Below.refl _ _, rfl⟩
      exact hK2
     case d1 =>
      intro x w' hRw hd K9 hK
      simp only [All, GEr] at hd
      obtain ⟨e0, _⟩ := hd
      simp +decide only [upd, GEr, fillL, if_true, if_false] at hK ⊢
      have hcc := (hD.out.step hRw).blk.cell 4
      simp only [e0] at hK ⊢
      go_simp
      have hK2 := hK _ _ ⟨hRw, Below.refl _ _, rfl⟩
      exact hK2
     case d2 =>
      intro x w' hRw hd K9 hK
      simp only [All, GEr] at hd
      obtain ⟨_⟩ := hd
      simp +decide only [upd, GEr, fillL, if_true, if_false] at hK ⊢
      go_simp
      have hK2 := hK _ _ ⟨hRw, Below.refl _ _, rfl⟩
      exact hK2
     case d3 =>
      intro x w' hRw hd K9 hK
      simp only [All, GEr] at hd
      obtain ⟨e2, _⟩ := hd
      simp +decide only [upd, GEr, fillL, if_true, if_false] at hK ⊢
      obtain ⟨y0, y1, y2, y3, y4⟩ := five_kept f.out (hD.out.step hRw).below
      simp only [e2] at hK ⊢
      go_simp
      have hK2 := hK _ _ ⟨hRw, Below.refl _ _, rfl⟩
      exact hK2
     case d4 =>
      intro x w' hRw hd K9 hK
      simp only [All, GEr] at hd
      obtain ⟨_⟩ := hd
      simp +decide only [upd, GEr, fillL, if_true, if_false] at hK ⊢
      go_simp
      have hK2 := hK _ _ ⟨hRw, Below.refl _ _, rfl⟩
      exact hK2
     case d5 =>
      intro x w' hRw hd K9 hK
      simp only [All, GEr] at hd
      obtain ⟨e3, e4, _⟩ := hd
      simp +decide only [upd, GEr, fillL, if_true, if_false] at hK ⊢
      simp only [e3, e4] at hK ⊢
      go_simp
      have hK2 := hK _ _ ⟨hRw, Below.refl _ _, rfl⟩
      exact hK2
     case d6 =>
      intro x w' hRw hd K9 hK
      simp only [All, GEr] at hd
      obtain ⟨e5, _⟩ := hd
      simp +decide only [upd, GEr, fillL, if_true, if_false] at hK ⊢
      simp only [e5] at hK ⊢
      go_simp
      have hK2 := hK _ _ ⟨hRw, Below.refl _ _, rfl⟩
      exact hK2
     case d7 =>
      intro x w' hRw hd K9 hK
      simp only [All, GEr] at hd
      obtain ⟨e6, _⟩ := hd
      simp +decide only [upd, GEr, fillL, if_true, if_false] at hK ⊢
      obtain ⟨y0, y1, y2, y3, y4, y5⟩ := xx.out w' hRw
      simp only [e6] at hK ⊢
      go_simp
      have hK2 := hK _ _ ⟨hRw, Below.refl _ _, rfl⟩
      exact hK2
     case d8 =>
      intro x w' hRw hd K9 hK
      simp only [All, GEr] at hd
      obtain ⟨_⟩ := hd
      simp +decide only [upd, GEr, fillL, if_true, if_false] at hK ⊢
      go_simp
      have hK2 := hK _ _ ⟨hRw, Below.refl _ _, rfl⟩
      exact hK2
     case d9 =>
      intro x w' hRw hd K9 hK
      simp only [All, GEr] at hd
      obtain ⟨e8, _⟩ := hd
      simp +decide only [upd, GEr, fillL, if_true, if_false] at hK ⊢
      obtain ⟨y0, y1, y2, y3, y4⟩ := five_kept f.out (hD.out.step hRw).below
      simp only [e8] at hK ⊢
      go_simp
      have hK2 := hK _ _ ⟨hRw, Below.refl _ _, rfl⟩
      exact hK2
     case d10 =>
      intro x w' hRw hd K9 hK
      simp only [All, GEr] at hd
      obtain ⟨_⟩ := hd
      simp +decide only [upd, GEr, fillL, if_true, if_false] at hK ⊢
      go_simp
      have hK2 := hK _ _ ⟨hRw, Below.refl _ _, rfl⟩
      exact hK2
     case d11 =>
      intro x w' hRw hd K9 hK
      simp only [All, GEr] at hd
      obtain ⟨e9, e10, _⟩ := hd
      simp +decide only [upd, GEr, fillL, if_true, if_false] at hK ⊢
      simp only [e9, e10] at hK ⊢
      go_simp
      have hK2 := hK _ _ ⟨hRw, Below.refl _ _, rfl⟩
      exact hK2
     case d12 =>
      intro x w' hRw hd K9 hK
      simp only [All, GEr] at hd
      obtain ⟨e11, _⟩ := hd
      simp +decide only [upd, GEr, fillL, if_true, if_false] at hK ⊢
      simp only [e11] at hK ⊢
      go_simp
      have hK2 := hK _ _ ⟨hRw, Below.refl _ _, rfl⟩
      exact hK2
     case d13 =>
      intro x w' hRw hd K9 hK
      simp only [All, GEr] at hd
      obtain ⟨e12, _⟩ := hd
      simp +decide only [upd, GEr, fillL, if_true, if_false] at hK ⊢
      obtain ⟨y0, y1, y2, y3, y4, y5⟩ := xx.out w' hRw
      simp only [e12] at hK ⊢
      go_simp
      have hK2 := hK _ _ ⟨hRw, Below.refl _ _, rfl⟩
      exact hK2
     case d14 =>
      intro x w' hRw hd K9 hK
      simp only [All, GEr] at hd
      obtain ⟨e13, _⟩ := hd
      simp +decide only [upd, GEr, fillL, if_true, if_false] at hK ⊢
      simp only [e13] at hK ⊢
      go_simp
      refine (c51.out w' hRw).mono ?_
      rintro e' w2 ⟨us, rfl, hI, hB9⟩
      have hI2 : ObI wr.heap.size w2.heap.size w2 e.2 us := hI.wide hRw.size
      have hK2 := hK _ _ ⟨bthen hRw hB9, hB9, us, _, rfl, hI2⟩
      exact hK2
     case d15 =>
      intro x w' hRw hd K9 hK
      simp only [All, GEr] at hd
      obtain ⟨e7, ⟨us, hi9, e14, hI⟩, _⟩ := hd
      simp +decide only [upd, GEr, fillL, if_true, if_false] at hK ⊢
      obtain ⟨en', E1', E2', E3', en1', ec1', en2', ec2', en3', ec3', hys'⟩ := ob_five2 hI.ob
      rw [← hkk.out] at hys'
      subst hys'
      simp only [e7, e14] at hK ⊢
      go_simp
      have hK2 := hK _ _ ⟨hRw, Below.refl _ _, _, _, rfl, hI⟩
      exact hK2
     case d16 =>
      intro x w' hRw hd K9 hK
      simp only [All, GEr] at hd
      obtain ⟨⟨us, hi9, e15, hI⟩, _⟩ := hd
      simp +decide only [upd, GEr, fillL, if_true, if_false] at hK ⊢
      obtain ⟨en', E1', E2', E3', en1', ec1', en2', ec2', en3', ec3', hys'⟩ := ob_five2 hI.ob
      rw [← hkk.out] at hys'
      subst hys'
      simp only [e15] at hK ⊢
      go_simp
      have hba : Below w'.heap.size w' (w'.alloc (.cells #[.string K, .int .i64 kk, .int .i64 en', .slice E1' en1' ec1', .slice E2' en2' ec2', .slice E3' en3' ec3'] 53)) := (Below.refl _ _).alloc (Nat.le_refl _) _
      have hK2 := hK _ _ ⟨bthen hRw hba, hba, _, _, _, rfl, obI_below hI hba, new_cells w' _ 53⟩
      exact hK2
     case ddone =>
      intro x w4 hR2 hG fr hfr
      have e1 := hG 1 (by omega)
      have e8 := hG 16 (by omega)
      simp only [GEr] at e1 e8
      clear hG
      obtain ⟨q, us, hi9, e8, hI, hcs⟩ := e8
      simp only [fillL] at hfr
      rw [e1, e8] at hfr
      have hL6 := hD.out.step hR2
      have hz6 := hL6.hs
      have hE : EnI wr.heap.size hi9 w4 e (.string K :: us) := ⟨us, by rw [hK.out]; rfl, hkm.out, hI⟩
      subst hfr
      refine app_en rfl _ _ rfl HD _ _ _ rfl hL6.row q wr.heap.size hi9 e (.string K :: us) rfl hE z5 (fun q hq => .inl (hD.out.row.row.lt q hq).2) hcs hzl.out hz6 ?_
      intro v' w5 hR3 hg3 hat3
      obtain ⟨A', n', cc', rfl⟩ : ∃ A' n' c', v' = .slice A' n' c' := by obtain ⟨A', cc', g', hv', _⟩ := hR3.out en_law (by omega); exact ⟨_, _, _, hv'⟩
      obtain ⟨hbk3, hL8⟩ := hL6.put hR3 hg3
      have c4' := hbk3.cell 4
      have q4' := hbk3.frozen 4
      replace hL8 := hi_ hL8
      clear hR3 hg3 hat3 hbk3 hL6 hI hcs e1 e8 hz6 hR2 hE
      go_wp2
      go_roundw
      case rel => exact ⟨j + 1, _, _, by omega, by go_num, by rw [hT2.out]; exact hL8.out⟩
      case measure => simp [RowKit.intOf]; omega
    ·obtain rfl : j = m3 := by omega
     have hT2 : d.take j = d := by rw [hm3.out, List.take_length]
     rw [hT2] at hD
     obtain ⟨A3, n3, c3, rfl⟩ : ∃ A' n' c', vL = .slice A' n' c' := by obtain ⟨A', cc', g', hv', _⟩ := (hD.rowL wr (fun _ _ _ => rfl) hD.hs).out ob_law (by omega); exact ⟨_, _, _, hv'⟩
     obtain ⟨A4, n4, c4, rfl⟩ : ∃ A' n' c', vD = .slice A' n' c' := by obtain ⟨A', cc', g', hv', _⟩ := hD.row.out en_law (by omega); exact ⟨_, _, _, hv'⟩
     have t0 := hD.blk.cell 0
     have t1 := hD.blk.cell 1
     have t2 := hD.blk.cell 2
     have t3 := hD.blk.cell 3
     have t4 := hD.blk.cell 4
     have hRb := hR2.out.below hD.below (by omega)
     have r0 := hRb.cell 0
     have r1 := hRb.cell 1
     have r2 := hRb.cell 2
     have r3 := hRb.cell 3
     have r4 := hRb.cell 4
     have v0 := hRb.frozen 0
     have v1 := hRb.frozen 1
     have v2 := hRb.frozen 2
     have v3 := hRb.frozen 3
     have v4 := hRb.frozen 4
     replace hD := hi_ hD
     replace hRb := hi_ hRb
     replace hT2 := hi_ hT2
     go_wp2
     obtain ⟨Wf, hWf⟩ : ∃ W, W = ((((wr.setCell ⟨w.heap.size + 1, 0, none⟩ (.int .i64 k)).setCell ⟨w.heap.size + 1, 1, none⟩ (.int .i64 n)).setCell ⟨w.heap.size + 1, 2, none⟩ (.slice AB b.length cB)).setCell ⟨w.heap.size + 1, 3, none⟩ (.slice A3 n3 c3)).setCell ⟨w.heap.size + 1, 4, none⟩ (.slice A4 n4 c4) := ⟨_, rfl⟩
     have hgf : wr.grownBy Wf (some (w.heap.size + 1)) := by
      rw [hWf]
      exact ((((set_grown _ _ _ _).trans (set_grown _ _ _ _)).trans (set_grown _ _ _ _)).trans (set_grown _ _ _ _)).trans (set_grown _ _ _ _)
     have hbf : Blk Wf (w.heap.size + 1) 26 #[.int .i64 k, .int .i64 n, .slice AB b.length cB, .slice A3 n3 c3, .slice A4 n4 c4] := by
      rw [hWf]; exact ((((hRb.out.set_ 0 _).set_ 1 _).set_ 2 _).set_ 3 _).set_ 4 _
     have z9 : Wf.heap.size = wr.heap.size := by rw [hWf]; simp [World.setCell]
     rw [← hWf]
     have hD := hD.out
     have g1 := hD.g1
     obtain ⟨e1, e2, e3, e4⟩ := hrng.out
     have hI := hD.done (B := W2.heap.size) e1 e2 e3 e4 (by omega) (Nat.le_refl _)
     have hI2 : ObI w.heap.size Wf.heap.size Wf (.mk k n b l d) [.int .i64 k, .int .i64 n, .slice AB b.length cB, .slice A3 n3 c3, .slice A4 n4 c4] := by
      rw [z9]
      exact (hI.keep (fun q h1 h2 => hgf.block q h2 (fun e => by injection e with e; omega)) (by omega)).wide (by omega)
     have hBf : Below w.heap.size w Wf := (bthen hb2.out hD.below).grown hgf (by have := hD.hs; have := hD.h1; have := hD.g2; omega) (fun q hq => by injection hq with hq; omega)
     have u0 := hbf.cell 0
     have u1 := hbf.cell 1
     have u2 := hbf.cell 2
     have u3 := hbf.cell 3
     have u4 := hbf.cell 4
     replace hI2 := hi_ hI2
     replace hBf := hi_ hBf
     clear hI hD hgf hbf
     replace hWf := hi_ hWf
     exact bodyPost_ret (by simp [results, Tryz.results51, go_sem, u0, u1, u2, u3, u4]; try rfl) rfl ⟨[.int .i64 k, .int .i64 n, .slice AB b.length cB, .slice A3 n3 c3, .slice A4 n4 c4], rfl, hI2.out, hBf.out⟩
theorem rcopy_all : ∀ N, N ≤ 1048576 → RCopyC N
 | 0, _ => fun o vs w _ h => by have := bulk_pos o; omega
 | N + 1, h => rcopy_step N h (rcopy_all N (by omega))
end Go.Proofs.YthacnnmlephkhaaGreatDoor

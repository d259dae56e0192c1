/- Walks and laws, joined: part M. No condition. -/
import Derived.Test.YthffpbkndnhlfaaGreatDoorTbJL
import Derived.Test.YthffpbkndnhlfaaGreatDoorTbJA
import Derived.Test.YthffpbkndnhlfaaGreatDoorTbJK
import Derived.Test.YthffpbkndnhlfaaGreatDoorRows
import Derived.Lib.LaidTab
import Derived.WideShapes
set_option linter.unusedSimpArgs false
set_option linter.unusedVariables false
set_option maxRecDepth 100000
set_option maxHeartbeats 32000000
namespace Go.Proofs.YthffpbkndnhlfaaGreatDoor
open Go Go.RowKit Go.Wk
theorem same_dict8 (N : Nat) (hN : N ≤ 1048576) (hs : SameC N) (n n' : Int) (b b' : List UInt8) (l l' : List Ob) (d d' : List (List UInt8 × Ob)) (vs us : List Value) (w : World) (h : ObAt w (.mk 8 n b l d) vs) (h' : ObAt w (.mk 8 n' b' l' d') us) (hbk : b.length + bulkD d ≤ N) (hbk' : b'.length + bulkD d' ≤ 1048576) :
 Calls Tryz.prog 13 #[.agg vs.toArray, .agg us.toArray] w fun e w' => e = .returned (.bool ((b == b') && sameD d d')) ∧ Below w.heap.size w w' := by
 have zl := bulkD_len d
 have zl' := bulkD_len d'
 have zb1 : b.length ≤ 1048576 := by omega
 have zb1' : b'.length ≤ 1048576 := by omega
 cases h with
 | mk k n b l d A AL AD c cL cD gL oL gD oD vl vd h1 h2 h3 h4 hB5 h6 h7 h8 h9 h10 h11 h12 h13 h14 hA hl hkey hlv =>
 cases h' with
 | mk k' n' b' l' d' A' AL' AD' c' cL' cD' gL' oL' gD' oD' vl' vd' i1 i2 i3 i4 iB5 i6 i7 i8 i9 i10 i11 i12 i13 i14 hA' hl' hkey' hlv' =>
 obtain ⟨m, hm⟩ : ∃ m, m = d.length := ⟨_, rfl⟩
 obtain ⟨m', hm'⟩ : ∃ m, m = d'.length := ⟨_, rfl⟩
 rw [← hm] at zl ⊢
 rw [← hm'] at zl' ⊢
 have zm : m ≤ 1048576 := by omega
 have zm' : m' ≤ 1048576 := by omega
 obtain ⟨W1, hW1⟩ : ∃ W, W = w.alloc (.cells #[.int .i64 8, .int .i64 n, .slice A b.length c, .slice AL l.length cL, .slice AD m cD] 32) := ⟨_, rfl⟩
 obtain ⟨W2, hW2⟩ : ∃ W, W = W1.alloc (.cells #[.int .i64 8, .int .i64 n', .slice A' b'.length c', .slice AL' l'.length cL', .slice AD' m' cD'] 32) := ⟨_, rfl⟩
 have hb2 : Below w.heap.size w W2 := by rw [hW2, hW1]; exact ((Below.refl _ _).alloc (Nat.le_refl _) _).alloc (by rw [World.size_alloc]; omega) _
 have ff := ten_cells hW1 hW2
 obtain ⟨⟨f0, f1, f2, f3, f4⟩, g0, g1, g2, g3, g4⟩ := id ff
 obtain ⟨E, hE⟩ : ∃ E, E = sameD d d' := ⟨_, rfl⟩
 rw [← hE]
 have hne : m ≠ m' → E = false := fun h => by rw [hE]; exact sameD_len d d' (by omega)
 have hall : m = m' → E = (List.range m).all (atT d d') := fun h => by rw [hE, hm]; exact sameD_all d d' (by omega)
 have c7 := ref_Same A A' c c' b b' W2 (hB5.below hb2) (iB5.below hb2) (by omega) (by omega)
 have hbe : (b == b') = decide (b = b') := by by_cases h : b = b' <;> simp [h]
 rw [hbe]
 clear hbe
 obtain ⟨bb, hbb⟩ : ∃ z, z = decide (b = b') := ⟨_, rfl⟩
 rw [← hbb] at c7 ⊢
 replace hbb := hi_ hbb
 clear h1 h2 h3 h4 hB5 h6 h7 h8 h9 h10 h11 h12 h13 h14 i1 i2 i3 i4 iB5 i6 i7 i8 i9 i10 i11 i12 i13 i14
 replace hE := hi_ hE
 replace hm := hi_ hm
 replace hm' := hi_ hm'
 refine h4_ hA hl hlv hkey ?_; clear hA hl hlv hkey; intro hA hl hlv hkey
 replace hA' := hi_ hA'
 replace hl' := hi_ hl'
 replace hlv' := hi_ hlv'
 replace hkey' := hi_ hkey'
 refine h5_ hs hb2 ff hne hall ?_; clear hs hb2 ff hne hall; intro hs hb2 ff hne hall
 cases bb with
 | false =>
  rw [Bool.false_and]
  go_enter Tryz.func13, Tryz.ntmps13
  go_upto_region 1 with (fail)
  rw [← hW1, ← hW2]
  replace hW1 := hi_ hW1
  replace hW2 := hi_ hW2
  by_cases hmm : m = m'
  ·subst hmm
   clear hne hall
   go_wp2_with (go_at_call 23; (with_reducible refine c7.mono ?_); rintro e w3 ⟨rfl, hB3⟩; replace hB3 := hi_ hB3)
   go_ret
   exact ⟨rfl, bthen hb2.out hB3.out⟩
  ·have qm : ((m : Int) == (m' : Int)) = false := by rw [beq_eq_false_iff_ne]; omega
   have qm2 : ((m : Int) != (m' : Int)) = true := by rw [bne, qm]; rfl
   replace hmm := hi_ hmm
   go_wp2
   go_ret
   exact ⟨rfl, hb2.out⟩
 | true =>
 rw [Bool.true_and]
 go_enter Tryz.func13, Tryz.ntmps13
 go_upto_region 1 with (fail)
 rw [← hW1, ← hW2]
 replace hW1 := hi_ hW1
 replace hW2 := hi_ hW2
 by_cases hmm : m = m'
 ·subst hmm
  have hal2 := hall.out rfl
  replace hal2 := hi_ hal2
  clear hne hall
  go_wp2_with (go_at_call 23; (with_reducible refine c7.mono ?_); rintro e w3 ⟨rfl, hB3⟩; replace hB3 := hi_ hB3)
  go_loopw [6] (fun s6 wr => ∃ k : Nat, k ≤ m ∧ s6 = .int .i64 k ∧ (∀ j, j < k → atT d d' j = true) ∧ Below W2.heap.size W2 wr) (fun s6 _ => m - (RowKit.intOf s6).toNat)
  case atStart => exact ⟨0, by omega, rfl, fun j hj => by omega, hB3.out⟩
  case round =>
   obtain ⟨k, hk, rfl, hP, hB⟩ := hrel
   have lB := hB.size
   obtain ⟨p0, p1, p2, p3, p4⟩ := five_kept ff.out.1 hB
   obtain ⟨q0, q1, q2, q3, q4⟩ := five_kept ff.out.2 hB
   by_cases hkm : k < m
   ·have hkl : k < d.length := by rw [← hm.out]; exact hkm
    have hkl' : k < d'.length := by rw [← hm'.out]; exact hkm
    have hAe := hA.out (by omega)
    have hAe' := hA'.out (by omega)
    subst hAe hAe'
    have hbw : Below w.heap.size w wr := bthen hb2.out hB
    obtain ⟨o, ho⟩ : ∃ o, o = d[k] := ⟨_, rfl⟩
    obtain ⟨o', ho'⟩ : ∃ o, o = d'[k] := ⟨_, rfl⟩
    have hob := (hl.out k hkl).kept hbw
    have hob' := (hl'.out k hkl').kept hbw
    have hcv := hlv.out k hkl
    have hcv' := hlv'.out k hkl'
    have hky := (hkey.out k hkl).2
    have hky' := (hkey'.out k hkl').2
    rw [← ho] at hob hky
    rw [← ho'] at hob' hky'
    have hzo : o.2.bulk ≤ N := by have := bulkD_at d k hkl; rw [← ho] at this; omega
    have hzo' : o'.2.bulk ≤ 1048576 := by have := bulkD_at d' k hkl'; rw [← ho'] at this; omega
    obtain ⟨us, hus⟩ : ∃ us, us = vd k := ⟨_, rfl⟩
    obtain ⟨us', hus'⟩ : ∃ us, us = vd' k := ⟨_, rfl⟩
    rw [← hus] at hob hcv
    rw [← hus'] at hob' hcv'
    obtain ⟨en, E1, E2, E3, en1, ec1, en2, ec2, en3, ec3, hys⟩ := ob_five2 hob
    obtain ⟨en', E1', E2', E3', en1', ec1', en2', ec2', en3', ec3', hys'⟩ := ob_five2 hob'
    obtain ⟨kk, hkk⟩ : ∃ k, k = o.2.kind := ⟨_, rfl⟩
    obtain ⟨kk', hkk'⟩ : ∃ k, k = o'.2.kind := ⟨_, rfl⟩
    rw [← hkk] at hys
    rw [← hkk'] at hys'
    subst hys hys'
    obtain ⟨K, hK⟩ : ∃ K, K = bytes o.1 := ⟨_, rfl⟩
    obtain ⟨K', hK'⟩ : ∃ K, K = bytes o'.1 := ⟨_, rfl⟩
    have kp : ∀ W, Below wr.heap.size wr W → W.cell? ⟨gD, oD + k * 6, none⟩ = some (.string K) ∧ W.cell? ⟨gD', oD' + k * 6, none⟩ = some (.string K') := fun W hW => by
     have h1 := (bthen hbw hW).cell (cell_lt hky) |>.trans hky
     have h2 := (bthen hbw hW).cell (cell_lt hky') |>.trans hky'
     rw [Nat.mul_comm] at h1 h2
     rw [h1, h2, hK, hK']; exact ⟨rfl, rfl⟩
    have five : ∀ W, Below wr.heap.size wr W → ∀ j u, [Value.int .i64 kk, .int .i64 en, .slice E1 en1 ec1, .slice E2 en2 ec2, .slice E3 en3 ec3][j]? = some u → W.cell? ⟨gD, oD + k * 6 + 1 + j, none⟩ = some u := fun W hW j u hj => by
     have h0 := hcv j (by have := (List.getElem?_eq_some_iff.1 hj).1; simpa using this)
     rw [hj] at h0
     have h1 := ((bthen hbw hW).cell (cell_lt h0)).trans h0
     rw [show oD + (6 * k + 1 + j) = oD + k * 6 + 1 + j by omega] at h1
     exact h1
    have five' : ∀ W, Below wr.heap.size wr W → ∀ j u, [Value.int .i64 kk', .int .i64 en', .slice E1' en1' ec1', .slice E2' en2' ec2', .slice E3' en3' ec3'][j]? = some u → W.cell? ⟨gD', oD' + k * 6 + 1 + j, none⟩ = some u := fun W hW j u hj => by
     have h0 := hcv' j (by have := (List.getElem?_eq_some_iff.1 hj).1; simpa using this)
     rw [hj] at h0
     have h1 := ((bthen hbw hW).cell (cell_lt h0)).trans h0
     rw [show oD' + (6 * k + 1 + j) = oD' + k * 6 + 1 + j by omega] at h1
     exact h1
    have zz : ∀ W, Below wr.heap.size wr W → (W.cell? ⟨w.heap.size, 0, none⟩ = some (.int .i64 8) ∧ W.cell? ⟨w.heap.size, 1, none⟩ = some (.int .i64 n) ∧ W.cell? ⟨w.heap.size, 2, none⟩ = some (.slice A b.length c) ∧ W.cell? ⟨w.heap.size, 3, none⟩ = some (.slice AL l.length cL) ∧ W.cell? ⟨w.heap.size, 4, none⟩ = some (.slice (some ⟨gD, oD, none⟩) m cD)) ∧
     (W.cell? ⟨w.heap.size + 1, 0, none⟩ = some (.int .i64 8) ∧ W.cell? ⟨w.heap.size + 1, 1, none⟩ = some (.int .i64 n') ∧ W.cell? ⟨w.heap.size + 1, 2, none⟩ = some (.slice A' b'.length c') ∧ W.cell? ⟨w.heap.size + 1, 3, none⟩ = some (.slice AL' l'.length cL') ∧ W.cell? ⟨w.heap.size + 1, 4, none⟩ = some (.slice (some ⟨gD', oD', none⟩) m cD')) ∧
     (W.cell? ⟨gD, oD + k * 6, none⟩ = some (.string K) ∧ W.cell? ⟨gD, oD + k * 6 + 1, none⟩ = some (.int .i64 kk) ∧ W.cell? ⟨gD, oD + k * 6 + 2, none⟩ = some (.int .i64 en) ∧ W.cell? ⟨gD, oD + k * 6 + 3, none⟩ = some (.slice E1 en1 ec1) ∧ W.cell? ⟨gD, oD + k * 6 + 4, none⟩ = some (.slice E2 en2 ec2) ∧ W.cell? ⟨gD, oD + k * 6 + 5, none⟩ = some (.slice E3 en3 ec3)) ∧
     (W.cell? ⟨gD', oD' + k * 6, none⟩ = some (.string K') ∧ W.cell? ⟨gD', oD' + k * 6 + 1, none⟩ = some (.int .i64 kk') ∧ W.cell? ⟨gD', oD' + k * 6 + 2, none⟩ = some (.int .i64 en') ∧ W.cell? ⟨gD', oD' + k * 6 + 3, none⟩ = some (.slice E1' en1' ec1') ∧ W.cell? ⟨gD', oD' + k * 6 + 4, none⟩ = some (.slice E2' en2' ec2') ∧ W.cell? ⟨gD', oD' + k * 6 + 5, none⟩ = some (.slice E3' en3' ec3')) := fun W hW =>
     ⟨five_kept ff.out.1 (bthen hB hW), five_kept ff.out.2 (bthen hB hW), ⟨(kp W hW).1, five W hW 0 _ rfl, five W hW 1 _ rfl, five W hW 2 _ rfl, five W hW 3 _ rfl, five W hW 4 _ rfl⟩, (kp W hW).2, five' W hW 0 _ rfl, five' W hW 1 _ rfl, five' W hW 2 _ rfl, five' W hW 3 _ rfl, five' W hW 4 _ rfl⟩
    have hat : atT d d' k = (o.1 == o'.1 && sameB o.2 o'.2) := by unfold atT; rw [List.getElem?_eq_getElem hkl, List.getElem?_eq_getElem hkl', ho, ho']
    have c8 := fun W (hW : Below wr.heap.size wr W) => hs.out o.2 o'.2 _ _ W (hob.kept hW) (hob'.kept hW) hzo hzo'
    obtain ⟨kn, hkn⟩ : ∃ kn, (!(K.toList == K'.toList)) = kn := ⟨_, rfl⟩
    have hkn3 : (o.1 == o'.1) = !kn := by rw [← hkn, hK, hK']; exact bytes_eq2 _ _
    obtain ⟨sb, hsb⟩ : ∃ sb, sb = sameB o.2 o'.2 := ⟨_, rfl⟩
    rw [← hsb, hkn3] at hat
    rw [← hsb] at c8
    clear five five' hcv hcv' hob hob' hus hus' hkk hkk' kp hky hky' hkn3 hzo hzo'
    replace ho := hi_ ho
    replace ho' := hi_ ho'
    replace hK := hi_ hK
    replace hK' := hi_ hK'
    refine h7_ hsb hB hbw hP hat zz c8 ?_; clear hsb hB hbw hP hat zz c8; intro hsb hB hbw hP hat zz c8
    go_upto_region 27 with (fail)
    refine wp_lin_tail (by kernel_rfl) [none, none, none, none, none, none, none, none, none, none, none, none, none, none, none, none, none, none, none, none, none, none, none, none, none, none, none, none, none, none, none, none, none, none, none, none, none, none, none, none, none, none, none, none, none, none, none, none, none, none, none, none, none, none, none, none, none, none, none, none, none, none, none, none, none, none, none, none, none, none, none, none, none, none, none, none, none, none, none, none, none, none, none, none, none, none, none, none, none, none, some 0, some 1, some 2, some 3, some 4, some 5, some 6, some 7, some 8, some 9, some 10, some 11, some 12, some 13, some 14, some 15, some 16, some 17, some 18, some 19, some 20, some 21, some 22, some 23, some 24, some 25, some 26, some 27, none] (fun w' => Below wr.heap.size wr w') (fun w' w'' => Below w'.heap.size w' w'') (GU w.heap.size (w.heap.size + 1) gD oD gD' oD' m cD cD' k K K' #[.int .i64 kk, .int .i64 en, .slice E1 en1 ec1, .slice E2 en2 ec2, .slice E3 en3 ec3] #[.int .i64 kk', .int .i64 en', .slice E1' en1' ec1', .slice E2' en2' ec2', .slice E3' en3' ec3'] kn sb) (by rfl) (by kernel_rfl) 28 _ rfl (by decide) (by kernel_rfl) [1, 3, 3, 4, 5, 12, 7, 9, 9, 10, 11, 12, 13, 28, 15, 17, 17, 18, 19, 26, 21, 23, 23, 24, 25, 26, 27, 28, 0] (by kernel_rfl) ?hR ?mono (.cons 27 (step_of [26, 13] rfl (by kernel_rfl) ?s27) (.cons 26 (step_of [19, 25, 13] rfl (by kernel_rfl) ?s26) (.cons 25 (step_of [24, 13] rfl (by kernel_rfl) ?s25) (.cons 24 (step_of [23, 13] rfl (by kernel_rfl) ?s24) (.cons 23 (step_of [21, 22, 13] rfl (by kernel_rfl) ?s23) (.cons 22 (step_of [13] rfl (by kernel_rfl) ?s22) (.cons 21 (step_of [20, 13] rfl (by kernel_rfl) ?s21) (.cons 20 (step_of [13] rfl (by kernel_rfl) ?s20) (.cons 19 (step_of [18, 13] rfl (by kernel_rfl) ?s19) (.cons 18 (step_of [17, 13] rfl (by kernel_rfl) ?s18) (.cons 17 (step_of [15, 16, 13] rfl (by kernel_rfl) ?s17) (.cons 16 (step_of [13] rfl (by kernel_rfl) ?s16) (.cons 15 (step_of [14, 13] rfl (by kernel_rfl) ?s15) (.cons 14 (step_of [13] rfl (by kernel_rfl) ?s14) (.cons 13 (step_of [12] rfl (by kernel_rfl) ?s13) (.cons 12 (step_of [5, 11] rfl (by kernel_rfl) ?s12) (.cons 11 (step_of [10] rfl (by kernel_rfl) ?s11) (.cons 10 (step_of [9] rfl (by kernel_rfl) ?s10) (.cons 9 (step_of [7, 8] rfl (by kernel_rfl) ?s9) (.cons 8 (step_of [] rfl (by kernel_rfl) ?s8) (.cons 7 (step_of [6] rfl (by kernel_rfl) ?s7) (.cons 6 (step_of [] rfl (by kernel_rfl) ?s6) (.cons 5 (step_of [4] rfl (by kernel_rfl) ?s5) (.cons 4 (step_of [3] rfl (by kernel_rfl) ?s4) (.cons 3 (step_of [1, 2] rfl (by kernel_rfl) ?s3) (.cons 2 (step_of [] rfl (by kernel_rfl) ?s2) (.cons 1 (step_of [0] rfl (by kernel_rfl) ?s1) (.cons 0 (step_of [] rfl (by kernel_rfl) ?s0) (.nil))))))))))))))))))))))))))))) ?done
    case hR => exact (Below.refl _ _).drew
    case mono => exact GU_mono
    case done =>
     intro x w4 hR2 hG fr hfr
     have e13 := hG 13 (by omega)
     have e27 := hG 27 (by omega)
     simp only [GU] at e13 e27
     clear hG
     simp only [fillL] at hfr
     rw [e13] at hfr
     replace hR2 := hi_ hR2
     cases kn with
     | true =>
      have hF : E = false := by
       rw [hal2.out, List.all_eq_false]; refine ⟨k, List.mem_range.2 hkm, ?_⟩; rw [hat.out]; simp
      subst hfr
      clear e27
      go_wp2
      go_ret
      exact ⟨by first | rfl | (rw [hF]; rfl), bthen hbw.out hR2.out⟩
     | false =>
      rw [e27 rfl] at hfr
      subst hfr
      clear e27
      cases sb with
      | true =>
       have hP2 : ∀ j, j < k + 1 → atT d d' j = true := fun j hj => by
        by_cases h : j = k
        ·rw [h]; exact hat.out
        ·exact hP.out j (by omega)
       replace hP2 := hi_ hP2
       go_wp2
       go_roundw
       case rel => exact ⟨k + 1, by omega, by go_num, hP2.out, hB.out.trans (hR2.out.mono lB)⟩
       case measure => simp [RowKit.intOf]; omega
      | false =>
       have hF : E = false := by
        rw [hal2.out, List.all_eq_false]; refine ⟨k, List.mem_range.2 hkm, ?_⟩; rw [hat.out]; simp
       go_wp2
       go_ret
       exact ⟨by first | rfl | (rw [hF]; rfl), bthen hbw.out hR2.out⟩
    case' s0 | s1 | s2 | s3 | s4 | s5 | s6 | s7 | s8 | s9 | s10 | s11 | s12 | s13 | s14 | s15 | s16 | s17 | s18 | s19 | s20 | s21 | s22 | s23 | s24 | s25 | s26 | s27 =>
     intro x w' hRw hd K9 hK
     simp only [All, GU] at hd
     simp +decide only [upd, GU, fillL, if_true, if_false] at hK ⊢
    case s0 =>
     obtain ⟨_⟩ := hd
     go_simp
     have hK2 := hK _ _ ⟨hRw, Below.refl _ _, rfl⟩
     exact hK2
    case s1 =>
     obtain ⟨e0, _⟩ := hd
     obtain ⟨⟨z0, z1, z2, z3, z4⟩, ⟨t0, t1, t2, t3, t4⟩, ⟨x0, x1, x2, x3, x4, x5⟩, y0, y1, y2, y3, y4, y5⟩ := zz.out w' hRw
     simp only [e0] at hK ⊢
     go_simp
     have hK2 := hK _ _ ⟨hRw, Below.refl _ _, rfl⟩
     exact hK2
    case s2 =>
     obtain ⟨_⟩ := hd
     go_simp
     have hK2 := hK _ _ ⟨hRw, Below.refl _ _, rfl⟩
     exact hK2
    case s3 =>
     obtain ⟨e1, e2, _⟩ := hd
     simp only [e1, e2] at hK ⊢
     go_simp
     have hK2 := hK _ _ ⟨hRw, Below.refl _ _, rfl⟩
     exact hK2
    case s4 =>
     obtain ⟨e3, _⟩ := hd
     simp only [e3] at hK ⊢
     go_simp
     have hK2 := hK _ _ ⟨hRw, Below.refl _ _, rfl⟩
     exact hK2
    case s5 =>
     obtain ⟨e4, _⟩ := hd
     obtain ⟨⟨z0, z1, z2, z3, z4⟩, ⟨t0, t1, t2, t3, t4⟩, ⟨x0, x1, x2, x3, x4, x5⟩, y0, y1, y2, y3, y4, y5⟩ := zz.out w' hRw
     simp only [e4] at hK ⊢
     go_simp
     have hK2 := hK _ _ ⟨hRw, Below.refl _ _, rfl⟩
     exact hK2
    case s6 =>
     obtain ⟨_⟩ := hd
     go_simp
     have hK2 := hK _ _ ⟨hRw, Below.refl _ _, rfl⟩
     exact hK2
    case s7 =>
     obtain ⟨e6, _⟩ := hd
     obtain ⟨⟨z0, z1, z2, z3, z4⟩, ⟨t0, t1, t2, t3, t4⟩, ⟨x0, x1, x2, x3, x4, x5⟩, y0, y1, y2, y3, y4, y5⟩ := zz.out w' hRw
     simp only [e6] at hK ⊢
     go_simp
     have hK2 := hK _ _ ⟨hRw, Below.refl _ _, rfl⟩
     exact hK2
    case s8 =>
     obtain ⟨_⟩ := hd
     go_simp
     have hK2 := hK _ _ ⟨hRw, Below.refl _ _, rfl⟩
     exact hK2
    case s9 =>
     obtain ⟨e7, e8, _⟩ := hd
     simp only [e7, e8] at hK ⊢
     go_simp
     have hK2 := hK _ _ ⟨hRw, Below.refl _ _, rfl⟩
     exact hK2
    case s10 =>
     obtain ⟨e9, _⟩ := hd
     simp only [e9] at hK ⊢
     go_simp
     have hK2 := hK _ _ ⟨hRw, Below.refl _ _, rfl⟩
     exact hK2
    case s11 =>
     obtain ⟨e10, _⟩ := hd
     obtain ⟨⟨z0, z1, z2, z3, z4⟩, ⟨t0, t1, t2, t3, t4⟩, ⟨x0, x1, x2, x3, x4, x5⟩, y0, y1, y2, y3, y4, y5⟩ := zz.out w' hRw
     simp only [e10] at hK ⊢
     go_simp
     have hK2 := hK _ _ ⟨hRw, Below.refl _ _, rfl⟩
     exact hK2
    case s12 =>
     obtain ⟨e5, e11, _⟩ := hd
     simp only [e5, e11] at hK ⊢
     go_simp
     try simp only [hkn]
     have hK2 := hK _ _ ⟨hRw, Below.refl _ _, rfl⟩
     exact hK2
    case s13 =>
     obtain ⟨e12, _⟩ := hd
     simp only [e12] at hK ⊢
     go_simp
     have hK2 := hK _ _ ⟨hRw, Below.refl _ _, rfl⟩
     exact hK2
    case s14 =>
     obtain ⟨e13, _⟩ := hd
     simp only [e13] at hK ⊢
     cases kn with
     | true =>
      go_simp
      have hK2 := hK undef _ ⟨hRw, Below.refl _ _, fun h => by cases h⟩
      exact hK2
     | false =>
      go_simp
      have hK2 := hK _ _ ⟨hRw, Below.refl _ _, fun _ => rfl⟩
      exact hK2
    case s15 =>
     obtain ⟨e14, e13, _⟩ := hd
     obtain ⟨⟨z0, z1, z2, z3, z4⟩, ⟨t0, t1, t2, t3, t4⟩, ⟨x0, x1, x2, x3, x4, x5⟩, y0, y1, y2, y3, y4, y5⟩ := zz.out w' hRw
     simp only [e13] at hK ⊢
     cases kn with
     | true =>
      go_simp
      have hK2 := hK undef _ ⟨hRw, Below.refl _ _, fun h => by cases h⟩
      exact hK2
     | false =>
      simp only [e14 rfl] at hK ⊢
      go_simp
      have hK2 := hK _ _ ⟨hRw, Below.refl _ _, fun _ => rfl⟩
      exact hK2
    case s16 =>
     obtain ⟨e13, _⟩ := hd
     simp only [e13] at hK ⊢
     cases kn with
     | true =>
      go_simp
      have hK2 := hK undef _ ⟨hRw, Below.refl _ _, fun h => by cases h⟩
      exact hK2
     | false =>
      go_simp
      have hK2 := hK _ _ ⟨hRw, Below.refl _ _, fun _ => rfl⟩
      exact hK2
    case s17 =>
     obtain ⟨e15, e16, e13, _⟩ := hd
     simp only [e13] at hK ⊢
     cases kn with
     | true =>
      go_simp
      have hK2 := hK undef _ ⟨hRw, Below.refl _ _, fun h => by cases h⟩
      exact hK2
     | false =>
      simp only [e15 rfl, e16 rfl] at hK ⊢
      go_simp
      have hK2 := hK _ _ ⟨hRw, Below.refl _ _, fun _ => rfl⟩
      exact hK2
    case s18 =>
     obtain ⟨e17, e13, _⟩ := hd
     simp only [e13] at hK ⊢
     cases kn with
     | true =>
      go_simp
      have hK2 := hK undef _ ⟨hRw, Below.refl _ _, fun h => by cases h⟩
      exact hK2
     | false =>
      simp only [e17 rfl] at hK ⊢
      go_simp
      have hK2 := hK _ _ ⟨hRw, Below.refl _ _, fun _ => rfl⟩
      exact hK2
    case s19 =>
     obtain ⟨e18, e13, _⟩ := hd
     obtain ⟨⟨z0, z1, z2, z3, z4⟩, ⟨t0, t1, t2, t3, t4⟩, ⟨x0, x1, x2, x3, x4, x5⟩, y0, y1, y2, y3, y4, y5⟩ := zz.out w' hRw
     simp only [e13] at hK ⊢
     cases kn with
     | true =>
      go_simp
      have hK2 := hK undef _ ⟨hRw, Below.refl _ _, fun h => by cases h⟩
      exact hK2
     | false =>
      simp only [e18 rfl] at hK ⊢
      go_simp
      have hK2 := hK _ _ ⟨hRw, Below.refl _ _, fun _ => rfl⟩
      exact hK2
    case s20 =>
     obtain ⟨e13, _⟩ := hd
     simp only [e13] at hK ⊢
     cases kn with
     | true =>
      go_simp
      have hK2 := hK undef _ ⟨hRw, Below.refl _ _, fun h => by cases h⟩
      exact hK2
     | false =>
      go_simp
      have hK2 := hK _ _ ⟨hRw, Below.refl _ _, fun _ => rfl⟩
      exact hK2
    case s21 =>
     obtain ⟨e20, e13, _⟩ := hd
     obtain ⟨⟨z0, z1, z2, z3, z4⟩, ⟨t0, t1, t2, t3, t4⟩, ⟨x0, x1, x2, x3, x4, x5⟩, y0, y1, y2, y3, y4, y5⟩ := zz.out w' hRw
     simp only [e13] at hK ⊢
     cases kn with
     | true =>
      go_simp
      have hK2 := hK undef _ ⟨hRw, Below.refl _ _, fun h => by cases h⟩
      exact hK2
     | false =>
      simp only [e20 rfl] at hK ⊢
      go_simp
      have hK2 := hK _ _ ⟨hRw, Below.refl _ _, fun _ => rfl⟩
      exact hK2
    case s22 =>
     obtain ⟨e13, _⟩ := hd
     simp only [e13] at hK ⊢
     cases kn with
     | true =>
      go_simp
      have hK2 := hK undef _ ⟨hRw, Below.refl _ _, fun h => by cases h⟩
      exact hK2
     | false =>
      go_simp
      have hK2 := hK _ _ ⟨hRw, Below.refl _ _, fun _ => rfl⟩
      exact hK2
    case s23 =>
     obtain ⟨e21, e22, e13, _⟩ := hd
     simp only [e13] at hK ⊢
     cases kn with
     | true =>
      go_simp
      have hK2 := hK undef _ ⟨hRw, Below.refl _ _, fun h => by cases h⟩
      exact hK2
     | false =>
      simp only [e21 rfl, e22 rfl] at hK ⊢
      go_simp
      have hK2 := hK _ _ ⟨hRw, Below.refl _ _, fun _ => rfl⟩
      exact hK2
    case s24 =>
     obtain ⟨e23, e13, _⟩ := hd
     simp only [e13] at hK ⊢
     cases kn with
     | true =>
      go_simp
      have hK2 := hK undef _ ⟨hRw, Below.refl _ _, fun h => by cases h⟩
      exact hK2
     | false =>
      simp only [e23 rfl] at hK ⊢
      go_simp
      have hK2 := hK _ _ ⟨hRw, Below.refl _ _, fun _ => rfl⟩
      exact hK2
    case s25 =>
     obtain ⟨e24, e13, _⟩ := hd
     obtain ⟨⟨z0, z1, z2, z3, z4⟩, ⟨t0, t1, t2, t3, t4⟩, ⟨x0, x1, x2, x3, x4, x5⟩, y0, y1, y2, y3, y4, y5⟩ := zz.out w' hRw
     simp only [e13] at hK ⊢
     cases kn with
     | true =>
      go_simp
      have hK2 := hK undef _ ⟨hRw, Below.refl _ _, fun h => by cases h⟩
      exact hK2
     | false =>
      simp only [e24 rfl] at hK ⊢
      go_simp
      have hK2 := hK _ _ ⟨hRw, Below.refl _ _, fun _ => rfl⟩
      exact hK2
    case s26 =>
     obtain ⟨e19, e25, e13, _⟩ := hd
     simp only [e13] at hK ⊢
     cases kn with
     | true =>
      go_simp
      have hK2 := hK undef _ ⟨hRw, Below.refl _ _, fun h => by cases h⟩
      exact hK2
     | false =>
      simp only [e19 rfl, e25 rfl] at hK ⊢
      go_simp
      refine (c8.out w' hRw).mono ?_
      rintro e' w9 ⟨rfl, hB9⟩
      have hK2 := hK _ _ ⟨bthen hRw hB9, hB9, fun _ => rfl⟩
      exact hK2
    case s27 =>
     obtain ⟨e26, e13, _⟩ := hd
     simp only [e13] at hK ⊢
     cases kn with
     | true =>
      go_simp
      have hK2 := hK undef _ ⟨hRw, Below.refl _ _, fun h => by cases h⟩
      exact hK2
     | false =>
      simp only [e26 rfl] at hK ⊢
      go_simp
      have hK2 := hK _ _ ⟨hRw, Below.refl _ _, fun _ => rfl⟩
      exact hK2
   ·obtain rfl : k = m := by omega
    have hT : E = true := by
     rw [hal2.out, List.all_eq_true]; intro j hj; exact hP j (List.mem_range.1 hj)
    subst hT
    have hbw : Below w.heap.size w wr := bthen hb2.out hB
    refine h3_ hbw hB hP ?_; clear hbw hB hP; intro hbw hB hP
    go_wp2
    go_ret
    exact ⟨rfl, hbw.out⟩
 ·have hF := hne.out hmm
  subst hF
  have qm : ((m : Int) == (m' : Int)) = false := by rw [beq_eq_false_iff_ne]; omega
  have qm2 : ((m : Int) != (m' : Int)) = true := by rw [bne, qm]; rfl
  clear hall
  replace hmm := hi_ hmm
  clear c7
  go_wp2
  go_ret
  exact ⟨rfl, hb2.out⟩
theorem same_step (N : Nat) (hN : N + 1 ≤ 1048576) (hs : SameC N) : SameC (N + 1) := by
 intro a b vs us w ha hb hbk hbk'
 obtain ⟨k, n, bb, l, d⟩ := a
 obtain ⟨k', n', bb', l', d'⟩ := b
 have zk : bb.length + bulkL l + bulkD d + 1 ≤ N + 1 := hbk
 have zk' : bb'.length + bulkL l' + bulkD d' + 1 ≤ 1048576 := hbk'
 have hsm : sameB (.mk k n bb l d) (.mk k' n' bb' l' d') = (k == k' && (
  if k = 1 ∨ k = 2 ∨ k = 3 ∨ k = 9 then n == n'
  else if k = 4 ∨ k = 5 then bb == bb'
  else if k = 6 then sameL l l'
  else if k = 7 ∨ k = 8 then (k == 7 || bb == bb') && sameD d d'
  else true)) := by simp only [sameB]
 rw [hsm]
 clear hsm
 by_cases h6 : k = 6 ∧ k' = 6
 ·obtain ⟨rfl, rfl⟩ := h6
  have h := same_arr N (by omega) hs n n' bb bb' l l' d d' vs us w ha hb (by omega) (by omega)
  simpa using h
 by_cases h7 : k = 7 ∧ k' = 7
 ·obtain ⟨rfl, rfl⟩ := h7
  have h := same_dict7 N (by omega) hs n n' bb bb' l l' d d' vs us w ha hb (by omega) (by omega)
  simpa using h
 by_cases h8 : k = 8 ∧ k' = 8
 ·obtain ⟨rfl, rfl⟩ := h8
  have h := same_dict8 N (by omega) hs n n' bb bb' l l' d d' vs us w ha hb (by omega) (by omega)
  simpa using h
 cases ha with
 | mk _ _ _ _ _ A AL AD c cL cD gL oL gD oD vl vd h1 h2 h3 h4 hB5 h6_ h7_ h8_ h9 h10 h11 h12 h13 h14 h15 h16 h17 h18 =>
 cases hb with
 | mk _ _ _ _ _ A' AL' AD' c' cL' cD' gL' oL' gD' oD' vl' vd' i1 i2 i3 i4 iB5 i6 i7 i8 i9 i10 i11 i12 i13 i14 i15 i16 i17 i18 =>
 obtain ⟨W1, hW1⟩ : ∃ W, W = w.alloc (.cells #[.int .i64 k, .int .i64 n, .slice A bb.length c, .slice AL l.length cL, .slice AD d.length cD] 32) := ⟨_, rfl⟩
 obtain ⟨W2, hW2⟩ : ∃ W, W = W1.alloc (.cells #[.int .i64 k', .int .i64 n', .slice A' bb'.length c', .slice AL' l'.length cL', .slice AD' d'.length cD'] 32) := ⟨_, rfl⟩
 have hb2 : Below w.heap.size w W2 := by rw [hW2, hW1]; exact ((Below.refl _ _).alloc (Nat.le_refl _) _).alloc (by rw [World.size_alloc]; omega) _
 have ff := ten_cells hW1 hW2
 obtain ⟨⟨f0, f1, f2, f3, f4⟩, g0, g1, g2, g3, g4⟩ := ff
 have c7 := ref_Same A A' c c' bb bb' W2 (hB5.below hb2) (iB5.below hb2) (by omega) (by omega)
 have hbe : (bb == bb') = decide (bb = bb') := by by_cases h : bb = bb' <;> simp [h]
 rw [hbe]
 obtain ⟨sb, hsb⟩ : ∃ z, z = decide (bb = bb') := ⟨_, rfl⟩
 rw [← hsb] at c7 ⊢
 clear h1 h2 h3 h4 hB5 h6_ h7_ h8_ h9 h10 h11 h12 h13 h14 h15 h16 h17 h18 i1 i2 i3 i4 iB5 i6 i7 i8 i9 i10 i11 i12 i13 i14 i15 i16 i17 i18 hbk hbk' zk zk' hbe hs
 replace hsb := hi_ hsb
 replace hb2 := hi_ hb2
 by_cases hkk : k = k'
 ·subst hkk
  have k6 : k ≠ 6 := fun e => h6 ⟨e, e⟩
  have k7 : k ≠ 7 := fun e => h7 ⟨e, e⟩
  have k8 : k ≠ 8 := fun e => h8 ⟨e, e⟩
  clear h6 h7 h8
  obtain ⟨R, hR⟩ : ∃ R, R = (k == k && (if k = 1 ∨ k = 2 ∨ k = 3 ∨ k = 9 then n == n' else if k = 4 ∨ k = 5 then sb else if k = 6 then sameL l l' else if k = 7 ∨ k = 8 then (k == 7 || sb) && sameD d d' else true)) := ⟨_, rfl⟩
  rw [← hR]
  rw [beq_self_eq_true, Bool.true_and] at hR
  by_cases k1 : k = 1
  ·subst k1
   have hR1 : R = (n == n') := by rw [hR]; simp
   subst hR1
   clear hR
   go_enter Tryz.func13, Tryz.ntmps13
   go_upto_region 1 with (fail)
   rw [← hW1, ← hW2]
   clear hW1 hW2
   go_wp2
   go_ret
   exact ⟨rfl, hb2.out⟩
  by_cases k2 : k = 2
  ·subst k2
   have hR1 : R = (n == n') := by rw [hR]; simp
   subst hR1
   clear hR
   go_enter Tryz.func13, Tryz.ntmps13
   go_upto_region 1 with (fail)
   rw [← hW1, ← hW2]
   clear hW1 hW2
   go_wp2
   go_ret
   exact ⟨rfl, hb2.out⟩
  by_cases k3 : k = 3
  ·subst k3
   have hR1 : R = (n == n') := by rw [hR]; simp
   subst hR1
   clear hR
   go_enter Tryz.func13, Tryz.ntmps13
   go_upto_region 1 with (fail)
   rw [← hW1, ← hW2]
   clear hW1 hW2
   go_wp2
   go_ret
   exact ⟨rfl, hb2.out⟩
  by_cases k9 : k = 9
  ·subst k9
   have hR1 : R = (n == n') := by rw [hR]; simp
   subst hR1
   clear hR
   go_enter Tryz.func13, Tryz.ntmps13
   go_upto_region 1 with (fail)
   rw [← hW1, ← hW2]
   clear hW1 hW2
   go_wp2
   go_ret
   exact ⟨rfl, hb2.out⟩
  by_cases k4 : k = 4
  ·subst k4
   have hR1 : R = sb := by rw [hR]; simp
   subst hR1
   clear hR
   go_enter Tryz.func13, Tryz.ntmps13
   go_upto_region 1 with (fail)
   rw [← hW1, ← hW2]
   clear hW1 hW2
   go_wp2_with (go_at_call 23; (with_reducible refine c7.mono ?_); rintro e w3 ⟨rfl, hB3⟩; replace hB3 := hi_ hB3)
   go_ret
   exact ⟨rfl, bthen hb2.out hB3.out⟩
  by_cases k5 : k = 5
  ·subst k5
   have hR1 : R = sb := by rw [hR]; simp
   subst hR1
   clear hR
   go_enter Tryz.func13, Tryz.ntmps13
   go_upto_region 1 with (fail)
   rw [← hW1, ← hW2]
   clear hW1 hW2
   go_wp2_with (go_at_call 23; (with_reducible refine c7.mono ?_); rintro e w3 ⟨rfl, hB3⟩; replace hB3 := hi_ hB3)
   go_ret
   exact ⟨rfl, bthen hb2.out hB3.out⟩
  have hR1 : R = true := by rw [hR]; simp [k1, k2, k3, k4, k5, k6, k7, k8, k9]
  subst hR1
  clear hR
  have t1 : (k == 1) = false := by simpa using k1
  have t2 : (k == 2) = false := by simpa using k2
  have t3 : (k == 3) = false := by simpa using k3
  have t4 : (k == 4) = false := by simpa using k4
  have t5 : (k == 5) = false := by simpa using k5
  have t6 : (k == 6) = false := by simpa using k6
  have t7 : (k == 7) = false := by simpa using k7
  have t8 : (k == 8) = false := by simpa using k8
  have t9 : (k == 9) = false := by simpa using k9
  clear k1 k2 k3 k4 k5 k6 k7 k8 k9 c7
  go_enter Tryz.func13, Tryz.ntmps13
  go_upto_region 1 with (fail)
  rw [← hW1, ← hW2]
  clear hW1 hW2
  go_wp2
  go_ret
  exact ⟨rfl, hb2.out⟩
 ·have e1 : (k == k') = false := by simpa using hkk
  have e2 : (k != k') = true := by rw [bne, e1]; rfl
  rw [e1, Bool.false_and]
  clear h6 h7 h8 hkk c7
  go_enter Tryz.func13, Tryz.ntmps13
  go_upto_region 1 with (fail)
  rw [← hW1, ← hW2]
  clear hW1 hW2
  go_wp2
  go_ret
  exact ⟨rfl, hb2.out⟩
theorem same_all : ∀ N, N ≤ 1048576 → SameC N
 | 0, _ => fun a b vs us w _ _ h _ => by have := bulk_pos a; omega
 | N + 1, h => same_step N h (same_all N (by omega))
section
open Go Go.RowKit Go.Wk Go.Rd Go.Fx
mutual
theorem sameB_reflT : ∀ (o : Ob), sameB o o = true
 | .mk k n b l d => by
  have h1 := sameL_reflT l
  have h2 := sameD_reflT d
  simp only [sameB, h1, h2, beq_self_eq_true, Bool.true_and, Bool.or_true]
  repeat' split
  all_goals rfl
theorem sameL_reflT : ∀ (l : List Ob), sameL l l = true
 | [] => rfl
 | o :: r => by simp only [sameL, sameB_reflT o, sameL_reflT r, Bool.true_and]
theorem sameD_reflT : ∀ (d : List (List UInt8 × Ob)), sameD d d = true
 | [] => rfl
 | e :: r => by simp only [sameD, sameB_reflT e.2, sameD_reflT r, beq_self_eq_true, Bool.true_and]
end
theorem tback_law (w : World) (hT : Tab w) (o : Ob) (vs : List Value) (hob : ObAt w o vs) (hbk : o.bulk ≤ 1048576) (A : Option Addr) (c : Nat) (l : List R4) (h : RowsAt w A l) :
 Calls Tryz.prog 4 #[.agg vs.toArray, .slice A l.length c] w fun e w' => e = .returned (.bool true) ∧ Below w.heap.size w w' := by
 obtain ⟨en, E1, E2, E3, en1, ec1, en2, ec2, en3, ec3, hys⟩ := ob_five2 hob
 obtain ⟨kd, hkd⟩ : ∃ k, k = o.kind := ⟨_, rfl⟩
 rw [← hkd] at hys
 subst hys
 obtain ⟨m, hm⟩ : ∃ m, m = l.length := ⟨_, rfl⟩
 obtain ⟨W1, hW1, hb1⟩ := newA w 32 #[.int .i64 kd, .int .i64 en, .slice E1 en1 ec1, .slice E2 en2 ec2, .slice E3 en3 ec3]
 have f := five_cells32 hW1
 have c7 := law_awake W1 (hT.below hb1)
 have cm := fun W (hW : Below W1.heap.size W1 W) => ref_May o _ W (hob.kept (bthen hb1 hW)) hbk
 obtain ⟨mb, hmb⟩ : ∃ b, b = o.may 28 := ⟨_, rfl⟩
 rw [← hmb] at cm
 have hno : ∀ W, Below W1.heap.size W1 W → Below w.heap.size w W := fun W hW => bthen hb1 hW
 rw [← hm]
 refine h9_ hm h hob hb1 f hkd cm hmb hno ?_; clear hm h hob hb1 f hkd cm hmb hno; intro hm h hob hb1 f hkd cm hmb hno
 replace hT := hi_ hT
 by_cases h60 : 60 < m
 ·have e1 : decide (60 < m) = true := by simpa using h60
  have e2 : decide ((60 : Int) < (m : Int)) = true := by simp; omega
  replace h60 := hi_ h60
  go_enter Tryz.func4, Tryz.ntmps4
  go_upto_region 1 with (fail)
  rw [← hW1]
  replace hW1 := hi_ hW1
  go_wp2_with (go_at_call 7; (with_reducible refine c7.mono ?_); rintro e w2 ⟨rfl, hB2⟩; replace hB2 := hi_ hB2)
  go_ret
  exact ⟨rfl, hno.out _ hB2.out⟩
 have e1 : decide (60 < m) = false := by simpa using h60
 have e2 : decide ((60 : Int) < (m : Int)) = false := by simp; omega
 cases mb with
 | false =>
  replace h60 := hi_ h60
  go_enter Tryz.func4, Tryz.ntmps4
  go_upto_region 1 with (fail)
  rw [← hW1]
  replace hW1 := hi_ hW1
  go_wp2_with (first
   | (go_at_call 7; (with_reducible refine c7.mono ?_); rintro e w2 ⟨rfl, hB2⟩; have cm2 := cm.out w2 hB2; obtain ⟨f0, f1, f2, f3, f4⟩ := five_kept f.out hB2; replace hB2 := hi_ hB2)
   | (go_at_call 15; (with_reducible refine cm2.mono ?_); rintro e w3 ⟨rfl, hB3⟩; replace hB3 := hi_ hB3))
  go_ret
  exact ⟨rfl, hno.out _ (bthen hB2.out hB3.out)⟩
 | true =>
  have zm : m ≤ 60 := by omega
  obtain ⟨S, hS⟩ : ∃ S, S = wS o l := ⟨_, rfl⟩
  obtain ⟨gd, hgd⟩ : ∃ b, b = wOk o l := ⟨_, rfl⟩
  have hz : wZ o l = if gd = true then 0 else 1 := by rw [hgd]; rfl
  have c17 := fun W (hW : Below w.heap.size w W) => law_Rows A c l W (h.out.below hW) (by have := hm.out; omega)
  have c16 := fun A2 c2 W (hW : Below w.heap.size w W) (hR : RowsAt W A2 l) => tab_WriteC o _ A2 c2 l W (hob.out.kept hW) hbk (hT.out.below hW) hR (by have := hm.out; omega)
  unfold WTC at c16
  rw [← hS, hz] at c16
  rw [← hm.out] at c16 c17
  have hSl : S.length ≤ 100000000 := by rw [hS]; exact wS_len2 hob.out hbk (by rw [← hm.out]; omega)
  replace c17 := hi_ c17
  replace h60 := hi_ h60
  cases gd with
  | false =>
   rw [if_neg (by decide)] at c16
   refine h5_ c16 hSl hS hz hgd ?_; clear c16 hSl hS hz hgd; intro c16 hSl hS hz hgd
   go_enter Tryz.func4, Tryz.ntmps4
   go_upto_region 1 with (fail)
   rw [← hW1]
   replace hW1 := hi_ hW1
   go_upto_region 5 with (first
    | (go_at_call 7; (with_reducible refine c7.mono ?_); rintro e w2 ⟨rfl, hB2⟩; have cm2 := cm.out w2 hB2; obtain ⟨f0, f1, f2, f3, f4⟩ := five_kept f.out hB2; replace hB2 := hi_ hB2)
    | (go_at_call 15; (with_reducible refine cm2.mono ?_); rintro e w3 ⟨rfl, hB3⟩; have hD3 := bthen hB2.out hB3; obtain ⟨f0, f1, f2, f3, f4⟩ := five_kept f.out hD3; replace hB3 := hi_ hB3; replace hD3 := hi_ hD3))
   go_region_with (first
    | (go_at_call 17; (with_reducible refine (c17.out _ (hno.out _ hD3.out.drew)).mono ?_); rintro e w4 ⟨v9, rfl, hO9, hB9⟩; obtain ⟨A9, c9, rfl, hR9⟩ := hO9.out (by have := hm.out; unfold maxLen; omega); rw [← hm.out]; have hD4 := bthen hD3.out.drew hB9; obtain ⟨f0, f1, f2, f3, f4⟩ := five_kept f.out hD4; have c16' := c16.out A9 c9 w4 (hno.out _ hD4) hR9; replace hD4 := hi_ hD4; replace hB9 := hi_ hB9; replace hR9 := hi_ hR9; clear hO9)
    | (go_at_call 16; (with_reducible refine c16'.mono ?_); rintro e w5 ⟨A5, c5, rfl, hb5, hcp5, hB5⟩; have hD5 := bthen hD4.out hB5; replace hD5 := hi_ hD5; replace hB5 := hi_ hB5; replace hb5 := hi_ hb5; replace hcp5 := hi_ hcp5))
   all_goals
    go_wp2
    go_ret
    exact ⟨rfl, hno.out _ hD5.out⟩
  | true =>
   rw [if_pos rfl] at c16
   have hmay : o.may 28 = true := hmb.out.symm
   have hback : tabS false 28 S = .ok (l, o) [10] := by
    rw [hS]; unfold wS; rw [if_pos hgd.symm]; exact tab_back hgd.symm hmay
   have c8 := fun A c W (hby : Byt W A S) (hcap : S.length ≤ c) => px_New A c S W hby hcap (by omega) 28 28 (by decide)
   have c10 := fun P L R A c W (h : PS P L R A c S 28 false W S) => px_Read (by omega) hSl W h
   rw [hback] at c10
   obtain ⟨n, hn⟩ : ∃ n, n = S.length := ⟨_, rfl⟩
   have hnw : IntKind.i64.wrap ((n : Int) - 1) = (n : Int) - 1 := by rw [IntWalk.i64_in _ (by omega)]
   have hSp : 1 ≤ S.length := by rw [hS]; unfold wS; rw [if_pos hgd.symm]; unfold tabT; simp; omega
   have hpos : ((pos S [10] : Nat) : Int) = (n : Int) - 1 := by rw [hn]; unfold pos; simp only [List.length_cons, List.length_nil]; omega
   have c14 := fun P L R A c W (h : PS P L R A c S 28 false W [10]) => ps_pos W h
   rw [hpos] at c14
   rw [← hn] at c8 c16
   have cS := fun A' c' W (h1 : RowsAt W A' l) (h2 : RowsAt W A l) => law_Same A' A c' c l W h1 h2 (by have := hm.out; omega)
   rw [← hm.out] at cS
   have c13 := fun us us2 W (h1 : ObAt W o us) (h2 : ObAt W o us2) => same_all 1048576 (Nat.le_refl _) o o us us2 W h1 h2 hbk hbk
   rw [sameB_reflT] at c13
   refine h9_ c16 c8 c10 c14 cS c13 hSl hS hz ?_; clear c16 c8 c10 c14 cS c13 hSl hS hz; intro c16 c8 c10 c14 cS c13 hSl hS hz
   refine h4_ hgd hmay hn hSp ?_; clear hgd hmay hn hSp; intro hgd hmay hn hSp
   clear hback hpos
   go_enter Tryz.func4, Tryz.ntmps4
   go_upto_region 1 with (fail)
   rw [← hW1]
   replace hW1 := hi_ hW1
   go_upto_region 5 with (first
    | (go_at_call 7; (with_reducible refine c7.mono ?_); rintro e w2 ⟨rfl, hB2⟩; have cm2 := cm.out w2 hB2; obtain ⟨f0, f1, f2, f3, f4⟩ := five_kept f.out hB2; replace hB2 := hi_ hB2)
    | (go_at_call 15; (with_reducible refine cm2.mono ?_); rintro e w3 ⟨rfl, hB3⟩; have hD3 := bthen hB2.out hB3; obtain ⟨f0, f1, f2, f3, f4⟩ := five_kept f.out hD3; replace hB3 := hi_ hB3; replace hD3 := hi_ hD3))
   go_region_with (first
    | (go_at_call 17; (with_reducible refine (c17.out _ (hno.out _ hD3.out.drew)).mono ?_); rintro e w4 ⟨v9, rfl, hO9, hB9⟩; obtain ⟨A9, c9, rfl, hR9⟩ := hO9.out (by have := hm.out; unfold maxLen; omega); rw [← hm.out]; have hD4 := bthen hD3.out.drew hB9; obtain ⟨f0, f1, f2, f3, f4⟩ := five_kept f.out hD4; have c16' := c16.out A9 c9 w4 (hno.out _ hD4) hR9; replace hD4 := hi_ hD4; replace hB9 := hi_ hB9; replace hR9 := hi_ hR9; clear hO9)
    | (go_at_call 16; (with_reducible refine c16'.mono ?_); rintro e w5 ⟨A5, c5, rfl, hb5, hcp5, hB5⟩; have hD5 := bthen hD4.out hB5; replace hD5 := hi_ hD5; replace hB5 := hi_ hB5; replace hb5 := hi_ hb5; replace hcp5 := hi_ hcp5))
   all_goals
    have c8b := c8.out A5 c5 w5 hb5.out (by have := hcp5.out; have := hn.out; omega)
    clear f0 f1 f2 f3 f4
    go_upto_region 10 with (first | (go_at_call 8; (with_reducible refine c8b.mono ?_); rintro e w6 ⟨rfl, hP6, hB6⟩; have c10b := c10.out _ _ _ _ _ w6 hP6; replace hP6 := hi_ hP6; replace hB6 := hi_ hB6; clear c8b) | (go_at_call 10; (with_reducible refine c10b.mono ?_); rintro e w7 ⟨v, us, rfl, hO, hI, hP7, hF7⟩; change OwnR _ _ _ _ l at hO; change ObI _ _ _ o _ at hI; obtain ⟨xk, xn, F1, F2, F3, fn1, fc1, fn2, fc2, fn3, fc3, rfl⟩ := five_exL hI.ob; obtain ⟨A7, c7x, hv, hR⟩ := hO.out (by have := hm.out; unfold maxLen; omega); subst hv; replace hO := hi_ hO; replace hI := hi_ hI; replace hP7 := hi_ hP7; replace hF7 := hi_ hF7; replace hR := hi_ hR; clear c10b))
    rw [← hm.out]
    obtain ⟨W8, hW8, b8, hU8⟩ := newB w7 34 #[.slice A7 m c7x, .int .i64 xk, .int .i64 xn, .slice F1 fn1 fc1, .slice F2 fn2 fc2, .slice F3 fn3 fc3]
    rw [← hW8]
    have h57 : Below w5.heap.size w5 w7 := hB6.out.trans (hF7.out.below (Nat.le_refl _) (by omega) hB6.out.size)
    have hD8 : Below W1.heap.size W1 W8 := bthen (bthen hD5.out h57) b8
    have hP8 := hP7.out.belowW b8
    have hR8 := hR.out.below b8
    have hI8 := hI.out.ob.kept b8
    have x0 := hU8.cell 0
    have cSb := cS.out A7 c7x W8 hR8 (h.out.below (hno.out _ hD8))
    refine h7_ hU8 hW8 b8 h57 hD8 hP8 hI8 ?_; clear hU8 hW8 b8 h57 hD8 hP8 hI8; intro hU8 hW8 b8 h57 hD8 hP8 hI8
    clear hR8
    go_wp2_with (first
     | (go_at_call 12; (with_reducible refine cSb.mono ?_); rintro e w9 ⟨rfl, hB9⟩; have hD9 := bthen hD8.out hB9; have hU9 := hU8.out.below hB9 hU8.out.lt; have x1 := hU9.cell 1; have x2 := hU9.cell 2; have x3 := hU9.cell 3; have x4 := hU9.cell 4; have x5 := hU9.cell 5; obtain ⟨f0, f1, f2, f3, f4⟩ := five_kept f.out hD9; have c13b := c13.out _ _ w9 (hI8.out.kept hB9) (hob.out.kept (hno.out _ hD9)); have hP9 := hP8.out.belowW hB9; replace hP9 := hi_ hP9; replace hU9 := hi_ hU9; replace hD9 := hi_ hD9; replace hB9 := hi_ hB9; clear cSb)
     | (go_at_call 13; (with_reducible refine c13b.mono ?_); rintro e w10 ⟨rfl, hB10⟩; have hP10 := hP9.out.belowW hB10; have p0 := hP10.p0; have q0 := hP10.q0; have c14b := c14.out _ _ _ _ _ w10 hP10; have hD10 := bthen hD9.out hB10; replace hD10 := hi_ hD10; replace hB10 := hi_ hB10; replace hP10 := hi_ hP10; clear c13b)
     | (go_at_call 14; (with_reducible refine c14b.mono ?_); rintro e w11 ⟨rfl, rfl⟩))
    go_ret
    exact ⟨rfl, hno.out _ hD10.out⟩
end
section
open Go Go.RowKit Go.Wk Go.WideShapes
theorem laid_tail {P : Program} {w : World} {x : String × DataW Unit} {l : List (String × DataW Unit)} (h : laidMet P (x :: l) w) : laidMet P l w := by
 obtain ⟨ps, ⟨g, t, cs, fuel, p, q, _, _, _, _, hq, hp⟩, hnd, hc⟩ := h
 subst hp
 exact ⟨q, hq, (List.nodup_append.1 hnd).2.1, fun b off h => hc b off (List.mem_append_right _ h)⟩
theorem tab_of {W : World} {a b : String × DataW Unit} {rest : List (String × DataW Unit)} (h : laidMet Tryz.prog (a :: b :: ("internal/strconv.uint64pow10", Rows.laid_internal_strconv_uint64pow10) :: rest) W) : Tab W := by
 have h3 := laid_tail (laid_tail h)
 have e : (Rows.laid_internal_strconv_uint64pow10 : DataW Unit) = Lib.tabData .u64 Lib.pow10Tab := by kernel_rfl
 rw [e] at h3
 exact Lib.tabIs_of_head (g := 1) (t := 236) (e := 163) (n := 20) (by kernel_rfl) (by kernel_rfl) Tryz.underlying236 Tryz.underlying163 (by kernel_rfl) (by kernel_rfl) h3
theorem obty : ObTy Tryz.prog 32 91 22 29 30 3 2 9 5 where
 o := ⟨_, Tryz.underlying32, rfl⟩
 e := ⟨_, Tryz.underlying91, rfl⟩
 b := Tryz.underlying22
 u := Tryz.underlying5
 l := Tryz.underlying29
 d := Tryz.underlying30
 i := Tryz.underlying3
 n := Tryz.underlying2
 s := Tryz.underlying9
 co := by kernel_rfl
 ce := by kernel_rfl
 cb := by kernel_rfl
 cl := by kernel_rfl
 cd := by kernel_rfl
 ci := by kernel_rfl
 cn := by kernel_rfl
 cs := by kernel_rfl
 cu := by kernel_rfl
theorem bulk_law {H : Type} : BulkLaw (H := H) Rows.uptoBulk Rows.uptoBulkAll where
 pos d := by
  cases d with
  | lit l => cases l <;> simp [Rows.uptoBulk]
  | nil => simp [Rows.uptoBulk]
  | ptr d => simp [Rows.uptoBulk]
  | slice elems spare => simp [Rows.uptoBulk]
  | agg parts => simp [Rows.uptoBulk]
  | iface t d => simp [Rows.uptoBulk]
  | map entries => simp [Rows.uptoBulk]
  | held h => simp [Rows.uptoBulk]
 str b := by simp [Rows.uptoBulk]
 slice e s := by simp [Rows.uptoBulk]
 agg p := by simp [Rows.uptoBulk]
 nil := by simp [Rows.uptoBulkAll]
 cons d r := by simp [Rows.uptoBulkAll]
theorem open_ob {H : Type} {enc : TypeId × Value → H} {W : World} {base : Nat} {v : Value} {d : DataW H} {p : List MemPlace} (hv : Value.okWide Tryz.prog W .any base 32 v) (h : DataW.Trod enc Tryz.prog W 0 (fun _ => true) true 32 v d p) :
 ∃ o vs, v = .agg (List.toArray vs) ∧ ObAt W o vs ∧ o.bulk ≤ Rows.uptoBulk d := by
 obtain ⟨cs, rfl, _⟩ := okWide_struct Tryz.underlying32 hv
 obtain ⟨fuel, hf⟩ := h
 obtain ⟨o, ho, hb⟩ := open_obj bulk_law obty fuel _ _ hf
 exact ⟨o, _, by show Value.agg cs = _; congr 1, ho, hb⟩
theorem small_two {H : Type} {d e : DataW H} (h : Rows.uptoSmall H [d, e] = true) : Rows.uptoBulk d ≤ 1048576 ∧ Rows.uptoBulk e ≤ 1048576 := by
 have h : Rows.uptoBulkAll [d, e] ≤ 1048576 := of_decide_eq_true h
 simp only [Rows.uptoBulkAll] at h
 omega
theorem rowty : ∃ fs, Tryz.prog.underlying 70 = some (.struct fs) ∧ fs.toList.map (fun f => (f.type, f.offset)) = [(3, 0), (3, 1), (3, 2), (3, 3)] := ⟨_, Tryz.underlying70, rfl⟩
theorem open_r4 {H : Type} {enc : TypeId × Value → H} {W : World} {fuel : Nat} {cs : List Value} {x : DataW H × List MemPlace} (h : DataW.trod enc Tryz.prog W 0 (fun _ => true) true fuel 70 cs = some x) : ∃ r : R4, cs = rv r := by
 obtain ⟨fs, hfs, hfl⟩ := rowty
 obtain ⟨xs, n, rfl, ex, hcl, hxl, hF⟩ := DataW.trod_struct hfs h
 have hc : Tryz.prog.cellsOf 70 = 4 := by kernel_rfl
 have hc3 : Tryz.prog.cellsOf 3 = 1 := by kernel_rfl
 have hsz : fs.size = 4 := by have := congrArg List.length hfl; simpa using this
 rw [hc] at hcl
 have fld : ∀ i, [(3, 0), (3, 1), (3, 2), (3, 3)][i]? = some (3, i) → ∃ y, DataW.trod enc Tryz.prog W 0 (fun _ => true) true n 3 ((cs.drop i).take 1) = some y := fun i hi => by
  obtain ⟨f, hf, ht, ho⟩ := fields_at hfl hi
  have hil : i < xs.length := by have := (Array.getElem?_eq_some_iff.1 hf).1; omega
  have := hF i f hf
  rw [ht, ho, hc3] at this
  exact ⟨_, this.trans (List.getElem?_eq_getElem hil)⟩
 match cs, hcl with
 | [c0, c1, c2, c3], _ =>
  obtain ⟨y0, z0⟩ := fld 0 rfl
  obtain ⟨y1, z1⟩ := fld 1 rfl
  obtain ⟨y2, z2⟩ := fld 2 rfl
  obtain ⟨y3, z3⟩ := fld 3 rfl
  obtain ⟨a, e0, _⟩ := DataW.trod_int Tryz.underlying3 (show DataW.trod enc Tryz.prog W 0 (fun _ => true) true n 3 [c0] = some y0 from z0)
  obtain ⟨b, e1, _⟩ := DataW.trod_int Tryz.underlying3 (show DataW.trod enc Tryz.prog W 0 (fun _ => true) true n 3 [c1] = some y1 from z1)
  obtain ⟨c, e2, _⟩ := DataW.trod_int Tryz.underlying3 (show DataW.trod enc Tryz.prog W 0 (fun _ => true) true n 3 [c2] = some y2 from z2)
  obtain ⟨d, e3, _⟩ := DataW.trod_int Tryz.underlying3 (show DataW.trod enc Tryz.prog W 0 (fun _ => true) true n 3 [c3] = some y3 from z3)
  injection e0 with e0; injection e1 with e1; injection e2 with e2; injection e3 with e3
  subst e0 e1 e2 e3
  exact ⟨⟨a, b, c, d⟩, rfl⟩
theorem open_rows {H : Type} {enc : TypeId × Value → H} {W : World} {base : Nat} {v : Value} {d : DataW H} {p : List MemPlace} (hv : Value.okWide Tryz.prog W .any base 38 v) (h : DataW.Trod enc Tryz.prog W 0 (fun _ => true) true 38 v d p) :
 ∃ A c l, v = .slice A (List.length l) c ∧ RowsAt W A l := by
 obtain ⟨a0, len0, cap0, rfl⟩ := okWide_slice Tryz.underlying38 hv
 obtain ⟨fuel, hf⟩ := h
 have hce : Tryz.prog.cellsOf 70 = 4 := by kernel_rfl
 have hf : DataW.trod enc Tryz.prog W 0 (fun _ => true) true fuel 38 [.slice a0 len0 cap0] = some (d, p) := hf
 rcases DataW.trod_slice Tryz.underlying38 hf with ⟨e, _⟩ | ⟨a, len, cap, elems, rest, n, _, e, _, hb, hl, hm, hlen, hel, _⟩
 ·injection e with e
  injection e with e1 e2 e3
  subst e1 e2 e3
  exact ⟨none, 0, [], rfl, Nat.zero_le _, fun h => by simp at h⟩
 ·injection e with e
  injection e with e1 e2 e3
  subst e1 e2 e3
  have each : ∀ i, i < len0 → ∃ r : R4, ∀ j u, (rv r)[j]? = some u → W.cell? (a.add (4 * i + j)) = some u := fun i hi => by
   obtain ⟨cs, x, hc4, hx, ht, hj⟩ := rows_at hce hlen hel i hi
   obtain ⟨r, rfl⟩ := open_r4 ht
   exact ⟨r, fun j u hu => (hj j (List.getElem?_eq_some_iff.1 hu).1).trans hu⟩
  obtain ⟨l, hl0, hp⟩ := list_of each
  subst hl0
  refine ⟨some a, cap0, l, rfl, by omega, fun h0 => ?_⟩
  obtain ⟨b, o, spot⟩ := a
  have h1 := hp 0 h0 0 _ rfl
  have hspot : spot = none := by simpa [Addr.add] using World.cell?_spot h1
  subst hspot
  refine ⟨b, o, rfl, fun i hi j u hu => ?_⟩
  have := hp i hi j u hu
  rw [add_none] at this
  rw [show o + i * 4 + j = o + (4 * i + j) by omega]
  exact this
end
end Go.Proofs.YthffpbkndnhlfaaGreatDoor

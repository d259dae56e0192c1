/- Walks and laws, joined: part D. No condition. -/
import Derived.Test.YthacnnmlephkhaaDoorPrJC
import Derived.Test.YthacnnmlephkhaaDoorPrJA
import Derived.Test.YthacnnmlephkhaaDoorRows
import Derived.Lib.LaidTab
import Derived.WideShapes
set_option linter.unusedSimpArgs false
set_option linter.unusedVariables false
/- Entries held against each other, by the document. No condition. -/
namespace Go.Proofs.YthacnnmlephkhaaDoor
open Go Go.RowKit Go.Wk
set_option maxHeartbeats 8000000 in
set_option maxRecDepth 100000 in
theorem same_dict8 (N : Nat) (hN : N ≤ 1048576) (hs : SameC N) (n n' : Int) (b b' : List UInt8) (l l' : List Ob) (d d' : List (List UInt8 × Ob)) (vs us : List Value) (w : World) (h : ObAt w (.mk 8 n b l d) vs) (h' : ObAt w (.mk 8 n' b' l' d') us) (hbk : b.length + bulkD d ≤ N) (hbk' : b'.length + bulkD d' ≤ 1048576) :
    Calls Tryd.prog 8 #[.agg vs.toArray, .agg us.toArray] w fun e w' => e = .returned (.bool ((b == b') && sameD d d')) ∧ Below w.heap.size w w' := by
  have zl := bulkD_len d
  have zl' := bulkD_len d'
  have zb1 : b.length ≤ 1048576 := by omega
  have zb1' : b'.length ≤ 1048576 := by omega
  cases h with
  | mk k n b l d A AL AD c cL cD gL oL gD oD vl vd h1 h2 h3 h4 hB5 h6 h7 h8 h9 h10 h11 h12 h13 h14 hA hl hkey hlv =>
  cases h' with
  | mk k' n' b' l' d' A' AL' AD' c' cL' cD' gL' oL' gD' oD' vl' vd' i1 i2 i3 i4 iB5 i6 i7 i8 i9 i10 i11 i12 i13 i14 hA' hl' hkey' hlv' =>
  obtain ⟨m, hm⟩ : ∃ m, m = d.length := ⟨_, rfl⟩
  obtain ⟨m', hm'⟩ : ∃ m, m = d'.length := ⟨_, rfl⟩
  rw [← hm] at zl ⊢
  rw [← hm'] at zl' ⊢
  have zm : m ≤ 1048576 := by omega
  have zm' : m' ≤ 1048576 := by omega
  obtain ⟨W1, hW1⟩ : ∃ W, W = w.alloc (.cells #[.int .i64 8, .int .i64 n, .slice A b.length c, .slice AL l.length cL, .slice AD m cD] 26) := ⟨_, rfl⟩
  obtain ⟨W2, hW2⟩ : ∃ W, W = W1.alloc (.cells #[.int .i64 8, .int .i64 n', .slice A' b'.length c', .slice AL' l'.length cL', .slice AD' m' cD'] 26) := ⟨_, rfl⟩
  have hb2 : Below w.heap.size w W2 := by rw [hW2, hW1]; exact ((Below.refl _ _).alloc (Nat.le_refl _) _).alloc (by rw [World.size_alloc]; omega) _
  have ff := ten_cells hW1 hW2
  obtain ⟨⟨f0, f1, f2, f3, f4⟩, g0, g1, g2, g3, g4⟩ := id ff
  obtain ⟨E, hE⟩ : ∃ E, E = sameD d d' := ⟨_, rfl⟩
  rw [← hE]
  have hne : m ≠ m' → E = false := fun h => by rw [hE]; exact sameD_len d d' (by omega)
  have hall : m = m' → E = (List.range m).all (atT d d') := fun h => by rw [hE, hm]; exact sameD_all d d' (by omega)
  have c7 := ref_Same A A' c c' b b' W2 (hB5.below hb2) (iB5.below hb2) (by omega) (by omega)
  have hbe : (b == b') = decide (b = b') := by by_cases h : b = b' <;> simp [h]
  rw [hbe]
  clear hbe
  obtain ⟨bb, hbb⟩ : ∃ z, z = decide (b = b') := ⟨_, rfl⟩
  rw [← hbb] at c7 ⊢
  replace hbb := Lib.hid hbb
  clear h1 h2 h3 h4 hB5 h6 h7 h8 h9 h10 h11 h12 h13 h14 i1 i2 i3 i4 iB5 i6 i7 i8 i9 i10 i11 i12 i13 i14
  replace hE := Lib.hid hE
  replace hm := Lib.hid hm
  replace hm' := Lib.hid hm'
  replace hA := Lib.hid hA
  replace hl := Lib.hid hl
  replace hlv := Lib.hid hlv
  replace hkey := Lib.hid hkey
  replace hA' := Lib.hid hA'
  replace hl' := Lib.hid hl'
  replace hlv' := Lib.hid hlv'
  replace hkey' := Lib.hid hkey'
  replace hs := Lib.hid hs
  replace hb2 := Lib.hid hb2
  replace ff := Lib.hid ff
  replace hne := Lib.hid hne
  replace hall := Lib.hid hall
  cases bb with
  | false =>
    rw [Bool.false_and]
    go_enter Tryd.func8, Tryd.ntmps8
    go_upto_region 1 with (fail)
    rw [← hW1, ← hW2]
    replace hW1 := Lib.hid hW1
    replace hW2 := Lib.hid hW2
    by_cases hmm : m = m'
    · subst hmm
      clear hne hall
      go_wp2_with (go_at_call 7; (with_reducible refine c7.mono ?_); rintro e w3 ⟨rfl, hB3⟩; replace hB3 := Lib.hid hB3)
      go_ret
      exact ⟨rfl, bthen hb2.out hB3.out⟩
    · have qm : ((m : Int) == (m' : Int)) = false := by rw [beq_eq_false_iff_ne]; omega
      have qm2 : ((m : Int) != (m' : Int)) = true := by rw [bne, qm]; rfl
      replace hmm := Lib.hid hmm
      go_wp2
      go_ret
      exact ⟨rfl, hb2.out⟩
  | true =>
  rw [Bool.true_and]
  go_enter Tryd.func8, Tryd.ntmps8
  go_upto_region 1 with (fail)
  rw [← hW1, ← hW2]
  replace hW1 := Lib.hid hW1
  replace hW2 := Lib.hid hW2
  by_cases hmm : m = m'
  · subst hmm
    have hal2 := hall.out rfl
    replace hal2 := Lib.hid hal2
    clear hne hall
    go_wp2_with (go_at_call 7; (with_reducible refine c7.mono ?_); rintro e w3 ⟨rfl, hB3⟩; replace hB3 := Lib.hid hB3)
    go_loopw [6] (fun s6 wr => ∃ k : Nat, k ≤ m ∧ s6 = .int .i64 k ∧ (∀ j, j < k → atT d d' j = true) ∧ Below W2.heap.size W2 wr) (fun s6 _ => m - (RowKit.intOf s6).toNat)
    case atStart => exact ⟨0, by omega, rfl, fun j hj => by omega, hB3.out⟩
    case round =>
      obtain ⟨k, hk, rfl, hP, hB⟩ := hrel
      have lB := hB.size
      obtain ⟨p0, p1, p2, p3, p4⟩ := five_kept ff.out.1 hB
      obtain ⟨q0, q1, q2, q3, q4⟩ := five_kept ff.out.2 hB
      by_cases hkm : k < m
      · have hkl : k < d.length := by rw [← hm.out]; exact hkm
        have hkl' : k < d'.length := by rw [← hm'.out]; exact hkm
        have hAe := hA.out (by omega)
        have hAe' := hA'.out (by omega)
        subst hAe hAe'
        have hbw : Below w.heap.size w wr := bthen hb2.out hB
        obtain ⟨o, ho⟩ : ∃ o, o = d[k] := ⟨_, rfl⟩
        obtain ⟨o', ho'⟩ : ∃ o, o = d'[k] := ⟨_, rfl⟩
        have hob := (hl.out k hkl).kept hbw
        have hob' := (hl'.out k hkl').kept hbw
        have hcv := hlv.out k hkl
        have hcv' := hlv'.out k hkl'
        have hky := (hkey.out k hkl).2
        have hky' := (hkey'.out k hkl').2
        rw [← ho] at hob hky
        rw [← ho'] at hob' hky'
        have hzo : o.2.bulk ≤ N := by have := bulkD_at d k hkl; rw [← ho] at this; omega
        have hzo' : o'.2.bulk ≤ 1048576 := by have := bulkD_at d' k hkl'; rw [← ho'] at this; omega
        obtain ⟨us, hus⟩ : ∃ us, us = vd k := ⟨_, rfl⟩
        obtain ⟨us', hus'⟩ : ∃ us, us = vd' k := ⟨_, rfl⟩
        rw [← hus] at hob hcv
        rw [← hus'] at hob' hcv'
        obtain ⟨en, E1, E2, E3, en1, ec1, en2, ec2, en3, ec3, hys⟩ := ob_five2 hob
        obtain ⟨en', E1', E2', E3', en1', ec1', en2', ec2', en3', ec3', hys'⟩ := ob_five2 hob'
        obtain ⟨kk, hkk⟩ : ∃ k, k = o.2.kind := ⟨_, rfl⟩
        obtain ⟨kk', hkk'⟩ : ∃ k, k = o'.2.kind := ⟨_, rfl⟩
        rw [← hkk] at hys
        rw [← hkk'] at hys'
        subst hys hys'
        obtain ⟨K, hK⟩ : ∃ K, K = bytes o.1 := ⟨_, rfl⟩
        obtain ⟨K', hK'⟩ : ∃ K, K = bytes o'.1 := ⟨_, rfl⟩
        have kp : ∀ W, Below wr.heap.size wr W → W.cell? ⟨gD, oD + k * 6, none⟩ = some (.string K) ∧ W.cell? ⟨gD', oD' + k * 6, none⟩ = some (.string K') := fun W hW => by
          have h1 := (bthen hbw hW).cell (cell_lt hky) |>.trans hky
          have h2 := (bthen hbw hW).cell (cell_lt hky') |>.trans hky'
          rw [Nat.mul_comm] at h1 h2
          rw [h1, h2, hK, hK']; exact ⟨rfl, rfl⟩
        have five : ∀ W, Below wr.heap.size wr W → ∀ j u, [Value.int .i64 kk, .int .i64 en, .slice E1 en1 ec1, .slice E2 en2 ec2, .slice E3 en3 ec3][j]? = some u → W.cell? ⟨gD, oD + k * 6 + 1 + j, none⟩ = some u := fun W hW j u hj => by
          have h0 := hcv j (by have := (List.getElem?_eq_some_iff.1 hj).1; simpa using this)
          rw [hj] at h0
          have h1 := ((bthen hbw hW).cell (cell_lt h0)).trans h0
          rw [show oD + (6 * k + 1 + j) = oD + k * 6 + 1 + j by omega] at h1
          exact h1
        have five' : ∀ W, Below wr.heap.size wr W → ∀ j u, [Value.int .i64 kk', .int .i64 en', .slice E1' en1' ec1', .slice E2' en2' ec2', .slice E3' en3' ec3'][j]? = some u → W.cell? ⟨gD', oD' + k * 6 + 1 + j, none⟩ = some u := fun W hW j u hj => by
          have h0 := hcv' j (by have := (List.getElem?_eq_some_iff.1 hj).1; simpa using this)
          rw [hj] at h0
          have h1 := ((bthen hbw hW).cell (cell_lt h0)).trans h0
          rw [show oD' + (6 * k + 1 + j) = oD' + k * 6 + 1 + j by omega] at h1
          exact h1
        have zz : ∀ W, Below wr.heap.size wr W → (W.cell? ⟨w.heap.size, 0, none⟩ = some (.int .i64 8) ∧ W.cell? ⟨w.heap.size, 1, none⟩ = some (.int .i64 n) ∧ W.cell? ⟨w.heap.size, 2, none⟩ = some (.slice A b.length c) ∧ W.cell? ⟨w.heap.size, 3, none⟩ = some (.slice AL l.length cL) ∧ W.cell? ⟨w.heap.size, 4, none⟩ = some (.slice (some ⟨gD, oD, none⟩) m cD)) ∧
            (W.cell? ⟨w.heap.size + 1, 0, none⟩ = some (.int .i64 8) ∧ W.cell? ⟨w.heap.size + 1, 1, none⟩ = some (.int .i64 n') ∧ W.cell? ⟨w.heap.size + 1, 2, none⟩ = some (.slice A' b'.length c') ∧ W.cell? ⟨w.heap.size + 1, 3, none⟩ = some (.slice AL' l'.length cL') ∧ W.cell? ⟨w.heap.size + 1, 4, none⟩ = some (.slice (some ⟨gD', oD', none⟩) m cD')) ∧
            (W.cell? ⟨gD, oD + k * 6, none⟩ = some (.string K) ∧ W.cell? ⟨gD, oD + k * 6 + 1, none⟩ = some (.int .i64 kk) ∧ W.cell? ⟨gD, oD + k * 6 + 2, none⟩ = some (.int .i64 en) ∧ W.cell? ⟨gD, oD + k * 6 + 3, none⟩ = some (.slice E1 en1 ec1) ∧ W.cell? ⟨gD, oD + k * 6 + 4, none⟩ = some (.slice E2 en2 ec2) ∧ W.cell? ⟨gD, oD + k * 6 + 5, none⟩ = some (.slice E3 en3 ec3)) ∧
            (W.cell? ⟨gD', oD' + k * 6, none⟩ = some (.string K') ∧ W.cell? ⟨gD', oD' + k * 6 + 1, none⟩ = some (.int .i64 kk') ∧ W.cell? ⟨gD', oD' + k * 6 + 2, none⟩ = some (.int .i64 en') ∧ W.cell? ⟨gD', oD' + k * 6 + 3, none⟩ = some (.slice E1' en1' ec1') ∧ W.cell? ⟨gD', oD' + k * 6 + 4, none⟩ = some (.slice E2' en2' ec2') ∧ W.cell? ⟨gD', oD' + k * 6 + 5, none⟩ = some (.slice E3' en3' ec3')) := fun W hW =>
          ⟨five_kept ff.out.1 (bthen hB hW), five_kept ff.out.2 (bthen hB hW), ⟨(kp W hW).1, five W hW 0 _ rfl, five W hW 1 _ rfl, five W hW 2 _ rfl, five W hW 3 _ rfl, five W hW 4 _ rfl⟩, (kp W hW).2, five' W hW 0 _ rfl, five' W hW 1 _ rfl, five' W hW 2 _ rfl, five' W hW 3 _ rfl, five' W hW 4 _ rfl⟩
        have hat : atT d d' k = (o.1 == o'.1 && sameB o.2 o'.2) := by unfold atT; rw [List.getElem?_eq_getElem hkl, List.getElem?_eq_getElem hkl', ho, ho']
        have c8 := fun W (hW : Below wr.heap.size wr W) => hs.out o.2 o'.2 _ _ W (hob.kept hW) (hob'.kept hW) hzo hzo'
        obtain ⟨kn, hkn⟩ : ∃ kn, (!(K.toList == K'.toList)) = kn := ⟨_, rfl⟩
        have hkn3 : (o.1 == o'.1) = !kn := by rw [← hkn, hK, hK']; exact bytes_eq2 _ _
        obtain ⟨sb, hsb⟩ : ∃ sb, sb = sameB o.2 o'.2 := ⟨_, rfl⟩
        rw [← hsb, hkn3] at hat
        rw [← hsb] at c8
        clear five five' hcv hcv' hob hob' hus hus' hkk hkk' kp hky hky' hkn3 hzo hzo'
        replace ho := Lib.hid ho
        replace ho' := Lib.hid ho'
        replace hK := Lib.hid hK
        replace hK' := Lib.hid hK'
        replace hsb := Lib.hid hsb
        replace hB := Lib.hid hB
        replace hbw := Lib.hid hbw
        replace hP := Lib.hid hP
        replace hat := Lib.hid hat
        replace zz := Lib.hid zz
        replace c8 := Lib.hid c8
        go_upto_region 27 with (fail)
        refine wp_lin_tail (by kernel_rfl) [none, none, none, none, none, none, none, none, none, none, none, none, none, none, none, none, none, none, none, none, none, none, none, none, none, none, none, none, none, none, none, none, none, none, none, none, none, none, none, none, none, none, none, none, none, none, none, none, none, none, none, none, none, none, none, none, none, none, none, none, none, none, none, none, none, none, none, none, none, none, none, none, none, none, none, none, none, none, none, none, none, none, none, none, none, none, none, none, none, none, some 0, some 1, some 2, some 3, some 4, some 5, some 6, some 7, some 8, some 9, some 10, some 11, some 12, some 13, some 14, some 15, some 16, some 17, some 18, some 19, some 20, some 21, some 22, some 23, some 24, some 25, some 26, some 27, none] (fun w' => Below wr.heap.size wr w') (fun w' w'' => Below w'.heap.size w' w'') (GT w.heap.size (w.heap.size + 1) gD oD gD' oD' m cD cD' k K K' #[.int .i64 kk, .int .i64 en, .slice E1 en1 ec1, .slice E2 en2 ec2, .slice E3 en3 ec3] #[.int .i64 kk', .int .i64 en', .slice E1' en1' ec1', .slice E2' en2' ec2', .slice E3' en3' ec3'] kn sb) (by rfl) (by kernel_rfl) 28 _ rfl (by decide) (by kernel_rfl) [1, 3, 3, 4, 5, 12, 7, 9, 9, 10, 11, 12, 13, 28, 15, 17, 17, 18, 19, 26, 21, 23, 23, 24, 25, 26, 27, 28, 0] (by kernel_rfl) ?hR ?mono (.cons 27 (step_of [26, 13] rfl (by kernel_rfl) ?s27) (.cons 26 (step_of [19, 25, 13] rfl (by kernel_rfl) ?s26) (.cons 25 (step_of [24, 13] rfl (by kernel_rfl) ?s25) (.cons 24 (step_of [23, 13] rfl (by kernel_rfl) ?s24) (.cons 23 (step_of [21, 22, 13] rfl (by kernel_rfl) ?s23) (.cons 22 (step_of [13] rfl (by kernel_rfl) ?s22) (.cons 21 (step_of [20, 13] rfl (by kernel_rfl) ?s21) (.cons 20 (step_of [13] rfl (by kernel_rfl) ?s20) (.cons 19 (step_of [18, 13] rfl (by kernel_rfl) ?s19) (.cons 18 (step_of [17, 13] rfl (by kernel_rfl) ?s18) (.cons 17 (step_of [15, 16, 13] rfl (by kernel_rfl) ?s17) (.cons 16 (step_of [13] rfl (by kernel_rfl) ?s16) (.cons 15 (step_of [14, 13] rfl (by kernel_rfl) ?s15) (.cons 14 (step_of [13] rfl (by kernel_rfl) ?s14) (.cons 13 (step_of [12] rfl (by kernel_rfl) ?s13) (.cons 12 (step_of [5, 11] rfl (by kernel_rfl) ?s12) (.cons 11 (step_of [10] rfl (by kernel_rfl) ?s11) (.cons 10 (step_of [9] rfl (by kernel_rfl) ?s10) (.cons 9 (step_of [7, 8] rfl (by kernel_rfl) ?s9) (.cons 8 (step_of [] rfl (by kernel_rfl) ?s8) (.cons 7 (step_of [6] rfl (by kernel_rfl) ?s7) (.cons 6 (step_of [] rfl (by kernel_rfl) ?s6) (.cons 5 (step_of [4] rfl (by kernel_rfl) ?s5) (.cons 4 (step_of [3] rfl (by kernel_rfl) ?s4) (.cons 3 (step_of [1, 2] rfl (by kernel_rfl) ?s3) (.cons 2 (step_of [] rfl (by kernel_rfl) ?s2) (.cons 1 (step_of [0] rfl (by kernel_rfl) ?s1) (.cons 0 (step_of [] rfl (by kernel_rfl) ?s0) (.nil))))))))))))))))))))))))))))) ?done
        case hR => exact (Below.refl _ _).drew
        case mono => exact GT_mono
        case done =>
          intro x w4 hR2 hG fr hfr
          have e13 := hG 13 (by omega)
          have e27 := hG 27 (by omega)
          simp only [GT] at e13 e27
          clear hG
          simp only [fillL] at hfr
          rw [e13] at hfr
          replace hR2 := Lib.hid hR2
          cases kn with
          | true =>
            have hF : E = false := by
              rw [hal2.out, List.all_eq_false]; refine ⟨k, List.mem_range.2 hkm, ?_⟩; rw [hat.out]; simp
            subst hfr
            clear e27
            go_wp2
            go_ret
            exact ⟨by first | rfl | (rw [hF]; rfl), bthen hbw.out hR2.out⟩
          | false =>
            rw [e27 rfl] at hfr
            subst hfr
            clear e27
            cases sb with
            | true =>
              have hP2 : ∀ j, j < k + 1 → atT d d' j = true := fun j hj => by
                by_cases h : j = k
                · rw [h]; exact hat.out
                · exact hP.out j (by omega)
              replace hP2 := Lib.hid hP2
              go_wp2
              go_roundw
              case rel => exact ⟨k + 1, by omega, by go_num, hP2.out, hB.out.trans (hR2.out.mono lB)⟩
              case measure => simp [RowKit.intOf]; omega
            | false =>
              have hF : E = false := by
                rw [hal2.out, List.all_eq_false]; refine ⟨k, List.mem_range.2 hkm, ?_⟩; rw [hat.out]; simp
              go_wp2
              go_ret
              exact ⟨by first | rfl | (rw [hF]; rfl), bthen hbw.out hR2.out⟩
        case s0 =>
          intro x w' hRw hd K9 hK
          simp only [All, GT] at hd
          obtain ⟨_⟩ := hd
          simp (config := {decide := true}) only [upd, GT, fillL, if_true, if_false] at hK ⊢
          go_simp
          have hK2 := hK _ _ ⟨hRw, Below.refl _ _, rfl⟩
          exact hK2
        case s1 =>
          intro x w' hRw hd K9 hK
          simp only [All, GT] at hd
          obtain ⟨e0, _⟩ := hd
          simp (config := {decide := true}) only [upd, GT, fillL, if_true, if_false] at hK ⊢
          obtain ⟨⟨z0, z1, z2, z3, z4⟩, ⟨t0, t1, t2, t3, t4⟩, ⟨x0, x1, x2, x3, x4, x5⟩, y0, y1, y2, y3, y4, y5⟩ := zz.out w' hRw
          simp only [e0] at hK ⊢
          go_simp
          have hK2 := hK _ _ ⟨hRw, Below.refl _ _, rfl⟩
          exact hK2
        case s2 =>
          intro x w' hRw hd K9 hK
          simp only [All, GT] at hd
          obtain ⟨_⟩ := hd
          simp (config := {decide := true}) only [upd, GT, fillL, if_true, if_false] at hK ⊢
          go_simp
          have hK2 := hK _ _ ⟨hRw, Below.refl _ _, rfl⟩
          exact hK2
        case s3 =>
          intro x w' hRw hd K9 hK
          simp only [All, GT] at hd
          obtain ⟨e1, e2, _⟩ := hd
          simp (config := {decide := true}) only [upd, GT, fillL, if_true, if_false] at hK ⊢
          simp only [e1, e2] at hK ⊢
          go_simp
          have hK2 := hK _ _ ⟨hRw, Below.refl _ _, rfl⟩
          exact hK2
        case s4 =>
          intro x w' hRw hd K9 hK
          simp only [All, GT] at hd
          obtain ⟨e3, _⟩ := hd
          simp (config := {decide := true}) only [upd, GT, fillL, if_true, if_false] at hK ⊢
          simp only [e3] at hK ⊢
          go_simp
          have hK2 := hK _ _ ⟨hRw, Below.refl _ _, rfl⟩
          exact hK2
        case s5 =>
          intro x w' hRw hd K9 hK
          simp only [All, GT] at hd
          obtain ⟨e4, _⟩ := hd
          simp (config := {decide := true}) only [upd, GT, fillL, if_true, if_false] at hK ⊢
          obtain ⟨⟨z0, z1, z2, z3, z4⟩, ⟨t0, t1, t2, t3, t4⟩, ⟨x0, x1, x2, x3, x4, x5⟩, y0, y1, y2, y3, y4, y5⟩ := zz.out w' hRw
          simp only [e4] at hK ⊢
          go_simp
          have hK2 := hK _ _ ⟨hRw, Below.refl _ _, rfl⟩
          exact hK2
        case s6 =>
          intro x w' hRw hd K9 hK
          simp only [All, GT] at hd
          obtain ⟨_⟩ := hd
          simp (config := {decide := true}) only [upd, GT, fillL, if_true, if_false] at hK ⊢
          go_simp
          have hK2 := hK _ _ ⟨hRw, Below.refl _ _, rfl⟩
          exact hK2
        case s7 =>
          intro x w' hRw hd K9 hK
          simp only [All, GT] at hd
          obtain ⟨e6, _⟩ := hd
          simp (config := {decide := true}) only [upd, GT, fillL, if_true, if_false] at hK ⊢
          obtain ⟨⟨z0, z1, z2, z3, z4⟩, ⟨t0, t1, t2, t3, t4⟩, ⟨x0, x1, x2, x3, x4, x5⟩, y0, y1, y2, y3, y4, y5⟩ := zz.out w' hRw
          simp only [e6] at hK ⊢
          go_simp
          have hK2 := hK _ _ ⟨hRw, Below.refl _ _, rfl⟩
          exact hK2
        case s8 =>
          intro x w' hRw hd K9 hK
          simp only [All, GT] at hd
          obtain ⟨_⟩ := hd
          simp (config := {decide := true}) only [upd, GT, fillL, if_true, if_false] at hK ⊢
          go_simp
          have hK2 := hK _ _ ⟨hRw, Below.refl _ _, rfl⟩
          exact hK2
        case s9 =>
          intro x w' hRw hd K9 hK
          simp only [All, GT] at hd
          obtain ⟨e7, e8, _⟩ := hd
          simp (config := {decide := true}) only [upd, GT, fillL, if_true, if_false] at hK ⊢
          simp only [e7, e8] at hK ⊢
          go_simp
          have hK2 := hK _ _ ⟨hRw, Below.refl _ _, rfl⟩
          exact hK2
        case s10 =>
          intro x w' hRw hd K9 hK
          simp only [All, GT] at hd
          obtain ⟨e9, _⟩ := hd
          simp (config := {decide := true}) only [upd, GT, fillL, if_true, if_false] at hK ⊢
          simp only [e9] at hK ⊢
          go_simp
          have hK2 := hK _ _ ⟨hRw, Below.refl _ _, rfl⟩
          exact hK2
        case s11 =>
          intro x w' hRw hd K9 hK
          simp only [All, GT] at hd
          obtain ⟨e10, _⟩ := hd
          simp (config := {decide := true}) only [upd, GT, fillL, if_true, if_false] at hK ⊢
          obtain ⟨⟨z0, z1, z2, z3, z4⟩, ⟨t0, t1, t2, t3, t4⟩, ⟨x0, x1, x2, x3, x4, x5⟩, y0, y1, y2, y3, y4, y5⟩ := zz.out w' hRw
          simp only [e10] at hK ⊢
          go_simp
          have hK2 := hK _ _ ⟨hRw, Below.refl _ _, rfl⟩
          exact hK2
        case s12 =>
          intro x w' hRw hd K9 hK
          simp only [All, GT] at hd
          obtain ⟨e5, e11, _⟩ := hd
          simp (config := {decide := true}) only [upd, GT, fillL, if_true, if_false] at hK ⊢
          simp only [e5, e11] at hK ⊢
          go_simp
          try simp only [hkn]
          have hK2 := hK _ _ ⟨hRw, Below.refl _ _, rfl⟩
          exact hK2
        case s13 =>
          intro x w' hRw hd K9 hK
          simp only [All, GT] at hd
          obtain ⟨e12, _⟩ := hd
          simp (config := {decide := true}) only [upd, GT, fillL, if_true, if_false] at hK ⊢
          simp only [e12] at hK ⊢
          go_simp
          have hK2 := hK _ _ ⟨hRw, Below.refl _ _, rfl⟩
          exact hK2
        case s14 =>
          intro x w' hRw hd K9 hK
          simp only [All, GT] at hd
          obtain ⟨e13, _⟩ := hd
          simp (config := {decide := true}) only [upd, GT, fillL, if_true, if_false] at hK ⊢
          simp only [e13] at hK ⊢
          cases kn with
          | true =>
            go_simp
            have hK2 := hK undef _ ⟨hRw, Below.refl _ _, fun h => by cases h⟩
            exact hK2
          | false =>
            go_simp
            have hK2 := hK _ _ ⟨hRw, Below.refl _ _, fun _ => rfl⟩
            exact hK2
        case s15 =>
          intro x w' hRw hd K9 hK
          simp only [All, GT] at hd
          obtain ⟨e14, e13, _⟩ := hd
          simp (config := {decide := true}) only [upd, GT, fillL, if_true, if_false] at hK ⊢
          obtain ⟨⟨z0, z1, z2, z3, z4⟩, ⟨t0, t1, t2, t3, t4⟩, ⟨x0, x1, x2, x3, x4, x5⟩, y0, y1, y2, y3, y4, y5⟩ := zz.out w' hRw
          simp only [e13] at hK ⊢
          cases kn with
          | true =>
            go_simp
            have hK2 := hK undef _ ⟨hRw, Below.refl _ _, fun h => by cases h⟩
            exact hK2
          | false =>
            simp only [e14 rfl] at hK ⊢
            go_simp
            have hK2 := hK _ _ ⟨hRw, Below.refl _ _, fun _ => rfl⟩
            exact hK2
        case s16 =>
          intro x w' hRw hd K9 hK
          simp only [All, GT] at hd
          obtain ⟨e13, _⟩ := hd
          simp (config := {decide := true}) only [upd, GT, fillL, if_true, if_false] at hK ⊢
          simp only [e13] at hK ⊢
          cases kn with
          | true =>
            go_simp
            have hK2 := hK undef _ ⟨hRw, Below.refl _ _, fun h => by cases h⟩
            exact hK2
          | false =>
            go_simp
            have hK2 := hK _ _ ⟨hRw, Below.refl _ _, fun _ => rfl⟩
            exact hK2
        case s17 =>
          intro x w' hRw hd K9 hK
          simp only [All, GT] at hd
          obtain ⟨e15, e16, e13, _⟩ := hd
          simp (config := {decide := true}) only [upd, GT, fillL, if_true, if_false] at hK ⊢
          simp only [e13] at hK ⊢
          cases kn with
          | true =>
            go_simp
            have hK2 := hK undef _ ⟨hRw, Below.refl _ _, fun h => by cases h⟩
            exact hK2
          | false =>
            simp only [e15 rfl, e16 rfl] at hK ⊢
            go_simp
            have hK2 := hK _ _ ⟨hRw, Below.refl _ _, fun _ => rfl⟩
            exact hK2
        case s18 =>
          intro x w' hRw hd K9 hK
          simp only [All, GT] at hd
          obtain ⟨e17, e13, _⟩ := hd
          simp (config := {decide := true}) only [upd, GT, fillL, if_true, if_false] at hK ⊢
          simp only [e13] at hK ⊢
          cases kn with
          | true =>
            go_simp
            have hK2 := hK undef _ ⟨hRw, Below.refl _ _, fun h => by cases h⟩
            exact hK2
          | false =>
            simp only [e17 rfl] at hK ⊢
            go_simp
            have hK2 := hK _ _ ⟨hRw, Below.refl _ _, fun _ => rfl⟩
            exact hK2
        case s19 =>
          intro x w' hRw hd K9 hK
          simp only [All, GT] at hd
          obtain ⟨e18, e13, _⟩ := hd
          simp (config := {decide := true}) only [upd, GT, fillL, if_true, if_false] at hK ⊢
          obtain ⟨⟨z0, z1, z2, z3, z4⟩, ⟨t0, t1, t2, t3, t4⟩, ⟨x0, x1, x2, x3, x4, x5⟩, y0, y1, y2, y3, y4, y5⟩ := zz.out w' hRw
          simp only [e13] at hK ⊢
          cases kn with
          | true =>
            go_simp
            have hK2 := hK undef _ ⟨hRw, Below.refl _ _, fun h => by cases h⟩
            exact hK2
          | false =>
            simp only [e18 rfl] at hK ⊢
            go_simp
            have hK2 := hK _ _ ⟨hRw, Below.refl _ _, fun _ => rfl⟩
            exact hK2
        case s20 =>
          intro x w' hRw hd K9 hK
          simp only [All, GT] at hd
          obtain ⟨e13, _⟩ := hd
          simp (config := {decide := true}) only [upd, GT, fillL, if_true, if_false] at hK ⊢
          simp only [e13] at hK ⊢
          cases kn with
          | true =>
            go_simp
            have hK2 := hK undef _ ⟨hRw, Below.refl _ _, fun h => by cases h⟩
            exact hK2
          | false =>
            go_simp
            have hK2 := hK _ _ ⟨hRw, Below.refl _ _, fun _ => rfl⟩
            exact hK2
        case s21 =>
          intro x w' hRw hd K9 hK
          simp only [All, GT] at hd
          obtain ⟨e20, e13, _⟩ := hd
          simp (config := {decide := true}) only [upd, GT, fillL, if_true, if_false] at hK ⊢
          obtain ⟨⟨z0, z1, z2, z3, z4⟩, ⟨t0, t1, t2, t3, t4⟩, ⟨x0, x1, x2, x3, x4, x5⟩, y0, y1, y2, y3, y4, y5⟩ := zz.out w' hRw
          simp only [e13] at hK ⊢
          cases kn with
          | true =>
            go_simp
            have hK2 := hK undef _ ⟨hRw, Below.refl _ _, fun h => by cases h⟩
            exact hK2
          | false =>
            simp only [e20 rfl] at hK ⊢
            go_simp
            have hK2 := hK _ _ ⟨hRw, Below.refl _ _, fun _ => rfl⟩
            exact hK2
        case s22 =>
          intro x w' hRw hd K9 hK
          simp only [All, GT] at hd
          obtain ⟨e13, _⟩ := hd
          simp (config := {decide := true}) only [upd, GT, fillL, if_true, if_false] at hK ⊢
          simp only [e13] at hK ⊢
          cases kn with
          | true =>
            go_simp
            have hK2 := hK undef _ ⟨hRw, Below.refl _ _, fun h => by cases h⟩
            exact hK2
          | false =>
            go_simp
            have hK2 := hK _ _ ⟨hRw, Below.refl _ _, fun _ => rfl⟩
            exact hK2
        case s23 =>
          intro x w' hRw hd K9 hK
          simp only [All, GT] at hd
          obtain ⟨e21, e22, e13, _⟩ := hd
          simp (config := {decide := true}) only [upd, GT, fillL, if_true, if_false] at hK ⊢
          simp only [e13] at hK ⊢
          cases kn with
          | true =>
            go_simp
            have hK2 := hK undef _ ⟨hRw, Below.refl _ _, fun h => by cases h⟩
            exact hK2
          | false =>
            simp only [e21 rfl, e22 rfl] at hK ⊢
            go_simp
            have hK2 := hK _ _ ⟨hRw, Below.refl _ _, fun _ => rfl⟩
            exact hK2
        case s24 =>
          intro x w' hRw hd K9 hK
          simp only [All, GT] at hd
          obtain ⟨e23, e13, _⟩ := hd
          simp (config := {decide := true}) only [upd, GT, fillL, if_true, if_false] at hK ⊢
          simp only [e13] at hK ⊢
          cases kn with
          | true =>
            go_simp
            have hK2 := hK undef _ ⟨hRw, Below.refl _ _, fun h => by cases h⟩
            exact hK2
          | false =>
            simp only [e23 rfl] at hK ⊢
            go_simp
            have hK2 := hK _ _ ⟨hRw, Below.refl _ _, fun _ => rfl⟩
            exact hK2
        case s25 =>
          intro x w' hRw hd K9 hK
          simp only [All, GT] at hd
          obtain ⟨e24, e13, _⟩ := hd
          simp (config := {decide := true}) only [upd, GT, fillL, if_true, if_false] at hK ⊢
          obtain ⟨⟨z0, z1, z2, z3, z4⟩, ⟨t0, t1, t2, t3, t4⟩, ⟨x0, x1, x2, x3, x4, x5⟩, y0, y1, y2, y3, y4, y5⟩ := zz.out w' hRw
          simp only [e13] at hK ⊢
          cases kn with
          | true =>
            go_simp
            have hK2 := hK undef _ ⟨hRw, Below.refl _ _, fun h => by cases h⟩
            exact hK2
          | false =>
            simp only [e24 rfl] at hK ⊢
            go_simp
            have hK2 := hK _ _ ⟨hRw, Below.refl _ _, fun _ => rfl⟩
            exact hK2
        case s26 =>
          intro x w' hRw hd K9 hK
          simp only [All, GT] at hd
          obtain ⟨e19, e25, e13, _⟩ := hd
          simp (config := {decide := true}) only [upd, GT, fillL, if_true, if_false] at hK ⊢
          simp only [e13] at hK ⊢
          cases kn with
          | true =>
            go_simp
            have hK2 := hK undef _ ⟨hRw, Below.refl _ _, fun h => by cases h⟩
            exact hK2
          | false =>
            simp only [e19 rfl, e25 rfl] at hK ⊢
            go_simp
            refine (c8.out w' hRw).mono ?_
            rintro e' w9 ⟨rfl, hB9⟩
            have hK2 := hK _ _ ⟨bthen hRw hB9, hB9, fun _ => rfl⟩
            exact hK2
        case s27 =>
          intro x w' hRw hd K9 hK
          simp only [All, GT] at hd
          obtain ⟨e26, e13, _⟩ := hd
          simp (config := {decide := true}) only [upd, GT, fillL, if_true, if_false] at hK ⊢
          simp only [e13] at hK ⊢
          cases kn with
          | true =>
            go_simp
            have hK2 := hK undef _ ⟨hRw, Below.refl _ _, fun h => by cases h⟩
            exact hK2
          | false =>
            simp only [e26 rfl] at hK ⊢
            go_simp
            have hK2 := hK _ _ ⟨hRw, Below.refl _ _, fun _ => rfl⟩
            exact hK2
      · obtain rfl : k = m := by omega
        have hT : E = true := by
          rw [hal2.out, List.all_eq_true]; intro j hj; exact hP j (List.mem_range.1 hj)
        subst hT
        have hbw : Below w.heap.size w wr := bthen hb2.out hB
        replace hbw := Lib.hid hbw
        replace hB := Lib.hid hB
        replace hP := Lib.hid hP
        go_wp2
        go_ret
        exact ⟨rfl, hbw.out⟩
  · have hF := hne.out hmm
    subst hF
    have qm : ((m : Int) == (m' : Int)) = false := by rw [beq_eq_false_iff_ne]; omega
    have qm2 : ((m : Int) != (m' : Int)) = true := by rw [bne, qm]; rfl
    clear hall
    replace hmm := Lib.hid hmm
    clear c7
    go_wp2
    go_ret
    exact ⟨rfl, hb2.out⟩
end Go.Proofs.YthacnnmlephkhaaDoor

/- Two objects held against each other, by the document. No condition. -/
namespace Go.Proofs.YthacnnmlephkhaaDoor
open Go Go.RowKit Go.Wk
set_option maxHeartbeats 8000000 in
set_option maxRecDepth 100000 in
theorem same_step (N : Nat) (hN : N + 1 ≤ 1048576) (hs : SameC N) : SameC (N + 1) := by
  intro a b vs us w ha hb hbk hbk'
  obtain ⟨k, n, bb, l, d⟩ := a
  obtain ⟨k', n', bb', l', d'⟩ := b
  have zk : bb.length + bulkL l + bulkD d + 1 ≤ N + 1 := hbk
  have zk' : bb'.length + bulkL l' + bulkD d' + 1 ≤ 1048576 := hbk'
  have hsm : sameB (.mk k n bb l d) (.mk k' n' bb' l' d') = (k == k' && (
    if k = 1 ∨ k = 2 ∨ k = 3 ∨ k = 9 then n == n'
    else if k = 4 ∨ k = 5 then bb == bb'
    else if k = 6 then sameL l l'
    else if k = 7 ∨ k = 8 then (k == 7 || bb == bb') && sameD d d'
    else true)) := by simp only [sameB]
  rw [hsm]
  clear hsm
  by_cases h6 : k = 6 ∧ k' = 6
  · obtain ⟨rfl, rfl⟩ := h6
    have h := same_arr N (by omega) hs n n' bb bb' l l' d d' vs us w ha hb (by omega) (by omega)
    simpa using h
  by_cases h7 : k = 7 ∧ k' = 7
  · obtain ⟨rfl, rfl⟩ := h7
    have h := same_dict7 N (by omega) hs n n' bb bb' l l' d d' vs us w ha hb (by omega) (by omega)
    simpa using h
  by_cases h8 : k = 8 ∧ k' = 8
  · obtain ⟨rfl, rfl⟩ := h8
    have h := same_dict8 N (by omega) hs n n' bb bb' l l' d d' vs us w ha hb (by omega) (by omega)
    simpa using h
  cases ha with
  | mk _ _ _ _ _ A AL AD c cL cD gL oL gD oD vl vd h1 h2 h3 h4 hB5 h6_ h7_ h8_ h9 h10 h11 h12 h13 h14 h15 h16 h17 h18 =>
  cases hb with
  | mk _ _ _ _ _ A' AL' AD' c' cL' cD' gL' oL' gD' oD' vl' vd' i1 i2 i3 i4 iB5 i6 i7 i8 i9 i10 i11 i12 i13 i14 i15 i16 i17 i18 =>
  obtain ⟨W1, hW1⟩ : ∃ W, W = w.alloc (.cells #[.int .i64 k, .int .i64 n, .slice A bb.length c, .slice AL l.length cL, .slice AD d.length cD] 26) := ⟨_, rfl⟩
  obtain ⟨W2, hW2⟩ : ∃ W, W = W1.alloc (.cells #[.int .i64 k', .int .i64 n', .slice A' bb'.length c', .slice AL' l'.length cL', .slice AD' d'.length cD'] 26) := ⟨_, rfl⟩
  have hb2 : Below w.heap.size w W2 := by rw [hW2, hW1]; exact ((Below.refl _ _).alloc (Nat.le_refl _) _).alloc (by rw [World.size_alloc]; omega) _
  have ff := ten_cells hW1 hW2
  obtain ⟨⟨f0, f1, f2, f3, f4⟩, g0, g1, g2, g3, g4⟩ := ff
  have c7 := ref_Same A A' c c' bb bb' W2 (hB5.below hb2) (iB5.below hb2) (by omega) (by omega)
  have hbe : (bb == bb') = decide (bb = bb') := by by_cases h : bb = bb' <;> simp [h]
  rw [hbe]
  obtain ⟨sb, hsb⟩ : ∃ z, z = decide (bb = bb') := ⟨_, rfl⟩
  rw [← hsb] at c7 ⊢
  clear h1 h2 h3 h4 hB5 h6_ h7_ h8_ h9 h10 h11 h12 h13 h14 h15 h16 h17 h18 i1 i2 i3 i4 iB5 i6 i7 i8 i9 i10 i11 i12 i13 i14 i15 i16 i17 i18 hbk hbk' zk zk' hbe hs
  replace hsb := Lib.hid hsb
  replace hb2 := Lib.hid hb2
  by_cases hkk : k = k'
  · subst hkk
    have k6 : k ≠ 6 := fun e => h6 ⟨e, e⟩
    have k7 : k ≠ 7 := fun e => h7 ⟨e, e⟩
    have k8 : k ≠ 8 := fun e => h8 ⟨e, e⟩
    clear h6 h7 h8
    obtain ⟨R, hR⟩ : ∃ R, R = (k == k && (if k = 1 ∨ k = 2 ∨ k = 3 ∨ k = 9 then n == n' else if k = 4 ∨ k = 5 then sb else if k = 6 then sameL l l' else if k = 7 ∨ k = 8 then (k == 7 || sb) && sameD d d' else true)) := ⟨_, rfl⟩
    rw [← hR]
    rw [beq_self_eq_true, Bool.true_and] at hR
    by_cases k1 : k = 1
    · subst k1
      have hR1 : R = (n == n') := by rw [hR]; simp
      subst hR1
      clear hR
      go_enter Tryd.func8, Tryd.ntmps8
      go_upto_region 1 with (fail)
      rw [← hW1, ← hW2]
      clear hW1 hW2
      go_wp2
      go_ret
      exact ⟨rfl, hb2.out⟩
    by_cases k2 : k = 2
    · subst k2
      have hR1 : R = (n == n') := by rw [hR]; simp
      subst hR1
      clear hR
      go_enter Tryd.func8, Tryd.ntmps8
      go_upto_region 1 with (fail)
      rw [← hW1, ← hW2]
      clear hW1 hW2
      go_wp2
      go_ret
      exact ⟨rfl, hb2.out⟩
    by_cases k3 : k = 3
    · subst k3
      have hR1 : R = (n == n') := by rw [hR]; simp
      subst hR1
      clear hR
      go_enter Tryd.func8, Tryd.ntmps8
      go_upto_region 1 with (fail)
      rw [← hW1, ← hW2]
      clear hW1 hW2
      go_wp2
      go_ret
      exact ⟨rfl, hb2.out⟩
    by_cases k9 : k = 9
    · subst k9
      have hR1 : R = (n == n') := by rw [hR]; simp
      subst hR1
      clear hR
      go_enter Tryd.func8, Tryd.ntmps8
      go_upto_region 1 with (fail)
      rw [← hW1, ← hW2]
      clear hW1 hW2
      go_wp2
      go_ret
      exact ⟨rfl, hb2.out⟩
    by_cases k4 : k = 4
    · subst k4
      have hR1 : R = sb := by rw [hR]; simp
      subst hR1
      clear hR
      go_enter Tryd.func8, Tryd.ntmps8
      go_upto_region 1 with (fail)
      rw [← hW1, ← hW2]
      clear hW1 hW2
      go_wp2_with (go_at_call 7; (with_reducible refine c7.mono ?_); rintro e w3 ⟨rfl, hB3⟩; replace hB3 := Lib.hid hB3)
      go_ret
      exact ⟨rfl, bthen hb2.out hB3.out⟩
    by_cases k5 : k = 5
    · subst k5
      have hR1 : R = sb := by rw [hR]; simp
      subst hR1
      clear hR
      go_enter Tryd.func8, Tryd.ntmps8
      go_upto_region 1 with (fail)
      rw [← hW1, ← hW2]
      clear hW1 hW2
      go_wp2_with (go_at_call 7; (with_reducible refine c7.mono ?_); rintro e w3 ⟨rfl, hB3⟩; replace hB3 := Lib.hid hB3)
      go_ret
      exact ⟨rfl, bthen hb2.out hB3.out⟩
    have hR1 : R = true := by rw [hR]; simp [k1, k2, k3, k4, k5, k6, k7, k8, k9]
    subst hR1
    clear hR
    have t1 : (k == 1) = false := by simpa using k1
    have t2 : (k == 2) = false := by simpa using k2
    have t3 : (k == 3) = false := by simpa using k3
    have t4 : (k == 4) = false := by simpa using k4
    have t5 : (k == 5) = false := by simpa using k5
    have t6 : (k == 6) = false := by simpa using k6
    have t7 : (k == 7) = false := by simpa using k7
    have t8 : (k == 8) = false := by simpa using k8
    have t9 : (k == 9) = false := by simpa using k9
    clear k1 k2 k3 k4 k5 k6 k7 k8 k9 c7
    go_enter Tryd.func8, Tryd.ntmps8
    go_upto_region 1 with (fail)
    rw [← hW1, ← hW2]
    clear hW1 hW2
    go_wp2
    go_ret
    exact ⟨rfl, hb2.out⟩
  · have e1 : (k == k') = false := by simpa using hkk
    have e2 : (k != k') = true := by rw [bne, e1]; rfl
    rw [e1, Bool.false_and]
    clear h6 h7 h8 hkk c7
    go_enter Tryd.func8, Tryd.ntmps8
    go_upto_region 1 with (fail)
    rw [← hW1, ← hW2]
    clear hW1 hW2
    go_wp2
    go_ret
    exact ⟨rfl, hb2.out⟩
theorem same_all : ∀ N, N ≤ 1048576 → SameC N
  | 0, _ => fun a b vs us w _ _ h _ => by have := bulk_pos a; omega
  | N + 1, h => same_step N h (same_all N (by omega))
end Go.Proofs.YthacnnmlephkhaaDoor

/- Is there room: some answer, and nothing changes. No condition. -/
namespace Go.Proofs.YthacnnmlephkhaaDoor
open Go Go.RowKit Go.Wk
def RoomC (N : Nat) : Prop := ∀ (o : Ob) (vs : List Value) (w : World) (dep : Int), ObAt w o vs → o.bulk ≤ N → -1 ≤ dep → dep ≤ 100 → Calls Tryd.prog 5 #[.agg vs.toArray, .int .i64 dep, .int .i64 60] w fun e w' => ∃ b, e = .returned (.bool b) ∧ Below w.heap.size w w'
set_option maxHeartbeats 8000000 in
set_option maxRecDepth 100000 in
theorem room_step (N : Nat) (hN : N + 1 ≤ 1048576) (ih : RoomC N) : RoomC (N + 1) := by
  intro o vs w dep h hbk hd1 hd2
  cases h with
  | mk k n b l d A AL AD c cL cD gL oL gD oD vl vd h1 h2 h3 h4 h5 h6 h7 h8 h9 h10 h11 hAL hl hlv hAD hdo hdk hdv =>
  have zk : b.length + bulkL l + bulkD d + 1 ≤ N + 1 := hbk
  have zl := bulkL_len l
  have zd := bulkD_len d
  have zlk := fun i hi => bulkL_at l i hi
  have zdk := fun i hi => bulkD_at d i hi
  obtain ⟨m1, hm1⟩ : ∃ m, m = b.length := ⟨_, rfl⟩
  obtain ⟨m2, hm2⟩ : ∃ m, m = l.length := ⟨_, rfl⟩
  obtain ⟨m3, hm3⟩ : ∃ m, m = d.length := ⟨_, rfl⟩
  rw [← hm1] at zk ⊢
  rw [← hm2] at zl ⊢
  rw [← hm3] at zd ⊢
  have zb1 : m1 ≤ 1048576 := by omega
  have zl1 : m2 ≤ 1048576 := by omega
  have zd1 : m3 ≤ 1048576 := by omega
  obtain ⟨W1, hW1⟩ : ∃ W, W = w.alloc (.cells #[.int .i64 k, .int .i64 n, .slice A m1 c, .slice AL m2 cL, .slice AD m3 cD] 26) := ⟨_, rfl⟩
  have hb1 : Below w.heap.size w W1 := by rw [hW1]; exact (Below.refl _ _).alloc (Nat.le_refl _) _
  have f := five_cells hW1
  obtain ⟨f0, f1, f2, f3, f4⟩ := id f
  clear h1 h2 h3 h4 h5 h6 h7 h8 h9 h10 h11 hbk
  replace hm1 := Lib.hid hm1
  replace hm2 := Lib.hid hm2
  replace hm3 := Lib.hid hm3
  replace hAL := Lib.hid hAL
  replace hl := Lib.hid hl
  replace hlv := Lib.hid hlv
  replace hAD := Lib.hid hAD
  replace hdo := Lib.hid hdo
  replace hdk := Lib.hid hdk
  replace hdv := Lib.hid hdv
  replace zlk := Lib.hid zlk
  replace zdk := Lib.hid zdk
  replace ih := Lib.hid ih
  replace hb1 := Lib.hid hb1
  replace f := Lib.hid f
  obtain ⟨p1, q1⟩ : ∃ z, decide (dep < 0) = z := ⟨_, rfl⟩
  obtain ⟨p2, q2⟩ : ∃ z, decide ((3000 : Int) < (m1 : Int)) = z := ⟨_, rfl⟩
  obtain ⟨p3, q3⟩ : ∃ z, decide ((60 : Int) < (m2 : Int) + (m3 : Int)) = z := ⟨_, rfl⟩
  go_enter Tryd.func5, Tryd.ntmps5
  go_upto_region 1 with (fail)
  rw [← hW1]
  replace hW1 := Lib.hid hW1
  cases p1 with
  | true =>
    go_wp2
    go_ret
    exact ⟨_, rfl, hb1.out⟩
  | false =>
  have hd0 : 0 ≤ dep := by have := of_decide_eq_false q1; omega
  cases p2 with
  | true =>
    go_wp2
    go_ret
    exact ⟨_, rfl, hb1.out⟩
  | false =>
  cases p3 with
  | true =>
    go_wp2
    go_ret
    exact ⟨_, rfl, hb1.out⟩
  | false =>
  go_wp2
  clear q1 q2 q3
  go_loopw [7] (fun s7 wr => ∃ k : Nat, k ≤ m2 ∧ s7 = .int .i64 k ∧ Below W1.heap.size W1 wr) (fun s7 _ => m2 - (RowKit.intOf s7).toNat)
  case atStart => exact ⟨0, by omega, rfl, Below.refl _ _⟩
  case round =>
    obtain ⟨i, hi, rfl, hB⟩ := hrel
    obtain ⟨g0, g1, g2, g3, g4⟩ := five_kept f.out hB
    by_cases him : i < m2
    · have hil : i < l.length := by rw [← hm2.out]; exact him
      have hAe := hAL.out (by omega)
      subst hAe
      have hbw : Below w.heap.size w wr := bthen hb1.out hB
      have hob := (hl.out i hil).kept hbw
      have hzi := zlk.out i hil
      obtain ⟨us, hus⟩ : ∃ us, us = vl i := ⟨_, rfl⟩
      have hcv := hlv.out i hil
      rw [← hus] at hob hcv
      obtain ⟨en, E1, E2, E3, en1, ec1, en2, ec2, en3, ec3, hys⟩ := ob_five2 hob
      obtain ⟨kk, hkk⟩ : ∃ k, k = l[i].kind := ⟨_, rfl⟩
      rw [← hkk] at hys
      subst hys
      have five : ∀ j u, [Value.int .i64 kk, .int .i64 en, .slice E1 en1 ec1, .slice E2 en2 ec2, .slice E3 en3 ec3][j]? = some u → wr.cell? ⟨gL, oL + i * 5 + j, none⟩ = some u := fun j u hj => by
        have h0 := hcv j (by have := (List.getElem?_eq_some_iff.1 hj).1; simpa using this)
        rw [hj] at h0
        have h1 := (hbw.cell (cell_lt h0)).trans h0
        rw [show oL + (5 * i + j) = oL + i * 5 + j by omega] at h1
        exact h1
      have x0 : wr.cell? ⟨gL, oL + i * 5, none⟩ = some (.int .i64 kk) := five 0 _ rfl
      have x1 := five 1 _ rfl
      have x2 := five 2 _ rfl
      have x3 := five 3 _ rfl
      have x4 := five 4 _ rfl
      have cr := ih.out l[i] _ wr (dep - 1) hob (by omega) (by omega) (by omega)
      clear five hcv hob hus hkk
      replace hB := Lib.hid hB
      replace hbw := Lib.hid hbw
      have lB := hB.out.size
      go_wp2_with (go_at_call 5; (with_reducible refine cr.mono ?_); rintro e w2 ⟨bb, rfl, hB2⟩; replace hB2 := Lib.hid hB2; cases bb)
      · go_ret
        exact ⟨_, rfl, bthen hbw.out hB2.out⟩
      · go_roundw
        case rel => exact ⟨i + 1, by omega, by go_num, hB.out.trans (hB2.out.mono lB)⟩
        case measure => simp [RowKit.intOf]; omega
    · obtain rfl : i = m2 := by omega
      have bB := bthen hb1.out hB
      replace hB := Lib.hid hB
      replace bB := Lib.hid bB
      have lB := hB.out.size
      go_wp2
      go_loopw [8] (fun s8 wr => ∃ k : Nat, k ≤ m3 ∧ s8 = .int .i64 k ∧ Below W1.heap.size W1 wr) (fun s8 _ => m3 - (RowKit.intOf s8).toNat)
      case atStart => exact ⟨0, by omega, rfl, hB.out⟩
      case round =>
        obtain ⟨j, hj, rfl, hC⟩ := hrel
        obtain ⟨y0, y1, y2, y3, y4⟩ := five_kept f.out hC
        clear g0 g1 g2 g3 g4
        by_cases hjm : j < m3
        · have hjl : j < d.length := by rw [← hm3.out]; exact hjm
          have hAe := hAD.out (by omega)
          subst hAe
          have hcw : Below w.heap.size w wr := bthen hb1.out hC
          have hob := (hdo.out j hjl).kept hcw
          have hzj := zdk.out j hjl
          have hkk0 := (hdk.out j hjl).2
          have hcv := hdv.out j hjl
          obtain ⟨us, hus⟩ : ∃ us, us = vd j := ⟨_, rfl⟩
          rw [← hus] at hob hcv
          obtain ⟨en, E1, E2, E3, en1, ec1, en2, ec2, en3, ec3, hys⟩ := ob_five2 hob
          obtain ⟨kk, hkk⟩ : ∃ k, k = d[j].2.kind := ⟨_, rfl⟩
          rw [← hkk] at hys
          subst hys
          obtain ⟨K, hK⟩ : ∃ K, K = bytes d[j].1 := ⟨_, rfl⟩
          have zK : K.size ≤ 1048576 := by rw [hK, bytes_size]; omega
          have x0 : wr.cell? ⟨gD, oD + j * 6, none⟩ = some (.string K) := by
            have h1 := (hcw.cell (cell_lt hkk0)).trans hkk0
            rw [Nat.mul_comm] at h1
            rw [h1, hK]; rfl
          have five : ∀ q u, [Value.int .i64 kk, .int .i64 en, .slice E1 en1 ec1, .slice E2 en2 ec2, .slice E3 en3 ec3][q]? = some u → wr.cell? ⟨gD, oD + j * 6 + 1 + q, none⟩ = some u := fun q u hq => by
            have h0 := hcv q (by have := (List.getElem?_eq_some_iff.1 hq).1; simpa using this)
            rw [hq] at h0
            have h1 := (hcw.cell (cell_lt h0)).trans h0
            rw [show oD + (6 * j + 1 + q) = oD + j * 6 + 1 + q by omega] at h1
            exact h1
          have x1 : wr.cell? ⟨gD, oD + j * 6 + 1, none⟩ = some (.int .i64 kk) := five 0 _ rfl
          have x2 : wr.cell? ⟨gD, oD + j * 6 + 2, none⟩ = some (.int .i64 en) := five 1 _ rfl
          have x3 : wr.cell? ⟨gD, oD + j * 6 + 3, none⟩ = some (.slice E1 en1 ec1) := five 2 _ rfl
          have x4 : wr.cell? ⟨gD, oD + j * 6 + 4, none⟩ = some (.slice E2 en2 ec2) := five 3 _ rfl
          have x5 : wr.cell? ⟨gD, oD + j * 6 + 5, none⟩ = some (.slice E3 en3 ec3) := five 4 _ rfl
          have cr := ih.out d[j].2 _ wr (dep - 1) hob (by omega) (by omega) (by omega)
          clear five hcv hob hus hkk hkk0
          replace hK := Lib.hid hK
          replace hC := Lib.hid hC
          replace hcw := Lib.hid hcw
          have lC := hC.out.size
          obtain ⟨p4, q4⟩ : ∃ z, decide ((300 : Int) < (K.size : Int)) = z := ⟨_, rfl⟩
          cases p4 with
          | true =>
            go_wp2
            go_ret
            first | exact ⟨_, rfl, hcw.out⟩ | exact ⟨.inl rfl, hcw.out⟩ | exact .inl ⟨rfl, hcw.out⟩
          | false =>
            go_wp2_with (go_at_call 5; (with_reducible refine cr.mono ?_); rintro e w2 ⟨bb, rfl, hB2⟩; replace hB2 := Lib.hid hB2; cases bb)
            · go_ret
              exact ⟨_, rfl, bthen hcw.out hB2.out⟩
            · go_roundw
              case rel => exact ⟨j + 1, by omega, by go_num, hC.out.trans (hB2.out.mono lC)⟩
              case measure => simp [RowKit.intOf]; omega
        · obtain rfl : j = m3 := by omega
          have bC := bthen hb1.out hC
          replace hC := Lib.hid hC
          replace bC := Lib.hid bC
          go_wp2
          go_ret
          exact ⟨_, rfl, bC.out⟩
theorem room_all : ∀ N, N ≤ 1048576 → RoomC N
  | 0, _ => fun o vs w dep _ h _ _ => by have := bulk_pos o; omega
  | N + 1, h => room_step N h (room_all N (by omega))
end Go.Proofs.YthacnnmlephkhaaDoor

/- The law of PrintUnlike. No condition. -/
namespace Go.Proofs.YthacnnmlephkhaaDoor
open Go Go.RowKit Go.Wk
/-- what is printed -/
def prtS (o : Ob) : List UInt8 := if o.kind ≠ 8 ∧ o.may 28 = true then o.show else []
def prtZ (o : Ob) : Int := if o.kind ≠ 8 ∧ o.may 28 = true then 0 else 1
theorem prtS_len (o : Ob) (h : Fits o) (hb : o.bulk ≤ 1048576) : (prtS o).length ≤ 41943040 := by
  have := show_len o h
  unfold prtS
  split
  · omega
  · simp
def VR2 (w : World) (o : Ob) (e : Ending) (w' : World) : Prop := ∃ A c, e = .returned (.tuple #[.slice A (prtS o).length c, .int .i64 (prtZ o)]) ∧ Byt w' A (prtS o) ∧ Below w.heap.size w w'
theorem VR.two {w w' : World} {o : Ob} {e : Ending} (h : VR w o e w') : VR2 w o e w' := by
  obtain ⟨hB, A, c, n, z, rfl, hA, ⟨h1, h2, rfl, h3, rfl⟩ | ⟨h1, rfl, rfl, rfl⟩⟩ := h
  · exact ⟨A, c, by simp [prtS, prtZ, h1, h2], by simpa [prtS, h1, h2] using h3, hB⟩
  · have e1 : prtS o = [] := by unfold prtS; rw [if_neg h1]
    have e2 : prtZ o = 1 := by unfold prtZ; rw [if_neg h1]
    exact ⟨none, c, by rw [e1, e2]; rfl, by rw [e1]; exact ⟨by simp, fun h => by simp at h⟩, hB⟩
theorem prt_Value2 (o : Ob) (vs : List Value) (w : World) (h : ObAt w o vs) (hbk : o.bulk ≤ 1048576) (ht : Tab w) : Calls Tryd.prog 6 #[.agg vs.toArray] w (VR2 w o) := (prt_Value o vs w h hbk ht).mono fun _ _ h => h.two
/-- both may be: the same bytes just if the same -/
theorem unlike_plain (a b : Ob) : (prtZ a != 0) = true ∨ (prtZ b != 0) = true ∨ decide (prtS a = prtS b) = sameB a b := by
  by_cases h1 : a.kind ≠ 8 ∧ a.may 28 = true
  · by_cases h2 : b.kind ≠ 8 ∧ b.may 28 = true
    · right; right
      unfold prtS
      rw [if_pos h1, if_pos h2]
      exact show_inj h1.2 h2.2 (by have := h1.1; simpa [Ob.kind] using this) (by have := h2.1; simpa [Ob.kind] using this)
    · right; left; unfold prtZ; rw [if_neg h2]; rfl
  · left; unfold prtZ; rw [if_neg h1]; rfl
theorem prtZ_cases (o : Ob) : prtZ o = 0 ∨ prtZ o = 1 := by unfold prtZ; split <;> simp
/-- what the operations yield -/
def GU (z z' : Int) (A1 A2 : Option Addr) (n n' c1 c2 : Nat) (ag ag' : Array Value) (fz fz' f dS sb : Bool) : Nat → Value → World → Prop := fun j v w => match j with
  | 0 => v = .int .i64 z
  | 1 | 2 => v = .bool fz
  | 3 => fz = false → v = .int .i64 z'
  | 4 => fz = false → v = .bool fz'
  | 5 | 6 => v = .bool f
  | 7 => f = false → v = .slice A1 n c1
  | 8 => f = false → v = .slice A2 n' c2
  | 9 => f = false → v = .bool dS
  | 10 => f = false → v = .agg ag
  | 11 => f = false → v = .agg ag'
  | 12 => f = false → v = .bool sb
  | _ => f = false → v = .bool (dS == sb)
theorem GU_mono {z z' : Int} {A1 A2 : Option Addr} {n n' c1 c2 : Nat} {ag ag' : Array Value} {fz fz' f dS sb : Bool} (j : Nat) (v : Value) (w w' : World) (hG : GU z z' A1 A2 n n' c1 c2 ag ag' fz fz' f dS sb j v w) (hk : Below w.heap.size w w') : GU z z' A1 A2 n n' c1 c2 ag ag' fz fz' f dS sb j v w' := by
  unfold GU at hG ⊢
  split at hG <;> exact hG
set_option maxHeartbeats 8000000 in
set_option maxRecDepth 100000 in
theorem unlike_law (w : World) (hT : Tab w) (haw : ∀ W, Below w.heap.size w W → Calls Tryd.prog 4 #[] W fun e w' => e = .returned (.bool true) ∧ Below W.heap.size W w') (o o' : Ob) (vs us : List Value) (hob : ObAt w o vs) (hob' : ObAt w o' us) (hbk : o.bulk ≤ 1048576) (hbk' : o'.bulk ≤ 1048576) :
    Calls Tryd.prog 3 #[.agg vs.toArray, .agg us.toArray] w fun e w' => e = .returned (.bool true) ∧ Below w.heap.size w w' := by
  obtain ⟨en, E1, E2, E3, en1, ec1, en2, ec2, en3, ec3, hys⟩ := ob_five2 hob
  obtain ⟨en', E1', E2', E3', en1', ec1', en2', ec2', en3', ec3', hys'⟩ := ob_five2 hob'
  obtain ⟨k, hk⟩ : ∃ k, k = o.kind := ⟨_, rfl⟩
  obtain ⟨k', hk'⟩ : ∃ k, k = o'.kind := ⟨_, rfl⟩
  rw [← hk] at hys
  rw [← hk'] at hys'
  subst hys hys'
  obtain ⟨W1, hW1⟩ : ∃ W, W = w.alloc (.cells #[.int .i64 k, .int .i64 en, .slice E1 en1 ec1, .slice E2 en2 ec2, .slice E3 en3 ec3] 26) := ⟨_, rfl⟩
  obtain ⟨W2, hW2⟩ : ∃ W, W = W1.alloc (.cells #[.int .i64 k', .int .i64 en', .slice E1' en1' ec1', .slice E2' en2' ec2', .slice E3' en3' ec3'] 26) := ⟨_, rfl⟩
  have hb2 : Below w.heap.size w W2 := by rw [hW2, hW1]; exact ((Below.refl _ _).alloc (Nat.le_refl _) _).alloc (by rw [World.size_alloc]; omega) _
  have ff := ten_cells hW1 hW2
  have c4 := haw W2 hb2
  have c5 := fun W (hW : Below W2.heap.size W2 W) => room_all 1048576 (Nat.le_refl _) o _ W 8 (hob.kept (bthen hb2 hW)) hbk (by omega) (by omega)
  have d5 := fun W (hW : Below W2.heap.size W2 W) => room_all 1048576 (Nat.le_refl _) o' _ W 8 (hob'.kept (bthen hb2 hW)) hbk' (by omega) (by omega)
  have c6 := fun W (hW : Below W2.heap.size W2 W) => prt_Value2 o _ W (hob.kept (bthen hb2 hW)) hbk (hT.below (bthen hb2 hW))
  have d6 := fun W (hW : Below W2.heap.size W2 W) => prt_Value2 o' _ W (hob'.kept (bthen hb2 hW)) hbk' (hT.below (bthen hb2 hW))
  have c8 := fun W (hW : Below W2.heap.size W2 W) => same_all 1048576 (Nat.le_refl _) o o' _ _ W (hob.kept (bthen hb2 hW)) (hob'.kept (bthen hb2 hW)) hbk hbk'
  have hpl := unlike_plain o o'
  have z1 := prtZ_cases o
  have z2 := prtZ_cases o'
  unfold VR2 at c6 d6
  obtain ⟨S, hS⟩ : ∃ S, S = prtS o := ⟨_, rfl⟩
  obtain ⟨z, hz⟩ : ∃ z, z = prtZ o := ⟨_, rfl⟩
  obtain ⟨S', hS'⟩ : ∃ S, S = prtS o' := ⟨_, rfl⟩
  obtain ⟨z', hz'⟩ : ∃ z, z = prtZ o' := ⟨_, rfl⟩
  obtain ⟨sb, hsb⟩ : ∃ z, z = sameB o o' := ⟨_, rfl⟩
  have zS : S.length ≤ 41943040 := by rw [hS]; exact prtS_len o hob.fits hbk
  have zS' : S'.length ≤ 41943040 := by rw [hS']; exact prtS_len o' hob'.fits hbk'
  rw [← hS, ← hz] at c6
  rw [← hS', ← hz'] at d6
  rw [← hsb] at c8
  rw [← hz, ← hz', ← hS, ← hS', ← hsb] at hpl
  rw [← hz] at z1
  rw [← hz'] at z2
  obtain ⟨dS, hdS⟩ : ∃ z, z = decide (S = S') := ⟨_, rfl⟩
  rw [← hdS] at hpl
  clear hob hob' hT haw hk hk' hS hz hS' hz' hsb hbk hbk'
  replace hb2 := Lib.hid hb2
  replace ff := Lib.hid ff
  replace c5 := Lib.hid c5
  replace d5 := Lib.hid d5
  replace c6 := Lib.hid c6
  replace d6 := Lib.hid d6
  replace c8 := Lib.hid c8
  replace hpl := Lib.hid hpl
  replace hdS := Lib.hid hdS
  go_enter Tryd.func3, Tryd.ntmps3
  go_upto_region 1 with (fail)
  rw [← hW1, ← hW2]
  clear hW1 hW2
  go_wp2_with (first
    | (go_at_call 4; (with_reducible refine c4.mono ?_); rintro e w2 ⟨rfl, hB2⟩; obtain ⟨p0, p1, p2, p3, p4⟩ := five_kept ff.out.1 hB2; have c5' := c5.out w2 hB2; replace hB2 := Lib.hid hB2)
    | (go_at_call 5; (with_reducible refine c5'.mono ?_); rintro e w3 ⟨bb, rfl, hB3⟩; have hD3 := bthen hB2.out hB3; obtain ⟨q0, q1, q2, q3, q4⟩ := five_kept ff.out.1 hD3; obtain ⟨r0, r1, r2, r3, r4⟩ := five_kept ff.out.2 hD3; have d5' := d5.out w3 hD3; replace hD3 := Lib.hid hD3; clear hB3 c5'; cases bb)
    | (go_at_call 5; (with_reducible refine d5'.mono ?_); rintro e w4 ⟨bb, rfl, hB4⟩; have hD4 := bthen hD3.out hB4; obtain ⟨s0, s1, s2, s3, s4⟩ := five_kept ff.out.1 hD4; have c6' := c6.out w4 hD4; replace hD4 := Lib.hid hD4; clear hB4 d5'; cases bb)
    | (go_at_call 6; (with_reducible refine c6'.mono ?_); rintro e w5 ⟨A1, c1, rfl, hb5, hB5⟩; have hD5 := bthen hD4.out hB5; obtain ⟨t0, t1, t2, t3, t4⟩ := five_kept ff.out.2 hD5; have d6' := d6.out w5 hD5; replace hD5 := Lib.hid hD5; replace hb5 := Lib.hid hb5; clear hB5 c6')
    | (go_at_call 6; (with_reducible refine d6'.mono ?_); rintro e w6 ⟨A2, c2, rfl, hb6, hB6⟩; have hD6 := bthen hD5.out hB6; have hb56 := hb5.out.below hB6; replace hD6 := Lib.hid hD6; replace hb6 := Lib.hid hb6; replace hb56 := Lib.hid hb56; clear hB6 d6'))
  · go_ret
    exact ⟨rfl, bthen hb2.out hD3.out⟩
  · go_ret
    exact ⟨rfl, bthen hb2.out hD4.out⟩
  obtain ⟨fz, hfz⟩ : ∃ y, (z != 0) = y := ⟨_, rfl⟩
  obtain ⟨fz', hfz'⟩ : ∃ y, (z' != 0) = y := ⟨_, rfl⟩
  obtain ⟨f, hf⟩ : ∃ y, y = (fz || fz') := ⟨_, rfl⟩
  have hfin : f = false → (dS == sb) = true := fun h => by
    rcases hpl.out with h1 | h1 | h1
    · rw [hfz] at h1; rw [hf, h1] at h; simp at h
    · rw [hfz'] at h1; rw [hf, h1] at h; simp at h
    · rw [h1]; simp
  clear z1 z2
  replace hf := Lib.hid hf
  replace hfin := Lib.hid hfin
  refine wp_lin_tail (by kernel_rfl) [none, none, none, none, none, none, none, none, none, none, none, none, none, none, none, none, none, none, none, none, none, none, none, none, none, none, none, none, none, some 0, some 1, some 2, some 3, some 4, some 5, some 6, some 7, some 8, some 9, some 10, some 11, some 12, some 13, none] (fun w' => Below w6.heap.size w6 w') (fun w' w'' => Below w'.heap.size w' w'') (GU z z' A1 A2 S.length S'.length c1 c2 #[.int .i64 k, .int .i64 en, .slice E1 en1 ec1, .slice E2 en2 ec2, .slice E3 en3 ec3] #[.int .i64 k', .int .i64 en', .slice E1' en1' ec1', .slice E2' en2' ec2', .slice E3' en3' ec3'] fz fz' f dS sb) (by rfl) (by kernel_rfl) 14 _ rfl (by decide) (by kernel_rfl) [1, 2, 6, 4, 5, 6, 14, 9, 9, 13, 12, 12, 13, 14, 0] (by kernel_rfl) ?hR ?mono (.cons 13 (step_of [9, 12, 6] rfl (by kernel_rfl) ?s13) (.cons 12 (step_of [10, 11, 9, 6] rfl (by kernel_rfl) ?s12) (.cons 11 (step_of [6] rfl (by kernel_rfl) ?s11) (.cons 10 (step_of [6] rfl (by kernel_rfl) ?s10) (.cons 9 (step_of [7, 8, 6] rfl (by kernel_rfl) ?s9) (.cons 8 (step_of [6] rfl (by kernel_rfl) ?s8) (.cons 7 (step_of [6] rfl (by kernel_rfl) ?s7) (.cons 6 (step_of [5, 2] rfl (by kernel_rfl) ?s6) (.cons 5 (step_of [2, 4] rfl (by kernel_rfl) ?s5) (.cons 4 (step_of [3, 2] rfl (by kernel_rfl) ?s4) (.cons 3 (step_of [2] rfl (by kernel_rfl) ?s3) (.cons 2 (step_of [1] rfl (by kernel_rfl) ?s2) (.cons 1 (step_of [0] rfl (by kernel_rfl) ?s1) (.cons 0 (step_of [] rfl (by kernel_rfl) ?s0) (.nil))))))))))))))) ?done
  case hR => exact (Below.refl _ _).drew
  case mono => exact GU_mono
  case done =>
    intro x w7 hR2 hG fr hfr
    have e6 := hG 6 (by omega)
    have e13 := hG 13 (by omega)
    simp only [GU] at e6 e13
    clear hG
    simp only [fillL] at hfr
    rw [e6] at hfr
    replace hR2 := Lib.hid hR2
    cases f with
    | true =>
      subst hfr
      clear e13
      go_wp2
      go_ret
      exact ⟨rfl, bthen hb2.out (bthen hD6.out hR2.out)⟩
    | false =>
      rw [e13 rfl, hfin.out rfl] at hfr
      subst hfr
      clear e13
      go_wp2
      go_ret
      exact ⟨rfl, bthen hb2.out (bthen hD6.out hR2.out)⟩
  case s0 =>
    intro x w' hRw hd K9 hK
    simp only [All, GU] at hd
    obtain ⟨_⟩ := hd
    simp (config := {decide := true}) only [upd, GU, fillL, if_true, if_false] at hK ⊢
    go_simp
    try simp only [hfz, hfz']
    have hK2 := hK _ _ ⟨hRw, Below.refl _ _, rfl⟩
    exact hK2
  case s1 =>
    intro x w' hRw hd K9 hK
    simp only [All, GU] at hd
    obtain ⟨e0, _⟩ := hd
    simp (config := {decide := true}) only [upd, GU, fillL, if_true, if_false] at hK ⊢
    simp only [e0] at hK ⊢
    go_simp
    try simp only [hfz, hfz']
    have hK2 := hK _ _ ⟨hRw, Below.refl _ _, rfl⟩
    exact hK2
  case s2 =>
    intro x w' hRw hd K9 hK
    simp only [All, GU] at hd
    obtain ⟨e1, _⟩ := hd
    simp (config := {decide := true}) only [upd, GU, fillL, if_true, if_false] at hK ⊢
    simp only [e1] at hK ⊢
    go_simp
    try simp only [hfz, hfz']
    have hK2 := hK _ _ ⟨hRw, Below.refl _ _, rfl⟩
    exact hK2
  case s3 =>
    intro x w' hRw hd K9 hK
    simp only [All, GU] at hd
    obtain ⟨e2, _⟩ := hd
    simp (config := {decide := true}) only [upd, GU, fillL, if_true, if_false] at hK ⊢
    simp only [e2] at hK ⊢
    cases fz with
    | true =>
      go_simp
      have hK2 := hK undef _ ⟨hRw, Below.refl _ _, fun h => by cases h⟩
      exact hK2
    | false =>
      go_simp
      try simp only [hfz, hfz']
      have hK2 := hK _ _ ⟨hRw, Below.refl _ _, fun _ => rfl⟩
      exact hK2
  case s4 =>
    intro x w' hRw hd K9 hK
    simp only [All, GU] at hd
    obtain ⟨e3, e2, _⟩ := hd
    simp (config := {decide := true}) only [upd, GU, fillL, if_true, if_false] at hK ⊢
    simp only [e2] at hK ⊢
    cases fz with
    | true =>
      go_simp
      have hK2 := hK undef _ ⟨hRw, Below.refl _ _, fun h => by cases h⟩
      exact hK2
    | false =>
      simp only [e3 rfl] at hK ⊢
      go_simp
      try simp only [hfz, hfz']
      have hK2 := hK _ _ ⟨hRw, Below.refl _ _, fun _ => rfl⟩
      exact hK2
  case s5 =>
    intro x w' hRw hd K9 hK
    simp only [All, GU] at hd
    obtain ⟨e2, e4, _⟩ := hd
    simp (config := {decide := true}) only [upd, GU, fillL, if_true, if_false] at hK ⊢
    have hq := hf.out
    simp only [e2] at hK ⊢
    cases fz with
    | true =>
      subst hq
      go_simp
      try simp only [hfz, hfz']
      have hK2 := hK _ _ ⟨hRw, Below.refl _ _, rfl⟩
      exact hK2
    | false =>
      simp only [e4 rfl] at hK ⊢
      subst hq
      go_simp
      try simp only [hfz, hfz']
      have hK2 := hK _ _ ⟨hRw, Below.refl _ _, rfl⟩
      exact hK2
  case s6 =>
    intro x w' hRw hd K9 hK
    simp only [All, GU] at hd
    obtain ⟨e5, e2, _⟩ := hd
    simp (config := {decide := true}) only [upd, GU, fillL, if_true, if_false] at hK ⊢
    simp only [e5, e2] at hK ⊢
    go_simp
    try simp only [hfz, hfz']
    have hK2 := hK _ _ ⟨hRw, Below.refl _ _, rfl⟩
    exact hK2
  case s7 =>
    intro x w' hRw hd K9 hK
    simp only [All, GU] at hd
    obtain ⟨e6, _⟩ := hd
    simp (config := {decide := true}) only [upd, GU, fillL, if_true, if_false] at hK ⊢
    simp only [e6] at hK ⊢
    cases f with
    | true =>
      go_simp
      have hK2 := hK undef _ ⟨hRw, Below.refl _ _, fun h => by cases h⟩
      exact hK2
    | false =>
      go_simp
      try simp only [hfz, hfz']
      have hK2 := hK _ _ ⟨hRw, Below.refl _ _, fun _ => rfl⟩
      exact hK2
  case s8 =>
    intro x w' hRw hd K9 hK
    simp only [All, GU] at hd
    obtain ⟨e6, _⟩ := hd
    simp (config := {decide := true}) only [upd, GU, fillL, if_true, if_false] at hK ⊢
    simp only [e6] at hK ⊢
    cases f with
    | true =>
      go_simp
      have hK2 := hK undef _ ⟨hRw, Below.refl _ _, fun h => by cases h⟩
      exact hK2
    | false =>
      go_simp
      try simp only [hfz, hfz']
      have hK2 := hK _ _ ⟨hRw, Below.refl _ _, fun _ => rfl⟩
      exact hK2
  case s9 =>
    intro x w' hRw hd K9 hK
    simp only [All, GU] at hd
    obtain ⟨e7, e8, e6, _⟩ := hd
    simp (config := {decide := true}) only [upd, GU, fillL, if_true, if_false] at hK ⊢
    simp only [e6] at hK ⊢
    cases f with
    | true =>
      go_simp
      have hK2 := hK undef _ ⟨hRw, Below.refl _ _, fun h => by cases h⟩
      exact hK2
    | false =>
      simp only [e7 rfl, e8 rfl] at hK ⊢
      go_simp
      refine (ref_Same A1 A2 c1 c2 S S' w' (hb56.out.below hRw) (hb6.out.below hRw) (by omega) (by omega)).mono ?_
      rintro e' w9 ⟨rfl, hB9⟩
      rw [← hdS.out]
      have hK2 := hK _ _ ⟨bthen hRw hB9, hB9, fun _ => rfl⟩
      exact hK2
  case s10 =>
    intro x w' hRw hd K9 hK
    simp only [All, GU] at hd
    obtain ⟨e6, _⟩ := hd
    simp (config := {decide := true}) only [upd, GU, fillL, if_true, if_false] at hK ⊢
    obtain ⟨x0, x1, x2, x3, x4⟩ := five_kept ff.out.1 (bthen hD6.out hRw)
    simp only [e6] at hK ⊢
    cases f with
    | true =>
      go_simp
      have hK2 := hK undef _ ⟨hRw, Below.refl _ _, fun h => by cases h⟩
      exact hK2
    | false =>
      go_simp
      try simp only [hfz, hfz']
      have hK2 := hK _ _ ⟨hRw, Below.refl _ _, fun _ => rfl⟩
      exact hK2
  case s11 =>
    intro x w' hRw hd K9 hK
    simp only [All, GU] at hd
    obtain ⟨e6, _⟩ := hd
    simp (config := {decide := true}) only [upd, GU, fillL, if_true, if_false] at hK ⊢
    obtain ⟨x0, x1, x2, x3, x4⟩ := five_kept ff.out.2 (bthen hD6.out hRw)
    simp only [e6] at hK ⊢
    cases f with
    | true =>
      go_simp
      have hK2 := hK undef _ ⟨hRw, Below.refl _ _, fun h => by cases h⟩
      exact hK2
    | false =>
      go_simp
      try simp only [hfz, hfz']
      have hK2 := hK _ _ ⟨hRw, Below.refl _ _, fun _ => rfl⟩
      exact hK2
  case s12 =>
    intro x w' hRw hd K9 hK
    simp only [All, GU] at hd
    obtain ⟨e10, e11, e9, e6, _⟩ := hd
    simp (config := {decide := true}) only [upd, GU, fillL, if_true, if_false] at hK ⊢
    simp only [e6] at hK ⊢
    cases f with
    | true =>
      go_simp
      have hK2 := hK undef _ ⟨hRw, Below.refl _ _, fun h => by cases h⟩
      exact hK2
    | false =>
      simp only [e10 rfl, e11 rfl, e9 rfl] at hK ⊢
      go_simp
      refine (c8.out w' (bthen hD6.out hRw)).mono ?_
      rintro e' w9 ⟨rfl, hB9⟩
      have hK2 := hK _ _ ⟨bthen hRw hB9, hB9, fun _ => rfl⟩
      exact hK2
  case s13 =>
    intro x w' hRw hd K9 hK
    simp only [All, GU] at hd
    obtain ⟨e9, e12, e6, _⟩ := hd
    simp (config := {decide := true}) only [upd, GU, fillL, if_true, if_false] at hK ⊢
    simp only [e6] at hK ⊢
    cases f with
    | true =>
      go_simp
      have hK2 := hK undef _ ⟨hRw, Below.refl _ _, fun h => by cases h⟩
      exact hK2
    | false =>
      simp only [e9 rfl, e12 rfl] at hK ⊢
      go_simp
      try simp only [hfz, hfz']
      have hK2 := hK _ _ ⟨hRw, Below.refl _ _, fun _ => rfl⟩
      exact hK2
end Go.Proofs.YthacnnmlephkhaaDoor

/- The arguments of PrintUnlike opened. No condition. -/
namespace Go.Proofs.YthacnnmlephkhaaDoor
open Go Go.RowKit Go.Wk Go.WideShapes
theorem laid_tail {P : Program} {w : World} {x : String × DataW Unit} {l : List (String × DataW Unit)} (h : laidMet P (x :: l) w) : laidMet P l w := by
  obtain ⟨ps, ⟨g, t, cs, fuel, p, q, _, _, _, _, hq, hp⟩, hnd, hc⟩ := h
  subst hp
  exact ⟨q, hq, (List.nodup_append.1 hnd).2.1, fun b off h => hc b off (List.mem_append_right _ h)⟩
theorem tab_of {W : World} {a b : String × DataW Unit} {rest : List (String × DataW Unit)} (h : laidMet Tryd.prog (a :: b :: ("internal/strconv.uint64pow10", Rows.laid_internal_strconv_uint64pow10) :: rest) W) : Tab W := by
  have h3 := laid_tail (laid_tail h)
  have e : (Rows.laid_internal_strconv_uint64pow10 : DataW Unit) = Lib.tabData .u64 Lib.pow10Tab := by kernel_rfl
  rw [e] at h3
  exact Lib.tabIs_of_head (g := 0) (t := 105) (e := 62) (n := 20) (by kernel_rfl) (by kernel_rfl) Tryd.underlying105 Tryd.underlying62 (by kernel_rfl) (by kernel_rfl) h3
theorem obty : ObTy Tryd.prog 26 36 22 23 24 3 2 9 5 where
  o := ⟨_, Tryd.underlying26, rfl⟩
  e := ⟨_, Tryd.underlying36, rfl⟩
  b := Tryd.underlying22
  u := Tryd.underlying5
  l := Tryd.underlying23
  d := Tryd.underlying24
  i := Tryd.underlying3
  n := Tryd.underlying2
  s := Tryd.underlying9
  co := by kernel_rfl
  ce := by kernel_rfl
  cb := by kernel_rfl
  cl := by kernel_rfl
  cd := by kernel_rfl
  ci := by kernel_rfl
  cn := by kernel_rfl
  cs := by kernel_rfl
  cu := by kernel_rfl
theorem bulk_law {H : Type} : BulkLaw (H := H) Rows.uptoBulk Rows.uptoBulkAll where
  pos d := by
    cases d with
    | lit l => cases l <;> simp [Rows.uptoBulk]
    | nil => simp [Rows.uptoBulk]
    | ptr d => simp [Rows.uptoBulk]
    | slice elems spare => simp [Rows.uptoBulk]
    | agg parts => simp [Rows.uptoBulk]
    | iface t d => simp [Rows.uptoBulk]
    | map entries => simp [Rows.uptoBulk]
    | held h => simp [Rows.uptoBulk]
  str b := by simp [Rows.uptoBulk]
  slice e s := by simp [Rows.uptoBulk]
  agg p := by simp [Rows.uptoBulk]
  nil := by simp [Rows.uptoBulkAll]
  cons d r := by simp [Rows.uptoBulkAll]
set_option maxRecDepth 100000 in
theorem open_ob {H : Type} {enc : TypeId × Value → H} {W : World} {base : Nat} {v : Value} {d : DataW H} {p : List MemPlace} (hv : Value.okWide Tryd.prog W .any base 26 v) (h : DataW.Trod enc Tryd.prog W 0 (fun _ => true) true 26 v d p) :
    ∃ o vs, v = .agg (List.toArray vs) ∧ ObAt W o vs ∧ o.bulk ≤ Rows.uptoBulk d := by
  obtain ⟨cs, rfl, _⟩ := okWide_struct Tryd.underlying26 hv
  obtain ⟨fuel, hf⟩ := h
  obtain ⟨o, ho, hb⟩ := open_obj bulk_law obty fuel _ _ hf
  exact ⟨o, _, by show Value.agg cs = _; congr 1, ho, hb⟩
set_option maxRecDepth 100000 in
theorem open_b {H : Type} {enc : TypeId × Value → H} {W : World} {base : Nat} {v : Value} {d : DataW H} {p : List MemPlace} (hv : Value.okWide Tryd.prog W .any base 22 v) (h : DataW.Trod enc Tryd.prog W 0 (fun _ => true) true 22 v d p) :
    ∃ A c bs, v = .slice A (List.length bs) c ∧ Byt W A bs ∧ (A = none → c = 0) ∧ bs.length ≤ Rows.uptoBulk d := by
  obtain ⟨a0, len0, cap0, rfl⟩ := okWide_slice Tryd.underlying22 hv
  obtain ⟨fuel, hf⟩ := h
  obtain ⟨A, c, bs, hcs, hB, hA, hle⟩ := Wk.open_byt Tryd.underlying22 Tryd.underlying5 (by kernel_rfl) hf
  simp [Value.cells] at hcs
  obtain ⟨rfl, rfl, rfl⟩ := hcs
  exact ⟨a0, cap0, bs, rfl, hB, hA, byt_bulk bulk_law Tryd.underlying22 hf⟩
set_option maxRecDepth 100000 in
theorem small_two {H : Type} {d e : DataW H} (h : Rows.uptoSmall H [d, e] = true) : Rows.uptoBulk d ≤ 1048576 ∧ Rows.uptoBulk e ≤ 1048576 := by
  have h : Rows.uptoBulkAll [d, e] ≤ 1048576 := of_decide_eq_true h
  simp only [Rows.uptoBulkAll] at h
  omega
set_option maxRecDepth 100000 in
theorem small_one {H : Type} {d : DataW H} (h : Rows.uptoSmall H [d] = true) : Rows.uptoBulk d ≤ 1048576 := by
  have h : Rows.uptoBulkAll [d] ≤ 1048576 := of_decide_eq_true h
  simp only [Rows.uptoBulkAll] at h
  omega
end Go.Proofs.YthacnnmlephkhaaDoor

/- Walks and laws, joined: part D. No condition. -/
import Derived.Test.YthacnnmlephkhaaGreatDoorPrJC
import Derived.Shelf.Small.Strs
import Derived.Test.YthacnnmlephkhaaGreatDoorPrJB
import Derived.Lib.SlBytesConst
import Derived.Test.YthacnnmlephkhaaGreatDoorPrJA
import Derived.Lib.ItoaLen
set_option linter.unusedSimpArgs false
set_option linter.unusedVariables false
/- A key's value, by the document. No condition. -/
namespace Go.Proofs.YthacnnmlephkhaaGreatDoor
open Go Go.RowKit Go.Wk
set_option maxHeartbeats 8000000 in
set_option maxRecDepth 100000 in
theorem ref_GetB (o : Ob) (vs : List Value) (w : World) (h : ObAt w o vs) (hbk : o.bulk ≤ 100000000) (K : ByteArray) : Calls Tryz.prog 20 #[.agg vs.toArray, .string K] w fun e w' => ∃ us, e = .returned (.agg (List.toArray us)) ∧ ObI w.heap.size w'.heap.size w' (Ob.get K.data.toList o) us ∧ Below w.heap.size w w' := by
 cases h with
 | mk k n b l d A AL AD c cL cD gL oL gD oD vl vd h1 h2 h3 h4 hB5 h6 h7 h8 h9 h10 h11 hAL hl hlv hAD hdo hdk hdv =>
 have zk : b.length + bulkL l + bulkD d + 1 ≤ 100000000 := hbk
 have zd := bulkD_len d
 obtain ⟨m3, hm3⟩ : ∃ m, m = d.length := ⟨_, rfl⟩
 rw [← hm3] at zd ⊢
 have zd1 : m3 ≤ 100000000 := by omega
 obtain ⟨W1, hW1⟩ : ∃ W, W = w.alloc (.cells #[.int .i64 k, .int .i64 n, .slice A b.length c, .slice AL l.length cL, .slice AD m3 cD] 26) := ⟨_, rfl⟩
 obtain ⟨W2, hW2⟩ : ∃ W, W = W1.alloc (.cells #[.int .i64 0, .int .i64 0, .slice none 0 0, .slice none 0 0, .slice none 0 0] 26) := ⟨_, rfl⟩
 have hb1 : Below w.heap.size w W1 := by rw [hW1]; exact (Below.refl _ _).alloc (Nat.le_refl _) _
 have z1 : W1.heap.size = w.heap.size + 1 := by rw [hW1, World.size_alloc]
 have hb2 : Below w.heap.size w W2 := by rw [hW2]; exact hb1.alloc (by omega) _
 have z2 : W2.heap.size = w.heap.size + 2 := by rw [hW2, World.size_alloc, z1]
 have f := five_kept (five_cells hW1) (W' := W2) (by rw [hW2]; exact (Below.refl _ _).alloc (Nat.le_refl _) _)
 have hR2 : Blk W2 (w.heap.size + 1) 26 #[.int .i64 0, .int .i64 0, .slice none 0 0, .slice none 0 0, .slice none 0 0] := by rw [hW2, ← z1]; exact Blk.new W1 26 _
 obtain ⟨f0, f1, f2, f3, f4⟩ := id f
 have c50 := ref_Has k (.int .i64 n) (.slice A b.length c) (.slice AL l.length cL) (.slice AD m3 cD) W2
 obtain ⟨O, hO⟩ : ∃ O, O = Ob.get K.data.toList (.mk k n b l d) := ⟨_, rfl⟩
 have hOf : hasI k = false → O = zeroO := fun h => by rw [hO]; simp [Ob.get, h]
 have hOs : hasI k = true → ∀ e, (d.find? fun e => e.1 == K.data.toList) = some e → O = e.2 := fun h e he => by rw [hO]; simp [Ob.get, h, he]
 have hOn : hasI k = true → (d.find? fun e => e.1 == K.data.toList) = none → O = zeroO := fun h he => by rw [hO]; simp only [Ob.get, h, he, if_true]
 rw [← hO]
 obtain ⟨hs, hhs⟩ : ∃ z, hasI k = z := ⟨_, rfl⟩
 rw [hhs] at c50 hOf hOs hOn
 -- the end, where there is none
 have hnone : ∀ W : World, Below W2.heap.size W2 W → ∀ Wf, Wf = ((((W.setCell ⟨w.heap.size + 1, 0, none⟩ (.int .i64 0)).setCell ⟨w.heap.size + 1, 1, none⟩ (.int .i64 0)).setCell ⟨w.heap.size + 1, 2, none⟩ (.slice none 0 0)).setCell ⟨w.heap.size + 1, 3, none⟩ (.slice none 0 0)).setCell ⟨w.heap.size + 1, 4, none⟩ (.slice none 0 0) →
  Blk Wf (w.heap.size + 1) 26 #[.int .i64 0, .int .i64 0, .slice none 0 0, .slice none 0 0, .slice none 0 0] ∧ ObI w.heap.size Wf.heap.size Wf zeroO [.int .i64 0, .int .i64 0, .slice none 0 0, .slice none 0 0, .slice none 0 0] ∧ Below w.heap.size w Wf := fun W hW Wf hWf => by
  have hRb := hR2.below hW (by omega)
  have hz := hW.size
  obtain ⟨q1, q2, q3, q4⟩ := put_res (lo := W2.heap.size) (hi := W.heap.size) hRb zero_I (by omega) hWf
  exact ⟨q1, q2.wide (by omega), (bthen hb2 hW).grown q3 (by omega) (fun q hq => by injection hq with hq; omega)⟩
 have hsome : ∀ (W : World) (lo : Nat) (u0 u1 u2 u3 u4 : Value), Below W2.heap.size W2 W → W2.heap.size ≤ lo → ObI lo W.heap.size W O [u0, u1, u2, u3, u4] → ∀ Wf, Wf = ((((W.setCell ⟨w.heap.size + 1, 0, none⟩ u0).setCell ⟨w.heap.size + 1, 1, none⟩ u1).setCell ⟨w.heap.size + 1, 2, none⟩ u2).setCell ⟨w.heap.size + 1, 3, none⟩ u3).setCell ⟨w.heap.size + 1, 4, none⟩ u4 →
  Blk Wf (w.heap.size + 1) 26 #[u0, u1, u2, u3, u4] ∧ ObI w.heap.size Wf.heap.size Wf O [u0, u1, u2, u3, u4] ∧ Below w.heap.size w Wf := fun W lo u0 u1 u2 u3 u4 hW hlo hI Wf hWf => by
  have hRb := hR2.below hW (by omega)
  have hz := hW.size
  obtain ⟨q1, q2, q3, q4⟩ := put_res hRb hI (by omega) hWf
  exact ⟨q1, q2.wide (by omega), (bthen hb2 hW).grown q3 (by omega) (fun q hq => by injection hq with hq; omega)⟩
 have hres : ∀ W : World, Below W2.heap.size W2 W → Blk W (w.heap.size + 1) 26 #[.int .i64 0, .int .i64 0, .slice none 0 0, .slice none 0 0, .slice none 0 0] := fun W hW => hR2.below hW (by omega)
 replace hm3 := hi_ hm3
 replace hAD := hi_ hAD
 replace hdo := hi_ hdo
 replace hdk := hi_ hdk
 replace hdv := hi_ hdv
 replace hb1 := hi_ hb1
 replace hb2 := hi_ hb2
 replace f := hi_ f
 replace hR2 := hi_ hR2
 replace hO := hi_ hO
 replace hOf := hi_ hOf
 replace hOs := hi_ hOs
 replace hOn := hi_ hOn
 replace hhs := hi_ hhs
 replace hnone := hi_ hnone
 replace hsome := hi_ hsome
 replace hres := hi_ hres
 clear h1 h2 h3 h4 hB5 h6 h7 h8 h9 h10 h11 hAL hl hlv hbk
 go_enter Tryz.func20, Tryz.ntmps20
 go_upto_region 1 with (fail)
 rw [← hW1, ← hW2]
 replace hW1 := hi_ hW1
 replace hW2 := hi_ hW2
 cases hs with
 | false =>
  have hz := hOf.out rfl
  subst hz
  go_wp2_with (first
   | (go_at_call 50; (with_reducible refine c50.mono ?_); rintro e w3 ⟨rfl, hB3⟩; have hD4 := hB3; have hRb := hres.out w3 hD4; have r0 := hRb.cell 0; have r1 := hRb.cell 1; have r2 := hRb.cell 2; have r3 := hRb.cell 3; have r4 := hRb.cell 4; have v0 := hRb.frozen 0; have v1 := hRb.frozen 1; have v2 := hRb.frozen 2; have v3 := hRb.frozen 3; have v4 := hRb.frozen 4; replace hD4 := hi_ hD4; clear hRb))
  obtain ⟨Wf, hWf⟩ : ∃ W, W = ((((w3.setCell ⟨w.heap.size + 1, 0, none⟩ (.int .i64 0)).setCell ⟨w.heap.size + 1, 1, none⟩ (.int .i64 0)).setCell ⟨w.heap.size + 1, 2, none⟩ (.slice none 0 0)).setCell ⟨w.heap.size + 1, 3, none⟩ (.slice none 0 0)).setCell ⟨w.heap.size + 1, 4, none⟩ (.slice none 0 0) := ⟨_, rfl⟩
  rw [← hWf]
  obtain ⟨hbf, hI, hBf⟩ := hnone.out w3 hD4.out Wf hWf
  have u0 := hbf.cell 0
  have u1 := hbf.cell 1
  have u2 := hbf.cell 2
  have u3 := hbf.cell 3
  have u4 := hbf.cell 4
  replace hI := hi_ hI
  replace hBf := hi_ hBf
  clear hbf
  replace hWf := hi_ hWf
  exact bodyPost_ret (by simp [results, Tryz.results20, go_sem, u0, u1, u2, u3, u4]; try rfl) rfl ⟨[.int .i64 0, .int .i64 0, .slice none 0 0, .slice none 0 0, .slice none 0 0], rfl, hI.out, hBf.out⟩
 | true =>
  go_wp2_with (go_at_call 50; (with_reducible refine c50.mono ?_); rintro e w3 ⟨rfl, hB3⟩; obtain ⟨p0, p1, p2, p3, p4⟩ := five_kept f.out hB3; replace hB3 := hi_ hB3)
  go_loopw [5] (fun s5 wr => ∃ j : Nat, j ≤ m3 ∧ s5 = .int .i64 j ∧ (∀ q (h : q < j) (h' : q < d.length), (d[q].1 == K.data.toList) = false) ∧ Below W2.heap.size W2 wr) (fun s5 _ => m3 - (RowKit.intOf s5).toNat)
  case atStart => exact ⟨0, by omega, rfl, fun q h => by omega, hB3.out⟩
  case round =>
   obtain ⟨j, hj, rfl, hP, hB⟩ := hrel
   obtain ⟨k0, k1, k2, k3, k4⟩ := five_kept f.out hB
   have lB := hB.size
   by_cases hjm : j < m3
   ·have hjl : j < d.length := by rw [← hm3.out]; exact hjm
    have hAe := hAD.out (by omega)
    subst hAe
    have hbw : Below w.heap.size w wr := bthen hb2.out hB
    obtain ⟨e, he⟩ : ∃ e, e = d[j] := ⟨_, rfl⟩
    have hob := (hdo.out j hjl).kept hbw
    have hky := hdk.out j hjl
    have hcv := hdv.out j hjl
    rw [← he] at hob hky
    have hzo : e.2.bulk ≤ 100000000 := by have := bulkD_at d j hjl; rw [← he] at this; omega
    obtain ⟨us0, hus0⟩ : ∃ us, us = vd j := ⟨_, rfl⟩
    rw [← hus0] at hob hcv
    obtain ⟨en, E1, E2, E3, en1, ec1, en2, ec2, en3, ec3, hys⟩ := ob_five2 hob
    obtain ⟨kk, hkk⟩ : ∃ k, k = e.2.kind := ⟨_, rfl⟩
    rw [← hkk] at hys
    subst hys
    obtain ⟨K0, hK⟩ : ∃ K, K = bytes e.1 := ⟨_, rfl⟩
    have x0 : wr.cell? ⟨gD, oD + j * 6, none⟩ = some (.string K0) := by
     have h1 := (hbw.cell (cell_lt hky.2)).trans hky.2
     rw [Nat.mul_comm] at h1
     rw [h1, hK]; rfl
    have five : ∀ q u, [Value.int .i64 kk, .int .i64 en, .slice E1 en1 ec1, .slice E2 en2 ec2, .slice E3 en3 ec3][q]? = some u → wr.cell? ⟨gD, oD + j * 6 + 1 + q, none⟩ = some u := fun q u hq => by
     have h0 := hcv q (by have := (List.getElem?_eq_some_iff.1 hq).1; simpa using this)
     rw [hq] at h0
     have h1 := (hbw.cell (cell_lt h0)).trans h0
     rw [show oD + (6 * j + 1 + q) = oD + j * 6 + 1 + q by omega] at h1
     exact h1
    have x1 : wr.cell? ⟨gD, oD + j * 6 + 1, none⟩ = some (.int .i64 kk) := five 0 _ rfl
    have x2 : wr.cell? ⟨gD, oD + j * 6 + 2, none⟩ = some (.int .i64 en) := five 1 _ rfl
    have x3 : wr.cell? ⟨gD, oD + j * 6 + 3, none⟩ = some (.slice E1 en1 ec1) := five 2 _ rfl
    have x4 : wr.cell? ⟨gD, oD + j * 6 + 4, none⟩ = some (.slice E2 en2 ec2) := five 3 _ rfl
    have x5 : wr.cell? ⟨gD, oD + j * 6 + 5, none⟩ = some (.slice E3 en3 ec3) := five 4 _ rfl
    have c51 := rcopy_all 100000000 (by omega) e.2 _ wr hob hzo
    obtain ⟨q, hq⟩ : ∃ q, (K0.toList == K.toList) = q := ⟨_, rfl⟩
    have hq2 : (d[j].1 == K.data.toList) = q := by rw [← hq, hK, key_eq, he]
    clear five hcv hob hus0 hky hbw
    replace he := hi_ he
    replace hkk := hi_ hkk
    replace hK := hi_ hK
    replace hB := hi_ hB
    replace hP := hi_ hP
    replace hq2 := hi_ hq2
    cases q with
    | false =>
     have hP2 : ∀ q (h : q < j + 1) (h' : q < d.length), (d[q].1 == K.data.toList) = false := fun q h h' => by
      by_cases h3 : q = j
      ·subst h3; exact hq2.out
      ·exact hP.out q (by omega) h'
     replace hP2 := hi_ hP2
     clear c51
     go_wp2
     go_roundw
     case rel => exact ⟨j + 1, by omega, by go_num, hP2.out, hB.out⟩
     case measure => simp [RowKit.intOf]; omega
    | true =>
     have hz := hOs.out (by trivial) _ (find_at hjl (fun q h => hP.out q h (by omega)) hq2.out)
     rw [← he.out] at hz
     subst hz
     go_wp2_with (go_at_call 51; (with_reducible refine c51.mono ?_); rintro e' w6 ⟨us, rfl, hI, hB6⟩; obtain ⟨en', E1', E2', E3', en1', ec1', en2', ec2', en3', ec3', hys'⟩ := ob_five2 hI.ob; rw [← hkk.out] at hys'; subst hys'; have hD6 := bthen hB.out hB6; have hRb := hres.out w6 hD6; have r0 := hRb.cell 0; have r1 := hRb.cell 1; have r2 := hRb.cell 2; have r3 := hRb.cell 3; have r4 := hRb.cell 4; have v0 := hRb.frozen 0; have v1 := hRb.frozen 1; have v2 := hRb.frozen 2; have v3 := hRb.frozen 3; have v4 := hRb.frozen 4; replace hD6 := hi_ hD6; replace hI := hi_ hI; clear hRb hB6)
     obtain ⟨Wf, hWf⟩ : ∃ W, W = ((((w6.setCell ⟨w.heap.size + 1, 0, none⟩ (.int .i64 kk)).setCell ⟨w.heap.size + 1, 1, none⟩ (.int .i64 en')).setCell ⟨w.heap.size + 1, 2, none⟩ (.slice E1' en1' ec1')).setCell ⟨w.heap.size + 1, 3, none⟩ (.slice E2' en2' ec2')).setCell ⟨w.heap.size + 1, 4, none⟩ (.slice E3' en3' ec3') := ⟨_, rfl⟩
     rw [← hWf]
     obtain ⟨hbf, hI2, hBf⟩ := hsome.out w6 wr.heap.size _ _ _ _ _ hD6.out lB hI.out Wf hWf
     have u0 := hbf.cell 0
     have u1 := hbf.cell 1
     have u2 := hbf.cell 2
     have u3 := hbf.cell 3
     have u4 := hbf.cell 4
     replace hI2 := hi_ hI2
     replace hBf := hi_ hBf
     clear hbf
     replace hWf := hi_ hWf
     exact bodyPost_ret (by simp [results, Tryz.results20, go_sem, u0, u1, u2, u3, u4]; try rfl) rfl ⟨[.int .i64 kk, .int .i64 en', .slice E1' en1' ec1', .slice E2' en2' ec2', .slice E3' en3' ec3'], rfl, hI2.out, hBf.out⟩
   ·obtain rfl : j = m3 := by omega
    have hz := hOn.out (by trivial) (find_no fun q h => hP q (by rw [hm3.out]; exact h) h)
    subst hz
    have hRb := hres.out wr hB
    have r0 := hRb.cell 0
    have r1 := hRb.cell 1
    have r2 := hRb.cell 2
    have r3 := hRb.cell 3
    have r4 := hRb.cell 4
    have v0 := hRb.frozen 0
    have v1 := hRb.frozen 1
    have v2 := hRb.frozen 2
    have v3 := hRb.frozen 3
    have v4 := hRb.frozen 4
    clear hRb
    replace hB := hi_ hB
    replace hP := hi_ hP
    go_wp2
    obtain ⟨Wf, hWf⟩ : ∃ W, W = ((((wr.setCell ⟨w.heap.size + 1, 0, none⟩ (.int .i64 0)).setCell ⟨w.heap.size + 1, 1, none⟩ (.int .i64 0)).setCell ⟨w.heap.size + 1, 2, none⟩ (.slice none 0 0)).setCell ⟨w.heap.size + 1, 3, none⟩ (.slice none 0 0)).setCell ⟨w.heap.size + 1, 4, none⟩ (.slice none 0 0) := ⟨_, rfl⟩
    rw [← hWf]
    obtain ⟨hbf, hI, hBf⟩ := hnone.out wr hB.out Wf hWf
    have u0 := hbf.cell 0
    have u1 := hbf.cell 1
    have u2 := hbf.cell 2
    have u3 := hbf.cell 3
    have u4 := hbf.cell 4
    replace hI := hi_ hI
    replace hBf := hi_ hBf
    clear hbf
    replace hWf := hi_ hWf
    exact bodyPost_ret (by simp [results, Tryz.results20, go_sem, u0, u1, u2, u3, u4]; try rfl) rfl ⟨[.int .i64 0, .int .i64 0, .slice none 0 0, .slice none 0 0, .slice none 0 0], rfl, hI.out, hBf.out⟩

/- Keys held against each other: strings.Compare, byKey, the closures of sorted. No condition. -/
set_option maxHeartbeats 1000000 in
set_option maxRecDepth 100000 in
theorem cmp_str (a b : ByteArray) (w : World) : Calls Tryz.prog 128 #[.string a, .string b] w fun e w' => e = .returned (.int .i64 (Lib.compareBytes a.data.toList b.data.toList)) ∧ w' = w := by
 go_enter Tryz.func128, Tryz.ntmps128
 go_wp2
 rw [run_callFunc_extern Tryz.func139 (by kernel_rfl) (by kernel_rfl) (by kernel_rfl) (e := Extern.BytealgCompare.compare) (by kernel_rfl), Lib.run_compareString]
 simp only [Result.andThen]
 rw [Oper.upon_value]
 go_wp2
 go_ret
 exact ⟨rfl, rfl⟩
set_option maxHeartbeats 1000000 in
theorem str_Compare (a b : ByteArray) (w : World) : Calls Tryz.prog 109 #[.string a, .string b] w fun e w' => e = .returned (.int .i64 (Lib.compareBytes a.data.toList b.data.toList)) ∧ w' = w := by
 have c := cmp_str a b w
 go_enter Tryz.func109, Tryz.ntmps109
 go_wp2_with (go_at_call 128; (with_reducible refine c.mono ?_); rintro e w' ⟨rfl, rfl⟩)
 go_ret
 exact ⟨rfl, rfl⟩
set_option maxHeartbeats 2000000 in
set_option maxRecDepth 100000 in
theorem by_Key (K K' : ByteArray) (a0 a1 a2 a3 a4 b0 b1 b2 b3 b4 : Value) (w : World) : Calls Tryz.prog 73 #[.agg #[.string K, a0, a1, a2, a3, a4], .agg #[.string K', b0, b1, b2, b3, b4]] w fun e w' => e = .returned (.int .i64 (Lib.compareBytes K.data.toList K'.data.toList)) ∧ Below w.heap.size w w' := by
 have c := fun W => str_Compare K K' W
 have hb : Below w.heap.size w ((w.alloc (.cells #[.string K, a0, a1, a2, a3, a4] 53)).alloc (.cells #[.string K', b0, b1, b2, b3, b4] 53)) := ((Below.refl _ _).alloc (Nat.le_refl _) _).alloc (by rw [World.size_alloc]; omega) _
 replace hb := hi_ hb
 go_enter Tryz.func73, Tryz.ntmps73
 go_wp2_with (go_at_call 109; (with_reducible refine (c _).mono ?_); rintro e w' ⟨rfl, rfl⟩)
 go_ret
 exact ⟨rfl, hb.out⟩
set_option maxHeartbeats 2000000 in
set_option maxRecDepth 100000 in
theorem clo_ge (K K' : ByteArray) (a0 a1 a2 a3 a4 b0 b1 b2 b3 b4 : Value) (w : World) (p q : Nat) (hp : w.cell? ⟨p, 0, none⟩ = some (.func (.func 73) #[] #[]))
 (hq : w.cell? ⟨q, 0, none⟩ = some (.string K') ∧ w.cell? ⟨q, 1, none⟩ = some b0 ∧ w.cell? ⟨q, 2, none⟩ = some b1 ∧ w.cell? ⟨q, 3, none⟩ = some b2 ∧ w.cell? ⟨q, 4, none⟩ = some b3 ∧ w.cell? ⟨q, 5, none⟩ = some b4) :
 Calls Tryz.prog 105 #[.agg #[.string K, a0, a1, a2, a3, a4], .pointer (some ⟨p, 0, none⟩), .pointer (some ⟨q, 0, none⟩)] w fun e w' => e = .returned (.bool (decide (0 ≤ Lib.compareBytes K.data.toList K'.data.toList))) ∧ Below w.heap.size w w' := by
 obtain ⟨q0, q1, q2, q3, q4, q5⟩ := hq
 obtain ⟨C, hC⟩ : ∃ C, C = Lib.compareBytes K.data.toList K'.data.toList := ⟨_, rfl⟩
 have c := fun W => by_Key K K' a0 a1 a2 a3 a4 b0 b1 b2 b3 b4 W
 rw [← hC] at c ⊢
 have hb : Below w.heap.size w (w.alloc (.cells #[.string K, a0, a1, a2, a3, a4] 53)) := (Below.refl _ _).alloc (Nat.le_refl _) _
 replace hb := hi_ hb
 replace hC := hi_ hC
 have l1 := cell_lt hp
 have l2 := cell_lt q0
 go_enter Tryz.func105, Tryz.ntmps105
 go_wp2_with (go_at_call 73; (with_reducible refine (c _).mono ?_); rintro e w' ⟨rfl, hB⟩; replace hB := hi_ hB)
 go_ret
 exact ⟨rfl, bthen hb.out hB.out⟩
set_option maxHeartbeats 2000000 in
set_option maxRecDepth 100000 in
theorem clo_eq (K K' : ByteArray) (a0 a1 a2 a3 a4 b0 b1 b2 b3 b4 : Value) (w : World) (p q : Nat) (hp : w.cell? ⟨p, 0, none⟩ = some (.func (.func 73) #[] #[]))
 (hq : w.cell? ⟨q, 0, none⟩ = some (.string K') ∧ w.cell? ⟨q, 1, none⟩ = some b0 ∧ w.cell? ⟨q, 2, none⟩ = some b1 ∧ w.cell? ⟨q, 3, none⟩ = some b2 ∧ w.cell? ⟨q, 4, none⟩ = some b3 ∧ w.cell? ⟨q, 5, none⟩ = some b4) :
 Calls Tryz.prog 106 #[.agg #[.string K, a0, a1, a2, a3, a4], .pointer (some ⟨p, 0, none⟩), .pointer (some ⟨q, 0, none⟩)] w fun e w' => e = .returned (.bool (Lib.compareBytes K.data.toList K'.data.toList == 0)) ∧ Below w.heap.size w w' := by
 obtain ⟨q0, q1, q2, q3, q4, q5⟩ := hq
 obtain ⟨C, hC⟩ : ∃ C, C = Lib.compareBytes K.data.toList K'.data.toList := ⟨_, rfl⟩
 have c := fun W => by_Key K K' a0 a1 a2 a3 a4 b0 b1 b2 b3 b4 W
 rw [← hC] at c ⊢
 have hb : Below w.heap.size w (w.alloc (.cells #[.string K, a0, a1, a2, a3, a4] 53)) := (Below.refl _ _).alloc (Nat.le_refl _) _
 replace hb := hi_ hb
 replace hC := hi_ hC
 have l1 := cell_lt hp
 have l2 := cell_lt q0
 go_enter Tryz.func106, Tryz.ntmps106
 go_wp2_with (go_at_call 73; (with_reducible refine (c _).mono ?_); rintro e w' ⟨rfl, hB⟩; replace hB := hi_ hB)
 go_ret
 exact ⟨rfl, bthen hb.out hB.out⟩
theorem cmp_ge : ∀ (a b : List UInt8), decide (0 ≤ Lib.compareBytes a b) = !ltB a b
 | [], [] => by simp [Lib.compareBytes, ltB]
 | [], _ :: _ => by simp [Lib.compareBytes, ltB]
 | _ :: _, [] => by simp [Lib.compareBytes, ltB]
 | a :: r, b :: s => by
  have ih := cmp_ge r s
  unfold Lib.compareBytes ltB
  by_cases h1 : a < b
  ·simp [h1]
  ·by_cases h2 : b < a
   ·simp [h1, h2]
   ·simp [h1, h2]; simpa using ih
theorem cmp_eq0 : ∀ (a b : List UInt8), (Lib.compareBytes a b == 0) = (a == b)
 | [], [] => by simp [Lib.compareBytes]
 | [], _ :: _ => by simp [Lib.compareBytes]
 | _ :: _, [] => by simp [Lib.compareBytes]
 | a :: r, b :: s => by
  have ih := cmp_eq0 r s
  unfold Lib.compareBytes
  by_cases h1 : a < b
  ·have : a ≠ b := fun e => by subst e; exact absurd h1 (by simp)
   simp [h1, this]
  ·by_cases h2 : b < a
   ·have : a ≠ b := fun e => by subst e; exact absurd h2 (by simp)
    simp [h1, h2, this]
   ·have : a = b := by
     apply UInt8.toNat_inj.1
     have e1 : ¬ a.toNat < b.toNat := h1
     have e2 : ¬ b.toNat < a.toNat := h2
     omega
    subst this
    simp [h1]; simpa using ih

/- The first entry that is wanted; rows cloned; nothing deleted. No condition. -/
def firstI (p : Nat → Bool) (n : Nat) : Int := match (List.range n).find? p with
 | some i => (i : Int)
 | none => -1
theorem firstI_at {p : Nat → Bool} {n k : Nat} (hk : k < n) (h : ∀ i, i < k → p i = false) (hp : p k = true) : firstI p n = (k : Int) := by
 unfold firstI
 have : (List.range n).find? p = some k := by
  rw [List.find?_eq_some_iff_getElem]
  exact ⟨hp, k, by simpa using hk, by simp, fun j hj => by simp [h j hj]⟩
 rw [this]
theorem firstI_no {p : Nat → Bool} {n : Nat} (h : ∀ i, i < n → p i = false) : firstI p n = -1 := by
 unfold firstI
 have : (List.range n).find? p = none := by
  rw [List.find?_eq_none]
  intro i hi
  rw [h i (List.mem_range.1 hi)]; simp
 rw [this]
set_option maxHeartbeats 4000000 in
set_option maxRecDepth 100000 in
theorem idx_105 (w : World) (AL : Option Addr) (g oL n cL pp qq : Nat) (p : Nat → Bool) (vl : Nat → List Value) (hn : n ≤ 1000000000) (hA : 0 < n → AL = some ⟨g, oL, none⟩) (h5 : ∀ i, i < n → (vl i).length = 6)
 (hc : ∀ i, i < n → ∀ j, j < 6 → w.cell? ⟨g, oL + (6 * i + j), none⟩ = (vl i)[j]?)
 (call : ∀ i W, i < n → Below w.heap.size w W → Calls Tryz.prog 105 #[.agg (vl i).toArray, .pointer (some ⟨pp, 0, none⟩), .pointer (some ⟨qq, 0, none⟩)] W fun e w' => e = .returned (.bool (p i)) ∧ Below W.heap.size W w') :
 Calls Tryz.prog 104 #[.slice AL n cL, .func (.func 105) #[] #[.pointer (some ⟨pp, 0, none⟩), .pointer (some ⟨qq, 0, none⟩)]] w fun e w' => e = .returned (.int .i64 (firstI p n)) ∧ Below w.heap.size w w' := by
 replace call := hi_ call
 replace hc := hi_ hc
 replace h5 := hi_ h5
 replace hA := hi_ hA
 go_enter Tryz.func104, Tryz.ntmps104
 go_wp2
 go_loopw [5, 8] (fun _ s8 wr => ∃ k : Nat, k ≤ n ∧ s8 = .int .i64 k ∧ (∀ i, i < k → p i = false) ∧ Below w.heap.size w wr) (fun _ s8 _ => n - (RowKit.intOf s8).toNat)
 case atStart => exact ⟨0, by omega, rfl, fun i hi => by omega, Below.refl _ _⟩
 case round =>
  obtain ⟨k, hk, rfl, hP, hB⟩ := hrel
  by_cases hkn : k < n
  ·have hA := hA.out (by omega)
   subst hA
   have h5k := h5.out k hkn
   have hck := hc.out k hkn
   have cl := call.out k wr hkn hB
   obtain ⟨us, hus⟩ : ∃ us, us = vl k := ⟨_, rfl⟩
   rw [← hus] at h5k hck cl
   ·obtain ⟨c0, c1, c2, c3, c4, c5, rfl⟩ := six_list us h5k
    have w0 : w.cell? ⟨g, oL + k * 6, none⟩ = some c0 := by have := hck 0 (by omega); rw [Nat.mul_comm, Nat.add_zero] at this; exact this
    have w1 : w.cell? ⟨g, oL + k * 6 + 1, none⟩ = some c1 := by have := hck 1 (by omega); rw [Nat.mul_comm, ← Nat.add_assoc] at this; exact this
    have w2 : w.cell? ⟨g, oL + k * 6 + 2, none⟩ = some c2 := by have := hck 2 (by omega); rw [Nat.mul_comm, ← Nat.add_assoc] at this; exact this
    have w3 : w.cell? ⟨g, oL + k * 6 + 3, none⟩ = some c3 := by have := hck 3 (by omega); rw [Nat.mul_comm, ← Nat.add_assoc] at this; exact this
    have w4 : w.cell? ⟨g, oL + k * 6 + 4, none⟩ = some c4 := by have := hck 4 (by omega); rw [Nat.mul_comm, ← Nat.add_assoc] at this; exact this
    have w5 : w.cell? ⟨g, oL + k * 6 + 5, none⟩ = some c5 := by have := hck 5 (by omega); rw [Nat.mul_comm, ← Nat.add_assoc] at this; exact this
    have x5 := (hB.cell (cell_lt w5)).trans w5
    have x0 := (hB.cell (cell_lt w0)).trans w0
    have x1 := (hB.cell (cell_lt w1)).trans w1
    have x2 := (hB.cell (cell_lt w2)).trans w2
    have x3 := (hB.cell (cell_lt w3)).trans w3
    have x4 := (hB.cell (cell_lt w4)).trans w4
    clear w0 w1 w2 w3 w4 w5 hck hus h5k
    cases hp : p k with
    | true =>
     rw [hp] at cl
     have hT : firstI p n = (k : Int) := firstI_at hkn (fun i hi => hP i hi) hp
     replace hT := hi_ hT
     replace hB := hi_ hB
     replace hP := hi_ hP
     clear hp
     go_wp2_with (go_at_call 105; (with_reducible refine cl.mono ?_); rintro e w1 ⟨rfl, hB1⟩; replace hB1 := hi_ hB1)
     go_ret
     exact ⟨by rw [hT.out]; rfl, bthen hB.out hB1.out⟩
    | false =>
     rw [hp] at cl
     have hP2 : ∀ i, i < k + 1 → p i = false := fun i hi => by
      by_cases h : i = k
      ·subst h; exact hp
      ·exact hP i (by omega)
     replace hP2 := hi_ hP2
     replace hB := hi_ hB
     clear hP hp
     go_wp2_with (go_at_call 105; (with_reducible refine cl.mono ?_); rintro e w1 ⟨rfl, hB1⟩; replace hB1 := hi_ hB1)
     go_roundw
     case rel => exact ⟨k + 1, by omega, by go_num, hP2.out, bthen hB.out hB1.out⟩
     case measure => simp [RowKit.intOf]; omega
  ·obtain rfl : k = n := by omega
   have hT : firstI p k = -1 := firstI_no fun i hi => hP i hi
   replace hT := hi_ hT
   replace hB := hi_ hB
   replace hP := hi_ hP
   go_wp2
   go_ret
   exact ⟨by rw [hT.out]; rfl, hB.out⟩
set_option maxHeartbeats 4000000 in
set_option maxRecDepth 100000 in
theorem idx_106 (w : World) (AL : Option Addr) (g oL n cL pp qq : Nat) (p : Nat → Bool) (vl : Nat → List Value) (hn : n ≤ 1000000000) (hA : 0 < n → AL = some ⟨g, oL, none⟩) (h5 : ∀ i, i < n → (vl i).length = 6)
 (hc : ∀ i, i < n → ∀ j, j < 6 → w.cell? ⟨g, oL + (6 * i + j), none⟩ = (vl i)[j]?)
 (call : ∀ i W, i < n → Below w.heap.size w W → Calls Tryz.prog 106 #[.agg (vl i).toArray, .pointer (some ⟨pp, 0, none⟩), .pointer (some ⟨qq, 0, none⟩)] W fun e w' => e = .returned (.bool (p i)) ∧ Below W.heap.size W w') :
 Calls Tryz.prog 104 #[.slice AL n cL, .func (.func 106) #[] #[.pointer (some ⟨pp, 0, none⟩), .pointer (some ⟨qq, 0, none⟩)]] w fun e w' => e = .returned (.int .i64 (firstI p n)) ∧ Below w.heap.size w w' := by
 replace call := hi_ call
 replace hc := hi_ hc
 replace h5 := hi_ h5
 replace hA := hi_ hA
 go_enter Tryz.func104, Tryz.ntmps104
 go_wp2
 go_loopw [5, 8] (fun _ s8 wr => ∃ k : Nat, k ≤ n ∧ s8 = .int .i64 k ∧ (∀ i, i < k → p i = false) ∧ Below w.heap.size w wr) (fun _ s8 _ => n - (RowKit.intOf s8).toNat)
 case atStart => exact ⟨0, by omega, rfl, fun i hi => by omega, Below.refl _ _⟩
 case round =>
  obtain ⟨k, hk, rfl, hP, hB⟩ := hrel
  by_cases hkn : k < n
  ·have hA := hA.out (by omega)
   subst hA
   have h5k := h5.out k hkn
   have hck := hc.out k hkn
   have cl := call.out k wr hkn hB
   obtain ⟨us, hus⟩ : ∃ us, us = vl k := ⟨_, rfl⟩
   rw [← hus] at h5k hck cl
   ·obtain ⟨c0, c1, c2, c3, c4, c5, rfl⟩ := six_list us h5k
    have w0 : w.cell? ⟨g, oL + k * 6, none⟩ = some c0 := by have := hck 0 (by omega); rw [Nat.mul_comm, Nat.add_zero] at this; exact this
    have w1 : w.cell? ⟨g, oL + k * 6 + 1, none⟩ = some c1 := by have := hck 1 (by omega); rw [Nat.mul_comm, ← Nat.add_assoc] at this; exact this
    have w2 : w.cell? ⟨g, oL + k * 6 + 2, none⟩ = some c2 := by have := hck 2 (by omega); rw [Nat.mul_comm, ← Nat.add_assoc] at this; exact this
    have w3 : w.cell? ⟨g, oL + k * 6 + 3, none⟩ = some c3 := by have := hck 3 (by omega); rw [Nat.mul_comm, ← Nat.add_assoc] at this; exact this
    have w4 : w.cell? ⟨g, oL + k * 6 + 4, none⟩ = some c4 := by have := hck 4 (by omega); rw [Nat.mul_comm, ← Nat.add_assoc] at this; exact this
    have w5 : w.cell? ⟨g, oL + k * 6 + 5, none⟩ = some c5 := by have := hck 5 (by omega); rw [Nat.mul_comm, ← Nat.add_assoc] at this; exact this
    have x5 := (hB.cell (cell_lt w5)).trans w5
    have x0 := (hB.cell (cell_lt w0)).trans w0
    have x1 := (hB.cell (cell_lt w1)).trans w1
    have x2 := (hB.cell (cell_lt w2)).trans w2
    have x3 := (hB.cell (cell_lt w3)).trans w3
    have x4 := (hB.cell (cell_lt w4)).trans w4
    clear w0 w1 w2 w3 w4 w5 hck hus h5k
    cases hp : p k with
    | true =>
     rw [hp] at cl
     have hT : firstI p n = (k : Int) := firstI_at hkn (fun i hi => hP i hi) hp
     replace hT := hi_ hT
     replace hB := hi_ hB
     replace hP := hi_ hP
     clear hp
     go_wp2_with (go_at_call 106; (with_reducible refine cl.mono ?_); rintro e w1 ⟨rfl, hB1⟩; replace hB1 := hi_ hB1)
     go_ret
     exact ⟨by rw [hT.out]; rfl, bthen hB.out hB1.out⟩
    | false =>
     rw [hp] at cl
     have hP2 : ∀ i, i < k + 1 → p i = false := fun i hi => by
      by_cases h : i = k
      ·subst h; exact hp
      ·exact hP i (by omega)
     replace hP2 := hi_ hP2
     replace hB := hi_ hB
     clear hP hp
     go_wp2_with (go_at_call 106; (with_reducible refine cl.mono ?_); rintro e w1 ⟨rfl, hB1⟩; replace hB1 := hi_ hB1)
     go_roundw
     case rel => exact ⟨k + 1, by omega, by go_num, hP2.out, bthen hB.out hB1.out⟩
     case measure => simp [RowKit.intOf]; omega
  ·obtain rfl : k = n := by omega
   have hT : firstI p k = -1 := firstI_no fun i hi => hP i hi
   replace hT := hi_ hT
   replace hB := hi_ hB
   replace hP := hi_ hP
   go_wp2
   go_ret
   exact ⟨by rw [hT.out]; rfl, hB.out⟩

/- Rows cloned; nothing deleted. No condition. -/
set_option maxHeartbeats 4000000 in
set_option maxRecDepth 100000 in
theorem del_none (w : World) (AL : Option Addr) (g oL n cL pp qq : Nat) (p : Nat → Bool) (vl : Nat → List Value) (hn : n ≤ 1000000000) (hA : 0 < n → AL = some ⟨g, oL, none⟩) (h5 : ∀ i, i < n → (vl i).length = 6)
 (hc : ∀ i, i < n → ∀ j, j < 6 → w.cell? ⟨g, oL + (6 * i + j), none⟩ = (vl i)[j]?)
 (call : ∀ i W, i < n → Below w.heap.size w W → Calls Tryz.prog 106 #[.agg (vl i).toArray, .pointer (some ⟨pp, 0, none⟩), .pointer (some ⟨qq, 0, none⟩)] W fun e w' => e = .returned (.bool (p i)) ∧ Below W.heap.size W w')
 (hno : ∀ i, i < n → p i = false) :
 Calls Tryz.prog 107 #[.slice AL n cL, .func (.func 106) #[] #[.pointer (some ⟨pp, 0, none⟩), .pointer (some ⟨qq, 0, none⟩)]] w fun e w' => e = .returned (.slice AL n cL) ∧ Below w.heap.size w w' := by
 have c := idx_106 w AL g oL n cL pp qq p vl hn hA h5 hc call
 rw [firstI_no hno] at c
 clear call hc h5 hA
 go_enter Tryz.func107, Tryz.ntmps107
 go_wp2_with (go_at_call 104; (with_reducible refine c.mono ?_); rintro e w' ⟨rfl, hB⟩; replace hB := hi_ hB)
 go_ret
 exact ⟨rfl, hB.out⟩
theorem map_at {n : Nat} {vl : Nat → List Value} {i : Nat} (hi : i < n) : ((List.range n).map vl).getD i [] = vl i := by
 rw [List.getD_eq_getElem?_getD, List.getElem?_map, List.getElem?_range hi]; rfl
theorem flat_cells {w : World} {g oL n sz : Nat} {vl : Nat → List Value} (hsz : 0 < sz) (h5 : ∀ i, i < n → (vl i).length = sz) (hc : ∀ i, i < n → ∀ j, j < sz → w.cell? ⟨g, oL + (sz * i + j), none⟩ = (vl i)[j]?) :
 ((List.range n).map vl).flatten.length = n * sz ∧ ∀ j u, ((List.range n).map vl).flatten[j]? = some u → w.cell? ((⟨g, oL, none⟩ : Addr).add j) = some u := by
 have hlen : ((List.range n).map vl).flatten.length = n * sz := by
  rw [List.length_flatten, List.map_map]
  have : ∀ m, m ≤ n → ((List.range m).map (List.length ∘ vl)).sum = m * sz := by
   intro m
   induction m with
   | zero => intro _; simp
   | succ m ih =>
    intro hm
    rw [List.range_succ, List.map_append, List.sum_append, ih (by omega)]
    simp [h5 m (by omega), Nat.succ_mul]
  exact this n (Nat.le_refl _)
 refine ⟨hlen, fun j u hu => ?_⟩
 have hj : j < n * sz := by
  have := (List.getElem?_eq_some_iff.1 hu).1
  omega
 obtain ⟨i, q, hq, rfl⟩ : ∃ i q, q < sz ∧ j = sz * i + q := ⟨j / sz, j % sz, Nat.mod_lt _ hsz, (Nat.div_add_mod j sz).symm⟩
 have hi : i < n := by
  rcases Nat.lt_or_ge i n with h | h
  ·exact h
  ·exfalso
   have := Nat.mul_le_mul_left sz h
   rw [Nat.mul_comm sz n] at this
   omega
 rw [addr_add, hc i hi q hq]
 rw [flat_at (rss := (List.range n).map vl) (sz := sz) (fun k hk => by
  rw [List.length_map, List.length_range] at hk
  rw [map_at hk]; exact h5 k hk) i q (by simpa using hi) hq, map_at hi] at hu
 exact hu
set_option maxHeartbeats 4000000 in
set_option maxRecDepth 100000 in
theorem sl_Clone (w : World) (AL : Option Addr) (g oL n cL : Nat) (vl : Nat → List Value) (hn : n ≤ 1000000000) (hA : 0 < n → AL = some ⟨g, oL, none⟩) (h5 : ∀ i, i < n → (vl i).length = 6)
 (hc : ∀ i, i < n → ∀ j, j < 6 → w.cell? ⟨g, oL + (6 * i + j), none⟩ = (vl i)[j]?) (h1 : ∀ i, i < n → ∀ u ∈ vl i, u.oneCell' = true) :
 Calls Tryz.prog 108 #[.slice AL n cL] w fun e w' => ∃ v, e = .returned v ∧ w'.ownsRow w.heap.size 53 6 v n ((List.range n).map vl).flatten ∧ Below w.heap.size w w' := by
 cases AL with
 | none =>
  have hn0 : n = 0 := by
   rcases Nat.eq_zero_or_pos n with h | h
   ·exact h
   ·have := hA h; cases this
  subst hn0
  have hq : (binOp .eql 24 (.slice none 0 cL) (.slice none 0 0)).run Tryz.prog w = .ok (.bool true) w := Lib.run_eql_slice_nil w 24 53 none 0 cL 0 0 Tryz.underlying24
  clear hc h1 h5 hA
  go_enter Tryz.func108, Tryz.ntmps108
  go_wp2
  go_ret
  exact ⟨_, rfl, World.ownsRow_nil _ _ _ _, Below.refl _ _⟩
 | some ad =>
  have hq : (binOp .eql 24 (.slice (some ad) n cL) (.slice none 0 0)).run Tryz.prog w = .ok (.bool false) w := Lib.run_eql_slice_nil w 24 53 (some ad) n cL 0 0 Tryz.underlying24
  obtain ⟨i0, hi0, hz0, hz1, hz2⟩ := en_info
  have hb0 : Below w.heap.size w (w.alloc (.cells #[] 53)) := (Below.refl _ _).alloc (Nat.le_refl _) _
  obtain ⟨f1, f2⟩ := flat_cells (w := w.alloc (.cells #[] 53)) (by omega) h5 (fun i hi j hj => by
   have h9 := hc i hi j hj
   obtain ⟨u, hu⟩ : ∃ u, (vl i)[j]? = some u := ⟨_, List.getElem?_eq_getElem (by rw [h5 i hi]; exact hj)⟩
   rw [hu] at h9 ⊢
   exact (hb0.cell (cell_lt h9)).trans h9)
  have f2 : ∀ j u, ((List.range n).map vl).flatten[j]? = some u → (w.alloc (.cells #[] 53)).cell? (ad.add j) = some u := fun j u hu => by
   rcases Nat.eq_zero_or_pos n with h | h
   ·subst h; simp at hu
   ·have e := hA h
    injection e with e
    subst e
    exact f2 j u hu
  have f3 : ∀ u ∈ ((List.range n).map vl).flatten, u.oneCell' = true := fun u hu => by
   obtain ⟨l, hl, hul⟩ := List.mem_flatten.1 hu
   obtain ⟨i, hi, rfl⟩ := List.mem_map.1 hl
   exact h1 i (List.mem_range.1 hi) u hul
  have hO : (w.alloc (.cells #[] 53)).ownsRow w.heap.size 53 6 (.slice (some ⟨w.heap.size, 0, none⟩) 0 0) 0 [] := World.ownsRow_made w #[] 0 (Nat.le_refl _) (by decide) rfl
  obtain ⟨F, hF⟩ : ∃ F, F = ((List.range n).map vl).flatten := ⟨_, rfl⟩
  rw [← hF] at f1 f2 f3 ⊢
  replace hF := hi_ hF
  replace f1 := hi_ f1
  replace f2 := hi_ f2
  replace f3 := hi_ f3
  replace hO := hi_ hO
  replace hb0 := hi_ hb0
  replace hi0 := hi_ hi0
  replace hz0 := hi_ hz0
  replace hz1 := hi_ hz1
  replace hz2 := hi_ hz2
  clear hc h1 h5 hA
  go_enter Tryz.func108, Tryz.ntmps108
  go_wp2_with (at_builtin; refine wpList_append_own_at _ rfl _ _ 24 rfl w.heap.size 53 i0 _ 6 104 Tryz.underlying24 hi0.out hz0.out hz1.out hz2.out rfl (by decide) _ 0 [] rfl hO.out ad n cL F rfl f1.out f2.out f3.out (by unfold maxLen; omega) (by omega) (by rw [World.size_alloc]; omega) ?_; intro v' w2 hO2 hg2 _ _; have hB2 : Below w.heap.size w w2 := hb0.out.grown hg2 (by rw [World.size_alloc]; omega) (fun k hk => by have h9 := (World.ownsRow.lt hO.out _ hk).1; omega); replace hO2 := hi_ hO2; replace hB2 := hi_ hB2; clear hg2)
  go_ret
  exact ⟨_, rfl, by simpa using hO2.out, hB2.out⟩

/- sorted, where no key is like the one put in. No condition. -/
theorem own_base {B B' : Nat} {e : TypeId} {sz : Nat} {w : World} {v : Value} {n : Nat} {xs : List Value} (h : w.ownsRow B e sz v n xs) (hB : B' ≤ B) : w.ownsRow B' e sz v n xs := by
 refine ⟨h.1, ?_⟩
 rcases h.2 with h2 | ⟨g, cap, cur, e', hb, r⟩
 ·exact .inl h2
 ·exact .inr ⟨g, cap, cur, e', by omega, r⟩
theorem own_six {B : Nat} {w : World} {v : Value} {n : Nat} {vl : Nat → List Value} (h : w.ownsRow B 53 6 v n ((List.range n).map vl).flatten) (h5 : ∀ i, i < n → (vl i).length = 6) :
 ∃ A g c, v = .slice A n c ∧ (0 < n → A = some ⟨g, 0, none⟩) ∧ ∀ i, i < n → ∀ j, j < 6 → w.cell? ⟨g, 0 + (6 * i + j), none⟩ = (vl i)[j]? := by
 rcases h.2 with ⟨rfl, hn⟩ | ⟨g, cap, cur, rfl, hB, hh, hnc, hcm, hcs, htk⟩
 ·exact ⟨none, 0, 0, by rw [hn], by omega, fun i hi => by omega⟩
 ·refine ⟨_, g, cap, rfl, fun _ => rfl, fun i hi j hj => ?_⟩
  have e1 := flat_at (rss := (List.range n).map vl) (sz := 6) (fun k hk => by rw [List.length_map, List.length_range] at hk; rw [map_at hk]; exact h5 k hk) i j (by simpa using hi) hj
  rw [map_at hi] at e1
  rw [← e1, ← htk, List.getElem?_take, if_pos (by omega), Nat.zero_add]
  simp [World.cell?, hh]
theorem grown_refl (w : World) (r : Option Nat) : w.grownBy w r := ⟨rfl, rfl, rfl, Nat.le_refl _, fun _ _ _ => rfl⟩
theorem app_row {w : World} {ops : Array Oper} {rest : List Oper} {o : Oper} {a : Act} {Q : Exit → Act → World → Prop} (hgd : o.guard = none) (s x : Operand)
 (ho : o.op = .call { callee := .builtin .append, args := #[s, x], argTypes := #[24, 24] }) (B : Nat) (v : Value) (n : Nat) (xs : List Value) (hs : a.eval s = v) (hR : w.ownsRow B 53 6 v n xs)
 (B2 : Nat) (v2 : Value) (m : Nat) (news : List Value) (hx : a.eval x = v2) (hR2 : w.ownsRow B2 53 6 v2 m news) (h1 : ∀ u ∈ news, u.oneCell' = true) (hl : n + m ≤ 1000000000) (hB : B ≤ w.heap.size)
 (h : ∀ v' w', w'.ownsRow B 53 6 v' (n + m) (xs ++ news) → w.grownBy w' v.ownBlock → wpList Tryz.prog ops Q rest (a.put o.dst v') w') : wpList Tryz.prog ops Q (o :: rest) a w := by
 obtain ⟨i0, hi0, hz0, hz1, hz2⟩ := en_info
 rcases hR2.2 with ⟨rfl, hn⟩ | ⟨g, cap, cur, rfl, hB2, hh, hnc, hcm, hcs, htk⟩
 ·have hnil : news = [] := by
   have := hR2.1
   rw [hn] at this
   exact List.length_eq_zero_iff.1 (by omega)
  subst hnil
  subst hn
  refine wpList_append_own_none hgd s x 24 ho B 53 i0 6 Tryz.underlying24 hi0 v n xs hs hR hx ?_
  exact h v w (by simpa using hR) (grown_refl _ _)
 ·refine wpList_append_own_at w hgd s x 24 ho B 53 i0 _ 6 104 Tryz.underlying24 hi0 hz0 hz1 hz2 rfl (by decide) v n xs hs hR ⟨g, 0, none⟩ m cap news hx hR2.1 ?_ h1 (by unfold maxLen; omega) (by omega) hB ?_
  ·exact hR2.cells rfl
  ·intro v' w' h1 h2 _ h3
   exact h v' w' h1 h2
theorem one_row (w : World) (us : List Value) (h : us.length = 6) : (w.alloc (.cells us.toArray 53)).ownsRow w.heap.size 53 6 (.slice (some ⟨w.heap.size, 0, none⟩) 1 1) 1 us :=
 ⟨by rw [h], .inr ⟨w.heap.size, 1, us.toArray, rfl, Nat.le_refl _, heap_alloc_new w _, Nat.le_refl _, by decide, by simp [h], by rw [List.take_of_length_le (by simp [h])]⟩⟩
set_option maxHeartbeats 8000000 in
set_option maxRecDepth 100000 in
theorem srt_put (w : World) (AL : Option Addr) (g oL n cL : Nat) (vl : Nat → List Value) (key : Nat → ByteArray) (K : ByteArray) (X0 X1 X2 X3 X4 : Value) (k : Nat) (hk : k ≤ n) (hn : n ≤ 1100000) (hnc : n ≤ cL) (hA : 0 < n → AL = some ⟨g, oL, none⟩)
 (h5 : ∀ i, i < n → ∃ c1 c2 c3 c4 c5, vl i = [.string (key i), c1, c2, c3, c4, c5]) (hc : ∀ i, i < n → ∀ j, j < 6 → w.cell? ⟨g, oL + (6 * i + j), none⟩ = (vl i)[j]?) (h1 : ∀ i, i < n → ∀ u ∈ vl i, u.oneCell' = true)
 (hX : ∀ u ∈ [Value.string K, X0, X1, X2, X3, X4], u.oneCell' = true)
 (hlt : ∀ i, i < k → ltB (key i).data.toList K.data.toList = true) (hge : k < n → ltB (key k).data.toList K.data.toList = false) (hne : ∀ i, i < n → ((key i).data.toList == K.data.toList) = false) :
 Calls Tryz.prog 72 #[.slice AL n cL, .agg #[.string K, X0, X1, X2, X3, X4], .func (.func 73) #[] #[], .bool true] w fun e w' => ∃ v, e = .returned v ∧
  w'.ownsRow w.heap.size 53 6 v (n + 1) (((List.range k).map vl).flatten ++ [.string K, X0, X1, X2, X3, X4] ++ ((List.range (n - k)).map fun i => vl (k + i)).flatten) ∧ Below w.heap.size w w' := by
 obtain ⟨W1, hW1⟩ : ∃ W, W = w.alloc (.cells #[.string K, X0, X1, X2, X3, X4] 53) := ⟨_, rfl⟩
 obtain ⟨W2, hW2⟩ : ∃ W, W = W1.alloc (.cells #[.func (.func 73) #[] #[]] 94) := ⟨_, rfl⟩
 have z1 : W1.heap.size = w.heap.size + 1 := by rw [hW1, World.size_alloc]
 have z2 : W2.heap.size = w.heap.size + 2 := by rw [hW2, World.size_alloc, z1]
 have hb1 : Below w.heap.size w W1 := by rw [hW1]; exact (Below.refl _ _).alloc (Nat.le_refl _) _
 have hb12 : Below W1.heap.size W1 W2 := by rw [hW2]; exact (Below.refl _ _).alloc (Nat.le_refl _) _
 have hb2 : Below w.heap.size w W2 := bthen hb1 hb12
 have fX := six_kept (six_cells hW1) hb12
 have fC : W2.cell? ⟨w.heap.size + 1, 0, none⟩ = some (.func (.func 73) #[] #[]) := by rw [hW2, ← z1]; simp
 -- the closures
 have h6 : ∀ i, i < n → (vl i).length = 6 := fun i hi => by obtain ⟨c1, c2, c3, c4, c5, e⟩ := h5 i hi; rw [e]; rfl
 have cge : ∀ W, Below W2.heap.size W2 W → ∀ i W', i < n → Below W.heap.size W W' → Calls Tryz.prog 105 #[.agg (vl i).toArray, .pointer (some ⟨w.heap.size + 1, 0, none⟩), .pointer (some ⟨w.heap.size, 0, none⟩)] W' fun e w' => e = .returned (.bool (!ltB (key i).data.toList K.data.toList)) ∧ Below W'.heap.size W' w' := fun W hW i W' hi hB => by
  obtain ⟨c1, c2, c3, c4, c5, e⟩ := h5 i hi
  have hD := bthen hW hB
  rw [e, ← cmp_ge]
  exact clo_ge (key i) K c1 c2 c3 c4 c5 X0 X1 X2 X3 X4 W' _ _ ((hD.cell (cell_lt fC)).trans fC) (six_kept fX hD)
 have ceq : ∀ W, Below W2.heap.size W2 W → ∀ i W', i < n → Below W.heap.size W W' → Calls Tryz.prog 106 #[.agg (vl i).toArray, .pointer (some ⟨w.heap.size + 1, 0, none⟩), .pointer (some ⟨w.heap.size, 0, none⟩)] W' fun e w' => e = .returned (.bool ((key i).data.toList == K.data.toList)) ∧ Below W'.heap.size W' w' := fun W hW i W' hi hB => by
  obtain ⟨c1, c2, c3, c4, c5, e⟩ := h5 i hi
  have hD := bthen hW hB
  rw [e, ← cmp_eq0]
  exact clo_eq (key i) K c1 c2 c3 c4 c5 X0 X1 X2 X3 X4 W' _ _ ((hD.cell (cell_lt fC)).trans fC) (six_kept fX hD)
 have hcW : ∀ W, Below w.heap.size w W → ∀ i, i < n → ∀ j, j < 6 → W.cell? ⟨g, oL + (6 * i + j), none⟩ = (vl i)[j]? := fun W hW i hi j hj => by
  have h9 := hc i hi j hj
  obtain ⟨u, hu⟩ : ∃ u, (vl i)[j]? = some u := ⟨_, List.getElem?_eq_getElem (by rw [h6 i hi]; exact hj)⟩
  rw [hu] at h9 ⊢
  exact (hW.cell (cell_lt h9)).trans h9
 -- the calls
 have c104 := idx_105 W2 AL g oL n cL (w.heap.size + 1) w.heap.size (fun i => !ltB (key i).data.toList K.data.toList) vl (by omega) hA h6 (hcW W2 hb2) (fun i W hi hB => cge W2 (Below.refl _ _) i W hi hB)
 have cl1 : ∀ W, Below W2.heap.size W2 W → Calls Tryz.prog 108 #[.slice AL k cL] W fun e w' => ∃ v, e = .returned v ∧ w'.ownsRow W.heap.size 53 6 v k ((List.range k).map vl).flatten ∧ Below W.heap.size W w' := fun W hW =>
  sl_Clone W AL g oL k cL vl (by omega) (fun h => hA (by omega)) (fun i hi => h6 i (by omega)) (fun i hi => hcW W (bthen hb2 hW) i (by omega)) (fun i hi => h1 i (by omega))
 have cl2 : ∀ W AL2 c2, Below W2.heap.size W2 W → (0 < n - k → AL2 = some ⟨g, oL + 6 * k, none⟩) → Calls Tryz.prog 108 #[.slice AL2 (n - k) c2] W fun e w' => ∃ v, e = .returned v ∧ w'.ownsRow W.heap.size 53 6 v (n - k) ((List.range (n - k)).map fun i => vl (k + i)).flatten ∧ Below W.heap.size W w' := fun W AL2 c2 hW a1 => by
  refine sl_Clone W AL2 g (oL + 6 * k) (n - k) c2 (fun i => vl (k + i)) (by omega) a1 (fun i hi => h6 (k + i) (by omega)) (fun i hi j hj => ?_) (fun i hi => h1 (k + i) (by omega))
  rw [← hcW W (bthen hb2 hW) (k + i) (by omega) j hj]
  congr 2
  omega
 have cd1 : ∀ W v, Below W2.heap.size W2 W → W.ownsRow W2.heap.size 53 6 v k ((List.range k).map vl).flatten → Calls Tryz.prog 107 #[v, .func (.func 106) #[] #[.pointer (some ⟨w.heap.size + 1, 0, none⟩), .pointer (some ⟨w.heap.size, 0, none⟩)]] W fun e w' => e = .returned v ∧ Below W.heap.size W w' := fun W v hW hO => by
  obtain ⟨A, g', c, rfl, q1, q2⟩ := own_six hO (fun i hi => h6 i (by omega))
  exact del_none W A g' 0 k c _ _ (fun i => (key i).data.toList == K.data.toList) vl (by omega) q1 (fun i hi => h6 i (by omega)) q2 (fun i W' hi hB => ceq W hW i W' (by omega) hB) (fun i hi => hne i (by omega))
 have cd2 : ∀ W v, Below W2.heap.size W2 W → W.ownsRow W2.heap.size 53 6 v (n - k) ((List.range (n - k)).map fun i => vl (k + i)).flatten → Calls Tryz.prog 107 #[v, .func (.func 106) #[] #[.pointer (some ⟨w.heap.size + 1, 0, none⟩), .pointer (some ⟨w.heap.size, 0, none⟩)]] W fun e w' => e = .returned v ∧ Below W.heap.size W w' := fun W v hW hO => by
  obtain ⟨A, g', c, rfl, q1, q2⟩ := own_six hO (fun i hi => h6 (k + i) (by omega))
  exact del_none W A g' 0 (n - k) c _ _ (fun i => (key (k + i)).data.toList == K.data.toList) (fun i => vl (k + i)) (by omega) q1 (fun i hi => h6 (k + i) (by omega)) q2 (fun i W' hi hB => ceq W hW (k + i) W' (by omega) hB) (fun i hi => hne (k + i) (by omega))
 obtain ⟨m, hm⟩ : ∃ m, m = n - k := ⟨_, rfl⟩
 rw [← hm] at cl2 cd2 ⊢
 obtain ⟨F1, hF1⟩ : ∃ F, F = ((List.range k).map vl).flatten := ⟨_, rfl⟩
 obtain ⟨F2, hF2⟩ : ∃ F, F = ((List.range m).map fun i => vl (k + i)).flatten := ⟨_, rfl⟩
 have o2 : ∀ u ∈ F2, u.oneCell' = true := fun u hu => by
  rw [hF2] at hu
  obtain ⟨l, hl, hul⟩ := List.mem_flatten.1 hu
  obtain ⟨i, hi, rfl⟩ := List.mem_map.1 hl
  exact h1 (k + i) (by have := List.mem_range.1 hi; omega) u hul
 rw [← hF1] at cl1 cd1 ⊢
 rw [← hF2] at cl2 cd2 ⊢
 have hfi : firstI (fun i => !ltB (key i).data.toList K.data.toList) n = if k < n then (k : Int) else -1 := by
  by_cases h : k < n
  ·rw [if_pos h]; exact firstI_at h (fun i hi => by simp [hlt i hi]) (by simp [hge h])
  ·rw [if_neg h]; exact firstI_no fun i hi => by simp [hlt i (by omega)]
 rw [hfi] at c104
 clear cge ceq hcW hc h5 h1 hlt hge hne hfi h6
 obtain ⟨f0, f1, f2, f3, f4, f5⟩ := id fX
 replace hA := hi_ hA
 replace fX := hi_ fX
 replace fC := hi_ fC
 replace hb2 := hi_ hb2
 replace hb1 := hi_ hb1
 replace hb12 := hi_ hb12
 replace cl1 := hi_ cl1
 replace cl2 := hi_ cl2
 replace cd1 := hi_ cd1
 replace cd2 := hi_ cd2
 replace hF1 := hi_ hF1
 replace hF2 := hi_ hF2
 replace o2 := hi_ o2
 replace hX := hi_ hX
 obtain ⟨i0, hi0, hz0, hz1, hz2⟩ := en_info
 replace hi0 := hi_ hi0
 replace hz0 := hi_ hz0
 replace hz1 := hi_ hz1
 replace hz2 := hi_ hz2
 go_enter Tryz.func72, Tryz.ntmps72
 go_upto_region 1 with (fail)
 rw [← hW1, ← hW2]
 replace hW1 := hi_ hW1
 replace hW2 := hi_ hW2
 by_cases hkn : k < n
 ·rw [if_pos hkn] at c104
  subst hm
  go_wp2_with (first
   | (go_at_call 104; (with_reducible refine c104.mono ?_); rintro e w3 ⟨rfl, hB3⟩; have c108 := cl1.out w3 hB3; replace hB3 := hi_ hB3)
   | (go_at_call 108; (with_reducible refine c108.mono ?_); rintro e w4 ⟨v4, rfl, hO4, hB4⟩; replace hO4 := own_base hO4 hB3.out.size; have hD4 := bthen hB3.out hB4; have c107 := cd1.out w4 v4 hD4 hO4; replace hO4 := hi_ hO4; replace hD4 := hi_ hD4; clear hB4 c108)
   | (go_at_call 107; (with_reducible refine c107.mono ?_); rintro e w5 ⟨rfl, hB5⟩; have hD5 := bthen hD4.out hB5; have hO5 := own_far hO4.out (fun b _ hb => hB5.block b hb); obtain ⟨y0, y1, y2, y3, y4, y5⟩ := six_kept fX.out hD5; have hbA := (Below.refl w5.heap.size w5).alloc (Nat.le_refl _) (.cells #[.string K, X0, X1, X2, X3, X4] 53); have hzA : (w5.alloc (.cells #[.string K, X0, X1, X2, X3, X4] 53)).heap.size = w5.heap.size + 1 := (World.size_alloc _ _); have hOA := own_far hO5 (fun b _ hb => hbA.block b hb); have hOX := one_row w5 [.string K, X0, X1, X2, X3, X4] rfl; replace hD5 := hi_ hD5; replace hbA := hi_ hbA; replace hzA := hi_ hzA; replace hOA := hi_ hOA; replace hOX := hi_ hOX; clear hB5 c107 hO5)
   | (at_builtin; refine app_row rfl _ _ rfl W2.heap.size v4 k F1 rfl hOA.out w5.heap.size _ 1 [.string K, X0, X1, X2, X3, X4] rfl hOX.out hX.out (by omega) (by rw [hzA.out]; have := hD5.out.size; omega) ?_; intro v6 w6 hO6 hg6; have hD6 : Below W2.heap.size W2 w6 := (bthen hD5.out hbA.out).grown hg6 (by rw [hzA.out]; have := hD5.out.size; omega) (fun q hq => (World.ownsRow.lt hOA.out _ hq).1); have c108b := cl2.out w6 (Option.map (fun x => x.add (k * 6)) AL) (cL - k) hD6 (fun h => by rw [hA.out (by omega)]; simp [Addr.add, Nat.mul_comm]); replace hO6 := hi_ hO6; clear hg6 hOA; replace hD6 := hi_ hD6)
   | (go_at_call 108; (with_reducible refine c108b.mono ?_); rintro e w7 ⟨v7, rfl, hO7, hB7⟩; replace hO7 := own_base hO7 hD6.out.size; have hD7 := bthen hD6.out hB7; have c107b := cd2.out w7 v7 hD7 hO7; have hP7 := own_far hO6.out (fun b _ hb => hB7.block b hb); replace hO7 := hi_ hO7; replace hD7 := hi_ hD7; replace hP7 := hi_ hP7; clear hB7 c108b)
   | (go_at_call 107; (with_reducible refine c107b.mono ?_); rintro e w8 ⟨rfl, hB8⟩; have hD8 := bthen hD7.out hB8; have hO8 := own_far hO7.out (fun b _ hb => hB8.block b hb); have hP8 := own_far hP7.out (fun b _ hb => hB8.block b hb); replace hO8 := hi_ hO8; replace hP8 := hi_ hP8; replace hD8 := hi_ hD8; clear hB8 c107b)
   | (at_builtin; refine app_row rfl _ _ rfl W2.heap.size v6 (k + 1) (F1 ++ [.string K, X0, X1, X2, X3, X4]) rfl hP8.out W2.heap.size _ (n - k) F2 rfl hO8.out o2.out (by omega) hD8.out.size ?_; intro v9 w9 hO9 hg9; have hD9 : Below W2.heap.size W2 w9 := hD8.out.grown hg9 hD8.out.size (fun q hq => (World.ownsRow.lt hP8.out _ hq).1); replace hO9 := hi_ hO9; replace hD9 := hi_ hD9; clear hg9))
  go_ret
  exact ⟨v9, rfl, by have h9 := own_base hO9.out (B' := w.heap.size) (by omega); rw [show k + 1 + (n - k) = n + 1 by omega] at h9; exact h9, hb2.out.trans (hD9.out.mono (by omega))⟩
 ·obtain rfl : k = n := by omega
  rw [if_neg (by omega)] at c104
  obtain rfl : m = 0 := by omega
  clear hm
  by_cases hck : cL = k
  ·replace hck := hck.symm
   subst hck
   go_wp2_with (first
    | (go_at_call 104; (with_reducible refine c104.mono ?_); rintro e w3 ⟨rfl, hB3⟩; have c108 := cl1.out w3 hB3; replace hB3 := hi_ hB3)
    | (go_at_call 108; (with_reducible refine c108.mono ?_); rintro e w4 ⟨v4, rfl, hO4, hB4⟩; replace hO4 := own_base hO4 hB3.out.size; have hD4 := bthen hB3.out hB4; have c107 := cd1.out w4 v4 hD4 hO4; replace hO4 := hi_ hO4; replace hD4 := hi_ hD4; clear hB4 c108)
    | (go_at_call 107; (with_reducible refine c107.mono ?_); rintro e w5 ⟨rfl, hB5⟩; have hD5 := bthen hD4.out hB5; have hO5 := own_far hO4.out (fun b _ hb => hB5.block b hb); obtain ⟨y0, y1, y2, y3, y4, y5⟩ := six_kept fX.out hD5; have hbA := (Below.refl w5.heap.size w5).alloc (Nat.le_refl _) (.cells #[.string K, X0, X1, X2, X3, X4] 53); have hzA : (w5.alloc (.cells #[.string K, X0, X1, X2, X3, X4] 53)).heap.size = w5.heap.size + 1 := (World.size_alloc _ _); have hOA := own_far hO5 (fun b _ hb => hbA.block b hb); have hOX := one_row w5 [.string K, X0, X1, X2, X3, X4] rfl; replace hD5 := hi_ hD5; replace hbA := hi_ hbA; replace hzA := hi_ hzA; replace hOA := hi_ hOA; replace hOX := hi_ hOX; clear hB5 c107 hO5)
    | (at_builtin; refine app_row rfl _ _ rfl W2.heap.size v4 k F1 rfl hOA.out w5.heap.size _ 1 [.string K, X0, X1, X2, X3, X4] rfl hOX.out hX.out (by omega) (by rw [hzA.out]; have := hD5.out.size; omega) ?_; intro v6 w6 hO6 hg6; have hD6 : Below W2.heap.size W2 w6 := (bthen hD5.out hbA.out).grown hg6 (by rw [hzA.out]; have := hD5.out.size; omega) (fun q hq => (World.ownsRow.lt hOA.out _ hq).1); have c108b := cl2.out w6 AL 0 hD6 (fun h => by omega); replace hO6 := hi_ hO6; clear hg6 hOA; replace hD6 := hi_ hD6)
    | (go_at_call 108; (with_reducible refine c108b.mono ?_); rintro e w7 ⟨v7, rfl, hO7, hB7⟩; replace hO7 := own_base hO7 hD6.out.size; have hD7 := bthen hD6.out hB7; have c107b := cd2.out w7 v7 hD7 hO7; have hP7 := own_far hO6.out (fun b _ hb => hB7.block b hb); replace hO7 := hi_ hO7; replace hD7 := hi_ hD7; replace hP7 := hi_ hP7; clear hB7 c108b)
    | (go_at_call 107; (with_reducible refine c107b.mono ?_); rintro e w8 ⟨rfl, hB8⟩; have hD8 := bthen hD7.out hB8; have hO8 := own_far hO7.out (fun b _ hb => hB8.block b hb); have hP8 := own_far hP7.out (fun b _ hb => hB8.block b hb); replace hO8 := hi_ hO8; replace hP8 := hi_ hP8; replace hD8 := hi_ hD8; clear hB8 c107b)
    | (at_builtin; refine app_row rfl _ _ rfl W2.heap.size v6 (k + 1) (F1 ++ [.string K, X0, X1, X2, X3, X4]) rfl hP8.out W2.heap.size _ 0 F2 rfl hO8.out o2.out (by omega) hD8.out.size ?_; intro v9 w9 hO9 hg9; have hD9 : Below W2.heap.size W2 w9 := hD8.out.grown hg9 hD8.out.size (fun q hq => (World.ownsRow.lt hP8.out _ hq).1); replace hO9 := hi_ hO9; replace hD9 := hi_ hD9; clear hg9))
   go_ret
   exact ⟨v9, rfl, by have h9 := own_base hO9.out (B' := w.heap.size) (by omega); exact h9, hb2.out.trans (hD9.out.mono (by omega))⟩
  ·have hck2 : cL - k ≠ 0 := by omega
   go_wp2_with (first
    | (go_at_call 104; (with_reducible refine c104.mono ?_); rintro e w3 ⟨rfl, hB3⟩; have c108 := cl1.out w3 hB3; replace hB3 := hi_ hB3)
    | (go_at_call 108; (with_reducible refine c108.mono ?_); rintro e w4 ⟨v4, rfl, hO4, hB4⟩; replace hO4 := own_base hO4 hB3.out.size; have hD4 := bthen hB3.out hB4; have c107 := cd1.out w4 v4 hD4 hO4; replace hO4 := hi_ hO4; replace hD4 := hi_ hD4; clear hB4 c108)
    | (go_at_call 107; (with_reducible refine c107.mono ?_); rintro e w5 ⟨rfl, hB5⟩; have hD5 := bthen hD4.out hB5; have hO5 := own_far hO4.out (fun b _ hb => hB5.block b hb); obtain ⟨y0, y1, y2, y3, y4, y5⟩ := six_kept fX.out hD5; have hbA := (Below.refl w5.heap.size w5).alloc (Nat.le_refl _) (.cells #[.string K, X0, X1, X2, X3, X4] 53); have hzA : (w5.alloc (.cells #[.string K, X0, X1, X2, X3, X4] 53)).heap.size = w5.heap.size + 1 := (World.size_alloc _ _); have hOA := own_far hO5 (fun b _ hb => hbA.block b hb); have hOX := one_row w5 [.string K, X0, X1, X2, X3, X4] rfl; replace hD5 := hi_ hD5; replace hbA := hi_ hbA; replace hzA := hi_ hzA; replace hOA := hi_ hOA; replace hOX := hi_ hOX; clear hB5 c107 hO5)
    | (at_builtin; refine app_row rfl _ _ rfl W2.heap.size v4 k F1 rfl hOA.out w5.heap.size _ 1 [.string K, X0, X1, X2, X3, X4] rfl hOX.out hX.out (by omega) (by rw [hzA.out]; have := hD5.out.size; omega) ?_; intro v6 w6 hO6 hg6; have hD6 : Below W2.heap.size W2 w6 := (bthen hD5.out hbA.out).grown hg6 (by rw [hzA.out]; have := hD5.out.size; omega) (fun q hq => (World.ownsRow.lt hOA.out _ hq).1); have c108b := cl2.out w6 (Option.map (fun x => x.add (k * 6)) AL) (cL - k) hD6 (fun h => by omega); replace hO6 := hi_ hO6; clear hg6 hOA; replace hD6 := hi_ hD6)
    | (go_at_call 108; (with_reducible refine c108b.mono ?_); rintro e w7 ⟨v7, rfl, hO7, hB7⟩; replace hO7 := own_base hO7 hD6.out.size; have hD7 := bthen hD6.out hB7; have c107b := cd2.out w7 v7 hD7 hO7; have hP7 := own_far hO6.out (fun b _ hb => hB7.block b hb); replace hO7 := hi_ hO7; replace hD7 := hi_ hD7; replace hP7 := hi_ hP7; clear hB7 c108b)
    | (go_at_call 107; (with_reducible refine c107b.mono ?_); rintro e w8 ⟨rfl, hB8⟩; have hD8 := bthen hD7.out hB8; have hO8 := own_far hO7.out (fun b _ hb => hB8.block b hb); have hP8 := own_far hP7.out (fun b _ hb => hB8.block b hb); replace hO8 := hi_ hO8; replace hP8 := hi_ hP8; replace hD8 := hi_ hD8; clear hB8 c107b)
    | (at_builtin; refine app_row rfl _ _ rfl W2.heap.size v6 (k + 1) (F1 ++ [.string K, X0, X1, X2, X3, X4]) rfl hP8.out W2.heap.size _ 0 F2 rfl hO8.out o2.out (by omega) hD8.out.size ?_; intro v9 w9 hO9 hg9; have hD9 : Below W2.heap.size W2 w9 := hD8.out.grown hg9 hD8.out.size (fun q hq => (World.ownsRow.lt hP8.out _ hq).1); replace hO9 := hi_ hO9; replace hD9 := hi_ hD9; clear hg9))
   go_ret
   exact ⟨v9, rfl, by have h9 := own_base hO9.out (B' := w.heap.size) (by omega); exact h9, hb2.out.trans (hD9.out.mono (by omega))⟩

/- An entry put together: Pair, Int, by the program and by the document. No condition. -/
theorem put_six {w : World} {R lo hi : Nat} {o : Ob} {K : ByteArray} {z0 z1 z2 z3 z4 z5 u0 u1 u2 u3 u4 : Value} (hR : Blk w R 53 #[z0, z1, z2, z3, z4, z5]) (hI : ObI lo hi w o [u0, u1, u2, u3, u4]) (hlt : R < lo) {Wf : World}
 (hWf : Wf = (((((w.setCell ⟨R, 0, none⟩ (.string K)).setCell ⟨R, 1, none⟩ u0).setCell ⟨R, 2, none⟩ u1).setCell ⟨R, 3, none⟩ u2).setCell ⟨R, 4, none⟩ u3).setCell ⟨R, 5, none⟩ u4) :
 Blk Wf R 53 #[.string K, u0, u1, u2, u3, u4] ∧ ObI lo Wf.heap.size Wf o [u0, u1, u2, u3, u4] ∧ w.grownBy Wf (some R) ∧ Wf.heap.size = w.heap.size := by
 have hg : w.grownBy Wf (some R) := by
  rw [hWf]
  exact (((((set_grown _ _ _ _).trans (set_grown _ _ _ _)).trans (set_grown _ _ _ _)).trans (set_grown _ _ _ _)).trans (set_grown _ _ _ _)).trans (set_grown _ _ _ _)
 have hz : Wf.heap.size = w.heap.size := by rw [hWf]; simp [World.setCell]
 refine ⟨?_, ?_, hg, hz⟩
 ·rw [hWf]; exact (((((hR.set_ 0 (.string K)).set_ 1 u0).set_ 2 u1).set_ 3 u2).set_ 4 u3).set_ 5 u4
 ·have h2 := hI.keep (w' := Wf) (fun b h1 h2 => hg.block b (by have := hI.1; omega) (fun e => by injection e with e; omega)) (by have := hI.1; omega)
  exact ⟨Nat.le_refl _, fun w2 h3 h4 => h2.2 w2 (fun b h5 h6 => h3 b h5 (by have := h2.1; omega)) (by have := h2.1; omega)⟩
theorem num_I {B : Nat} {w : World} (n : Int) (h1 : -9223372036854775808 ≤ n) (h2 : n ≤ 9223372036854775807) : ObI B w.heap.size w (.mk 2 n [] [] []) [.int .i64 2, .int .i64 n, .slice none 0 0, .slice none 0 0, .slice none 0 0] :=
 built (tb := 5) (tO := 26) (tE := 53) (by omega) (by omega) h1 h2 (World.ownsRow_nil _ _ _ _) (by decide) (RowG.nil _ _ _ _ _) (RowG.nil _ _ _ _ _)
set_option maxHeartbeats 4000000 in
set_option maxRecDepth 100000 in
theorem cos_Pair (o : Ob) (vs : List Value) (w : World) (h : ObAt w o vs) (hbk : o.bulk ≤ 1048576) (K : ByteArray) : Calls Tryz.prog 44 #[.string K, .agg vs.toArray] w fun e w' => ∃ us, e = .returned (.agg (List.toArray (.string K :: us))) ∧ ObI w.heap.size w'.heap.size w' o us ∧ Below w.heap.size w w' := by
 obtain ⟨en, E1, E2, E3, en1, ec1, en2, ec2, en3, ec3, hys⟩ := ob_five2 h
 obtain ⟨kk, hkk⟩ : ∃ k, k = o.kind := ⟨_, rfl⟩
 rw [← hkk] at hys
 subst hys
 obtain ⟨W1, hW1⟩ : ∃ W, W = w.alloc (.cells #[.int .i64 kk, .int .i64 en, .slice E1 en1 ec1, .slice E2 en2 ec2, .slice E3 en3 ec3] 26) := ⟨_, rfl⟩
 obtain ⟨W2, hW2⟩ : ∃ W, W = W1.alloc (.cells #[.string ⟨#[]⟩, .int .i64 0, .int .i64 0, .slice none 0 0, .slice none 0 0, .slice none 0 0] 53) := ⟨_, rfl⟩
 have hb1 : Below w.heap.size w W1 := by rw [hW1]; exact (Below.refl _ _).alloc (Nat.le_refl _) _
 have z1 : W1.heap.size = w.heap.size + 1 := by rw [hW1, World.size_alloc]
 have hb12 : Below W1.heap.size W1 W2 := by rw [hW2]; exact (Below.refl _ _).alloc (Nat.le_refl _) _
 have hb2 : Below w.heap.size w W2 := bthen hb1 hb12
 have z2 : W2.heap.size = w.heap.size + 2 := by rw [hW2, World.size_alloc, z1]
 obtain ⟨f0, f1, f2, f3, f4⟩ := five_kept (five_cells hW1) hb12
 have hR2 : Blk W2 (w.heap.size + 1) 53 #[.string ⟨#[]⟩, .int .i64 0, .int .i64 0, .slice none 0 0, .slice none 0 0, .slice none 0 0] := by rw [hW2, ← z1]; exact Blk.new W1 53 _
 have cc := copy_all 1048576 (Nat.le_refl _) o _ W2 (h.kept hb2) hbk
 replace hkk := hi_ hkk
 replace hb2 := hi_ hb2
 replace hb1 := hi_ hb1
 replace hb12 := hi_ hb12
 replace hR2 := hi_ hR2
 clear h hbk
 go_enter Tryz.func44, Tryz.ntmps44
 go_upto_region 1 with (fail)
 rw [← hW1, ← hW2]
 replace hW1 := hi_ hW1
 replace hW2 := hi_ hW2
 go_wp2_with (go_at_call 66; (with_reducible refine cc.mono ?_); rintro e' w6 ⟨us, rfl, hI, hB6⟩; obtain ⟨en', E1', E2', E3', en1', ec1', en2', ec2', en3', ec3', hys'⟩ := ob_five2 hI.ob; rw [← hkk.out] at hys'; subst hys'; have hRb := hR2.out.below hB6 (by omega); have r0 := hRb.cell 0; have r1 := hRb.cell 1; have r2 := hRb.cell 2; have r3 := hRb.cell 3; have r4 := hRb.cell 4; have r5 := hRb.cell 5; have v0 := hRb.frozen 0; have v1 := hRb.frozen 1; have v2 := hRb.frozen 2; have v3 := hRb.frozen 3; have v4 := hRb.frozen 4; have v5 := hRb.frozen 5; replace hRb := hi_ hRb; replace hB6 := hi_ hB6; replace hI := hi_ hI; clear cc)
 obtain ⟨Wf, hWf⟩ : ∃ W, W = (((((w6.setCell ⟨w.heap.size + 1, 0, none⟩ (.string K)).setCell ⟨w.heap.size + 1, 1, none⟩ (.int .i64 kk)).setCell ⟨w.heap.size + 1, 2, none⟩ (.int .i64 en')).setCell ⟨w.heap.size + 1, 3, none⟩ (.slice E1' en1' ec1')).setCell ⟨w.heap.size + 1, 4, none⟩ (.slice E2' en2' ec2')).setCell ⟨w.heap.size + 1, 5, none⟩ (.slice E3' en3' ec3') := ⟨_, rfl⟩
 rw [← hWf]
 obtain ⟨hbf, hI2, hg, hz⟩ := put_six hRb.out hI.out (by omega) hWf
 have hBf : Below w.heap.size w Wf := (bthen hb2.out hB6.out).grown hg (by have := hB6.out.size; omega) (fun q hq => by injection hq with hq; omega)
 have u0 := hbf.cell 0
 have u1 := hbf.cell 1
 have u2 := hbf.cell 2
 have u3 := hbf.cell 3
 have u4 := hbf.cell 4
 have u5 := hbf.cell 5
 replace hI2 := hi_ (hI2.wide (show w.heap.size ≤ W2.heap.size by omega))
 replace hBf := hi_ hBf
 clear hbf hg
 replace hWf := hi_ hWf
 exact bodyPost_ret (by simp [results, Tryz.results44, go_sem, u0, u1, u2, u3, u4, u5]; try rfl) rfl ⟨[.int .i64 kk, .int .i64 en', .slice E1' en1' ec1', .slice E2' en2' ec2', .slice E3' en3' ec3'], rfl, hI2.out, hBf.out⟩
set_option maxHeartbeats 4000000 in
set_option maxRecDepth 100000 in
theorem cos_Int (n : Int) (w : World) (h1 : -9223372036854775808 ≤ n) (h2 : n ≤ 9223372036854775807) : Calls Tryz.prog 45 #[.int .i64 n] w fun e w' => e = .returned (.agg #[.int .i64 2, .int .i64 n, .slice none 0 0, .slice none 0 0, .slice none 0 0]) ∧ Below w.heap.size w w' := by
 have hR := Blk.new w 26 #[.int .i64 0, .int .i64 0, .slice none 0 0, .slice none 0 0, .slice none 0 0]
 have hb : Below w.heap.size w (w.alloc (.cells #[.int .i64 0, .int .i64 0, .slice none 0 0, .slice none 0 0, .slice none 0 0] 26)) := (Below.refl _ _).alloc (Nat.le_refl _) _
 obtain ⟨W1, hW1⟩ : ∃ W, W = w.alloc (.cells #[.int .i64 0, .int .i64 0, .slice none 0 0, .slice none 0 0, .slice none 0 0] 26) := ⟨_, rfl⟩
 rw [← hW1] at hR hb
 have r0 := hR.cell 0
 have r1 := hR.cell 1
 have r2 := hR.cell 2
 have r3 := hR.cell 3
 have r4 := hR.cell 4
 have v0 := hR.frozen 0
 have v1 := hR.frozen 1
 have v2 := hR.frozen 2
 have v3 := hR.frozen 3
 have v4 := hR.frozen 4
 replace hb := hi_ hb
 replace hR := hi_ hR
 replace h1 := hi_ h1
 replace h2 := hi_ h2
 go_enter Tryz.func45, Tryz.ntmps45
 go_upto_region 1 with (fail)
 rw [← hW1]
 replace hW1 := hi_ hW1
 go_wp2
 obtain ⟨Wf, hWf⟩ : ∃ W, W = ((((W1.setCell ⟨w.heap.size, 0, none⟩ (.int .i64 2)).setCell ⟨w.heap.size, 1, none⟩ (.int .i64 n)).setCell ⟨w.heap.size, 2, none⟩ (.slice none 0 0)).setCell ⟨w.heap.size, 3, none⟩ (.slice none 0 0)).setCell ⟨w.heap.size, 4, none⟩ (.slice none 0 0) := ⟨_, rfl⟩
 rw [← hWf]
 obtain ⟨hbf, _, hgf, hz⟩ := put_res (lo := w.heap.size + 1) (hi := W1.heap.size) hR.out (num_I n h1.out h2.out) (by omega) hWf
 have u0 := hbf.cell 0
 have u1 := hbf.cell 1
 have u2 := hbf.cell 2
 have u3 := hbf.cell 3
 have u4 := hbf.cell 4
 have hB : Below w.heap.size w Wf := hb.out.grown hgf hb.out.size (fun q hq => by injection hq with hq; omega)
 replace hB := hi_ hB
 clear hbf hgf
 replace hWf := hi_ hWf
 exact bodyPost_ret (by simp [results, Tryz.results45, go_sem, u0, u1, u2, u3, u4]; try rfl) rfl ⟨rfl, hB.out⟩
set_option maxHeartbeats 4000000 in
set_option maxRecDepth 100000 in
theorem ref_Pair (o : Ob) (vs : List Value) (w : World) (h : ObAt w o vs) (hbk : o.bulk ≤ 1048576) (K : ByteArray) : Calls Tryz.prog 25 #[.string K, .agg vs.toArray] w fun e w' => ∃ us, e = .returned (.agg (List.toArray (.string K :: us))) ∧ ObI w.heap.size w'.heap.size w' o us ∧ Below w.heap.size w w' := by
 obtain ⟨en, E1, E2, E3, en1, ec1, en2, ec2, en3, ec3, hys⟩ := ob_five2 h
 obtain ⟨kk, hkk⟩ : ∃ k, k = o.kind := ⟨_, rfl⟩
 rw [← hkk] at hys
 subst hys
 obtain ⟨W1, hW1⟩ : ∃ W, W = w.alloc (.cells #[.int .i64 kk, .int .i64 en, .slice E1 en1 ec1, .slice E2 en2 ec2, .slice E3 en3 ec3] 26) := ⟨_, rfl⟩
 obtain ⟨W2, hW2⟩ : ∃ W, W = W1.alloc (.cells #[.string ⟨#[]⟩, .int .i64 0, .int .i64 0, .slice none 0 0, .slice none 0 0, .slice none 0 0] 53) := ⟨_, rfl⟩
 have hb1 : Below w.heap.size w W1 := by rw [hW1]; exact (Below.refl _ _).alloc (Nat.le_refl _) _
 have z1 : W1.heap.size = w.heap.size + 1 := by rw [hW1, World.size_alloc]
 have hb12 : Below W1.heap.size W1 W2 := by rw [hW2]; exact (Below.refl _ _).alloc (Nat.le_refl _) _
 have hb2 : Below w.heap.size w W2 := bthen hb1 hb12
 have z2 : W2.heap.size = w.heap.size + 2 := by rw [hW2, World.size_alloc, z1]
 obtain ⟨f0, f1, f2, f3, f4⟩ := five_kept (five_cells hW1) hb12
 have hR2 : Blk W2 (w.heap.size + 1) 53 #[.string ⟨#[]⟩, .int .i64 0, .int .i64 0, .slice none 0 0, .slice none 0 0, .slice none 0 0] := by rw [hW2, ← z1]; exact Blk.new W1 53 _
 have cc := rcopy_all 1048576 (by omega) o _ W2 (h.kept hb2) hbk
 replace hkk := hi_ hkk
 replace hb2 := hi_ hb2
 replace hb1 := hi_ hb1
 replace hb12 := hi_ hb12
 replace hR2 := hi_ hR2
 clear h hbk
 go_enter Tryz.func25, Tryz.ntmps25
 go_upto_region 1 with (fail)
 rw [← hW1, ← hW2]
 replace hW1 := hi_ hW1
 replace hW2 := hi_ hW2
 go_wp2_with (go_at_call 51; (with_reducible refine cc.mono ?_); rintro e' w6 ⟨us, rfl, hI, hB6⟩; obtain ⟨en', E1', E2', E3', en1', ec1', en2', ec2', en3', ec3', hys'⟩ := ob_five2 hI.ob; rw [← hkk.out] at hys'; subst hys'; have hRb := hR2.out.below hB6 (by omega); have r0 := hRb.cell 0; have r1 := hRb.cell 1; have r2 := hRb.cell 2; have r3 := hRb.cell 3; have r4 := hRb.cell 4; have r5 := hRb.cell 5; have v0 := hRb.frozen 0; have v1 := hRb.frozen 1; have v2 := hRb.frozen 2; have v3 := hRb.frozen 3; have v4 := hRb.frozen 4; have v5 := hRb.frozen 5; replace hRb := hi_ hRb; replace hB6 := hi_ hB6; replace hI := hi_ hI; clear cc)
 obtain ⟨Wf, hWf⟩ : ∃ W, W = (((((w6.setCell ⟨w.heap.size + 1, 0, none⟩ (.string K)).setCell ⟨w.heap.size + 1, 1, none⟩ (.int .i64 kk)).setCell ⟨w.heap.size + 1, 2, none⟩ (.int .i64 en')).setCell ⟨w.heap.size + 1, 3, none⟩ (.slice E1' en1' ec1')).setCell ⟨w.heap.size + 1, 4, none⟩ (.slice E2' en2' ec2')).setCell ⟨w.heap.size + 1, 5, none⟩ (.slice E3' en3' ec3') := ⟨_, rfl⟩
 rw [← hWf]
 obtain ⟨hbf, hI2, hg, hz⟩ := put_six hRb.out hI.out (by omega) hWf
 have hBf : Below w.heap.size w Wf := (bthen hb2.out hB6.out).grown hg (by have := hB6.out.size; omega) (fun q hq => by injection hq with hq; omega)
 have u0 := hbf.cell 0
 have u1 := hbf.cell 1
 have u2 := hbf.cell 2
 have u3 := hbf.cell 3
 have u4 := hbf.cell 4
 have u5 := hbf.cell 5
 replace hI2 := hi_ (hI2.wide (show w.heap.size ≤ W2.heap.size by omega))
 replace hBf := hi_ hBf
 clear hbf hg
 replace hWf := hi_ hWf
 exact bodyPost_ret (by simp [results, Tryz.results25, go_sem, u0, u1, u2, u3, u4, u5]; try rfl) rfl ⟨[.int .i64 kk, .int .i64 en', .slice E1' en1' ec1', .slice E2' en2' ec2', .slice E3' en3' ec3'], rfl, hI2.out, hBf.out⟩
set_option maxHeartbeats 4000000 in
set_option maxRecDepth 100000 in
theorem ref_Int (n : Int) (w : World) (h1 : -9223372036854775808 ≤ n) (h2 : n ≤ 9223372036854775807) : Calls Tryz.prog 27 #[.int .i64 n] w fun e w' => e = .returned (.agg #[.int .i64 2, .int .i64 n, .slice none 0 0, .slice none 0 0, .slice none 0 0]) ∧ Below w.heap.size w w' := by
 have hR := Blk.new w 26 #[.int .i64 0, .int .i64 0, .slice none 0 0, .slice none 0 0, .slice none 0 0]
 have hb : Below w.heap.size w (w.alloc (.cells #[.int .i64 0, .int .i64 0, .slice none 0 0, .slice none 0 0, .slice none 0 0] 26)) := (Below.refl _ _).alloc (Nat.le_refl _) _
 obtain ⟨W1, hW1⟩ : ∃ W, W = w.alloc (.cells #[.int .i64 0, .int .i64 0, .slice none 0 0, .slice none 0 0, .slice none 0 0] 26) := ⟨_, rfl⟩
 rw [← hW1] at hR hb
 have r0 := hR.cell 0
 have r1 := hR.cell 1
 have r2 := hR.cell 2
 have r3 := hR.cell 3
 have r4 := hR.cell 4
 have v0 := hR.frozen 0
 have v1 := hR.frozen 1
 have v2 := hR.frozen 2
 have v3 := hR.frozen 3
 have v4 := hR.frozen 4
 replace hb := hi_ hb
 replace hR := hi_ hR
 replace h1 := hi_ h1
 replace h2 := hi_ h2
 go_enter Tryz.func27, Tryz.ntmps27
 go_upto_region 1 with (fail)
 rw [← hW1]
 replace hW1 := hi_ hW1
 go_wp2
 obtain ⟨Wf, hWf⟩ : ∃ W, W = ((((W1.setCell ⟨w.heap.size, 0, none⟩ (.int .i64 2)).setCell ⟨w.heap.size, 1, none⟩ (.int .i64 n)).setCell ⟨w.heap.size, 2, none⟩ (.slice none 0 0)).setCell ⟨w.heap.size, 3, none⟩ (.slice none 0 0)).setCell ⟨w.heap.size, 4, none⟩ (.slice none 0 0) := ⟨_, rfl⟩
 rw [← hWf]
 obtain ⟨hbf, _, hgf, hz⟩ := put_res (lo := w.heap.size + 1) (hi := W1.heap.size) hR.out (num_I n h1.out h2.out) (by omega) hWf
 have u0 := hbf.cell 0
 have u1 := hbf.cell 1
 have u2 := hbf.cell 2
 have u3 := hbf.cell 3
 have u4 := hbf.cell 4
 have hB : Below w.heap.size w Wf := hb.out.grown hgf hb.out.size (fun q hq => by injection hq with hq; omega)
 replace hB := hi_ hB
 clear hbf hgf
 replace hWf := hi_ hWf
 exact bodyPost_ret (by simp [results, Tryz.results27, go_sem, u0, u1, u2, u3, u4]; try rfl) rfl ⟨rfl, hB.out⟩

/- Bytes of arrays, by the document's own answer. No condition. -/

/- Bytes appended to a constant's bytes. No condition. -/
def OwnX (B : Nat) (w : World) (v : Value) (bs : List UInt8) : Prop := Own B w v bs ∨ ∃ g, v = .slice (some ⟨g, 0, none⟩) bs.length bs.length ∧ g < w.heap.size ∧ Byt w (some ⟨g, 0, none⟩) bs
theorem OwnX.below {B : Nat} {w w' : World} {v : Value} {bs : List UInt8} (h : OwnX B w v bs) (hb : Below w.heap.size w w') : OwnX B w' v bs := by
 rcases h with h | ⟨g, h1, h2, h3⟩
 ·exact .inl (h.below hb)
 ·exact .inr ⟨g, h1, Nat.lt_of_lt_of_le h2 hb.size, h3.below hb⟩
theorem conv_const (w : World) (C : Array Value) (n c : Nat) : (convert 22 22 (.slice (some ⟨w.heap.size, 0, none⟩) n c)).run Tryz.prog (w.alloc (.cells C 5)) = .ok (.slice (some ⟨w.heap.size, 0, none⟩) n c) (w.alloc (.cells C 5 (C.size, C.size + 1))) :=
 Lib.run_convert_bytes_const w 22 5 C n c Tryz.underlying22 Tryz.underlying5
theorem byt_mark (w : World) (l : List UInt8) (C : Array Value) (m : Nat × Nat) (hC : C = (valsB l).toArray) (hl : l.length ≤ maxLen) : Byt (w.alloc (.cells C 5 m)) (some ⟨w.heap.size, 0, none⟩) l := by
 subst hC
 refine ⟨hl, fun _ => ⟨_, 0, rfl, fun i hi => ?_⟩⟩
 have : (w.alloc (.cells (valsB l).toArray 5 m)).cell? ⟨w.heap.size, 0 + i, none⟩ = (valsB l)[i]? := by
  rw [Nat.zero_add, Lib.cell_of_heap (heap_alloc_new w (.cells (valsB l).toArray 5 m))]; simp
 rw [this]
 simp [valsB, hi]
theorem below_mark (w : World) (C : Array Value) (m : Nat × Nat) : Below w.heap.size w (w.alloc (.cells C 5 m)) := (Below.refl _ _).alloc (Nat.le_refl _) _

/- Bytes appended to bytes that were made of a text: the row is marked, and may have room. No condition. -/
def OwnM (B : Nat) (w : World) (v : Value) (bs : List UInt8) : Prop := Own B w v bs ∨ ∃ g cap cur lo hi, v = .slice (some ⟨g, 0, none⟩) bs.length cap ∧ B ≤ g ∧ w.heap[g]? = some (.cells cur 5 (lo, hi)) ∧ cap ≤ lo ∧ bs.length ≤ cap ∧ cap ≤ maxLen ∧ cur.size = cap ∧ cur.toList.take bs.length = valsB bs
theorem OwnM.below {B : Nat} {w w' : World} {v : Value} {bs : List UInt8} (h : OwnM B w v bs) (hb : Below w.heap.size w w') : OwnM B w' v bs := by
 rcases h with h | ⟨g, cap, cur, lo, hi, h1, h2, h3, rest⟩
 ·exact .inl (h.below hb)
 ·exact .inr ⟨g, cap, cur, lo, hi, h1, h2, (hb.block g (Array.getElem?_eq_some_iff.1 h3).1).trans h3, rest⟩
theorem row_byt {w : World} {g : Nat} {cur : Array Value} {m : Nat × Nat} {bs : List UInt8} (h : w.heap[g]? = some (.cells cur 5 m)) (ht : cur.toList.take bs.length = valsB bs) (hm : bs.length ≤ maxLen) : Byt w (some ⟨g, 0, none⟩) bs := by
 refine ⟨hm, fun _ => ⟨g, 0, rfl, fun i hi => ?_⟩⟩
 have h1 : w.cell? ⟨g, 0 + i, none⟩ = cur[i]? := by rw [Nat.zero_add, cell_of_row w g i cur 5 m h]
 have h2 : (valsB bs)[i]? = some (.int .u8 (bs[i].toNat : Int)) := by simp [valsB, hi]
 rw [← ht, List.getElem?_take, if_pos hi] at h2
 rw [h1]; simpa using h2
theorem OwnM.out {B : Nat} {w : World} {v : Value} {bs : List UInt8} (h : OwnM B w v bs) (hm : bs.length ≤ maxLen) : ∃ A c, v = .slice A bs.length c ∧ Byt w A bs ∧ (A = none → c = 0) := by
 rcases h with h | ⟨g, cap, cur, lo, hi, rfl, h2, h3, h4, h5, h6, h7, h8⟩
 ·exact h.out hm
 ·exact ⟨_, _, rfl, row_byt h3 h8 hm, fun e => by cases e⟩

/- Objects put together by the document: Name, Str. No condition. -/
theorem obI_bytes {lo : Nat} {w : World} {k n : Int} {A : Option Addr} {c : Nat} {b : List UInt8} (h1 : -9223372036854775808 ≤ k) (h2 : k ≤ 9223372036854775807) (h3 : -9223372036854775808 ≤ n) (h4 : n ≤ 9223372036854775807)
 (hb : Byt w A b) (hc : b.length ≤ c) (hA : A = none → c = 0) (hlo : 0 < b.length → ∀ x, A = some x → lo ≤ x.block) :
 ObI lo w.heap.size w (.mk k n b [] []) [.int .i64 k, .int .i64 n, .slice A b.length c, .slice none 0 0, .slice none 0 0] := by
 refine ⟨Nat.le_refl _, fun w' h hz => ?_⟩
 have hb' : Byt w' A b := by
  refine ⟨hb.1, fun h0 => ?_⟩
  obtain ⟨g, o, e, hcs⟩ := hb.2 h0
  refine ⟨g, o, e, fun i hi => ?_⟩
  have hg := hlo h0 _ e
  rw [World.cell?_of_block (w := w) (h g hg (cell_lt (hcs i hi)))]
  exact hcs i hi
 exact ObAt.mk k n b [] [] A none none c 0 0 0 0 0 0 (fun _ => []) (fun _ => []) h1 h2 h3 h4 hb' hc hA (by simp) (by simp) (by simp) (by simp) (by simp) (by simp) (by simp) (by simp) (by simp) (by simp) (by simp)
set_option maxHeartbeats 4000000 in
set_option maxRecDepth 100000 in
theorem ref_NameC (S : ByteArray) (hS : S.size ≤ 1000000) (w : World) : Calls Tryz.prog 28 #[.string S] w fun e w' => ∃ us, e = .returned (.agg (List.toArray us)) ∧ ObI w.heap.size w'.heap.size w' (.mk 5 0 S.data.toList [] []) us ∧ Below w.heap.size w w' := by
 obtain ⟨W1, hW1⟩ : ∃ W, W = w.alloc (.cells #[.int .i64 0, .int .i64 0, .slice none 0 0, .slice none 0 0, .slice none 0 0] 26) := ⟨_, rfl⟩
 have hR := Blk.new w 26 #[.int .i64 0, .int .i64 0, .slice none 0 0, .slice none 0 0, .slice none 0 0]
 have hb : Below w.heap.size w (w.alloc (.cells #[.int .i64 0, .int .i64 0, .slice none 0 0, .slice none 0 0, .slice none 0 0] 26)) := (Below.refl _ _).alloc (Nat.le_refl _) _
 have z1 : W1.heap.size = w.heap.size + 1 := by rw [hW1, World.size_alloc]
 rw [← hW1] at hR hb
 obtain ⟨c, W2, hcv, hby, hb2, hc2, hz2⟩ := conv_bytes W1 S (by omega)
 have hlen : S.data.toList.length = S.size := Array.length_toList
 have hR2 := hR.below hb2 hR.lt
 have r0 := hR2.cell 0
 have r1 := hR2.cell 1
 have r2 := hR2.cell 2
 have r3 := hR2.cell 3
 have r4 := hR2.cell 4
 have v0 := hR2.frozen 0
 have v1 := hR2.frozen 1
 have v2 := hR2.frozen 2
 have v3 := hR2.frozen 3
 have v4 := hR2.frozen 4
 have hI : ObI (w.heap.size + 1) W2.heap.size W2 (.mk 5 0 S.data.toList [] []) [.int .i64 5, .int .i64 0, .slice (some ⟨W1.heap.size, 0, none⟩) S.data.toList.length c, .slice none 0 0, .slice none 0 0] :=
  obI_bytes (by omega) (by omega) (by omega) (by omega) hby (by omega) (fun e => by cases e) (fun _ x hx => by injection hx with hx; rw [← hx]; show w.heap.size + 1 ≤ W1.heap.size; omega)
 rw [hlen] at hI
 have hbb := bthen hb hb2
 replace hb := hi_ hb
 replace hbb := hi_ hbb
 replace hb2 := hi_ hb2
 replace hR := hi_ hR
 replace hR2 := hi_ hR2
 replace hI := hi_ hI
 replace hby := hi_ hby
 replace hlen := hi_ hlen
 replace z1 := hi_ z1
 replace hz2 := hi_ hz2
 replace hc2 := hi_ hc2
 replace hS := hi_ hS
 go_enter Tryz.func28, Tryz.ntmps28
 go_upto_region 1 with (fail)
 rw [← hW1]
 replace hW1 := hi_ hW1
 go_wp2
 obtain ⟨Wf, hWf⟩ : ∃ W, W = ((((W2.setCell ⟨w.heap.size, 0, none⟩ (.int .i64 5)).setCell ⟨w.heap.size, 1, none⟩ (.int .i64 0)).setCell ⟨w.heap.size, 2, none⟩ (.slice (some ⟨W1.heap.size, 0, none⟩) S.size c)).setCell ⟨w.heap.size, 3, none⟩ (.slice none 0 0)).setCell ⟨w.heap.size, 4, none⟩ (.slice none 0 0) := ⟨_, rfl⟩
 rw [← hWf]
 obtain ⟨hbf, hIf, hgf, hz⟩ := put_res (lo := w.heap.size + 1) (hi := W2.heap.size) hR2.out hI.out (by omega) hWf
 have u0 := hbf.cell 0
 have u1 := hbf.cell 1
 have u2 := hbf.cell 2
 have u3 := hbf.cell 3
 have u4 := hbf.cell 4
 have hB : Below w.heap.size w Wf := hbb.out.grown hgf hbb.out.size (fun q hq => by injection hq with hq; omega)
 replace hB := hi_ hB
 replace hIf := hi_ (hIf.wide (show w.heap.size ≤ w.heap.size + 1 by omega))
 clear hbf hgf
 replace hWf := hi_ hWf
 exact bodyPost_ret (by simp [results, Tryz.results28, go_sem, u0, u1, u2, u3, u4]; try rfl) rfl ⟨_, rfl, hIf.out, hB.out⟩
set_option maxHeartbeats 4000000 in
set_option maxRecDepth 100000 in
theorem ref_StrC (A : Option Addr) (c : Nat) (bs : List UInt8) (w : World) (hb0 : Byt w A bs) (hl : bs.length ≤ 1000000) : Calls Tryz.prog 29 #[.slice A bs.length c] w fun e w' => ∃ us, e = .returned (.agg (List.toArray us)) ∧ ObI w.heap.size w'.heap.size w' (.mk 4 0 bs [] []) us ∧ Below w.heap.size w w' := by
 obtain ⟨W1, hW1⟩ : ∃ W, W = w.alloc (.cells #[.int .i64 0, .int .i64 0, .slice none 0 0, .slice none 0 0, .slice none 0 0] 26) := ⟨_, rfl⟩
 have hR := Blk.new w 26 #[.int .i64 0, .int .i64 0, .slice none 0 0, .slice none 0 0, .slice none 0 0]
 have hb : Below w.heap.size w (w.alloc (.cells #[.int .i64 0, .int .i64 0, .slice none 0 0, .slice none 0 0, .slice none 0 0] 26)) := (Below.refl _ _).alloc (Nat.le_refl _) _
 have z1 : W1.heap.size = w.heap.size + 1 := by rw [hW1, World.size_alloc]
 rw [← hW1] at hR hb
 have cc := rf_Copy A c bs W1 (hb0.below hb) (by omega)
 have hm : bs.length ≤ maxLen := hb0.1
 replace hb := hi_ hb
 replace hR := hi_ hR
 replace z1 := hi_ z1
 replace hl := hi_ hl
 replace hm := hi_ hm
 clear hb0
 go_enter Tryz.func29, Tryz.ntmps29
 go_upto_region 1 with (fail)
 rw [← hW1]
 replace hW1 := hi_ hW1
 go_wp2_with (go_at_call 39; (with_reducible refine cc.mono ?_); rintro e' W2 ⟨v, rfl, hO, hb2⟩; obtain ⟨A2, c2, rfl, hby, hA2⟩ := hO.out hm.out; have hR2 := hR.out.below hb2 hR.out.lt; have r0 := hR2.cell 0; have r1 := hR2.cell 1; have r2 := hR2.cell 2; have r3 := hR2.cell 3; have r4 := hR2.cell 4; have v0 := hR2.frozen 0; have v1 := hR2.frozen 1; have v2 := hR2.frozen 2; have v3 := hR2.frozen 3; have v4 := hR2.frozen 4; replace hR2 := hi_ hR2; replace hO := hi_ hO; replace hb2 := hi_ hb2; replace hby := hi_ hby; replace hA2 := hi_ hA2; clear cc)
 obtain ⟨Wf, hWf⟩ : ∃ W, W = ((((W2.setCell ⟨w.heap.size, 0, none⟩ (.int .i64 4)).setCell ⟨w.heap.size, 1, none⟩ (.int .i64 0)).setCell ⟨w.heap.size, 2, none⟩ (.slice A2 bs.length c2)).setCell ⟨w.heap.size, 3, none⟩ (.slice none 0 0)).setCell ⟨w.heap.size, 4, none⟩ (.slice none 0 0) := ⟨_, rfl⟩
 rw [← hWf]
 have hI : ObI (w.heap.size + 1) W2.heap.size W2 (.mk 4 0 bs [] []) [.int .i64 4, .int .i64 0, .slice A2 bs.length c2, .slice none 0 0, .slice none 0 0] :=
  (built (tb := 5) (tO := 26) (tE := 53) (by omega) (by omega) (by omega) (by omega) hO.out.row hm.out (RowG.nil _ _ _ _ _) (RowG.nil _ _ _ _ _)).wide (by have := z1.out; omega)
 obtain ⟨hbf, hIf, hgf, hz⟩ := put_res (lo := w.heap.size + 1) (hi := W2.heap.size) hR2.out hI (by omega) hWf
 have u0 := hbf.cell 0
 have u1 := hbf.cell 1
 have u2 := hbf.cell 2
 have u3 := hbf.cell 3
 have u4 := hbf.cell 4
 have hbb := bthen hb.out hb2.out
 have hB : Below w.heap.size w Wf := hbb.grown hgf hbb.size (fun q hq => by injection hq with hq; omega)
 replace hB := hi_ hB
 replace hIf := hi_ (hIf.wide (show w.heap.size ≤ w.heap.size + 1 by omega))
 clear hbf hgf hbb hI
 replace hWf := hi_ hWf
 exact bodyPost_ret (by simp [results, Tryz.results29, go_sem, u0, u1, u2, u3, u4]; try rfl) rfl ⟨_, rfl, hIf.out, hB.out⟩
end Go.Proofs.YthacnnmlephkhaaGreatDoor

/- Numbers, plain: what bytes say. No condition. -/
namespace Go.Fx
open Go Go.RowKit Go.Wk Go.Lib
def isIn (n : Int) : Bool := decide (-214748364799999 ≤ n) && decide (n ≤ 214748364799999)
theorem isIn_iff (n : Int) : isIn n = true ↔ n.natAbs ≤ 214748364799999 := by
 simp [isIn]; omega
theorem six (r : Nat) (h : r < 100000) : (decDigits (100000 + r)).length = 6 := by
 rw [decDigits_length]
 exact nDigits_unique 5 _ (by omega) (by omega)
def peekS (bs : List UInt8) (p : Nat) : Int := match bs[p]? with | some b => (b.toNat : Int) | none => -1
theorem peekS_in {bs : List UInt8} {p : Nat} (h : p < bs.length) : 0 ≤ peekS bs p ∧ peekS bs p ≤ 255 ∧ peekS bs p = (bs[p].toNat : Int) := by
 have e : peekS bs p = (bs[p].toNat : Int) := by unfold peekS; rw [List.getElem?_eq_getElem h]
 have := u8_lt bs[p]
 rw [e]; omega
theorem peekS_out {bs : List UInt8} {p : Nat} (h : ¬ p < bs.length) : peekS bs p = -1 := by unfold peekS; rw [List.getElem?_eq_none (by omega)]
def isD (b : UInt8) : Bool := decide (48 ≤ b.toNat) && decide (b.toNat ≤ 57)
def digs (bs : List UInt8) (p : Nat) : List UInt8 := (bs.drop p).takeWhile isD
theorem tw_lt (f : UInt8 → Bool) : ∀ (l : List UInt8) (k : Nat) (h : k < (l.takeWhile f).length), l[k]? = some (l.takeWhile f)[k] ∧ f (l.takeWhile f)[k] = true := by
 intro l
 induction l with
 | nil => intro k h; simp at h
 | cons x xs ih =>
  intro k h
  by_cases hx : f x = true
  ·cases k with
   | zero => simp [List.takeWhile_cons, hx]
   | succ k =>
    have h2 : k < (xs.takeWhile f).length := by simpa [List.takeWhile_cons, hx] using h
    have := ih k h2
    simpa [List.takeWhile_cons, hx] using this
  ·simp [List.takeWhile_cons, hx] at h
theorem tw_end (f : UInt8 → Bool) : ∀ (l : List UInt8) (b : UInt8), l[(l.takeWhile f).length]? = some b → f b = false := by
 intro l
 induction l with
 | nil => intro b h; simp at h
 | cons x xs ih =>
  intro b h
  by_cases hx : f x = true
  ·exact ih b (by simpa [List.takeWhile_cons, hx] using h)
  ·simp [List.takeWhile_cons, hx] at h
   subst h; simpa using hx
theorem digs_in {bs : List UInt8} {p k : Nat} (h : k < (digs bs p).length) : bs[p + k]? = some (digs bs p)[k] ∧ isD (digs bs p)[k] = true := by
 have := tw_lt isD (bs.drop p) k h
 rw [List.getElem?_drop] at this
 exact this
def stepD (s : Nat × Bool) (b : UInt8) : Nat × Bool := if s.1 * 10 + (b.toNat - 48) > 2147483647 then (2147483647, false) else (s.1 * 10 + (b.toNat - 48), s.2)
def numD (l : List UInt8) : Nat × Bool := l.foldl stepD (0, true)
theorem numD_take (l : List UInt8) (k : Nat) (h : k < l.length) : numD (l.take (k + 1)) = stepD (numD (l.take k)) l[k] := by
 unfold numD; rw [List.take_succ_eq_append_getElem h, List.foldl_append]; rfl
theorem numD_le : ∀ (l : List UInt8) (s : Nat × Bool), s.1 ≤ 2147483647 → (l.foldl stepD s).1 ≤ 2147483647 := by
 intro l
 induction l with
 | nil => intro s h; exact h
 | cons b l ih =>
  intro s h
  refine ih _ ?_
  unfold stepD; split <;> simp <;> omega
def valD (l : List UInt8) : Nat := l.foldl (fun s b => s * 10 + (b.toNat - 48)) 0
theorem valD_snoc (l : List UInt8) (b : UInt8) : valD (l ++ [b]) = valD l * 10 + (b.toNat - 48) := by unfold valD; rw [List.foldl_append]; rfl
theorem valD_aux : ∀ (l : List UInt8) (s : Nat), (∀ b ∈ l, isD b = true) → l.foldl (fun s b => s * 10 + (b.toNat - 48)) s + 1 ≤ (s + 1) * 10 ^ l.length := by
 intro l
 induction l with
 | nil => intro s _; simp
 | cons b l ih =>
  intro s h
  have h1 := ih (s * 10 + (b.toNat - 48)) fun x hx => h x (List.mem_cons_of_mem _ hx)
  have h2 := h b (List.mem_cons_self ..)
  simp [isD] at h2
  rw [List.foldl_cons, List.length_cons, Nat.pow_succ, Nat.mul_comm (10 ^ l.length) 10, ← Nat.mul_assoc]
  refine Nat.le_trans h1 (Nat.mul_le_mul_right _ ?_)
  omega
theorem valD_lt (l : List UInt8) (h : ∀ b ∈ l, isD b = true) : valD l < 10 ^ l.length := by
 have := valD_aux l 0 h
 unfold valD
 omega
def fracD (l : List UInt8) : Nat := valD (l.take 5) * 10 ^ (5 - l.length)
theorem digs_all {bs : List UInt8} {p : Nat} : ∀ b ∈ digs bs p, isD b = true := by
 intro b hb
 obtain ⟨k, hk, rfl⟩ := List.getElem_of_mem hb
 exact (digs_in hk).2
def sgn (bs : List UInt8) : Nat × Bool := if bs[0]? = some 43 then (1, false) else if bs[0]? = some 45 then (1, true) else (0, false)
def signI (b : Bool) : Int := if b then -1 else 1
def parseS (bs : List UInt8) : Int × Bool × Int :=
 if bs[(sgn bs).1 + (digs bs (sgn bs).1).length]? = some 46 then
  if (sgn bs).1 + (digs bs (sgn bs).1).length + 1 + (digs bs ((sgn bs).1 + (digs bs (sgn bs).1).length + 1)).length < bs.length ∨ (digs bs (sgn bs).1).length + (digs bs ((sgn bs).1 + (digs bs (sgn bs).1).length + 1)).length = 0 then (0, false, 4)
  else if (numD (digs bs (sgn bs).1)).2 then (signI (sgn bs).2 * (((numD (digs bs (sgn bs).1)).1 : Int) * 100000 + (fracD (digs bs ((sgn bs).1 + (digs bs (sgn bs).1).length + 1)) : Int)), false, 0) else (0, false, 5)
 else
  if (sgn bs).1 + (digs bs (sgn bs).1).length < bs.length ∨ (digs bs (sgn bs).1).length = 0 then (0, false, 4)
  else if (numD (digs bs (sgn bs).1)).2 then (signI (sgn bs).2 * ((numD (digs bs (sgn bs).1)).1 : Int), true, 0) else (0, false, 5)
def parseP (bs : List UInt8) (p : Nat) (neg : Bool) : Int × Bool × Int :=
 if bs[p + (digs bs p).length]? = some 46 then
  if p + (digs bs p).length + 1 + (digs bs (p + (digs bs p).length + 1)).length < bs.length ∨ (digs bs p).length + (digs bs (p + (digs bs p).length + 1)).length = 0 then (0, false, 4)
  else if (numD (digs bs p)).2 then (signI neg * (((numD (digs bs p)).1 : Int) * 100000 + (fracD (digs bs (p + (digs bs p).length + 1)) : Int)), false, 0) else (0, false, 5)
 else
  if p + (digs bs p).length < bs.length ∨ (digs bs p).length = 0 then (0, false, 4)
  else if (numD (digs bs p)).2 then (signI neg * ((numD (digs bs p)).1 : Int), true, 0) else (0, false, 5)
theorem parseS_eq (bs : List UInt8) : parseS bs = parseP bs (sgn bs).1 (sgn bs).2 := rfl
theorem fracD_le (bs : List UInt8) (p : Nat) : fracD (digs bs p) ≤ 99999 := by
 have h1 := valD_lt ((digs bs p).take 5) fun b hb => digs_all b (List.mem_of_mem_take hb)
 unfold fracD
 rw [List.length_take] at h1
 have h2 : valD ((digs bs p).take 5) * 10 ^ (5 - (digs bs p).length) < 10 ^ (min 5 (digs bs p).length) * 10 ^ (5 - (digs bs p).length) := Nat.mul_lt_mul_of_pos_right h1 (Nat.pow_pos (by omega))
 rw [← Nat.pow_add] at h2
 have h3 : 10 ^ (min 5 (digs bs p).length + (5 - (digs bs p).length)) = 10 ^ 5 := by congr 1; omega
 omega
theorem tw_all (ds post : List UInt8) (h : ∀ b ∈ ds, isD b = true) (hp : ∀ b, post[0]? = some b → isD b = false) : (ds ++ post).takeWhile isD = ds := by
 induction ds with
 | nil =>
  cases post with
  | nil => rfl
  | cons x xs => simp [List.takeWhile_cons, hp x rfl]
 | cons x xs ih =>
  rw [List.cons_append, List.takeWhile_cons, if_pos (h x (List.mem_cons_self ..)), ih fun b hb => h b (List.mem_cons_of_mem _ hb)]
theorem digs_at (pre ds post : List UInt8) (p : Nat) (hp : pre.length = p) (h : ∀ b ∈ ds, isD b = true) (hq : ∀ b, post[0]? = some b → isD b = false) : digs (pre ++ (ds ++ post)) p = ds := by
 unfold digs
 rw [List.drop_left' hp]
 exact tw_all ds post h hq
theorem dig_isD (d : Nat) (h : d < 10) : isD (UInt8.ofNat (48 + d)) = true ∧ (UInt8.ofNat (48 + d)).toNat - 48 = d := by
 have : (UInt8.ofNat (48 + d)).toNat = 48 + d := UInt8.toNat_ofNat_of_lt' (by show 48 + d < 256; omega)
 unfold isD
 rw [this]
 simp
 omega
theorem dec_isD (u : Nat) : ∀ b ∈ decDigits u, isD b = true := by
 induction u using Nat.strongRecOn with
 | _ u ih =>
  intro b hb
  rw [decDigits] at hb
  split at hb
  ·rename_i h
   rw [List.mem_singleton] at hb; subst hb
   exact (dig_isD u h).1
  ·rename_i h
   rcases List.mem_append.1 hb with hb | hb
   ·exact ih (u / 10) (by omega) b hb
   ·rw [List.mem_singleton] at hb; subst hb
    exact (dig_isD (u % 10) (by omega)).1
theorem dec_val (u : Nat) : valD (decDigits u) = u := by
 induction u using Nat.strongRecOn with
 | _ u ih =>
  rw [decDigits]
  split
  ·rename_i h
   show 0 * 10 + _ = _
   rw [(dig_isD u h).2]; omega
  ·rename_i h
   rw [valD_snoc, ih (u / 10) (by omega), (dig_isD (u % 10) (by omega)).2]; omega
theorem dec_num (u : Nat) (h : u ≤ 2147483647) : numD (decDigits u) = (u, true) := by
 induction u using Nat.strongRecOn with
 | _ u ih =>
  rw [decDigits]
  split
  ·rename_i h10
   show stepD (0, true) _ = _
   unfold stepD
   rw [(dig_isD u h10).2, if_neg (by simp only; omega)]; simp
  ·rename_i h10
   have e := ih (u / 10) (by omega) (by omega)
   unfold numD at e ⊢
   rw [List.foldl_append, e]
   show stepD (u / 10, true) _ = _
   unfold stepD
   rw [(dig_isD (u % 10) (by omega)).2, if_neg (by simp only; omega)]
   congr 1; simp only; omega
theorem dec_pos (u : Nat) : 0 < (decDigits u).length := by
 rw [decDigits]; split <;> simp
theorem tw_mem (f : UInt8 → Bool) : ∀ (l : List UInt8) (b : UInt8), b ∈ l.takeWhile f → f b = true := by
 intro l
 induction l with
 | nil => intro b h; simp at h
 | cons x xs ih =>
  intro b h
  by_cases hx : f x = true
  ·rw [List.takeWhile_cons, if_pos hx] at h
   rcases List.mem_cons.1 h with rfl | h
   ·exact hx
   ·exact ih b h
  ·simp [List.takeWhile_cons, hx] at h
theorem fold_val : ∀ (l : List UInt8) (s : Nat), l.foldl (fun s b => s * 10 + (b.toNat - 48)) s = s * 10 ^ l.length + valD l := by
 intro l
 induction l with
 | nil => intro s; simp [valD]
 | cons x xs ih =>
  intro s
  have e : valD (x :: xs) = (0 * 10 + (x.toNat - 48)) * 10 ^ xs.length + valD xs := by unfold valD; rw [List.foldl_cons, ih]; rfl
  rw [List.foldl_cons, ih, e, List.length_cons, Nat.pow_succ, Nat.add_mul, Nat.mul_assoc, Nat.mul_comm 10]
  simp
  omega
theorem trim_zeros (l : List UInt8) : ∃ z : List UInt8, l = trimRightB l 48 ++ z ∧ ∀ b ∈ z, b = 48 := by
 refine ⟨(l.reverse.takeWhile (· == 48)).reverse, ?_, fun b hb => ?_⟩
 ·unfold trimRightB
  rw [← List.reverse_append, List.takeWhile_append_dropWhile, List.reverse_reverse]
 ·rw [List.mem_reverse] at hb
  have := tw_mem (· == 48) _ b hb
  simpa using this
theorem valD_zeros (a z : List UInt8) (h : ∀ b ∈ z, b = 48) : valD (a ++ z) = valD a * 10 ^ z.length := by
 induction z generalizing a with
 | nil => simp
 | cons x xs ih =>
  have hx := h x (List.mem_cons_self ..)
  subst hx
  rw [show a ++ 48 :: xs = (a ++ [48]) ++ xs by simp, ih _ fun b hb => h b (List.mem_cons_of_mem _ hb), valD_snoc, List.length_cons, Nat.pow_succ]
  simp [Nat.mul_assoc, Nat.mul_comm, Nat.mul_left_comm]
theorem frac_parts (r : Nat) (h : r < 100000) : ∃ z : List UInt8, (decDigits (100000 + r)).drop 1 = fracL r ++ z ∧ (∀ b ∈ z, b = 48) ∧ 1 ≤ (fracL r).length ∧ (fracL r).length + z.length = 5 := by
 have h6 := six r h
 generalize hp : (decDigits (100000 + r)).drop 1 = p
 have hl : p.length = 5 := by rw [← hp, List.length_drop, h6]
 obtain ⟨z, hz, hz2⟩ := trim_zeros (p.drop 1)
 have hf : fracL r = p.take 1 ++ trimRightB (p.drop 1) 48 := by unfold fracL; rw [hp]
 have e : p = fracL r ++ z := by
  rw [hf, List.append_assoc, ← hz, List.take_append_drop]
 refine ⟨z, e, hz2, ?_, ?_⟩
 ·rw [hf, List.length_append, List.length_take]; omega
 ·rw [← List.length_append, ← e, hl]
theorem frac_isD (r : Nat) (h : r < 100000) : ∀ b ∈ fracL r, isD b = true := by
 obtain ⟨z, e, _⟩ := frac_parts r h
 intro b hb
 exact dec_isD (100000 + r) b (List.mem_of_mem_drop (i := 1) (by rw [e]; exact List.mem_append_left _ hb))
theorem frac_val (r : Nat) (h : r < 100000) : fracD (fracL r) = r := by
 obtain ⟨z, e, hz, h1, h5⟩ := frac_parts r h
 have h6 := six r h
 have hv := dec_val (100000 + r)
 have hall := dec_isD (100000 + r)
 generalize decDigits (100000 + r) = P at *
 match P, h6 with
 | x :: p, h6 =>
  have e' : p = fracL r ++ z := e
  have hpl : p.length = 5 := by simpa using h6
  have hv2 : (x.toNat - 48) * 10 ^ 5 + valD p = 100000 + r := by
   rw [← hv, ← hpl]
   show _ = (x :: p).foldl (fun s b => s * 10 + (b.toNat - 48)) 0
   rw [List.foldl_cons, fold_val, Nat.zero_mul, Nat.zero_add]
  have hlt := valD_lt p fun b hb => hall b (List.mem_cons_of_mem _ hb)
  rw [hpl] at hlt
  have hvp : valD p = r := by
   have h5' : (10 : Nat) ^ 5 = 100000 := by decide
   rw [h5'] at hv2 hlt
   omega
  unfold fracD
  have hpz : valD p = valD (fracL r) * 10 ^ z.length := by
   rw [← valD_zeros _ _ hz, ← e']
  rw [List.take_of_length_le (by omega), show 5 - (fracL r).length = z.length by omega, ← hpz, hvp]
theorem point_notD : isD 46 = false := by decide
theorem parse_text (n : Int) (whole : Bool) (hn : isIn n = true) (hw : whole = true → -2147483647 ≤ n ∧ n ≤ 2147483647) : parseS (numT n whole) = (n, whole, 0) := by
 have hm := (isIn_iff n).1 hn
 obtain ⟨S, hS⟩ : ∃ S, S = (if n < 0 then [45] else [] : List UInt8) := ⟨_, rfl⟩
 have hsl : S.length = if n < 0 then 1 else 0 := by rw [hS]; split <;> rfl
 have hsg : ∀ (d : List UInt8) (rest : List UInt8), 0 < d.length → (∀ b ∈ d, isD b = true) → sgn (S ++ (d ++ rest)) = (S.length, decide (n < 0)) := by
  intro d rest hd hda
  unfold sgn
  rw [hS]
  by_cases h : n < 0
  ·simp [h]
  ·match d, hd with
   | x :: d, _ =>
    have hx := hda x (List.mem_cons_self ..)
    have h1 : x ≠ 43 := fun e => by subst e; exact absurd hx (by decide)
    have h2 : x ≠ 45 := fun e => by subst e; exact absurd hx (by decide)
    simp [h, h1, h2]
 have hsi : ∀ m : Int, m = n.natAbs → signI (decide (n < 0)) * m = n := by
  intro m e
  by_cases h : n < 0
  ·simp [signI, h]; omega
  ·simp [signI, h]; omega
 cases whole with
 | true =>
  obtain ⟨h1, h2⟩ := hw rfl
  have ht : numT n true = S ++ (decDigits n.natAbs ++ []) := by
   show itoa n = _
   unfold itoa
   rw [hS]
   split
   ·simp
   ·rw [show n.toNat = n.natAbs by omega]; simp
  rw [ht, parseS_eq, hsg _ _ (dec_pos _) (dec_isD _)]
  unfold parseP
  have hd := digs_at S (decDigits n.natAbs) [] S.length rfl (dec_isD _) (fun b h => by simp at h)
  rw [hd]
  have hl : (S ++ (decDigits n.natAbs ++ [])).length = S.length + (decDigits n.natAbs).length := by simp
  have hnone : (S ++ (decDigits n.natAbs ++ []))[S.length + (decDigits n.natAbs).length]? = none := List.getElem?_eq_none (by omega)
  rw [hnone, if_neg (by simp), if_neg (by have := dec_pos n.natAbs; omega), dec_num _ (by omega), if_pos rfl]
  rw [hsi _ rfl]
 | false =>
  have hr : n.natAbs % 100000 < 100000 := Nat.mod_lt _ (by omega)
  have ht : numT n false = S ++ (decDigits (n.natAbs / 100000) ++ (46 :: fracL (n.natAbs % 100000))) := by
   rw [hS]; rfl
  rw [ht, parseS_eq, hsg _ _ (dec_pos _) (dec_isD _)]
  unfold parseP
  have hd := digs_at S (decDigits (n.natAbs / 100000)) (46 :: fracL (n.natAbs % 100000)) S.length rfl (dec_isD _) (fun b h => by simp at h; subst h; exact point_notD)
  rw [hd]
  have hF := frac_isD _ hr
  have hv := frac_val _ hr
  generalize fracL (n.natAbs % 100000) = F at *
  have hdot : (S ++ (decDigits (n.natAbs / 100000) ++ (46 :: F)))[S.length + (decDigits (n.natAbs / 100000)).length]? = some 46 := by
   rw [← List.append_assoc, List.getElem?_append_right (by simp)]
   simp
  have hd2 := digs_at (S ++ (decDigits (n.natAbs / 100000) ++ [46])) F [] (S.length + (decDigits (n.natAbs / 100000)).length + 1) (by simp; omega) hF (fun b h => by simp at h)
  have he : (S ++ (decDigits (n.natAbs / 100000) ++ [46])) ++ (F ++ []) = S ++ (decDigits (n.natAbs / 100000) ++ (46 :: F)) := by simp
  rw [he] at hd2
  have hl : (S ++ (decDigits (n.natAbs / 100000) ++ (46 :: F))).length = S.length + (decDigits (n.natAbs / 100000)).length + 1 + F.length := by simp; omega
  rw [hdot, if_pos rfl]
  simp only []
  rw [hd2, hl, if_neg (by have := dec_pos (n.natAbs / 100000); omega), dec_num _ (by omega), if_pos rfl, hv, hsi _ (by omega)]
def isP (b : UInt8) : Bool := b == 46
theorem tw_split (R : List UInt8) : ∃ rest, R = R.takeWhile isD ++ rest ∧ ∀ b, rest[0]? = some b → isD b = false := by
 refine ⟨R.dropWhile isD, (List.takeWhile_append_dropWhile ..).symm, fun b h => ?_⟩
 refine tw_end isD R b ?_
 have e : R[(R.takeWhile isD).length]? = (R.takeWhile isD ++ R.dropWhile isD)[(R.takeWhile isD).length]? := by rw [List.takeWhile_append_dropWhile]
 rw [e, List.getElem?_append_right (by omega), Nat.sub_self]
 exact h
theorem tw_digits (R : List UInt8) : ∀ b ∈ R.takeWhile isD, isD b = true := fun b h => tw_mem isD R b h
theorem cnt_digits (D : List UInt8) (h : ∀ b ∈ D, isD b = true) : D.countP isP = 0 ∧ D.countP isD = D.length := by
 refine ⟨List.countP_eq_zero.2 fun b hb => ?_, List.countP_eq_length.2 h⟩
 have := h b hb
 intro e
 have e2 : b = 46 := by simpa [isP] using e
 subst e2
 exact absurd this (by decide)
theorem parts_ne (bs : List UInt8) (p : Nat) (hp : p ≤ bs.length) : ∃ D rest, bs.drop p = D ++ rest ∧ digs bs p = D ∧ (∀ b ∈ D, isD b = true) ∧ (∀ b, rest[0]? = some b → isD b = false) ∧ bs.length = p + (D.length + rest.length) ∧ (∀ k, bs[p + D.length + k]? = rest[k]?) ∧ (∀ k, digs bs (p + D.length + k) = (rest.drop k).takeWhile isD) := by
 obtain ⟨rest, h1, h2⟩ := tw_split (bs.drop p)
 refine ⟨digs bs p, rest, h1, rfl, tw_digits _, h2, ?_, fun k => ?_, fun k => ?_⟩
 ·have := congrArg List.length h1
  rw [List.length_drop, List.length_append] at this
  unfold digs
  omega
 ·have e : bs[p + (digs bs p).length + k]? = (bs.drop p)[(digs bs p).length + k]? := by rw [List.getElem?_drop]; congr 1; omega
  rw [e]
  have h1' : bs.drop p = digs bs p ++ rest := h1
  rw [h1', List.getElem?_append_right (by omega)]
  congr 1; omega
 ·have e : bs.drop (p + (digs bs p).length + k) = (bs.drop p).drop ((digs bs p).length + k) := by rw [List.drop_drop]; congr 1; omega
  unfold digs
  unfold digs at e
  rw [e]
  have h1' : bs.drop p = digs bs p ++ rest := h1
  have : (bs.drop p).drop ((digs bs p).length + k) = rest.drop k := by
   rw [h1', List.drop_append]
   have : (digs bs p).drop ((digs bs p).length + k) = [] := List.drop_eq_nil_of_le (by omega)
   rw [this]
   simp
  unfold digs at this
  rw [this]
theorem parse_bad (bs : List UInt8) (p : Nat) (neg : Bool) (hp : p ≤ bs.length) (b : UInt8) (hb : b ∈ bs.drop p) (h1 : isD b = false) (h2 : isP b = false) : parseP bs p neg = (0, false, 4) := by
 obtain ⟨D, rest, e, hd, hD, hr, hl, hat, hdr⟩ := parts_ne bs p hp
 unfold parseP
 rw [hd]
 have hbr : b ∈ rest := by
  rw [e] at hb
  rcases List.mem_append.1 hb with h | h
  ·rw [hD b h] at h1; cases h1
  ·exact h
 match rest, hbr with
 | c :: r, hbr =>
  have h0 := hat 0
  rw [Nat.add_zero] at h0
  rw [h0]
  by_cases hc : c = 46
  ·subst hc
   have hbr2 : b ∈ r := by
    rcases List.mem_cons.1 hbr with h | h
    ·subst h; exact absurd h2 (by decide)
    ·exact h
   rw [show (46 :: r : List UInt8)[0]? = some 46 from rfl, if_pos rfl, if_pos]
   left
   rw [hdr 1, hl]
   show _ + ((r.takeWhile isD).length) < p + (D.length + (r.length + 1))
   have hne : (r.takeWhile isD).length ≠ r.length := by
    intro he
    have h3 : r.takeWhile isD = r := (List.takeWhile_prefix _).eq_of_length he
    rw [← h3] at hbr2
    rw [tw_digits _ _ hbr2] at h1; cases h1
   have := (List.takeWhile_sublist (p := isD) (l := r)).length_le
   omega
  ·rw [show (c :: r : List UInt8)[0]? = some c from rfl, if_neg (by simpa using hc), if_pos]
   left
   rw [hl, List.length_cons]; omega
theorem parse_fit (bs : List UInt8) (p : Nat) (neg : Bool) (hp : p ≤ bs.length) (hall : ∀ b ∈ bs.drop p, isD b = true ∨ isP b = true) :
 (1 < (bs.drop p).countP isP ∨ (bs.drop p).countP isD = 0 → parseP bs p neg = (0, false, 4)) ∧
 (¬ (1 < (bs.drop p).countP isP ∨ (bs.drop p).countP isD = 0) →
  (p + (digs bs p).length < bs.length → bs[p + (digs bs p).length]? = some 46) ∧
  ((numD (digs bs p)).2 = false → parseP bs p neg = (0, false, 5)) ∧
  ((numD (digs bs p)).2 = true → (bs.drop p).countP isP = 0 → p + (digs bs p).length = bs.length ∧ parseP bs p neg = (signI neg * ((numD (digs bs p)).1 : Int), true, 0)) ∧
  ((numD (digs bs p)).2 = true → ¬ (bs.drop p).countP isP = 0 → p + (digs bs p).length < bs.length ∧ p + (digs bs p).length + 1 + (digs bs (p + (digs bs p).length + 1)).length = bs.length ∧
    parseP bs p neg = (signI neg * (((numD (digs bs p)).1 : Int) * 100000 + (fracD (digs bs (p + (digs bs p).length + 1)) : Int)), false, 0))) := by
 obtain ⟨D, rest, e, hd, hD, hr, hl, hat, hdr⟩ := parts_ne bs p hp
 have hcD := cnt_digits D hD
 rw [e, List.countP_append, List.countP_append, hcD.1, hcD.2, hd]
 unfold parseP
 rw [hd]
 have h0 := hat 0
 rw [Nat.add_zero] at h0
 rw [h0, hdr 1, hl]
 rw [e] at hall
 match rest, hr with
 | [], _ =>
  simp
  refine ⟨fun h h2 => absurd h h2, fun h => ⟨fun h2 => ?_, fun h2 => ?_⟩⟩
  ·rw [if_neg h, h2]; simp
  ·rw [if_neg h, h2]; simp
 | c :: r, hr =>
  have hc : c = 46 := by
   have h3 := hall c (by simp)
   rw [hr c rfl] at h3
   simpa [isP] using h3
  subst hc
  have h5 : (46 :: r).countP isP = r.countP isP + 1 := by rw [List.countP_cons]; rfl
  have h6 : (46 :: r).countP isD = r.countP isD := by rw [List.countP_cons]; rfl
  rw [h5, h6, show (46 :: r : List UInt8)[0]? = some 46 from rfl, List.length_cons, show (46 :: r : List UInt8).drop 1 = r from rfl]
  have hle := (List.takeWhile_sublist (p := isD) (l := r)).length_le
  by_cases hpt : r.countP isP = 0
  ·have hrd : ∀ b ∈ r, isD b = true := by
    intro b hb
    rcases hall b (by simp [hb]) with h | h
    ·exact h
    ·exact absurd h (List.countP_eq_zero.1 hpt b hb)
   have hrt : r.takeWhile isD = r := by have := tw_all r [] hrd (fun b h => by simp at h); rwa [List.append_nil] at this
   have hcr := (cnt_digits r hrd).2
   rw [hrt, hcr, hpt]
   refine ⟨fun h => by rw [if_pos rfl, if_pos (by omega)], fun h => ⟨fun _ => rfl, fun h2 => ?_, fun _ h2 => by omega, fun h2 _ => ⟨by omega, by omega, ?_⟩⟩⟩
   ·rw [if_pos rfl, if_neg (by omega), h2, if_neg (by simp)]
   ·rw [if_pos rfl, if_neg (by omega), h2, if_pos rfl]
  ·have hlt : (r.takeWhile isD).length < r.length := by
    refine Nat.lt_of_le_of_ne hle fun he => hpt ?_
    have h3 : r.takeWhile isD = r := (List.takeWhile_prefix _).eq_of_length he
    exact (cnt_digits r (by rw [← h3]; exact tw_digits _)).1
   refine ⟨fun _ => by rw [if_pos rfl, if_pos (by omega)], fun h => absurd (by omega) h⟩
theorem num_false : ∀ (l : List UInt8) (s : Nat × Bool), s.2 = false → (l.foldl stepD s).2 = false := by
 intro l
 induction l with
 | nil => intro s h; exact h
 | cons b l ih =>
  intro s h
  refine ih _ ?_
  unfold stepD
  split
  ·rfl
  ·exact h
theorem num_stop (l : List UInt8) (k : Nat) (h : k < l.length) (ht : (numD (l.take k)).1 * 10 + (l[k].toNat - 48) > 2147483647) : (numD l).2 = false := by
 have e : l = l.take (k + 1) ++ l.drop (k + 1) := (List.take_append_drop _ _).symm
 have h1 : (numD (l.take (k + 1))).2 = false := by rw [numD_take l k h]; unfold stepD; rw [if_pos ht]
 unfold numD at h1 ⊢
 rw [e, List.foldl_append]
 exact num_false _ _ h1
theorem num_go (l : List UInt8) (k : Nat) (h : k < l.length) (hf : (numD (l.take k)).2 = true) (ht : ¬ (numD (l.take k)).1 * 10 + (l[k].toNat - 48) > 2147483647) : numD (l.take (k + 1)) = ((numD (l.take k)).1 * 10 + (l[k].toNat - 48), true) := by
 rw [numD_take l k h]; unfold stepD; rw [if_neg ht, hf]
theorem frac_go (l : List UInt8) (k : Nat) : (∀ h : k < l.length, valD (l.take (k + 1)) * 10 ^ (k + 1 - l.length) = 10 * (valD (l.take k) * 10 ^ (k - l.length)) + (l[k].toNat - 48)) ∧ (¬ k < l.length → valD (l.take (k + 1)) * 10 ^ (k + 1 - l.length) = 10 * (valD (l.take k) * 10 ^ (k - l.length))) := by
 constructor
 ·intro h
  rw [List.take_succ_eq_append_getElem h, valD_snoc, show k + 1 - l.length = 0 by omega, show k - l.length = 0 by omega]
  omega
 ·intro h
  rw [List.take_of_length_le (by omega), List.take_of_length_le (by omega), show k + 1 - l.length = (k - l.length) + 1 by omega, Nat.pow_succ]
  rw [← Nat.mul_assoc, Nat.mul_comm 10]
theorem frac_bd (l : List UInt8) (h : ∀ b ∈ l, isD b = true) (k : Nat) : valD (l.take k) * 10 ^ (k - l.length) < 10 ^ k := by
 have h1 := valD_lt (l.take k) fun b hb => h b (List.mem_of_mem_take hb)
 rw [List.length_take] at h1
 have h2 : valD (l.take k) * 10 ^ (k - l.length) < 10 ^ (min k l.length) * 10 ^ (k - l.length) := Nat.mul_lt_mul_of_pos_right h1 (Nat.pow_pos (by omega))
 rw [← Nat.pow_add, show min k l.length + (k - l.length) = k by omega] at h2
 exact h2
end Go.Fx

/- Reading, plain: tokens and objects out of bytes. No condition. -/
namespace Go.Rd
open Go Go.Wk Go.Fx
abbrev Bs := List UInt8
inductive Res (α : Type) where
 | ok (v : α) (r : Bs)
 | err (e : Int) (r : Bs)
def whiteB (c : UInt8) : Bool := c == 0 || c == 9 || c == 10 || c == 12 || c == 13 || c == 32
def pk (r : Bs) (i : Nat) : Int := match r[i]? with | some b => (b.toNat : Int) | none => -1
def digI (x : Int) : Int := if 48 ≤ x ∧ x ≤ 57 then x - 48 else if 97 ≤ x ∧ x ≤ 102 then x - 87 else if 65 ≤ x ∧ x ≤ 70 then x - 55 else -1
def blankM : Bool → Bs → Bs
 | _, [] => []
 | true, c :: r => if c == 10 || c == 13 then blankM false r else blankM true r
 | false, c :: r => if whiteB c then blankM false r else if c == 37 then blankM true r else c :: r
def nameS : Nat → Bs → Bs → Res Bs
 | 0, _, r => .err 99 r
 | _ + 1, out, [] => .ok out []
 | f + 1, out, c :: t =>
  if regB c = false then .ok out (c :: t)
  else if c = 35 then
   if digI (pk t 0) < 0 ∨ digI (pk t 1) < 0 ∨ digI (pk t 0) + digI (pk t 1) = 0 then .err 4 t
   else if 127 ≤ out.length then .err 3 (t.drop 2)
   else nameS f (out ++ [UInt8.ofNat (digI (pk t 0) * 16 + digI (pk t 1)).toNat]) (t.drop 2)
  else if 127 ≤ out.length then .err 3 t
  else nameS f (out ++ [c]) t
def eolS (c : UInt8) (t : Bs) : Bs := if c = 13 ∧ t[0]? = some 10 then t.drop 1 else t
def octB (c : UInt8) : Bool := decide (48 ≤ c.toNat) && decide (c.toNat ≤ 55)
def octS : Nat → Nat → Bs → Nat × Bs
 | 0, n, r => (n, r)
 | _ + 1, n, [] => (n, [])
 | k + 1, n, c :: r => if octB c then octS k (8 * n + (c.toNat - 48)) r else (n, c :: r)
def escS (d : UInt8) (t : Bs) : Option UInt8 × Bs :=
 if d = 13 ∨ d = 10 then (none, eolS d t)
 else if octB d then (some (UInt8.ofNat ((octS 2 (d.toNat - 48) t).1 % 256)), (octS 2 (d.toNat - 48) t).2)
 else (some (if d = 110 then 10 else if d = 114 then 13 else if d = 116 then 9 else if d = 98 then 8 else if d = 102 then 12 else d), t)
def textS : Nat → Nat → Bs → Bs → Res Bs
 | 0, _, _, r => .err 99 r
 | _ + 1, _, _, [] => .err 2 []
 | f + 1, op, out, c :: t =>
  if c = 92 then
   match t with
   | [] => .err 2 []
   | d :: u =>
    match escS d u with
    | (none, v) => textS f op out v
    | (some x, v) => if 32767 ≤ out.length then .err 3 v else textS f op (out ++ [x]) v
  else if c = 41 ∧ op = 1 then .ok out t
  else if 32767 ≤ out.length then .err 3 t
  else if c = 13 ∨ c = 10 then textS f op (out ++ [10]) (eolS c t)
  else textS f (if c = 40 then op + 1 else if c = 41 then op - 1 else op) (out ++ [c]) t
def hexR : Nat → Int → Bs → Bs → Res Bs
 | 0, _, _, r => .err 99 r
 | _ + 1, _, _, [] => .err 2 []
 | f + 1, h, out, c :: t =>
  if whiteB c then hexR f h out t
  else if c = 62 then
   if h < 0 then .ok out t
   else if 32767 ≤ out.length then .err 3 t
   else .ok (out ++ [UInt8.ofNat (16 * h).toNat]) t
  else if digI c.toNat < 0 then .err 4 t
  else if h < 0 then hexR f (digI c.toNat) out t
  else if 32767 ≤ out.length then .err 3 t
  else hexR f (-1) (out ++ [UInt8.ofNat (16 * h + digI c.toNat).toNat]) t
structure Tok where
 k : Int
 n : Int
 b : Bs
def tokOf (k : Int) (at' : Bs) : Res Bs → Res Tok
 | .ok b r => .ok ⟨k, 0, b⟩ r
 | .err e _ => .err e at'
def runS (r : Bs) : Bs := r.takeWhile regB
def numS (at' : Bs) : Res Tok :=
 if (parseS (runS at')).2.2 = 0 then .ok ⟨if (parseS (runS at')).2.1 then 1 else 2, (parseS (runS at')).1, []⟩ (at'.drop (runS at').length)
 else .err (parseS (runS at')).2.2 at'
def numC (c : UInt8) : Bool := c == 43 || c == 45 || c == 46 || (decide (48 ≤ c.toNat) && decide (c.toNat ≤ 57))
def tokA : Bs → Res Tok
 | [] => .ok ⟨0, 0, []⟩ []
 | c :: t =>
  if c = 91 then .ok ⟨5, 0, []⟩ t
  else if c = 93 then .ok ⟨6, 0, []⟩ t
  else if c = 60 ∧ t[0]? = some 60 then .ok ⟨7, 0, []⟩ (t.drop 1)
  else if c = 62 ∧ t[0]? = some 62 then .ok ⟨8, 0, []⟩ (t.drop 1)
  else if c = 47 then tokOf 4 (c :: t) (nameS (t.length + 1) [] t)
  else if c = 40 then tokOf 3 (c :: t) (textS (t.length + 1) 1 [] t)
  else if c = 60 then tokOf 3 (c :: t) (hexR (t.length + 1) (-1) [] t)
  else if numC c then numS (c :: t)
  else if regB c then (if 127 < (runS (c :: t)).length then .err 3 (c :: t) else .ok ⟨9, 0, runS (c :: t)⟩ ((c :: t).drop (runS (c :: t)).length))
  else .err 4 (c :: t)
def tokS (r : Bs) : Res Tok := tokA (blankM false r)
def wholeS (plain : Bool) (n : Int) (r : Bs) : Ob × Bs :=
 if 1 ≤ n ∧ n ≤ 8388607 ∧ plain = false then
  match tokS r with
  | .ok t u => if t.k = 1 ∧ t.n = 0 then
   match tokS u with
   | .ok s v => if s.k = 9 ∧ s.b = [82] then (.mk 9 n [] [] [], v) else (.mk 2 n [] [] [], r)
   | .err _ _ => (.mk 2 n [] [] [], r)
   else (.mk 2 n [] [] [], r)
  | .err _ _ => (.mk 2 n [] [] [], r)
 else (.mk 2 n [] [] [], r)
def arrS (val : Bs → Res Ob) : Nat → List Ob → Bs → Res (List Ob)
 | 0, _, r => .err 99 r
 | f + 1, acc, r =>
  match tokS r with
  | .err e u => .err e u
  | .ok t u => if t.k = 6 then .ok acc u else
   match val r with
   | .err e u => .err e u
   | .ok o u => arrS val f (acc ++ [o]) u
def withL (K : Bs) (X : Ob) : Bool → List (Bs × Ob) → List (Bs × Ob)
 | put, [] => if put then [] else [(K, X)]
 | put, e :: r => (if !put && !ltB e.1 K then [(K, X)] else []) ++ ((if e.1 = K then [] else [e]) ++ withL K X (put || !ltB e.1 K) r)
def putE (K : Bs) (X : Ob) (d : List (Bs × Ob)) : List (Bs × Ob) := withL K X (X.kind == 0) d
def dictS (val : Bs → Res Ob) : Nat → List Bs → List (Bs × Ob) → Bs → Res (List (Bs × Ob))
 | 0, _, _, r => .err 99 r
 | f + 1, keys, acc, r =>
  match tokS r with
  | .err e u => .err e u
  | .ok t u => if t.k = 8 then .ok acc u
   else if t.k = 0 then .err 2 (blankM false r)
   else if t.k ≠ 4 then .err 4 (blankM false r)
   else if keys.contains t.b then .err 4 (blankM false r)
   else match val u with
    | .err e u => .err e u
    | .ok o u => dictS val f (keys ++ [t.b]) (putE t.b o acc) u
def wordS (b : Bs) : Option Ob := if b = [116, 114, 117, 101] then some (.mk 1 1 [] [] []) else if b = [102, 97, 108, 115, 101] then some (.mk 1 0 [] [] []) else if b = [110, 117, 108, 108] then some (.mk 0 0 [] [] []) else none
def valS (plain : Bool) (d : Nat) (r : Bs) : Res Ob :=
 match tokS r with
 | .err e u => .err e u
 | .ok t u =>
  if t.k = 0 then .err 2 (blankM false r)
  else if t.k = 1 then .ok (wholeS plain t.n u).1 (wholeS plain t.n u).2
  else if t.k = 2 then .ok (.mk 3 t.n [] [] []) u
  else if t.k = 3 then .ok (.mk 4 0 t.b [] []) u
  else if t.k = 4 then .ok (.mk 5 0 t.b [] []) u
  else if t.k = 9 then (match wordS t.b with | some o => .ok o u | none => .err 4 (blankM false r))
  else if t.k = 5 then
   match d with
   | 0 => .err 6 (blankM false r)
   | d + 1 => match arrS (valS plain d) (u.length + 1) [] u with | .ok l v => .ok (.mk 6 0 [] l []) v | .err e v => .err e v
  else if t.k = 7 then
   match d with
   | 0 => .err 6 (blankM false r)
   | d + 1 => match dictS (valS plain d) (u.length + 1) [] [] u with | .ok l v => .ok (.mk 7 0 [] [] l) v | .err e v => .err e v
  else .err 4 (blankM false r)
end Go.Rd

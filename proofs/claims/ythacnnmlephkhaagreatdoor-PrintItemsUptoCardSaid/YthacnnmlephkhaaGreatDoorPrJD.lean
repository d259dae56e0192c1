/- Walks and laws, joined: part D. No condition. -/
import Derived.Test.YthacnnmlephkhaaGreatDoorPrJC
import Derived.Shelf.Small.Strs
import Derived.Test.YthacnnmlephkhaaGreatDoorPrJA
set_option linter.unusedSimpArgs false
set_option linter.unusedVariables false
/- A key's value. No condition. -/
namespace Go.Proofs.YthacnnmlephkhaaGreatDoor
open Go Go.RowKit Go.Wk
def zeroO : Ob := .mk 0 0 [] [] []
def Ob.get (key : List UInt8) : Ob → Ob
 | .mk k _ _ _ d => if hasI k = true then (match d.find? fun e => e.1 == key with
  | some e => e.2
  | none => zeroO) else zeroO
theorem zero_I {B : Nat} {w : World} : ObI B w.heap.size w zeroO [.int .i64 0, .int .i64 0, .slice none 0 0, .slice none 0 0, .slice none 0 0] :=
 built (tb := 5) (tO := 26) (tE := 53) (by omega) (by omega) (by omega) (by omega) (World.ownsRow_nil _ _ _ _) (by decide) (RowG.nil _ _ _ _ _) (RowG.nil _ _ _ _ _)
theorem put_res {w : World} {R lo hi : Nat} {o : Ob} {u0 u1 u2 u3 u4 : Value} (hR : Blk w R 26 #[.int .i64 0, .int .i64 0, .slice none 0 0, .slice none 0 0, .slice none 0 0]) (hI : ObI lo hi w o [u0, u1, u2, u3, u4]) (hlt : R < lo) {Wf : World}
 (hWf : Wf = ((((w.setCell ⟨R, 0, none⟩ u0).setCell ⟨R, 1, none⟩ u1).setCell ⟨R, 2, none⟩ u2).setCell ⟨R, 3, none⟩ u3).setCell ⟨R, 4, none⟩ u4) :
 Blk Wf R 26 #[u0, u1, u2, u3, u4] ∧ ObI lo Wf.heap.size Wf o [u0, u1, u2, u3, u4] ∧ w.grownBy Wf (some R) ∧ Wf.heap.size = w.heap.size := by
 have hg : w.grownBy Wf (some R) := by
  rw [hWf]
  exact ((((set_grown _ _ _ _).trans (set_grown _ _ _ _)).trans (set_grown _ _ _ _)).trans (set_grown _ _ _ _)).trans (set_grown _ _ _ _)
 have hz : Wf.heap.size = w.heap.size := by rw [hWf]; simp [World.setCell]
 refine ⟨?_, ?_, hg, hz⟩
 ·rw [hWf]; exact ((((hR.set_ 0 u0).set_ 1 u1).set_ 2 u2).set_ 3 u3).set_ 4 u4
 ·have h2 := hI.keep (w' := Wf) (fun b h1 h2 => hg.block b (by have := hI.1; omega) (fun e => by injection e with e; omega)) (by have := hI.1; omega)
  exact ⟨Nat.le_refl _, fun w2 h3 h4 => h2.2 w2 (fun b h5 h6 => h3 b h5 (by have := h2.1; omega)) (by have := h2.1; omega)⟩
set_option maxHeartbeats 4000000 in
set_option maxRecDepth 100000 in
theorem cos_None (w : World) : Calls Tryz.prog 67 #[] w fun e w' => e = .returned (.agg #[.int .i64 0, .int .i64 0, .slice none 0 0, .slice none 0 0, .slice none 0 0]) ∧ Below w.heap.size w w' := by
 have hR := Blk.new w 26 #[.int .i64 0, .int .i64 0, .slice none 0 0, .slice none 0 0, .slice none 0 0]
 have hb : Below w.heap.size w (w.alloc (.cells #[.int .i64 0, .int .i64 0, .slice none 0 0, .slice none 0 0, .slice none 0 0] 26)) := (Below.refl _ _).alloc (Nat.le_refl _) _
 obtain ⟨W1, hW1⟩ : ∃ W, W = w.alloc (.cells #[.int .i64 0, .int .i64 0, .slice none 0 0, .slice none 0 0, .slice none 0 0] 26) := ⟨_, rfl⟩
 rw [← hW1] at hR hb
 have r0 := hR.cell 0
 have r1 := hR.cell 1
 have r2 := hR.cell 2
 have r3 := hR.cell 3
 have r4 := hR.cell 4
 have v0 := hR.frozen 0
 have v1 := hR.frozen 1
 have v2 := hR.frozen 2
 have v3 := hR.frozen 3
 have v4 := hR.frozen 4
 replace hb := hi_ hb
 replace hR := hi_ hR
 go_enter Tryz.func67, Tryz.ntmps67
 go_upto_region 1 with (fail)
 rw [← hW1]
 replace hW1 := hi_ hW1
 go_wp2
 obtain ⟨Wf, hWf⟩ : ∃ W, W = ((((W1.setCell ⟨w.heap.size, 0, none⟩ (.int .i64 0)).setCell ⟨w.heap.size, 1, none⟩ (.int .i64 0)).setCell ⟨w.heap.size, 2, none⟩ (.slice none 0 0)).setCell ⟨w.heap.size, 3, none⟩ (.slice none 0 0)).setCell ⟨w.heap.size, 4, none⟩ (.slice none 0 0) := ⟨_, rfl⟩
 rw [← hWf]
 obtain ⟨hbf, _, hgf, hz⟩ := put_res (lo := w.heap.size + 1) (hi := W1.heap.size) hR.out zero_I (by omega) hWf
 have u0 := hbf.cell 0
 have u1 := hbf.cell 1
 have u2 := hbf.cell 2
 have u3 := hbf.cell 3
 have u4 := hbf.cell 4
 have hB : Below w.heap.size w Wf := hb.out.grown hgf hb.out.size (fun q hq => by injection hq with hq; omega)
 replace hB := hi_ hB
 clear hbf hgf
 replace hWf := hi_ hWf
 exact bodyPost_ret (by simp [results, Tryz.results67, go_sem, u0, u1, u2, u3, u4]; try rfl) rfl ⟨rfl, hB.out⟩

/- A key's value: cos.Get. No condition. -/
theorem find_at {d : List (List UInt8 × Ob)} {key : List UInt8} {i : Nat} (hi : i < d.length) (hp : ∀ j (h : j < i), (d[j].1 == key) = false) (hq : (d[i].1 == key) = true) : (d.find? fun e => e.1 == key) = some d[i] := by
 rw [List.find?_eq_some_iff_getElem]
 exact ⟨hq, i, hi, rfl, fun j hj => by rw [hp j hj]; rfl⟩
theorem find_no {d : List (List UInt8 × Ob)} {key : List UInt8} (hp : ∀ j (h : j < d.length), (d[j].1 == key) = false) : (d.find? fun e => e.1 == key) = none := by
 rw [List.find?_eq_none]
 intro e he
 obtain ⟨j, hj, rfl⟩ := List.getElem_of_mem he
 rw [hp j hj]; simp
theorem key_eq (a : List UInt8) (K : ByteArray) : ((bytes a).toList == K.toList) = (a == K.data.toList) := by
 rw [ByteArray.toList_eq, ByteArray.toList_eq]; rfl
set_option maxHeartbeats 8000000 in
set_option maxRecDepth 100000 in
theorem cos_Get (o : Ob) (vs : List Value) (w : World) (h : ObAt w o vs) (hbk : o.bulk ≤ 1048576) (K : ByteArray) : Calls Tryz.prog 40 #[.agg vs.toArray, .string K] w fun e w' => ∃ us, e = .returned (.agg (List.toArray us)) ∧ ObI w.heap.size w'.heap.size w' (Ob.get K.data.toList o) us ∧ Below w.heap.size w w' := by
 cases h with
 | mk k n b l d A AL AD c cL cD gL oL gD oD vl vd h1 h2 h3 h4 hB5 h6 h7 h8 h9 h10 h11 hAL hl hlv hAD hdo hdk hdv =>
 have zk : b.length + bulkL l + bulkD d + 1 ≤ 1048576 := hbk
 have zd := bulkD_len d
 obtain ⟨m3, hm3⟩ : ∃ m, m = d.length := ⟨_, rfl⟩
 rw [← hm3] at zd ⊢
 have zd1 : m3 ≤ 1048576 := by omega
 obtain ⟨W1, hW1⟩ : ∃ W, W = w.alloc (.cells #[.int .i64 k, .int .i64 n, .slice A b.length c, .slice AL l.length cL, .slice AD m3 cD] 26) := ⟨_, rfl⟩
 obtain ⟨W2, hW2⟩ : ∃ W, W = W1.alloc (.cells #[.int .i64 0, .int .i64 0, .slice none 0 0, .slice none 0 0, .slice none 0 0] 26) := ⟨_, rfl⟩
 have hb1 : Below w.heap.size w W1 := by rw [hW1]; exact (Below.refl _ _).alloc (Nat.le_refl _) _
 have z1 : W1.heap.size = w.heap.size + 1 := by rw [hW1, World.size_alloc]
 have hb2 : Below w.heap.size w W2 := by rw [hW2]; exact hb1.alloc (by omega) _
 have z2 : W2.heap.size = w.heap.size + 2 := by rw [hW2, World.size_alloc, z1]
 have f := five_kept (five_cells hW1) (W' := W2) (by rw [hW2]; exact (Below.refl _ _).alloc (Nat.le_refl _) _)
 have hR2 : Blk W2 (w.heap.size + 1) 26 #[.int .i64 0, .int .i64 0, .slice none 0 0, .slice none 0 0, .slice none 0 0] := by rw [hW2, ← z1]; exact Blk.new W1 26 _
 obtain ⟨f0, f1, f2, f3, f4⟩ := id f
 have c65 := cos_entries k (.int .i64 n) (.slice A b.length c) (.slice AL l.length cL) (.slice AD m3 cD) W2
 obtain ⟨O, hO⟩ : ∃ O, O = Ob.get K.data.toList (.mk k n b l d) := ⟨_, rfl⟩
 have hOf : hasI k = false → O = zeroO := fun h => by rw [hO]; simp [Ob.get, h]
 have hOs : hasI k = true → ∀ e, (d.find? fun e => e.1 == K.data.toList) = some e → O = e.2 := fun h e he => by rw [hO]; simp [Ob.get, h, he]
 have hOn : hasI k = true → (d.find? fun e => e.1 == K.data.toList) = none → O = zeroO := fun h he => by rw [hO]; simp only [Ob.get, h, he, if_true]
 rw [← hO]
 obtain ⟨hs, hhs⟩ : ∃ z, hasI k = z := ⟨_, rfl⟩
 rw [hhs] at c65 hOf hOs hOn
 -- the end, where there is none
 have hnone : ∀ W : World, Below W2.heap.size W2 W → ∀ Wf, Wf = ((((W.setCell ⟨w.heap.size + 1, 0, none⟩ (.int .i64 0)).setCell ⟨w.heap.size + 1, 1, none⟩ (.int .i64 0)).setCell ⟨w.heap.size + 1, 2, none⟩ (.slice none 0 0)).setCell ⟨w.heap.size + 1, 3, none⟩ (.slice none 0 0)).setCell ⟨w.heap.size + 1, 4, none⟩ (.slice none 0 0) →
  Blk Wf (w.heap.size + 1) 26 #[.int .i64 0, .int .i64 0, .slice none 0 0, .slice none 0 0, .slice none 0 0] ∧ ObI w.heap.size Wf.heap.size Wf zeroO [.int .i64 0, .int .i64 0, .slice none 0 0, .slice none 0 0, .slice none 0 0] ∧ Below w.heap.size w Wf := fun W hW Wf hWf => by
  have hRb := hR2.below hW (by omega)
  have hz := hW.size
  obtain ⟨q1, q2, q3, q4⟩ := put_res (lo := W2.heap.size) (hi := W.heap.size) hRb zero_I (by omega) hWf
  exact ⟨q1, q2.wide (by omega), (bthen hb2 hW).grown q3 (by omega) (fun q hq => by injection hq with hq; omega)⟩
 have hsome : ∀ (W : World) (lo : Nat) (u0 u1 u2 u3 u4 : Value), Below W2.heap.size W2 W → W2.heap.size ≤ lo → ObI lo W.heap.size W O [u0, u1, u2, u3, u4] → ∀ Wf, Wf = ((((W.setCell ⟨w.heap.size + 1, 0, none⟩ u0).setCell ⟨w.heap.size + 1, 1, none⟩ u1).setCell ⟨w.heap.size + 1, 2, none⟩ u2).setCell ⟨w.heap.size + 1, 3, none⟩ u3).setCell ⟨w.heap.size + 1, 4, none⟩ u4 →
  Blk Wf (w.heap.size + 1) 26 #[u0, u1, u2, u3, u4] ∧ ObI w.heap.size Wf.heap.size Wf O [u0, u1, u2, u3, u4] ∧ Below w.heap.size w Wf := fun W lo u0 u1 u2 u3 u4 hW hlo hI Wf hWf => by
  have hRb := hR2.below hW (by omega)
  have hz := hW.size
  obtain ⟨q1, q2, q3, q4⟩ := put_res hRb hI (by omega) hWf
  exact ⟨q1, q2.wide (by omega), (bthen hb2 hW).grown q3 (by omega) (fun q hq => by injection hq with hq; omega)⟩
 have hres : ∀ W : World, Below W2.heap.size W2 W → Blk W (w.heap.size + 1) 26 #[.int .i64 0, .int .i64 0, .slice none 0 0, .slice none 0 0, .slice none 0 0] := fun W hW => hR2.below hW (by omega)
 replace hm3 := hi_ hm3
 replace hAD := hi_ hAD
 replace hdo := hi_ hdo
 replace hdk := hi_ hdk
 replace hdv := hi_ hdv
 replace hb1 := hi_ hb1
 replace hb2 := hi_ hb2
 replace f := hi_ f
 replace hR2 := hi_ hR2
 replace hO := hi_ hO
 replace hOf := hi_ hOf
 replace hOs := hi_ hOs
 replace hOn := hi_ hOn
 replace hhs := hi_ hhs
 replace hnone := hi_ hnone
 replace hsome := hi_ hsome
 replace hres := hi_ hres
 clear h1 h2 h3 h4 hB5 h6 h7 h8 h9 h10 h11 hAL hl hlv hbk
 go_enter Tryz.func40, Tryz.ntmps40
 go_upto_region 1 with (fail)
 rw [← hW1, ← hW2]
 replace hW1 := hi_ hW1
 replace hW2 := hi_ hW2
 cases hs with
 | false =>
  have hz := hOf.out rfl
  subst hz
  go_wp2_with (first
   | (go_at_call 65; (with_reducible refine c65.mono ?_); rintro e w3 ⟨rfl, hB3⟩; have c67 := cos_None w3; replace hB3 := hi_ hB3)
   | (go_at_call 67; (with_reducible refine c67.mono ?_); rintro e w4 ⟨rfl, hB4⟩; have hD4 := bthen hB3.out hB4; have hRb := hres.out w4 hD4; have r0 := hRb.cell 0; have r1 := hRb.cell 1; have r2 := hRb.cell 2; have r3 := hRb.cell 3; have r4 := hRb.cell 4; have v0 := hRb.frozen 0; have v1 := hRb.frozen 1; have v2 := hRb.frozen 2; have v3 := hRb.frozen 3; have v4 := hRb.frozen 4; replace hD4 := hi_ hD4; clear hRb hB4))
  obtain ⟨Wf, hWf⟩ : ∃ W, W = ((((w4.setCell ⟨w.heap.size + 1, 0, none⟩ (.int .i64 0)).setCell ⟨w.heap.size + 1, 1, none⟩ (.int .i64 0)).setCell ⟨w.heap.size + 1, 2, none⟩ (.slice none 0 0)).setCell ⟨w.heap.size + 1, 3, none⟩ (.slice none 0 0)).setCell ⟨w.heap.size + 1, 4, none⟩ (.slice none 0 0) := ⟨_, rfl⟩
  rw [← hWf]
  obtain ⟨hbf, hI, hBf⟩ := hnone.out w4 hD4.out Wf hWf
  have u0 := hbf.cell 0
  have u1 := hbf.cell 1
  have u2 := hbf.cell 2
  have u3 := hbf.cell 3
  have u4 := hbf.cell 4
  replace hI := hi_ hI
  replace hBf := hi_ hBf
  clear hbf
  replace hWf := hi_ hWf
  exact bodyPost_ret (by simp [results, Tryz.results40, go_sem, u0, u1, u2, u3, u4]; try rfl) rfl ⟨[.int .i64 0, .int .i64 0, .slice none 0 0, .slice none 0 0, .slice none 0 0], rfl, hI.out, hBf.out⟩
 | true =>
  go_wp2_with (go_at_call 65; (with_reducible refine c65.mono ?_); rintro e w3 ⟨rfl, hB3⟩; obtain ⟨p0, p1, p2, p3, p4⟩ := five_kept f.out hB3; replace hB3 := hi_ hB3)
  go_loopw [12] (fun s12 wr => ∃ j : Nat, j ≤ m3 ∧ s12 = .int .i64 j ∧ (∀ q (h : q < j) (h' : q < d.length), (d[q].1 == K.data.toList) = false) ∧ Below W2.heap.size W2 wr) (fun s12 _ => m3 - (RowKit.intOf s12).toNat)
  case atStart => exact ⟨0, by omega, rfl, fun q h => by omega, hB3.out⟩
  case round =>
   obtain ⟨j, hj, rfl, hP, hB⟩ := hrel
   have lB := hB.size
   by_cases hjm : j < m3
   ·have hjl : j < d.length := by rw [← hm3.out]; exact hjm
    have hAe := hAD.out (by omega)
    subst hAe
    have hbw : Below w.heap.size w wr := bthen hb2.out hB
    obtain ⟨e, he⟩ : ∃ e, e = d[j] := ⟨_, rfl⟩
    have hob := (hdo.out j hjl).kept hbw
    have hky := hdk.out j hjl
    have hcv := hdv.out j hjl
    rw [← he] at hob hky
    have hzo : e.2.bulk ≤ 1048576 := by have := bulkD_at d j hjl; rw [← he] at this; omega
    obtain ⟨us0, hus0⟩ : ∃ us, us = vd j := ⟨_, rfl⟩
    rw [← hus0] at hob hcv
    obtain ⟨en, E1, E2, E3, en1, ec1, en2, ec2, en3, ec3, hys⟩ := ob_five2 hob
    obtain ⟨kk, hkk⟩ : ∃ k, k = e.2.kind := ⟨_, rfl⟩
    rw [← hkk] at hys
    subst hys
    obtain ⟨K0, hK⟩ : ∃ K, K = bytes e.1 := ⟨_, rfl⟩
    have x0 : wr.cell? ⟨gD, oD + j * 6, none⟩ = some (.string K0) := by
     have h1 := (hbw.cell (cell_lt hky.2)).trans hky.2
     rw [Nat.mul_comm] at h1
     rw [h1, hK]; rfl
    have five : ∀ q u, [Value.int .i64 kk, .int .i64 en, .slice E1 en1 ec1, .slice E2 en2 ec2, .slice E3 en3 ec3][q]? = some u → wr.cell? ⟨gD, oD + j * 6 + 1 + q, none⟩ = some u := fun q u hq => by
     have h0 := hcv q (by have := (List.getElem?_eq_some_iff.1 hq).1; simpa using this)
     rw [hq] at h0
     have h1 := (hbw.cell (cell_lt h0)).trans h0
     rw [show oD + (6 * j + 1 + q) = oD + j * 6 + 1 + q by omega] at h1
     exact h1
    have x1 : wr.cell? ⟨gD, oD + j * 6 + 1, none⟩ = some (.int .i64 kk) := five 0 _ rfl
    have x2 : wr.cell? ⟨gD, oD + j * 6 + 2, none⟩ = some (.int .i64 en) := five 1 _ rfl
    have x3 : wr.cell? ⟨gD, oD + j * 6 + 3, none⟩ = some (.slice E1 en1 ec1) := five 2 _ rfl
    have x4 : wr.cell? ⟨gD, oD + j * 6 + 4, none⟩ = some (.slice E2 en2 ec2) := five 3 _ rfl
    have x5 : wr.cell? ⟨gD, oD + j * 6 + 5, none⟩ = some (.slice E3 en3 ec3) := five 4 _ rfl
    obtain ⟨W5, hW5⟩ : ∃ W, W = wr.alloc (.cells #[.string K0, .int .i64 kk, .int .i64 en, .slice E1 en1 ec1, .slice E2 en2 ec2, .slice E3 en3 ec3] 53) := ⟨_, rfl⟩
    have hb5 : Below wr.heap.size wr W5 := by rw [hW5]; exact (Below.refl _ _).alloc (Nat.le_refl _) _
    have hD5 : Below W2.heap.size W2 W5 := hB.trans (hb5.mono lB)
    have c66 := copy_all 1048576 (Nat.le_refl _) e.2 _ W5 (hob.kept hb5) hzo
    obtain ⟨y0, y1, y2, y3, y4, y5⟩ := six_cells hW5
    obtain ⟨q, hq⟩ : ∃ q, (K0.toList == K.toList) = q := ⟨_, rfl⟩
    have hq2 : (d[j].1 == K.data.toList) = q := by rw [← hq, hK, key_eq, he]
    have hl5 := hD5.size
    clear five hcv hob hus0 hky hbw
    replace he := hi_ he
    replace hkk := hi_ hkk
    replace hK := hi_ hK
    replace hD5 := hi_ hD5
    replace hB := hi_ hB
    replace hb5 := hi_ hb5
    replace hP := hi_ hP
    replace hq2 := hi_ hq2
    go_upto_region 5 with (fail)
    rw [← hW5]
    replace hW5 := hi_ hW5
    clear x0 x1 x2 x3 x4 x5
    cases q with
    | false =>
     have hP2 : ∀ q (h : q < j + 1) (h' : q < d.length), (d[q].1 == K.data.toList) = false := fun q h h' => by
      by_cases h3 : q = j
      ·subst h3; exact hq2.out
      ·exact hP.out q (by omega) h'
     replace hP2 := hi_ hP2
     clear c66
     go_wp2
     go_roundw
     case rel => exact ⟨j + 1, by omega, by go_num, hP2.out, hD5.out⟩
     case measure => simp [RowKit.intOf]; omega
    | true =>
     have hz := hOs.out (by trivial) _ (find_at hjl (fun q h => hP.out q h (by omega)) hq2.out)
     rw [← he.out] at hz
     subst hz
     go_wp2_with (go_at_call 66; (with_reducible refine c66.mono ?_); rintro e' w6 ⟨us, rfl, hI, hB6⟩; obtain ⟨en', E1', E2', E3', en1', ec1', en2', ec2', en3', ec3', hys'⟩ := ob_five2 hI.ob; rw [← hkk.out] at hys'; subst hys'; have hD6 := bthen hD5.out hB6; have hRb := hres.out w6 hD6; have r0 := hRb.cell 0; have r1 := hRb.cell 1; have r2 := hRb.cell 2; have r3 := hRb.cell 3; have r4 := hRb.cell 4; have v0 := hRb.frozen 0; have v1 := hRb.frozen 1; have v2 := hRb.frozen 2; have v3 := hRb.frozen 3; have v4 := hRb.frozen 4; replace hD6 := hi_ hD6; replace hI := hi_ hI; clear hRb hB6)
     obtain ⟨Wf, hWf⟩ : ∃ W, W = ((((w6.setCell ⟨w.heap.size + 1, 0, none⟩ (.int .i64 kk)).setCell ⟨w.heap.size + 1, 1, none⟩ (.int .i64 en')).setCell ⟨w.heap.size + 1, 2, none⟩ (.slice E1' en1' ec1')).setCell ⟨w.heap.size + 1, 3, none⟩ (.slice E2' en2' ec2')).setCell ⟨w.heap.size + 1, 4, none⟩ (.slice E3' en3' ec3') := ⟨_, rfl⟩
     rw [← hWf]
     obtain ⟨hbf, hI2, hBf⟩ := hsome.out w6 W5.heap.size _ _ _ _ _ hD6.out hl5 hI.out Wf hWf
     have u0 := hbf.cell 0
     have u1 := hbf.cell 1
     have u2 := hbf.cell 2
     have u3 := hbf.cell 3
     have u4 := hbf.cell 4
     replace hI2 := hi_ hI2
     replace hBf := hi_ hBf
     clear hbf
     replace hWf := hi_ hWf
     exact bodyPost_ret (by simp [results, Tryz.results40, go_sem, u0, u1, u2, u3, u4]; try rfl) rfl ⟨[.int .i64 kk, .int .i64 en', .slice E1' en1' ec1', .slice E2' en2' ec2', .slice E3' en3' ec3'], rfl, hI2.out, hBf.out⟩
   ·obtain rfl : j = m3 := by omega
    have hz := hOn.out (by trivial) (find_no fun q h => hP q (by rw [hm3.out]; exact h) h)
    subst hz
    have c67 := cos_None wr
    replace hB := hi_ hB
    replace hP := hi_ hP
    go_wp2_with (go_at_call 67; (with_reducible refine c67.mono ?_); rintro e w4 ⟨rfl, hB4⟩; have hD4 := bthen hB.out hB4; have hRb := hres.out w4 hD4; have r0 := hRb.cell 0; have r1 := hRb.cell 1; have r2 := hRb.cell 2; have r3 := hRb.cell 3; have r4 := hRb.cell 4; have v0 := hRb.frozen 0; have v1 := hRb.frozen 1; have v2 := hRb.frozen 2; have v3 := hRb.frozen 3; have v4 := hRb.frozen 4; replace hD4 := hi_ hD4; clear hRb hB4)
    obtain ⟨Wf, hWf⟩ : ∃ W, W = ((((w4.setCell ⟨w.heap.size + 1, 0, none⟩ (.int .i64 0)).setCell ⟨w.heap.size + 1, 1, none⟩ (.int .i64 0)).setCell ⟨w.heap.size + 1, 2, none⟩ (.slice none 0 0)).setCell ⟨w.heap.size + 1, 3, none⟩ (.slice none 0 0)).setCell ⟨w.heap.size + 1, 4, none⟩ (.slice none 0 0) := ⟨_, rfl⟩
    rw [← hWf]
    obtain ⟨hbf, hI, hBf⟩ := hnone.out w4 hD4.out Wf hWf
    have u0 := hbf.cell 0
    have u1 := hbf.cell 1
    have u2 := hbf.cell 2
    have u3 := hbf.cell 3
    have u4 := hbf.cell 4
    replace hI := hi_ hI
    replace hBf := hi_ hBf
    clear hbf
    replace hWf := hi_ hWf
    exact bodyPost_ret (by simp [results, Tryz.results40, go_sem, u0, u1, u2, u3, u4]; try rfl) rfl ⟨[.int .i64 0, .int .i64 0, .slice none 0 0, .slice none 0 0, .slice none 0 0], rfl, hI.out, hBf.out⟩

/- A key's value, by the document. No condition. -/
set_option maxHeartbeats 8000000 in
set_option maxRecDepth 100000 in
theorem ref_Get (o : Ob) (vs : List Value) (w : World) (h : ObAt w o vs) (hbk : o.bulk ≤ 1048576) (K : ByteArray) : Calls Tryz.prog 20 #[.agg vs.toArray, .string K] w fun e w' => ∃ us, e = .returned (.agg (List.toArray us)) ∧ ObI w.heap.size w'.heap.size w' (Ob.get K.data.toList o) us ∧ Below w.heap.size w w' := by
 cases h with
 | mk k n b l d A AL AD c cL cD gL oL gD oD vl vd h1 h2 h3 h4 hB5 h6 h7 h8 h9 h10 h11 hAL hl hlv hAD hdo hdk hdv =>
 have zk : b.length + bulkL l + bulkD d + 1 ≤ 1048576 := hbk
 have zd := bulkD_len d
 obtain ⟨m3, hm3⟩ : ∃ m, m = d.length := ⟨_, rfl⟩
 rw [← hm3] at zd ⊢
 have zd1 : m3 ≤ 1048576 := by omega
 obtain ⟨W1, hW1⟩ : ∃ W, W = w.alloc (.cells #[.int .i64 k, .int .i64 n, .slice A b.length c, .slice AL l.length cL, .slice AD m3 cD] 26) := ⟨_, rfl⟩
 obtain ⟨W2, hW2⟩ : ∃ W, W = W1.alloc (.cells #[.int .i64 0, .int .i64 0, .slice none 0 0, .slice none 0 0, .slice none 0 0] 26) := ⟨_, rfl⟩
 have hb1 : Below w.heap.size w W1 := by rw [hW1]; exact (Below.refl _ _).alloc (Nat.le_refl _) _
 have z1 : W1.heap.size = w.heap.size + 1 := by rw [hW1, World.size_alloc]
 have hb2 : Below w.heap.size w W2 := by rw [hW2]; exact hb1.alloc (by omega) _
 have z2 : W2.heap.size = w.heap.size + 2 := by rw [hW2, World.size_alloc, z1]
 have f := five_kept (five_cells hW1) (W' := W2) (by rw [hW2]; exact (Below.refl _ _).alloc (Nat.le_refl _) _)
 have hR2 : Blk W2 (w.heap.size + 1) 26 #[.int .i64 0, .int .i64 0, .slice none 0 0, .slice none 0 0, .slice none 0 0] := by rw [hW2, ← z1]; exact Blk.new W1 26 _
 obtain ⟨f0, f1, f2, f3, f4⟩ := id f
 have c50 := ref_Has k (.int .i64 n) (.slice A b.length c) (.slice AL l.length cL) (.slice AD m3 cD) W2
 obtain ⟨O, hO⟩ : ∃ O, O = Ob.get K.data.toList (.mk k n b l d) := ⟨_, rfl⟩
 have hOf : hasI k = false → O = zeroO := fun h => by rw [hO]; simp [Ob.get, h]
 have hOs : hasI k = true → ∀ e, (d.find? fun e => e.1 == K.data.toList) = some e → O = e.2 := fun h e he => by rw [hO]; simp [Ob.get, h, he]
 have hOn : hasI k = true → (d.find? fun e => e.1 == K.data.toList) = none → O = zeroO := fun h he => by rw [hO]; simp only [Ob.get, h, he, if_true]
 rw [← hO]
 obtain ⟨hs, hhs⟩ : ∃ z, hasI k = z := ⟨_, rfl⟩
 rw [hhs] at c50 hOf hOs hOn
 -- the end, where there is none
 have hnone : ∀ W : World, Below W2.heap.size W2 W → ∀ Wf, Wf = ((((W.setCell ⟨w.heap.size + 1, 0, none⟩ (.int .i64 0)).setCell ⟨w.heap.size + 1, 1, none⟩ (.int .i64 0)).setCell ⟨w.heap.size + 1, 2, none⟩ (.slice none 0 0)).setCell ⟨w.heap.size + 1, 3, none⟩ (.slice none 0 0)).setCell ⟨w.heap.size + 1, 4, none⟩ (.slice none 0 0) →
  Blk Wf (w.heap.size + 1) 26 #[.int .i64 0, .int .i64 0, .slice none 0 0, .slice none 0 0, .slice none 0 0] ∧ ObI w.heap.size Wf.heap.size Wf zeroO [.int .i64 0, .int .i64 0, .slice none 0 0, .slice none 0 0, .slice none 0 0] ∧ Below w.heap.size w Wf := fun W hW Wf hWf => by
  have hRb := hR2.below hW (by omega)
  have hz := hW.size
  obtain ⟨q1, q2, q3, q4⟩ := put_res (lo := W2.heap.size) (hi := W.heap.size) hRb zero_I (by omega) hWf
  exact ⟨q1, q2.wide (by omega), (bthen hb2 hW).grown q3 (by omega) (fun q hq => by injection hq with hq; omega)⟩
 have hsome : ∀ (W : World) (lo : Nat) (u0 u1 u2 u3 u4 : Value), Below W2.heap.size W2 W → W2.heap.size ≤ lo → ObI lo W.heap.size W O [u0, u1, u2, u3, u4] → ∀ Wf, Wf = ((((W.setCell ⟨w.heap.size + 1, 0, none⟩ u0).setCell ⟨w.heap.size + 1, 1, none⟩ u1).setCell ⟨w.heap.size + 1, 2, none⟩ u2).setCell ⟨w.heap.size + 1, 3, none⟩ u3).setCell ⟨w.heap.size + 1, 4, none⟩ u4 →
  Blk Wf (w.heap.size + 1) 26 #[u0, u1, u2, u3, u4] ∧ ObI w.heap.size Wf.heap.size Wf O [u0, u1, u2, u3, u4] ∧ Below w.heap.size w Wf := fun W lo u0 u1 u2 u3 u4 hW hlo hI Wf hWf => by
  have hRb := hR2.below hW (by omega)
  have hz := hW.size
  obtain ⟨q1, q2, q3, q4⟩ := put_res hRb hI (by omega) hWf
  exact ⟨q1, q2.wide (by omega), (bthen hb2 hW).grown q3 (by omega) (fun q hq => by injection hq with hq; omega)⟩
 have hres : ∀ W : World, Below W2.heap.size W2 W → Blk W (w.heap.size + 1) 26 #[.int .i64 0, .int .i64 0, .slice none 0 0, .slice none 0 0, .slice none 0 0] := fun W hW => hR2.below hW (by omega)
 replace hm3 := hi_ hm3
 replace hAD := hi_ hAD
 replace hdo := hi_ hdo
 replace hdk := hi_ hdk
 replace hdv := hi_ hdv
 replace hb1 := hi_ hb1
 replace hb2 := hi_ hb2
 replace f := hi_ f
 replace hR2 := hi_ hR2
 replace hO := hi_ hO
 replace hOf := hi_ hOf
 replace hOs := hi_ hOs
 replace hOn := hi_ hOn
 replace hhs := hi_ hhs
 replace hnone := hi_ hnone
 replace hsome := hi_ hsome
 replace hres := hi_ hres
 clear h1 h2 h3 h4 hB5 h6 h7 h8 h9 h10 h11 hAL hl hlv hbk
 go_enter Tryz.func20, Tryz.ntmps20
 go_upto_region 1 with (fail)
 rw [← hW1, ← hW2]
 replace hW1 := hi_ hW1
 replace hW2 := hi_ hW2
 cases hs with
 | false =>
  have hz := hOf.out rfl
  subst hz
  go_wp2_with (first
   | (go_at_call 50; (with_reducible refine c50.mono ?_); rintro e w3 ⟨rfl, hB3⟩; have hD4 := hB3; have hRb := hres.out w3 hD4; have r0 := hRb.cell 0; have r1 := hRb.cell 1; have r2 := hRb.cell 2; have r3 := hRb.cell 3; have r4 := hRb.cell 4; have v0 := hRb.frozen 0; have v1 := hRb.frozen 1; have v2 := hRb.frozen 2; have v3 := hRb.frozen 3; have v4 := hRb.frozen 4; replace hD4 := hi_ hD4; clear hRb))
  obtain ⟨Wf, hWf⟩ : ∃ W, W = ((((w3.setCell ⟨w.heap.size + 1, 0, none⟩ (.int .i64 0)).setCell ⟨w.heap.size + 1, 1, none⟩ (.int .i64 0)).setCell ⟨w.heap.size + 1, 2, none⟩ (.slice none 0 0)).setCell ⟨w.heap.size + 1, 3, none⟩ (.slice none 0 0)).setCell ⟨w.heap.size + 1, 4, none⟩ (.slice none 0 0) := ⟨_, rfl⟩
  rw [← hWf]
  obtain ⟨hbf, hI, hBf⟩ := hnone.out w3 hD4.out Wf hWf
  have u0 := hbf.cell 0
  have u1 := hbf.cell 1
  have u2 := hbf.cell 2
  have u3 := hbf.cell 3
  have u4 := hbf.cell 4
  replace hI := hi_ hI
  replace hBf := hi_ hBf
  clear hbf
  replace hWf := hi_ hWf
  exact bodyPost_ret (by simp [results, Tryz.results20, go_sem, u0, u1, u2, u3, u4]; try rfl) rfl ⟨[.int .i64 0, .int .i64 0, .slice none 0 0, .slice none 0 0, .slice none 0 0], rfl, hI.out, hBf.out⟩
 | true =>
  go_wp2_with (go_at_call 50; (with_reducible refine c50.mono ?_); rintro e w3 ⟨rfl, hB3⟩; obtain ⟨p0, p1, p2, p3, p4⟩ := five_kept f.out hB3; replace hB3 := hi_ hB3)
  go_loopw [5] (fun s5 wr => ∃ j : Nat, j ≤ m3 ∧ s5 = .int .i64 j ∧ (∀ q (h : q < j) (h' : q < d.length), (d[q].1 == K.data.toList) = false) ∧ Below W2.heap.size W2 wr) (fun s5 _ => m3 - (RowKit.intOf s5).toNat)
  case atStart => exact ⟨0, by omega, rfl, fun q h => by omega, hB3.out⟩
  case round =>
   obtain ⟨j, hj, rfl, hP, hB⟩ := hrel
   obtain ⟨k0, k1, k2, k3, k4⟩ := five_kept f.out hB
   have lB := hB.size
   by_cases hjm : j < m3
   ·have hjl : j < d.length := by rw [← hm3.out]; exact hjm
    have hAe := hAD.out (by omega)
    subst hAe
    have hbw : Below w.heap.size w wr := bthen hb2.out hB
    obtain ⟨e, he⟩ : ∃ e, e = d[j] := ⟨_, rfl⟩
    have hob := (hdo.out j hjl).kept hbw
    have hky := hdk.out j hjl
    have hcv := hdv.out j hjl
    rw [← he] at hob hky
    have hzo : e.2.bulk ≤ 1048576 := by have := bulkD_at d j hjl; rw [← he] at this; omega
    obtain ⟨us0, hus0⟩ : ∃ us, us = vd j := ⟨_, rfl⟩
    rw [← hus0] at hob hcv
    obtain ⟨en, E1, E2, E3, en1, ec1, en2, ec2, en3, ec3, hys⟩ := ob_five2 hob
    obtain ⟨kk, hkk⟩ : ∃ k, k = e.2.kind := ⟨_, rfl⟩
    rw [← hkk] at hys
    subst hys
    obtain ⟨K0, hK⟩ : ∃ K, K = bytes e.1 := ⟨_, rfl⟩
    have x0 : wr.cell? ⟨gD, oD + j * 6, none⟩ = some (.string K0) := by
     have h1 := (hbw.cell (cell_lt hky.2)).trans hky.2
     rw [Nat.mul_comm] at h1
     rw [h1, hK]; rfl
    have five : ∀ q u, [Value.int .i64 kk, .int .i64 en, .slice E1 en1 ec1, .slice E2 en2 ec2, .slice E3 en3 ec3][q]? = some u → wr.cell? ⟨gD, oD + j * 6 + 1 + q, none⟩ = some u := fun q u hq => by
     have h0 := hcv q (by have := (List.getElem?_eq_some_iff.1 hq).1; simpa using this)
     rw [hq] at h0
     have h1 := (hbw.cell (cell_lt h0)).trans h0
     rw [show oD + (6 * j + 1 + q) = oD + j * 6 + 1 + q by omega] at h1
     exact h1
    have x1 : wr.cell? ⟨gD, oD + j * 6 + 1, none⟩ = some (.int .i64 kk) := five 0 _ rfl
    have x2 : wr.cell? ⟨gD, oD + j * 6 + 2, none⟩ = some (.int .i64 en) := five 1 _ rfl
    have x3 : wr.cell? ⟨gD, oD + j * 6 + 3, none⟩ = some (.slice E1 en1 ec1) := five 2 _ rfl
    have x4 : wr.cell? ⟨gD, oD + j * 6 + 4, none⟩ = some (.slice E2 en2 ec2) := five 3 _ rfl
    have x5 : wr.cell? ⟨gD, oD + j * 6 + 5, none⟩ = some (.slice E3 en3 ec3) := five 4 _ rfl
    have c51 := rcopy_all 1048576 (Nat.le_refl _) e.2 _ wr hob hzo
    obtain ⟨q, hq⟩ : ∃ q, (K0.toList == K.toList) = q := ⟨_, rfl⟩
    have hq2 : (d[j].1 == K.data.toList) = q := by rw [← hq, hK, key_eq, he]
    clear five hcv hob hus0 hky hbw
    replace he := hi_ he
    replace hkk := hi_ hkk
    replace hK := hi_ hK
    replace hB := hi_ hB
    replace hP := hi_ hP
    replace hq2 := hi_ hq2
    cases q with
    | false =>
     have hP2 : ∀ q (h : q < j + 1) (h' : q < d.length), (d[q].1 == K.data.toList) = false := fun q h h' => by
      by_cases h3 : q = j
      ·subst h3; exact hq2.out
      ·exact hP.out q (by omega) h'
     replace hP2 := hi_ hP2
     clear c51
     go_wp2
     go_roundw
     case rel => exact ⟨j + 1, by omega, by go_num, hP2.out, hB.out⟩
     case measure => simp [RowKit.intOf]; omega
    | true =>
     have hz := hOs.out (by trivial) _ (find_at hjl (fun q h => hP.out q h (by omega)) hq2.out)
     rw [← he.out] at hz
     subst hz
     go_wp2_with (go_at_call 51; (with_reducible refine c51.mono ?_); rintro e' w6 ⟨us, rfl, hI, hB6⟩; obtain ⟨en', E1', E2', E3', en1', ec1', en2', ec2', en3', ec3', hys'⟩ := ob_five2 hI.ob; rw [← hkk.out] at hys'; subst hys'; have hD6 := bthen hB.out hB6; have hRb := hres.out w6 hD6; have r0 := hRb.cell 0; have r1 := hRb.cell 1; have r2 := hRb.cell 2; have r3 := hRb.cell 3; have r4 := hRb.cell 4; have v0 := hRb.frozen 0; have v1 := hRb.frozen 1; have v2 := hRb.frozen 2; have v3 := hRb.frozen 3; have v4 := hRb.frozen 4; replace hD6 := hi_ hD6; replace hI := hi_ hI; clear hRb hB6)
     obtain ⟨Wf, hWf⟩ : ∃ W, W = ((((w6.setCell ⟨w.heap.size + 1, 0, none⟩ (.int .i64 kk)).setCell ⟨w.heap.size + 1, 1, none⟩ (.int .i64 en')).setCell ⟨w.heap.size + 1, 2, none⟩ (.slice E1' en1' ec1')).setCell ⟨w.heap.size + 1, 3, none⟩ (.slice E2' en2' ec2')).setCell ⟨w.heap.size + 1, 4, none⟩ (.slice E3' en3' ec3') := ⟨_, rfl⟩
     rw [← hWf]
     obtain ⟨hbf, hI2, hBf⟩ := hsome.out w6 wr.heap.size _ _ _ _ _ hD6.out lB hI.out Wf hWf
     have u0 := hbf.cell 0
     have u1 := hbf.cell 1
     have u2 := hbf.cell 2
     have u3 := hbf.cell 3
     have u4 := hbf.cell 4
     replace hI2 := hi_ hI2
     replace hBf := hi_ hBf
     clear hbf
     replace hWf := hi_ hWf
     exact bodyPost_ret (by simp [results, Tryz.results20, go_sem, u0, u1, u2, u3, u4]; try rfl) rfl ⟨[.int .i64 kk, .int .i64 en', .slice E1' en1' ec1', .slice E2' en2' ec2', .slice E3' en3' ec3'], rfl, hI2.out, hBf.out⟩
   ·obtain rfl : j = m3 := by omega
    have hz := hOn.out (by trivial) (find_no fun q h => hP q (by rw [hm3.out]; exact h) h)
    subst hz
    have hRb := hres.out wr hB
    have r0 := hRb.cell 0
    have r1 := hRb.cell 1
    have r2 := hRb.cell 2
    have r3 := hRb.cell 3
    have r4 := hRb.cell 4
    have v0 := hRb.frozen 0
    have v1 := hRb.frozen 1
    have v2 := hRb.frozen 2
    have v3 := hRb.frozen 3
    have v4 := hRb.frozen 4
    clear hRb
    replace hB := hi_ hB
    replace hP := hi_ hP
    go_wp2
    obtain ⟨Wf, hWf⟩ : ∃ W, W = ((((wr.setCell ⟨w.heap.size + 1, 0, none⟩ (.int .i64 0)).setCell ⟨w.heap.size + 1, 1, none⟩ (.int .i64 0)).setCell ⟨w.heap.size + 1, 2, none⟩ (.slice none 0 0)).setCell ⟨w.heap.size + 1, 3, none⟩ (.slice none 0 0)).setCell ⟨w.heap.size + 1, 4, none⟩ (.slice none 0 0) := ⟨_, rfl⟩
    rw [← hWf]
    obtain ⟨hbf, hI, hBf⟩ := hnone.out wr hB.out Wf hWf
    have u0 := hbf.cell 0
    have u1 := hbf.cell 1
    have u2 := hbf.cell 2
    have u3 := hbf.cell 3
    have u4 := hbf.cell 4
    replace hI := hi_ hI
    replace hBf := hi_ hBf
    clear hbf
    replace hWf := hi_ hWf
    exact bodyPost_ret (by simp [results, Tryz.results20, go_sem, u0, u1, u2, u3, u4]; try rfl) rfl ⟨[.int .i64 0, .int .i64 0, .slice none 0 0, .slice none 0 0, .slice none 0 0], rfl, hI.out, hBf.out⟩

/- Keys held against each other: strings.Compare, byKey, the closures of sorted. No condition. -/
set_option maxHeartbeats 1000000 in
set_option maxRecDepth 100000 in
theorem cmp_str (a b : ByteArray) (w : World) : Calls Tryz.prog 128 #[.string a, .string b] w fun e w' => e = .returned (.int .i64 (Lib.compareBytes a.data.toList b.data.toList)) ∧ w' = w := by
 go_enter Tryz.func128, Tryz.ntmps128
 go_wp2
 rw [run_callFunc_extern Tryz.func139 (by kernel_rfl) (by kernel_rfl) (by kernel_rfl) (e := Extern.BytealgCompare.compare) (by kernel_rfl), Lib.run_compareString]
 simp only [Result.andThen]
 rw [Oper.upon_value]
 go_wp2
 go_ret
 exact ⟨rfl, rfl⟩
set_option maxHeartbeats 1000000 in
theorem str_Compare (a b : ByteArray) (w : World) : Calls Tryz.prog 109 #[.string a, .string b] w fun e w' => e = .returned (.int .i64 (Lib.compareBytes a.data.toList b.data.toList)) ∧ w' = w := by
 have c := cmp_str a b w
 go_enter Tryz.func109, Tryz.ntmps109
 go_wp2_with (go_at_call 128; (with_reducible refine c.mono ?_); rintro e w' ⟨rfl, rfl⟩)
 go_ret
 exact ⟨rfl, rfl⟩
set_option maxHeartbeats 2000000 in
set_option maxRecDepth 100000 in
theorem by_Key (K K' : ByteArray) (a0 a1 a2 a3 a4 b0 b1 b2 b3 b4 : Value) (w : World) : Calls Tryz.prog 73 #[.agg #[.string K, a0, a1, a2, a3, a4], .agg #[.string K', b0, b1, b2, b3, b4]] w fun e w' => e = .returned (.int .i64 (Lib.compareBytes K.data.toList K'.data.toList)) ∧ Below w.heap.size w w' := by
 have c := fun W => str_Compare K K' W
 have hb : Below w.heap.size w ((w.alloc (.cells #[.string K, a0, a1, a2, a3, a4] 53)).alloc (.cells #[.string K', b0, b1, b2, b3, b4] 53)) := ((Below.refl _ _).alloc (Nat.le_refl _) _).alloc (by rw [World.size_alloc]; omega) _
 replace hb := hi_ hb
 go_enter Tryz.func73, Tryz.ntmps73
 go_wp2_with (go_at_call 109; (with_reducible refine (c _).mono ?_); rintro e w' ⟨rfl, rfl⟩)
 go_ret
 exact ⟨rfl, hb.out⟩
set_option maxHeartbeats 2000000 in
set_option maxRecDepth 100000 in
theorem clo_ge (K K' : ByteArray) (a0 a1 a2 a3 a4 b0 b1 b2 b3 b4 : Value) (w : World) (p q : Nat) (hp : w.cell? ⟨p, 0, none⟩ = some (.func (.func 73) #[] #[]))
 (hq : w.cell? ⟨q, 0, none⟩ = some (.string K') ∧ w.cell? ⟨q, 1, none⟩ = some b0 ∧ w.cell? ⟨q, 2, none⟩ = some b1 ∧ w.cell? ⟨q, 3, none⟩ = some b2 ∧ w.cell? ⟨q, 4, none⟩ = some b3 ∧ w.cell? ⟨q, 5, none⟩ = some b4) :
 Calls Tryz.prog 105 #[.agg #[.string K, a0, a1, a2, a3, a4], .pointer (some ⟨p, 0, none⟩), .pointer (some ⟨q, 0, none⟩)] w fun e w' => e = .returned (.bool (decide (0 ≤ Lib.compareBytes K.data.toList K'.data.toList))) ∧ Below w.heap.size w w' := by
 obtain ⟨q0, q1, q2, q3, q4, q5⟩ := hq
 obtain ⟨C, hC⟩ : ∃ C, C = Lib.compareBytes K.data.toList K'.data.toList := ⟨_, rfl⟩
 have c := fun W => by_Key K K' a0 a1 a2 a3 a4 b0 b1 b2 b3 b4 W
 rw [← hC] at c ⊢
 have hb : Below w.heap.size w (w.alloc (.cells #[.string K, a0, a1, a2, a3, a4] 53)) := (Below.refl _ _).alloc (Nat.le_refl _) _
 replace hb := hi_ hb
 replace hC := hi_ hC
 have l1 := cell_lt hp
 have l2 := cell_lt q0
 go_enter Tryz.func105, Tryz.ntmps105
 go_wp2_with (go_at_call 73; (with_reducible refine (c _).mono ?_); rintro e w' ⟨rfl, hB⟩; replace hB := hi_ hB)
 go_ret
 exact ⟨rfl, bthen hb.out hB.out⟩
set_option maxHeartbeats 2000000 in
set_option maxRecDepth 100000 in
theorem clo_eq (K K' : ByteArray) (a0 a1 a2 a3 a4 b0 b1 b2 b3 b4 : Value) (w : World) (p q : Nat) (hp : w.cell? ⟨p, 0, none⟩ = some (.func (.func 73) #[] #[]))
 (hq : w.cell? ⟨q, 0, none⟩ = some (.string K') ∧ w.cell? ⟨q, 1, none⟩ = some b0 ∧ w.cell? ⟨q, 2, none⟩ = some b1 ∧ w.cell? ⟨q, 3, none⟩ = some b2 ∧ w.cell? ⟨q, 4, none⟩ = some b3 ∧ w.cell? ⟨q, 5, none⟩ = some b4) :
 Calls Tryz.prog 106 #[.agg #[.string K, a0, a1, a2, a3, a4], .pointer (some ⟨p, 0, none⟩), .pointer (some ⟨q, 0, none⟩)] w fun e w' => e = .returned (.bool (Lib.compareBytes K.data.toList K'.data.toList == 0)) ∧ Below w.heap.size w w' := by
 obtain ⟨q0, q1, q2, q3, q4, q5⟩ := hq
 obtain ⟨C, hC⟩ : ∃ C, C = Lib.compareBytes K.data.toList K'.data.toList := ⟨_, rfl⟩
 have c := fun W => by_Key K K' a0 a1 a2 a3 a4 b0 b1 b2 b3 b4 W
 rw [← hC] at c ⊢
 have hb : Below w.heap.size w (w.alloc (.cells #[.string K, a0, a1, a2, a3, a4] 53)) := (Below.refl _ _).alloc (Nat.le_refl _) _
 replace hb := hi_ hb
 replace hC := hi_ hC
 have l1 := cell_lt hp
 have l2 := cell_lt q0
 go_enter Tryz.func106, Tryz.ntmps106
 go_wp2_with (go_at_call 73; (with_reducible refine (c _).mono ?_); rintro e w' ⟨rfl, hB⟩; replace hB := hi_ hB)
 go_ret
 exact ⟨rfl, bthen hb.out hB.out⟩
theorem cmp_ge : ∀ (a b : List UInt8), decide (0 ≤ Lib.compareBytes a b) = !ltB a b
 | [], [] => by simp [Lib.compareBytes, ltB]
 | [], _ :: _ => by simp [Lib.compareBytes, ltB]
 | _ :: _, [] => by simp [Lib.compareBytes, ltB]
 | a :: r, b :: s => by
  have ih := cmp_ge r s
  unfold Lib.compareBytes ltB
  by_cases h1 : a < b
  ·simp [h1]
  ·by_cases h2 : b < a
   ·simp [h1, h2]
   ·simp [h1, h2]; simpa using ih
theorem cmp_eq0 : ∀ (a b : List UInt8), (Lib.compareBytes a b == 0) = (a == b)
 | [], [] => by simp [Lib.compareBytes]
 | [], _ :: _ => by simp [Lib.compareBytes]
 | _ :: _, [] => by simp [Lib.compareBytes]
 | a :: r, b :: s => by
  have ih := cmp_eq0 r s
  unfold Lib.compareBytes
  by_cases h1 : a < b
  ·have : a ≠ b := fun e => by subst e; exact absurd h1 (by simp)
   simp [h1, this]
  ·by_cases h2 : b < a
   ·have : a ≠ b := fun e => by subst e; exact absurd h2 (by simp)
    simp [h1, h2, this]
   ·have : a = b := by
     apply UInt8.toNat_inj.1
     have e1 : ¬ a.toNat < b.toNat := h1
     have e2 : ¬ b.toNat < a.toNat := h2
     omega
    subst this
    simp [h1]; simpa using ih

/- The first entry that is wanted; rows cloned; nothing deleted. No condition. -/
def firstI (p : Nat → Bool) (n : Nat) : Int := match (List.range n).find? p with
 | some i => (i : Int)
 | none => -1
theorem firstI_at {p : Nat → Bool} {n k : Nat} (hk : k < n) (h : ∀ i, i < k → p i = false) (hp : p k = true) : firstI p n = (k : Int) := by
 unfold firstI
 have : (List.range n).find? p = some k := by
  rw [List.find?_eq_some_iff_getElem]
  exact ⟨hp, k, by simpa using hk, by simp, fun j hj => by simp [h j hj]⟩
 rw [this]
theorem firstI_no {p : Nat → Bool} {n : Nat} (h : ∀ i, i < n → p i = false) : firstI p n = -1 := by
 unfold firstI
 have : (List.range n).find? p = none := by
  rw [List.find?_eq_none]
  intro i hi
  rw [h i (List.mem_range.1 hi)]; simp
 rw [this]
set_option maxHeartbeats 4000000 in
set_option maxRecDepth 100000 in
theorem idx_105 (w : World) (AL : Option Addr) (g oL n cL pp qq : Nat) (p : Nat → Bool) (vl : Nat → List Value) (hn : n ≤ 1000000000) (hA : 0 < n → AL = some ⟨g, oL, none⟩) (h5 : ∀ i, i < n → (vl i).length = 6)
 (hc : ∀ i, i < n → ∀ j, j < 6 → w.cell? ⟨g, oL + (6 * i + j), none⟩ = (vl i)[j]?)
 (call : ∀ i W, i < n → Below w.heap.size w W → Calls Tryz.prog 105 #[.agg (vl i).toArray, .pointer (some ⟨pp, 0, none⟩), .pointer (some ⟨qq, 0, none⟩)] W fun e w' => e = .returned (.bool (p i)) ∧ Below W.heap.size W w') :
 Calls Tryz.prog 104 #[.slice AL n cL, .func (.func 105) #[] #[.pointer (some ⟨pp, 0, none⟩), .pointer (some ⟨qq, 0, none⟩)]] w fun e w' => e = .returned (.int .i64 (firstI p n)) ∧ Below w.heap.size w w' := by
 replace call := hi_ call
 replace hc := hi_ hc
 replace h5 := hi_ h5
 replace hA := hi_ hA
 go_enter Tryz.func104, Tryz.ntmps104
 go_wp2
 go_loopw [5, 8] (fun _ s8 wr => ∃ k : Nat, k ≤ n ∧ s8 = .int .i64 k ∧ (∀ i, i < k → p i = false) ∧ Below w.heap.size w wr) (fun _ s8 _ => n - (RowKit.intOf s8).toNat)
 case atStart => exact ⟨0, by omega, rfl, fun i hi => by omega, Below.refl _ _⟩
 case round =>
  obtain ⟨k, hk, rfl, hP, hB⟩ := hrel
  by_cases hkn : k < n
  ·have hA := hA.out (by omega)
   subst hA
   have h5k := h5.out k hkn
   have hck := hc.out k hkn
   have cl := call.out k wr hkn hB
   obtain ⟨us, hus⟩ : ∃ us, us = vl k := ⟨_, rfl⟩
   rw [← hus] at h5k hck cl
   ·obtain ⟨c0, c1, c2, c3, c4, c5, rfl⟩ := six_list us h5k
    have w0 : w.cell? ⟨g, oL + k * 6, none⟩ = some c0 := by have := hck 0 (by omega); rw [Nat.mul_comm, Nat.add_zero] at this; exact this
    have w1 : w.cell? ⟨g, oL + k * 6 + 1, none⟩ = some c1 := by have := hck 1 (by omega); rw [Nat.mul_comm, ← Nat.add_assoc] at this; exact this
    have w2 : w.cell? ⟨g, oL + k * 6 + 2, none⟩ = some c2 := by have := hck 2 (by omega); rw [Nat.mul_comm, ← Nat.add_assoc] at this; exact this
    have w3 : w.cell? ⟨g, oL + k * 6 + 3, none⟩ = some c3 := by have := hck 3 (by omega); rw [Nat.mul_comm, ← Nat.add_assoc] at this; exact this
    have w4 : w.cell? ⟨g, oL + k * 6 + 4, none⟩ = some c4 := by have := hck 4 (by omega); rw [Nat.mul_comm, ← Nat.add_assoc] at this; exact this
    have w5 : w.cell? ⟨g, oL + k * 6 + 5, none⟩ = some c5 := by have := hck 5 (by omega); rw [Nat.mul_comm, ← Nat.add_assoc] at this; exact this
    have x5 := (hB.cell (cell_lt w5)).trans w5
    have x0 := (hB.cell (cell_lt w0)).trans w0
    have x1 := (hB.cell (cell_lt w1)).trans w1
    have x2 := (hB.cell (cell_lt w2)).trans w2
    have x3 := (hB.cell (cell_lt w3)).trans w3
    have x4 := (hB.cell (cell_lt w4)).trans w4
    clear w0 w1 w2 w3 w4 w5 hck hus h5k
    cases hp : p k with
    | true =>
     rw [hp] at cl
     have hT : firstI p n = (k : Int) := firstI_at hkn (fun i hi => hP i hi) hp
     replace hT := hi_ hT
     replace hB := hi_ hB
     replace hP := hi_ hP
     clear hp
     go_wp2_with (go_at_call 105; (with_reducible refine cl.mono ?_); rintro e w1 ⟨rfl, hB1⟩; replace hB1 := hi_ hB1)
     go_ret
     exact ⟨by rw [hT.out]; rfl, bthen hB.out hB1.out⟩
    | false =>
     rw [hp] at cl
     have hP2 : ∀ i, i < k + 1 → p i = false := fun i hi => by
      by_cases h : i = k
      ·subst h; exact hp
      ·exact hP i (by omega)
     replace hP2 := hi_ hP2
     replace hB := hi_ hB
     clear hP hp
     go_wp2_with (go_at_call 105; (with_reducible refine cl.mono ?_); rintro e w1 ⟨rfl, hB1⟩; replace hB1 := hi_ hB1)
     go_roundw
     case rel => exact ⟨k + 1, by omega, by go_num, hP2.out, bthen hB.out hB1.out⟩
     case measure => simp [RowKit.intOf]; omega
  ·obtain rfl : k = n := by omega
   have hT : firstI p k = -1 := firstI_no fun i hi => hP i hi
   replace hT := hi_ hT
   replace hB := hi_ hB
   replace hP := hi_ hP
   go_wp2
   go_ret
   exact ⟨by rw [hT.out]; rfl, hB.out⟩
set_option maxHeartbeats 4000000 in
set_option maxRecDepth 100000 in
theorem idx_106 (w : World) (AL : Option Addr) (g oL n cL pp qq : Nat) (p : Nat → Bool) (vl : Nat → List Value) (hn : n ≤ 1000000000) (hA : 0 < n → AL = some ⟨g, oL, none⟩) (h5 : ∀ i, i < n → (vl i).length = 6)
 (hc : ∀ i, i < n → ∀ j, j < 6 → w.cell? ⟨g, oL + (6 * i + j), none⟩ = (vl i)[j]?)
 (call : ∀ i W, i < n → Below w.heap.size w W → Calls Tryz.prog 106 #[.agg (vl i).toArray, .pointer (some ⟨pp, 0, none⟩), .pointer (some ⟨qq, 0, none⟩)] W fun e w' => e = .returned (.bool (p i)) ∧ Below W.heap.size W w') :
 Calls Tryz.prog 104 #[.slice AL n cL, .func (.func 106) #[] #[.pointer (some ⟨pp, 0, none⟩), .pointer (some ⟨qq, 0, none⟩)]] w fun e w' => e = .returned (.int .i64 (firstI p n)) ∧ Below w.heap.size w w' := by
 replace call := hi_ call
 replace hc := hi_ hc
 replace h5 := hi_ h5
 replace hA := hi_ hA
 go_enter Tryz.func104, Tryz.ntmps104
 go_wp2
 go_loopw [5, 8] (fun _ s8 wr => ∃ k : Nat, k ≤ n ∧ s8 = .int .i64 k ∧ (∀ i, i < k → p i = false) ∧ Below w.heap.size w wr) (fun _ s8 _ => n - (RowKit.intOf s8).toNat)
 case atStart => exact ⟨0, by omega, rfl, fun i hi => by omega, Below.refl _ _⟩
 case round =>
  obtain ⟨k, hk, rfl, hP, hB⟩ := hrel
  by_cases hkn : k < n
  ·have hA := hA.out (by omega)
   subst hA
   have h5k := h5.out k hkn
   have hck := hc.out k hkn
   have cl := call.out k wr hkn hB
   obtain ⟨us, hus⟩ : ∃ us, us = vl k := ⟨_, rfl⟩
   rw [← hus] at h5k hck cl
   ·obtain ⟨c0, c1, c2, c3, c4, c5, rfl⟩ := six_list us h5k
    have w0 : w.cell? ⟨g, oL + k * 6, none⟩ = some c0 := by have := hck 0 (by omega); rw [Nat.mul_comm, Nat.add_zero] at this; exact this
    have w1 : w.cell? ⟨g, oL + k * 6 + 1, none⟩ = some c1 := by have := hck 1 (by omega); rw [Nat.mul_comm, ← Nat.add_assoc] at this; exact this
    have w2 : w.cell? ⟨g, oL + k * 6 + 2, none⟩ = some c2 := by have := hck 2 (by omega); rw [Nat.mul_comm, ← Nat.add_assoc] at this; exact this
    have w3 : w.cell? ⟨g, oL + k * 6 + 3, none⟩ = some c3 := by have := hck 3 (by omega); rw [Nat.mul_comm, ← Nat.add_assoc] at this; exact this
    have w4 : w.cell? ⟨g, oL + k * 6 + 4, none⟩ = some c4 := by have := hck 4 (by omega); rw [Nat.mul_comm, ← Nat.add_assoc] at this; exact this
    have w5 : w.cell? ⟨g, oL + k * 6 + 5, none⟩ = some c5 := by have := hck 5 (by omega); rw [Nat.mul_comm, ← Nat.add_assoc] at this; exact this
    have x5 := (hB.cell (cell_lt w5)).trans w5
    have x0 := (hB.cell (cell_lt w0)).trans w0
    have x1 := (hB.cell (cell_lt w1)).trans w1
    have x2 := (hB.cell (cell_lt w2)).trans w2
    have x3 := (hB.cell (cell_lt w3)).trans w3
    have x4 := (hB.cell (cell_lt w4)).trans w4
    clear w0 w1 w2 w3 w4 w5 hck hus h5k
    cases hp : p k with
    | true =>
     rw [hp] at cl
     have hT : firstI p n = (k : Int) := firstI_at hkn (fun i hi => hP i hi) hp
     replace hT := hi_ hT
     replace hB := hi_ hB
     replace hP := hi_ hP
     clear hp
     go_wp2_with (go_at_call 106; (with_reducible refine cl.mono ?_); rintro e w1 ⟨rfl, hB1⟩; replace hB1 := hi_ hB1)
     go_ret
     exact ⟨by rw [hT.out]; rfl, bthen hB.out hB1.out⟩
    | false =>
     rw [hp] at cl
     have hP2 : ∀ i, i < k + 1 → p i = false := fun i hi => by
      by_cases h : i = k
      ·subst h; exact hp
      ·exact hP i (by omega)
     replace hP2 := hi_ hP2
     replace hB := hi_ hB
     clear hP hp
     go_wp2_with (go_at_call 106; (with_reducible refine cl.mono ?_); rintro e w1 ⟨rfl, hB1⟩; replace hB1 := hi_ hB1)
     go_roundw
     case rel => exact ⟨k + 1, by omega, by go_num, hP2.out, bthen hB.out hB1.out⟩
     case measure => simp [RowKit.intOf]; omega
  ·obtain rfl : k = n := by omega
   have hT : firstI p k = -1 := firstI_no fun i hi => hP i hi
   replace hT := hi_ hT
   replace hB := hi_ hB
   replace hP := hi_ hP
   go_wp2
   go_ret
   exact ⟨by rw [hT.out]; rfl, hB.out⟩

/- Rows cloned; nothing deleted. No condition. -/
set_option maxHeartbeats 4000000 in
set_option maxRecDepth 100000 in
theorem del_none (w : World) (AL : Option Addr) (g oL n cL pp qq : Nat) (p : Nat → Bool) (vl : Nat → List Value) (hn : n ≤ 1000000000) (hA : 0 < n → AL = some ⟨g, oL, none⟩) (h5 : ∀ i, i < n → (vl i).length = 6)
 (hc : ∀ i, i < n → ∀ j, j < 6 → w.cell? ⟨g, oL + (6 * i + j), none⟩ = (vl i)[j]?)
 (call : ∀ i W, i < n → Below w.heap.size w W → Calls Tryz.prog 106 #[.agg (vl i).toArray, .pointer (some ⟨pp, 0, none⟩), .pointer (some ⟨qq, 0, none⟩)] W fun e w' => e = .returned (.bool (p i)) ∧ Below W.heap.size W w')
 (hno : ∀ i, i < n → p i = false) :
 Calls Tryz.prog 107 #[.slice AL n cL, .func (.func 106) #[] #[.pointer (some ⟨pp, 0, none⟩), .pointer (some ⟨qq, 0, none⟩)]] w fun e w' => e = .returned (.slice AL n cL) ∧ Below w.heap.size w w' := by
 have c := idx_106 w AL g oL n cL pp qq p vl hn hA h5 hc call
 rw [firstI_no hno] at c
 clear call hc h5 hA
 go_enter Tryz.func107, Tryz.ntmps107
 go_wp2_with (go_at_call 104; (with_reducible refine c.mono ?_); rintro e w' ⟨rfl, hB⟩; replace hB := hi_ hB)
 go_ret
 exact ⟨rfl, hB.out⟩
theorem map_at {n : Nat} {vl : Nat → List Value} {i : Nat} (hi : i < n) : ((List.range n).map vl).getD i [] = vl i := by
 rw [List.getD_eq_getElem?_getD, List.getElem?_map, List.getElem?_range hi]; rfl
theorem flat_cells {w : World} {g oL n sz : Nat} {vl : Nat → List Value} (hsz : 0 < sz) (h5 : ∀ i, i < n → (vl i).length = sz) (hc : ∀ i, i < n → ∀ j, j < sz → w.cell? ⟨g, oL + (sz * i + j), none⟩ = (vl i)[j]?) :
 ((List.range n).map vl).flatten.length = n * sz ∧ ∀ j u, ((List.range n).map vl).flatten[j]? = some u → w.cell? ((⟨g, oL, none⟩ : Addr).add j) = some u := by
 have hlen : ((List.range n).map vl).flatten.length = n * sz := by
  rw [List.length_flatten, List.map_map]
  have : ∀ m, m ≤ n → ((List.range m).map (List.length ∘ vl)).sum = m * sz := by
   intro m
   induction m with
   | zero => intro _; simp
   | succ m ih =>
    intro hm
    rw [List.range_succ, List.map_append, List.sum_append, ih (by omega)]
    simp [h5 m (by omega), Nat.succ_mul]
  exact this n (Nat.le_refl _)
 refine ⟨hlen, fun j u hu => ?_⟩
 have hj : j < n * sz := by
  have := (List.getElem?_eq_some_iff.1 hu).1
  omega
 obtain ⟨i, q, hq, rfl⟩ : ∃ i q, q < sz ∧ j = sz * i + q := ⟨j / sz, j % sz, Nat.mod_lt _ hsz, (Nat.div_add_mod j sz).symm⟩
 have hi : i < n := by
  rcases Nat.lt_or_ge i n with h | h
  ·exact h
  ·exfalso
   have := Nat.mul_le_mul_left sz h
   rw [Nat.mul_comm sz n] at this
   omega
 rw [addr_add, hc i hi q hq]
 rw [flat_at (rss := (List.range n).map vl) (sz := sz) (fun k hk => by
  rw [List.length_map, List.length_range] at hk
  rw [map_at hk]; exact h5 k hk) i q (by simpa using hi) hq, map_at hi] at hu
 exact hu
set_option maxHeartbeats 4000000 in
set_option maxRecDepth 100000 in
theorem sl_Clone (w : World) (AL : Option Addr) (g oL n cL : Nat) (vl : Nat → List Value) (hn : n ≤ 1000000000) (hA : 0 < n → AL = some ⟨g, oL, none⟩) (h5 : ∀ i, i < n → (vl i).length = 6)
 (hc : ∀ i, i < n → ∀ j, j < 6 → w.cell? ⟨g, oL + (6 * i + j), none⟩ = (vl i)[j]?) (h1 : ∀ i, i < n → ∀ u ∈ vl i, u.oneCell' = true) :
 Calls Tryz.prog 108 #[.slice AL n cL] w fun e w' => ∃ v, e = .returned v ∧ w'.ownsRow w.heap.size 53 6 v n ((List.range n).map vl).flatten ∧ Below w.heap.size w w' := by
 cases AL with
 | none =>
  have hn0 : n = 0 := by
   rcases Nat.eq_zero_or_pos n with h | h
   ·exact h
   ·have := hA h; cases this
  subst hn0
  have hq : (binOp .eql 24 (.slice none 0 cL) (.slice none 0 0)).run Tryz.prog w = .ok (.bool true) w := Lib.run_eql_slice_nil w 24 53 none 0 cL 0 0 Tryz.underlying24
  clear hc h1 h5 hA
  go_enter Tryz.func108, Tryz.ntmps108
  go_wp2
  go_ret
  exact ⟨_, rfl, World.ownsRow_nil _ _ _ _, Below.refl _ _⟩
 | some ad =>
  have hq : (binOp .eql 24 (.slice (some ad) n cL) (.slice none 0 0)).run Tryz.prog w = .ok (.bool false) w := Lib.run_eql_slice_nil w 24 53 (some ad) n cL 0 0 Tryz.underlying24
  obtain ⟨i0, hi0, hz0, hz1, hz2⟩ := en_info
  have hb0 : Below w.heap.size w (w.alloc (.cells #[] 53)) := (Below.refl _ _).alloc (Nat.le_refl _) _
  obtain ⟨f1, f2⟩ := flat_cells (w := w.alloc (.cells #[] 53)) (by omega) h5 (fun i hi j hj => by
   have h9 := hc i hi j hj
   obtain ⟨u, hu⟩ : ∃ u, (vl i)[j]? = some u := ⟨_, List.getElem?_eq_getElem (by rw [h5 i hi]; exact hj)⟩
   rw [hu] at h9 ⊢
   exact (hb0.cell (cell_lt h9)).trans h9)
  have f2 : ∀ j u, ((List.range n).map vl).flatten[j]? = some u → (w.alloc (.cells #[] 53)).cell? (ad.add j) = some u := fun j u hu => by
   rcases Nat.eq_zero_or_pos n with h | h
   ·subst h; simp at hu
   ·have e := hA h
    injection e with e
    subst e
    exact f2 j u hu
  have f3 : ∀ u ∈ ((List.range n).map vl).flatten, u.oneCell' = true := fun u hu => by
   obtain ⟨l, hl, hul⟩ := List.mem_flatten.1 hu
   obtain ⟨i, hi, rfl⟩ := List.mem_map.1 hl
   exact h1 i (List.mem_range.1 hi) u hul
  have hO : (w.alloc (.cells #[] 53)).ownsRow w.heap.size 53 6 (.slice (some ⟨w.heap.size, 0, none⟩) 0 0) 0 [] := World.ownsRow_made w #[] 0 (Nat.le_refl _) (by decide) rfl
  obtain ⟨F, hF⟩ : ∃ F, F = ((List.range n).map vl).flatten := ⟨_, rfl⟩
  rw [← hF] at f1 f2 f3 ⊢
  replace hF := hi_ hF
  replace f1 := hi_ f1
  replace f2 := hi_ f2
  replace f3 := hi_ f3
  replace hO := hi_ hO
  replace hb0 := hi_ hb0
  replace hi0 := hi_ hi0
  replace hz0 := hi_ hz0
  replace hz1 := hi_ hz1
  replace hz2 := hi_ hz2
  clear hc h1 h5 hA
  go_enter Tryz.func108, Tryz.ntmps108
  go_wp2_with (at_builtin; refine wpList_append_own_at _ rfl _ _ 24 rfl w.heap.size 53 i0 _ 6 104 Tryz.underlying24 hi0.out hz0.out hz1.out hz2.out rfl (by decide) _ 0 [] rfl hO.out ad n cL F rfl f1.out f2.out f3.out (by unfold maxLen; omega) (by omega) (by rw [World.size_alloc]; omega) ?_; intro v' w2 hO2 hg2 _ _; have hB2 : Below w.heap.size w w2 := hb0.out.grown hg2 (by rw [World.size_alloc]; omega) (fun k hk => by have h9 := (World.ownsRow.lt hO.out _ hk).1; omega); replace hO2 := hi_ hO2; replace hB2 := hi_ hB2; clear hg2)
  go_ret
  exact ⟨_, rfl, by simpa using hO2.out, hB2.out⟩

/- sorted, where no key is like the one put in. No condition. -/
theorem own_base {B B' : Nat} {e : TypeId} {sz : Nat} {w : World} {v : Value} {n : Nat} {xs : List Value} (h : w.ownsRow B e sz v n xs) (hB : B' ≤ B) : w.ownsRow B' e sz v n xs := by
 refine ⟨h.1, ?_⟩
 rcases h.2 with h2 | ⟨g, cap, cur, e', hb, r⟩
 ·exact .inl h2
 ·exact .inr ⟨g, cap, cur, e', by omega, r⟩
theorem own_six {B : Nat} {w : World} {v : Value} {n : Nat} {vl : Nat → List Value} (h : w.ownsRow B 53 6 v n ((List.range n).map vl).flatten) (h5 : ∀ i, i < n → (vl i).length = 6) :
 ∃ A g c, v = .slice A n c ∧ (0 < n → A = some ⟨g, 0, none⟩) ∧ ∀ i, i < n → ∀ j, j < 6 → w.cell? ⟨g, 0 + (6 * i + j), none⟩ = (vl i)[j]? := by
 rcases h.2 with ⟨rfl, hn⟩ | ⟨g, cap, cur, rfl, hB, hh, hnc, hcm, hcs, htk⟩
 ·exact ⟨none, 0, 0, by rw [hn], by omega, fun i hi => by omega⟩
 ·refine ⟨_, g, cap, rfl, fun _ => rfl, fun i hi j hj => ?_⟩
  have e1 := flat_at (rss := (List.range n).map vl) (sz := 6) (fun k hk => by rw [List.length_map, List.length_range] at hk; rw [map_at hk]; exact h5 k hk) i j (by simpa using hi) hj
  rw [map_at hi] at e1
  rw [← e1, ← htk, List.getElem?_take, if_pos (by omega), Nat.zero_add]
  simp [World.cell?, hh]
theorem grown_refl (w : World) (r : Option Nat) : w.grownBy w r := ⟨rfl, rfl, rfl, Nat.le_refl _, fun _ _ _ => rfl⟩
theorem app_row {w : World} {ops : Array Oper} {rest : List Oper} {o : Oper} {a : Act} {Q : Exit → Act → World → Prop} (hgd : o.guard = none) (s x : Operand)
 (ho : o.op = .call { callee := .builtin .append, args := #[s, x], argTypes := #[24, 24] }) (B : Nat) (v : Value) (n : Nat) (xs : List Value) (hs : a.eval s = v) (hR : w.ownsRow B 53 6 v n xs)
 (B2 : Nat) (v2 : Value) (m : Nat) (news : List Value) (hx : a.eval x = v2) (hR2 : w.ownsRow B2 53 6 v2 m news) (h1 : ∀ u ∈ news, u.oneCell' = true) (hl : n + m ≤ 1000000000) (hB : B ≤ w.heap.size)
 (h : ∀ v' w', w'.ownsRow B 53 6 v' (n + m) (xs ++ news) → w.grownBy w' v.ownBlock → wpList Tryz.prog ops Q rest (a.put o.dst v') w') : wpList Tryz.prog ops Q (o :: rest) a w := by
 obtain ⟨i0, hi0, hz0, hz1, hz2⟩ := en_info
 rcases hR2.2 with ⟨rfl, hn⟩ | ⟨g, cap, cur, rfl, hB2, hh, hnc, hcm, hcs, htk⟩
 ·have hnil : news = [] := by
   have := hR2.1
   rw [hn] at this
   exact List.length_eq_zero_iff.1 (by omega)
  subst hnil
  subst hn
  refine wpList_append_own_none hgd s x 24 ho B 53 i0 6 Tryz.underlying24 hi0 v n xs hs hR hx ?_
  exact h v w (by simpa using hR) (grown_refl _ _)
 ·refine wpList_append_own_at w hgd s x 24 ho B 53 i0 _ 6 104 Tryz.underlying24 hi0 hz0 hz1 hz2 rfl (by decide) v n xs hs hR ⟨g, 0, none⟩ m cap news hx hR2.1 ?_ h1 (by unfold maxLen; omega) (by omega) hB ?_
  ·exact hR2.cells rfl
  ·intro v' w' h1 h2 _ h3
   exact h v' w' h1 h2
theorem one_row (w : World) (us : List Value) (h : us.length = 6) : (w.alloc (.cells us.toArray 53)).ownsRow w.heap.size 53 6 (.slice (some ⟨w.heap.size, 0, none⟩) 1 1) 1 us :=
 ⟨by rw [h], .inr ⟨w.heap.size, 1, us.toArray, rfl, Nat.le_refl _, heap_alloc_new w _, Nat.le_refl _, by decide, by simp [h], by rw [List.take_of_length_le (by simp [h])]⟩⟩
set_option maxHeartbeats 8000000 in
set_option maxRecDepth 100000 in
theorem srt_put (w : World) (AL : Option Addr) (g oL n cL : Nat) (vl : Nat → List Value) (key : Nat → ByteArray) (K : ByteArray) (X0 X1 X2 X3 X4 : Value) (k : Nat) (hk : k ≤ n) (hn : n ≤ 1100000) (hnc : n ≤ cL) (hA : 0 < n → AL = some ⟨g, oL, none⟩)
 (h5 : ∀ i, i < n → ∃ c1 c2 c3 c4 c5, vl i = [.string (key i), c1, c2, c3, c4, c5]) (hc : ∀ i, i < n → ∀ j, j < 6 → w.cell? ⟨g, oL + (6 * i + j), none⟩ = (vl i)[j]?) (h1 : ∀ i, i < n → ∀ u ∈ vl i, u.oneCell' = true)
 (hX : ∀ u ∈ [Value.string K, X0, X1, X2, X3, X4], u.oneCell' = true)
 (hlt : ∀ i, i < k → ltB (key i).data.toList K.data.toList = true) (hge : k < n → ltB (key k).data.toList K.data.toList = false) (hne : ∀ i, i < n → ((key i).data.toList == K.data.toList) = false) :
 Calls Tryz.prog 72 #[.slice AL n cL, .agg #[.string K, X0, X1, X2, X3, X4], .func (.func 73) #[] #[], .bool true] w fun e w' => ∃ v, e = .returned v ∧
  w'.ownsRow w.heap.size 53 6 v (n + 1) (((List.range k).map vl).flatten ++ [.string K, X0, X1, X2, X3, X4] ++ ((List.range (n - k)).map fun i => vl (k + i)).flatten) ∧ Below w.heap.size w w' := by
 obtain ⟨W1, hW1⟩ : ∃ W, W = w.alloc (.cells #[.string K, X0, X1, X2, X3, X4] 53) := ⟨_, rfl⟩
 obtain ⟨W2, hW2⟩ : ∃ W, W = W1.alloc (.cells #[.func (.func 73) #[] #[]] 94) := ⟨_, rfl⟩
 have z1 : W1.heap.size = w.heap.size + 1 := by rw [hW1, World.size_alloc]
 have z2 : W2.heap.size = w.heap.size + 2 := by rw [hW2, World.size_alloc, z1]
 have hb1 : Below w.heap.size w W1 := by rw [hW1]; exact (Below.refl _ _).alloc (Nat.le_refl _) _
 have hb12 : Below W1.heap.size W1 W2 := by rw [hW2]; exact (Below.refl _ _).alloc (Nat.le_refl _) _
 have hb2 : Below w.heap.size w W2 := bthen hb1 hb12
 have fX := six_kept (six_cells hW1) hb12
 have fC : W2.cell? ⟨w.heap.size + 1, 0, none⟩ = some (.func (.func 73) #[] #[]) := by rw [hW2, ← z1]; simp
 -- the closures
 have h6 : ∀ i, i < n → (vl i).length = 6 := fun i hi => by obtain ⟨c1, c2, c3, c4, c5, e⟩ := h5 i hi; rw [e]; rfl
 have cge : ∀ W, Below W2.heap.size W2 W → ∀ i W', i < n → Below W.heap.size W W' → Calls Tryz.prog 105 #[.agg (vl i).toArray, .pointer (some ⟨w.heap.size + 1, 0, none⟩), .pointer (some ⟨w.heap.size, 0, none⟩)] W' fun e w' => e = .returned (.bool (!ltB (key i).data.toList K.data.toList)) ∧ Below W'.heap.size W' w' := fun W hW i W' hi hB => by
  obtain ⟨c1, c2, c3, c4, c5, e⟩ := h5 i hi
  have hD := bthen hW hB
  rw [e, ← cmp_ge]
  exact clo_ge (key i) K c1 c2 c3 c4 c5 X0 X1 X2 X3 X4 W' _ _ ((hD.cell (cell_lt fC)).trans fC) (six_kept fX hD)
 have ceq : ∀ W, Below W2.heap.size W2 W → ∀ i W', i < n → Below W.heap.size W W' → Calls Tryz.prog 106 #[.agg (vl i).toArray, .pointer (some ⟨w.heap.size + 1, 0, none⟩), .pointer (some ⟨w.heap.size, 0, none⟩)] W' fun e w' => e = .returned (.bool ((key i).data.toList == K.data.toList)) ∧ Below W'.heap.size W' w' := fun W hW i W' hi hB => by
  obtain ⟨c1, c2, c3, c4, c5, e⟩ := h5 i hi
  have hD := bthen hW hB
  rw [e, ← cmp_eq0]
  exact clo_eq (key i) K c1 c2 c3 c4 c5 X0 X1 X2 X3 X4 W' _ _ ((hD.cell (cell_lt fC)).trans fC) (six_kept fX hD)
 have hcW : ∀ W, Below w.heap.size w W → ∀ i, i < n → ∀ j, j < 6 → W.cell? ⟨g, oL + (6 * i + j), none⟩ = (vl i)[j]? := fun W hW i hi j hj => by
  have h9 := hc i hi j hj
  obtain ⟨u, hu⟩ : ∃ u, (vl i)[j]? = some u := ⟨_, List.getElem?_eq_getElem (by rw [h6 i hi]; exact hj)⟩
  rw [hu] at h9 ⊢
  exact (hW.cell (cell_lt h9)).trans h9
 -- the calls
 have c104 := idx_105 W2 AL g oL n cL (w.heap.size + 1) w.heap.size (fun i => !ltB (key i).data.toList K.data.toList) vl (by omega) hA h6 (hcW W2 hb2) (fun i W hi hB => cge W2 (Below.refl _ _) i W hi hB)
 have cl1 : ∀ W, Below W2.heap.size W2 W → Calls Tryz.prog 108 #[.slice AL k cL] W fun e w' => ∃ v, e = .returned v ∧ w'.ownsRow W.heap.size 53 6 v k ((List.range k).map vl).flatten ∧ Below W.heap.size W w' := fun W hW =>
  sl_Clone W AL g oL k cL vl (by omega) (fun h => hA (by omega)) (fun i hi => h6 i (by omega)) (fun i hi => hcW W (bthen hb2 hW) i (by omega)) (fun i hi => h1 i (by omega))
 have cl2 : ∀ W AL2 c2, Below W2.heap.size W2 W → (0 < n - k → AL2 = some ⟨g, oL + 6 * k, none⟩) → Calls Tryz.prog 108 #[.slice AL2 (n - k) c2] W fun e w' => ∃ v, e = .returned v ∧ w'.ownsRow W.heap.size 53 6 v (n - k) ((List.range (n - k)).map fun i => vl (k + i)).flatten ∧ Below W.heap.size W w' := fun W AL2 c2 hW a1 => by
  refine sl_Clone W AL2 g (oL + 6 * k) (n - k) c2 (fun i => vl (k + i)) (by omega) a1 (fun i hi => h6 (k + i) (by omega)) (fun i hi j hj => ?_) (fun i hi => h1 (k + i) (by omega))
  rw [← hcW W (bthen hb2 hW) (k + i) (by omega) j hj]
  congr 2
  omega
 have cd1 : ∀ W v, Below W2.heap.size W2 W → W.ownsRow W2.heap.size 53 6 v k ((List.range k).map vl).flatten → Calls Tryz.prog 107 #[v, .func (.func 106) #[] #[.pointer (some ⟨w.heap.size + 1, 0, none⟩), .pointer (some ⟨w.heap.size, 0, none⟩)]] W fun e w' => e = .returned v ∧ Below W.heap.size W w' := fun W v hW hO => by
  obtain ⟨A, g', c, rfl, q1, q2⟩ := own_six hO (fun i hi => h6 i (by omega))
  exact del_none W A g' 0 k c _ _ (fun i => (key i).data.toList == K.data.toList) vl (by omega) q1 (fun i hi => h6 i (by omega)) q2 (fun i W' hi hB => ceq W hW i W' (by omega) hB) (fun i hi => hne i (by omega))
 have cd2 : ∀ W v, Below W2.heap.size W2 W → W.ownsRow W2.heap.size 53 6 v (n - k) ((List.range (n - k)).map fun i => vl (k + i)).flatten → Calls Tryz.prog 107 #[v, .func (.func 106) #[] #[.pointer (some ⟨w.heap.size + 1, 0, none⟩), .pointer (some ⟨w.heap.size, 0, none⟩)]] W fun e w' => e = .returned v ∧ Below W.heap.size W w' := fun W v hW hO => by
  obtain ⟨A, g', c, rfl, q1, q2⟩ := own_six hO (fun i hi => h6 (k + i) (by omega))
  exact del_none W A g' 0 (n - k) c _ _ (fun i => (key (k + i)).data.toList == K.data.toList) (fun i => vl (k + i)) (by omega) q1 (fun i hi => h6 (k + i) (by omega)) q2 (fun i W' hi hB => ceq W hW (k + i) W' (by omega) hB) (fun i hi => hne (k + i) (by omega))
 obtain ⟨m, hm⟩ : ∃ m, m = n - k := ⟨_, rfl⟩
 rw [← hm] at cl2 cd2 ⊢
 obtain ⟨F1, hF1⟩ : ∃ F, F = ((List.range k).map vl).flatten := ⟨_, rfl⟩
 obtain ⟨F2, hF2⟩ : ∃ F, F = ((List.range m).map fun i => vl (k + i)).flatten := ⟨_, rfl⟩
 have o2 : ∀ u ∈ F2, u.oneCell' = true := fun u hu => by
  rw [hF2] at hu
  obtain ⟨l, hl, hul⟩ := List.mem_flatten.1 hu
  obtain ⟨i, hi, rfl⟩ := List.mem_map.1 hl
  exact h1 (k + i) (by have := List.mem_range.1 hi; omega) u hul
 rw [← hF1] at cl1 cd1 ⊢
 rw [← hF2] at cl2 cd2 ⊢
 have hfi : firstI (fun i => !ltB (key i).data.toList K.data.toList) n = if k < n then (k : Int) else -1 := by
  by_cases h : k < n
  ·rw [if_pos h]; exact firstI_at h (fun i hi => by simp [hlt i hi]) (by simp [hge h])
  ·rw [if_neg h]; exact firstI_no fun i hi => by simp [hlt i (by omega)]
 rw [hfi] at c104
 clear cge ceq hcW hc h5 h1 hlt hge hne hfi h6
 obtain ⟨f0, f1, f2, f3, f4, f5⟩ := id fX
 replace hA := hi_ hA
 replace fX := hi_ fX
 replace fC := hi_ fC
 replace hb2 := hi_ hb2
 replace hb1 := hi_ hb1
 replace hb12 := hi_ hb12
 replace cl1 := hi_ cl1
 replace cl2 := hi_ cl2
 replace cd1 := hi_ cd1
 replace cd2 := hi_ cd2
 replace hF1 := hi_ hF1
 replace hF2 := hi_ hF2
 replace o2 := hi_ o2
 replace hX := hi_ hX
 obtain ⟨i0, hi0, hz0, hz1, hz2⟩ := en_info
 replace hi0 := hi_ hi0
 replace hz0 := hi_ hz0
 replace hz1 := hi_ hz1
 replace hz2 := hi_ hz2
 go_enter Tryz.func72, Tryz.ntmps72
 go_upto_region 1 with (fail)
 rw [← hW1, ← hW2]
 replace hW1 := hi_ hW1
 replace hW2 := hi_ hW2
 by_cases hkn : k < n
 ·rw [if_pos hkn] at c104
  subst hm
  go_wp2_with (first
   | (go_at_call 104; (with_reducible refine c104.mono ?_); rintro e w3 ⟨rfl, hB3⟩; have c108 := cl1.out w3 hB3; replace hB3 := hi_ hB3)
   | (go_at_call 108; (with_reducible refine c108.mono ?_); rintro e w4 ⟨v4, rfl, hO4, hB4⟩; replace hO4 := own_base hO4 hB3.out.size; have hD4 := bthen hB3.out hB4; have c107 := cd1.out w4 v4 hD4 hO4; replace hO4 := hi_ hO4; replace hD4 := hi_ hD4; clear hB4 c108)
   | (go_at_call 107; (with_reducible refine c107.mono ?_); rintro e w5 ⟨rfl, hB5⟩; have hD5 := bthen hD4.out hB5; have hO5 := own_far hO4.out (fun b _ hb => hB5.block b hb); obtain ⟨y0, y1, y2, y3, y4, y5⟩ := six_kept fX.out hD5; have hbA := (Below.refl w5.heap.size w5).alloc (Nat.le_refl _) (.cells #[.string K, X0, X1, X2, X3, X4] 53); have hzA : (w5.alloc (.cells #[.string K, X0, X1, X2, X3, X4] 53)).heap.size = w5.heap.size + 1 := (World.size_alloc _ _); have hOA := own_far hO5 (fun b _ hb => hbA.block b hb); have hOX := one_row w5 [.string K, X0, X1, X2, X3, X4] rfl; replace hD5 := hi_ hD5; replace hbA := hi_ hbA; replace hzA := hi_ hzA; replace hOA := hi_ hOA; replace hOX := hi_ hOX; clear hB5 c107 hO5)
   | (at_builtin; refine app_row rfl _ _ rfl W2.heap.size v4 k F1 rfl hOA.out w5.heap.size _ 1 [.string K, X0, X1, X2, X3, X4] rfl hOX.out hX.out (by omega) (by rw [hzA.out]; have := hD5.out.size; omega) ?_; intro v6 w6 hO6 hg6; have hD6 : Below W2.heap.size W2 w6 := (bthen hD5.out hbA.out).grown hg6 (by rw [hzA.out]; have := hD5.out.size; omega) (fun q hq => (World.ownsRow.lt hOA.out _ hq).1); have c108b := cl2.out w6 (Option.map (fun x => x.add (k * 6)) AL) (cL - k) hD6 (fun h => by rw [hA.out (by omega)]; simp [Addr.add, Nat.mul_comm]); replace hO6 := hi_ hO6; clear hg6 hOA; replace hD6 := hi_ hD6)
   | (go_at_call 108; (with_reducible refine c108b.mono ?_); rintro e w7 ⟨v7, rfl, hO7, hB7⟩; replace hO7 := own_base hO7 hD6.out.size; have hD7 := bthen hD6.out hB7; have c107b := cd2.out w7 v7 hD7 hO7; have hP7 := own_far hO6.out (fun b _ hb => hB7.block b hb); replace hO7 := hi_ hO7; replace hD7 := hi_ hD7; replace hP7 := hi_ hP7; clear hB7 c108b)
   | (go_at_call 107; (with_reducible refine c107b.mono ?_); rintro e w8 ⟨rfl, hB8⟩; have hD8 := bthen hD7.out hB8; have hO8 := own_far hO7.out (fun b _ hb => hB8.block b hb); have hP8 := own_far hP7.out (fun b _ hb => hB8.block b hb); replace hO8 := hi_ hO8; replace hP8 := hi_ hP8; replace hD8 := hi_ hD8; clear hB8 c107b)
   | (at_builtin; refine app_row rfl _ _ rfl W2.heap.size v6 (k + 1) (F1 ++ [.string K, X0, X1, X2, X3, X4]) rfl hP8.out W2.heap.size _ (n - k) F2 rfl hO8.out o2.out (by omega) hD8.out.size ?_; intro v9 w9 hO9 hg9; have hD9 : Below W2.heap.size W2 w9 := hD8.out.grown hg9 hD8.out.size (fun q hq => (World.ownsRow.lt hP8.out _ hq).1); replace hO9 := hi_ hO9; replace hD9 := hi_ hD9; clear hg9))
  go_ret
  exact ⟨v9, rfl, by have h9 := own_base hO9.out (B' := w.heap.size) (by omega); rw [show k + 1 + (n - k) = n + 1 by omega] at h9; exact h9, hb2.out.trans (hD9.out.mono (by omega))⟩
 ·obtain rfl : k = n := by omega
  rw [if_neg (by omega)] at c104
  obtain rfl : m = 0 := by omega
  clear hm
  by_cases hck : cL = k
  ·replace hck := hck.symm
   subst hck
   go_wp2_with (first
    | (go_at_call 104; (with_reducible refine c104.mono ?_); rintro e w3 ⟨rfl, hB3⟩; have c108 := cl1.out w3 hB3; replace hB3 := hi_ hB3)
    | (go_at_call 108; (with_reducible refine c108.mono ?_); rintro e w4 ⟨v4, rfl, hO4, hB4⟩; replace hO4 := own_base hO4 hB3.out.size; have hD4 := bthen hB3.out hB4; have c107 := cd1.out w4 v4 hD4 hO4; replace hO4 := hi_ hO4; replace hD4 := hi_ hD4; clear hB4 c108)
    | (go_at_call 107; (with_reducible refine c107.mono ?_); rintro e w5 ⟨rfl, hB5⟩; have hD5 := bthen hD4.out hB5; have hO5 := own_far hO4.out (fun b _ hb => hB5.block b hb); obtain ⟨y0, y1, y2, y3, y4, y5⟩ := six_kept fX.out hD5; have hbA := (Below.refl w5.heap.size w5).alloc (Nat.le_refl _) (.cells #[.string K, X0, X1, X2, X3, X4] 53); have hzA : (w5.alloc (.cells #[.string K, X0, X1, X2, X3, X4] 53)).heap.size = w5.heap.size + 1 := (World.size_alloc _ _); have hOA := own_far hO5 (fun b _ hb => hbA.block b hb); have hOX := one_row w5 [.string K, X0, X1, X2, X3, X4] rfl; replace hD5 := hi_ hD5; replace hbA := hi_ hbA; replace hzA := hi_ hzA; replace hOA := hi_ hOA; replace hOX := hi_ hOX; clear hB5 c107 hO5)
    | (at_builtin; refine app_row rfl _ _ rfl W2.heap.size v4 k F1 rfl hOA.out w5.heap.size _ 1 [.string K, X0, X1, X2, X3, X4] rfl hOX.out hX.out (by omega) (by rw [hzA.out]; have := hD5.out.size; omega) ?_; intro v6 w6 hO6 hg6; have hD6 : Below W2.heap.size W2 w6 := (bthen hD5.out hbA.out).grown hg6 (by rw [hzA.out]; have := hD5.out.size; omega) (fun q hq => (World.ownsRow.lt hOA.out _ hq).1); have c108b := cl2.out w6 AL 0 hD6 (fun h => by omega); replace hO6 := hi_ hO6; clear hg6 hOA; replace hD6 := hi_ hD6)
    | (go_at_call 108; (with_reducible refine c108b.mono ?_); rintro e w7 ⟨v7, rfl, hO7, hB7⟩; replace hO7 := own_base hO7 hD6.out.size; have hD7 := bthen hD6.out hB7; have c107b := cd2.out w7 v7 hD7 hO7; have hP7 := own_far hO6.out (fun b _ hb => hB7.block b hb); replace hO7 := hi_ hO7; replace hD7 := hi_ hD7; replace hP7 := hi_ hP7; clear hB7 c108b)
    | (go_at_call 107; (with_reducible refine c107b.mono ?_); rintro e w8 ⟨rfl, hB8⟩; have hD8 := bthen hD7.out hB8; have hO8 := own_far hO7.out (fun b _ hb => hB8.block b hb); have hP8 := own_far hP7.out (fun b _ hb => hB8.block b hb); replace hO8 := hi_ hO8; replace hP8 := hi_ hP8; replace hD8 := hi_ hD8; clear hB8 c107b)
    | (at_builtin; refine app_row rfl _ _ rfl W2.heap.size v6 (k + 1) (F1 ++ [.string K, X0, X1, X2, X3, X4]) rfl hP8.out W2.heap.size _ 0 F2 rfl hO8.out o2.out (by omega) hD8.out.size ?_; intro v9 w9 hO9 hg9; have hD9 : Below W2.heap.size W2 w9 := hD8.out.grown hg9 hD8.out.size (fun q hq => (World.ownsRow.lt hP8.out _ hq).1); replace hO9 := hi_ hO9; replace hD9 := hi_ hD9; clear hg9))
   go_ret
   exact ⟨v9, rfl, by have h9 := own_base hO9.out (B' := w.heap.size) (by omega); exact h9, hb2.out.trans (hD9.out.mono (by omega))⟩
  ·have hck2 : cL - k ≠ 0 := by omega
   go_wp2_with (first
    | (go_at_call 104; (with_reducible refine c104.mono ?_); rintro e w3 ⟨rfl, hB3⟩; have c108 := cl1.out w3 hB3; replace hB3 := hi_ hB3)
    | (go_at_call 108; (with_reducible refine c108.mono ?_); rintro e w4 ⟨v4, rfl, hO4, hB4⟩; replace hO4 := own_base hO4 hB3.out.size; have hD4 := bthen hB3.out hB4; have c107 := cd1.out w4 v4 hD4 hO4; replace hO4 := hi_ hO4; replace hD4 := hi_ hD4; clear hB4 c108)
    | (go_at_call 107; (with_reducible refine c107.mono ?_); rintro e w5 ⟨rfl, hB5⟩; have hD5 := bthen hD4.out hB5; have hO5 := own_far hO4.out (fun b _ hb => hB5.block b hb); obtain ⟨y0, y1, y2, y3, y4, y5⟩ := six_kept fX.out hD5; have hbA := (Below.refl w5.heap.size w5).alloc (Nat.le_refl _) (.cells #[.string K, X0, X1, X2, X3, X4] 53); have hzA : (w5.alloc (.cells #[.string K, X0, X1, X2, X3, X4] 53)).heap.size = w5.heap.size + 1 := (World.size_alloc _ _); have hOA := own_far hO5 (fun b _ hb => hbA.block b hb); have hOX := one_row w5 [.string K, X0, X1, X2, X3, X4] rfl; replace hD5 := hi_ hD5; replace hbA := hi_ hbA; replace hzA := hi_ hzA; replace hOA := hi_ hOA; replace hOX := hi_ hOX; clear hB5 c107 hO5)
    | (at_builtin; refine app_row rfl _ _ rfl W2.heap.size v4 k F1 rfl hOA.out w5.heap.size _ 1 [.string K, X0, X1, X2, X3, X4] rfl hOX.out hX.out (by omega) (by rw [hzA.out]; have := hD5.out.size; omega) ?_; intro v6 w6 hO6 hg6; have hD6 : Below W2.heap.size W2 w6 := (bthen hD5.out hbA.out).grown hg6 (by rw [hzA.out]; have := hD5.out.size; omega) (fun q hq => (World.ownsRow.lt hOA.out _ hq).1); have c108b := cl2.out w6 (Option.map (fun x => x.add (k * 6)) AL) (cL - k) hD6 (fun h => by omega); replace hO6 := hi_ hO6; clear hg6 hOA; replace hD6 := hi_ hD6)
    | (go_at_call 108; (with_reducible refine c108b.mono ?_); rintro e w7 ⟨v7, rfl, hO7, hB7⟩; replace hO7 := own_base hO7 hD6.out.size; have hD7 := bthen hD6.out hB7; have c107b := cd2.out w7 v7 hD7 hO7; have hP7 := own_far hO6.out (fun b _ hb => hB7.block b hb); replace hO7 := hi_ hO7; replace hD7 := hi_ hD7; replace hP7 := hi_ hP7; clear hB7 c108b)
    | (go_at_call 107; (with_reducible refine c107b.mono ?_); rintro e w8 ⟨rfl, hB8⟩; have hD8 := bthen hD7.out hB8; have hO8 := own_far hO7.out (fun b _ hb => hB8.block b hb); have hP8 := own_far hP7.out (fun b _ hb => hB8.block b hb); replace hO8 := hi_ hO8; replace hP8 := hi_ hP8; replace hD8 := hi_ hD8; clear hB8 c107b)
    | (at_builtin; refine app_row rfl _ _ rfl W2.heap.size v6 (k + 1) (F1 ++ [.string K, X0, X1, X2, X3, X4]) rfl hP8.out W2.heap.size _ 0 F2 rfl hO8.out o2.out (by omega) hD8.out.size ?_; intro v9 w9 hO9 hg9; have hD9 : Below W2.heap.size W2 w9 := hD8.out.grown hg9 hD8.out.size (fun q hq => (World.ownsRow.lt hP8.out _ hq).1); replace hO9 := hi_ hO9; replace hD9 := hi_ hD9; clear hg9))
   go_ret
   exact ⟨v9, rfl, by have h9 := own_base hO9.out (B' := w.heap.size) (by omega); exact h9, hb2.out.trans (hD9.out.mono (by omega))⟩

/- An entry put together: Pair, Int, by the program and by the document. No condition. -/
theorem put_six {w : World} {R lo hi : Nat} {o : Ob} {K : ByteArray} {z0 z1 z2 z3 z4 z5 u0 u1 u2 u3 u4 : Value} (hR : Blk w R 53 #[z0, z1, z2, z3, z4, z5]) (hI : ObI lo hi w o [u0, u1, u2, u3, u4]) (hlt : R < lo) {Wf : World}
 (hWf : Wf = (((((w.setCell ⟨R, 0, none⟩ (.string K)).setCell ⟨R, 1, none⟩ u0).setCell ⟨R, 2, none⟩ u1).setCell ⟨R, 3, none⟩ u2).setCell ⟨R, 4, none⟩ u3).setCell ⟨R, 5, none⟩ u4) :
 Blk Wf R 53 #[.string K, u0, u1, u2, u3, u4] ∧ ObI lo Wf.heap.size Wf o [u0, u1, u2, u3, u4] ∧ w.grownBy Wf (some R) ∧ Wf.heap.size = w.heap.size := by
 have hg : w.grownBy Wf (some R) := by
  rw [hWf]
  exact (((((set_grown _ _ _ _).trans (set_grown _ _ _ _)).trans (set_grown _ _ _ _)).trans (set_grown _ _ _ _)).trans (set_grown _ _ _ _)).trans (set_grown _ _ _ _)
 have hz : Wf.heap.size = w.heap.size := by rw [hWf]; simp [World.setCell]
 refine ⟨?_, ?_, hg, hz⟩
 ·rw [hWf]; exact (((((hR.set_ 0 (.string K)).set_ 1 u0).set_ 2 u1).set_ 3 u2).set_ 4 u3).set_ 5 u4
 ·have h2 := hI.keep (w' := Wf) (fun b h1 h2 => hg.block b (by have := hI.1; omega) (fun e => by injection e with e; omega)) (by have := hI.1; omega)
  exact ⟨Nat.le_refl _, fun w2 h3 h4 => h2.2 w2 (fun b h5 h6 => h3 b h5 (by have := h2.1; omega)) (by have := h2.1; omega)⟩
theorem num_I {B : Nat} {w : World} (n : Int) (h1 : -9223372036854775808 ≤ n) (h2 : n ≤ 9223372036854775807) : ObI B w.heap.size w (.mk 2 n [] [] []) [.int .i64 2, .int .i64 n, .slice none 0 0, .slice none 0 0, .slice none 0 0] :=
 built (tb := 5) (tO := 26) (tE := 53) (by omega) (by omega) h1 h2 (World.ownsRow_nil _ _ _ _) (by decide) (RowG.nil _ _ _ _ _) (RowG.nil _ _ _ _ _)
set_option maxHeartbeats 4000000 in
set_option maxRecDepth 100000 in
theorem cos_Pair (o : Ob) (vs : List Value) (w : World) (h : ObAt w o vs) (hbk : o.bulk ≤ 1048576) (K : ByteArray) : Calls Tryz.prog 44 #[.string K, .agg vs.toArray] w fun e w' => ∃ us, e = .returned (.agg (List.toArray (.string K :: us))) ∧ ObI w.heap.size w'.heap.size w' o us ∧ Below w.heap.size w w' := by
 obtain ⟨en, E1, E2, E3, en1, ec1, en2, ec2, en3, ec3, hys⟩ := ob_five2 h
 obtain ⟨kk, hkk⟩ : ∃ k, k = o.kind := ⟨_, rfl⟩
 rw [← hkk] at hys
 subst hys
 obtain ⟨W1, hW1⟩ : ∃ W, W = w.alloc (.cells #[.int .i64 kk, .int .i64 en, .slice E1 en1 ec1, .slice E2 en2 ec2, .slice E3 en3 ec3] 26) := ⟨_, rfl⟩
 obtain ⟨W2, hW2⟩ : ∃ W, W = W1.alloc (.cells #[.string ⟨#[]⟩, .int .i64 0, .int .i64 0, .slice none 0 0, .slice none 0 0, .slice none 0 0] 53) := ⟨_, rfl⟩
 have hb1 : Below w.heap.size w W1 := by rw [hW1]; exact (Below.refl _ _).alloc (Nat.le_refl _) _
 have z1 : W1.heap.size = w.heap.size + 1 := by rw [hW1, World.size_alloc]
 have hb12 : Below W1.heap.size W1 W2 := by rw [hW2]; exact (Below.refl _ _).alloc (Nat.le_refl _) _
 have hb2 : Below w.heap.size w W2 := bthen hb1 hb12
 have z2 : W2.heap.size = w.heap.size + 2 := by rw [hW2, World.size_alloc, z1]
 obtain ⟨f0, f1, f2, f3, f4⟩ := five_kept (five_cells hW1) hb12
 have hR2 : Blk W2 (w.heap.size + 1) 53 #[.string ⟨#[]⟩, .int .i64 0, .int .i64 0, .slice none 0 0, .slice none 0 0, .slice none 0 0] := by rw [hW2, ← z1]; exact Blk.new W1 53 _
 have cc := copy_all 1048576 (Nat.le_refl _) o _ W2 (h.kept hb2) hbk
 replace hkk := hi_ hkk
 replace hb2 := hi_ hb2
 replace hb1 := hi_ hb1
 replace hb12 := hi_ hb12
 replace hR2 := hi_ hR2
 clear h hbk
 go_enter Tryz.func44, Tryz.ntmps44
 go_upto_region 1 with (fail)
 rw [← hW1, ← hW2]
 replace hW1 := hi_ hW1
 replace hW2 := hi_ hW2
 go_wp2_with (go_at_call 66; (with_reducible refine cc.mono ?_); rintro e' w6 ⟨us, rfl, hI, hB6⟩; obtain ⟨en', E1', E2', E3', en1', ec1', en2', ec2', en3', ec3', hys'⟩ := ob_five2 hI.ob; rw [← hkk.out] at hys'; subst hys'; have hRb := hR2.out.below hB6 (by omega); have r0 := hRb.cell 0; have r1 := hRb.cell 1; have r2 := hRb.cell 2; have r3 := hRb.cell 3; have r4 := hRb.cell 4; have r5 := hRb.cell 5; have v0 := hRb.frozen 0; have v1 := hRb.frozen 1; have v2 := hRb.frozen 2; have v3 := hRb.frozen 3; have v4 := hRb.frozen 4; have v5 := hRb.frozen 5; replace hRb := hi_ hRb; replace hB6 := hi_ hB6; replace hI := hi_ hI; clear cc)
 obtain ⟨Wf, hWf⟩ : ∃ W, W = (((((w6.setCell ⟨w.heap.size + 1, 0, none⟩ (.string K)).setCell ⟨w.heap.size + 1, 1, none⟩ (.int .i64 kk)).setCell ⟨w.heap.size + 1, 2, none⟩ (.int .i64 en')).setCell ⟨w.heap.size + 1, 3, none⟩ (.slice E1' en1' ec1')).setCell ⟨w.heap.size + 1, 4, none⟩ (.slice E2' en2' ec2')).setCell ⟨w.heap.size + 1, 5, none⟩ (.slice E3' en3' ec3') := ⟨_, rfl⟩
 rw [← hWf]
 obtain ⟨hbf, hI2, hg, hz⟩ := put_six hRb.out hI.out (by omega) hWf
 have hBf : Below w.heap.size w Wf := (bthen hb2.out hB6.out).grown hg (by have := hB6.out.size; omega) (fun q hq => by injection hq with hq; omega)
 have u0 := hbf.cell 0
 have u1 := hbf.cell 1
 have u2 := hbf.cell 2
 have u3 := hbf.cell 3
 have u4 := hbf.cell 4
 have u5 := hbf.cell 5
 replace hI2 := hi_ (hI2.wide (show w.heap.size ≤ W2.heap.size by omega))
 replace hBf := hi_ hBf
 clear hbf hg
 replace hWf := hi_ hWf
 exact bodyPost_ret (by simp [results, Tryz.results44, go_sem, u0, u1, u2, u3, u4, u5]; try rfl) rfl ⟨[.int .i64 kk, .int .i64 en', .slice E1' en1' ec1', .slice E2' en2' ec2', .slice E3' en3' ec3'], rfl, hI2.out, hBf.out⟩
set_option maxHeartbeats 4000000 in
set_option maxRecDepth 100000 in
theorem cos_Int (n : Int) (w : World) (h1 : -9223372036854775808 ≤ n) (h2 : n ≤ 9223372036854775807) : Calls Tryz.prog 45 #[.int .i64 n] w fun e w' => e = .returned (.agg #[.int .i64 2, .int .i64 n, .slice none 0 0, .slice none 0 0, .slice none 0 0]) ∧ Below w.heap.size w w' := by
 have hR := Blk.new w 26 #[.int .i64 0, .int .i64 0, .slice none 0 0, .slice none 0 0, .slice none 0 0]
 have hb : Below w.heap.size w (w.alloc (.cells #[.int .i64 0, .int .i64 0, .slice none 0 0, .slice none 0 0, .slice none 0 0] 26)) := (Below.refl _ _).alloc (Nat.le_refl _) _
 obtain ⟨W1, hW1⟩ : ∃ W, W = w.alloc (.cells #[.int .i64 0, .int .i64 0, .slice none 0 0, .slice none 0 0, .slice none 0 0] 26) := ⟨_, rfl⟩
 rw [← hW1] at hR hb
 have r0 := hR.cell 0
 have r1 := hR.cell 1
 have r2 := hR.cell 2
 have r3 := hR.cell 3
 have r4 := hR.cell 4
 have v0 := hR.frozen 0
 have v1 := hR.frozen 1
 have v2 := hR.frozen 2
 have v3 := hR.frozen 3
 have v4 := hR.frozen 4
 replace hb := hi_ hb
 replace hR := hi_ hR
 replace h1 := hi_ h1
 replace h2 := hi_ h2
 go_enter Tryz.func45, Tryz.ntmps45
 go_upto_region 1 with (fail)
 rw [← hW1]
 replace hW1 := hi_ hW1
 go_wp2
 obtain ⟨Wf, hWf⟩ : ∃ W, W = ((((W1.setCell ⟨w.heap.size, 0, none⟩ (.int .i64 2)).setCell ⟨w.heap.size, 1, none⟩ (.int .i64 n)).setCell ⟨w.heap.size, 2, none⟩ (.slice none 0 0)).setCell ⟨w.heap.size, 3, none⟩ (.slice none 0 0)).setCell ⟨w.heap.size, 4, none⟩ (.slice none 0 0) := ⟨_, rfl⟩
 rw [← hWf]
 obtain ⟨hbf, _, hgf, hz⟩ := put_res (lo := w.heap.size + 1) (hi := W1.heap.size) hR.out (num_I n h1.out h2.out) (by omega) hWf
 have u0 := hbf.cell 0
 have u1 := hbf.cell 1
 have u2 := hbf.cell 2
 have u3 := hbf.cell 3
 have u4 := hbf.cell 4
 have hB : Below w.heap.size w Wf := hb.out.grown hgf hb.out.size (fun q hq => by injection hq with hq; omega)
 replace hB := hi_ hB
 clear hbf hgf
 replace hWf := hi_ hWf
 exact bodyPost_ret (by simp [results, Tryz.results45, go_sem, u0, u1, u2, u3, u4]; try rfl) rfl ⟨rfl, hB.out⟩
set_option maxHeartbeats 4000000 in
set_option maxRecDepth 100000 in
theorem ref_Pair (o : Ob) (vs : List Value) (w : World) (h : ObAt w o vs) (hbk : o.bulk ≤ 1048576) (K : ByteArray) : Calls Tryz.prog 25 #[.string K, .agg vs.toArray] w fun e w' => ∃ us, e = .returned (.agg (List.toArray (.string K :: us))) ∧ ObI w.heap.size w'.heap.size w' o us ∧ Below w.heap.size w w' := by
 obtain ⟨en, E1, E2, E3, en1, ec1, en2, ec2, en3, ec3, hys⟩ := ob_five2 h
 obtain ⟨kk, hkk⟩ : ∃ k, k = o.kind := ⟨_, rfl⟩
 rw [← hkk] at hys
 subst hys
 obtain ⟨W1, hW1⟩ : ∃ W, W = w.alloc (.cells #[.int .i64 kk, .int .i64 en, .slice E1 en1 ec1, .slice E2 en2 ec2, .slice E3 en3 ec3] 26) := ⟨_, rfl⟩
 obtain ⟨W2, hW2⟩ : ∃ W, W = W1.alloc (.cells #[.string ⟨#[]⟩, .int .i64 0, .int .i64 0, .slice none 0 0, .slice none 0 0, .slice none 0 0] 53) := ⟨_, rfl⟩
 have hb1 : Below w.heap.size w W1 := by rw [hW1]; exact (Below.refl _ _).alloc (Nat.le_refl _) _
 have z1 : W1.heap.size = w.heap.size + 1 := by rw [hW1, World.size_alloc]
 have hb12 : Below W1.heap.size W1 W2 := by rw [hW2]; exact (Below.refl _ _).alloc (Nat.le_refl _) _
 have hb2 : Below w.heap.size w W2 := bthen hb1 hb12
 have z2 : W2.heap.size = w.heap.size + 2 := by rw [hW2, World.size_alloc, z1]
 obtain ⟨f0, f1, f2, f3, f4⟩ := five_kept (five_cells hW1) hb12
 have hR2 : Blk W2 (w.heap.size + 1) 53 #[.string ⟨#[]⟩, .int .i64 0, .int .i64 0, .slice none 0 0, .slice none 0 0, .slice none 0 0] := by rw [hW2, ← z1]; exact Blk.new W1 53 _
 have cc := rcopy_all 1048576 (Nat.le_refl _) o _ W2 (h.kept hb2) hbk
 replace hkk := hi_ hkk
 replace hb2 := hi_ hb2
 replace hb1 := hi_ hb1
 replace hb12 := hi_ hb12
 replace hR2 := hi_ hR2
 clear h hbk
 go_enter Tryz.func25, Tryz.ntmps25
 go_upto_region 1 with (fail)
 rw [← hW1, ← hW2]
 replace hW1 := hi_ hW1
 replace hW2 := hi_ hW2
 go_wp2_with (go_at_call 51; (with_reducible refine cc.mono ?_); rintro e' w6 ⟨us, rfl, hI, hB6⟩; obtain ⟨en', E1', E2', E3', en1', ec1', en2', ec2', en3', ec3', hys'⟩ := ob_five2 hI.ob; rw [← hkk.out] at hys'; subst hys'; have hRb := hR2.out.below hB6 (by omega); have r0 := hRb.cell 0; have r1 := hRb.cell 1; have r2 := hRb.cell 2; have r3 := hRb.cell 3; have r4 := hRb.cell 4; have r5 := hRb.cell 5; have v0 := hRb.frozen 0; have v1 := hRb.frozen 1; have v2 := hRb.frozen 2; have v3 := hRb.frozen 3; have v4 := hRb.frozen 4; have v5 := hRb.frozen 5; replace hRb := hi_ hRb; replace hB6 := hi_ hB6; replace hI := hi_ hI; clear cc)
 obtain ⟨Wf, hWf⟩ : ∃ W, W = (((((w6.setCell ⟨w.heap.size + 1, 0, none⟩ (.string K)).setCell ⟨w.heap.size + 1, 1, none⟩ (.int .i64 kk)).setCell ⟨w.heap.size + 1, 2, none⟩ (.int .i64 en')).setCell ⟨w.heap.size + 1, 3, none⟩ (.slice E1' en1' ec1')).setCell ⟨w.heap.size + 1, 4, none⟩ (.slice E2' en2' ec2')).setCell ⟨w.heap.size + 1, 5, none⟩ (.slice E3' en3' ec3') := ⟨_, rfl⟩
 rw [← hWf]
 obtain ⟨hbf, hI2, hg, hz⟩ := put_six hRb.out hI.out (by omega) hWf
 have hBf : Below w.heap.size w Wf := (bthen hb2.out hB6.out).grown hg (by have := hB6.out.size; omega) (fun q hq => by injection hq with hq; omega)
 have u0 := hbf.cell 0
 have u1 := hbf.cell 1
 have u2 := hbf.cell 2
 have u3 := hbf.cell 3
 have u4 := hbf.cell 4
 have u5 := hbf.cell 5
 replace hI2 := hi_ (hI2.wide (show w.heap.size ≤ W2.heap.size by omega))
 replace hBf := hi_ hBf
 clear hbf hg
 replace hWf := hi_ hWf
 exact bodyPost_ret (by simp [results, Tryz.results25, go_sem, u0, u1, u2, u3, u4, u5]; try rfl) rfl ⟨[.int .i64 kk, .int .i64 en', .slice E1' en1' ec1', .slice E2' en2' ec2', .slice E3' en3' ec3'], rfl, hI2.out, hBf.out⟩
set_option maxHeartbeats 4000000 in
set_option maxRecDepth 100000 in
theorem ref_Int (n : Int) (w : World) (h1 : -9223372036854775808 ≤ n) (h2 : n ≤ 9223372036854775807) : Calls Tryz.prog 27 #[.int .i64 n] w fun e w' => e = .returned (.agg #[.int .i64 2, .int .i64 n, .slice none 0 0, .slice none 0 0, .slice none 0 0]) ∧ Below w.heap.size w w' := by
 have hR := Blk.new w 26 #[.int .i64 0, .int .i64 0, .slice none 0 0, .slice none 0 0, .slice none 0 0]
 have hb : Below w.heap.size w (w.alloc (.cells #[.int .i64 0, .int .i64 0, .slice none 0 0, .slice none 0 0, .slice none 0 0] 26)) := (Below.refl _ _).alloc (Nat.le_refl _) _
 obtain ⟨W1, hW1⟩ : ∃ W, W = w.alloc (.cells #[.int .i64 0, .int .i64 0, .slice none 0 0, .slice none 0 0, .slice none 0 0] 26) := ⟨_, rfl⟩
 rw [← hW1] at hR hb
 have r0 := hR.cell 0
 have r1 := hR.cell 1
 have r2 := hR.cell 2
 have r3 := hR.cell 3
 have r4 := hR.cell 4
 have v0 := hR.frozen 0
 have v1 := hR.frozen 1
 have v2 := hR.frozen 2
 have v3 := hR.frozen 3
 have v4 := hR.frozen 4
 replace hb := hi_ hb
 replace hR := hi_ hR
 replace h1 := hi_ h1
 replace h2 := hi_ h2
 go_enter Tryz.func27, Tryz.ntmps27
 go_upto_region 1 with (fail)
 rw [← hW1]
 replace hW1 := hi_ hW1
 go_wp2
 obtain ⟨Wf, hWf⟩ : ∃ W, W = ((((W1.setCell ⟨w.heap.size, 0, none⟩ (.int .i64 2)).setCell ⟨w.heap.size, 1, none⟩ (.int .i64 n)).setCell ⟨w.heap.size, 2, none⟩ (.slice none 0 0)).setCell ⟨w.heap.size, 3, none⟩ (.slice none 0 0)).setCell ⟨w.heap.size, 4, none⟩ (.slice none 0 0) := ⟨_, rfl⟩
 rw [← hWf]
 obtain ⟨hbf, _, hgf, hz⟩ := put_res (lo := w.heap.size + 1) (hi := W1.heap.size) hR.out (num_I n h1.out h2.out) (by omega) hWf
 have u0 := hbf.cell 0
 have u1 := hbf.cell 1
 have u2 := hbf.cell 2
 have u3 := hbf.cell 3
 have u4 := hbf.cell 4
 have hB : Below w.heap.size w Wf := hb.out.grown hgf hb.out.size (fun q hq => by injection hq with hq; omega)
 replace hB := hi_ hB
 clear hbf hgf
 replace hWf := hi_ hWf
 exact bodyPost_ret (by simp [results, Tryz.results27, go_sem, u0, u1, u2, u3, u4]; try rfl) rfl ⟨rfl, hB.out⟩

/- An entry put in at its place, plain, and in memory. No condition. -/
def placeE (K : List UInt8) (d : List (List UInt8 × Ob)) : Nat := (d.takeWhile fun e => ltB e.1 K).length
def insE (K : List UInt8) (X : Ob) (d : List (List UInt8 × Ob)) : List (List UInt8 × Ob) := d.take (placeE K d) ++ [(K, X)] ++ d.drop (placeE K d)
theorem place_le (K : List UInt8) (d : List (List UInt8 × Ob)) : placeE K d ≤ d.length := by
 unfold placeE
 induction d with
 | nil => simp
 | cons e r ih => simp only [List.takeWhile_cons]; split <;> simp <;> omega
theorem place_lt (K : List UInt8) : ∀ (d : List (List UInt8 × Ob)) (i : Nat) (h : i < d.length), i < placeE K d → ltB d[i].1 K = true
 | [], i, h, _ => by simp at h
 | e :: r, i, h, hi => by
  unfold placeE at hi
  simp only [List.takeWhile_cons] at hi
  split at hi
  ·rename_i hb
   cases i with
   | zero => exact hb
   | succ i => exact place_lt K r i (by simpa using h) (by unfold placeE; simpa using hi)
  ·simp at hi
theorem place_ge (K : List UInt8) : ∀ (d : List (List UInt8 × Ob)) (h : placeE K d < d.length), ltB d[placeE K d].1 K = false
 | [], h => by simp at h
 | e :: r, h => by
  by_cases hb : ltB e.1 K = true
  ·have hp : placeE K (e :: r) = placeE K r + 1 := by unfold placeE; simp [List.takeWhile_cons, hb]
   have h2 : placeE K r < r.length := by rw [hp] at h; simpa using h
   have := place_ge K r h2
   simp only [hp, List.getElem_cons_succ]
   exact this
  ·have hp : placeE K (e :: r) = 0 := by unfold placeE; simp [List.takeWhile_cons, hb]
   simp only [hp, List.getElem_cons_zero]
   simpa using hb
theorem insE_len (K : List UInt8) (X : Ob) (d : List (List UInt8 × Ob)) : (insE K X d).length = d.length + 1 := by
 have := place_le K d
 unfold insE; simp; omega
theorem insE_at (K : List UInt8) (X : Ob) (d : List (List UInt8 × Ob)) (i : Nat) (hi : i < (insE K X d).length) :
 (∃ h : i < d.length, i < placeE K d ∧ (insE K X d)[i] = d[i]) ∨ (i = placeE K d ∧ (insE K X d)[i] = (K, X)) ∨ (∃ h : i - 1 < d.length, placeE K d < i ∧ (insE K X d)[i] = d[i - 1]) := by
 have hp := place_le K d
 have hl := insE_len K X d
 rcases Nat.lt_trichotomy i (placeE K d) with h | h | h
 ·refine .inl ⟨by omega, h, ?_⟩
  have : (insE K X d)[i]? = d[i]? := by
   unfold insE
   rw [List.append_assoc, List.getElem?_append_left (by simp; omega), List.getElem?_take, if_pos h]
  rw [List.getElem?_eq_getElem hi, List.getElem?_eq_getElem (by omega)] at this
  injection this
 ·refine .inr (.inl ⟨h, ?_⟩)
  have : (insE K X d)[i]? = some (K, X) := by
   unfold insE
   rw [List.append_assoc, List.getElem?_append_right (by simp; omega)]
   simp [h, Nat.min_eq_left hp]
  rw [List.getElem?_eq_getElem hi] at this
  injection this
 ·refine .inr (.inr ⟨by omega, h, ?_⟩)
  have : (insE K X d)[i]? = d[i - 1]? := by
   unfold insE
   rw [List.append_assoc, List.getElem?_append_right (by simp; omega)]
   simp only [List.length_take, Nat.min_eq_left hp]
   rw [List.getElem?_append_right (by simp; omega)]
   simp only [List.length_cons, List.length_nil, List.getElem?_drop]
   congr 1
   omega
  rw [List.getElem?_eq_getElem hi, List.getElem?_eq_getElem (by omega)] at this
  injection this
def vlE (p : Nat) (vl : Nat → List Value) (x : List Value) (i : Nat) : List Value := if i < p then vl i else if i = p then x else vl (i - 1)
theorem vlE_flat (p n : Nat) (hp : p ≤ n) (vl : Nat → List Value) (x : List Value) : ((List.range p).map vl).flatten ++ x ++ ((List.range (n - p)).map fun i => vl (p + i)).flatten = ((List.range (n + 1)).map (vlE p vl x)).flatten := by
 have e : n + 1 = p + (1 + (n - p)) := by omega
 rw [e, List.range_add, List.range_add, List.map_append, List.flatten_append, List.map_map, List.map_append, List.flatten_append, List.append_assoc]
 congr 1
 ·congr 1
  refine List.map_congr_left fun i hi => ?_
  unfold vlE
  rw [if_pos (List.mem_range.1 hi)]
 ·congr 1
  ·simp [vlE]
  ·rw [List.map_map]
   congr 1
   refine List.map_congr_left fun i hi => ?_
   simp only [Function.comp, vlE]
   rw [if_neg (by omega), if_neg (by omega)]
   congr 1
   omega
def keyAt (d : List (List UInt8 × Ob)) (i : Nat) : List UInt8 := match d[i]? with
 | some e => e.1
 | none => []
theorem keyAt_eq {d : List (List UInt8 × Ob)} {i : Nat} (h : i < d.length) : keyAt d i = d[i].1 := by unfold keyAt; rw [List.getElem?_eq_getElem h]
theorem ob_put {w : World} {k n : Int} {b : List UInt8} {l : List Ob} {d : List (List UInt8 × Ob)} {vB vL vD v : Value} {B : Nat} {K : List UInt8} {X : Ob} {xs : List Value} {vd : Nat → List Value} (h : ObAt w (.mk k n b l d) [.int .i64 k, .int .i64 n, vB, vL, vD])
 (hvd : ∀ i (hi : i < d.length), ObAt w d[i].2 (vd i)) (hkl : ∀ i (hi : i < d.length), d[i].1.length ≤ maxLen) (hKl : K.length ≤ maxLen) (hX : ObAt w X xs)
 (hv : w.ownsRow B 53 6 v (d.length + 1) (((List.range (placeE K d)).map fun i => strV (keyAt d i) :: vd i).flatten ++ (strV K :: xs) ++ ((List.range (d.length - placeE K d)).map fun i => strV (keyAt d (placeE K d + i)) :: vd (placeE K d + i)).flatten)) :
 ObAt w (.mk k n b l (insE K X d)) [.int .i64 k, .int .i64 n, vB, vL, v] := by
 have hp := place_le K d
 rw [vlE_flat _ _ hp (fun i => strV (keyAt d i) :: vd i)] at hv
 have h6 : ∀ i, i < d.length + 1 → (vlE (placeE K d) (fun i => strV (keyAt d i) :: vd i) (strV K :: xs) i).length = 6 := fun i hi => by
  unfold vlE
  split
  ·simp [(hvd i (by omega)).five]
  ·split
   ·simp [hX.five]
   ·simp [(hvd (i - 1) (by omega)).five]
 have hcap : ∀ A c, v = .slice A (d.length + 1) c → d.length + 1 ≤ c ∧ d.length + 1 ≤ maxLen := fun A c e => by
  rcases hv.2 with ⟨e2, hn⟩ | ⟨g, cap, cur, e2, hB, hh, hnc, hcm, _⟩
  ·omega
  ·rw [e] at e2; injection e2 with _ _ e3; subst e3; omega
 obtain ⟨A, g, c, rfl, q1, q2⟩ := own_six hv h6
 obtain ⟨hc1, hc2⟩ := hcap A c rfl
 have hen : ∀ i (hi : i < (insE K X d).length), ∃ us, vlE (placeE K d) (fun i => strV (keyAt d i) :: vd i) (strV K :: xs) i = strV (insE K X d)[i].1 :: us ∧ (insE K X d)[i].1.length ≤ maxLen ∧ ObAt w (insE K X d)[i].2 us := fun i hi => by
  rcases insE_at K X d i hi with ⟨h1, h2, h3⟩ | ⟨h1, h2⟩ | ⟨h1, h2, h3⟩
  ·rw [h3]
   refine ⟨vd i, ?_, hkl i h1, hvd i h1⟩
   unfold vlE
   rw [if_pos h2]
   show strV (keyAt d i) :: vd i = _
   rw [keyAt_eq h1]
  ·rw [h2]
   refine ⟨xs, ?_, hKl, hX⟩
   unfold vlE
   rw [if_neg (by omega), if_pos h1]
  ·rw [h3]
   refine ⟨vd (i - 1), ?_, hkl _ h1, hvd _ h1⟩
   unfold vlE
   rw [if_neg (by omega), if_neg (by omega)]
   show strV (keyAt d (i - 1)) :: vd (i - 1) = _
   rw [keyAt_eq h1]
 cases h with
 | mk _ _ _ _ _ A0 AL AD c0 cL cD gL oL gD oD vl vd0 h1 h2 h3 h4 h5 h6 h7 h8 h9 h10 h11 hAL hl hlv hAD hdo hdk hdv =>
 have hlen := insE_len K X d
 rw [← hlen] at q1 q2 hc1 hc2 ⊢
 refine ObAt.mk k n b l (insE K X d) A0 AL A c0 cL c gL oL g 0 vl (fun i => (vlE (placeE K d) (fun i => strV (keyAt d i) :: vd i) (strV K :: xs) i).drop 1) h1 h2 h3 h4 h5 h6 h7 h8 h9 hc1 hc2 hAL hl hlv q1 (fun i hi => ?_) (fun i hi => ?_) (fun i hi j hj => ?_)
 ·obtain ⟨us, e1, e2, e3⟩ := hen i hi
  show ObAt w _ ((vlE _ _ _ i).drop 1)
  rw [e1]; exact e3
 ·obtain ⟨us, e1, e2, e3⟩ := hen i hi
  have := q2 i hi 0 (by omega)
  rw [e1] at this
  exact ⟨e2, by simpa using this⟩
 ·have := q2 i hi (1 + j) (by omega)
  show _ = ((vlE _ _ _ i).drop 1)[j]?
  rw [List.getElem?_drop, ← this]
  congr 2
  omega
theorem ObI.ents {lo hi : Nat} {w : World} {k n : Int} {b : List UInt8} {l : List Ob} {d : List (List UInt8 × Ob)} {vs : List Value} (h : ObI lo hi w (.mk k n b l d) vs) : ∃ (A AL AD : Option Addr) (c cL cD gD oD : Nat) (vd : Nat → List Value),
 vs = [.int .i64 k, .int .i64 n, .slice A b.length c, .slice AL l.length cL, .slice AD d.length cD] ∧ d.length ≤ cD ∧ (0 < d.length → AD = some ⟨gD, oD, none⟩) ∧ (∀ i (h : i < d.length), ObI lo hi w d[i].2 (vd i)) ∧
 (∀ i, (h : i < d.length) → d[i].1.length ≤ maxLen ∧ w.cell? ⟨gD, oD + 6 * i, none⟩ = some (strV d[i].1)) ∧ (∀ i, i < d.length → ∀ j, j < 5 → w.cell? ⟨gD, oD + (6 * i + 1 + j), none⟩ = (vd i)[j]?) := by
 have h0 := h.ob
 have hs := h.1
 obtain ⟨vs', hvs⟩ : ∃ x, x = vs := ⟨_, rfl⟩
 rw [← hvs] at h0 ⊢
 cases h0 with
 | mk _ _ _ _ _ A AL AD c cL cD gL oL gD oD vl vd h1 h2 h3 h4 h5 h6 h7 h8 h9 h10 h11 hAL hl hlv hAD hdo hdk hdv =>
 refine ⟨A, AL, AD, c, cL, cD, gD, oD, vd, rfl, h10, hAD, fun i hi' => ⟨hs, fun w' hb hz => ?_⟩, hdk, hdv⟩
 have hA := hAD (by omega)
 -- the row lies in between
 have hin : lo ≤ gD ∧ gD < hi := by
  by_cases hq : lo ≤ gD ∧ gD < hi
  ·exact hq
  ·exfalso
   obtain ⟨w2, hw2⟩ : ∃ w2 : World, w2 = { w with heap := w.heap.setIfInBounds gD (.cells #[] 0) } := ⟨_, rfl⟩
   have hz2 : w2.heap.size = w.heap.size := by rw [hw2]; simp
   have h9 := h.2 w2 (fun b hb1 hb2 => by
    rw [hw2]
    show (w.heap.setIfInBounds gD _)[b]? = _
    rw [Array.getElem?_setIfInBounds_ne (by omega)]) (by omega)
   obtain ⟨vs2, hvs2⟩ : ∃ x, x = vs := ⟨_, rfl⟩
   rw [← hvs2] at h9
   rw [← hvs2] at hvs
   cases h9 with
   | mk _ _ _ _ _ A' AL' AD' c' cL' cD' gL' oL' gD' oD' vl' vd' j1 j2 j3 j4 j5 j6 j7 j8 j9 j10 j11 jAL jl jlv jAD jdo jdk jdv =>
   simp only [List.cons.injEq, Value.slice.injEq, and_true, true_and] at hvs
   have e := hvs.2.2.1
   rw [jAD (by omega), hA] at e
   injection e with e
   injection e with e1 e2
   have hk := (jdk 0 (by omega)).2
   have hlt : gD < w.heap.size := cell_lt (hdk 0 (by omega)).2
   have : w2.cell? ⟨gD', oD' + 6 * 0, none⟩ = none := by
    rw [← e1, hw2]
    simp [World.cell?, hlt]
   rw [this] at hk
   cases hk
 have h9 := h.2 w' hb hz
 obtain ⟨vs2, hvs2⟩ : ∃ x, x = vs := ⟨_, rfl⟩
 rw [← hvs2] at h9
 rw [← hvs2] at hvs
 cases h9 with
 | mk _ _ _ _ _ A' AL' AD' c' cL' cD' gL' oL' gD' oD' vl' vd' j1 j2 j3 j4 j5 j6 j7 j8 j9 j10 j11 jAL jl jlv jAD jdo jdk jdv =>
 simp only [List.cons.injEq, Value.slice.injEq, and_true, true_and] at hvs
 have e := hvs.2.2.1
 rw [jAD (by omega), hA] at e
 injection e with e
 injection e with e1 e2
 subst e1
 subst e2
 have hv : vd' i = vd i := by
  refine List.ext_getElem? fun j => ?_
  rcases Nat.lt_or_ge j 5 with hj | hj
  ·have a1 := jdv i hi' j hj
   have a2 := hdv i hi' j hj
   rw [← a1, ← a2]
   exact World.cell?_of_block (hb gD hin.1 hin.2)
  ·rw [List.getElem?_eq_none (by rw [(jdo i hi').five]; exact hj), List.getElem?_eq_none (by rw [(hdo i hi').five]; exact hj)]
 rw [← hv]
 exact jdo i hi'
theorem srt_en (w : World) (AD : Option Addr) (gD oD cD : Nat) (d : List (List UInt8 × Ob)) (vd : Nat → List Value) (KB : ByteArray) (X : Ob) (x0 x1 x2 x3 x4 : Value) (hn : d.length ≤ 1100000) (hc : d.length ≤ cD) (hAD : 0 < d.length → AD = some ⟨gD, oD, none⟩)
 (hdo : ∀ i (h : i < d.length), ObAt w d[i].2 (vd i)) (hdk : ∀ i, (h : i < d.length) → d[i].1.length ≤ maxLen ∧ w.cell? ⟨gD, oD + 6 * i, none⟩ = some (strV d[i].1)) (hdv : ∀ i, i < d.length → ∀ j, j < 5 → w.cell? ⟨gD, oD + (6 * i + 1 + j), none⟩ = (vd i)[j]?)
 (hX : ObAt w X [x0, x1, x2, x3, x4]) (hno : ∀ e ∈ d, (e.1 == KB.data.toList) = false) :
 Calls Tryz.prog 72 #[.slice AD d.length cD, .agg #[.string KB, x0, x1, x2, x3, x4], .func (.func 73) #[] #[], .bool true] w fun e w' => ∃ v, e = .returned v ∧
  w'.ownsRow w.heap.size 53 6 v (d.length + 1) (((List.range (placeE KB.data.toList d)).map fun i => strV (keyAt d i) :: vd i).flatten ++ [.string KB, x0, x1, x2, x3, x4] ++ ((List.range (d.length - placeE KB.data.toList d)).map fun i => strV (keyAt d (placeE KB.data.toList d + i)) :: vd (placeE KB.data.toList d + i)).flatten) ∧ Below w.heap.size w w' := by
 refine srt_put w AD gD oD d.length cD (fun i => strV (keyAt d i) :: vd i) (fun i => bytes (keyAt d i)) KB x0 x1 x2 x3 x4 (placeE KB.data.toList d) (place_le _ _) hn hc hAD (fun i hi => ?_) (fun i hi j hj => ?_) (fun i hi u hu => ?_) (fun u hu => ?_) (fun i hi => ?_) (fun hi => ?_) (fun i hi => ?_)
 ·have h5 := (hdo i hi).five
  match h : vd i, h5 with
  | [c1, c2, c3, c4, c5], _ => exact ⟨c1, c2, c3, c4, c5, rfl⟩
 ·show _ = (strV (keyAt d i) :: vd i)[j]?
  cases j with
  | zero => rw [keyAt_eq hi]; exact (hdk i hi).2
  | succ j =>
   rw [List.getElem?_cons_succ, ← hdv i hi j (by omega)]
   congr 2
   omega
 ·simp only [List.mem_cons] at hu
  rcases hu with rfl | hu
  ·rfl
  ·exact one_five (hdo i hi) u hu
 ·simp only [List.mem_cons] at hu
  rcases hu with rfl | hu
  ·rfl
  ·exact one_five hX u (by simpa using hu)
 ·have hp := place_le KB.data.toList d
  show ltB (keyAt d i) _ = true
  rw [keyAt_eq (by omega)]
  exact place_lt _ d i (by omega) hi
 ·show ltB (keyAt d _) _ = false
  rw [keyAt_eq hi]
  exact place_ge _ d hi
 ·show (keyAt d i == _) = false
  rw [keyAt_eq hi]
  exact hno _ (List.getElem_mem hi)

/- An entry put into an object: cos.Set. No condition. -/
def GS (P Q : Nat) (AD : Option Addr) (m cD : Nat) (KB : ByteArray) (ag : Array Value) (B : Nat) (X : Ob) : Nat → Value → World → Prop := fun j v w => match j with
 | 0 => v = .pointer (some ⟨P, 4, none⟩)
 | 1 => v = .slice AD m cD
 | 2 => v = .pointer (some ⟨Q, 0, none⟩)
 | 3 => v = .string KB
 | 4 | 7 | 8 => v = .pointer (some ⟨Q, 1, none⟩)
 | 5 => v = .agg ag
 | 6 => ∃ us lo hi, v = .agg (List.toArray (.string KB :: us)) ∧ B ≤ lo ∧ ObI lo hi w X us
 | 9 => v = .int .i64 2
 | _ => v = .bool true
theorem GS_mono {P Q : Nat} {AD : Option Addr} {m cD : Nat} {KB : ByteArray} {ag : Array Value} {B : Nat} {X : Ob} (j : Nat) (v : Value) (w w' : World) (hG : GS P Q AD m cD KB ag B X j v w) (hk : Below w.heap.size w w') : GS P Q AD m cD KB ag B X j v w' := by
 unfold GS at hG ⊢
 split at hG <;> first
  | exact hG
  | (obtain ⟨us, lo, hi, e, h1, h2⟩ := hG; exact ⟨us, lo, hi, e, h1, h2.keep (fun b _ hb => hk.block b (by have := h2.1; omega)) (by have := h2.1; have := hk.size; omega)⟩)
theorem own_slice {B : Nat} {e : TypeId} {sz : Nat} {w : World} {v : Value} {n : Nat} {xs : List Value} (h : w.ownsRow B e sz v n xs) : ∃ A c, v = .slice A n c := by
 rcases h.2 with ⟨rfl, hn⟩ | ⟨g, cap, cur, rfl, _⟩
 ·exact ⟨_, _, by rw [hn]⟩
 ·exact ⟨_, _, rfl⟩
theorem set_five {w : World} {R : Nat} {z0 z1 z2 z3 z4 u0 u1 u2 u3 u4 : Value} (hR : Blk w R 26 #[z0, z1, z2, z3, z4]) {Wf : World}
 (hWf : Wf = ((((w.setCell ⟨R, 0, none⟩ u0).setCell ⟨R, 1, none⟩ u1).setCell ⟨R, 2, none⟩ u2).setCell ⟨R, 3, none⟩ u3).setCell ⟨R, 4, none⟩ u4) :
 Blk Wf R 26 #[u0, u1, u2, u3, u4] ∧ w.grownBy Wf (some R) ∧ Wf.heap.size = w.heap.size := by
 have hg : w.grownBy Wf (some R) := by
  rw [hWf]
  exact ((((set_grown _ _ _ _).trans (set_grown _ _ _ _)).trans (set_grown _ _ _ _)).trans (set_grown _ _ _ _)).trans (set_grown _ _ _ _)
 refine ⟨?_, hg, by rw [hWf]; simp [World.setCell]⟩
 rw [hWf]; exact ((((hR.set_ 0 u0).set_ 1 u1).set_ 2 u2).set_ 3 u3).set_ 4 u4
set_option maxHeartbeats 8000000 in
set_option maxRecDepth 100000 in
theorem cos_Set (k n : Int) (b : List UInt8) (l : List Ob) (d : List (List UInt8 × Ob)) (vs : List Value) (w : World) (h : ObAt w (.mk k n b l d) vs) (hbk : (Ob.mk k n b l d).bulk ≤ 1048576) (hh : hasI k = true)
 (X : Ob) (xs : List Value) (gl : Nat) (KB : ByteArray) (hX : ObAt w X xs) (hXb : X.bulk ≤ 1048576) (hX2 : X.kind = 2) (hcl : ∀ j u, (Value.string KB :: xs)[j]? = some u → w.cell? ⟨gl, j, none⟩ = some u) (hno : ∀ e ∈ d, (e.1 == KB.data.toList) = false) (hKl : KB.data.toList.length ≤ maxLen) :
 Calls Tryz.prog 43 #[.agg vs.toArray, .slice (some ⟨gl, 0, none⟩) 1 1] w fun e w' => ∃ us, e = .returned (.agg (List.toArray us)) ∧ ObI w.heap.size w'.heap.size w' (.mk k n b l (insE KB.data.toList X d)) us ∧ Below w.heap.size w w' := by
 obtain ⟨en, E1, E2, E3, en1, ec1, en2, ec2, en3, ec3, hys⟩ := ob_five2 h
 have hkd : (Ob.mk k n b l d).kind = k := rfl
 rw [hkd] at hys
 subst hys
 obtain ⟨xn, F1, F2, F3, fn1, fc1, fn2, fc2, fn3, fc3, hxs⟩ := ob_five2 hX
 rw [hX2] at hxs
 subst hxs
 have zk : b.length + bulkL l + bulkD d + 1 ≤ 1048576 := hbk
 have zd := bulkD_len d
 obtain ⟨o, ho⟩ : ∃ o, o = Ob.mk k n b l d := ⟨_, rfl⟩
 obtain ⟨W1, hW1⟩ : ∃ W, W = w.alloc (.cells #[.int .i64 k, .int .i64 en, .slice E1 en1 ec1, .slice E2 en2 ec2, .slice E3 en3 ec3] 26) := ⟨_, rfl⟩
 obtain ⟨W2, hW2⟩ : ∃ W, W = W1.alloc (.cells #[.int .i64 0, .int .i64 0, .slice none 0 0, .slice none 0 0, .slice none 0 0] 26) := ⟨_, rfl⟩
 have hb1 : Below w.heap.size w W1 := by rw [hW1]; exact (Below.refl _ _).alloc (Nat.le_refl _) _
 have z1 : W1.heap.size = w.heap.size + 1 := by rw [hW1, World.size_alloc]
 have hb12 : Below W1.heap.size W1 W2 := by rw [hW2]; exact (Below.refl _ _).alloc (Nat.le_refl _) _
 have hb2 : Below w.heap.size w W2 := bthen hb1 hb12
 have z2 : W2.heap.size = w.heap.size + 2 := by rw [hW2, World.size_alloc, z1]
 have f := five_kept (five_cells hW1) hb12
 have hR2 : Blk W2 (w.heap.size + 1) 26 #[.int .i64 0, .int .i64 0, .slice none 0 0, .slice none 0 0, .slice none 0 0] := by rw [hW2, ← z1]; exact Blk.new W1 26 _
 have c66 := copy_all 1048576 (Nat.le_refl _) (Ob.mk k n b l d) _ W2 (h.kept hb2) hbk
 have c65 := fun W => cos_entries k (.int .i64 en) (.slice E1 en1 ec1) (.slice E2 en2 ec2) (.slice E3 en3 ec3) W
 rw [hh] at c65
 rw [← ho] at c66
 have hx6 : w.cell? ⟨gl, 0, none⟩ = some (.string KB) ∧ w.cell? ⟨gl, 1, none⟩ = some (.int .i64 2) ∧ w.cell? ⟨gl, 2, none⟩ = some (.int .i64 xn) ∧ w.cell? ⟨gl, 3, none⟩ = some (.slice F1 fn1 fc1) ∧ w.cell? ⟨gl, 4, none⟩ = some (.slice F2 fn2 fc2) ∧ w.cell? ⟨gl, 5, none⟩ = some (.slice F3 fn3 fc3) := ⟨hcl 0 _ rfl, hcl 1 _ rfl, hcl 2 _ rfl, hcl 3 _ rfl, hcl 4 _ rfl, hcl 5 _ rfl⟩
 have ck := fun W (hW : Below W2.heap.size W2 W) => cos_Pair X _ W (hX.kept (bthen hb2 hW)) hXb KB
 obtain ⟨f0, f1, f2, f3, f4⟩ := id f
 obtain ⟨k0, k1, k2, k3, k4, k5⟩ := six_kept hx6 hb2
 replace f := hi_ f
 replace hx6 := hi_ hx6
 replace ho := hi_ ho
 replace hb1 := hi_ hb1
 replace hb12 := hi_ hb12
 replace hb2 := hi_ hb2
 replace hR2 := hi_ hR2
 replace ck := hi_ ck
 replace hno := hi_ hno
 replace hKl := hi_ hKl
 replace c65 := hi_ c65
 replace hX2 := hi_ hX2
 clear h hX hcl hbk hh hXb hkd
 go_enter Tryz.func43, Tryz.ntmps43
 go_upto_region 1 with (fail)
 rw [← hW1, ← hW2]
 replace hW1 := hi_ hW1
 replace hW2 := hi_ hW2
 go_upto_region 2 with (first
  | (go_at_call 66; (with_reducible refine c66.mono ?_); rintro e' w3 ⟨us, rfl, hI, hB3⟩; rw [ho.out] at hI; obtain ⟨A', AL', AD, c', cL', cD, gD, oD, vd, hus, q1, q2, q3, q4, q5⟩ := ObI.ents hI; subst hus; obtain ⟨lb, hlb⟩ : ∃ x, x = b.length := ⟨_, rfl⟩; obtain ⟨ll, hll⟩ : ∃ x, x = l.length := ⟨_, rfl⟩; obtain ⟨m, hm⟩ : ∃ m, m = d.length := ⟨_, rfl⟩; rw [← hlb, ← hll, ← hm] at hI; rw [← hlb, ← hll, ← hm]; replace hlb := hi_ hlb; replace hll := hi_ hll; replace hm := hi_ hm; replace hB3 := hi_ hB3; replace hI := hi_ hI; replace q1 := hi_ q1; replace q2 := hi_ q2; replace q3 := hi_ q3; replace q4 := hi_ q4; replace q5 := hi_ q5; clear c66))
 obtain ⟨W4, hW4⟩ : ∃ W, W = w3.alloc (.cells #[.int .i64 k, .int .i64 n, .slice A' lb c', .slice AL' ll cL', .slice AD m cD] 26) := ⟨_, rfl⟩
 rw [← hW4]
 have hb4 : Below w3.heap.size w3 W4 := by rw [hW4]; exact (Below.refl _ _).alloc (Nat.le_refl _) _
 have hD4 : Below W2.heap.size W2 W4 := bthen hB3.out hb4
 have zp := five_cells hW4
 have hP4 : Blk W4 w3.heap.size 26 #[.int .i64 k, .int .i64 n, .slice A' lb c', .slice AL' ll cL', .slice AD m cD] := by rw [hW4]; exact Blk.new w3 26 _
 replace hP4 := hi_ hP4
 have z3 := hB3.out.size
 have z4 : W4.heap.size = w3.heap.size + 1 := by rw [hW4, World.size_alloc]
 obtain ⟨g0, g1, g2, g3, g4⟩ := five_kept f.out hD4
 have d65 := c65.out W4
 replace hb4 := hi_ hb4
 replace hD4 := hi_ hD4
 replace zp := hi_ zp
 replace hW4 := hi_ hW4
 clear f0 f1 f2 f3 f4 k0 k1 k2 k3 k4 k5
 go_upto_region 4 with (first
  | (go_at_call 65; (with_reducible refine d65.mono ?_); rintro e' w5 ⟨rfl, hB5⟩; have hD5 := bthen hD4.out hB5; have zp5 := five_kept zp.out hB5; obtain ⟨k0, k1, k2, k3, k4, k5⟩ := six_kept hx6.out (bthen hb2.out hD5); have z5 := hB5.size; replace hB5 := hi_ hB5; replace hD5 := hi_ hD5; replace zp5 := hi_ zp5; clear d65))
 clear g0 g1 g2 g3 g4
 go_wp2
 refine wp_loop_rounds 2 ?_; rw [rounds_succ]
 go_upto_region 7 with (fail)
 obtain ⟨W6, hW6⟩ : ∃ W, W = w5.alloc (.cells #[.string KB, .int .i64 2, .int .i64 xn, .slice F1 fn1 fc1, .slice F2 fn2 fc2, .slice F3 fn3 fc3] 53) := ⟨_, rfl⟩
 rw [← hW6]
 have hb6 : Below w5.heap.size w5 W6 := by rw [hW6]; exact (Below.refl _ _).alloc (Nat.le_refl _) _
 have z6 : W6.heap.size = w5.heap.size + 1 := by rw [hW6, World.size_alloc]
 have hD6 : Below W2.heap.size W2 W6 := bthen hD5.out hb6
 obtain ⟨p0, p1, p2, p3, p4⟩ := five_kept zp5.out hb6
 obtain ⟨y0, y1, y2, y3, y4, y5⟩ := six_cells hW6
 replace hb6 := hi_ hb6
 replace hD6 := hi_ hD6
 replace hW6 := hi_ hW6
 clear k0 k1 k2 k3 k4 k5
 refine wp_lin_tail (by kernel_rfl) [none, none, none, none, none, none, none, none, none, none, none, none, none, none, none, none, none, none, none, none, some 0, some 1, some 2, some 3, some 4, some 5, some 6, some 7, some 8, some 9, some 10, none, none, none, none] (fun w' => Below W6.heap.size W6 w') (fun w' w'' => Below w'.heap.size w' w'') (GS w3.heap.size w5.heap.size AD m cD KB #[.int .i64 2, .int .i64 xn, .slice F1 fn1 fc1, .slice F2 fn2 fc2, .slice F3 fn3 fc3] W6.heap.size X) (by rfl) (by kernel_rfl) 11 _ rfl (by decide) (by kernel_rfl) [1, 11, 3, 6, 5, 6, 11, 8, 9, 10, 11, 0] (by kernel_rfl) ?hR ?mono (.cons 10 (step_of [9] rfl (by kernel_rfl) ?s10) (.cons 9 (step_of [8] rfl (by kernel_rfl) ?s9) (.cons 8 (step_of [7] rfl (by kernel_rfl) ?s8) (.cons 7 (step_of [] rfl (by kernel_rfl) ?s7) (.cons 6 (step_of [3, 5] rfl (by kernel_rfl) ?s6) (.cons 5 (step_of [4] rfl (by kernel_rfl) ?s5) (.cons 4 (step_of [] rfl (by kernel_rfl) ?s4) (.cons 3 (step_of [2] rfl (by kernel_rfl) ?s3) (.cons 2 (step_of [] rfl (by kernel_rfl) ?s2) (.cons 1 (step_of [0] rfl (by kernel_rfl) ?s1) (.cons 0 (step_of [] rfl (by kernel_rfl) ?s0) (.nil)))))))))))) ?done
 case hR => exact (Below.refl _ _).drew
 case mono => exact GS_mono
 case s0 =>
  intro x w' hRw hd K' hK
  simp only [All, GS] at hd
  simp +decide only [upd, GS, fillL, if_true, if_false] at hK ⊢
  go_simp
  have hK2 := hK _ _ ⟨hRw, Below.refl _ _, rfl⟩
  exact hK2
 case s1 =>
  intro x w' hRw hd K' hK
  simp only [All, GS] at hd
  have tp4 := (hRw.cell (cell_lt p4)).trans p4
  simp +decide only [upd, GS, fillL, if_true, if_false] at hK ⊢
  try simp only [hd.1] at hK ⊢
  go_simp
  have hK2 := hK _ _ ⟨hRw, Below.refl _ _, rfl⟩
  exact hK2
 case s2 =>
  intro x w' hRw hd K' hK
  simp only [All, GS] at hd
  simp +decide only [upd, GS, fillL, if_true, if_false] at hK ⊢
  go_simp
  have hK2 := hK _ _ ⟨hRw, Below.refl _ _, rfl⟩
  exact hK2
 case s3 =>
  intro x w' hRw hd K' hK
  simp only [All, GS] at hd
  have ty0 := (hRw.cell (cell_lt y0)).trans y0
  simp +decide only [upd, GS, fillL, if_true, if_false] at hK ⊢
  try simp only [hd.1] at hK ⊢
  go_simp
  have hK2 := hK _ _ ⟨hRw, Below.refl _ _, rfl⟩
  exact hK2
 case s4 =>
  intro x w' hRw hd K' hK
  simp only [All, GS] at hd
  simp +decide only [upd, GS, fillL, if_true, if_false] at hK ⊢
  go_simp
  have hK2 := hK _ _ ⟨hRw, Below.refl _ _, rfl⟩
  exact hK2
 case s5 =>
  intro x w' hRw hd K' hK
  simp only [All, GS] at hd
  have ty1 := (hRw.cell (cell_lt y1)).trans y1
  have ty2 := (hRw.cell (cell_lt y2)).trans y2
  have ty3 := (hRw.cell (cell_lt y3)).trans y3
  have ty4 := (hRw.cell (cell_lt y4)).trans y4
  have ty5 := (hRw.cell (cell_lt y5)).trans y5
  simp +decide only [upd, GS, fillL, if_true, if_false] at hK ⊢
  try simp only [hd.1] at hK ⊢
  go_simp
  have hK2 := hK _ _ ⟨hRw, Below.refl _ _, rfl⟩
  exact hK2
 case s6 =>
  intro x w' hRw hd K' hK
  simp only [All, GS] at hd
  simp +decide only [upd, GS, fillL, if_true, if_false] at hK ⊢
  try simp only [hd.1, hd.2.1] at hK ⊢
  go_simp
  refine (ck.out w' (bthen hD6.out hRw)).mono ?_
  rintro e' w2 ⟨us, rfl, hI6, hB6⟩
  have hK2 := hK _ _ ⟨bthen hRw hB6, hB6, us, w'.heap.size, w2.heap.size, rfl, hRw.size, hI6⟩
  exact hK2
 case s7 =>
  intro x w' hRw hd K' hK
  simp only [All, GS] at hd
  simp +decide only [upd, GS, fillL, if_true, if_false] at hK ⊢
  go_simp
  have hK2 := hK _ _ ⟨hRw, Below.refl _ _, rfl⟩
  exact hK2
 case s8 =>
  intro x w' hRw hd K' hK
  simp only [All, GS] at hd
  simp +decide only [upd, GS, fillL, if_true, if_false] at hK ⊢
  try simp only [hd.1] at hK ⊢
  go_simp
  have hK2 := hK _ _ ⟨hRw, Below.refl _ _, rfl⟩
  exact hK2
 case s9 =>
  intro x w' hRw hd K' hK
  simp only [All, GS] at hd
  have ty1 := (hRw.cell (cell_lt y1)).trans y1
  simp +decide only [upd, GS, fillL, if_true, if_false] at hK ⊢
  try simp only [hd.1] at hK ⊢
  go_simp
  have hK2 := hK _ _ ⟨hRw, Below.refl _ _, rfl⟩
  exact hK2
 case s10 =>
  intro x w' hRw hd K' hK
  simp only [All, GS] at hd
  simp +decide only [upd, GS, fillL, if_true, if_false] at hK ⊢
  try simp only [hd.1] at hK ⊢
  go_simp
  have hK2 := hK _ _ ⟨hRw, Below.refl _ _, rfl⟩
  exact hK2
 case done =>
  intro x w7 hR2' hG fr hfr
  have a1 := hG 1 (by omega)
  have a6 := hG 6 (by omega)
  have a10 := hG 10 (by omega)
  simp only [GS] at a1 a6 a10
  clear hG
  obtain ⟨us6, lo6, hi6, a6, hlo6, hI6⟩ := a6
  obtain ⟨xn', G1, G2, G3, gn1, gc1, gn2, gc2, gn3, gc3, hx6'⟩ := ob_five2 hI6.ob
  rw [hX2.out] at hx6'
  subst hx6'
  simp only [fillL] at hfr
  rw [a1, a6, a10] at hfr
  subst hfr
  clear a1 a6 a10
  have hD7 : Below W2.heap.size W2 w7 := bthen hD6.out hR2'
  have hD37 : Below w3.heap.size w3 w7 := bthen hb4.out (bthen hB5.out (bthen hb6.out hR2'))
  have c72 := srt_en w7 AD gD oD cD d vd KB X _ _ _ _ _ (by omega) q1.out q2.out (fun i hi => (obI_below (q3.out i hi) hD37).ob) (fun i hi => ⟨(q4.out i hi).1, (hD37.cell (cell_lt (q4.out i hi).2)).trans (q4.out i hi).2⟩)
   (fun i hi j hj => by
    have h9 := q5.out i hi j hj
    obtain ⟨u, hu⟩ : ∃ u, (vd i)[j]? = some u := ⟨_, List.getElem?_eq_getElem (by rw [((q3.out i hi).ob).five]; exact hj)⟩
    rw [hu] at h9 ⊢
    exact (hD37.cell (cell_lt h9)).trans h9) hI6.ob hno.out
  rw [← hm.out] at c72
  have hPb : Blk w7 w3.heap.size 26 #[.int .i64 k, .int .i64 n, .slice A' lb c', .slice AL' ll cL', .slice AD m cD] := hP4.out.below (bthen hB5.out (bthen hb6.out hR2')) (by omega)
  have z37 := hD37.size
  have z67 := hR2'.size
  replace hPb := hi_ hPb
  replace hD7 := hi_ hD7
  replace hD37 := hi_ hD37
  replace hR2' := hi_ hR2'
  replace hI6 := hi_ hI6
  clear p0 p1 p2 p3 p4 y0 y1 y2 y3 y4 y5
  go_wp2_with (first
   | (go_at_call 72; (with_reducible refine c72.mono ?_); rintro e' w8 ⟨v8, rfl, hO8, hB8⟩; obtain ⟨A8, cc8, hv8⟩ := own_slice hO8; subst hv8; have hPb8 := hPb.out.below hB8 (by omega); have p0 := hPb8.cell 0; have p1 := hPb8.cell 1; have p2 := hPb8.cell 2; have p3 := hPb8.cell 3; have p4 := hPb8.cell 4; have v4 := hPb8.frozen 4; have z8 := hB8.size; replace hPb8 := hi_ hPb8; replace hB8 := hi_ hB8; replace hO8 := hi_ hO8; clear c72))
  obtain ⟨W9, hW9⟩ : ∃ W, W = w8.setCell ⟨w3.heap.size, 4, none⟩ (.slice A8 (m + 1) cc8) := ⟨_, rfl⟩
  rw [← hW9]
  have hPb9 : Blk W9 w3.heap.size 26 #[.int .i64 k, .int .i64 n, .slice A' lb c', .slice AL' ll cL', .slice A8 (m + 1) cc8] := by rw [hW9]; exact hPb8.out.set_ 4 _
  have hRb9 : Blk W9 (w.heap.size + 1) 26 #[.int .i64 0, .int .i64 0, .slice none 0 0, .slice none 0 0, .slice none 0 0] := by rw [hW9]; exact (hR2.out.below (bthen hD7.out hB8.out) (by omega)).far (by show _ ≠ w3.heap.size; omega) _
  clear p0 p1 p2 p3 p4 v4
  have p0 := hPb9.cell 0
  have p1 := hPb9.cell 1
  have p2 := hPb9.cell 2
  have p3 := hPb9.cell 3
  have p4 := hPb9.cell 4
  have r0 := hRb9.cell 0
  have r1 := hRb9.cell 1
  have r2 := hRb9.cell 2
  have r3 := hRb9.cell 3
  have r4 := hRb9.cell 4
  have v0 := hRb9.frozen 0
  have v1 := hRb9.frozen 1
  have v2 := hRb9.frozen 2
  have v3 := hRb9.frozen 3
  have v4 := hRb9.frozen 4
  replace hRb9 := hi_ hRb9
  replace hPb9 := hi_ hPb9
  replace hW9 := hi_ hW9
  rw [rounds_succ]
  go_wp2
  obtain ⟨Wf, hWf⟩ : ∃ W, W = ((((W9.setCell ⟨w.heap.size + 1, 0, none⟩ (.int .i64 k)).setCell ⟨w.heap.size + 1, 1, none⟩ (.int .i64 n)).setCell ⟨w.heap.size + 1, 2, none⟩ (.slice A' lb c')).setCell ⟨w.heap.size + 1, 3, none⟩ (.slice AL' ll cL')).setCell ⟨w.heap.size + 1, 4, none⟩ (.slice A8 (m + 1) cc8) := ⟨_, rfl⟩
  rw [← hWf]
  obtain ⟨hbf, hgf, hzf⟩ := set_five hRb9.out hWf
  have u0 := hbf.cell 0
  have u1 := hbf.cell 1
  have u2 := hbf.cell 2
  have u3 := hbf.cell 3
  have u4 := hbf.cell 4
  have hz9 : W9.heap.size = w8.heap.size := by rw [hW9.out]; simp [World.setCell]
  have keepf : ∀ q, W2.heap.size ≤ q → q < w8.heap.size → q ≠ w3.heap.size → Wf.heap[q]? = w8.heap[q]? := fun q h1 h2 h3 => by
   rw [hgf.block q (by omega) (fun e => by injection e with e; omega), hW9.out]
   exact Below.heap_setCell _ _ _ _ h3
  have hBf : Below w.heap.size w Wf := by
   have hB9 : Below w.heap.size w W9 := by rw [hW9.out]; exact (bthen hb2.out (bthen hD7.out hB8.out)).grown (set_grown _ _ _ _) (by omega) (fun q hq => by injection hq with hq; omega)
   exact hB9.grown hgf (by omega) (fun q hq => by injection hq with hq; omega)
  have hobf : ObI w.heap.size Wf.heap.size Wf (.mk k n b l (insE KB.data.toList X d)) [.int .i64 k, .int .i64 n, .slice A' lb c', .slice AL' ll cL', .slice A8 (m + 1) cc8] := by
   have hD38 := bthen hD37.out hB8.out
   refine ⟨Nat.le_refl _, fun Wg hk hs => ?_⟩
   have kg : ∀ q, W2.heap.size ≤ q → q < w8.heap.size → q ≠ w3.heap.size → Wg.heap[q]? = w8.heap[q]? := fun q h1 h2 h3 => (hk q (by omega) (by omega)).trans (keepf q h1 h2 h3)
   refine ob_put (B := w7.heap.size) (hI.out.keep (fun q h1 h2 => (kg q h1 (by omega) (by omega)).trans (hD38.block q (by omega))) (by omega)).ob (fun i hi => ((q3.out i hi).keep (fun q h1 h2 => (kg q h1 (by omega) (by omega)).trans (hD38.block q (by omega))) (by omega)).ob) (fun i hi => (q4.out i hi).1) hKl.out (hI6.out.keep (fun q h1 h2 => ?_) ?_).ob ?_
   ·have h6 := hI6.out.1
    exact (kg q (by omega) (by omega) (by omega)).trans (hB8.out.block q (by omega))
   ·have h6 := hI6.out.1
    omega
   ·have h9 := own_far hO8.out (w' := Wg) (fun q h1 h2 => kg q (by omega) h2 (by omega))
    rw [hm.out] at h9 ⊢
    exact h9
  clear hbf hgf keepf
  replace hWf := hi_ hWf
  exact bodyPost_ret (by simp [results, Tryz.results43, go_sem, u0, u1, u2, u3, u4]; try rfl) rfl ⟨[.int .i64 k, .int .i64 n, .slice A' lb c', .slice AL' ll cL', .slice A8 (m + 1) cc8], rfl, hobf, hBf⟩
end Go.Proofs.YthacnnmlephkhaaGreatDoor

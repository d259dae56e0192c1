/- Walks and laws, joined: part I. No condition. -/
import Derived.Test.YthacnnmlephkhaaGreatDoorPrJH
import Derived.Test.YthacnnmlephkhaaGreatDoorPrJD
import Derived.Test.YthacnnmlephkhaaGreatDoorPrJA
import Derived.Test.YthacnnmlephkhaaGreatDoorPrJE
set_option linter.unusedSimpArgs false
set_option linter.unusedVariables false
/- Objects put together by the document: Arr, Dict. No condition. -/
namespace Go.Proofs.YthacnnmlephkhaaGreatDoor
open Go Go.RowKit Go.Wk Go.Rd
def GLa (W5s g : Nat) (vL : Value) (gL oL m cL i : Nat) (ag : Array Value) (o : Ob) : Nat → Value → World → Prop := fun j v w => match j with
 | 0 => v = .pointer (some ⟨g, 3, none⟩)
 | 1 => v = vL
 | 2 => v = .slice (some ⟨gL, oL, none⟩) m cL
 | 3 => v = .int .i64 (i : Int)
 | 4 => v = .pointer (some ⟨gL, oL + i * 5, none⟩)
 | 5 => v = .agg ag
 | 6 => ∃ us hi, v = .agg (List.toArray us) ∧ ObI W5s hi w o us
 | _ => ∃ q us hi, v = .slice (some ⟨q, 0, none⟩) 1 1 ∧ ObI W5s hi w o us ∧ ∀ j u, us[j]? = some u → w.cell? ⟨q, j, none⟩ = some u
theorem GLa_mono {W5s g : Nat} {vL : Value} {gL oL m cL i : Nat} {ag : Array Value} {o : Ob} (j : Nat) (v : Value) (w w' : World) (hG : GLa W5s g vL gL oL m cL i ag o j v w) (hk : Below w.heap.size w w') : GLa W5s g vL gL oL m cL i ag o j v w' := by
 unfold GLa at hG ⊢
 split at hG <;> first
  | exact hG
  | (obtain ⟨us, hi, e, h⟩ := hG; exact ⟨us, hi, e, obI_below h hk⟩)
  | (obtain ⟨q, us, hi, e, h, hc⟩ := hG; exact ⟨q, us, hi, e, obI_below h hk, fun j u hu => (hk.cell (cell_lt (hc j u hu))).trans (hc j u hu)⟩)
set_option maxHeartbeats 8000000 in
set_option maxRecDepth 100000 in
theorem ref_ArrC (c : Nat) (l : List Ob) (gL oL m : Nat) (hm : m = l.length) (vl : Nat → List Value) (w : World) (hn : m ≤ 1000) (hc : m ≤ c)
 (hl : ∀ i, (hi : i < l.length) → ObAt w l[i] (vl i) ∧ l[i].bulk ≤ 1048576) (hlv : ∀ i, i < l.length → ∀ j, j < 5 → w.cell? ⟨gL, oL + (5 * i + j), none⟩ = (vl i)[j]?) :
 Calls Tryz.prog 26 #[.slice (some ⟨gL, oL, none⟩) m c] w fun e w' => ∃ us, e = .returned (.agg (List.toArray us)) ∧ ObI w.heap.size w'.heap.size w' (.mk 6 0 [] l []) us ∧ Below w.heap.size w w' := by
 obtain ⟨W1, hW1⟩ : ∃ W, W = (w.alloc (.cells #[.int .i64 0, .int .i64 0, .slice none 0 0, .slice none 0 0, .slice none 0 0] 26)).alloc (.cells #[.int .i64 6, .int .i64 0, .slice none 0 0, .slice none 0 0, .slice none 0 0] 26) := ⟨_, rfl⟩
 have b1 : Below w.heap.size w W1 := by rw [hW1]; exact ((Below.refl _ _).alloc (Nat.le_refl _) _).alloc (by rw [World.size_alloc]; omega) _
 have z1 : W1.heap.size = w.heap.size + 2 := by rw [hW1, World.size_alloc, World.size_alloc]
 have hR1 : Blk W1 w.heap.size 26 #[.int .i64 0, .int .i64 0, .slice none 0 0, .slice none 0 0, .slice none 0 0] := by rw [hW1]; exact (Blk.new w _ _).alloc _
 have hO1 : Blk W1 (w.heap.size + 1) 26 #[.int .i64 6, .int .i64 0, .slice none 0 0, .slice none 0 0, .slice none 0 0] := by
  rw [hW1, show w.heap.size + 1 = (w.alloc (.cells #[.int .i64 0, .int .i64 0, .slice none 0 0, .slice none 0 0, .slice none 0 0] 26)).heap.size from (World.size_alloc _ _).symm]; exact Blk.new _ _ _
 have hL0 : CpL W1 (w.heap.size + 1) (w.heap.size + 2) (w.heap.size + 1) 6 0 (.slice none 0 0) [] W1 (.slice none 0 0) [] [] :=
  ⟨hO1, Own.nil _ _, (fun q hq => by simp [Value.ownBlock] at hq), RowG.nil _ _ _ _ _, (Below.refl _ _), by omega, by omega, by omega⟩
 replace b1 := hi_ b1
 replace hR1 := hi_ hR1
 replace hL0 := hi_ hL0
 replace hl := hi_ hl
 replace hlv := hi_ hlv
 replace hm := hi_ hm
 clear hO1
 go_enter Tryz.func26, Tryz.ntmps26
 go_upto_region 2 with (fail)
 rw [← hW1]
 replace hW1 := hi_ hW1
 go_wp2
 go_loopw [4] (fun s4 wr => ∃ (i : Nat) (vL : Value) (rl : List (List Value)), i ≤ m ∧ s4 = .int .i64 i ∧ CpL W1 (w.heap.size + 1) (w.heap.size + 2) (w.heap.size + 1) 6 0 (.slice none 0 0) [] wr vL (l.take i) rl) (fun s4 _ => m - (RowKit.intOf s4).toNat)
 case atStart => exact ⟨0, _, _, by omega, rfl, hL0.out⟩
 case round =>
  obtain ⟨i, vL, rl, hi, rfl, hL⟩ := hrel
  have hbelow := hL.below
  by_cases him : i < m
  ·have hil : i < l.length := by rw [← hm.out]; exact him
   have hbw : Below w.heap.size w wr := b1.out.trans (hL.below.mono (by omega))
   obtain ⟨o, ho⟩ : ∃ o, o = l[i] := ⟨_, rfl⟩
   have hob := (hl.out i hil).1.kept hbw
   have hzo := (hl.out i hil).2
   have hcv := hlv.out i hil
   rw [← ho] at hob hzo
   obtain ⟨us0, hus0⟩ : ∃ us, us = vl i := ⟨_, rfl⟩
   rw [← hus0] at hob hcv
   obtain ⟨en, E1, E2, E3, en1, ec1, en2, ec2, en3, ec3, hys⟩ := ob_five2 hob
   obtain ⟨kk, hkk⟩ : ∃ k, k = o.kind := ⟨_, rfl⟩
   rw [← hkk] at hys
   subst hys
   have five : ∀ j u, [Value.int .i64 kk, .int .i64 en, .slice E1 en1 ec1, .slice E2 en2 ec2, .slice E3 en3 ec3][j]? = some u → wr.cell? ⟨gL, oL + i * 5 + j, none⟩ = some u := fun j u hj => by
    have h0 := hcv j (by have := (List.getElem?_eq_some_iff.1 hj).1; simpa using this)
    rw [hj] at h0
    have h1 := (hbw.cell (cell_lt h0)).trans h0
    rw [show oL + (5 * i + j) = oL + i * 5 + j by omega] at h1
    exact h1
   have x0 : wr.cell? ⟨gL, oL + i * 5, none⟩ = some (.int .i64 kk) := five 0 _ rfl
   have x1 : wr.cell? ⟨gL, oL + i * 5 + 1, none⟩ = some (.int .i64 en) := five 1 _ rfl
   have x2 : wr.cell? ⟨gL, oL + i * 5 + 2, none⟩ = some (.slice E1 en1 ec1) := five 2 _ rfl
   have x3 : wr.cell? ⟨gL, oL + i * 5 + 3, none⟩ = some (.slice E2 en2 ec2) := five 3 _ rfl
   have x4 : wr.cell? ⟨gL, oL + i * 5 + 4, none⟩ = some (.slice E3 en3 ec3) := five 4 _ rfl
   have c51 := fun W (hW : Below wr.heap.size wr W) => rcopy_all 1048576 (by omega) o _ W (hob.kept hW) hzo
   have hT : l.take (i + 1) = l.take i ++ [o] := by rw [List.take_succ_eq_append_getElem hil, ho]
   have hzl : (l.take i).length ≤ 1000000000 := by rw [List.length_take]; omega
   have z5 : w.heap.size + 2 ≤ wr.heap.size := hL.hs
   have xx := fun W (hW : Below wr.heap.size wr W) => And.intro ((hW.cell (cell_lt x0)).trans x0) (And.intro ((hW.cell (cell_lt x1)).trans x1) (And.intro ((hW.cell (cell_lt x2)).trans x2) (And.intro ((hW.cell (cell_lt x3)).trans x3) ((hW.cell (cell_lt x4)).trans x4))))
   clear five hcv hob hus0 x0 x1 x2 x3 x4 hbelow
   replace c51 := hi_ c51
   replace xx := hi_ xx
   replace hL := hi_ hL
   replace ho := hi_ ho
   replace hkk := hi_ hkk
   replace hT := hi_ hT
   replace hbw := hi_ hbw
   replace hzl := hi_ hzl
   replace hzo := hi_ hzo
   go_upto_region 5 with (fail)
   refine wp_lin_tail (by kernel_rfl) [none, none, none, none, none, none, none, none, none, none, none, none, some 0, some 1, some 2, some 3, some 4, some 5, some 6, some 7, none, none, none] (fun w' => Below wr.heap.size wr w') (fun w' w'' => Below w'.heap.size w' w'') (GLa wr.heap.size (w.heap.size + 1) vL gL oL m c i #[.int .i64 kk, .int .i64 en, .slice E1 en1 ec1, .slice E2 en2 ec2, .slice E3 en3 ec3] o) (by rfl) (by kernel_rfl) 8 _ rfl (by decide) (by kernel_rfl) [1, 8, 4, 4, 5, 6, 7, 8] (by kernel_rfl) ?ahR ?amono (.cons 7 (step_of [6] rfl (by kernel_rfl) ?a7) (.cons 6 (step_of [5] rfl (by kernel_rfl) ?a6) (.cons 5 (step_of [4] rfl (by kernel_rfl) ?a5) (.cons 4 (step_of [2, 3] rfl (by kernel_rfl) ?a4) (.cons 3 (step_of [] rfl (by kernel_rfl) ?a3) (.cons 2 (step_of [] rfl (by kernel_rfl) ?a2) (.cons 1 (step_of [0] rfl (by kernel_rfl) ?a1) (.cons 0 (step_of [] rfl (by kernel_rfl) ?a0) (.nil))))))))) ?adone
   case ahR => exact (Below.refl _ _).drew
   case amono => exact GLa_mono
   case a0 =>
    intro x w' hRw hd K9 hK
    simp only [All, GLa] at hd
    simp +decide only [upd, GLa, fillL, if_true, if_false] at hK ⊢
    go_simp
    have hK2 := hK _ _ ⟨hRw, Below.refl _ _, rfl⟩
    exact hK2
   case a1 =>
    intro x w' hRw hd K9 hK
    simp only [All, GLa] at hd
    obtain ⟨e0, _⟩ := hd
    simp +decide only [upd, GLa, fillL, if_true, if_false] at hK ⊢
    have hcc := (hL.out.step hRw).blk.cell 3
    simp only [e0] at hK ⊢
    go_simp
    have hK2 := hK _ _ ⟨hRw, Below.refl _ _, rfl⟩
    exact hK2
   case a2 =>
    intro x w' hRw hd K9 hK
    simp only [All, GLa] at hd
    simp +decide only [upd, GLa, fillL, if_true, if_false] at hK ⊢
    go_simp
    have hK2 := hK _ _ ⟨hRw, Below.refl _ _, rfl⟩
    exact hK2
   case a3 =>
    intro x w' hRw hd K9 hK
    simp only [All, GLa] at hd
    simp +decide only [upd, GLa, fillL, if_true, if_false] at hK ⊢
    go_simp
    have hK2 := hK _ _ ⟨hRw, Below.refl _ _, rfl⟩
    exact hK2
   case a4 =>
    intro x w' hRw hd K9 hK
    simp only [All, GLa] at hd
    obtain ⟨e3, e4, _⟩ := hd
    simp +decide only [upd, GLa, fillL, if_true, if_false] at hK ⊢
    simp only [e3, e4] at hK ⊢
    go_simp
    have hK2 := hK _ _ ⟨hRw, Below.refl _ _, rfl⟩
    exact hK2
   case a5 =>
    intro x w' hRw hd K9 hK
    simp only [All, GLa] at hd
    obtain ⟨e5, _⟩ := hd
    simp +decide only [upd, GLa, fillL, if_true, if_false] at hK ⊢
    obtain ⟨y0, y1, y2, y3, y4⟩ := xx.out w' hRw
    simp only [e5] at hK ⊢
    go_simp
    have hK2 := hK _ _ ⟨hRw, Below.refl _ _, rfl⟩
    exact hK2
   case a6 =>
    intro x w' hRw hd K9 hK
    simp only [All, GLa] at hd
    obtain ⟨e6, _⟩ := hd
    simp +decide only [upd, GLa, fillL, if_true, if_false] at hK ⊢
    simp only [e6] at hK ⊢
    go_simp
    refine (c51.out w' hRw).mono ?_
    rintro e' w2 ⟨us, rfl, hI, hB9⟩
    have hI2 : ObI wr.heap.size w2.heap.size w2 o us := hI.wide hRw.size
    have hK2 := hK _ _ ⟨bthen hRw hB9, hB9, us, _, rfl, hI2⟩
    exact hK2
   case a7 =>
    intro x w' hRw hd K9 hK
    simp only [All, GLa] at hd
    obtain ⟨⟨us, hi9, e7, hI⟩, _⟩ := hd
    simp +decide only [upd, GLa, fillL, if_true, if_false] at hK ⊢
    obtain ⟨en', E1', E2', E3', en1', ec1', en2', ec2', en3', ec3', hys'⟩ := ob_five2 hI.ob
    rw [← hkk.out] at hys'
    subst hys'
    simp only [e7] at hK ⊢
    go_simp
    have hba : Below w'.heap.size w' (w'.alloc (.cells #[.int .i64 kk, .int .i64 en', .slice E1' en1' ec1', .slice E2' en2' ec2', .slice E3' en3' ec3'] 26)) := (Below.refl _ _).alloc (Nat.le_refl _) _
    have hK2 := hK _ _ ⟨bthen hRw hba, hba, _, _, _, rfl, obI_below hI hba, new_cells w' _ 26⟩
    exact hK2
   case adone =>
    intro x w4 hR2 hG fr hfr
    have e1 := hG 1 (by omega)
    have e4 := hG 7 (by omega)
    simp only [GLa] at e1 e4
    clear hG
    obtain ⟨q, us, hi9, e4, hI, hcs⟩ := e4
    simp only [fillL] at hfr
    rw [e1, e4] at hfr
    have hL6 := hL.out.step hR2
    have hz6 := hL6.hs
    subst hfr
    refine app_ob rfl _ _ rfl (w.heap.size + 2) _ _ _ rfl hL6.row q wr.heap.size hi9 o us rfl hI z5 (fun q hq => .inl (hL.out.row.row.lt q hq).2) hcs hzl.out hz6 ?_
    intro v' w5 hR3 hg3 hat3
    obtain ⟨A', n', cc', rfl⟩ : ∃ A' n' c', v' = .slice A' n' c' := by obtain ⟨A', cc', g', hv', _⟩ := hR3.out ob_law (by omega); exact ⟨_, _, _, hv'⟩
    obtain ⟨hbk3, hL8⟩ := hL6.put hR3 hg3
    have c3' := hbk3.cell 3
    have q3' := hbk3.frozen 3
    replace hL8 := hi_ hL8
    clear hR3 hg3 hat3 hbk3 hL6 hI hcs e1 e4 hz6 hR2
    go_wp2
    go_roundw
    case rel => exact ⟨i + 1, _, _, by omega, by go_num, by rw [hT.out]; exact hL8.out⟩
    case measure => simp [RowKit.intOf]; omega
  ·obtain rfl : i = m := by omega
   have hT : l.take i = l := by rw [hm.out, List.take_length]
   rw [hT] at hL
   obtain ⟨A3, n3, c3, rfl⟩ : ∃ A' n' c', vL = .slice A' n' c' := by obtain ⟨A', cc', g', hv', _⟩ := hL.row.out ob_law (by omega); exact ⟨_, _, _, hv'⟩
   have hR := hR1.out.below hL.below (by omega)
   have t0 := hL.blk.cell 0
   have t1 := hL.blk.cell 1
   have t2 := hL.blk.cell 2
   have t3 := hL.blk.cell 3
   have t4 := hL.blk.cell 4
   have v0 := hR.frozen 0
   have v1 := hR.frozen 1
   have v2 := hR.frozen 2
   have v3 := hR.frozen 3
   have v4 := hR.frozen 4
   have r0 := hR.cell 0
   have r1 := hR.cell 1
   have r2 := hR.cell 2
   have r3 := hR.cell 3
   have r4 := hR.cell 4
   have hs := hL.hs
   replace hL := hi_ hL
   replace hT := hi_ hT
   replace hR := hi_ hR
   replace hbelow := hi_ hbelow
   go_wp2
   obtain ⟨Wf, hWf⟩ : ∃ W, W = ((((wr.setCell ⟨w.heap.size, 0, none⟩ (.int .i64 6)).setCell ⟨w.heap.size, 1, none⟩ (.int .i64 0)).setCell ⟨w.heap.size, 2, none⟩ (.slice none 0 0)).setCell ⟨w.heap.size, 3, none⟩ (.slice A3 n3 c3)).setCell ⟨w.heap.size, 4, none⟩ (.slice none 0 0) := ⟨_, rfl⟩
   rw [← hWf]
   have hI : ObI (w.heap.size + 1) wr.heap.size wr (.mk 6 0 [] l []) [.int .i64 6, .int .i64 0, .slice none 0 0, .slice A3 n3 c3, .slice none 0 0] :=
    built (tO := 26) (tE := 53) (tb := 5) (by omega) (by omega) (by omega) (by omega) (Own.nil _ _).row (by simp [maxLen]) (RowG.base (B' := w.heap.size + 1) hL.out.row (by omega)) (RowG.nil _ _ _ _ _)
   obtain ⟨hbf, hIf, hgf, hz⟩ := put_res (lo := w.heap.size + 1) (hi := wr.heap.size) hR.out hI (by omega) hWf
   have u0 := hbf.cell 0
   have u1 := hbf.cell 1
   have u2 := hbf.cell 2
   have u3 := hbf.cell 3
   have u4 := hbf.cell 4
   have hbw : Below w.heap.size w wr := b1.out.trans (hbelow.out.mono (by omega))
   have hB : Below w.heap.size w Wf := hbw.grown hgf (by omega) (fun q hq => by injection hq with hq; omega)
   replace hB := hi_ hB
   replace hIf := hi_ (hIf.wide (show w.heap.size ≤ w.heap.size + 1 by omega))
   clear hbf hgf hbw hI
   replace hWf := hi_ hWf
   exact bodyPost_ret (by simp [results, Tryz.results26, go_sem, u0, u1, u2, u3, u4]; try rfl) rfl ⟨_, rfl, hIf.out, hB.out⟩
end Go.Proofs.YthacnnmlephkhaaGreatDoor

/- Reading, plain: what is read is no longer than its bytes. No condition. -/
namespace Go.Rd
open Go Go.Wk Go.Fx
theorem blank_len : ∀ (b : Bool) (r : Bs), (blankM b r).length ≤ r.length
 | true, [] => Nat.le_refl _
 | false, [] => Nat.le_refl _
 | true, c :: r => by
  have h1 := blank_len false r
  have h2 := blank_len true r
  rw [blankM]; split <;> simp only [List.length_cons] <;> omega
 | false, c :: r => by
  have h1 := blank_len false r
  have h2 := blank_len true r
  rw [blankM]
  split
  ·simp only [List.length_cons]; omega
  ·split <;> simp only [List.length_cons] <;> omega
theorem name_cut : ∀ (f : Nat) (out r b u : Bs), nameS f out r = .ok b u → b.length + u.length ≤ out.length + r.length
 | 0, out, r, b, u, h => by rw [nameS] at h; cases h
 | f + 1, out, [], b, u, h => by rw [nameS] at h; cases h; simp
 | f + 1, out, x :: t, b, u, h => by
  rw [nameS] at h
  repeat' split at h
  all_goals first
   | (cases h; done)
   | (cases h; simp; done)
   | (have := name_cut _ _ _ _ _ h; simp only [List.length_append, List.length_cons, List.length_nil, List.length_drop] at this ⊢; omega)
theorem eol_cut (x : UInt8) (t : Bs) : (eolS x t).length ≤ t.length := by unfold eolS; split <;> simp
theorem oct_cut : ∀ (k n : Nat) (r : Bs), (octS k n r).2.length ≤ r.length
 | 0, n, r => Nat.le_refl _
 | k + 1, n, [] => Nat.le_refl _
 | k + 1, n, c :: r => by
  rw [octS]
  split
  ·have := oct_cut k (8 * n + (c.toNat - 48)) r
   simp only [List.length_cons]; omega
  ·exact Nat.le_refl _
theorem esc_cut (d : UInt8) (t : Bs) : (escS d t).2.length ≤ t.length := by
 unfold escS
 split
 ·exact eol_cut d t
 split
 ·exact oct_cut _ _ _
 ·exact Nat.le_refl _
theorem text_cut : ∀ (f op : Nat) (out r b u : Bs), textS f op out r = .ok b u → b.length + u.length ≤ out.length + r.length
 | 0, op, out, r, b, u, h => by rw [textS] at h; cases h
 | f + 1, op, out, [], b, u, h => by rw [textS] at h; cases h
 | f + 1, op, out, x :: t, b, u, h => by
  rw [textS.eq_def] at h
  simp only [] at h
  split at h
  ·split at h
   ·cases h
   ·rename_i d v
    have he := esc_cut d v
    cases hE : escS d v with
    | mk o w =>
     rw [hE] at h he
     cases o with
     | none => have := text_cut _ _ _ _ _ _ h; simp only [List.length_cons] at this he ⊢; omega
     | some y =>
      simp only [] at h
      split at h
      ·cases h
      ·have := text_cut _ _ _ _ _ _ h
       simp only [List.length_append, List.length_cons, List.length_nil] at this he ⊢
       omega
  ·split at h
   ·cases h; simp
   ·split at h
    ·cases h
    ·split at h
     ·have := text_cut _ _ _ _ _ _ h
      have h9 := eol_cut x t
      simp only [List.length_append, List.length_cons, List.length_nil] at this ⊢
      omega
     ·have := text_cut _ _ _ _ _ _ h
      simp only [List.length_append, List.length_cons, List.length_nil] at this ⊢
      omega
theorem hex_cut : ∀ (f : Nat) (g : Int) (out r b u : Bs), hexR f g out r = .ok b u → b.length + u.length ≤ out.length + r.length
 | 0, g, out, r, b, u, h => by rw [hexR] at h; cases h
 | f + 1, g, out, [], b, u, h => by rw [hexR] at h; cases h
 | f + 1, g, out, x :: t, b, u, h => by
  rw [hexR] at h
  repeat' split at h
  all_goals first
   | (cases h; done)
   | (cases h; simp; done)
   | (cases h; simp only [List.length_append, List.length_cons, List.length_nil]; omega)
   | (have := hex_cut _ _ _ _ _ _ h; simp only [List.length_append, List.length_cons, List.length_nil] at this ⊢; omega)
theorem num_reg {c : UInt8} (h : numC c = true) : regB c = true := by
 unfold numC at h
 simp only [Bool.or_eq_true, beq_iff_eq] at h
 rcases h with ((h | h) | h) | h
 ·rw [h]; decide
 ·rw [h]; decide
 ·rw [h]; decide
 ·exact (dig_ok (by unfold isD; exact h)).1
theorem run_pos {c : UInt8} {t : Bs} (h : regB c = true) : 1 ≤ (runS (c :: t)).length ∧ (runS (c :: t)).length ≤ (c :: t).length := by
 refine ⟨?_, (List.takeWhile_prefix (p := regB) (l := c :: t)).length_le⟩
 unfold runS
 rw [List.takeWhile_cons, if_pos h]; simp
def tokW (k : Tok) : Nat := if k.k = 0 then 0 else if k.k = 9 then 1 else k.b.length + 1
theorem tokA_len : ∀ {r u : Bs} {k : Tok}, tokA r = .ok k u → tokW k + u.length ≤ r.length
 | [], u, k, h => by rw [tokA] at h; cases h; simp [tokW]
 | c :: t, u, k, h => by
  rw [tokA] at h
  have hw0 : ∀ n, tokW ⟨n, 0, []⟩ ≤ 1 := fun n => by unfold tokW; split <;> (try split) <;> simp
  have ht : ∀ n R, tokOf n (c :: t) R = .ok k u → (∀ b v, R = .ok b v → b.length + v.length ≤ t.length) → tokW k + u.length ≤ (c :: t).length := fun n R h hR => by
   cases R with
   | err e v => cases h
   | ok b w =>
    have hq := hR b w rfl
    simp only [tokOf] at h
    cases h
    have : tokW ⟨n, 0, b⟩ ≤ b.length + 1 := by unfold tokW; split <;> (try split) <;> simp
    simp only [List.length_cons]; omega
  split at h
  ·cases h; have := hw0 5; simp only [List.length_cons]; omega
  split at h
  ·cases h; have := hw0 6; simp only [List.length_cons]; omega
  split at h
  ·cases h; have := hw0 7; simp only [List.length_cons, List.length_drop]; omega
  split at h
  ·cases h; have := hw0 8; simp only [List.length_cons, List.length_drop]; omega
  split at h
  ·exact ht _ _ h fun b v e => by simpa using name_cut _ _ _ _ _ e
  split at h
  ·exact ht _ _ h fun b v e => by simpa using text_cut _ _ _ _ _ _ e
  split at h
  ·exact ht _ _ h fun b v e => by simpa using hex_cut _ _ _ _ _ _ e
  split at h
  ·rename_i hn
   have hp := run_pos (t := t) (num_reg hn)
   unfold numS at h
   split at h
   ·cases h
    have : ∀ n m, tokW ⟨n, m, []⟩ ≤ 1 := fun n m => by unfold tokW; split <;> (try split) <;> simp
    have := this (if (parseS (runS (c :: t))).2.1 = true then 1 else 2) (parseS (runS (c :: t))).1
    rw [List.length_drop]; omega
   ·cases h
  split at h
  ·rename_i hr
   have hp := run_pos (t := t) hr
   split at h
   ·cases h
   ·cases h
    have : tokW ⟨9, 0, runS (c :: t)⟩ = 1 := rfl
    rw [List.length_drop]; omega
  ·cases h
theorem tok_len {r u : Bs} {k : Tok} (h : tokS r = .ok k u) : tokW k + u.length ≤ r.length := by
 have h1 := tokA_len (show tokA (blankM false r) = .ok k u from h)
 have h2 := blank_len false r
 omega
theorem whole_len (pl : Bool) (n : Int) (r : Bs) : (wholeS pl n r).1.bulk = 1 ∧ (wholeS pl n r).2.length ≤ r.length := by
 have hb : ∀ k : Int, (Ob.mk k n [] [] []).bulk = 1 := fun k => by simp [Ob.bulk, bulkL, bulkD]
 unfold wholeS
 split
 ·cases ht : tokS r with
  | err e u => exact ⟨hb 2, Nat.le_refl _⟩
  | ok t u =>
   have h1 := tok_len ht
   simp only []
   split
   ·cases ht2 : tokS u with
    | err e v => exact ⟨hb 2, Nat.le_refl _⟩
    | ok s v =>
     have h2 := tok_len ht2
     simp only []
     split
     ·exact ⟨hb 9, by show v.length ≤ r.length; omega⟩
     ·exact ⟨hb 2, Nat.le_refl _⟩
   ·exact ⟨hb 2, Nat.le_refl _⟩
 ·exact ⟨hb 2, Nat.le_refl _⟩
theorem bulkL_app2 : ∀ (a b : List Ob), bulkL (a ++ b) = bulkL a + bulkL b
 | [], b => by simp [bulkL]
 | x :: a, b => by simp only [List.cons_append, bulkL, bulkL_app2 a b]; omega
theorem bulkD_app2 : ∀ (a b : List (Bs × Ob)), bulkD (a ++ b) = bulkD a + bulkD b
 | [], b => by simp [bulkD]
 | x :: a, b => by simp only [List.cons_append, bulkD, bulkD_app2 a b]; omega
theorem with_bulk (K : Bs) (X : Ob) : ∀ (d : List (Bs × Ob)) (pb : Bool), bulkD (withL K X pb d) ≤ bulkD d + (if pb then 0 else K.length + X.bulk + 1)
 | [], pb => by cases pb <;> simp [withL, bulkD]
 | e :: r, pb => by
  have h0 := with_bulk K X r (pb || !ltB e.1 K)
  have h1 : bulkD (if e.1 = K then ([] : List (Bs × Ob)) else [e]) ≤ e.1.length + e.2.bulk + 1 := by split <;> simp [bulkD]
  rw [withL, bulkD_app2, bulkD_app2, bulkD]
  generalize bulkD (if e.1 = K then ([] : List (Bs × Ob)) else [e]) = E at h1 ⊢
  obtain ⟨lt, hlt⟩ : ∃ b, b = ltB e.1 K := ⟨_, rfl⟩
  rw [← hlt] at h0 ⊢
  generalize bulkD (withL K X (pb || !lt) r) = G at h0 ⊢
  clear hlt
  cases pb <;> cases lt <;> simp only [Bool.not_true, Bool.not_false, Bool.and_true, Bool.and_false, Bool.or_true, Bool.or_false, Bool.false_eq_true, if_true, if_false, bulkD] at h0 ⊢ <;> omega
def Cut (val : Bs → Res Ob) : Prop := ∀ r o u, val r = .ok o u → o.bulk + u.length ≤ r.length
theorem arr_cut {val : Bs → Res Ob} (hv : Cut val) : ∀ (f : Nat) (acc : List Ob) (r : Bs) (l : List Ob) (u : Bs), arrS val f acc r = .ok l u → bulkL l + u.length + 1 ≤ bulkL acc + r.length
 | 0, acc, r, l, u, h => by rw [arrS] at h; cases h
 | f + 1, acc, r, l, u, h => by
  rw [arrS] at h
  cases ht : tokS r with
  | err e v => rw [ht] at h; cases h
  | ok k v =>
   have h1 := tok_len ht
   rw [ht] at h
   simp only [] at h
   split at h
   ·rename_i hk
    cases h
    have : 1 ≤ tokW k := by unfold tokW; rw [hk]; simp
    omega
   ·cases hV : val r with
    | err e v => rw [hV] at h; cases h
    | ok o v =>
     rw [hV] at h
     have h2 := hv r o v hV
     have h3 := arr_cut hv f _ v l u h
     rw [bulkL_app2] at h3
     simp only [bulkL] at h3
     omega
theorem dict_cut {val : Bs → Res Ob} (hv : Cut val) : ∀ (f : Nat) (keys : List Bs) (acc : List (Bs × Ob)) (r : Bs) (l : List (Bs × Ob)) (u : Bs), dictS val f keys acc r = .ok l u → bulkD l + u.length + 1 ≤ bulkD acc + r.length
 | 0, keys, acc, r, l, u, h => by rw [dictS] at h; cases h
 | f + 1, keys, acc, r, l, u, h => by
  rw [dictS] at h
  cases ht : tokS r with
  | err e v => rw [ht] at h; cases h
  | ok k v =>
   have h1 := tok_len ht
   rw [ht] at h
   simp only [] at h
   split at h
   ·rename_i hk
    cases h
    have : 1 ≤ tokW k := by unfold tokW; rw [hk]; simp
    omega
   split at h
   ·cases h
   split at h
   ·cases h
   rename_i hk4
   have hk4 : k.k = 4 := by simpa using hk4
   split at h
   ·cases h
   cases hV : val v with
   | err e v => rw [hV] at h; cases h
   | ok o v2 =>
    rw [hV] at h
    have h2 := hv v o v2 hV
    have h3 := dict_cut hv f _ _ v2 l u h
    have h4 := with_bulk k.b o acc (o.kind == 0)
    have h5 : tokW k = k.b.length + 1 := by unfold tokW; rw [hk4]; simp
    have h6 : bulkD (putE k.b o acc) ≤ bulkD acc + (k.b.length + o.bulk + 1) := by unfold putE; split at h4 <;> omega
    omega
theorem val_cut (pl : Bool) : ∀ d, Cut (valS pl d) := by
 intro d
 induction d using Nat.strongRecOn with
 | _ d IH =>
  intro r o u h
  rw [valS.eq_def] at h
  cases ht : tokS r with
  | err e v => rw [ht] at h; cases h
  | ok k v =>
   have h1 := tok_len ht
   have hb0 : ∀ (m n : Int) (b : Bs), (Ob.mk m n b [] []).bulk = b.length + 1 := fun m n b => by simp [Ob.bulk, bulkL, bulkD]
   rw [ht] at h
   simp only [] at h
   split at h
   ·cases h
   rename_i hk0
   have hw : 1 ≤ tokW k := by unfold tokW; rw [if_neg hk0]; split <;> omega
   split at h
   ·cases h; have := whole_len pl k.n v; omega
   split at h
   ·cases h; rw [hb0]; simp only [List.length_nil]; omega
   split at h
   ·rename_i hk; cases h; rw [hb0]
    have : tokW k = k.b.length + 1 := by unfold tokW; rw [hk]; simp
    omega
   split at h
   ·rename_i hk; cases h; rw [hb0]
    have : tokW k = k.b.length + 1 := by unfold tokW; rw [hk]; simp
    omega
   split at h
   ·unfold wordS at h
    repeat' split at h
    all_goals first
     | (cases h; done)
     | (rename_i e; repeat' split at e
        all_goals first
         | (cases e; done)
         | (cases e; cases h; rw [hb0]; simp only [List.length_nil]; omega))
   split at h
   ·cases d with
    | zero => cases h
    | succ d =>
     simp only [] at h
     cases hA : arrS (valS pl d) (v.length + 1) [] v with
     | err e w => rw [hA] at h; cases h
     | ok l w =>
      rw [hA] at h
      cases h
      have := arr_cut (IH d (by omega)) _ _ _ _ _ hA
      simp only [bulkL] at this
      simp only [Ob.bulk, List.length_nil, bulkD]
      omega
   split at h
   ·cases d with
    | zero => cases h
    | succ d =>
     simp only [] at h
     cases hA : dictS (valS pl d) (v.length + 1) [] [] v with
     | err e w => rw [hA] at h; cases h
     | ok l w =>
      rw [hA] at h
      cases h
      have := dict_cut (IH d (by omega)) _ _ _ _ _ _ hA
      simp only [bulkD] at this
      simp only [Ob.bulk, List.length_nil, bulkL]
      omega
   ·cases h
end Go.Rd

/- The document's array: items up to the bracket. No condition. -/
namespace Go.Proofs.YthacnnmlephkhaaGreatDoor
open Go Go.RowKit Go.Wk Go.Rd Go.Fx
section
variable {L : Nat} {A : Option Addr} {c : Nat} {bs : Bs} {D P : Value} {w w' : World} {r r' u : Bs} {k : Tok}
def ValE (L : Nat) (A : Option Addr) (c : Nat) (bs : Bs) (D P : Value) (w : World) (res : Res Ob) (e : Ending) (w' : World) : Prop := match res with
 | .ok o u => ∃ us, e = .returned (.tuple #[.agg (List.toArray us), .int .i64 0]) ∧ ObI w.heap.size w'.heap.size w' o us ∧ LX L A c bs D P w' u ∧ Save L w w'
 | .err n u => n ≠ 0 ∧ e = .returned (.tuple #[.agg #[.int .i64 0, .int .i64 0, .slice none 0 0, .slice none 0 0, .slice none 0 0], .int .i64 n]) ∧ LX L A c bs D P w' u ∧ Save L w w'
def ValC (pl : Bool) (d : Nat) : Prop := ∀ (L : Nat) (A : Option Addr) (c : Nat) (bs : Bs) (D : Value) (w : World) (r : Bs), LX L A c bs D (.bool pl) w r → bs.length ≤ 60000000 → Calls Tryz.prog 79 #[.pointer (some ⟨L, 0, none⟩), .int .i64 (d : Nat)] w (ValE L A c bs D (.bool pl) w (valS pl d r))
theorem Save.rowG {α : Type} {I : Nat → Nat → World → α → List Value → Prop} {sz : Nat} (LW : ItLaw I sz) {e : TypeId} {B : Nat} {a b : World} {v : Value} {l : List α} {rss : List (List Value)} (h : Save L a b) (hB : L < B) (hR : RowG I e sz B a v l rss) : RowG I e sz B b v l rss :=
 hR.far LW (fun k h1 h2 => h.block k h2 (by omega)) h.size
theorem RowG.far_ {α : Type} {I : Nat → Nat → World → α → List Value → Prop} {sz : Nat} (LW : ItLaw I sz) {e : TypeId} {B R : Nat} {a b : World} {v : Value} {l : List α} {rss : List (List Value)} (hg : a.grownBy b (some R)) (hB : R < B) (hR : RowG I e sz B a v l rss) : RowG I e sz B b v l rss :=
 hR.far LW (fun k h1 h2 => hg.block k h2 (by intro e; injection e with e; omega)) hg.size
set_option maxHeartbeats 16000000 in
set_option maxRecDepth 100000 in
theorem rp_array {pl : Bool} {d : Nat} (hv : ValC pl d) (hd : d ≤ 1000) (h : LX L A c bs D (.bool pl) w r) (hsm : bs.length ≤ 60000000) : Calls Tryz.prog 113 #[.pointer (some ⟨L, 0, none⟩), .int .i64 (d : Nat)] w (ValE L A c bs D (.bool pl) w (match arrS (valS pl d) (r.length + 1) [] r with | .ok l v => .ok (.mk 6 0 [] l []) v | .err e v => .err e v)) := by
 have hLw := h.lt
 have hAw := h.a_lt
 have hbl := h.suf.length_le
 obtain ⟨W1, hW1⟩ : ∃ W, W = (w.alloc (.cells #[.int .i64 0, .int .i64 0, .slice none 0 0, .slice none 0 0, .slice none 0 0] 26)).alloc (.cells #[.int .i64 6, .int .i64 0, .slice none 0 0, .slice none 0 0, .slice none 0 0] 26) := ⟨_, rfl⟩
 have b1 : Below w.heap.size w W1 := by rw [hW1]; exact ((Below.refl _ _).alloc (Nat.le_refl _) _).alloc (by rw [World.size_alloc]; omega) _
 have z1 : W1.heap.size = w.heap.size + 2 := by rw [hW1, World.size_alloc, World.size_alloc]
 have hR1 : Blk W1 w.heap.size 26 #[.int .i64 0, .int .i64 0, .slice none 0 0, .slice none 0 0, .slice none 0 0] := by rw [hW1]; exact (Blk.new w _ _).alloc _
 have hO1 : Blk W1 (w.heap.size + 1) 26 #[.int .i64 6, .int .i64 0, .slice none 0 0, .slice none 0 0, .slice none 0 0] := by
  rw [hW1, show w.heap.size + 1 = (w.alloc (.cells #[.int .i64 0, .int .i64 0, .slice none 0 0, .slice none 0 0, .slice none 0 0] 26)).heap.size from (World.size_alloc _ _).symm]; exact Blk.new _ _ _
 have hL1 := h.below b1
 have hneR : w.heap.size ≠ L := by omega
 have hneO : w.heap.size + 1 ≠ L := by omega
 obtain ⟨R, hRe⟩ : ∃ R, R = arrS (valS pl d) (r.length + 1) [] r := ⟨_, rfl⟩
 rw [← hRe]
 replace hRe := hi_ hRe
 replace hAw := hi_ hAw
 replace hL1 := hi_ hL1
 replace hR1 := hi_ hR1
 replace hO1 := hi_ hO1
 replace b1 := hi_ b1
 replace hbl := hi_ hbl
 replace hv := hi_ hv
 clear h
 go_enter Tryz.func113, Tryz.ntmps113
 go_upto_region 2 with (fail)
 rw [← hW1]
 replace hW1 := hi_ hW1
 go_loopw [7] (fun _ wr => ∃ (f : Nat) (acc : List Ob) (vL : Value) (rl : List (List Value)) (r1 : Bs), LX L A c bs D (.bool pl) wr r1 ∧ Save L w wr ∧ Blk wr w.heap.size 26 #[.int .i64 0, .int .i64 0, .slice none 0 0, .slice none 0 0, .slice none 0 0] ∧ Blk wr (w.heap.size + 1) 26 #[.int .i64 6, .int .i64 0, .slice none 0 0, vL, .slice none 0 0] ∧ RowG ObI 26 5 (w.heap.size + 2) wr vL acc rl ∧ arrS (valS pl d) f acc r1 = R ∧ r1.length < f ∧ acc.length + r1.length ≤ r.length ∧ w.heap.size + 2 ≤ wr.heap.size) (fun _ wr => bs.length + 1 - posOf L wr)
 case atStart => exact ⟨_, [], _, [], r, hL1.out, Save.of_below b1.out, hR1.out, hO1.out, RowG.nil _ _ _ _ _, hRe.out.symm, Nat.lt_succ_self _, by simp, by omega⟩
 case round =>
  obtain ⟨f, acc, vL, rl, r1, hL, hS, hR, hO, hG, hE, hf, hacc, hws⟩ := hrel
  obtain ⟨f, rfl⟩ : ∃ g, f = g + 1 := ⟨f - 1, by omega⟩
  have hms := hL.posOf
  have hpl := pos_len hL.suf
  have hpe := pos_le bs r1
  obtain ⟨q, hq⟩ : ∃ q : Int, q = (pos bs r1 : Nat) := ⟨_, rfl⟩
  have l1 := hL.blk.cell 1
  rw [← hq] at l1
  have lv := hL.blk.frozen 1
  have hsuf := hL.suf
  obtain ⟨AL, cL, gL, rfl, hgc, hgn, hga, hgm, _⟩ := hG.out ob_law (by omega)
  clear hgc hgn hga hgm hRe hL1 hR1 hO1
  have p0 := hR.cell 0
  have f0 := hR.frozen 0
  have p1 := hR.cell 1
  have f1 := hR.frozen 1
  have p2 := hR.cell 2
  have f2 := hR.frozen 2
  have p3 := hR.cell 3
  have f3 := hR.frozen 3
  have p4 := hR.cell 4
  have f4 := hR.frozen 4
  have o0 := hO.cell 0
  have g0 := hO.frozen 0
  have o1 := hO.cell 1
  have g1 := hO.frozen 1
  have o2 := hO.cell 2
  have g2 := hO.frozen 2
  have o3 := hO.cell 3
  have g3 := hO.frozen 3
  have o4 := hO.cell 4
  have g4 := hO.frozen 4
  replace hL := hi_ hL
  replace hS := hi_ hS
  replace hR := hi_ hR
  replace hO := hi_ hO
  replace hG := hi_ hG
  replace hE := hi_ hE
  replace hf := hi_ hf
  replace hms := hi_ hms
  replace hpl := hi_ hpl
  replace hq := hi_ hq
  replace hsuf := hi_ hsuf
  replace hacc := hi_ hacc
  obtain ⟨a1, ha1⟩ : ∃ a : Int, a = (pos bs (blankM false r1) : Nat) := ⟨_, rfl⟩
  cases ht : tokS r1 with
  | err n u =>
   have hE2 : R = .err n u := by rw [← hE.out, arrS, ht]
   subst hE2
   have ctok := fun W (h : LX L A c bs D (.bool pl) W r1) => rx_err h ht ha1
   replace ctok := hi_ ctok
   clear ha1 ht
   go_upto_region 4 with (fail)
   go_at_call 110
   (with_reducible refine (ctok.out _ hL.out).mono ?_)
   rintro e w3 ⟨hn0, rfl, hL3, hS3⟩
   obtain ⟨w4, hw4⟩ : ∃ W, W = w3.alloc (.cells #[.int .i64 0, .int .i64 a1, .int .i64 0, .slice none 0 0] 99) := ⟨_, rfl⟩
   have b4 : Below w3.heap.size w3 w4 := by rw [hw4]; exact (Below.refl _ _).alloc (Nat.le_refl _) _
   have hK4 : Blk w4 w3.heap.size 99 #[.int .i64 0, .int .i64 a1, .int .i64 0, .slice none 0 0] := by rw [hw4]; exact Blk.new w3 _ _
   have k40 := hK4.cell 0
   have zz4 : w.heap.size + 2 ≤ w4.heap.size := by have := hS3.size; have := b4.size; omega
   replace hL := hi_ hL3
   replace hR := hi_ (hS3.blk hneR hR.out)
   replace hO := hi_ (hS3.blk hneO hO.out)
   replace hG := hi_ (hS3.rowG ob_law (by omega) hG.out)
   replace hS := hi_ (hS.out.trans hS3)
   replace hL := hi_ (hL.out.below b4)
   replace hR := hi_ (hR.out.below b4 hR.out.lt)
   replace hO := hi_ (hO.out.below b4 hO.out.lt)
   replace hG := hi_ (hG.out.below ob_law b4)
   replace hS := hi_ (hS.out.then_ b4)
   replace l1 := hL.out.blk.cell 1
   replace lv := hL.out.blk.frozen 1
   replace p0 := hR.out.cell 0
   replace f0 := hR.out.frozen 0
   replace p1 := hR.out.cell 1
   replace f1 := hR.out.frozen 1
   replace p2 := hR.out.cell 2
   replace f2 := hR.out.frozen 2
   replace p3 := hR.out.cell 3
   replace f3 := hR.out.frozen 3
   replace p4 := hR.out.cell 4
   replace f4 := hR.out.frozen 4
   replace o0 := hO.out.cell 0
   replace g0 := hO.out.frozen 0
   replace o1 := hO.out.cell 1
   replace g1 := hO.out.frozen 1
   replace o2 := hO.out.cell 2
   replace g2 := hO.out.frozen 2
   replace o3 := hO.out.cell 3
   replace g3 := hO.out.frozen 3
   replace o4 := hO.out.cell 4
   replace g4 := hO.out.frozen 4
   go_upto_region 4 with (fail)
   rw [← hw4]
   replace hw4 := hi_ hw4
   clear b4 hS3 hL3
   have hnb : (n != 0) = true := by simpa using hn0
   go_wp2
   obtain ⟨Wf, hWf⟩ : ∃ W, W = ((((w4.setCell ⟨w.heap.size, 0, none⟩ (.int .i64 0)).setCell ⟨w.heap.size, 1, none⟩ (.int .i64 0)).setCell ⟨w.heap.size, 2, none⟩ (.slice none 0 0)).setCell ⟨w.heap.size, 3, none⟩ (.slice none 0 0)).setCell ⟨w.heap.size, 4, none⟩ (.slice none 0 0) := ⟨_, rfl⟩
   rw [← hWf]
   obtain ⟨hbf, hLf, hSf⟩ := whole_end hS.out hL.out hR.out (Nat.le_refl _) hneR.symm hAw.out hWf
   have u0 := hbf.cell 0
   have u1 := hbf.cell 1
   have u2 := hbf.cell 2
   have u3 := hbf.cell 3
   have u4 := hbf.cell 4
   replace hLf := hi_ hLf
   replace hSf := hi_ hSf
   replace hWf := hi_ hWf
   replace hn0 := hi_ hn0
   clear hbf
   exact bodyPost_ret (by simp [results, Tryz.results113, go_sem, u0, u1, u2, u3, u4]; try rfl) rfl ⟨hn0.out, rfl, hLf.out, hSf.out⟩
  | ok k u =>
   have htl := tok_len ht
   have ctok := fun W (h : LX L A c bs D (.bool pl) W r1) => rx_ok h ht ha1
   replace ctok := hi_ ctok
   clear ha1
   go_upto_region 4 with (fail)
   go_at_call 110
   (with_reducible refine (ctok.out _ hL.out).mono ?_)
   rintro e w3 ⟨A3, c3, rfl, hO3, hL3, hS3⟩
   obtain ⟨w4, hw4⟩ : ∃ W, W = w3.alloc (.cells #[.int .i64 k.k, .int .i64 a1, .int .i64 k.n, .slice A3 k.b.length c3] 99) := ⟨_, rfl⟩
   have b4 : Below w3.heap.size w3 w4 := by rw [hw4]; exact (Below.refl _ _).alloc (Nat.le_refl _) _
   have hK4 : Blk w4 w3.heap.size 99 #[.int .i64 k.k, .int .i64 a1, .int .i64 k.n, .slice A3 k.b.length c3] := by rw [hw4]; exact Blk.new w3 _ _
   have k40 := hK4.cell 0
   have zz4 : w.heap.size + 2 ≤ w4.heap.size := by have := hS3.size; have := b4.size; omega
   replace hL := hi_ hL3
   replace hR := hi_ (hS3.blk hneR hR.out)
   replace hO := hi_ (hS3.blk hneO hO.out)
   replace hG := hi_ (hS3.rowG ob_law (by omega) hG.out)
   replace hS := hi_ (hS.out.trans hS3)
   replace hL := hi_ (hL.out.below b4)
   replace hR := hi_ (hR.out.below b4 hR.out.lt)
   replace hO := hi_ (hO.out.below b4 hO.out.lt)
   replace hG := hi_ (hG.out.below ob_law b4)
   replace hS := hi_ (hS.out.then_ b4)
   replace l1 := hL.out.blk.cell 1
   replace lv := hL.out.blk.frozen 1
   replace p0 := hR.out.cell 0
   replace f0 := hR.out.frozen 0
   replace p1 := hR.out.cell 1
   replace f1 := hR.out.frozen 1
   replace p2 := hR.out.cell 2
   replace f2 := hR.out.frozen 2
   replace p3 := hR.out.cell 3
   replace f3 := hR.out.frozen 3
   replace p4 := hR.out.cell 4
   replace f4 := hR.out.frozen 4
   replace o0 := hO.out.cell 0
   replace g0 := hO.out.frozen 0
   replace o1 := hO.out.cell 1
   replace g1 := hO.out.frozen 1
   replace o2 := hO.out.cell 2
   replace g2 := hO.out.frozen 2
   replace o3 := hO.out.cell 3
   replace g3 := hO.out.frozen 3
   replace o4 := hO.out.cell 4
   replace g4 := hO.out.frozen 4
   go_upto_region 4 with (fail)
   rw [← hw4]
   replace hw4 := hi_ hw4
   clear hO3 b4 hS3 hL3
   by_cases hk6 : k.k = 6
   ·have hk1 : (k.k == 6) = true := by simpa using hk6
    have hE2 : R = .ok acc u := by rw [← hE.out, arrS, ht]; simp only [if_pos hk6]
    subst hE2
    clear ht hk6 htl
    go_wp2
    obtain ⟨Wf, hWf⟩ : ∃ W, W = ((((w4.setCell ⟨w.heap.size, 0, none⟩ (.int .i64 6)).setCell ⟨w.heap.size, 1, none⟩ (.int .i64 0)).setCell ⟨w.heap.size, 2, none⟩ (.slice none 0 0)).setCell ⟨w.heap.size, 3, none⟩ (.slice AL acc.length cL)).setCell ⟨w.heap.size, 4, none⟩ (.slice none 0 0) := ⟨_, rfl⟩
    rw [← hWf]
    obtain ⟨hbf, hgf, hzf⟩ := set_five hR.out hWf
    have u0 := hbf.cell 0
    have u1 := hbf.cell 1
    have u2 := hbf.cell 2
    have u3 := hbf.cell 3
    have u4 := hbf.cell 4
    have hLf := hL.out.grown_ hgf hneR.symm (fun h0 x hx => by have := hAw.out h0 x hx; omega)
    have hSf := hS.out.grown_ hgf (Nat.le_refl _)
    have hGf := RowG.base (B' := w.heap.size) (RowG.far_ ob_law hgf (by omega) hG.out) (by omega)
    have hIf : ObI w.heap.size Wf.heap.size Wf (.mk 6 0 [] acc []) [.int .i64 6, .int .i64 0, .slice none 0 0, .slice AL acc.length cL, .slice none 0 0] :=
     built (tO := 26) (tE := 53) (tb := 5) (by omega) (by omega) (by omega) (by omega) (Own.nil _ _).row (by simp [maxLen]) hGf (RowG.nil _ _ _ _ _)
    replace hLf := hi_ hLf
    replace hSf := hi_ hSf
    replace hGf := hi_ hGf
    replace hIf := hi_ hIf
    replace hWf := hi_ hWf
    clear hbf hgf
    exact bodyPost_ret (by simp [results, Tryz.results113, go_sem, u0, u1, u2, u3, u4]; try rfl) rfl ⟨_, rfl, hIf.out, hLf.out, hSf.out⟩
   ·have hk1 : (k.k == 6) = false := by simpa using hk6
    have hE2 := hE.out
    rw [arrS, ht] at hE2
    simp only [if_neg hk6] at hE2
    replace hE2 := hi_ hE2
    clear ht hk6 htl hE
    go_upto_region 9 with (fail)
    obtain ⟨w5, hw5⟩ : ∃ W, W = w4.setCell ⟨L, 1, none⟩ (.int .i64 q) := ⟨_, rfl⟩
    rw [← hw5]
    have hL5 : LX L A c bs D (.bool pl) w5 r1 := by rw [hw5, hq.out]; exact hL.out.go hsuf.out
    have hS5 : Save L w4 w5 := by rw [hw5]; exact (Save.refl L w4).store 1 _
    replace hw5 := hi_ hw5
    have cv := hv.out L A c bs D w5 r1 hL5 hsm
    have z5 := hS5.size
    have zz5 : w.heap.size + 2 ≤ w5.heap.size := by omega
    clear z5
    replace hL := hi_ hL5
    replace hR := hi_ (hS5.blk hneR hR.out)
    replace hO := hi_ (hS5.blk hneO hO.out)
    replace hG := hi_ (hS5.rowG ob_law (by omega) hG.out)
    replace hS := hi_ (hS.out.trans hS5)
    replace l1 := hL.out.blk.cell 1
    replace lv := hL.out.blk.frozen 1
    replace p0 := hR.out.cell 0
    replace f0 := hR.out.frozen 0
    replace p1 := hR.out.cell 1
    replace f1 := hR.out.frozen 1
    replace p2 := hR.out.cell 2
    replace f2 := hR.out.frozen 2
    replace p3 := hR.out.cell 3
    replace f3 := hR.out.frozen 3
    replace p4 := hR.out.cell 4
    replace f4 := hR.out.frozen 4
    replace o0 := hO.out.cell 0
    replace g0 := hO.out.frozen 0
    replace o1 := hO.out.cell 1
    replace g1 := hO.out.frozen 1
    replace o2 := hO.out.cell 2
    replace g2 := hO.out.frozen 2
    replace o3 := hO.out.cell 3
    replace g3 := hO.out.frozen 3
    replace o4 := hO.out.cell 4
    replace g4 := hO.out.frozen 4
    have hcut := val_cut pl d r1
    obtain ⟨V, hV⟩ : ∃ V, V = valS pl d r1 := ⟨_, rfl⟩
    rw [← hV] at cv hE2 hcut
    replace cv := hi_ cv
    replace hV := hi_ hV
    clear hL5 ctok hS5
    cases V with
    | err n v =>
     have hE3 : R = .err n v := by rw [← hE2.out]
     subst hE3
     clear hcut
     go_upto_region 10 with (fail)
     go_at_call 79
     (with_reducible refine (cv.out).mono ?_)
     rintro e w6 ⟨hn0, rfl, hL6, hS6⟩
     obtain ⟨w7, hw7⟩ : ∃ W, W = w6.alloc (.cells #[.int .i64 0, .int .i64 0, .slice none 0 0, .slice none 0 0, .slice none 0 0] 26) := ⟨_, rfl⟩
     have b7 : Below w6.heap.size w6 w7 := by rw [hw7]; exact (Below.refl _ _).alloc (Nat.le_refl _) _
     replace hL := hi_ hL6
     replace hR := hi_ (hS6.blk hneR hR.out)
     replace hO := hi_ (hS6.blk hneO hO.out)
     replace hG := hi_ (hS6.rowG ob_law (by omega) hG.out)
     replace hS := hi_ (hS.out.trans hS6)
     replace hL := hi_ (hL.out.below b7)
     replace hR := hi_ (hR.out.below b7 hR.out.lt)
     replace hO := hi_ (hO.out.below b7 hO.out.lt)
     replace hG := hi_ (hG.out.below ob_law b7)
     replace hS := hi_ (hS.out.then_ b7)
     replace l1 := hL.out.blk.cell 1
     replace lv := hL.out.blk.frozen 1
     replace p0 := hR.out.cell 0
     replace f0 := hR.out.frozen 0
     replace p1 := hR.out.cell 1
     replace f1 := hR.out.frozen 1
     replace p2 := hR.out.cell 2
     replace f2 := hR.out.frozen 2
     replace p3 := hR.out.cell 3
     replace f3 := hR.out.frozen 3
     replace p4 := hR.out.cell 4
     replace f4 := hR.out.frozen 4
     replace o0 := hO.out.cell 0
     replace g0 := hO.out.frozen 0
     replace o1 := hO.out.cell 1
     replace g1 := hO.out.frozen 1
     replace o2 := hO.out.cell 2
     replace g2 := hO.out.frozen 2
     replace o3 := hO.out.cell 3
     replace g3 := hO.out.frozen 3
     replace o4 := hO.out.cell 4
     replace g4 := hO.out.frozen 4
     go_upto_region 10 with (fail)
     rw [← hw7]
     replace hw7 := hi_ hw7
     have hnb : (n != 0) = true := by simpa using hn0
     clear b7 hL6 hS6
     go_wp2
     obtain ⟨Wf, hWf⟩ : ∃ W, W = ((((w7.setCell ⟨w.heap.size, 0, none⟩ (.int .i64 0)).setCell ⟨w.heap.size, 1, none⟩ (.int .i64 0)).setCell ⟨w.heap.size, 2, none⟩ (.slice none 0 0)).setCell ⟨w.heap.size, 3, none⟩ (.slice none 0 0)).setCell ⟨w.heap.size, 4, none⟩ (.slice none 0 0) := ⟨_, rfl⟩
     rw [← hWf]
     obtain ⟨hbf, hLf, hSf⟩ := whole_end hS.out hL.out hR.out (Nat.le_refl _) hneR.symm hAw.out hWf
     have u0 := hbf.cell 0
     have u1 := hbf.cell 1
     have u2 := hbf.cell 2
     have u3 := hbf.cell 3
     have u4 := hbf.cell 4
     replace hLf := hi_ hLf
     replace hSf := hi_ hSf
     replace hWf := hi_ hWf
     replace hn0 := hi_ hn0
     clear hbf
     exact bodyPost_ret (by simp [results, Tryz.results113, go_sem, u0, u1, u2, u3, u4]; try rfl) rfl ⟨hn0.out, rfl, hLf.out, hSf.out⟩
    | ok o v =>
     have hcut2 := hcut o v rfl
     have hE3 : arrS (valS pl d) f (acc ++ [o]) v = R := by rw [← hE2.out]
     replace hE3 := hi_ hE3
     clear hcut
     go_upto_region 10 with (fail)
     go_at_call 79
     (with_reducible refine (cv.out).mono ?_)
     rintro e w6 ⟨us, rfl, hI6, hL6, hS6⟩
     obtain ⟨xn, F1, F2, F3, fn1, fc1, fn2, fc2, fn3, fc3, hxs⟩ := ob_five2 hI6.ob
     obtain ⟨xk, hxk⟩ : ∃ k, k = o.kind := ⟨_, rfl⟩
     rw [← hxk] at hxs
     subst hxs
     replace hxk := hi_ hxk
     obtain ⟨w7, hw7⟩ : ∃ W, W = w6.alloc (.cells #[.int .i64 xk, .int .i64 xn, .slice F1 fn1 fc1, .slice F2 fn2 fc2, .slice F3 fn3 fc3] 26) := ⟨_, rfl⟩
     have b7 : Below w6.heap.size w6 w7 := by rw [hw7]; exact (Below.refl _ _).alloc (Nat.le_refl _) _
     have hX7 : Blk w7 w6.heap.size 26 #[.int .i64 xk, .int .i64 xn, .slice F1 fn1 fc1, .slice F2 fn2 fc2, .slice F3 fn3 fc3] := by rw [hw7]; exact Blk.new w6 _ _
     have hI7 := obI_below hI6 b7
     have hltG := World.ownsRow.lt hG.out.row
     replace hL := hi_ hL6
     replace hR := hi_ (hS6.blk hneR hR.out)
     replace hO := hi_ (hS6.blk hneO hO.out)
     replace hG := hi_ (hS6.rowG ob_law (by omega) hG.out)
     replace hS := hi_ (hS.out.trans hS6)
     replace hL := hi_ (hL.out.below b7)
     replace hR := hi_ (hR.out.below b7 hR.out.lt)
     replace hO := hi_ (hO.out.below b7 hO.out.lt)
     replace hG := hi_ (hG.out.below ob_law b7)
     replace hS := hi_ (hS.out.then_ b7)
     replace l1 := hL.out.blk.cell 1
     replace lv := hL.out.blk.frozen 1
     replace p0 := hR.out.cell 0
     replace f0 := hR.out.frozen 0
     replace p1 := hR.out.cell 1
     replace f1 := hR.out.frozen 1
     replace p2 := hR.out.cell 2
     replace f2 := hR.out.frozen 2
     replace p3 := hR.out.cell 3
     replace f3 := hR.out.frozen 3
     replace p4 := hR.out.cell 4
     replace f4 := hR.out.frozen 4
     replace o0 := hO.out.cell 0
     replace g0 := hO.out.frozen 0
     replace o1 := hO.out.cell 1
     replace g1 := hO.out.frozen 1
     replace o2 := hO.out.cell 2
     replace g2 := hO.out.frozen 2
     replace o3 := hO.out.cell 3
     replace g3 := hO.out.frozen 3
     replace o4 := hO.out.cell 4
     replace g4 := hO.out.frozen 4
     have x0 := hX7.cell 0
     have x1 := hX7.cell 1
     have x2 := hX7.cell 2
     have x3 := hX7.cell 3
     have x4 := hX7.cell 4
     have hbo := bulk_pos o
     have z7 : w7.heap.size = w6.heap.size + 1 := by rw [hw7]; exact World.size_alloc _ _
     have z6 := hS6.size
     have zz7 : w.heap.size + 2 ≤ w7.heap.size := by omega
     replace z7 := hi_ z7
     go_upto_region 10 with (fail)
     rw [← hw7]
     replace hw7 := hi_ hw7
     obtain ⟨wA, hwA⟩ : ∃ W, W = w7.alloc (.cells #[.int .i64 xk, .int .i64 xn, .slice F1 fn1 fc1, .slice F2 fn2 fc2, .slice F3 fn3 fc3] 26) := ⟨_, rfl⟩
     have bA : Below w7.heap.size w7 wA := by rw [hwA]; exact (Below.refl _ _).alloc (Nat.le_refl _) _
     have hIA := obI_below hI7 bA
     have hGA := hG.out.below ob_law bA
     have hcA : ∀ j u, [Value.int .i64 xk, .int .i64 xn, .slice F1 fn1 fc1, .slice F2 fn2 fc2, .slice F3 fn3 fc3][j]? = some u → wA.cell? ⟨w7.heap.size, j, none⟩ = some u := fun j u hu => by rw [hwA]; exact new_cells w7 _ 26 j u hu
     have hapA : ∀ g, (Value.slice AL acc.length cL).ownBlock = some g → g < w5.heap.size ∨ w6.heap.size ≤ g := fun g hg => by have := (hltG g hg).2; left; omega
     have zA : wA.heap.size = w7.heap.size + 1 := by rw [hwA]; exact World.size_alloc _ _
     have hSA := hS.out.then_ bA
     have hRA := hR.out.below bA hR.out.lt
     have hOA := hO.out.below bA hO.out.lt
     have hLA := hL.out.below bA
     have hAL : acc.length ≤ 100000000 := by have := hacc.out; have := hbl.out; omega
     have oA0 := hOA.cell 3
     have gA0 := hOA.frozen 3
     replace hAL := hi_ hAL
     replace bA := hi_ bA
     replace hIA := hi_ hIA
     replace hGA := hi_ hGA
     replace hcA := hi_ hcA
     replace hapA := hi_ hapA
     replace zA := hi_ zA
     replace hSA := hi_ hSA
     replace hRA := hi_ hRA
     replace hOA := hi_ hOA
     replace hLA := hi_ hLA
     replace hwA := hi_ hwA
     replace hltG := hi_ hltG
     replace hI7 := hi_ hI7
     replace hX7 := hi_ hX7
     replace hcut2 := hi_ hcut2
     clear b7 hL6 hS6 hI6
     go_wp2_with (at_builtin; rw [← hwA.out]; refine app_ob rfl _ _ rfl (w.heap.size + 2) _ acc rl rfl hGA.out w7.heap.size w5.heap.size w6.heap.size o _ rfl hIA.out (by omega) hapA.out hcA.out (by have := hAL.out; omega) (by have := zA.out; omega) ?_; intro v8 w8 hG8 hg8 hat8; obtain ⟨A8, c8, rfl⟩ : ∃ A c, v8 = .slice A (acc ++ [o]).length c := (by obtain ⟨A, c, g, e, _⟩ := hG8.out ob_law (by omega); exact ⟨A, c, e⟩); obtain ⟨n8, hn8⟩ : ∃ n, n = (acc ++ [o]).length := ⟨_, rfl⟩; rw [← hn8] at hG8 hat8 ⊢; have hO8 := hOA.out.grown hg8 (fun e => by have := (hltG.out _ e.symm).1; omega); have o83 := hO8.cell 3; have g83 := hO8.frozen 3; replace hO8 := hi_ hO8; replace hn8 := hi_ hn8; replace hG8 := hi_ hG8; replace hg8 := hi_ hg8; replace hat8 := hi_ hat8)
     obtain ⟨w9, hw9⟩ : ∃ W, W = w8.setCell ⟨w.heap.size + 1, 3, none⟩ (.slice A8 n8 c8) := ⟨_, rfl⟩
     rw [← hw9]
     have hBx : w.heap.size + 2 ≤ wA.heap.size := by have := zA.out; omega
     have hB8 : Below (w.heap.size + 2) wA w8 := (Below.refl _ _ |>.mono hBx).grown hg8.out hBx (fun k hk => (hltG.out k hk).1)
     have hL9 : LX L A c bs D (.bool pl) w9 v := by
      rw [hw9]
      exact (hLA.out.belowB hB8 (by omega) (fun h0 x hx => by have := hAw.out h0 x hx; omega)).far_ hneO.symm (fun h0 x hx => by have := hAw.out h0 x hx; omega)
     have hS9 : Save L w w9 := by rw [hw9]; exact (hSA.out.thenB (hB8.mono (by omega))).far_ (by omega)
     have hR9 : Blk w9 w.heap.size 26 #[.int .i64 0, .int .i64 0, .slice none 0 0, .slice none 0 0, .slice none 0 0] := by rw [hw9]; exact (hRA.out.below hB8 (by omega)).far (p := ⟨w.heap.size + 1, 3, none⟩) (by simp) _
     have hO9 : Blk w9 (w.heap.size + 1) 26 #[.int .i64 6, .int .i64 0, .slice none 0 0, .slice A8 n8 c8, .slice none 0 0] := by rw [hw9]; exact hO8.out.set_ 3 _
     have hG9 : RowG ObI 26 5 (w.heap.size + 2) w9 (.slice A8 n8 c8) (acc ++ [o]) (rl ++ [[.int .i64 xk, .int .i64 xn, .slice F1 fn1 fc1, .slice F2 fn2 fc2, .slice F3 fn3 fc3]]) := by rw [hw9]; exact RowG.far_ ob_law (set_grown w8 (w.heap.size + 1) 3 _) (by omega) hG8.out
     have e1 := hL9.posOf
     have e2 := hms.out
     have e3 := pos_len hL9.suf
     have e4 := hpl.out
     have e5 := hcut2.out
     have e6 := hf.out
     have e7 := hacc.out
     have e8 := pos_le bs v
     refine ⟨⟨f, _, _, _, v, hL9, hS9, hR9, hO9, hG9, hE3.out, by omega, by simp only [List.length_append, List.length_cons, List.length_nil]; omega, ?_⟩, by rw [e1, e2]; omega⟩
     have s1 := hB8.size
     have s2 : w9.heap.size = w8.heap.size := by rw [hw9]; simp [World.setCell]
     omega
end

/- The document's dict: entries up to the bracket. No condition. -/
section
variable {L : Nat} {A : Option Addr} {c : Nat} {bs : Bs} {D P : Value} {w w' : World} {r r' u : Bs} {k : Tok}
theorem str_info : ∃ i, Tryz.prog.info? 9 = some i ∧ i.zero = some (.string ⟨#[]⟩) ∧ i.size = 1 ∧ i.bytes = 16 := ⟨Tryz.t9, by kernel_rfl, by kernel_rfl, by kernel_rfl, by kernel_rfl⟩
theorem app_key {w : World} {ops : Array Oper} {rest : List Oper} {o : Oper} {a : Act} {Q : Exit → Act → World → Prop} (hgd : o.guard = none) (s x : Operand)
 (ho : o.op = .call { callee := .builtin .append, args := #[s, x], argTypes := #[84, 84] }) (B : Nat) (v : Value) (n : Nat) (xs : List Value) (hs : a.eval s = v) (hR : w.ownsRow B 9 1 v n xs)
 (g : Nat) (K : ByteArray) (hx : a.eval x = .slice (some ⟨g, 0, none⟩) 1 1) (hc : w.cell? ⟨g, 0, none⟩ = some (.string K)) (hl : n ≤ 1000000000) (hB : B ≤ w.heap.size)
 (h : ∀ v' w', w'.ownsRow B 9 1 v' (n + 1) (xs ++ [.string K]) → w.grownBy w' v.ownBlock → (v'.ownBlock = v.ownBlock ∨ v'.ownBlock = some w.heap.size) → wpList Tryz.prog ops Q rest (a.put o.dst v') w') : wpList Tryz.prog ops Q (o :: rest) a w := by
 obtain ⟨i0, hi0, hz0, hz1, hz2⟩ := str_info
 refine wpList_append_own_at w hgd s x 84 ho B 9 i0 _ 1 16 Tryz.underlying84 hi0 hz0 hz1 hz2 rfl (by decide) v n xs hs hR ⟨g, 0, none⟩ 1 1 [.string K] hx (by simp) ?_ (fun u hu => by rw [List.mem_singleton.1 hu]; rfl) (by unfold maxLen; omega) (by omega) hB ?_
 ·intro j u hu
  have hj : j = 0 := by have := (List.getElem?_eq_some_iff.1 hu).1; simpa using this
  subst hj
  rw [addr_add, Nat.zero_add, hc]; simpa using hu
 ·intro v' w' h1 h2 _ h3
  exact h v' w' h1 h2 h3
theorem row_key {w : World} {B n : Nat} {v : Value} {keys : List Bs} (h : w.ownsRow B 9 1 v keys.length (keys.map strV)) : ∃ A cK, v = .slice A keys.length cK ∧ ∀ (hn : 0 < keys.length), ∃ g, A = some ⟨g, 0, none⟩ ∧ ∀ i (hi : i < keys.length), w.cell? ⟨g, 0 + i, none⟩ = some (strV keys[i]) := by
 rcases h.2 with ⟨rfl, h0⟩ | ⟨g, cap, cur, rfl, hB, hh, hnc, hcm, hcs, htk⟩
 ·exact ⟨none, 0, by rw [h0], fun hn => by omega⟩
 ·refine ⟨_, cap, rfl, fun hn => ⟨g, rfl, fun i hi => ?_⟩⟩
  have h1 : (keys.map strV)[i]? = some (strV keys[i]) := by rw [List.getElem?_map, List.getElem?_eq_getElem hi]; rfl
  have := World.ownsRow.cells (w := w) (base := B) (e := 9) (size := 1) (v := .slice (some ⟨g, 0, none⟩) keys.length cap) (n := keys.length) (xs := keys.map strV) h (g := g) rfl i _ h1
  rw [addr_add] at this
  exact this
theorem row_other {w : World} {B B' n m : Nat} {v v' : Value} {xs ys : List Value} (h : w.ownsRow B 9 1 v n xs) (h' : w.ownsRow B' 53 6 v' m ys) {g : Nat} (hg : v.ownBlock = some g) : v'.ownBlock ≠ some g := by
 intro e
 rcases h.2 with ⟨rfl, _⟩ | ⟨g1, c1, cur1, rfl, _, hh1, _⟩
 ·simp [Value.ownBlock] at hg
 rcases h'.2 with ⟨rfl, _⟩ | ⟨g2, c2, cur2, rfl, _, hh2, _⟩
 ·simp [Value.ownBlock] at e
 have e1 : g1 = g := by simpa [Value.ownBlock] using hg
 have e2 : g2 = g := by simpa [Value.ownBlock] using e
 subst e1
 subst e2
 rw [hh1] at hh2
 injection hh2 with hh2
 injection hh2 with _ ht
 exact absurd ht (by decide)
theorem row_other5 {w : World} {B B' n : Nat} {v v' : Value} {xs : List Value} {b : Bs} (h : w.ownsRow B 9 1 v n xs) (h' : Own B' w v' b) {g : Nat} (hg : v'.ownBlock = some g) : some g ≠ v.ownBlock := by
 intro e
 rcases h.2 with ⟨rfl, _⟩ | ⟨g1, c1, cur1, rfl, _, hh1, _⟩
 ·simp [Value.ownBlock] at e
 rcases h'.row.2 with ⟨rfl, _⟩ | ⟨g2, c2, cur2, rfl, _, hh2, _⟩
 ·simp [Value.ownBlock] at hg
 have e1 : g2 = g := by simpa [Value.ownBlock] using hg
 have e2 : g = g1 := by simpa [Value.ownBlock] using e
 subst e1
 subst e2
 rw [hh1] at hh2
 injection hh2 with hh2
 injection hh2 with _ ht
 exact absurd ht (by decide)
theorem putE_len (K : Bs) (X : Ob) (d : List (Bs × Ob)) : (putE K X d).length ≤ d.length + 1 := with_len K X d _
theorem RowG.moved {kb kb' : Nat} {e : TypeId} {sz B : Nat} {w w' : World} {v : Value} {l : List (Bs × Ob)} {rss : List (List Value)} {row : Option Nat} (h : RowG (EnA kb) e sz B w v l rss) (hg : w.grownBy w' row) (hrow : ∀ g, row = some g → g = kb ∧ v.ownBlock ≠ some kb) (hk : kb' = kb ∨ w.heap.size ≤ kb') : RowG (EnA kb') e sz B w' v l rss := by
 have hb : ∀ b, b < w.heap.size → (row = some b → False) → w'.heap[b]? = w.heap[b]? := fun b h1 h2 => hg.block b h1 (fun e => h2 e.symm)
 refine ⟨h.len, ?_, fun i hi => ?_⟩
 ·refine ⟨h.row.1, ?_⟩
  rcases h.row.2 with h2 | ⟨g, cap, cur, e', hB, hh, rest⟩
  ·exact .inl h2
  ·refine .inr ⟨g, cap, cur, e', hB, (hb g (Array.getElem?_eq_some_iff.1 hh).1 (fun e2 => ?_)).trans hh, rest⟩
   obtain ⟨e3, e4⟩ := hrow g e2
   exact e4 (by rw [e', ← e3]; simp [Value.ownBlock])
 ·obtain ⟨lo, hi', h1, h2, h3⟩ := h.it i hi
  have ht := en_law.top h3.1
  refine ⟨lo, hi', h1, h2, en_law.keep h3.1 (fun b hb1 hb2 => hb b (by omega) (fun e2 => ?_)) (Nat.le_trans ht hg.size), ?_⟩
  ·obtain ⟨e3, _⟩ := hrow b e2
   have := h3.2
   omega
  ·rcases hk with e | e
   ·rw [e]; exact h3.2
   ·exact .inr (Nat.le_trans ht e)
set_option maxHeartbeats 16000000 in
set_option maxRecDepth 100000 in
theorem rp_dict {pl : Bool} {d : Nat} (hv : ValC pl d) (hd : d ≤ 1000) (h : LX L A c bs D (.bool pl) w r) (hsm : bs.length ≤ 60000000) : Calls Tryz.prog 114 #[.pointer (some ⟨L, 0, none⟩), .int .i64 (d : Nat)] w (ValE L A c bs D (.bool pl) w (match dictS (valS pl d) (r.length + 1) [] [] r with | .ok l v => .ok (.mk 7 0 [] [] l) v | .err e v => .err e v)) := by
 have hLw := h.lt
 have hAw := h.a_lt
 have hbl := h.suf.length_le
 obtain ⟨W1, hW1⟩ : ∃ W, W = (w.alloc (.cells #[.int .i64 0, .int .i64 0, .slice none 0 0, .slice none 0 0, .slice none 0 0] 26)).alloc (.cells #[.int .i64 7, .int .i64 0, .slice none 0 0, .slice none 0 0, .slice none 0 0] 26) := ⟨_, rfl⟩
 have b1 : Below w.heap.size w W1 := by rw [hW1]; exact ((Below.refl _ _).alloc (Nat.le_refl _) _).alloc (by rw [World.size_alloc]; omega) _
 have z1 : W1.heap.size = w.heap.size + 2 := by rw [hW1, World.size_alloc, World.size_alloc]
 have hR1 : Blk W1 w.heap.size 26 #[.int .i64 0, .int .i64 0, .slice none 0 0, .slice none 0 0, .slice none 0 0] := by rw [hW1]; exact (Blk.new w _ _).alloc _
 have hO1 : Blk W1 (w.heap.size + 1) 26 #[.int .i64 7, .int .i64 0, .slice none 0 0, .slice none 0 0, .slice none 0 0] := by
  rw [hW1, show w.heap.size + 1 = (w.alloc (.cells #[.int .i64 0, .int .i64 0, .slice none 0 0, .slice none 0 0, .slice none 0 0] 26)).heap.size from (World.size_alloc _ _).symm]; exact Blk.new _ _ _
 have hL1 := h.below b1
 have hneR : w.heap.size ≠ L := by omega
 have hneO : w.heap.size + 1 ≠ L := by omega
 obtain ⟨R, hRe⟩ : ∃ R, R = dictS (valS pl d) (r.length + 1) [] [] r := ⟨_, rfl⟩
 rw [← hRe]
 replace hRe := hi_ hRe
 replace hAw := hi_ hAw
 replace hL1 := hi_ hL1
 replace hR1 := hi_ hR1
 replace hO1 := hi_ hO1
 replace b1 := hi_ b1
 replace hbl := hi_ hbl
 replace hv := hi_ hv
 clear h
 go_enter Tryz.func114, Tryz.ntmps114
 go_upto_region 3 with (fail)
 rw [← hW1]
 replace hW1 := hi_ hW1
 go_loopw [6] (fun s6 wr => ∃ (f : Nat) (keys : List Bs) (acc : List (Bs × Ob)) (vD : Value) (rd : List (List Value)) (kb : Nat) (r1 : Bs), LX L A c bs D (.bool pl) wr r1 ∧ Save L w wr ∧ Blk wr w.heap.size 26 #[.int .i64 0, .int .i64 0, .slice none 0 0, .slice none 0 0, .slice none 0 0] ∧ Blk wr (w.heap.size + 1) 26 #[.int .i64 7, .int .i64 0, .slice none 0 0, .slice none 0 0, vD] ∧ RowG (EnA kb) 53 6 (w.heap.size + 2) wr vD acc rd ∧ wr.ownsRow (w.heap.size + 2) 9 1 s6 keys.length (keys.map strV) ∧ (∀ g, s6.ownBlock = some g → g = kb) ∧ kb < wr.heap.size ∧ dictS (valS pl d) f keys acc r1 = R ∧ r1.length < f ∧ keys.length + r1.length ≤ r.length ∧ acc.length ≤ keys.length ∧ w.heap.size + 2 ≤ wr.heap.size) (fun _ wr => bs.length + 1 - posOf L wr)
 case atStart => exact ⟨_, [], [], _, [], w.heap.size, r, hL1.out, Save.of_below b1.out, hR1.out, hO1.out, RowG.nil _ _ _ _ _, World.ownsRow_nil _ _ _ _, fun g h => by simp [Value.ownBlock] at h, by omega, hRe.out.symm, Nat.lt_succ_self _, by simp, by simp, by omega⟩
 case round =>
  obtain ⟨f, keys, acc, vD, rd, kb, r1, hL, hS, hR, hO, hG, hY, hkk, hkl, hE, hf, hacc, hak, hws⟩ := hrel
  obtain ⟨f, rfl⟩ : ∃ g, f = g + 1 := ⟨f - 1, by omega⟩
  have hms := hL.posOf
  have hpl := pos_len hL.suf
  have hpe := pos_le bs r1
  obtain ⟨q, hq⟩ : ∃ q : Int, q = (pos bs r1 : Nat) := ⟨_, rfl⟩
  have l1 := hL.blk.cell 1
  rw [← hq] at l1
  have lv := hL.blk.frozen 1
  have hsuf := hL.suf
  obtain ⟨AL, cL, gL, rfl, hgc, hgn, hga, hgm, _⟩ := hG.out (ena_law kb) (by omega)
  obtain ⟨AK, cK, rfl, hkey⟩ := row_key (n := keys.length) hY
  obtain ⟨nk, hnk⟩ : ∃ n, n = keys.length := ⟨_, rfl⟩
  rw [← hnk] at hY hkk
  have hnks : nk ≤ 60000000 := by have := hbl.out; omega
  clear hgc hgn hga hgm hRe hL1 hR1 hO1
  have p0 := hR.cell 0
  have f0 := hR.frozen 0
  have p1 := hR.cell 1
  have f1 := hR.frozen 1
  have p2 := hR.cell 2
  have f2 := hR.frozen 2
  have p3 := hR.cell 3
  have f3 := hR.frozen 3
  have p4 := hR.cell 4
  have f4 := hR.frozen 4
  have o0 := hO.cell 0
  have g0 := hO.frozen 0
  have o1 := hO.cell 1
  have g1 := hO.frozen 1
  have o2 := hO.cell 2
  have g2 := hO.frozen 2
  have o3 := hO.cell 3
  have g3 := hO.frozen 3
  have o4 := hO.cell 4
  have g4 := hO.frozen 4
  rw [← hnk]
  replace hnk := hi_ hnk
  replace hkey := hi_ hkey
  replace hL := hi_ hL
  replace hS := hi_ hS
  replace hR := hi_ hR
  replace hO := hi_ hO
  replace hG := hi_ hG
  replace hY := hi_ hY
  replace hkk := hi_ hkk
  replace hE := hi_ hE
  replace hf := hi_ hf
  replace hms := hi_ hms
  replace hpl := hi_ hpl
  replace hq := hi_ hq
  replace hsuf := hi_ hsuf
  replace hacc := hi_ hacc
  replace hak := hi_ hak
  obtain ⟨wj, rfl⟩ : ∃ wo : World, wo = wr := ⟨_, rfl⟩
  obtain ⟨a1, ha1⟩ : ∃ a : Int, a = (pos bs (blankM false r1) : Nat) := ⟨_, rfl⟩
  have hbsuf : blankM false r1 <:+ bs := (blank_suf false r1).trans hsuf.out
  replace hbsuf := hi_ hbsuf
  cases ht : tokS r1 with
  | err n u =>
   have hE2 : R = .err n u := by rw [← hE.out, dictS, ht]
   subst hE2
   have ctok := fun W (h : LX L A c bs D (.bool pl) W r1) => rx_err h ht ha1
   replace ctok := hi_ ctok
   clear ha1 ht
   go_upto_region 4 with (fail)
   go_at_call 110
   (with_reducible refine (ctok.out _ hL.out).mono ?_)
   rintro e w3 ⟨hn0, rfl, hL3, hS3⟩
   obtain ⟨w4, hw4⟩ : ∃ W, W = w3.alloc (.cells #[.int .i64 0, .int .i64 a1, .int .i64 0, .slice none 0 0] 99) := ⟨_, rfl⟩
   have b4 : Below w3.heap.size w3 w4 := by rw [hw4]; exact (Below.refl _ _).alloc (Nat.le_refl _) _
   have hK4 : Blk w4 w3.heap.size 99 #[.int .i64 0, .int .i64 a1, .int .i64 0, .slice none 0 0] := by rw [hw4]; exact Blk.new w3 _ _
   have hneT : w3.heap.size ≠ L := by have := hS3.size; have := hL3.lt; omega
   have k40 := hK4.cell 0
   have k41c := hK4.cell 1
   have k43 := hK4.cell 3
   have zz4 : w.heap.size + 2 ≤ w4.heap.size := by have := hS3.size; have := b4.size; omega
   have hkl4 : kb < w4.heap.size := by have := hS3.size; have := b4.size; omega
   replace hL := hi_ hL3
   replace hR := hi_ (hS3.blk hneR hR.out)
   replace hO := hi_ (hS3.blk hneO hO.out)
   replace hG := hi_ (hS3.rowG (ena_law kb) (by omega) hG.out)
   replace hY := hi_ (own_far hY.out fun b h1 h2 => hS3.block b h2 (by omega))
   replace hS := hi_ (hS.out.trans hS3)
   replace hL := hi_ (hL.out.below b4)
   replace hR := hi_ (hR.out.below b4 hR.out.lt)
   replace hO := hi_ (hO.out.below b4 hO.out.lt)
   replace hG := hi_ (hG.out.below (ena_law kb) b4)
   replace hY := hi_ (own_far hY.out fun b _ h2 => b4.block b h2)
   replace hS := hi_ (hS.out.then_ b4)
   replace l1 := hL.out.blk.cell 1
   replace lv := hL.out.blk.frozen 1
   replace p0 := hR.out.cell 0
   replace f0 := hR.out.frozen 0
   replace p1 := hR.out.cell 1
   replace f1 := hR.out.frozen 1
   replace p2 := hR.out.cell 2
   replace f2 := hR.out.frozen 2
   replace p3 := hR.out.cell 3
   replace f3 := hR.out.frozen 3
   replace p4 := hR.out.cell 4
   replace f4 := hR.out.frozen 4
   replace o0 := hO.out.cell 0
   replace g0 := hO.out.frozen 0
   replace o1 := hO.out.cell 1
   replace g1 := hO.out.frozen 1
   replace o2 := hO.out.cell 2
   replace g2 := hO.out.frozen 2
   replace o3 := hO.out.cell 3
   replace g3 := hO.out.frozen 3
   replace o4 := hO.out.cell 4
   replace g4 := hO.out.frozen 4
   go_upto_region 4 with (fail)
   rw [← hw4]
   replace hw4 := hi_ hw4
   clear b4 hS3 hL3
   have hnb : (n != 0) = true := by simpa using hn0
   go_wp2
   obtain ⟨Wf, hWf⟩ : ∃ W, W = ((((w4.setCell ⟨w.heap.size, 0, none⟩ (.int .i64 0)).setCell ⟨w.heap.size, 1, none⟩ (.int .i64 0)).setCell ⟨w.heap.size, 2, none⟩ (.slice none 0 0)).setCell ⟨w.heap.size, 3, none⟩ (.slice none 0 0)).setCell ⟨w.heap.size, 4, none⟩ (.slice none 0 0) := ⟨_, rfl⟩
   rw [← hWf]
   obtain ⟨hbf, hLf, hSf⟩ := whole_end hS.out hL.out hR.out (Nat.le_refl _) hneR.symm hAw.out hWf
   have u0 := hbf.cell 0
   have u1 := hbf.cell 1
   have u2 := hbf.cell 2
   have u3 := hbf.cell 3
   have u4 := hbf.cell 4
   replace hLf := hi_ hLf
   replace hSf := hi_ hSf
   replace hWf := hi_ hWf
   replace hn0 := hi_ hn0
   clear hbf
   exact bodyPost_ret (by simp [results, Tryz.results114, go_sem, u0, u1, u2, u3, u4]; try rfl) rfl ⟨hn0.out, rfl, hLf.out, hSf.out⟩
  | ok k u =>
   have htl := tok_len ht
   have ctok := fun W (h : LX L A c bs D (.bool pl) W r1) => rx_ok h ht ha1
   replace ctok := hi_ ctok
   replace ha1 := hi_ ha1
   go_upto_region 4 with (fail)
   go_at_call 110
   (with_reducible refine (ctok.out _ hL.out).mono ?_)
   rintro e w3 ⟨A3, c3, rfl, hO3, hL3, hS3⟩
   obtain ⟨w4, hw4⟩ : ∃ W, W = w3.alloc (.cells #[.int .i64 k.k, .int .i64 a1, .int .i64 k.n, .slice A3 k.b.length c3] 99) := ⟨_, rfl⟩
   have b4 : Below w3.heap.size w3 w4 := by rw [hw4]; exact (Below.refl _ _).alloc (Nat.le_refl _) _
   have hK4 : Blk w4 w3.heap.size 99 #[.int .i64 k.k, .int .i64 a1, .int .i64 k.n, .slice A3 k.b.length c3] := by rw [hw4]; exact Blk.new w3 _ _
   have hneT : w3.heap.size ≠ L := by have := hS3.size; have := hL3.lt; omega
   have k40 := hK4.cell 0
   have k41c := hK4.cell 1
   have k43 := hK4.cell 3
   have zz4 : w.heap.size + 2 ≤ w4.heap.size := by have := hS3.size; have := b4.size; omega
   have hkl4 : kb < w4.heap.size := by have := hS3.size; have := b4.size; omega
   replace hL := hi_ hL3
   replace hR := hi_ (hS3.blk hneR hR.out)
   replace hO := hi_ (hS3.blk hneO hO.out)
   replace hG := hi_ (hS3.rowG (ena_law kb) (by omega) hG.out)
   replace hY := hi_ (own_far hY.out fun b h1 h2 => hS3.block b h2 (by omega))
   replace hS := hi_ (hS.out.trans hS3)
   replace hL := hi_ (hL.out.below b4)
   replace hR := hi_ (hR.out.below b4 hR.out.lt)
   replace hO := hi_ (hO.out.below b4 hO.out.lt)
   replace hG := hi_ (hG.out.below (ena_law kb) b4)
   replace hY := hi_ (own_far hY.out fun b _ h2 => b4.block b h2)
   replace hS := hi_ (hS.out.then_ b4)
   replace l1 := hL.out.blk.cell 1
   replace lv := hL.out.blk.frozen 1
   replace p0 := hR.out.cell 0
   replace f0 := hR.out.frozen 0
   replace p1 := hR.out.cell 1
   replace f1 := hR.out.frozen 1
   replace p2 := hR.out.cell 2
   replace f2 := hR.out.frozen 2
   replace p3 := hR.out.cell 3
   replace f3 := hR.out.frozen 3
   replace p4 := hR.out.cell 4
   replace f4 := hR.out.frozen 4
   replace o0 := hO.out.cell 0
   replace g0 := hO.out.frozen 0
   replace o1 := hO.out.cell 1
   replace g1 := hO.out.frozen 1
   replace o2 := hO.out.cell 2
   replace g2 := hO.out.frozen 2
   replace o3 := hO.out.cell 3
   replace g3 := hO.out.frozen 3
   replace o4 := hO.out.cell 4
   replace g4 := hO.out.frozen 4
   obtain ⟨_, _, e3, hby4, hA3, _⟩ := (hO3.below b4).out2 (hO3.below b4).len
   cases e3
   have hOb4 := hO3.below b4
   replace hOb4 := hi_ hOb4
   replace hby4 := hi_ hby4
   clear hA3
   go_upto_region 4 with (fail)
   rw [← hw4]
   replace hw4 := hi_ hw4
   replace hK4 := hi_ hK4
   clear hO3 b4 hS3 hL3
   have hE2 := hE.out
   rw [dictS, ht] at hE2
   simp only [] at hE2
   clear ht hE
   by_cases hk8 : k.k = 8
   ·have hk1 : (k.k == 8) = true := by simpa using hk8
    rw [if_pos hk8] at hE2
    subst hE2
    clear hk8 htl
    go_wp2
    obtain ⟨Wf, hWf⟩ : ∃ W, W = ((((w4.setCell ⟨w.heap.size, 0, none⟩ (.int .i64 7)).setCell ⟨w.heap.size, 1, none⟩ (.int .i64 0)).setCell ⟨w.heap.size, 2, none⟩ (.slice none 0 0)).setCell ⟨w.heap.size, 3, none⟩ (.slice none 0 0)).setCell ⟨w.heap.size, 4, none⟩ (.slice AL acc.length cL) := ⟨_, rfl⟩
    rw [← hWf]
    obtain ⟨hbf, hgf, hzf⟩ := set_five hR.out hWf
    have u0 := hbf.cell 0
    have u1 := hbf.cell 1
    have u2 := hbf.cell 2
    have u3 := hbf.cell 3
    have u4 := hbf.cell 4
    have hLf := hL.out.grown_ hgf hneR.symm (fun h0 x hx => by have := hAw.out h0 x hx; omega)
    have hSf := hS.out.grown_ hgf (Nat.le_refl _)
    have hGf := RowG.base (B' := w.heap.size) (RowG.far_ en_law hgf (by omega) (RowG.en hG.out)) (by omega)
    have hIf : ObI w.heap.size Wf.heap.size Wf (.mk 7 0 [] [] acc) [.int .i64 7, .int .i64 0, .slice none 0 0, .slice none 0 0, .slice AL acc.length cL] :=
     built (tO := 26) (tE := 53) (tb := 5) (by omega) (by omega) (by omega) (by omega) (Own.nil _ _).row (by simp [maxLen]) (RowG.nil _ _ _ _ _) hGf
    replace hLf := hi_ hLf
    replace hSf := hi_ hSf
    replace hGf := hi_ hGf
    replace hIf := hi_ hIf
    replace hWf := hi_ hWf
    clear hbf hgf
    exact bodyPost_ret (by simp [results, Tryz.results114, go_sem, u0, u1, u2, u3, u4]; try rfl) rfl ⟨_, rfl, hIf.out, hLf.out, hSf.out⟩
   rw [if_neg hk8] at hE2
   have hk81 : (k.k == 8) = false := by simpa using hk8
   have cst := fun W n (h : LX L A c bs D (.bool pl) W u) => rp_stop h hbsuf.out ha1.out n
   replace cst := hi_ cst
   clear hk8 ha1
   by_cases hk0 : k.k = 0
   ·have hk1 : (k.k == 0) = true := by simpa using hk0
    rw [if_pos hk0] at hE2
    subst hE2
    clear hk0 htl
    go_wp2_with (go_at_call 111; (with_reducible refine (cst.out _ _ hL.out).mono ?_); rintro e w5 ⟨rfl, hL5, hS5⟩; replace hL := hi_ hL5; replace hR := hi_ (hS5.blk hneR hR.out); replace hO := hi_ (hS5.blk hneO hO.out); replace hG := hi_ (hS5.rowG (ena_law kb) (by omega) hG.out); replace hY := hi_ (own_far hY.out fun b h1 h2 => hS5.block b h2 (by omega)); replace hS := hi_ (hS.out.trans hS5); replace l1 := hL.out.blk.cell 1; replace lv := hL.out.blk.frozen 1; replace p0 := hR.out.cell 0; replace f0 := hR.out.frozen 0; replace p1 := hR.out.cell 1; replace f1 := hR.out.frozen 1; replace p2 := hR.out.cell 2; replace f2 := hR.out.frozen 2; replace p3 := hR.out.cell 3; replace f3 := hR.out.frozen 3; replace p4 := hR.out.cell 4; replace f4 := hR.out.frozen 4; replace o0 := hO.out.cell 0; replace g0 := hO.out.frozen 0; replace o1 := hO.out.cell 1; replace g1 := hO.out.frozen 1; replace o2 := hO.out.cell 2; replace g2 := hO.out.frozen 2; replace o3 := hO.out.cell 3; replace g3 := hO.out.frozen 3; replace o4 := hO.out.cell 4; replace g4 := hO.out.frozen 4; clear hL5 hS5)
    obtain ⟨Wf, hWf⟩ : ∃ W, W = ((((w5.setCell ⟨w.heap.size, 0, none⟩ (.int .i64 0)).setCell ⟨w.heap.size, 1, none⟩ (.int .i64 0)).setCell ⟨w.heap.size, 2, none⟩ (.slice none 0 0)).setCell ⟨w.heap.size, 3, none⟩ (.slice none 0 0)).setCell ⟨w.heap.size, 4, none⟩ (.slice none 0 0) := ⟨_, rfl⟩
    rw [← hWf]
    obtain ⟨hbf, hLf, hSf⟩ := whole_end hS.out hL.out hR.out (Nat.le_refl _) hneR.symm hAw.out hWf
    have u0 := hbf.cell 0
    have u1 := hbf.cell 1
    have u2 := hbf.cell 2
    have u3 := hbf.cell 3
    have u4 := hbf.cell 4
    replace hLf := hi_ hLf
    replace hSf := hi_ hSf
    replace hWf := hi_ hWf
    clear hbf
    exact bodyPost_ret (by simp [results, Tryz.results114, go_sem, u0, u1, u2, u3, u4]; try rfl) rfl ⟨by decide, rfl, hLf.out, hSf.out⟩
   rw [if_neg hk0] at hE2
   have hk01 : (k.k == 0) = false := by simpa using hk0
   clear hk0
   by_cases hk4 : k.k = 4
   ·have hk41 : (k.k != 4) = false := by simpa using hk4
    have htw : tokW k = k.b.length + 1 := by unfold tokW; rw [hk4]; simp
    rw [if_neg (by simpa using hk4)] at hE2
    clear hk4
    have hcon : (∀ j (hj : j < keys.length), keys[j] ≠ k.b) → keys.contains k.b = false := fun h9 => by
     rw [List.contains_eq_mem, decide_eq_false_iff_not]
     intro hm
     obtain ⟨j, hj, e⟩ := List.getElem_of_mem hm
     exact h9 j hj e
    replace hE2 := hi_ hE2
    replace hcon := hi_ hcon
    replace htw := hi_ htw
    replace htl := hi_ htl
    obtain ⟨oK, hoK⟩ : ∃ o : Nat, o = 0 := ⟨_, rfl⟩
    have hkey4 : 0 < keys.length → ∃ g, AK = some ⟨g, oK, none⟩ ∧ ∀ W, Below w4.heap.size w4 W → ∀ i (hi : i < keys.length), W.cell? ⟨g, oK + i, none⟩ = some (strV keys[i]) := fun hn => by
     obtain ⟨_, _, e, h9⟩ := row_key (n := keys.length) (show w4.ownsRow (w.heap.size + 2) 9 1 (.slice AK nk cK) keys.length (keys.map strV) by have := hY.out; rw [hnk.out] at this ⊢; exact this)
     cases e
     obtain ⟨g, e2, h10⟩ := h9 hn
     rw [hoK]
     exact ⟨g, e2, fun W hW i hi => (hW.cell (cell_lt (h10 i hi))).trans (h10 i hi)⟩
    replace hkey4 := hi_ hkey4
    replace hoK := hi_ hoK
    clear hkey
    go_upto_region 13 with (fail)
    go_loopw [10] (fun s10 wr => ∃ i : Nat, i ≤ nk ∧ s10 = .int .i64 i ∧ (∀ j (hj : j < keys.length), j < i → keys[j] ≠ k.b) ∧ Below w4.heap.size w4 wr) (fun s10 _ => nk - (RowKit.intOf s10).toNat)
    case atStart => exact ⟨0, by omega, rfl, fun j hj h => by omega, Below.refl _ _⟩
    case round =>
     obtain ⟨i, hi, rfl, hne, hBi⟩ := hrel
     have k43i := (hBi.cell (cell_lt k43)).trans k43
     by_cases hin : i < nk
     ·have hik : i < keys.length := by rw [← hnk.out]; exact hin
      obtain ⟨gK, rfl, hkc⟩ := hkey4.out (by omega)
      have hki := hkc wr hBi i hik
      obtain ⟨S, hS9⟩ : ∃ S : ByteArray, S = ⟨keys[i].toArray⟩ := ⟨_, rfl⟩
      have hki2 : wr.cell? ⟨gK, oK + i, none⟩ = some (.string S) := by rw [hki, hS9]; rfl
      have hcv := conv_any wr.drew A3 c3 k.b (hby4.out.below hBi.drew)
      have k41i := (hBi.cell (cell_lt k41c)).trans k41c
      have hSe : (S.toList == (bytes k.b).toList) = decide (keys[i] = k.b) := by
       rw [ByteArray.toList_eq, ByteArray.toList_eq, hS9, Bool.eq_iff_iff]
       show (keys[i].toArray.toList == k.b) = true ↔ _
       simp
      obtain ⟨eq, heq⟩ : ∃ b, b = decide (keys[i] = k.b) := ⟨_, rfl⟩
      rw [← heq] at hSe
      replace heq := hi_ heq
      replace hS9 := hi_ hS9
      replace hne := hi_ hne
      replace hBi := hi_ hBi
      clear hki hkc
      cases eq with
      | true =>
       have hcb : keys.contains k.b = true := by
        have e9 : keys[i] = k.b := by have := heq.out; simpa using this.symm
        rw [List.contains_eq_mem, decide_eq_true_eq, ← e9]
        exact List.getElem_mem hik
       have hE3 := hE2.out
       rw [if_pos hcb] at hE3
       subst hE3
       clear hcb hE2
       go_upto_region 15 with (fail)
       go_region_with (fail)
       all_goals (
        have hBd : Below w4.heap.size w4 wr.drew := hBi.out.drew
        replace hL := hi_ (hL.out.below hBd)
        replace hR := hi_ (hR.out.below hBd hR.out.lt)
        replace hO := hi_ (hO.out.below hBd hO.out.lt)
        replace hG := hi_ (hG.out.below (ena_law kb) hBd)
        replace hY := hi_ (own_far hY.out fun b _ h2 => hBd.block b h2)
        replace hS := hi_ (hS.out.then_ hBd)
        replace l1 := hL.out.blk.cell 1
        replace lv := hL.out.blk.frozen 1
        replace p0 := hR.out.cell 0
        replace f0 := hR.out.frozen 0
        replace p1 := hR.out.cell 1
        replace f1 := hR.out.frozen 1
        replace p2 := hR.out.cell 2
        replace f2 := hR.out.frozen 2
        replace p3 := hR.out.cell 3
        replace f3 := hR.out.frozen 3
        replace p4 := hR.out.cell 4
        replace f4 := hR.out.frozen 4
        replace o0 := hO.out.cell 0
        replace g0 := hO.out.frozen 0
        replace o1 := hO.out.cell 1
        replace g1 := hO.out.frozen 1
        replace o2 := hO.out.cell 2
        replace g2 := hO.out.frozen 2
        replace o3 := hO.out.cell 3
        replace g3 := hO.out.frozen 3
        replace o4 := hO.out.cell 4
        replace g4 := hO.out.frozen 4
        clear hBd
        go_wp2_with (go_at_call 111; (with_reducible refine (cst.out _ _ hL.out).mono ?_); rintro e w5 ⟨rfl, hL5, hS5⟩; replace hL := hi_ hL5; replace hR := hi_ (hS5.blk hneR hR.out); replace hO := hi_ (hS5.blk hneO hO.out); replace hG := hi_ (hS5.rowG (ena_law kb) (by omega) hG.out); replace hY := hi_ (own_far hY.out fun b h1 h2 => hS5.block b h2 (by omega)); replace hS := hi_ (hS.out.trans hS5); replace l1 := hL.out.blk.cell 1; replace lv := hL.out.blk.frozen 1; replace p0 := hR.out.cell 0; replace f0 := hR.out.frozen 0; replace p1 := hR.out.cell 1; replace f1 := hR.out.frozen 1; replace p2 := hR.out.cell 2; replace f2 := hR.out.frozen 2; replace p3 := hR.out.cell 3; replace f3 := hR.out.frozen 3; replace p4 := hR.out.cell 4; replace f4 := hR.out.frozen 4; replace o0 := hO.out.cell 0; replace g0 := hO.out.frozen 0; replace o1 := hO.out.cell 1; replace g1 := hO.out.frozen 1; replace o2 := hO.out.cell 2; replace g2 := hO.out.frozen 2; replace o3 := hO.out.cell 3; replace g3 := hO.out.frozen 3; replace o4 := hO.out.cell 4; replace g4 := hO.out.frozen 4; clear hL5 hS5)
        obtain ⟨Wf, hWf⟩ : ∃ W, W = ((((w5.setCell ⟨w.heap.size, 0, none⟩ (.int .i64 0)).setCell ⟨w.heap.size, 1, none⟩ (.int .i64 0)).setCell ⟨w.heap.size, 2, none⟩ (.slice none 0 0)).setCell ⟨w.heap.size, 3, none⟩ (.slice none 0 0)).setCell ⟨w.heap.size, 4, none⟩ (.slice none 0 0) := ⟨_, rfl⟩
        rw [← hWf]
        obtain ⟨hbf, hLf, hSf⟩ := whole_end hS.out hL.out hR.out (Nat.le_refl _) hneR.symm hAw.out hWf
        have u0 := hbf.cell 0
        have u1 := hbf.cell 1
        have u2 := hbf.cell 2
        have u3 := hbf.cell 3
        have u4 := hbf.cell 4
        replace hLf := hi_ hLf
        replace hSf := hi_ hSf
        replace hWf := hi_ hWf
        clear hbf
        exact bodyPost_ret (by simp [results, Tryz.results114, go_sem, u0, u1, u2, u3, u4]; try rfl) rfl ⟨by decide, rfl, hLf.out, hSf.out⟩)
      | false =>
       have hne9 : keys[i] ≠ k.b := by have := heq.out; simpa using this.symm
       replace hne9 := hi_ hne9
       go_upto_region 15 with (fail)
       go_region_with (fail)
       all_goals go_wp2
       all_goals go_roundw
       all_goals first
        | (case measure => simp [RowKit.intOf]; omega)
        | skip
       all_goals exact ⟨i + 1, by omega, by go_num, fun j hj hji => by
        by_cases hj2 : j = i
        ·subst hj2; exact hne9.out
        ·exact hne.out j hj (by omega), hBi.out.drew⟩
     ·obtain rfl : i = nk := by omega
      have hE3 := hE2.out
      rw [hcon.out (fun j hj => hne j hj (by have := hnk.out; omega)), if_neg (by decide)] at hE3
      replace hE3 := hi_ hE3
      have hcv := conv_any wr A3 c3 k.b (hby4.out.below hBi)
      have hOb5 := hOb4.out.below hBi
      have hkb5 : kb < wr.heap.size := by have := hBi.size; omega
      have zz5 : w.heap.size + 2 ≤ wr.heap.size := by have := hBi.size; omega
      replace hL := hi_ (hL.out.below hBi)
      replace hR := hi_ (hR.out.below hBi hR.out.lt)
      replace hO := hi_ (hO.out.below hBi hO.out.lt)
      replace hG := hi_ (hG.out.below (ena_law kb) hBi)
      replace hY := hi_ (own_far hY.out fun b _ h2 => hBi.block b h2)
      replace hS := hi_ (hS.out.then_ hBi)
      replace l1 := hL.out.blk.cell 1
      replace lv := hL.out.blk.frozen 1
      replace p0 := hR.out.cell 0
      replace f0 := hR.out.frozen 0
      replace p1 := hR.out.cell 1
      replace f1 := hR.out.frozen 1
      replace p2 := hR.out.cell 2
      replace f2 := hR.out.frozen 2
      replace p3 := hR.out.cell 3
      replace f3 := hR.out.frozen 3
      replace p4 := hR.out.cell 4
      replace f4 := hR.out.frozen 4
      replace o0 := hO.out.cell 0
      replace g0 := hO.out.frozen 0
      replace o1 := hO.out.cell 1
      replace g1 := hO.out.frozen 1
      replace o2 := hO.out.cell 2
      replace g2 := hO.out.frozen 2
      replace o3 := hO.out.cell 3
      replace g3 := hO.out.frozen 3
      replace o4 := hO.out.cell 4
      replace g4 := hO.out.frozen 4
      obtain ⟨wB, hwB⟩ : ∃ W, W = wr.alloc (.cells #[.string (bytes k.b)] 9) := ⟨_, rfl⟩
      have bB : Below wr.heap.size wr wB := by rw [hwB]; exact (Below.refl _ _).alloc (Nat.le_refl _) _
      have hcB : wB.cell? ⟨wr.heap.size, 0, none⟩ = some (.string (bytes k.b)) := by rw [hwB]; exact (Blk.new wr 9 #[.string (bytes k.b)]).cell 0
      have zB : wB.heap.size = wr.heap.size + 1 := by rw [hwB]; exact World.size_alloc _ _
      have hK4B := hK4.out.below hBi hK4.out.lt
      replace hL := hi_ (hL.out.below bB)
      replace hR := hi_ (hR.out.below bB hR.out.lt)
      replace hO := hi_ (hO.out.below bB hO.out.lt)
      replace hG := hi_ (hG.out.below (ena_law kb) bB)
      replace hY := hi_ (own_far hY.out fun b _ h2 => bB.block b h2)
      replace hS := hi_ (hS.out.then_ bB)
      replace l1 := hL.out.blk.cell 1
      replace lv := hL.out.blk.frozen 1
      replace p0 := hR.out.cell 0
      replace f0 := hR.out.frozen 0
      replace p1 := hR.out.cell 1
      replace f1 := hR.out.frozen 1
      replace p2 := hR.out.cell 2
      replace f2 := hR.out.frozen 2
      replace p3 := hR.out.cell 3
      replace f3 := hR.out.frozen 3
      replace p4 := hR.out.cell 4
      replace f4 := hR.out.frozen 4
      replace o0 := hO.out.cell 0
      replace g0 := hO.out.frozen 0
      replace o1 := hO.out.cell 1
      replace g1 := hO.out.frozen 1
      replace o2 := hO.out.cell 2
      replace g2 := hO.out.frozen 2
      replace o3 := hO.out.cell 3
      replace g3 := hO.out.frozen 3
      replace o4 := hO.out.cell 4
      replace g4 := hO.out.frozen 4
      have hltY := World.ownsRow.lt hY.out
      have hrowD : ∀ g, (Value.slice AK i cK).ownBlock = some g → g = kb ∧ (Value.slice AL acc.length cL).ownBlock ≠ some kb := fun g hg => by
       have e := hkk.out g hg
       refine ⟨e, ?_⟩
       rw [← e]
       exact row_other hY.out hG.out.row hg
      have hK4C := hK4B.below bB hK4B.lt
      have hneK : ∀ g, (Value.slice AK i cK).ownBlock = some g → w3.heap.size ≠ g := fun g hg e => by
       rcases hY.out.2 with ⟨e1, _⟩ | ⟨g1, c1, cur1, e1, _, hh1, _⟩
       ·rw [e1] at hg; simp [Value.ownBlock] at hg
       ·rw [e1] at hg
        have e2 : g1 = g := by simpa [Value.ownBlock] using hg
        have h9 := hK4C
        unfold Blk at h9
        rw [e, ← e2, hh1] at h9
        injection h9 with h9
        injection h9 with _ h9
        exact absurd h9 (by decide)
      replace hltY := hi_ hltY
      replace hrowD := hi_ hrowD
      replace hneK := hi_ hneK
      replace hK4B := hi_ hK4B
      replace hK4C := hi_ hK4C
      replace zB := hi_ zB
      have hObB := hOb5.below bB
      replace hObB := hi_ hObB
      clear hOb5
      replace hwB := hi_ hwB
      replace hne := hi_ hne
      replace hBi := hi_ hBi
      clear hE2 hcon
      have bB9 := hi_ bB
      clear bB
      go_wp2_with (at_builtin; rw [← hwB.out]; refine app_key rfl _ _ rfl (w.heap.size + 2) _ i _ rfl hY.out wr.heap.size _ rfl hcB (by omega) (by have := zB.out; omega) ?_; intro vK wK hY9 hg9 hat9; replace hY9 := hi_ hY9; replace hg9 := hi_ hg9; replace hat9 := hi_ hat9)
      have hBx : w.heap.size + 2 ≤ wB.heap.size := by have := zB.out; omega
      have hB8 : Below (w.heap.size + 2) wB wK := (Below.refl _ _ |>.mono hBx).grown hg9.out hBx (fun g hg => (hltY.out g hg).1)
      have hLK : LX L A c bs D (.bool pl) wK u := hL.out.belowB hB8 (by omega) (fun h0 x hx => by have := hAw.out h0 x hx; omega)
      have hSK : Save L w wK := hS.out.thenB (hB8.mono (by omega))
      have hRK := hR.out.below hB8 (by omega)
      have hOK := hO.out.below hB8 (by omega)
      have hTK : Blk wK w3.heap.size 99 #[.int .i64 k.k, .int .i64 a1, .int .i64 k.n, .slice A3 k.b.length c3] := hK4C.out.grown hg9.out (fun e => hneK.out _ e.symm rfl)
      have hltK := World.ownsRow.lt hY9.out
      obtain ⟨kb', hk1, hk2, hk3⟩ : ∃ kb', (∀ g, vK.ownBlock = some g → g = kb') ∧ (kb' = kb ∨ wB.heap.size ≤ kb') ∧ kb' < wK.heap.size := by
       have z9 := hB8.size
       have z8 := zB.out
       cases hv : vK.ownBlock with
       | none => exact ⟨kb, fun g hg => (by cases hg), .inl rfl, by omega⟩
       | some g =>
        refine ⟨g, fun g' hg => by injection hg with hg; exact hg.symm, ?_, (hltK g hv).2⟩
        have hat9' : vK.ownBlock = (Value.slice AK i cK).ownBlock ∨ vK.ownBlock = some wB.heap.size := hat9.out
        rcases hat9' with e | e
        ·exact .inl (hkk.out g (by rw [← e]; exact hv))
        ·rw [hv] at e; injection e with e; right; omega
      have hGK : RowG (EnA kb') 53 6 (w.heap.size + 2) wK (.slice AL acc.length cL) acc rd := RowG.moved hG.out hg9.out (fun g hg => hrowD.out g hg) hk2
      have hObK := own_grown hObB.out hg9.out (fun g hg => row_other5 hY.out hObB.out hg)
      obtain ⟨_, _, eK, hbyK, _, _⟩ := hObK.out2 hObK.len
      cases eK
      clear hL hS hR hO hG l1 lv p0 p1 p2 p3 p4 f0 f1 f2 f3 f4 o0 o1 o2 o3 o4 g0 g1 g2 g3 g4 k40 k41c k43 k43i hcv
      have hL := hi_ hLK
      have hS := hi_ hSK
      have hR := hi_ hRK
      have hO := hi_ hOK
      have hG := hi_ hGK
      have hY := hi_ hY9.out
      have hT := hi_ hTK
      have hB9 := hi_ hObK
      replace l1 := hL.out.blk.cell 1
      replace lv := hL.out.blk.frozen 1
      replace p0 := hR.out.cell 0
      replace f0 := hR.out.frozen 0
      replace p1 := hR.out.cell 1
      replace f1 := hR.out.frozen 1
      replace p2 := hR.out.cell 2
      replace f2 := hR.out.frozen 2
      replace p3 := hR.out.cell 3
      replace f3 := hR.out.frozen 3
      replace p4 := hR.out.cell 4
      replace f4 := hR.out.frozen 4
      replace o0 := hO.out.cell 0
      replace g0 := hO.out.frozen 0
      replace o1 := hO.out.cell 1
      replace g1 := hO.out.frozen 1
      replace o2 := hO.out.cell 2
      replace g2 := hO.out.frozen 2
      replace o3 := hO.out.cell 3
      replace g3 := hO.out.frozen 3
      replace o4 := hO.out.cell 4
      replace g4 := hO.out.frozen 4
      have k43 := hTK.cell 3
      have cv := hv.out L A c bs D wK u hLK hsm
      have hcut := val_cut pl d u
      have zzK : w.heap.size + 2 ≤ wK.heap.size := by have := hB8.size; omega
      obtain ⟨V, hV⟩ : ∃ V, V = valS pl d u := ⟨_, rfl⟩
      rw [← hV] at cv hE3 hcut
      replace cv := hi_ cv
      replace hV := hi_ hV
      obtain ⟨kbo, hkbo⟩ : ∃ b, b = kb := ⟨_, rfl⟩
      replace hk1 := hi_ hk1
      replace hk2 := hi_ hk2
      replace hltK := hi_ hltK
      replace hbyK := hi_ hbyK
      clear hLK hSK hRK hOK hGK hTK hObK hbyK hY9
      clear hkk hkl hkl4 hkb5 hkbo
      obtain ⟨kb, rfl⟩ : ∃ b, b = kb' := ⟨_, rfl⟩
      cases V with
      | err n v =>
       have hE4 : R = .err n v := by rw [← hE3.out]
       subst hE4
       clear hcut
       (with_reducible refine (cv.out).mono ?_)
       rintro e w6 ⟨hn0, rfl, hL6, hS6⟩
       obtain ⟨w7, hw7⟩ : ∃ W, W = w6.alloc (.cells #[.int .i64 0, .int .i64 0, .slice none 0 0, .slice none 0 0, .slice none 0 0] 26) := ⟨_, rfl⟩
       have b7 : Below w6.heap.size w6 w7 := by rw [hw7]; exact (Below.refl _ _).alloc (Nat.le_refl _) _
       replace hL := hi_ hL6
       replace hR := hi_ (hS6.blk hneR hR.out)
       replace hO := hi_ (hS6.blk hneO hO.out)
       replace hG := hi_ (hS6.rowG (ena_law kb) (by omega) hG.out)
       replace hY := hi_ (own_far hY.out fun b h1 h2 => hS6.block b h2 (by omega))
       replace hS := hi_ (hS.out.trans hS6)
       replace hL := hi_ (hL.out.below b7)
       replace hR := hi_ (hR.out.below b7 hR.out.lt)
       replace hO := hi_ (hO.out.below b7 hO.out.lt)
       replace hG := hi_ (hG.out.below (ena_law kb) b7)
       replace hY := hi_ (own_far hY.out fun b _ h2 => b7.block b h2)
       replace hS := hi_ (hS.out.then_ b7)
       replace l1 := hL.out.blk.cell 1
       replace lv := hL.out.blk.frozen 1
       replace p0 := hR.out.cell 0
       replace f0 := hR.out.frozen 0
       replace p1 := hR.out.cell 1
       replace f1 := hR.out.frozen 1
       replace p2 := hR.out.cell 2
       replace f2 := hR.out.frozen 2
       replace p3 := hR.out.cell 3
       replace f3 := hR.out.frozen 3
       replace p4 := hR.out.cell 4
       replace f4 := hR.out.frozen 4
       replace o0 := hO.out.cell 0
       replace g0 := hO.out.frozen 0
       replace o1 := hO.out.cell 1
       replace g1 := hO.out.frozen 1
       replace o2 := hO.out.cell 2
       replace g2 := hO.out.frozen 2
       replace o3 := hO.out.cell 3
       replace g3 := hO.out.frozen 3
       replace o4 := hO.out.cell 4
       replace g4 := hO.out.frozen 4
       go_upto_region 19 with (fail)
       rw [← hw7]
       replace hw7 := hi_ hw7
       have hnb : (n != 0) = true := by simpa using hn0
       clear b7 hL6 hS6
       go_wp2
       obtain ⟨Wf, hWf⟩ : ∃ W, W = ((((w7.setCell ⟨w.heap.size, 0, none⟩ (.int .i64 0)).setCell ⟨w.heap.size, 1, none⟩ (.int .i64 0)).setCell ⟨w.heap.size, 2, none⟩ (.slice none 0 0)).setCell ⟨w.heap.size, 3, none⟩ (.slice none 0 0)).setCell ⟨w.heap.size, 4, none⟩ (.slice none 0 0) := ⟨_, rfl⟩
       rw [← hWf]
       obtain ⟨hbf, hLf, hSf⟩ := whole_end hS.out hL.out hR.out (Nat.le_refl _) hneR.symm hAw.out hWf
       have u0 := hbf.cell 0
       have u1 := hbf.cell 1
       have u2 := hbf.cell 2
       have u3 := hbf.cell 3
       have u4 := hbf.cell 4
       replace hLf := hi_ hLf
       replace hSf := hi_ hSf
       replace hWf := hi_ hWf
       replace hn0 := hi_ hn0
       clear hbf
       exact bodyPost_ret (by simp [results, Tryz.results114, go_sem, u0, u1, u2, u3, u4]; try rfl) rfl ⟨hn0.out, rfl, hLf.out, hSf.out⟩
      | ok o v =>
       have hcut2 := hcut o v rfl
       replace hcut2 := hi_ hcut2
       clear hcut
       (with_reducible refine (cv.out).mono ?_)
       rintro e w6 ⟨us, rfl, hI6, hL6, hS6⟩
       obtain ⟨xn, F1, F2, F3, fn1, fc1, fn2, fc2, fn3, fc3, hxs⟩ := ob_five2 hI6.ob
       obtain ⟨xk, hxk⟩ : ∃ k, k = o.kind := ⟨_, rfl⟩
       rw [← hxk] at hxs
       subst hxs
       replace hxk := hi_ hxk
       obtain ⟨w7, hw7⟩ : ∃ W, W = w6.alloc (.cells #[.int .i64 xk, .int .i64 xn, .slice F1 fn1 fc1, .slice F2 fn2 fc2, .slice F3 fn3 fc3] 26) := ⟨_, rfl⟩
       have b7 : Below w6.heap.size w6 w7 := by rw [hw7]; exact (Below.refl _ _).alloc (Nat.le_refl _) _
       have hX7 : Blk w7 w6.heap.size 26 #[.int .i64 xk, .int .i64 xn, .slice F1 fn1 fc1, .slice F2 fn2 fc2, .slice F3 fn3 fc3] := by rw [hw7]; exact Blk.new w6 _ _
       have hI7 := obI_below hI6 b7
       replace hL := hi_ hL6
       replace hT := hi_ ((hS6.blk hneT hT.out).below b7 (hS6.blk hneT hT.out).lt)
       replace hB9 := hi_ ((hS6.own (by omega) hB9.out).below b7)
       replace hR := hi_ (hS6.blk hneR hR.out)
       replace hO := hi_ (hS6.blk hneO hO.out)
       replace hG := hi_ (hS6.rowG (ena_law kb) (by omega) hG.out)
       replace hY := hi_ (own_far hY.out fun b h1 h2 => hS6.block b h2 (by omega))
       replace hS := hi_ (hS.out.trans hS6)
       replace hL := hi_ (hL.out.below b7)
       replace hR := hi_ (hR.out.below b7 hR.out.lt)
       replace hO := hi_ (hO.out.below b7 hO.out.lt)
       replace hG := hi_ (hG.out.below (ena_law kb) b7)
       replace hY := hi_ (own_far hY.out fun b _ h2 => b7.block b h2)
       replace hS := hi_ (hS.out.then_ b7)
       replace l1 := hL.out.blk.cell 1
       replace lv := hL.out.blk.frozen 1
       replace p0 := hR.out.cell 0
       replace f0 := hR.out.frozen 0
       replace p1 := hR.out.cell 1
       replace f1 := hR.out.frozen 1
       replace p2 := hR.out.cell 2
       replace f2 := hR.out.frozen 2
       replace p3 := hR.out.cell 3
       replace f3 := hR.out.frozen 3
       replace p4 := hR.out.cell 4
       replace f4 := hR.out.frozen 4
       replace o0 := hO.out.cell 0
       replace g0 := hO.out.frozen 0
       replace o1 := hO.out.cell 1
       replace g1 := hO.out.frozen 1
       replace o2 := hO.out.cell 2
       replace g2 := hO.out.frozen 2
       replace o3 := hO.out.cell 3
       replace g3 := hO.out.frozen 3
       replace o4 := hO.out.cell 4
       replace g4 := hO.out.frozen 4
       have k43 := hT.out.cell 3
       have x0 := hX7.cell 0
       have x1 := hX7.cell 1
       have x2 := hX7.cell 2
       have x3 := hX7.cell 3
       have x4 := hX7.cell 4
       obtain ⟨_, _, eK, hby7, _, _⟩ := hB9.out.out2 hB9.out.len
       cases eK
       have hcv := conv_any w7 A3 c3 k.b hby7
       have hbo := bulk_pos o
       have z7 : w7.heap.size = w6.heap.size + 1 := by rw [hw7]; exact World.size_alloc _ _
       have z6 := hS6.size
       have zz7 : w.heap.size + 2 ≤ w7.heap.size := by omega
       have hkb7 : kb < w7.heap.size := by omega
       have cw := ref_withG kb w7 hkb7 (w.heap.size + 2) _ acc rd hG.out zz7 (bytes k.b) o _ (by have := hak.out; have := hnk.out; omega) hI7.ob (by have h1 := hcut2.out; have h2 := htl.out; have h3 := hacc.out; have h4 := hbl.out; omega) hB9.out.len
       replace cw := hi_ cw
       replace z7 := hi_ z7
       replace hI7 := hi_ hI7
       replace hX7 := hi_ hX7
       clear b7 hL6 hS6 hI6 hby7
       go_upto_region 19 with (fail)
       rw [← hw7]
       replace hw7 := hi_ hw7
       go_wp2_with (go_at_call 57; (with_reducible refine (cw.out).mono ?_); rintro e w8 ⟨v8, rd8, rfl, hG8, hge8, hB8w⟩; obtain ⟨A8, c8, rfl⟩ : ∃ A c, v8 = .slice A (putE (bytes k.b).data.toList o acc).length c := (by obtain ⟨A, c, g, e, _⟩ := hG8.out (ena_law kb) (by omega); exact ⟨A, c, e⟩); obtain ⟨n8, hn8⟩ : ∃ n, n = (putE (bytes k.b).data.toList o acc).length := ⟨_, rfl⟩; rw [← hn8] at hG8 ⊢; have hO8 := hO.out.below hB8w hO.out.lt; have o84 := hO8.cell 4; have g84 := hO8.frozen 4; replace hO8 := hi_ hO8; replace hn8 := hi_ hn8; replace hG8 := hi_ hG8; replace hge8 := hi_ hge8; replace hB8w := hi_ hB8w)
       obtain ⟨w9, hw9⟩ : ∃ W, W = w8.setCell ⟨w.heap.size + 1, 4, none⟩ (.slice A8 n8 c8) := ⟨_, rfl⟩
       rw [← hw9]
       have hgw9 : w8.grownBy w9 (some (w.heap.size + 1)) := by rw [hw9]; exact set_grown w8 (w.heap.size + 1) 4 _
       have hL9 : LX L A c bs D (.bool pl) w9 v := by
        rw [hw9]
        exact (hL.out.below hB8w.out).far_ hneO.symm (fun h0 x hx => by have := hAw.out h0 x hx; omega)
       have hS9 : Save L w w9 := by rw [hw9]; exact (hS.out.then_ hB8w.out).far_ (by omega)
       have hR9 : Blk w9 w.heap.size 26 #[.int .i64 0, .int .i64 0, .slice none 0 0, .slice none 0 0, .slice none 0 0] := by rw [hw9]; exact (hR.out.below hB8w.out hR.out.lt).far (p := ⟨w.heap.size + 1, 4, none⟩) (by simp) _
       have hO9 : Blk w9 (w.heap.size + 1) 26 #[.int .i64 7, .int .i64 0, .slice none 0 0, .slice none 0 0, .slice A8 n8 c8] := by rw [hw9]; exact hO8.out.set_ 4 _
       have hG9 : RowG (EnA kb) 53 6 (w.heap.size + 2) w9 (.slice A8 n8 c8) (putE k.b o acc) rd8 := by have := hG8.out; exact RowG.far_ (ena_law kb) hgw9 (by omega) this
       have hYb := own_far hY.out fun b _ h2 => hB8w.out.block b h2
       have hY9 : w9.ownsRow (w.heap.size + 2) 9 1 vK (keys ++ [k.b]).length ((keys ++ [k.b]).map strV) := by
        have hy := own_far hYb fun b h1 h2 => hgw9.block b h2 (by intro e; injection e with e; omega)
        have e1 : (keys ++ [k.b]).length = i + 1 := by have := hnk.out; simp only [List.length_append, List.length_cons, List.length_nil]; omega
        rw [e1, List.map_append]
        exact hy
       have s1 := hB8w.out.size
       have s2 : w9.heap.size = w8.heap.size := by rw [hw9]; simp [World.setCell]
       have e1 := hL9.posOf
       have e2 := hms.out
       have e3 := pos_len hL9.suf
       have e4 := hpl.out
       have e5 := hcut2.out
       have e6 := hf.out
       have e7 := hacc.out
       have e8 := pos_le bs v
       have e9 := htl.out
       have e10 := htw.out
       have e11 := putE_len k.b o acc
       have e12 := hak.out
       refine ⟨⟨f, keys ++ [k.b], putE k.b o acc, _, _, kb, v, hL9, hS9, hR9, hO9, hG9, hY9, hk1.out, by omega, hE3.out, by omega, by simp only [List.length_append, List.length_cons, List.length_nil]; omega, by simp only [List.length_append, List.length_cons, List.length_nil]; omega, by omega⟩, by rw [e1, e2]; omega⟩
   ·have hk41 : (k.k != 4) = true := by simpa using hk4
    rw [if_pos hk4] at hE2
    subst hE2
    clear hk4 htl
    go_wp2_with (go_at_call 111; (with_reducible refine (cst.out _ _ hL.out).mono ?_); rintro e w5 ⟨rfl, hL5, hS5⟩; replace hL := hi_ hL5; replace hR := hi_ (hS5.blk hneR hR.out); replace hO := hi_ (hS5.blk hneO hO.out); replace hG := hi_ (hS5.rowG (ena_law kb) (by omega) hG.out); replace hY := hi_ (own_far hY.out fun b h1 h2 => hS5.block b h2 (by omega)); replace hS := hi_ (hS.out.trans hS5); replace l1 := hL.out.blk.cell 1; replace lv := hL.out.blk.frozen 1; replace p0 := hR.out.cell 0; replace f0 := hR.out.frozen 0; replace p1 := hR.out.cell 1; replace f1 := hR.out.frozen 1; replace p2 := hR.out.cell 2; replace f2 := hR.out.frozen 2; replace p3 := hR.out.cell 3; replace f3 := hR.out.frozen 3; replace p4 := hR.out.cell 4; replace f4 := hR.out.frozen 4; replace o0 := hO.out.cell 0; replace g0 := hO.out.frozen 0; replace o1 := hO.out.cell 1; replace g1 := hO.out.frozen 1; replace o2 := hO.out.cell 2; replace g2 := hO.out.frozen 2; replace o3 := hO.out.cell 3; replace g3 := hO.out.frozen 3; replace o4 := hO.out.cell 4; replace g4 := hO.out.frozen 4; clear hL5 hS5)
    obtain ⟨Wf, hWf⟩ : ∃ W, W = ((((w5.setCell ⟨w.heap.size, 0, none⟩ (.int .i64 0)).setCell ⟨w.heap.size, 1, none⟩ (.int .i64 0)).setCell ⟨w.heap.size, 2, none⟩ (.slice none 0 0)).setCell ⟨w.heap.size, 3, none⟩ (.slice none 0 0)).setCell ⟨w.heap.size, 4, none⟩ (.slice none 0 0) := ⟨_, rfl⟩
    rw [← hWf]
    obtain ⟨hbf, hLf, hSf⟩ := whole_end hS.out hL.out hR.out (Nat.le_refl _) hneR.symm hAw.out hWf
    have u0 := hbf.cell 0
    have u1 := hbf.cell 1
    have u2 := hbf.cell 2
    have u3 := hbf.cell 3
    have u4 := hbf.cell 4
    replace hLf := hi_ hLf
    replace hSf := hi_ hSf
    replace hWf := hi_ hWf
    clear hbf
    exact bodyPost_ret (by simp [results, Tryz.results114, go_sem, u0, u1, u2, u3, u4]; try rfl) rfl ⟨by decide, rfl, hLf.out, hSf.out⟩
end
end Go.Proofs.YthacnnmlephkhaaGreatDoor

/- Objects put together by the document: Dict. No condition. -/
namespace Go.Proofs.YthacnnmlephkhaaGreatDoor
open Go Go.RowKit Go.Wk Go.Rd
def putL (l : List (Bs × Ob)) : List (Bs × Ob) := l.foldl (fun d e => putE e.1 e.2 d) []
def GDe (S B g : Nat) (vD : Value) (gL oL m cL i : Nat) (ag : Array Value) (R : List (Bs × Ob)) : Nat → Value → World → Prop := fun j v w => match j with
 | 0 => v = .pointer (some ⟨g, 4, none⟩)
 | 1 => v = vD
 | 2 => v = .slice (some ⟨gL, oL, none⟩) m cL
 | 3 => v = .int .i64 (i : Int)
 | 4 => v = .pointer (some ⟨gL, oL + i * 6, none⟩)
 | 5 => v = .agg ag
 | 6 => ∃ rd, RowG (EnA g) 53 6 B w v R rd ∧ (∀ q, v.ownBlock = some q → S ≤ q)
 | _ => v = .pointer (some ⟨g, 4, none⟩)
theorem GDe_mono {S B g : Nat} {vD : Value} {gL oL m cL i : Nat} {ag : Array Value} {R : List (Bs × Ob)} (j : Nat) (v : Value) (w w' : World) (hG : GDe S B g vD gL oL m cL i ag R j v w) (hk : Below w.heap.size w w') : GDe S B g vD gL oL m cL i ag R j v w' := by
 unfold GDe at hG ⊢
 split at hG <;> first
  | exact hG
  | (obtain ⟨rd, h1, h2⟩ := hG; exact ⟨rd, h1.below (ena_law g) hk, h2⟩)
set_option maxHeartbeats 8000000 in
set_option maxRecDepth 100000 in
theorem ref_DictC (c : Nat) (l : List (Bs × Ob)) (gL oL m : Nat) (hm : m = l.length) (vl : Nat → List Value) (w : World) (hn : m ≤ 1000) (hc : m ≤ c)
 (hl : ∀ i, (hi : i < l.length) → ∃ us, vl i = strV l[i].1 :: us ∧ l[i].1.length ≤ maxLen ∧ ObAt w l[i].2 us ∧ l[i].2.bulk ≤ 1048576) (hlv : ∀ i, i < l.length → ∀ j, j < 6 → w.cell? ⟨gL, oL + (6 * i + j), none⟩ = (vl i)[j]?) :
 Calls Tryz.prog 24 #[.slice (some ⟨gL, oL, none⟩) m c] w fun e w' => ∃ us, e = .returned (.agg (List.toArray us)) ∧ ObI w.heap.size w'.heap.size w' (.mk 7 0 [] [] (putL l)) us ∧ Below w.heap.size w w' := by
 obtain ⟨W1, hW1⟩ : ∃ W, W = (w.alloc (.cells #[.int .i64 0, .int .i64 0, .slice none 0 0, .slice none 0 0, .slice none 0 0] 26)).alloc (.cells #[.int .i64 7, .int .i64 0, .slice none 0 0, .slice none 0 0, .slice none 0 0] 26) := ⟨_, rfl⟩
 have b1 : Below w.heap.size w W1 := by rw [hW1]; exact ((Below.refl _ _).alloc (Nat.le_refl _) _).alloc (by rw [World.size_alloc]; omega) _
 have z1 : W1.heap.size = w.heap.size + 2 := by rw [hW1, World.size_alloc, World.size_alloc]
 have hR1 : Blk W1 w.heap.size 26 #[.int .i64 0, .int .i64 0, .slice none 0 0, .slice none 0 0, .slice none 0 0] := by rw [hW1]; exact (Blk.new w _ _).alloc _
 have hO1 : Blk W1 (w.heap.size + 1) 26 #[.int .i64 7, .int .i64 0, .slice none 0 0, .slice none 0 0, .slice none 0 0] := by
  rw [hW1, show w.heap.size + 1 = (w.alloc (.cells #[.int .i64 0, .int .i64 0, .slice none 0 0, .slice none 0 0, .slice none 0 0] 26)).heap.size from (World.size_alloc _ _).symm]; exact Blk.new _ _ _
 replace b1 := hi_ b1
 replace hR1 := hi_ hR1
 replace hO1 := hi_ hO1
 replace hl := hi_ hl
 replace hlv := hi_ hlv
 replace hm := hi_ hm
 go_enter Tryz.func24, Tryz.ntmps24
 go_upto_region 2 with (fail)
 rw [← hW1]
 replace hW1 := hi_ hW1
 go_wp2
 go_loopw [4] (fun s4 wr => ∃ (i : Nat) (vD : Value) (rd : List (List Value)), i ≤ m ∧ s4 = .int .i64 i ∧ Blk wr (w.heap.size + 1) 26 #[.int .i64 7, .int .i64 0, .slice none 0 0, .slice none 0 0, vD] ∧ RowG (EnA (w.heap.size + 1)) 53 6 (w.heap.size + 2) wr vD (putL (l.take i)) rd ∧ (putL (l.take i)).length ≤ i ∧ Below (w.heap.size + 1) W1 wr ∧ w.heap.size + 2 ≤ wr.heap.size) (fun s4 _ => m - (RowKit.intOf s4).toNat)
 case atStart => exact ⟨0, _, [], by omega, rfl, hO1.out, RowG.nil _ _ _ _ _, by simp [putL], (Below.refl _ _), by omega⟩
 case round =>
  obtain ⟨i, vD, rd, hi, rfl, hO, hG, hlen, hbelow, hs⟩ := hrel
  obtain ⟨A3, n3, c3, rfl⟩ : ∃ A' n' c', vD = .slice A' n' c' := by obtain ⟨A', cc', g', hv', _⟩ := hG.out (ena_law _) (by omega); exact ⟨_, _, _, hv'⟩
  by_cases him : i < m
  ·have hil : i < l.length := by rw [← hm.out]; exact him
   have hbw : Below w.heap.size w wr := b1.out.trans (hbelow.mono (by omega))
   obtain ⟨e, he⟩ : ∃ e, e = l[i] := ⟨_, rfl⟩
   obtain ⟨us0, hus0, hkl, hob0, hzo⟩ := hl.out i hil
   have hob := hob0.kept hbw
   have hcv := hlv.out i hil
   rw [hus0] at hcv
   rw [← he] at hob hzo hkl hcv
   obtain ⟨en, E1, E2, E3, en1, ec1, en2, ec2, en3, ec3, hys⟩ := ob_five2 hob
   obtain ⟨kk, hkk⟩ : ∃ k, k = e.2.kind := ⟨_, rfl⟩
   rw [← hkk] at hys
   subst hys
   obtain ⟨K, hK⟩ : ∃ K : ByteArray, K = ⟨e.1.toArray⟩ := ⟨_, rfl⟩
   have hKs : strV e.1 = .string K := by rw [hK]; rfl
   have hKl : K.data.toList = e.1 := by rw [hK]
   rw [hKs] at hcv
   have six : ∀ j u, [Value.string K, .int .i64 kk, .int .i64 en, .slice E1 en1 ec1, .slice E2 en2 ec2, .slice E3 en3 ec3][j]? = some u → wr.cell? ⟨gL, oL + i * 6 + j, none⟩ = some u := fun j u hj => by
    have h0 := hcv j (by have := (List.getElem?_eq_some_iff.1 hj).1; simpa using this)
    rw [hj] at h0
    have h1 := (hbw.cell (cell_lt h0)).trans h0
    rw [show oL + (6 * i + j) = oL + i * 6 + j by omega] at h1
    exact h1
   have x0 : wr.cell? ⟨gL, oL + i * 6, none⟩ = some (.string K) := six 0 _ rfl
   have x1 : wr.cell? ⟨gL, oL + i * 6 + 1, none⟩ = some (.int .i64 kk) := six 1 _ rfl
   have x2 : wr.cell? ⟨gL, oL + i * 6 + 2, none⟩ = some (.int .i64 en) := six 2 _ rfl
   have x3 : wr.cell? ⟨gL, oL + i * 6 + 3, none⟩ = some (.slice E1 en1 ec1) := six 3 _ rfl
   have x4 : wr.cell? ⟨gL, oL + i * 6 + 4, none⟩ = some (.slice E2 en2 ec2) := six 4 _ rfl
   have x5 : wr.cell? ⟨gL, oL + i * 6 + 5, none⟩ = some (.slice E3 en3 ec3) := six 5 _ rfl
   obtain ⟨R, hR⟩ : ∃ R, R = putE K.data.toList e.2 (putL (l.take i)) := ⟨_, rfl⟩
   have c57 := fun W (hW : Below wr.heap.size wr W) => ref_withG (w.heap.size + 1) W (by have := hW.size; omega) (w.heap.size + 2) (.slice A3 n3 c3) (putL (l.take i)) rd (hG.below (ena_law _) hW) (by have := hW.size; omega) K e.2 _ (by omega) (hob.kept hW) (by omega) (by rw [hKl]; exact hkl)
   rw [← hR] at c57
   have hT : putL (l.take (i + 1)) = R := by
    rw [List.take_succ_eq_append_getElem hil, hR, hKl, he]
    unfold putL
    rw [List.foldl_append]; rfl
   have hRl : R.length ≤ i + 1 := by rw [hR]; exact Nat.le_trans (with_len _ _ _ _) (by omega)
   have xx := fun W (hW : Below wr.heap.size wr W) => And.intro ((hW.cell (cell_lt x0)).trans x0) (And.intro ((hW.cell (cell_lt x1)).trans x1) (And.intro ((hW.cell (cell_lt x2)).trans x2) (And.intro ((hW.cell (cell_lt x3)).trans x3) (And.intro ((hW.cell (cell_lt x4)).trans x4) ((hW.cell (cell_lt x5)).trans x5)))))
   clear six hcv hob hob0 hus0 x0 x1 x2 x3 x4 x5 hkl hKs hKl hlen hG
   replace c57 := hi_ c57
   replace xx := hi_ xx
   replace hO := hi_ hO
   replace he := hi_ he
   replace hkk := hi_ hkk
   replace hK := hi_ hK
   replace hT := hi_ hT
   replace hR := hi_ hR
   replace hRl := hi_ hRl
   replace hbw := hi_ hbw
   replace hbelow := hi_ hbelow
   replace hzo := hi_ hzo
   go_upto_region 5 with (fail)
   refine wp_lin_tail (by kernel_rfl) [none, none, none, none, none, none, none, none, none, none, none, none, some 0, some 1, some 2, some 3, some 4, some 5, some 6, some 7, none] (fun w' => Below wr.heap.size wr w') (fun w' w'' => Below w'.heap.size w' w'') (GDe wr.heap.size (w.heap.size + 2) (w.heap.size + 1) (.slice A3 n3 c3) gL oL m c i #[.string K, .int .i64 kk, .int .i64 en, .slice E1 en1 ec1, .slice E2 en2 ec2, .slice E3 en3 ec3] R) (by rfl) (by kernel_rfl) 8 _ rfl (by decide) (by kernel_rfl) [1, 6, 4, 4, 5, 6, 8, 8] (by kernel_rfl) ?ahR ?amono (.cons 7 (step_of [] rfl (by kernel_rfl) ?a7) (.cons 6 (step_of [1, 5] rfl (by kernel_rfl) ?a6) (.cons 5 (step_of [4] rfl (by kernel_rfl) ?a5) (.cons 4 (step_of [2, 3] rfl (by kernel_rfl) ?a4) (.cons 3 (step_of [] rfl (by kernel_rfl) ?a3) (.cons 2 (step_of [] rfl (by kernel_rfl) ?a2) (.cons 1 (step_of [0] rfl (by kernel_rfl) ?a1) (.cons 0 (step_of [] rfl (by kernel_rfl) ?a0) (.nil))))))))) ?adone
   case ahR => exact (Below.refl _ _).drew
   case amono => exact GDe_mono
   case a0 =>
    intro x w' hRw hd K9 hK
    simp only [All, GDe] at hd
    simp +decide only [upd, GDe, fillL, if_true, if_false] at hK ⊢
    go_simp
    have hK2 := hK _ _ ⟨hRw, Below.refl _ _, rfl⟩
    exact hK2
   case a1 =>
    intro x w' hRw hd K9 hK
    simp only [All, GDe] at hd
    obtain ⟨e0, _⟩ := hd
    simp +decide only [upd, GDe, fillL, if_true, if_false] at hK ⊢
    have hcc := (hO.out.below hRw hO.out.lt).cell 4
    simp only [e0] at hK ⊢
    go_simp
    have hK2 := hK _ _ ⟨hRw, Below.refl _ _, rfl⟩
    exact hK2
   case a2 =>
    intro x w' hRw hd K9 hK
    simp only [All, GDe] at hd
    simp +decide only [upd, GDe, fillL, if_true, if_false] at hK ⊢
    go_simp
    have hK2 := hK _ _ ⟨hRw, Below.refl _ _, rfl⟩
    exact hK2
   case a3 =>
    intro x w' hRw hd K9 hK
    simp only [All, GDe] at hd
    simp +decide only [upd, GDe, fillL, if_true, if_false] at hK ⊢
    go_simp
    have hK2 := hK _ _ ⟨hRw, Below.refl _ _, rfl⟩
    exact hK2
   case a4 =>
    intro x w' hRw hd K9 hK
    simp only [All, GDe] at hd
    obtain ⟨e3, e4, _⟩ := hd
    simp +decide only [upd, GDe, fillL, if_true, if_false] at hK ⊢
    simp only [e3, e4] at hK ⊢
    go_simp
    have hK2 := hK _ _ ⟨hRw, Below.refl _ _, rfl⟩
    exact hK2
   case a5 =>
    intro x w' hRw hd K9 hK
    simp only [All, GDe] at hd
    obtain ⟨e5, _⟩ := hd
    simp +decide only [upd, GDe, fillL, if_true, if_false] at hK ⊢
    obtain ⟨y0, y1, y2, y3, y4, y5⟩ := xx.out w' hRw
    simp only [e5] at hK ⊢
    go_simp
    have hK2 := hK _ _ ⟨hRw, Below.refl _ _, rfl⟩
    exact hK2
   case a6 =>
    intro x w' hRw hd K9 hK
    simp only [All, GDe] at hd
    obtain ⟨e1, e6, _⟩ := hd
    simp +decide only [upd, GDe, fillL, if_true, if_false] at hK ⊢
    simp only [e1, e6] at hK ⊢
    go_simp
    refine (c57.out w' hRw).mono ?_
    rintro e' w2 ⟨v', rd', rfl, hG2, hq2, hB9⟩
    have hK2 := hK _ _ ⟨bthen hRw hB9, hB9, rd', hG2, fun q hq => Nat.le_trans hRw.size (hq2 q hq)⟩
    exact hK2
   case a7 =>
    intro x w' hRw hd K9 hK
    simp only [All, GDe] at hd
    simp +decide only [upd, GDe, fillL, if_true, if_false] at hK ⊢
    go_simp
    have hK2 := hK _ _ ⟨hRw, Below.refl _ _, rfl⟩
    exact hK2
   case adone =>
    intro x w4 hR2 hG fr hfr
    have e1 := hG 6 (by omega)
    have e4 := hG 7 (by omega)
    simp only [GDe] at e1 e4
    clear hG
    obtain ⟨rd', hG2, hq2⟩ := e1
    obtain ⟨A', n', cc', e5⟩ : ∃ A' n' c', x 6 = .slice A' n' c' := by obtain ⟨A', cc', g', hv', _⟩ := hG2.out (ena_law _) (by omega); exact ⟨_, _, _, hv'⟩
    simp only [fillL] at hfr
    rw [e4, e5] at hfr
    rw [e5] at hG2 hq2
    have hO4 := hO.out.below hR2 hO.out.lt
    have c4' := hO4.cell 4
    have q4' := hO4.frozen 4
    have hz4 := hR2.size
    subst hfr
    have hne : (Value.slice A' n' cc').ownBlock ≠ some (w.heap.size + 1) := fun e => by have := hq2 _ e; omega
    have hgs := set_grown w4 (w.heap.size + 1) 4 (.slice A' n' cc')
    have hO5 := hO4.set_ 4 (.slice A' n' cc')
    have hG5 := RowG.spared hG2 hgs hne
    have hB5 : Below (w.heap.size + 1) W1 (w4.setCell ⟨w.heap.size + 1, 4, none⟩ (.slice A' n' cc')) := (hbelow.out.trans (hR2.mono (by omega))).grown hgs (by omega) (fun q hq => by injection hq with hq; omega)
    have hz5 : w.heap.size + 2 ≤ (w4.setCell ⟨w.heap.size + 1, 4, none⟩ (.slice A' n' cc')).heap.size := by have := hgs.size; omega
    replace hO5 := hi_ hO5
    replace hG5 := hi_ hG5
    replace hB5 := hi_ hB5
    replace hz5 := hi_ hz5
    clear hG2 hq2 hne hgs hO4 e4 hR2 hz4
    go_wp2
    go_roundw
    case rel => exact ⟨i + 1, _, rd', by omega, by go_num, hO5.out, by rw [hT.out]; exact hG5.out, by rw [hT.out]; exact hRl.out, hB5.out, hz5.out⟩
    case measure => simp [RowKit.intOf]; omega
  ·obtain rfl : i = m := by omega
   have hT : l.take i = l := by rw [hm.out, List.take_length]
   rw [hT] at hG
   have hR := hR1.out.below hbelow (by omega)
   have t0 := hO.cell 0
   have t1 := hO.cell 1
   have t2 := hO.cell 2
   have t3 := hO.cell 3
   have t4 := hO.cell 4
   have v0 := hR.frozen 0
   have v1 := hR.frozen 1
   have v2 := hR.frozen 2
   have v3 := hR.frozen 3
   have v4 := hR.frozen 4
   have r0 := hR.cell 0
   have r1 := hR.cell 1
   have r2 := hR.cell 2
   have r3 := hR.cell 3
   have r4 := hR.cell 4
   replace hT := hi_ hT
   replace hR := hi_ hR
   replace hO := hi_ hO
   replace hG := hi_ hG
   replace hlen := hi_ hlen
   replace hbelow := hi_ hbelow
   go_wp2
   obtain ⟨Wf, hWf⟩ : ∃ W, W = ((((wr.setCell ⟨w.heap.size, 0, none⟩ (.int .i64 7)).setCell ⟨w.heap.size, 1, none⟩ (.int .i64 0)).setCell ⟨w.heap.size, 2, none⟩ (.slice none 0 0)).setCell ⟨w.heap.size, 3, none⟩ (.slice none 0 0)).setCell ⟨w.heap.size, 4, none⟩ (.slice A3 n3 c3) := ⟨_, rfl⟩
   rw [← hWf]
   have hI : ObI (w.heap.size + 1) wr.heap.size wr (.mk 7 0 [] [] (putL l)) [.int .i64 7, .int .i64 0, .slice none 0 0, .slice none 0 0, .slice A3 n3 c3] :=
    built (tO := 26) (tE := 53) (tb := 5) (by omega) (by omega) (by omega) (by omega) (Own.nil _ _).row (by simp [maxLen]) (RowG.nil _ _ _ _ _) (RowG.base (B' := w.heap.size + 1) (RowG.en hG.out) (by omega))
   obtain ⟨hbf, hIf, hgf, hz⟩ := put_res (lo := w.heap.size + 1) (hi := wr.heap.size) hR.out hI (by omega) hWf
   have u0 := hbf.cell 0
   have u1 := hbf.cell 1
   have u2 := hbf.cell 2
   have u3 := hbf.cell 3
   have u4 := hbf.cell 4
   have hbw : Below w.heap.size w wr := b1.out.trans (hbelow.out.mono (by omega))
   have hB : Below w.heap.size w Wf := hbw.grown hgf (by omega) (fun q hq => by injection hq with hq; omega)
   replace hB := hi_ hB
   replace hIf := hi_ (hIf.wide (show w.heap.size ≤ w.heap.size + 1 by omega))
   clear hbf hgf hbw hI
   replace hWf := hi_ hWf
   exact bodyPost_ret (by simp [results, Tryz.results24, go_sem, u0, u1, u2, u3, u4]; try rfl) rfl ⟨_, rfl, hIf.out, hB.out⟩
end Go.Proofs.YthacnnmlephkhaaGreatDoor

/- Bytes of entries, by the document's own answer. No condition. -/
namespace Go.Proofs.YthacnnmlephkhaaGreatDoor
open Go Go.RowKit Go.Wk
theorem OwnX.rb {B : Nat} {w : World} {v : Value} {bs : List UInt8} (h : Own B w v bs) : OwnX B w v bs := .inl h

/- Bytes of an object, by the document's own answer. No condition. -/
end Go.Proofs.YthacnnmlephkhaaGreatDoor
